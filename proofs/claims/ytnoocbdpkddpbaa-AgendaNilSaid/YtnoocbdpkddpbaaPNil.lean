/- Functions of the program: each as a plain function of numbers and lists, and the proof that the program's own comes to it. Nothing is assumed but what each theorem says. -/
import Derived.Test.YtnoocbdpkddpbaaGe
namespace Go.Proofs.Ytnoocbdpkddpbaa
open Go.RowKit Go.WG
set_option linter.unusedVariables false
set_option linter.unusedSimpArgs false

/-! ### jurat/juratlaw13.AgendaNil: function 7 -/
def juratlaw13_AgendaNil.f (k : Nat) (a0 : TEntry) : Option Bool := (agenda_Agenda_Next_nil.f k ).bind fun ⟨r6, r7⟩ => (agenda_Agenda_At_nil.f k a0.ID).bind fun ⟨r19, r20⟩ => ((agenda_Agenda_Put_nil.f k a0).bind fun r74 => if r74 = 2 then ((agenda_Agenda_Drop_nil.f k a0.ID).bind fun r79 => if r79 = true then (some false) else (if r7 = true then (some false) else (if r6.At = 0 ∧ r6.ID = 0 then (if r20 = true then (some false) else (if r19 = 0 then ((agenda_Agenda_Due_nil.f k a0.At).bind fun r88 => if (r88.length : Int) = 0 then ((agenda_Agenda_Len_nil.f k ).bind fun r99 => if r99 = 0 then ((juratlaw13_awake.f k ).bind fun r104 => some r104) else (some false)) else (some false)) else (some false))) else (some false)))) else (some false)).bind fun x66 => some x66
set_option maxRecDepth 100000 in
set_option maxHeartbeats 4000000 in
theorem juratlaw13_AgendaNil.calls (k : Nat) (w : World) (F : CH) (a0 : TEntry) (hp : Pre w F [])  (r0_ : Bool) (H : juratlaw13_AgendaNil.f k a0 = some r0_) :
    Calls Try.prog 7 #[.agg (List.toArray [.int .i64 a0.At, .int .i64 a0.ID])] w fun e w' => e = .returned (.bool r0_) ∧ Ctx w F (domL []) w' F [] := by
  have C := Ctx.start hp
  generalize hD : domL [] = D at C ⊢
  unfold juratlaw13_AgendaNil.f at H
  refine Calls.ofW Try.func7 rfl (by simp [Try.ntmps7]) ?_
  refine W.seq ?_
  refine W.region rfl ?_
  obtain ⟨g1, w2, hy3, C4⟩ := ev_box (P := Try.prog) 29 (.agg (List.toArray [.int .i64 a0.At, .int .i64 a0.ID])) [.int .i64 a0.At, .int .i64 a0.ID] C rfl
  refine WL.val (hy3 _ _ _ rfl) ?_
  refine WL.val (Yl.assign (v := .bool false) rfl) ?_
  refine WL.done ?_
  refine W.seq ?_
  refine W.region rfl ?_
  refine WL.val (Yl.assign (v := .pointer none) rfl) ?_
  refine WL.done ?_
  refine W.seq ?_
  refine W.region rfl ?_
  refine WL.val (Yl.move (v := .pointer none) rfl) ?_
  obtain ⟨⟨r6, r7⟩, hg5, H⟩ := bindE H
  refine WL.call (args := #[.pointer none]) (Yenter.fn Try.func19 (by kernel_rfl) rfl (argsE (.cons rfl .nil))) (agenda_Agenda_Next_nil.calls k _ F  (Ctx.pre (qs := []) (rest := [CH.row g1 0 [.int .i64 a0.At, .int .i64 a0.ID]]) C4)  r6 r7 hg5) ?_
  rintro e_ w_ ⟨rfl, C8⟩
  refine ⟨_, rfl, ?_⟩
  have C9 : Ctx _ _ _ _ F [CH.row g1 0 [.int .i64 a0.At, .int .i64 a0.ID]] := Ctx.call (qs := []) (rest := [CH.row g1 0 [.int .i64 a0.At, .int .i64 a0.ID]]) C4 C8
  refine WL.val (Yl.move (v := .tuple #[(.agg (List.toArray [.int .i64 r6.At, .int .i64 r6.ID])), (.bool r7)]) rfl) ?_
  refine WL.val (Yl.extract (v := .agg (List.toArray [.int .i64 r6.At, .int .i64 r6.ID])) rfl rfl) ?_
  refine WL.val (Yl.extract (v := .bool r7) rfl rfl) ?_
  obtain ⟨g10, w11, hy12, C13⟩ := ev_alloc (P := Try.prog) (e := 29) [.int .i64 0, .int .i64 0] C9 zr29 rfl
  refine WL.val (hy12 _ _) ?_
  obtain ⟨w14, hy15, C16⟩ := ev_set (P := Try.prog) (ps1 := []) (ps2 := [CH.row g1 0 [.int .i64 a0.At, .int .i64 a0.ID]]) (t := 29) (o := 0) [.int .i64 0, .int .i64 0] [] [.int .i64 0, .int .i64 0] [] [.int .i64 r6.At, .int .i64 r6.ID] (.agg (List.toArray [.int .i64 r6.At, .int .i64 r6.ID])) C13 rfl rfl rfl rfl (by simp [Value.oneCell']) sz29
  have C17 : Ctx _ _ _ _ F [CH.row g10 0 [.int .i64 r6.At, .int .i64 r6.ID], CH.row g1 0 [.int .i64 a0.At, .int .i64 a0.ID]] := C16
  refine WL.skip (hy15 _ _ _ _ rfl rfl) ?_
  refine WL.val (Yl.assign (v := .bool r7) rfl) ?_
  refine WL.done ?_
  refine W.seq ?_
  refine W.region rfl ?_
  refine WL.val (Yl.move (v := .pointer none) rfl) ?_
  refine WL.val (Yl.fieldAddr (i := 1) rfl Try.underlying29 rfl sz3) ?_
  refine WL.val (Yl.loadV (g := g1) (off := 0) (o := 1) (cs := [.int .i64 a0.At, .int .i64 a0.ID]) (v := .int .i64 a0.ID) rfl Try.underlying3 rfl (Ctx.sub_of [CH.row g10 0 [.int .i64 r6.At, .int .i64 r6.ID]] [] C17) rfl) ?_
  obtain ⟨⟨r19, r20⟩, hg18, H⟩ := bindE H
  refine WL.call (args := #[.pointer none, .int .i64 a0.ID]) (Yenter.fn Try.func17 (by kernel_rfl) rfl (argsE (.cons rfl (.cons rfl .nil)))) (agenda_Agenda_At_nil.calls k _ F a0.ID C17.pre0  r19 r20 hg18) ?_
  rintro e_ w_ ⟨rfl, ⟨m21, rfl⟩⟩
  refine ⟨_, rfl, ?_⟩
  have C22 := Ctx.drewN C17 m21
  refine WL.val (Yl.move (v := .tuple #[(.int .i64 r19), (.bool r20)]) rfl) ?_
  refine WL.val (Yl.extract (v := .int .i64 r19) rfl rfl) ?_
  refine WL.val (Yl.extract (v := .bool r20) rfl rfl) ?_
  refine WL.val (Yl.assign (v := .int .i64 r19) rfl) ?_
  refine WL.val (Yl.assign (v := .bool r20) rfl) ?_
  refine WL.done ?_
  refine W.seq ?_
  obtain ⟨x66, hX68, H⟩ := bindE H
  refine W.cutM (fun env_ w_ => env_ 2 = .bool x66 ∧ Ctx w F D w_ F [CH.row g10 0 [.int .i64 r6.At, .int .i64 r6.ID], CH.row g1 0 [.int .i64 a0.At, .int .i64 a0.ID]]) ?_ ?_
  · skip
    refine W.region rfl ?_
    refine WL.val (Yl.move (v := .pointer none) rfl) ?_
    refine WL.val (Yl.loadVA (g := g1) (off := 0) (o := 0) (cs := [.int .i64 a0.At, .int .i64 a0.ID]) (us := [.int .i64 a0.At, .int .i64 a0.ID]) rfl Try.underlying29 rfl sz29 (Ctx.sub_of [CH.row g10 0 [.int .i64 r6.At, .int .i64 r6.ID]] [] C22) rfl) ?_
    obtain ⟨r74, hg73, hX68⟩ := bindE hX68
    refine WL.call (args := #[.pointer none, .agg (List.toArray [.int .i64 a0.At, .int .i64 a0.ID])]) (Yenter.fn Try.func10 (by kernel_rfl) rfl (argsE (.cons rfl (.cons rfl .nil)))) (agenda_Agenda_Put_nil.calls k _ F a0 (Ctx.pre (qs := []) (rest := [CH.row g10 0 [.int .i64 r6.At, .int .i64 r6.ID], CH.row g1 0 [.int .i64 a0.At, .int .i64 a0.ID]]) C22)  r74 hg73) ?_
    rintro e_ w_ ⟨rfl, C75⟩
    refine ⟨_, rfl, ?_⟩
    have C76 : Ctx _ _ _ _ F [CH.row g10 0 [.int .i64 r6.At, .int .i64 r6.ID], CH.row g1 0 [.int .i64 a0.At, .int .i64 a0.ID]] := Ctx.call (qs := []) (rest := [CH.row g10 0 [.int .i64 r6.At, .int .i64 r6.ID], CH.row g1 0 [.int .i64 a0.At, .int .i64 a0.ID]]) C22 C75
    refine WL.val (Yl.eql (m := r74) (n := 2) (q := decide (r74 = 2)) rfl rfl rfl) ?_
    refine WL.val (Yl.move (v := .bool (decide (r74 = 2))) rfl) ?_
    rcases iteE hX68 with ⟨hc77, hX68⟩ | ⟨hc77, hX68⟩
    · skip
      refine WL.on rfl (congrArg Value.bool (decide_eq_true hc77)) ?_
      refine WL.val (Yl.move (v := .pointer none) rfl) ?_
      refine WL.on rfl (congrArg Value.bool (decide_eq_true hc77)) ?_
      refine WL.val (Yl.fieldAddr (i := 1) rfl Try.underlying29 rfl sz3) ?_
      refine WL.on rfl (congrArg Value.bool (decide_eq_true hc77)) ?_
      refine WL.val (Yl.loadV (g := g1) (off := 0) (o := 1) (cs := [.int .i64 a0.At, .int .i64 a0.ID]) (v := .int .i64 a0.ID) rfl Try.underlying3 rfl (Ctx.sub_of [CH.row g10 0 [.int .i64 r6.At, .int .i64 r6.ID]] [] C76) rfl) ?_
      refine WL.on rfl (congrArg Value.bool (decide_eq_true hc77)) ?_
      obtain ⟨r79, hg78, hX68⟩ := bindE hX68
      refine WL.call (args := #[.pointer none, .int .i64 a0.ID]) (Yenter.fn Try.func15 (by kernel_rfl) rfl (argsE (.cons rfl (.cons rfl .nil)))) (agenda_Agenda_Drop_nil.calls k _ F a0.ID C76.pre0  r79 hg78) ?_
      rintro e_ w_ ⟨rfl, ⟨m80, rfl⟩⟩
      refine ⟨_, rfl, ?_⟩
      have C81 := Ctx.drewN C76 m80
      refine WL.on rfl (congrArg Value.bool (decide_eq_true hc77)) ?_
      refine WL.val (Yl.not (p := r79) (q := !r79) rfl rfl) ?_
      refine WL.val (Yl.pickT (v := .bool (!r79)) (congrArg Value.bool (decide_eq_true hc77)) rfl) ?_
      refine WL.val (Yl.move (v := .bool (!r79)) rfl) ?_
      rcases iteE hX68 with ⟨hc82, hX68⟩ | ⟨hc82, hX68⟩
      · skip
        refine WL.off rfl (congrArg Value.bool (nb_t hc82)) ?_
        refine WL.off rfl (congrArg Value.bool (nb_t hc82)) ?_
        refine WL.val (Yl.pickF (v := .bool false) (congrArg Value.bool (nb_t hc82)) rfl) ?_
        refine WL.val (Yl.move (v := .bool false) rfl) ?_
        refine WL.off rfl rfl ?_
        refine WL.off rfl rfl ?_
        refine WL.off rfl rfl ?_
        refine WL.val (Yl.pickF (v := .bool false) rfl rfl) ?_
        refine WL.val (Yl.move (v := .bool false) rfl) ?_
        refine WL.off rfl rfl ?_
        refine WL.off rfl rfl ?_
        refine WL.val (Yl.pickF (v := .bool false) rfl rfl) ?_
        refine WL.val (Yl.move (v := .bool false) rfl) ?_
        refine WL.off rfl rfl ?_
        refine WL.off rfl rfl ?_
        refine WL.val (Yl.pickF (v := .bool false) rfl rfl) ?_
        refine WL.val (Yl.move (v := .bool false) rfl) ?_
        refine WL.off rfl rfl ?_
        refine WL.off rfl rfl ?_
        refine WL.off rfl rfl ?_
        refine WL.off rfl rfl ?_
        refine WL.off rfl rfl ?_
        refine WL.off rfl rfl ?_
        refine WL.val (Yl.pickF (v := .bool false) rfl rfl) ?_
        refine WL.val (Yl.move (v := .bool false) rfl) ?_
        refine WL.off rfl rfl ?_
        refine WL.off rfl rfl ?_
        refine WL.off rfl rfl ?_
        refine WL.val (Yl.pickF (v := .bool false) rfl rfl) ?_
        refine WL.val (Yl.move (v := .bool false) rfl) ?_
        refine WL.off rfl rfl ?_
        refine WL.val (Yl.pickF (v := .bool false) rfl rfl) ?_
        refine WL.val (Yl.assign (v := .bool false) rfl) ?_
        refine WL.done ?_
        cases hX68
        refine thenE_n ?_
        exact ⟨rfl, C81⟩
      · skip
        refine WL.on rfl (congrArg Value.bool (nb_f hc82)) ?_
        refine WL.val (Yl.move (v := .bool r7) rfl) ?_
        refine WL.on rfl (congrArg Value.bool (nb_f hc82)) ?_
        refine WL.val (Yl.not (p := r7) (q := !r7) rfl rfl) ?_
        refine WL.val (Yl.pickT (v := .bool (!r7)) (congrArg Value.bool (nb_f hc82)) rfl) ?_
        refine WL.val (Yl.move (v := .bool (!r7)) rfl) ?_
        rcases iteE hX68 with ⟨hc83, hX68⟩ | ⟨hc83, hX68⟩
        · skip
          refine WL.off rfl (congrArg Value.bool (nb_t hc83)) ?_
          refine WL.off rfl (congrArg Value.bool (nb_t hc83)) ?_
          refine WL.off rfl (congrArg Value.bool (nb_t hc83)) ?_
          refine WL.val (Yl.pickF (v := .bool false) (congrArg Value.bool (nb_t hc83)) rfl) ?_
          refine WL.val (Yl.move (v := .bool false) rfl) ?_
          refine WL.off rfl rfl ?_
          refine WL.off rfl rfl ?_
          refine WL.val (Yl.pickF (v := .bool false) rfl rfl) ?_
          refine WL.val (Yl.move (v := .bool false) rfl) ?_
          refine WL.off rfl rfl ?_
          refine WL.off rfl rfl ?_
          refine WL.val (Yl.pickF (v := .bool false) rfl rfl) ?_
          refine WL.val (Yl.move (v := .bool false) rfl) ?_
          refine WL.off rfl rfl ?_
          refine WL.off rfl rfl ?_
          refine WL.off rfl rfl ?_
          refine WL.off rfl rfl ?_
          refine WL.off rfl rfl ?_
          refine WL.off rfl rfl ?_
          refine WL.val (Yl.pickF (v := .bool false) rfl rfl) ?_
          refine WL.val (Yl.move (v := .bool false) rfl) ?_
          refine WL.off rfl rfl ?_
          refine WL.off rfl rfl ?_
          refine WL.off rfl rfl ?_
          refine WL.val (Yl.pickF (v := .bool false) rfl rfl) ?_
          refine WL.val (Yl.move (v := .bool false) rfl) ?_
          refine WL.off rfl rfl ?_
          refine WL.val (Yl.pickF (v := .bool false) rfl rfl) ?_
          refine WL.val (Yl.assign (v := .bool false) rfl) ?_
          refine WL.done ?_
          cases hX68
          refine thenE_n ?_
          exact ⟨rfl, C81⟩
        · skip
          refine WL.on rfl (congrArg Value.bool (nb_f hc83)) ?_
          refine WL.val (Yl.loadVA (g := g10) (off := 0) (o := 0) (cs := [.int .i64 r6.At, .int .i64 r6.ID]) (us := [.int .i64 r6.At, .int .i64 r6.ID]) rfl Try.underlying29 rfl sz29 (Ctx.sub_of [] [CH.row g1 0 [.int .i64 a0.At, .int .i64 a0.ID]] C81) rfl) ?_
          refine WL.on rfl (congrArg Value.bool (nb_f hc83)) ?_
          refine WL.val (Yl.build (places := [(0, 1), (1, 1)]) (cs := List.toArray [.int .i64 0, .int .i64 0]) Try.underlying29 zr29 (pl29 _ Try.underlying29) (partsB .nil) rfl) ?_
          refine WL.on rfl (congrArg Value.bool (nb_f hc83)) ?_
          refine WL.val (Yl.aeql (n := 2) (xs := [.int .i64 r6.At, .int .i64 r6.ID]) (ys := [.int .i64 0, .int .i64 0]) rfl rfl eg29 (EqV.struct (n := 1) Try.underlying29 sh29 (EqFs.cons (by decide) (PartE.one Try.underlying3 rfl rfl) (PartE.one Try.underlying3 rfl rfl) (EqV.int Try.underlying3) (EqFs.one (by decide) (PartE.one Try.underlying3 rfl rfl) (PartE.one Try.underlying3 rfl rfl) (EqV.int Try.underlying3)))) (by decide)) ?_
          refine WL.val (Yl.pickT (v := .bool (decide (r6.At = 0 ∧ r6.ID = 0))) (congrArg Value.bool (nb_f hc83)) rfl) ?_
          refine WL.val (Yl.move (v := .bool (decide (r6.At = 0 ∧ r6.ID = 0))) rfl) ?_
          rcases iteE hX68 with ⟨hc84, hX68⟩ | ⟨hc84, hX68⟩
          · skip
            refine WL.on rfl (congrArg Value.bool (decide_eq_true hc84)) ?_
            refine WL.val (Yl.move (v := .bool r20) rfl) ?_
            refine WL.on rfl (congrArg Value.bool (decide_eq_true hc84)) ?_
            refine WL.val (Yl.not (p := r20) (q := !r20) rfl rfl) ?_
            refine WL.val (Yl.pickT (v := .bool (!r20)) (congrArg Value.bool (decide_eq_true hc84)) rfl) ?_
            refine WL.val (Yl.move (v := .bool (!r20)) rfl) ?_
            rcases iteE hX68 with ⟨hc85, hX68⟩ | ⟨hc85, hX68⟩
            · skip
              refine WL.off rfl (congrArg Value.bool (nb_t hc85)) ?_
              refine WL.off rfl (congrArg Value.bool (nb_t hc85)) ?_
              refine WL.val (Yl.pickF (v := .bool false) (congrArg Value.bool (nb_t hc85)) rfl) ?_
              refine WL.val (Yl.move (v := .bool false) rfl) ?_
              refine WL.off rfl rfl ?_
              refine WL.off rfl rfl ?_
              refine WL.off rfl rfl ?_
              refine WL.off rfl rfl ?_
              refine WL.off rfl rfl ?_
              refine WL.off rfl rfl ?_
              refine WL.val (Yl.pickF (v := .bool false) rfl rfl) ?_
              refine WL.val (Yl.move (v := .bool false) rfl) ?_
              refine WL.off rfl rfl ?_
              refine WL.off rfl rfl ?_
              refine WL.off rfl rfl ?_
              refine WL.val (Yl.pickF (v := .bool false) rfl rfl) ?_
              refine WL.val (Yl.move (v := .bool false) rfl) ?_
              refine WL.off rfl rfl ?_
              refine WL.val (Yl.pickF (v := .bool false) rfl rfl) ?_
              refine WL.val (Yl.assign (v := .bool false) rfl) ?_
              refine WL.done ?_
              cases hX68
              refine thenE_n ?_
              exact ⟨rfl, C81⟩
            · skip
              refine WL.on rfl (congrArg Value.bool (nb_f hc85)) ?_
              refine WL.val (Yl.move (v := .int .i64 r19) rfl) ?_
              refine WL.on rfl (congrArg Value.bool (nb_f hc85)) ?_
              refine WL.val (Yl.eql (m := r19) (n := 0) (q := decide (r19 = 0)) rfl rfl rfl) ?_
              refine WL.val (Yl.pickT (v := .bool (decide (r19 = 0))) (congrArg Value.bool (nb_f hc85)) rfl) ?_
              refine WL.val (Yl.move (v := .bool (decide (r19 = 0))) rfl) ?_
              rcases iteE hX68 with ⟨hc86, hX68⟩ | ⟨hc86, hX68⟩
              · skip
                refine WL.on rfl (congrArg Value.bool (decide_eq_true hc86)) ?_
                refine WL.val (Yl.move (v := .pointer none) rfl) ?_
                refine WL.on rfl (congrArg Value.bool (decide_eq_true hc86)) ?_
                refine WL.val (Yl.fieldAddr (i := 0) rfl Try.underlying29 rfl sz3) ?_
                refine WL.on rfl (congrArg Value.bool (decide_eq_true hc86)) ?_
                refine WL.val (Yl.loadV (g := g1) (off := 0) (o := 0) (cs := [.int .i64 a0.At, .int .i64 a0.ID]) (v := .int .i64 a0.At) rfl Try.underlying3 rfl (Ctx.sub_of [CH.row g10 0 [.int .i64 r6.At, .int .i64 r6.ID]] [] C81) rfl) ?_
                refine WL.on rfl (congrArg Value.bool (decide_eq_true hc86)) ?_
                obtain ⟨r88, hg87, hX68⟩ := bindE hX68
                refine WL.call (args := #[.pointer none, .int .i64 a0.At]) (Yenter.fn Try.func11 (by kernel_rfl) rfl (argsE (.cons rfl (.cons rfl .nil)))) (agenda_Agenda_Due_nil.calls k _ F a0.At (Ctx.pre (qs := []) (rest := [CH.row g10 0 [.int .i64 r6.At, .int .i64 r6.ID], CH.row g1 0 [.int .i64 a0.At, .int .i64 a0.ID]]) C81)  r88 hg87) ?_
                rintro e_ w_ ⟨A89, c90, n91, p93, rfl, C95, hn92, hR94⟩
                refine ⟨_, rfl, ?_⟩
                have C96 : Ctx _ _ _ _ F [p93, CH.row g10 0 [.int .i64 r6.At, .int .i64 r6.ID], CH.row g1 0 [.int .i64 a0.At, .int .i64 a0.ID]] := Ctx.call (qs := []) (rest := [CH.row g10 0 [.int .i64 r6.At, .int .i64 r6.ID], CH.row g1 0 [.int .i64 a0.At, .int .i64 a0.ID]]) C81 C95
                refine WL.on rfl (congrArg Value.bool (decide_eq_true hc86)) ?_
                refine WL.val (Yl.lenN (A := A89) (l := n91) (q := c90) (n := (r88.length : Int)) rfl Try.underlying22 (by omega)) ?_
                refine WL.on rfl (congrArg Value.bool (decide_eq_true hc86)) ?_
                refine WL.val (Yl.eql (m := (r88.length : Int)) (n := 0) (q := decide ((r88.length : Int) = 0)) rfl rfl rfl) ?_
                refine WL.val (Yl.pickT (v := .bool (decide ((r88.length : Int) = 0))) (congrArg Value.bool (decide_eq_true hc86)) rfl) ?_
                refine WL.val (Yl.move (v := .bool (decide ((r88.length : Int) = 0))) rfl) ?_
                rcases iteE hX68 with ⟨hc97, hX68⟩ | ⟨hc97, hX68⟩
                · skip
                  refine WL.on rfl (congrArg Value.bool (decide_eq_true hc97)) ?_
                  refine WL.val (Yl.move (v := .pointer none) rfl) ?_
                  refine WL.on rfl (congrArg Value.bool (decide_eq_true hc97)) ?_
                  obtain ⟨r99, hg98, hX68⟩ := bindE hX68
                  refine WL.call (args := #[.pointer none]) (Yenter.fn Try.func12 (by kernel_rfl) rfl (argsE (.cons rfl .nil))) (agenda_Agenda_Len_nil.calls k _ F  C96.pre0  r99 hg98) ?_
                  rintro e_ w_ ⟨rfl, ⟨m100, rfl⟩⟩
                  refine ⟨_, rfl, ?_⟩
                  have C101 := Ctx.drewN C96 m100
                  refine WL.on rfl (congrArg Value.bool (decide_eq_true hc97)) ?_
                  refine WL.val (Yl.eql (m := r99) (n := 0) (q := decide (r99 = 0)) rfl rfl rfl) ?_
                  refine WL.val (Yl.pickT (v := .bool (decide (r99 = 0))) (congrArg Value.bool (decide_eq_true hc97)) rfl) ?_
                  refine WL.val (Yl.move (v := .bool (decide (r99 = 0))) rfl) ?_
                  rcases iteE hX68 with ⟨hc102, hX68⟩ | ⟨hc102, hX68⟩
                  · skip
                    refine WL.on rfl (congrArg Value.bool (decide_eq_true hc102)) ?_
                    obtain ⟨r104, hg103, hX68⟩ := bindE hX68
                    refine WL.call (args := #[]) (Yenter.fn Try.func8 (by kernel_rfl) rfl (argsE .nil)) (juratlaw13_awake.calls k _ F  (Ctx.pre (qs := []) (rest := [p93, CH.row g10 0 [.int .i64 r6.At, .int .i64 r6.ID], CH.row g1 0 [.int .i64 a0.At, .int .i64 a0.ID]]) C101)  r104 hg103) ?_
                    rintro e_ w_ ⟨rfl, C105⟩
                    refine ⟨_, rfl, ?_⟩
                    have C106 : Ctx _ _ _ _ F [p93, CH.row g10 0 [.int .i64 r6.At, .int .i64 r6.ID], CH.row g1 0 [.int .i64 a0.At, .int .i64 a0.ID]] := Ctx.call (qs := []) (rest := [p93, CH.row g10 0 [.int .i64 r6.At, .int .i64 r6.ID], CH.row g1 0 [.int .i64 a0.At, .int .i64 a0.ID]]) C101 C105
                    refine WL.val (Yl.pickT (v := .bool r104) (congrArg Value.bool (decide_eq_true hc102)) rfl) ?_
                    refine WL.val (Yl.assign (v := .bool r104) rfl) ?_
                    refine WL.done ?_
                    have C107 : Ctx _ _ _ _ F [CH.row g10 0 [.int .i64 r6.At, .int .i64 r6.ID], CH.row g1 0 [.int .i64 a0.At, .int .i64 a0.ID]] := Ctx.drop [] [CH.row g10 0 [.int .i64 r6.At, .int .i64 r6.ID], CH.row g1 0 [.int .i64 a0.At, .int .i64 a0.ID]] C106
                    cases hX68
                    refine thenE_n ?_
                    exact ⟨rfl, C107⟩
                  · skip
                    refine WL.off rfl (congrArg Value.bool (decide_eq_false hc102)) ?_
                    refine WL.val (Yl.pickF (v := .bool false) (congrArg Value.bool (decide_eq_false hc102)) rfl) ?_
                    refine WL.val (Yl.assign (v := .bool false) rfl) ?_
                    refine WL.done ?_
                    have C108 : Ctx _ _ _ _ F [CH.row g10 0 [.int .i64 r6.At, .int .i64 r6.ID], CH.row g1 0 [.int .i64 a0.At, .int .i64 a0.ID]] := Ctx.drop [] [CH.row g10 0 [.int .i64 r6.At, .int .i64 r6.ID], CH.row g1 0 [.int .i64 a0.At, .int .i64 a0.ID]] C101
                    cases hX68
                    refine thenE_n ?_
                    exact ⟨rfl, C108⟩
                · skip
                  refine WL.off rfl (congrArg Value.bool (decide_eq_false hc97)) ?_
                  refine WL.off rfl (congrArg Value.bool (decide_eq_false hc97)) ?_
                  refine WL.off rfl (congrArg Value.bool (decide_eq_false hc97)) ?_
                  refine WL.val (Yl.pickF (v := .bool false) (congrArg Value.bool (decide_eq_false hc97)) rfl) ?_
                  refine WL.val (Yl.move (v := .bool false) rfl) ?_
                  refine WL.off rfl rfl ?_
                  refine WL.val (Yl.pickF (v := .bool false) rfl rfl) ?_
                  refine WL.val (Yl.assign (v := .bool false) rfl) ?_
                  refine WL.done ?_
                  have C109 : Ctx _ _ _ _ F [CH.row g10 0 [.int .i64 r6.At, .int .i64 r6.ID], CH.row g1 0 [.int .i64 a0.At, .int .i64 a0.ID]] := Ctx.drop [] [CH.row g10 0 [.int .i64 r6.At, .int .i64 r6.ID], CH.row g1 0 [.int .i64 a0.At, .int .i64 a0.ID]] C96
                  cases hX68
                  refine thenE_n ?_
                  exact ⟨rfl, C109⟩
              · skip
                refine WL.off rfl (congrArg Value.bool (decide_eq_false hc86)) ?_
                refine WL.off rfl (congrArg Value.bool (decide_eq_false hc86)) ?_
                refine WL.off rfl (congrArg Value.bool (decide_eq_false hc86)) ?_
                refine WL.off rfl (congrArg Value.bool (decide_eq_false hc86)) ?_
                refine WL.off rfl (congrArg Value.bool (decide_eq_false hc86)) ?_
                refine WL.off rfl (congrArg Value.bool (decide_eq_false hc86)) ?_
                refine WL.val (Yl.pickF (v := .bool false) (congrArg Value.bool (decide_eq_false hc86)) rfl) ?_
                refine WL.val (Yl.move (v := .bool false) rfl) ?_
                refine WL.off rfl rfl ?_
                refine WL.off rfl rfl ?_
                refine WL.off rfl rfl ?_
                refine WL.val (Yl.pickF (v := .bool false) rfl rfl) ?_
                refine WL.val (Yl.move (v := .bool false) rfl) ?_
                refine WL.off rfl rfl ?_
                refine WL.val (Yl.pickF (v := .bool false) rfl rfl) ?_
                refine WL.val (Yl.assign (v := .bool false) rfl) ?_
                refine WL.done ?_
                cases hX68
                refine thenE_n ?_
                exact ⟨rfl, C81⟩
          · skip
            refine WL.off rfl (congrArg Value.bool (decide_eq_false hc84)) ?_
            refine WL.off rfl (congrArg Value.bool (decide_eq_false hc84)) ?_
            refine WL.val (Yl.pickF (v := .bool false) (congrArg Value.bool (decide_eq_false hc84)) rfl) ?_
            refine WL.val (Yl.move (v := .bool false) rfl) ?_
            refine WL.off rfl rfl ?_
            refine WL.off rfl rfl ?_
            refine WL.val (Yl.pickF (v := .bool false) rfl rfl) ?_
            refine WL.val (Yl.move (v := .bool false) rfl) ?_
            refine WL.off rfl rfl ?_
            refine WL.off rfl rfl ?_
            refine WL.off rfl rfl ?_
            refine WL.off rfl rfl ?_
            refine WL.off rfl rfl ?_
            refine WL.off rfl rfl ?_
            refine WL.val (Yl.pickF (v := .bool false) rfl rfl) ?_
            refine WL.val (Yl.move (v := .bool false) rfl) ?_
            refine WL.off rfl rfl ?_
            refine WL.off rfl rfl ?_
            refine WL.off rfl rfl ?_
            refine WL.val (Yl.pickF (v := .bool false) rfl rfl) ?_
            refine WL.val (Yl.move (v := .bool false) rfl) ?_
            refine WL.off rfl rfl ?_
            refine WL.val (Yl.pickF (v := .bool false) rfl rfl) ?_
            refine WL.val (Yl.assign (v := .bool false) rfl) ?_
            refine WL.done ?_
            cases hX68
            refine thenE_n ?_
            exact ⟨rfl, C81⟩
    · skip
      refine WL.off rfl (congrArg Value.bool (decide_eq_false hc77)) ?_
      refine WL.off rfl (congrArg Value.bool (decide_eq_false hc77)) ?_
      refine WL.off rfl (congrArg Value.bool (decide_eq_false hc77)) ?_
      refine WL.off rfl (congrArg Value.bool (decide_eq_false hc77)) ?_
      refine WL.off rfl (congrArg Value.bool (decide_eq_false hc77)) ?_
      refine WL.val (Yl.pickF (v := .bool false) (congrArg Value.bool (decide_eq_false hc77)) rfl) ?_
      refine WL.val (Yl.move (v := .bool false) rfl) ?_
      refine WL.off rfl rfl ?_
      refine WL.off rfl rfl ?_
      refine WL.val (Yl.pickF (v := .bool false) rfl rfl) ?_
      refine WL.val (Yl.move (v := .bool false) rfl) ?_
      refine WL.off rfl rfl ?_
      refine WL.off rfl rfl ?_
      refine WL.off rfl rfl ?_
      refine WL.val (Yl.pickF (v := .bool false) rfl rfl) ?_
      refine WL.val (Yl.move (v := .bool false) rfl) ?_
      refine WL.off rfl rfl ?_
      refine WL.off rfl rfl ?_
      refine WL.val (Yl.pickF (v := .bool false) rfl rfl) ?_
      refine WL.val (Yl.move (v := .bool false) rfl) ?_
      refine WL.off rfl rfl ?_
      refine WL.off rfl rfl ?_
      refine WL.val (Yl.pickF (v := .bool false) rfl rfl) ?_
      refine WL.val (Yl.move (v := .bool false) rfl) ?_
      refine WL.off rfl rfl ?_
      refine WL.off rfl rfl ?_
      refine WL.off rfl rfl ?_
      refine WL.off rfl rfl ?_
      refine WL.off rfl rfl ?_
      refine WL.off rfl rfl ?_
      refine WL.val (Yl.pickF (v := .bool false) rfl rfl) ?_
      refine WL.val (Yl.move (v := .bool false) rfl) ?_
      refine WL.off rfl rfl ?_
      refine WL.off rfl rfl ?_
      refine WL.off rfl rfl ?_
      refine WL.val (Yl.pickF (v := .bool false) rfl rfl) ?_
      refine WL.val (Yl.move (v := .bool false) rfl) ?_
      refine WL.off rfl rfl ?_
      refine WL.val (Yl.pickF (v := .bool false) rfl rfl) ?_
      refine WL.val (Yl.assign (v := .bool false) rfl) ?_
      refine WL.done ?_
      cases hX68
      refine thenE_n ?_
      exact ⟨rfl, C76⟩
  · skip
    rintro env_ w_ ⟨ho65, C67⟩
    refine W.ret ?_
    have C110 : Ctx _ _ _ _ F [CH.row g1 0 [.int .i64 a0.At, .int .i64 a0.ID]] := Ctx.drop [] [CH.row g1 0 [.int .i64 a0.At, .int .i64 a0.ID]] C67
    have C111 : Ctx _ _ _ _ F [] := Ctx.drop [] [] C110
    cases H
    exact post_r (resE1 rfl ho65) ⟨rfl, C111⟩
end Go.Proofs.Ytnoocbdpkddpbaa
