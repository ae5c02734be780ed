/- Functions of the program: each as a plain function of numbers and lists, and the proof that the program's own comes to it. Nothing is assumed but what each theorem says. -/
import Derived.Test.YtnoocbdpkddpbaaGb
namespace Go.Proofs.Ytnoocbdpkddpbaa
open Go.RowKit Go.WG
set_option linter.unusedVariables false
set_option linter.unusedSimpArgs false

/-! ### jurat/agenda.New: function 9 -/
def agenda_New.f (k : Nat)  : Option TAgenda := some (⟨(⟨([] : List TEntry), ([] : List (Int × Int))⟩ : Tqueue)⟩ : TAgenda)
set_option maxRecDepth 100000 in
set_option maxHeartbeats 4000000 in
theorem agenda_New.calls (k : Nat) (w : World) (F : CH)  (hp : Pre w F [])  (r0_ : TAgenda) (H : agenda_New.f k  = some r0_) :
    Calls Try.prog 9 #[] w fun e w' => ∃ (g13 : Nat) (o14 : Nat) (A15 : Option Addr) (c16 : Nat) (n17 : Nat) (p19 : CH) (g21 : Nat) (p22 : CH), e = .returned (.pointer (some ⟨g13, o14, none⟩)) ∧ Ctx w F (domL []) w' F [CH.row g13 o14 [.slice A15 n17 c16, .map (some g21)], p19, p22] ∧ n17 = r0_.q.l.length ∧ Row TEntry.K F p19 (.slice A15 n17 c16) r0_.q.l ∧ MRow (Value.int .i64) (Value.int .i64) p22 g21 r0_.q.place := by
  have C := Ctx.start hp
  generalize hD : domL [] = D at C ⊢
  unfold agenda_New.f at H
  refine Calls.ofW Try.func9 rfl (by simp [Try.ntmps9]) ?_
  refine W.seq ?_
  refine W.region rfl ?_
  refine WL.val (Yl.assign (v := .pointer none) rfl) ?_
  refine WL.done ?_
  refine W.seq ?_
  refine W.region rfl ?_
  obtain ⟨g1, p2, w3, hy4, C5, hM6⟩ := ev_makeMap (P := Try.prog) (α := Int) (β := Int) (t := 49) (Value.int .i64) (Value.int .i64) C
  refine WL.val (hy4 _ _) ?_
  refine WL.val (Yl.build (places := [(0, 1), (1, 1)]) (cs := List.toArray [.slice none 0 0, .map (some g1)]) Try.underlying51 zr51 (pl51 _ Try.underlying51) (partsB (.cons rfl .nil)) rfl) ?_
  refine WL.val (Yl.build (places := [(0, 2)]) (cs := List.toArray [.slice none 0 0, .map (some g1)]) Try.underlying53 zr53 (pl53 _ Try.underlying53) (partsB (.cons rfl .nil)) rfl) ?_
  obtain ⟨g7, w8, hy9, C10⟩ := ev_box (P := Try.prog) 53 (.agg (List.toArray [.slice none 0 0, .map (some g1)])) [.slice none 0 0, .map (some g1)] C5 rfl
  refine WL.val (hy9 _ _ _ rfl) ?_
  refine WL.val (Yl.assign (v := .pointer (some ⟨g7, 0, none⟩)) rfl) ?_
  refine WL.done ?_
  refine W.ret ?_
  have C11 : Ctx _ _ _ _ F [CH.emp, CH.row g7 0 [.slice none 0 0, .map (some g1)], p2] := Ctx.emp C10
  have C12 : Ctx _ _ _ _ F [CH.row g7 0 [.slice none 0 0, .map (some g1)], CH.emp, p2] := Ctx.swap [] [p2] C11
  cases H
  exact post_r (resE1 rfl rfl) ⟨g7, 0, none, 0, 0, CH.emp, g1, p2, rfl, C12, rfl, (Row.nil _ _), hM6⟩
/-! ### (*jurat/agenda.Agenda).Len: function 12 -/
def agenda_Agenda_Len.f (k : Nat) (a0 : TAgenda) : Option Int := (agenda_queue_Len.f k a0.q).bind fun r16 => some r16
set_option maxRecDepth 100000 in
set_option maxHeartbeats 4000000 in
theorem agenda_Agenda_Len.calls (k : Nat) (w : World) (F : CH) (g1 : Nat) (o2 : Nat) (A3 : Option Addr) (c4 : Nat) (n5 : Nat) (g10 : Nat) (p11 : CH) (a0 : TAgenda) (hp : Pre w F []) (hn6 : n5 = a0.q.l.length) (hl7 : a0.q.l.length ≤ c4) (hm8 : c4 ≤ maxLen) (hS9 : Sl TEntry.K F F A3 a0.q.l) (hM12 : MRow (Value.int .i64) (Value.int .i64) p11 g10 a0.q.place) (hg13 : CH.le p11 F) (hg14 : CH.le (CH.row g1 o2 [.slice A3 n5 c4, .map (some g10)]) F) (r0_ : Int) (H : agenda_Agenda_Len.f k a0 = some r0_) :
    Calls Try.prog 12 #[.pointer (some ⟨g1, o2, none⟩)] w fun e w' => e = .returned (.int .i64 r0_) ∧ (∃ n_, w' = w.drewN n_) := by
  have C := Ctx.start hp
  generalize domL [] = D at C
  have W0 : ∃ n_, w = w.drewN n_ := ⟨0, rfl⟩
  unfold agenda_Agenda_Len.f at H
  refine Calls.ofW Try.func12 rfl (by simp [Try.ntmps12]) ?_
  refine W.seq ?_
  refine W.region rfl ?_
  refine WL.val (Yl.assign (v := .int .i64 0) rfl) ?_
  refine WL.done ?_
  refine W.seq ?_
  refine W.seq ?_
  refine W.region rfl ?_
  refine WL.val (Yl.move (v := .pointer (some ⟨g1, o2, none⟩)) rfl) ?_
  refine WL.val (Yl.ptrEqSN rfl rfl Try.underlying24) ?_
  refine WL.done ?_
  refine W.condF rfl ?_
  refine W.skip ?_
  refine W.seq ?_
  refine W.region rfl ?_
  refine WL.val (Yl.move (v := .pointer (some ⟨g1, o2, none⟩)) rfl) ?_
  refine WL.val (Yl.nilCheck rfl) ?_
  refine WL.val (Yl.fieldAddr (i := 0) rfl Try.underlying53 rfl sz51) ?_
  obtain ⟨r16, hg15, H⟩ := bindE H
  refine WL.call (args := #[.pointer (some ⟨g1, o2 + 0, none⟩)]) (Yenter.fn Try.func23 (by kernel_rfl) rfl (argsE (.cons rfl .nil))) (agenda_queue_Len.calls k _ F g1 o2 A3 c4 n5 g10 p11 a0.q C.pre0 hn6 hl7 hm8 hS9 hM12 (CH.le_trans hg13 (CH.le_trans (CH.le_refl _) (CH.le_refl _))) (CH.le_trans hg14 (CH.le_trans (CH.le_refl _) (CH.le_refl _))) r16 hg15) ?_
  rintro e_ w_ ⟨rfl, ⟨m17, rfl⟩⟩
  refine ⟨_, rfl, ?_⟩
  have C18 := Ctx.drewN C m17
  have Wq19 := drew_more W0 m17
  refine WL.val (Yl.assign (v := .int .i64 r16) rfl) ?_
  refine WL.done ?_
  refine W.ret ?_
  cases H
  exact post_r (resE1 rfl rfl) ⟨rfl, Wq19⟩
/-! ### (*jurat/agenda.Agenda).Next: function 19 -/
def agenda_Agenda_Next.f (k : Nat) (a0 : TAgenda) : Option (TEntry × Bool) := (agenda_queue_Len.f k a0.q).bind fun r24 => if r24 = 0 then (some ((⟨0, 0⟩ : TEntry), false)) else (if 0 ≤ 0 ∧ 0 < (a0.q.l.length : Int) then (some (a0.q.l.getD (0 : Int).toNat TEntry.z, true)) else none)
set_option maxRecDepth 100000 in
set_option maxHeartbeats 4000000 in
theorem agenda_Agenda_Next.calls (k : Nat) (w : World) (F : CH) (g1 : Nat) (o2 : Nat) (A3 : Option Addr) (c4 : Nat) (n5 : Nat) (g10 : Nat) (p11 : CH) (a0 : TAgenda) (hp : Pre w F []) (hn6 : n5 = a0.q.l.length) (hl7 : a0.q.l.length ≤ c4) (hm8 : c4 ≤ maxLen) (hS9 : Sl TEntry.K F F A3 a0.q.l) (hM12 : MRow (Value.int .i64) (Value.int .i64) p11 g10 a0.q.place) (hg13 : CH.le p11 F) (hg14 : CH.le (CH.row g1 o2 [.slice A3 n5 c4, .map (some g10)]) F) (r0_ : TEntry) (r1_ : Bool) (H : agenda_Agenda_Next.f k a0 = some (r0_, r1_)) :
    Calls Try.prog 19 #[.pointer (some ⟨g1, o2, none⟩)] w fun e w' => e = .returned (.tuple #[(.agg (List.toArray [.int .i64 r0_.At, .int .i64 r0_.ID])), (.bool r1_)]) ∧ Ctx w F (domL []) w' F [] := by
  have C := Ctx.start hp
  generalize hD : domL [] = D at C ⊢
  unfold agenda_Agenda_Next.f at H
  refine Calls.ofW Try.func19 rfl (by simp [Try.ntmps19]) ?_
  refine W.seq ?_
  refine W.region rfl ?_
  obtain ⟨g15, w16, hy17, C18⟩ := ev_alloc (P := Try.prog) (e := 29) [.int .i64 0, .int .i64 0] C zr29 rfl
  refine WL.val (hy17 _ _) ?_
  refine WL.val (Yl.assign (v := .bool false) rfl) ?_
  refine WL.done ?_
  refine W.seq ?_
  refine W.seq ?_
  refine W.region rfl ?_
  refine WL.val (Yl.move (v := .pointer (some ⟨g1, o2, none⟩)) rfl) ?_
  refine WL.val (Yl.ptrEqSN rfl rfl Try.underlying24) ?_
  refine WL.val (Yl.move (v := .bool false) rfl) ?_
  refine WL.on rfl rfl ?_
  refine WL.val (Yl.move (v := .pointer (some ⟨g1, o2, none⟩)) rfl) ?_
  refine WL.on rfl rfl ?_
  refine WL.val (Yl.nilCheck rfl) ?_
  refine WL.on rfl rfl ?_
  refine WL.val (Yl.fieldAddr (i := 0) rfl Try.underlying53 rfl sz51) ?_
  refine WL.on rfl rfl ?_
  obtain ⟨r24, hg23, H⟩ := bindE H
  refine WL.call (args := #[.pointer (some ⟨g1, o2 + 0, none⟩)]) (Yenter.fn Try.func23 (by kernel_rfl) rfl (argsE (.cons rfl .nil))) (agenda_queue_Len.calls k _ F g1 o2 A3 c4 n5 g10 p11 a0.q C18.pre0 hn6 hl7 hm8 hS9 hM12 (CH.le_trans hg13 (CH.le_trans (CH.le_refl _) (CH.le_refl _))) (CH.le_trans hg14 (CH.le_trans (CH.le_refl _) (CH.le_refl _))) r24 hg23) ?_
  rintro e_ w_ ⟨rfl, ⟨m25, rfl⟩⟩
  refine ⟨_, rfl, ?_⟩
  have C26 := Ctx.drewN C18 m25
  refine WL.on rfl rfl ?_
  refine WL.val (Yl.eql (m := r24) (n := 0) (q := decide (r24 = 0)) rfl rfl rfl) ?_
  refine WL.val (Yl.pickF (v := .bool (decide (r24 = 0))) rfl rfl) ?_
  refine WL.done ?_
  rcases iteE H with ⟨hc27, H⟩ | ⟨hc27, H⟩
  · skip
    refine W.condT (congrArg Value.bool (decide_eq_true hc27)) ?_
    refine W.seq ?_
    refine W.region rfl ?_
    refine WL.val (Yl.build (places := [(0, 1), (1, 1)]) (cs := List.toArray [.int .i64 0, .int .i64 0]) Try.underlying29 zr29 (pl29 _ Try.underlying29) (partsB .nil) rfl) ?_
    obtain ⟨w28, hy29, C30⟩ := ev_set (P := Try.prog) (ps1 := []) (ps2 := []) (t := 29) (o := 0) [.int .i64 0, .int .i64 0] [] [.int .i64 0, .int .i64 0] [] [.int .i64 0, .int .i64 0] (.agg (List.toArray [.int .i64 0, .int .i64 0])) C26 rfl rfl rfl rfl (by simp [Value.oneCell']) sz29
    have C31 : Ctx _ _ _ _ F [CH.row g15 0 [.int .i64 0, .int .i64 0]] := C30
    refine WL.skip (hy29 _ _ _ _ rfl rfl) ?_
    refine WL.val (Yl.assign (v := .bool false) rfl) ?_
    refine WL.done ?_
    refine W.ret ?_
    refine thenE_r ?_
    have C32 : Ctx _ _ _ _ F [] := Ctx.drop [] [] C31
    cases H
    exact post_r (resET rfl ((.cell rfl (run_loadVA2 (g := g15) (off := 0) (o := 0) (cs := [.int .i64 0, .int .i64 0]) (us := [.int .i64 0, .int .i64 0]) Try.underlying29 rfl sz29 (Ctx.sub_of [] [] C31) rfl) (.tmp rfl .nil))) rfl) ⟨rfl, C32⟩
  · skip
    refine W.condF (congrArg Value.bool (decide_eq_false hc27)) ?_
    refine W.skip ?_
    refine W.seq ?_
    refine W.region rfl ?_
    refine WL.val (Yl.move (v := .pointer (some ⟨g1, o2, none⟩)) rfl) ?_
    refine WL.val (Yl.nilCheck rfl) ?_
    refine WL.val (Yl.fieldAddr (i := 0) rfl Try.underlying53 rfl sz51) ?_
    refine WL.val (Yl.fieldAddr (i := 0) rfl Try.underlying51 rfl sz22) ?_
    refine WL.val (Yl.loadV (g := g1) (off := o2) (o := 0) (cs := [.slice A3 n5 c4, .map (some g10)]) (v := .slice A3 n5 c4) rfl Try.underlying22 rfl (Sub.mono (C26.fro) hg14) rfl) ?_
    obtain ⟨hc33, H⟩ := guardE H
    obtain ⟨b34, of35, hA36, he37⟩ := hS9 (by omega)
    refine WL.val (Yl.elemAddr (i := 0) rfl rfl hA36 Try.underlying22 sz29 (by omega)) ?_
    obtain ⟨cs38, hr39, hx40⟩ := he37 (0 : Int).toNat _ (getD_some (d := TEntry.z) (by omega))
    obtain ⟨rfl⟩ := TEntry.open hr39
    refine WL.val (Yl.loadAgg (cs := [.int .i64 ((a0.q.l.getD (0 : Int).toNat TEntry.z).At), .int .i64 ((a0.q.l.getD (0 : Int).toNat TEntry.z).ID)]) rfl Try.underlying29 rfl sz29 (fun j u hu => by rw [add_of]; exact ((C26.fro)).cell (hx40 _ _ hu))) ?_
    obtain ⟨w41, hy42, C43⟩ := ev_set (P := Try.prog) (ps1 := []) (ps2 := []) (t := 29) (o := 0) [.int .i64 0, .int .i64 0] [] [.int .i64 0, .int .i64 0] [] [.int .i64 ((a0.q.l.getD (0 : Int).toNat TEntry.z).At), .int .i64 ((a0.q.l.getD (0 : Int).toNat TEntry.z).ID)] (.agg (List.toArray [.int .i64 ((a0.q.l.getD (0 : Int).toNat TEntry.z).At), .int .i64 ((a0.q.l.getD (0 : Int).toNat TEntry.z).ID)])) C26 rfl rfl rfl rfl (by simp [Value.oneCell']) sz29
    have C44 : Ctx _ _ _ _ F [CH.row g15 0 [.int .i64 ((a0.q.l.getD (0 : Int).toNat TEntry.z).At), .int .i64 ((a0.q.l.getD (0 : Int).toNat TEntry.z).ID)]] := C43
    refine WL.skip (hy42 _ _ _ _ rfl rfl) ?_
    refine WL.val (Yl.assign (v := .bool true) rfl) ?_
    refine WL.done ?_
    refine W.ret ?_
    have C45 : Ctx _ _ _ _ F [] := Ctx.drop [] [] C44
    cases H
    exact post_r (resET rfl ((.cell rfl (run_loadVA2 (g := g15) (off := 0) (o := 0) (cs := [.int .i64 ((a0.q.l.getD (0 : Int).toNat TEntry.z).At), .int .i64 ((a0.q.l.getD (0 : Int).toNat TEntry.z).ID)]) (us := [.int .i64 ((a0.q.l.getD (0 : Int).toNat TEntry.z).At), .int .i64 ((a0.q.l.getD (0 : Int).toNat TEntry.z).ID)]) Try.underlying29 rfl sz29 (Ctx.sub_of [] [] C44) rfl) (.tmp rfl .nil))) rfl) ⟨rfl, C45⟩
/-! ### (*jurat/agenda.Agenda).At: function 17 -/
def agenda_Agenda_At.f (k : Nat) (a0 : TAgenda) (a1 : Int) : Option (Int × Bool) := if ((mget a0.q.place a1).isSome) = true then (if 0 ≤ ((mget a0.q.place a1).getD 0) ∧ ((mget a0.q.place a1).getD 0) < (a0.q.l.length : Int) then (some ((a0.q.l.getD ((mget a0.q.place a1).getD 0).toNat TEntry.z).At, true)) else none) else (some (0, false))
set_option maxRecDepth 100000 in
set_option maxHeartbeats 4000000 in
theorem agenda_Agenda_At.calls (k : Nat) (w : World) (F : CH) (g1 : Nat) (o2 : Nat) (A3 : Option Addr) (c4 : Nat) (n5 : Nat) (g10 : Nat) (p11 : CH) (a0 : TAgenda) (a1 : Int) (hp : Pre w F []) (hn6 : n5 = a0.q.l.length) (hl7 : a0.q.l.length ≤ c4) (hm8 : c4 ≤ maxLen) (hS9 : Sl TEntry.K F F A3 a0.q.l) (hM12 : MRow (Value.int .i64) (Value.int .i64) p11 g10 a0.q.place) (hg13 : CH.le p11 F) (hg14 : CH.le (CH.row g1 o2 [.slice A3 n5 c4, .map (some g10)]) F) (r0_ : Int) (r1_ : Bool) (H : agenda_Agenda_At.f k a0 a1 = some (r0_, r1_)) :
    Calls Try.prog 17 #[.pointer (some ⟨g1, o2, none⟩), .int .i64 a1] w fun e w' => e = .returned (.tuple #[(.int .i64 r0_), (.bool r1_)]) ∧ (∃ n_, w' = w.drewN n_) := by
  have C := Ctx.start hp
  generalize domL [] = D at C
  have W0 : ∃ n_, w = w.drewN n_ := ⟨0, rfl⟩
  unfold agenda_Agenda_At.f at H
  refine Calls.ofW Try.func17 rfl (by simp [Try.ntmps17]) ?_
  refine W.seq ?_
  refine W.region rfl ?_
  refine WL.val (Yl.assign (v := .int .i64 0) rfl) ?_
  refine WL.val (Yl.assign (v := .bool false) rfl) ?_
  refine WL.done ?_
  refine W.seq ?_
  refine W.seq ?_
  refine W.region rfl ?_
  refine WL.val (Yl.move (v := .pointer (some ⟨g1, o2, none⟩)) rfl) ?_
  refine WL.val (Yl.ptrEqSN rfl rfl Try.underlying24) ?_
  refine WL.done ?_
  refine W.condF rfl ?_
  refine W.skip ?_
  refine W.seq ?_
  refine W.region rfl ?_
  refine WL.val (Yl.move (v := .pointer (some ⟨g1, o2, none⟩)) rfl) ?_
  refine WL.val (Yl.nilCheck rfl) ?_
  refine WL.val (Yl.fieldAddr (i := 0) rfl Try.underlying53 rfl sz51) ?_
  refine WL.val (Yl.fieldAddr (i := 1) rfl Try.underlying51 rfl sz49) ?_
  refine WL.val (Yl.loadV (g := g1) (off := o2) (o := 1) (cs := [.slice A3 n5 c4, .map (some g10)]) (v := .map (some g10)) rfl Try.underlying49 rfl (Sub.mono (C.fro) hg14) rfl) ?_
  refine WL.val (Yl.move (v := .int .i64 a1) rfl) ?_
  refine WL.val (Yl.lookup (v := .tuple #[(.int .i64 ((mget a0.q.place a1).getD 0)), (.bool ((mget a0.q.place a1).isSome))]) hM12 (Sub.mono (C.fro) hg13) Try.underlying49 Try.underlying3 rfl (keyInt .i64) zr3 a1 rfl rfl (by cases (mget a0.q.place a1) <;> rfl)) ?_
  refine WL.val (Yl.move (v := .tuple #[(.int .i64 ((mget a0.q.place a1).getD 0)), (.bool ((mget a0.q.place a1).isSome))]) rfl) ?_
  refine WL.val (Yl.extract (v := .int .i64 ((mget a0.q.place a1).getD 0)) rfl rfl) ?_
  refine WL.val (Yl.extract (v := .bool ((mget a0.q.place a1).isSome)) rfl rfl) ?_
  refine WL.val (Yl.assign (v := .int .i64 ((mget a0.q.place a1).getD 0)) rfl) ?_
  refine WL.val (Yl.assign (v := .bool ((mget a0.q.place a1).isSome)) rfl) ?_
  refine WL.done ?_
  refine W.seq ?_
  refine W.seq ?_
  refine W.region rfl ?_
  refine WL.val (Yl.move (v := .bool ((mget a0.q.place a1).isSome)) rfl) ?_
  refine WL.val (Yl.not (p := (mget a0.q.place a1).isSome) (q := !((mget a0.q.place a1).isSome)) rfl rfl) ?_
  refine WL.done ?_
  rcases iteE H with ⟨hc15, H⟩ | ⟨hc15, H⟩
  · skip
    refine W.condF (congrArg Value.bool (nb_t hc15)) ?_
    refine W.skip ?_
    refine W.seq ?_
    refine W.region rfl ?_
    refine WL.val (Yl.move (v := .pointer (some ⟨g1, o2, none⟩)) rfl) ?_
    refine WL.val (Yl.nilCheck rfl) ?_
    refine WL.val (Yl.fieldAddr (i := 0) rfl Try.underlying53 rfl sz51) ?_
    refine WL.val (Yl.fieldAddr (i := 0) rfl Try.underlying51 rfl sz22) ?_
    refine WL.val (Yl.loadV (g := g1) (off := o2) (o := 0) (cs := [.slice A3 n5 c4, .map (some g10)]) (v := .slice A3 n5 c4) rfl Try.underlying22 rfl (Sub.mono (C.fro) hg14) rfl) ?_
    refine WL.val (Yl.move (v := .int .i64 ((mget a0.q.place a1).getD 0)) rfl) ?_
    obtain ⟨hc16, H⟩ := guardE H
    obtain ⟨b17, of18, hA19, he20⟩ := hS9 (by omega)
    refine WL.val (Yl.elemAddr (i := (mget a0.q.place a1).getD 0) rfl rfl hA19 Try.underlying22 sz29 (by omega)) ?_
    refine WL.val (Yl.fieldAddr (i := 0) rfl Try.underlying29 rfl sz3) ?_
    obtain ⟨cs21, hr22, hx23⟩ := he20 ((mget a0.q.place a1).getD 0).toNat _ (getD_some (d := TEntry.z) (by omega))
    obtain ⟨rfl⟩ := TEntry.open hr22
    refine WL.val (Yl.load (v := .int .i64 ((a0.q.l.getD ((mget a0.q.place a1).getD 0).toNat TEntry.z).At)) rfl Try.underlying3 rfl (((C.fro)).cell (hx23 0 _ rfl))) ?_
    refine WL.val (Yl.assign (v := .int .i64 ((a0.q.l.getD ((mget a0.q.place a1).getD 0).toNat TEntry.z).At)) rfl) ?_
    refine WL.val (Yl.assign (v := .bool true) rfl) ?_
    refine WL.done ?_
    refine W.ret ?_
    cases H
    exact post_r (resE2 rfl rfl rfl) ⟨rfl, W0⟩
  · skip
    refine W.condT (congrArg Value.bool (nb_f hc15)) ?_
    refine W.seq ?_
    refine W.region rfl ?_
    refine WL.val (Yl.assign (v := .int .i64 0) rfl) ?_
    refine WL.val (Yl.assign (v := .bool false) rfl) ?_
    refine WL.done ?_
    refine W.ret ?_
    refine thenE_r ?_
    cases H
    exact post_r (resE2 rfl rfl rfl) ⟨rfl, W0⟩
/-! ### (*jurat/agenda.Agenda).Put: function 10 -/
def agenda_Agenda_Put.f (k : Nat) (a0 : TAgenda) (a1 : TEntry) : Option (Int × TAgenda) := if ((mget a0.q.place a1.ID).isSome) = true then (if 0 ≤ ((mget a0.q.place a1.ID).getD 0) ∧ ((mget a0.q.place a1.ID).getD 0) < (a0.q.l.length : Int) then ((heap_Fix.f k (⟨a0.q.l.set ((mget a0.q.place a1.ID).getD 0).toNat ({ a0.q.l.getD ((mget a0.q.place a1.ID).getD 0).toNat TEntry.z with At := a1.At }), a0.q.place⟩ : Tqueue) ((mget a0.q.place a1.ID).getD 0)).bind fun r49 => some (0, (⟨r49⟩ : TAgenda))) else none) else ((agenda_queue_Len.f k a0.q).bind fun r72 => if r72 ≥ 4096 then (some (90, a0)) else ((heap_Push.f k a0.q a1).bind fun r98 => some (0, (⟨r98⟩ : TAgenda))))
set_option maxRecDepth 100000 in
set_option maxHeartbeats 4000000 in
theorem agenda_Agenda_Put.calls (k : Nat) (w : World) (F : CH) (g1 : Nat) (o2 : Nat) (A3 : Option Addr) (c4 : Nat) (n5 : Nat) (p7 : CH) (g9 : Nat) (p10 : CH) (a0 : TAgenda) (a1 : TEntry) (hp : Pre w F [CH.row g1 o2 [.slice A3 n5 c4, .map (some g9)], p7, p10]) (hn6 : n5 = a0.q.l.length) (hR8 : Row TEntry.K F p7 (.slice A3 n5 c4) a0.q.l) (hM11 : MRow (Value.int .i64) (Value.int .i64) p10 g9 a0.q.place) (r0_ : Int) (r1_ : TAgenda) (H : agenda_Agenda_Put.f k a0 a1 = some (r0_, r1_)) :
    Calls Try.prog 10 #[.pointer (some ⟨g1, o2, none⟩), .agg (List.toArray [.int .i64 a1.At, .int .i64 a1.ID])] w fun e w' => ∃ (A111 : Option Addr) (c112 : Nat) (n113 : Nat) (p115 : CH) (g117 : Nat) (p118 : CH), e = .returned (.int .i64 r0_) ∧ Ctx w F (domL [CH.row g1 o2 [.slice A3 n5 c4, .map (some g9)], p7, p10]) w' F [CH.row g1 o2 [.slice A111 n113 c112, .map (some g117)], p115, p118] ∧ n113 = r1_.q.l.length ∧ Row TEntry.K F p115 (.slice A111 n113 c112) r1_.q.l ∧ MRow (Value.int .i64) (Value.int .i64) p118 g117 r1_.q.place := by
  have C := Ctx.start hp
  generalize hD : domL [CH.row g1 o2 [.slice A3 n5 c4, .map (some g9)], p7, p10] = D at C ⊢
  unfold agenda_Agenda_Put.f at H
  refine Calls.ofW Try.func10 rfl (by simp [Try.ntmps10]) ?_
  refine W.seq ?_
  refine W.region rfl ?_
  obtain ⟨g12, w13, hy14, C15⟩ := ev_box (P := Try.prog) 29 (.agg (List.toArray [.int .i64 a1.At, .int .i64 a1.ID])) [.int .i64 a1.At, .int .i64 a1.ID] C rfl
  refine WL.val (hy14 _ _ _ rfl) ?_
  refine WL.val (Yl.assign (v := .int .i64 0) rfl) ?_
  refine WL.done ?_
  refine W.seq ?_
  refine W.seq ?_
  refine W.region rfl ?_
  refine WL.val (Yl.move (v := .pointer (some ⟨g1, o2, none⟩)) rfl) ?_
  refine WL.val (Yl.ptrEqSN rfl rfl Try.underlying24) ?_
  refine WL.done ?_
  refine W.condF rfl ?_
  refine W.skip ?_
  refine W.seq ?_
  refine W.seq ?_
  refine W.regionA [([], CH.row g1 o2 [.slice A3 n5 c4, .map (some g9)]), ([], CH.row g12 0 [.int .i64 a1.At, .int .i64 a1.ID]), ([], p10)] (by kernel_rfl) ?_
  have C16 := Ctx.drewN C15 1
  refine WA.take none [] 0 rfl (by kernel_rfl) (by kernel_rfl) (show _ = #[true, false, false, false, false, false, false, false, false, false, false, false, false] from rfl) trivial ⟨(Ctx.sub_of [CH.row g12 0 [.int .i64 a1.At, .int .i64 a1.ID]] [p7, p10] C16), (Ctx.sub_of [] [CH.row g1 o2 [.slice A3 n5 c4, .map (some g9)], p7, p10] C16), (Ctx.sub_of [CH.row g12 0 [.int .i64 a1.At, .int .i64 a1.ID], CH.row g1 o2 [.slice A3 n5 c4, .map (some g9)], p7] [] C16), trivial⟩ (fun _ hC_ => Yl.move (v := .pointer (some ⟨g1, o2, none⟩)) rfl) ?_
  refine WA.take none [] 1 rfl (by kernel_rfl) (by kernel_rfl) (show _ = #[true, true, false, false, false, false, false, false, false, false, false, false, false] from rfl) trivial ⟨(Ctx.sub_of [CH.row g12 0 [.int .i64 a1.At, .int .i64 a1.ID]] [p7, p10] C16), (Ctx.sub_of [] [CH.row g1 o2 [.slice A3 n5 c4, .map (some g9)], p7, p10] C16), (Ctx.sub_of [CH.row g12 0 [.int .i64 a1.At, .int .i64 a1.ID], CH.row g1 o2 [.slice A3 n5 c4, .map (some g9)], p7] [] C16), trivial⟩ (fun _ hC_ => Yl.nilCheck rfl) ?_
  refine WA.take none [] 2 rfl (by kernel_rfl) (by kernel_rfl) (show _ = #[true, true, true, false, false, false, false, false, false, false, false, false, false] from rfl) trivial ⟨(Ctx.sub_of [CH.row g12 0 [.int .i64 a1.At, .int .i64 a1.ID]] [p7, p10] C16), (Ctx.sub_of [] [CH.row g1 o2 [.slice A3 n5 c4, .map (some g9)], p7, p10] C16), (Ctx.sub_of [CH.row g12 0 [.int .i64 a1.At, .int .i64 a1.ID], CH.row g1 o2 [.slice A3 n5 c4, .map (some g9)], p7] [] C16), trivial⟩ (fun _ hC_ => Yl.fieldAddr (i := 0) rfl Try.underlying53 rfl sz51) ?_
  refine WA.take none [] 3 rfl (by kernel_rfl) (by kernel_rfl) (show _ = #[true, true, true, true, false, false, false, false, false, false, false, false, false] from rfl) trivial ⟨(Ctx.sub_of [CH.row g12 0 [.int .i64 a1.At, .int .i64 a1.ID]] [p7, p10] C16), (Ctx.sub_of [] [CH.row g1 o2 [.slice A3 n5 c4, .map (some g9)], p7, p10] C16), (Ctx.sub_of [CH.row g12 0 [.int .i64 a1.At, .int .i64 a1.ID], CH.row g1 o2 [.slice A3 n5 c4, .map (some g9)], p7] [] C16), trivial⟩ (fun _ hC_ => Yl.fieldAddr (i := 1) rfl Try.underlying51 rfl sz49) ?_
  refine WA.take (some 0) [7, 8, 9, 10, 11, 12] 4 rfl (by kernel_rfl) (by kernel_rfl) (show _ = #[true, true, true, true, true, false, false, false, false, false, false, false, false] from rfl) (Ctx.sub_of [CH.row g12 0 [.int .i64 a1.At, .int .i64 a1.ID]] [p7, p10] C16) ⟨(Ctx.sub_of [CH.row g12 0 [.int .i64 a1.At, .int .i64 a1.ID]] [p7, p10] C16), (Ctx.sub_of [] [CH.row g1 o2 [.slice A3 n5 c4, .map (some g9)], p7, p10] C16), (Ctx.sub_of [CH.row g12 0 [.int .i64 a1.At, .int .i64 a1.ID], CH.row g1 o2 [.slice A3 n5 c4, .map (some g9)], p7] [] C16), trivial⟩ (fun _ hC_ => Yl.loadV (g := g1) (off := o2) (o := 1) (cs := [.slice A3 n5 c4, .map (some g9)]) (v := .map (some g9)) rfl Try.underlying49 rfl (show Sub (CH.row g1 o2 [.slice A3 n5 c4, .map (some g9)]) _ from hC_) rfl) ?_
  refine WA.take none [] 5 rfl (by kernel_rfl) (by kernel_rfl) (show _ = #[true, true, true, true, true, true, false, false, false, false, false, false, false] from rfl) trivial ⟨(Ctx.sub_of [CH.row g12 0 [.int .i64 a1.At, .int .i64 a1.ID]] [p7, p10] C16), (Ctx.sub_of [] [CH.row g1 o2 [.slice A3 n5 c4, .map (some g9)], p7, p10] C16), (Ctx.sub_of [CH.row g12 0 [.int .i64 a1.At, .int .i64 a1.ID], CH.row g1 o2 [.slice A3 n5 c4, .map (some g9)], p7] [] C16), trivial⟩ (fun _ hC_ => Yl.fieldAddr (i := 1) rfl Try.underlying29 rfl sz3) ?_
  refine WA.take (some 1) [7, 8, 9, 10, 11, 12] 6 rfl (by kernel_rfl) (by kernel_rfl) (show _ = #[true, true, true, true, true, true, true, false, false, false, false, false, false] from rfl) (Ctx.sub_of [] [CH.row g1 o2 [.slice A3 n5 c4, .map (some g9)], p7, p10] C16) ⟨(Ctx.sub_of [CH.row g12 0 [.int .i64 a1.At, .int .i64 a1.ID]] [p7, p10] C16), (Ctx.sub_of [] [CH.row g1 o2 [.slice A3 n5 c4, .map (some g9)], p7, p10] C16), (Ctx.sub_of [CH.row g12 0 [.int .i64 a1.At, .int .i64 a1.ID], CH.row g1 o2 [.slice A3 n5 c4, .map (some g9)], p7] [] C16), trivial⟩ (fun _ hC_ => Yl.loadV (g := g12) (off := 0) (o := 1) (cs := [.int .i64 a1.At, .int .i64 a1.ID]) (v := .int .i64 a1.ID) rfl Try.underlying3 rfl (show Sub (CH.row g12 0 [.int .i64 a1.At, .int .i64 a1.ID]) _ from hC_) rfl) ?_
  refine WA.take (some 2) [8, 9, 10, 11, 12] 7 rfl (by kernel_rfl) (by kernel_rfl) (show _ = #[true, true, true, true, true, true, true, true, false, false, false, false, false] from rfl) (Ctx.sub_of [CH.row g12 0 [.int .i64 a1.At, .int .i64 a1.ID], CH.row g1 o2 [.slice A3 n5 c4, .map (some g9)], p7] [] C16) ⟨(Ctx.sub_of [CH.row g12 0 [.int .i64 a1.At, .int .i64 a1.ID]] [p7, p10] C16), (Ctx.sub_of [] [CH.row g1 o2 [.slice A3 n5 c4, .map (some g9)], p7, p10] C16), (Ctx.sub_of [CH.row g12 0 [.int .i64 a1.At, .int .i64 a1.ID], CH.row g1 o2 [.slice A3 n5 c4, .map (some g9)], p7] [] C16), trivial⟩ (fun _ hC_ => Yl.lookup (v := .tuple #[(.int .i64 ((mget a0.q.place a1.ID).getD 0)), (.bool ((mget a0.q.place a1.ID).isSome))]) hM11 (show Sub p10 _ from hC_) Try.underlying49 Try.underlying3 rfl (keyInt .i64) zr3 a1.ID rfl rfl (by cases (mget a0.q.place a1.ID) <;> rfl)) ?_
  refine WA.take none [] 8 rfl (by kernel_rfl) (by kernel_rfl) (show _ = #[true, true, true, true, true, true, true, true, true, false, false, false, false] from rfl) trivial ⟨(Ctx.sub_of [CH.row g12 0 [.int .i64 a1.At, .int .i64 a1.ID]] [p7, p10] C16), (Ctx.sub_of [] [CH.row g1 o2 [.slice A3 n5 c4, .map (some g9)], p7, p10] C16), (Ctx.sub_of [CH.row g12 0 [.int .i64 a1.At, .int .i64 a1.ID], CH.row g1 o2 [.slice A3 n5 c4, .map (some g9)], p7] [] C16), trivial⟩ (fun _ hC_ => Yl.move (v := .tuple #[(.int .i64 ((mget a0.q.place a1.ID).getD 0)), (.bool ((mget a0.q.place a1.ID).isSome))]) rfl) ?_
  refine WA.take none [] 9 rfl (by kernel_rfl) (by kernel_rfl) (show _ = #[true, true, true, true, true, true, true, true, true, true, false, false, false] from rfl) trivial ⟨(Ctx.sub_of [CH.row g12 0 [.int .i64 a1.At, .int .i64 a1.ID]] [p7, p10] C16), (Ctx.sub_of [] [CH.row g1 o2 [.slice A3 n5 c4, .map (some g9)], p7, p10] C16), (Ctx.sub_of [CH.row g12 0 [.int .i64 a1.At, .int .i64 a1.ID], CH.row g1 o2 [.slice A3 n5 c4, .map (some g9)], p7] [] C16), trivial⟩ (fun _ hC_ => Yl.extract (v := .int .i64 ((mget a0.q.place a1.ID).getD 0)) rfl rfl) ?_
  refine WA.take none [] 10 rfl (by kernel_rfl) (by kernel_rfl) (show _ = #[true, true, true, true, true, true, true, true, true, true, true, false, false] from rfl) trivial ⟨(Ctx.sub_of [CH.row g12 0 [.int .i64 a1.At, .int .i64 a1.ID]] [p7, p10] C16), (Ctx.sub_of [] [CH.row g1 o2 [.slice A3 n5 c4, .map (some g9)], p7, p10] C16), (Ctx.sub_of [CH.row g12 0 [.int .i64 a1.At, .int .i64 a1.ID], CH.row g1 o2 [.slice A3 n5 c4, .map (some g9)], p7] [] C16), trivial⟩ (fun _ hC_ => Yl.extract (v := .bool ((mget a0.q.place a1.ID).isSome)) rfl rfl) ?_
  refine WA.take none [] 11 rfl (by kernel_rfl) (by kernel_rfl) (show _ = #[true, true, true, true, true, true, true, true, true, true, true, true, false] from rfl) trivial ⟨(Ctx.sub_of [CH.row g12 0 [.int .i64 a1.At, .int .i64 a1.ID]] [p7, p10] C16), (Ctx.sub_of [] [CH.row g1 o2 [.slice A3 n5 c4, .map (some g9)], p7, p10] C16), (Ctx.sub_of [CH.row g12 0 [.int .i64 a1.At, .int .i64 a1.ID], CH.row g1 o2 [.slice A3 n5 c4, .map (some g9)], p7] [] C16), trivial⟩ (fun _ hC_ => Yl.assign (v := .int .i64 ((mget a0.q.place a1.ID).getD 0)) rfl) ?_
  refine WA.take none [] 12 rfl (by kernel_rfl) (by kernel_rfl) (show _ = #[true, true, true, true, true, true, true, true, true, true, true, true, true] from rfl) trivial ⟨(Ctx.sub_of [CH.row g12 0 [.int .i64 a1.At, .int .i64 a1.ID]] [p7, p10] C16), (Ctx.sub_of [] [CH.row g1 o2 [.slice A3 n5 c4, .map (some g9)], p7, p10] C16), (Ctx.sub_of [CH.row g12 0 [.int .i64 a1.At, .int .i64 a1.ID], CH.row g1 o2 [.slice A3 n5 c4, .map (some g9)], p7] [] C16), trivial⟩ (fun _ hC_ => Yl.assign (v := .bool ((mget a0.q.place a1.ID).isSome)) rfl) ?_
  refine WA.done (by kernel_rfl) ?_
  refine W.seq ?_
  refine W.region rfl ?_
  refine WL.val (Yl.move (v := .bool ((mget a0.q.place a1.ID).isSome)) rfl) ?_
  refine WL.done ?_
  rcases iteE H with ⟨hc17, H⟩ | ⟨hc17, H⟩
  · skip
    refine W.condT (congrArg Value.bool hc17) ?_
    refine W.seq ?_
    refine W.regionA [([10], CH.row g1 o2 [.slice A3 n5 c4, .map (some g9)]), ([10], CH.row g12 0 [.int .i64 a1.At, .int .i64 a1.ID])] (by kernel_rfl) ?_
    have C31 := Ctx.drewN C16 1
    refine WA.take none [] 0 rfl (by kernel_rfl) (by kernel_rfl) (show _ = #[true, false, false, false, false, false, false, false, false, false, false] from rfl) trivial ⟨(Ctx.sub_of [CH.row g12 0 [.int .i64 a1.At, .int .i64 a1.ID]] [p7, p10] C31), (Ctx.sub_of [] [CH.row g1 o2 [.slice A3 n5 c4, .map (some g9)], p7, p10] C31), trivial⟩ (fun _ hC_ => Yl.move (v := .pointer (some ⟨g1, o2, none⟩)) rfl) ?_
    refine WA.take none [] 1 rfl (by kernel_rfl) (by kernel_rfl) (show _ = #[true, true, false, false, false, false, false, false, false, false, false] from rfl) trivial ⟨(Ctx.sub_of [CH.row g12 0 [.int .i64 a1.At, .int .i64 a1.ID]] [p7, p10] C31), (Ctx.sub_of [] [CH.row g1 o2 [.slice A3 n5 c4, .map (some g9)], p7, p10] C31), trivial⟩ (fun _ hC_ => Yl.nilCheck rfl) ?_
    refine WA.take none [] 2 rfl (by kernel_rfl) (by kernel_rfl) (show _ = #[true, true, true, false, false, false, false, false, false, false, false] from rfl) trivial ⟨(Ctx.sub_of [CH.row g12 0 [.int .i64 a1.At, .int .i64 a1.ID]] [p7, p10] C31), (Ctx.sub_of [] [CH.row g1 o2 [.slice A3 n5 c4, .map (some g9)], p7, p10] C31), trivial⟩ (fun _ hC_ => Yl.fieldAddr (i := 0) rfl Try.underlying53 rfl sz51) ?_
    refine WA.take none [] 3 rfl (by kernel_rfl) (by kernel_rfl) (show _ = #[true, true, true, true, false, false, false, false, false, false, false] from rfl) trivial ⟨(Ctx.sub_of [CH.row g12 0 [.int .i64 a1.At, .int .i64 a1.ID]] [p7, p10] C31), (Ctx.sub_of [] [CH.row g1 o2 [.slice A3 n5 c4, .map (some g9)], p7, p10] C31), trivial⟩ (fun _ hC_ => Yl.fieldAddr (i := 0) rfl Try.underlying51 rfl sz22) ?_
    refine WA.take (some 0) [8, 9, 10] 4 rfl (by kernel_rfl) (by kernel_rfl) (show _ = #[true, true, true, true, true, false, false, false, false, false, false] from rfl) (Ctx.sub_of [CH.row g12 0 [.int .i64 a1.At, .int .i64 a1.ID]] [p7, p10] C31) ⟨(Ctx.sub_of [CH.row g12 0 [.int .i64 a1.At, .int .i64 a1.ID]] [p7, p10] C31), (Ctx.sub_of [] [CH.row g1 o2 [.slice A3 n5 c4, .map (some g9)], p7, p10] C31), trivial⟩ (fun _ hC_ => Yl.loadV (g := g1) (off := o2) (o := 0) (cs := [.slice A3 n5 c4, .map (some g9)]) (v := .slice A3 n5 c4) rfl Try.underlying22 rfl (show Sub (CH.row g1 o2 [.slice A3 n5 c4, .map (some g9)]) _ from hC_) rfl) ?_
    refine WA.take none [] 5 rfl (by kernel_rfl) (by kernel_rfl) (show _ = #[true, true, true, true, true, true, false, false, false, false, false] from rfl) trivial ⟨(Ctx.sub_of [CH.row g12 0 [.int .i64 a1.At, .int .i64 a1.ID]] [p7, p10] C31), (Ctx.sub_of [] [CH.row g1 o2 [.slice A3 n5 c4, .map (some g9)], p7, p10] C31), trivial⟩ (fun _ hC_ => Yl.move (v := .int .i64 ((mget a0.q.place a1.ID).getD 0)) rfl) ?_
    refine WA.take none [] 6 rfl (by kernel_rfl) (by kernel_rfl) (show _ = #[true, true, true, true, true, true, true, false, false, false, false] from rfl) trivial ⟨(Ctx.sub_of [CH.row g12 0 [.int .i64 a1.At, .int .i64 a1.ID]] [p7, p10] C31), (Ctx.sub_of [] [CH.row g1 o2 [.slice A3 n5 c4, .map (some g9)], p7, p10] C31), trivial⟩ (fun _ hC_ => Yl.fieldAddr (i := 0) rfl Try.underlying29 rfl sz3) ?_
    refine WA.take (some 1) [8, 9, 10] 7 rfl (by kernel_rfl) (by kernel_rfl) (show _ = #[true, true, true, true, true, true, true, true, false, false, false] from rfl) (Ctx.sub_of [] [CH.row g1 o2 [.slice A3 n5 c4, .map (some g9)], p7, p10] C31) ⟨(Ctx.sub_of [CH.row g12 0 [.int .i64 a1.At, .int .i64 a1.ID]] [p7, p10] C31), (Ctx.sub_of [] [CH.row g1 o2 [.slice A3 n5 c4, .map (some g9)], p7, p10] C31), trivial⟩ (fun _ hC_ => Yl.loadV (g := g12) (off := 0) (o := 0) (cs := [.int .i64 a1.At, .int .i64 a1.ID]) (v := .int .i64 a1.At) rfl Try.underlying3 rfl (show Sub (CH.row g12 0 [.int .i64 a1.At, .int .i64 a1.ID]) _ from hC_) rfl) ?_
    obtain ⟨hc32, H⟩ := guardE H
    obtain ⟨b33, of34, hA35, he36⟩ := (Row.sl hR8) (by omega)
    refine WA.take none [] 8 rfl (by kernel_rfl) (by kernel_rfl) (show _ = #[true, true, true, true, true, true, true, true, true, false, false] from rfl) trivial ⟨(Ctx.sub_of [CH.row g12 0 [.int .i64 a1.At, .int .i64 a1.ID]] [p7, p10] C31), (Ctx.sub_of [] [CH.row g1 o2 [.slice A3 n5 c4, .map (some g9)], p7, p10] C31), trivial⟩ (fun _ hC_ => Yl.elemAddr (i := (mget a0.q.place a1.ID).getD 0) rfl rfl hA35 Try.underlying22 sz29 (by omega)) ?_
    refine WA.take none [] 9 rfl (by kernel_rfl) (by kernel_rfl) (show _ = #[true, true, true, true, true, true, true, true, true, true, false] from rfl) trivial ⟨(Ctx.sub_of [CH.row g12 0 [.int .i64 a1.At, .int .i64 a1.ID]] [p7, p10] C31), (Ctx.sub_of [] [CH.row g1 o2 [.slice A3 n5 c4, .map (some g9)], p7, p10] C31), trivial⟩ (fun _ hC_ => Yl.fieldAddr (i := 0) rfl Try.underlying29 rfl sz3) ?_
    have hj42 : ((mget a0.q.place a1.ID).getD 0).toNat < a0.q.l.length := by first | omega | (simp only [List.length_set, List.length_replicate] at *; omega)
    obtain ⟨p37, w38, hy39, C40, hR41⟩ := ev_store (P := Try.prog) (t := 3) TEntry.K [CH.row g12 0 [.int .i64 a1.At, .int .i64 a1.ID], CH.row g1 o2 [.slice A3 n5 c4, .map (some g9)]] [p10] C31 hR8 hA35 ((mget a0.q.place a1.ID).getD 0).toNat 0 hj42 TEntry.z (.int .i64 a1.At) ([.int .i64 a1.At]) rfl (by simp [Value.oneCell']) (Nat.le_of_ble_eq_true rfl) sz3 ({ a0.q.l.getD ((mget a0.q.place a1.ID).getD 0).toNat TEntry.z with At := a1.At }) (by rintro _ h_; obtain rfl := TEntry.open h_; exact TEntry.mk' _ ({ a0.q.l.getD ((mget a0.q.place a1.ID).getD 0).toNat TEntry.z with At := a1.At })) ⟨b33, of34 + ((mget a0.q.place a1.ID).getD 0).toNat * 2 + 0, none⟩ rfl
    have hn43 : n5 = (a0.q.l.set ((mget a0.q.place a1.ID).getD 0).toNat ({ a0.q.l.getD ((mget a0.q.place a1.ID).getD 0).toNat TEntry.z with At := a1.At })).length := by rw [List.length_set]; omega
    have C44 : Ctx _ _ _ _ F [CH.row g12 0 [.int .i64 a1.At, .int .i64 a1.ID], CH.row g1 o2 [.slice A3 n5 c4, .map (some g9)], p37, p10] := C40
    refine WA.up1 10 (by kernel_rfl) (Up.skip rfl (show _ = #[true, true, true, true, true, true, true, true, true, true, true] from rfl) (hy39 _ _ _ _ rfl rfl) ⟨trivial, trivial, trivial⟩ ?_)
    refine WA.done (by kernel_rfl) ?_
    refine W.seq ?_
    refine W.region rfl ?_
    refine WL.val (Yl.move (v := .pointer (some ⟨g1, o2, none⟩)) rfl) ?_
    refine WL.val (Yl.nilCheck rfl) ?_
    refine WL.val (Yl.fieldAddr (i := 0) rfl Try.underlying53 rfl sz51) ?_
    refine WL.val (Yl.mkIface (v := .pointer (some ⟨g1, o2 + 0, none⟩)) rfl Try.underlying55 rfl) ?_
    refine WL.val (Yl.move (v := .int .i64 ((mget a0.q.place a1.ID).getD 0)) rfl) ?_
    have C45 : Ctx _ _ _ _ F [CH.row g1 o2 [.slice A3 n5 c4, .map (some g9)], CH.row g12 0 [.int .i64 a1.At, .int .i64 a1.ID], p37, p10] := Ctx.swap [] [p37, p10] C44
    have C46 : Ctx _ _ _ _ F [CH.row g1 o2 [.slice A3 n5 c4, .map (some g9)], p37, CH.row g12 0 [.int .i64 a1.At, .int .i64 a1.ID], p10] := Ctx.swap [CH.row g1 o2 [.slice A3 n5 c4, .map (some g9)]] [p10] C45
    have C47 : Ctx _ _ _ _ F [CH.row g1 o2 [.slice A3 n5 c4, .map (some g9)], p37, p10, CH.row g12 0 [.int .i64 a1.At, .int .i64 a1.ID]] := Ctx.swap [CH.row g1 o2 [.slice A3 n5 c4, .map (some g9)], p37] [] C46
    obtain ⟨r49, hg48, H⟩ := bindE H
    refine WL.call (args := #[.iface 55 (.pointer (some ⟨g1, o2 + 0, none⟩)), .int .i64 ((mget a0.q.place a1.ID).getD 0)]) (Yenter.fn Try.func22 (by kernel_rfl) rfl (argsE (.cons rfl (.cons rfl .nil)))) (heap_Fix.calls k _ F g1 o2 A3 c4 n5 p37 g9 p10 (⟨a0.q.l.set ((mget a0.q.place a1.ID).getD 0).toNat ({ a0.q.l.getD ((mget a0.q.place a1.ID).getD 0).toNat TEntry.z with At := a1.At }), a0.q.place⟩ : Tqueue) ((mget a0.q.place a1.ID).getD 0) (Ctx.pre (qs := [CH.row g1 o2 [.slice A3 n5 c4, .map (some g9)], p37, p10]) (rest := [CH.row g12 0 [.int .i64 a1.At, .int .i64 a1.ID]]) C47) hn43 hR41 hM11 r49 hg48) ?_
    rintro e_ w_ ⟨A50, c51, n52, p54, g56, p57, rfl, C59, hn53, hR55, hM58⟩
    refine ⟨_, rfl, ?_⟩
    have C60 : Ctx _ _ _ _ F [CH.row g1 o2 [.slice A50 n52 c51, .map (some g56)], p54, p57, CH.row g12 0 [.int .i64 a1.At, .int .i64 a1.ID]] := Ctx.call (qs := [CH.row g1 o2 [.slice A3 n5 c4, .map (some g9)], p37, p10]) (rest := [CH.row g12 0 [.int .i64 a1.At, .int .i64 a1.ID]]) C47 C59
    refine WL.done ?_
    refine W.seq ?_
    refine W.region rfl ?_
    refine WL.val (Yl.assign (v := .int .i64 0) rfl) ?_
    refine WL.done ?_
    refine W.ret ?_
    refine thenE_r ?_
    have C61 : Ctx _ _ _ _ F [CH.row g1 o2 [.slice A50 n52 c51, .map (some g56)], p54, p57] := Ctx.drop [CH.row g1 o2 [.slice A50 n52 c51, .map (some g56)], p54, p57] [] C60
    cases H
    exact post_r (resE1 rfl rfl) ⟨A50, c51, n52, p54, g56, p57, rfl, C61, hn53, hR55, hM58⟩
  · skip
    refine W.condF (congrArg Value.bool (Bool.eq_false_iff.2 hc17)) ?_
    refine W.skip ?_
    refine W.seq ?_
    refine W.seq ?_
    refine W.region rfl ?_
    refine WL.val (Yl.move (v := .pointer (some ⟨g1, o2, none⟩)) rfl) ?_
    refine WL.val (Yl.nilCheck rfl) ?_
    refine WL.val (Yl.fieldAddr (i := 0) rfl Try.underlying53 rfl sz51) ?_
    have le62 : CH.le F (CH.join F (CH.row g1 o2 [.slice A3 n5 c4, .map (some g9)])) := CH.le_joinL _ _
    have lp63 : CH.le (CH.row g1 o2 [.slice A3 n5 c4, .map (some g9)]) (CH.join F (CH.row g1 o2 [.slice A3 n5 c4, .map (some g9)])) := CH.le_joinR (Ctx.dis_of [CH.row g12 0 [.int .i64 a1.At, .int .i64 a1.ID]] [p7, p10] C16)
    have C64 : Ctx _ _ _ _ (CH.join F (CH.row g1 o2 [.slice A3 n5 c4, .map (some g9)])) [CH.row g12 0 [.int .i64 a1.At, .int .i64 a1.ID], p7, p10] := Ctx.freeze [CH.row g12 0 [.int .i64 a1.At, .int .i64 a1.ID]] [p7, p10] C16
    have le65 : CH.le (CH.join F (CH.row g1 o2 [.slice A3 n5 c4, .map (some g9)])) (CH.join (CH.join F (CH.row g1 o2 [.slice A3 n5 c4, .map (some g9)])) p7) := CH.le_joinL _ _
    have lp66 : CH.le p7 (CH.join (CH.join F (CH.row g1 o2 [.slice A3 n5 c4, .map (some g9)])) p7) := CH.le_joinR (Ctx.dis_of [CH.row g12 0 [.int .i64 a1.At, .int .i64 a1.ID]] [p10] C64)
    have C67 : Ctx _ _ _ _ (CH.join (CH.join F (CH.row g1 o2 [.slice A3 n5 c4, .map (some g9)])) p7) [CH.row g12 0 [.int .i64 a1.At, .int .i64 a1.ID], p10] := Ctx.freeze [CH.row g12 0 [.int .i64 a1.At, .int .i64 a1.ID]] [p10] C64
    have le68 : CH.le (CH.join (CH.join F (CH.row g1 o2 [.slice A3 n5 c4, .map (some g9)])) p7) (CH.join (CH.join (CH.join F (CH.row g1 o2 [.slice A3 n5 c4, .map (some g9)])) p7) p10) := CH.le_joinL _ _
    have lp69 : CH.le p10 (CH.join (CH.join (CH.join F (CH.row g1 o2 [.slice A3 n5 c4, .map (some g9)])) p7) p10) := CH.le_joinR (Ctx.dis_of [CH.row g12 0 [.int .i64 a1.At, .int .i64 a1.ID]] [] C67)
    have C70 : Ctx _ _ _ _ (CH.join (CH.join (CH.join F (CH.row g1 o2 [.slice A3 n5 c4, .map (some g9)])) p7) p10) [CH.row g12 0 [.int .i64 a1.At, .int .i64 a1.ID]] := Ctx.freeze [CH.row g12 0 [.int .i64 a1.At, .int .i64 a1.ID]] [] C67
    obtain ⟨r72, hg71, H⟩ := bindE H
    refine WL.call (args := #[.pointer (some ⟨g1, o2 + 0, none⟩)]) (Yenter.fn Try.func23 (by kernel_rfl) rfl (argsE (.cons rfl .nil))) (agenda_queue_Len.calls k _ (CH.join (CH.join (CH.join F (CH.row g1 o2 [.slice A3 n5 c4, .map (some g9)])) p7) p10) g1 o2 A3 c4 n5 g9 p10 a0.q C70.pre0 hn6 (Row.len_le hR8).1 (Row.len_le hR8).2.1 (Sl.mono (Row.sl hR8) (CH.le_trans (CH.le_trans le62 le65) le68) (CH.le_trans lp66 le68)) hM11 lp69 (CH.le_trans (CH.le_trans lp63 le65) le68) r72 hg71) ?_
    rintro e_ w_ ⟨rfl, ⟨m73, rfl⟩⟩
    refine ⟨_, rfl, ?_⟩
    have C74 := Ctx.drewN C16 m73
    refine WL.val (Yl.geq (m := r72) (n := 4096) (q := decide (r72 ≥ 4096)) rfl rfl rfl) ?_
    refine WL.done ?_
    rcases iteE H with ⟨hc75, H⟩ | ⟨hc75, H⟩
    · skip
      refine W.condT (congrArg Value.bool (decide_eq_true hc75)) ?_
      refine W.seq ?_
      refine W.region rfl ?_
      refine WL.val (Yl.assign (v := .int .i64 90) rfl) ?_
      refine WL.done ?_
      refine W.ret ?_
      refine thenE_r ?_
      have C76 : Ctx _ _ _ _ F [CH.row g1 o2 [.slice A3 n5 c4, .map (some g9)], p7, p10] := Ctx.drop [] [CH.row g1 o2 [.slice A3 n5 c4, .map (some g9)], p7, p10] C74
      cases H
      exact post_r (resE1 rfl rfl) ⟨A3, c4, n5, p7, g9, p10, rfl, C76, hn6, hR8, hM11⟩
    · skip
      refine W.condF (congrArg Value.bool (decide_eq_false hc75)) ?_
      refine W.skip ?_
      refine W.seq ?_
      refine W.regionA [([6], CH.row g12 0 [.int .i64 a1.At, .int .i64 a1.ID])] (by kernel_rfl) ?_
      have C93 := Ctx.drewN C74 1
      refine WA.take none [] 0 rfl (by kernel_rfl) (by kernel_rfl) (show _ = #[true, false, false, false, false, false, false] from rfl) trivial ⟨(Ctx.sub_of [] [CH.row g1 o2 [.slice A3 n5 c4, .map (some g9)], p7, p10] C93), trivial⟩ (fun _ hC_ => Yl.move (v := .pointer (some ⟨g1, o2, none⟩)) rfl) ?_
      refine WA.take none [] 1 rfl (by kernel_rfl) (by kernel_rfl) (show _ = #[true, true, false, false, false, false, false] from rfl) trivial ⟨(Ctx.sub_of [] [CH.row g1 o2 [.slice A3 n5 c4, .map (some g9)], p7, p10] C93), trivial⟩ (fun _ hC_ => Yl.nilCheck rfl) ?_
      refine WA.take none [] 2 rfl (by kernel_rfl) (by kernel_rfl) (show _ = #[true, true, true, false, false, false, false] from rfl) trivial ⟨(Ctx.sub_of [] [CH.row g1 o2 [.slice A3 n5 c4, .map (some g9)], p7, p10] C93), trivial⟩ (fun _ hC_ => Yl.fieldAddr (i := 0) rfl Try.underlying53 rfl sz51) ?_
      refine WA.take none [] 3 rfl (by kernel_rfl) (by kernel_rfl) (show _ = #[true, true, true, true, false, false, false] from rfl) trivial ⟨(Ctx.sub_of [] [CH.row g1 o2 [.slice A3 n5 c4, .map (some g9)], p7, p10] C93), trivial⟩ (fun _ hC_ => Yl.mkIface (v := .pointer (some ⟨g1, o2 + 0, none⟩)) rfl Try.underlying55 rfl) ?_
      refine WA.take (some 0) [5, 6] 4 rfl (by kernel_rfl) (by kernel_rfl) (show _ = #[true, true, true, true, true, false, false] from rfl) (Ctx.sub_of [] [CH.row g1 o2 [.slice A3 n5 c4, .map (some g9)], p7, p10] C93) ⟨(Ctx.sub_of [] [CH.row g1 o2 [.slice A3 n5 c4, .map (some g9)], p7, p10] C93), trivial⟩ (fun _ hC_ => Yl.loadVA (g := g12) (off := 0) (o := 0) (cs := [.int .i64 a1.At, .int .i64 a1.ID]) (us := [.int .i64 a1.At, .int .i64 a1.ID]) rfl Try.underlying29 rfl sz29 (show Sub (CH.row g12 0 [.int .i64 a1.At, .int .i64 a1.ID]) _ from hC_) rfl) ?_
      refine WA.take none [] 5 rfl (by kernel_rfl) (by kernel_rfl) (show _ = #[true, true, true, true, true, true, false] from rfl) trivial ⟨(Ctx.sub_of [] [CH.row g1 o2 [.slice A3 n5 c4, .map (some g9)], p7, p10] C93), trivial⟩ (fun _ hC_ => Yl.mkIface (v := .agg (List.toArray [.int .i64 a1.At, .int .i64 a1.ID])) rfl Try.underlying29 rfl) ?_
      have C94 : Ctx _ _ _ _ F [CH.row g1 o2 [.slice A3 n5 c4, .map (some g9)], CH.row g12 0 [.int .i64 a1.At, .int .i64 a1.ID], p7, p10] := Ctx.swap [] [p7, p10] C93
      have C95 : Ctx _ _ _ _ F [CH.row g1 o2 [.slice A3 n5 c4, .map (some g9)], p7, CH.row g12 0 [.int .i64 a1.At, .int .i64 a1.ID], p10] := Ctx.swap [CH.row g1 o2 [.slice A3 n5 c4, .map (some g9)]] [p10] C94
      have C96 : Ctx _ _ _ _ F [CH.row g1 o2 [.slice A3 n5 c4, .map (some g9)], p7, p10, CH.row g12 0 [.int .i64 a1.At, .int .i64 a1.ID]] := Ctx.swap [CH.row g1 o2 [.slice A3 n5 c4, .map (some g9)], p7] [] C95
      obtain ⟨r98, hg97, H⟩ := bindE H
      refine WA.up1 6 (by kernel_rfl) (Up.call (args := #[.iface 55 (.pointer (some ⟨g1, o2 + 0, none⟩)), .iface 29 (.agg (List.toArray [.int .i64 a1.At, .int .i64 a1.ID]))]) rfl (by kernel_rfl) (show _ = #[true, true, true, true, true, true, true] from rfl) (Yenter.fn Try.func24 (by kernel_rfl) rfl (argsE (.cons rfl (.cons rfl .nil)))) (heap_Push.calls k _ F g1 o2 A3 c4 n5 p7 g9 p10 a0.q a1 (Ctx.pre (qs := [CH.row g1 o2 [.slice A3 n5 c4, .map (some g9)], p7, p10]) (rest := [CH.row g12 0 [.int .i64 a1.At, .int .i64 a1.ID]]) C96) hn6 hR8 hM11 r98 hg97) ?_)
      rintro e_ w_ ⟨A99, c100, n101, p103, g105, p106, rfl, C108, hn102, hR104, hM107⟩
      have C109 : Ctx _ _ _ _ F [CH.row g1 o2 [.slice A99 n101 c100, .map (some g105)], p103, p106, CH.row g12 0 [.int .i64 a1.At, .int .i64 a1.ID]] := Ctx.call (qs := [CH.row g1 o2 [.slice A3 n5 c4, .map (some g9)], p7, p10]) (rest := [CH.row g12 0 [.int .i64 a1.At, .int .i64 a1.ID]]) C96 C108
      refine ⟨_, rfl, ⟨trivial, trivial⟩, ?_⟩
      refine WA.done (by kernel_rfl) ?_
      refine W.seq ?_
      refine W.region rfl ?_
      refine WL.val (Yl.assign (v := .int .i64 0) rfl) ?_
      refine WL.done ?_
      refine W.ret ?_
      have C110 : Ctx _ _ _ _ F [CH.row g1 o2 [.slice A99 n101 c100, .map (some g105)], p103, p106] := Ctx.drop [CH.row g1 o2 [.slice A99 n101 c100, .map (some g105)], p103, p106] [] C109
      cases H
      exact post_r (resE1 rfl rfl) ⟨A99, c100, n101, p103, g105, p106, rfl, C110, hn102, hR104, hM107⟩
/-! ### (*jurat/agenda.Agenda).Drop: function 15 -/
def agenda_Agenda_Drop.f (k : Nat) (a0 : TAgenda) (a1 : Int) : Option (Bool × TAgenda) := if ((mget a0.q.place a1).isSome) = true then ((heap_Remove.f k a0.q ((mget a0.q.place a1).getD 0)).bind fun ⟨r14, r15⟩ => some ((mget a0.q.place a1).isSome, (⟨r15⟩ : TAgenda))) else (some ((mget a0.q.place a1).isSome, a0))
set_option maxRecDepth 100000 in
set_option maxHeartbeats 4000000 in
theorem agenda_Agenda_Drop.calls (k : Nat) (w : World) (F : CH) (g1 : Nat) (o2 : Nat) (A3 : Option Addr) (c4 : Nat) (n5 : Nat) (p7 : CH) (g9 : Nat) (p10 : CH) (a0 : TAgenda) (a1 : Int) (hp : Pre w F [CH.row g1 o2 [.slice A3 n5 c4, .map (some g9)], p7, p10]) (hn6 : n5 = a0.q.l.length) (hR8 : Row TEntry.K F p7 (.slice A3 n5 c4) a0.q.l) (hM11 : MRow (Value.int .i64) (Value.int .i64) p10 g9 a0.q.place) (r0_ : Bool) (r1_ : TAgenda) (H : agenda_Agenda_Drop.f k a0 a1 = some (r0_, r1_)) :
    Calls Try.prog 15 #[.pointer (some ⟨g1, o2, none⟩), .int .i64 a1] w fun e w' => ∃ (A27 : Option Addr) (c28 : Nat) (n29 : Nat) (p31 : CH) (g33 : Nat) (p34 : CH), e = .returned (.bool r0_) ∧ Ctx w F (domL [CH.row g1 o2 [.slice A3 n5 c4, .map (some g9)], p7, p10]) w' F [CH.row g1 o2 [.slice A27 n29 c28, .map (some g33)], p31, p34] ∧ n29 = r1_.q.l.length ∧ Row TEntry.K F p31 (.slice A27 n29 c28) r1_.q.l ∧ MRow (Value.int .i64) (Value.int .i64) p34 g33 r1_.q.place := by
  have C := Ctx.start hp
  generalize hD : domL [CH.row g1 o2 [.slice A3 n5 c4, .map (some g9)], p7, p10] = D at C ⊢
  unfold agenda_Agenda_Drop.f at H
  refine Calls.ofW Try.func15 rfl (by simp [Try.ntmps15]) ?_
  refine W.seq ?_
  refine W.region rfl ?_
  refine WL.val (Yl.assign (v := .bool false) rfl) ?_
  refine WL.done ?_
  refine W.seq ?_
  refine W.seq ?_
  refine W.region rfl ?_
  refine WL.val (Yl.move (v := .pointer (some ⟨g1, o2, none⟩)) rfl) ?_
  refine WL.val (Yl.ptrEqSN rfl rfl Try.underlying24) ?_
  refine WL.done ?_
  refine W.condF rfl ?_
  refine W.skip ?_
  refine W.seq ?_
  refine W.region rfl ?_
  refine WL.val (Yl.move (v := .pointer (some ⟨g1, o2, none⟩)) rfl) ?_
  refine WL.val (Yl.nilCheck rfl) ?_
  refine WL.val (Yl.fieldAddr (i := 0) rfl Try.underlying53 rfl sz51) ?_
  refine WL.val (Yl.fieldAddr (i := 1) rfl Try.underlying51 rfl sz49) ?_
  refine WL.val (Yl.loadV (g := g1) (off := o2) (o := 1) (cs := [.slice A3 n5 c4, .map (some g9)]) (v := .map (some g9)) rfl Try.underlying49 rfl (Ctx.sub_of [] [p7, p10] C) rfl) ?_
  refine WL.val (Yl.move (v := .int .i64 a1) rfl) ?_
  refine WL.val (Yl.lookup (v := .tuple #[(.int .i64 ((mget a0.q.place a1).getD 0)), (.bool ((mget a0.q.place a1).isSome))]) hM11 (Ctx.sub_of [CH.row g1 o2 [.slice A3 n5 c4, .map (some g9)], p7] [] C) Try.underlying49 Try.underlying3 rfl (keyInt .i64) zr3 a1 rfl rfl (by cases (mget a0.q.place a1) <;> rfl)) ?_
  refine WL.val (Yl.move (v := .tuple #[(.int .i64 ((mget a0.q.place a1).getD 0)), (.bool ((mget a0.q.place a1).isSome))]) rfl) ?_
  refine WL.val (Yl.extract (v := .int .i64 ((mget a0.q.place a1).getD 0)) rfl rfl) ?_
  refine WL.val (Yl.extract (v := .bool ((mget a0.q.place a1).isSome)) rfl rfl) ?_
  refine WL.val (Yl.assign (v := .int .i64 ((mget a0.q.place a1).getD 0)) rfl) ?_
  refine WL.val (Yl.assign (v := .bool ((mget a0.q.place a1).isSome)) rfl) ?_
  refine WL.done ?_
  refine W.seq ?_
  refine W.seq ?_
  refine W.region rfl ?_
  refine WL.val (Yl.move (v := .bool ((mget a0.q.place a1).isSome)) rfl) ?_
  refine WL.done ?_
  rcases iteE H with ⟨hc12, H⟩ | ⟨hc12, H⟩
  · skip
    refine W.condT (congrArg Value.bool hc12) ?_
    refine W.region rfl ?_
    refine WL.val (Yl.move (v := .pointer (some ⟨g1, o2, none⟩)) rfl) ?_
    refine WL.val (Yl.nilCheck rfl) ?_
    refine WL.val (Yl.fieldAddr (i := 0) rfl Try.underlying53 rfl sz51) ?_
    refine WL.val (Yl.mkIface (v := .pointer (some ⟨g1, o2 + 0, none⟩)) rfl Try.underlying55 rfl) ?_
    refine WL.val (Yl.move (v := .int .i64 ((mget a0.q.place a1).getD 0)) rfl) ?_
    obtain ⟨⟨r14, r15⟩, hg13, H⟩ := bindE H
    refine WL.call (args := #[.iface 55 (.pointer (some ⟨g1, o2 + 0, none⟩)), .int .i64 ((mget a0.q.place a1).getD 0)]) (Yenter.fn Try.func27 (by kernel_rfl) rfl (argsE (.cons rfl (.cons rfl .nil)))) (heap_Remove.calls k _ F g1 o2 A3 c4 n5 p7 g9 p10 a0.q ((mget a0.q.place a1).getD 0) (Ctx.pre (qs := [CH.row g1 o2 [.slice A3 n5 c4, .map (some g9)], p7, p10]) (rest := []) C) hn6 hR8 hM11 r14 r15 hg13) ?_
    rintro e_ w_ ⟨A16, c17, n18, p20, g22, p23, rfl, C25, hn19, hR21, hM24⟩
    refine ⟨_, rfl, ?_⟩
    have C26 : Ctx _ _ _ _ F [CH.row g1 o2 [.slice A16 n18 c17, .map (some g22)], p20, p23] := Ctx.call (qs := [CH.row g1 o2 [.slice A3 n5 c4, .map (some g9)], p7, p10]) (rest := []) C C25
    refine WL.done ?_
    refine W.seq ?_
    refine W.region rfl ?_
    refine WL.val (Yl.move (v := .bool ((mget a0.q.place a1).isSome)) rfl) ?_
    refine WL.val (Yl.assign (v := .bool ((mget a0.q.place a1).isSome)) rfl) ?_
    refine WL.done ?_
    refine W.ret ?_
    cases H
    exact post_r (resE1 rfl rfl) ⟨A16, c17, n18, p20, g22, p23, rfl, C26, hn19, hR21, hM24⟩
  · skip
    refine W.condF (congrArg Value.bool (Bool.eq_false_iff.2 hc12)) ?_
    refine W.skip ?_
    refine W.seq ?_
    refine W.region rfl ?_
    refine WL.val (Yl.move (v := .bool ((mget a0.q.place a1).isSome)) rfl) ?_
    refine WL.val (Yl.assign (v := .bool ((mget a0.q.place a1).isSome)) rfl) ?_
    refine WL.done ?_
    refine W.ret ?_
    cases H
    exact post_r (resE1 rfl rfl) ⟨A3, c4, n5, p7, g9, p10, rfl, C, hn6, hR8, hM11⟩
/-! ### (*jurat/agenda.Agenda).Due: function 11 -/
def agenda_Agenda_Due.l1 : Nat → Int → List TEntry → TEntry → Bool → TAgenda → Option ((List TEntry) × TAgenda)
  | 0, _, _, _, _, _ => none
  | k + 1, a1, x424, x432, x436, x437 => (if x436 = true then (some (decide (x432.At ≤ a1))) else (some (false))).bind fun g526 => if g526 = true then ((heap_Pop.f k x437.q).bind fun ⟨r543, r544⟩ => if (x424.length + 1) * 16 ≤ 140737488355328 then ((agenda_Agenda_Next.f k (⟨r544⟩ : TAgenda)).bind fun ⟨r594, r595⟩ => agenda_Agenda_Due.l1 k a1 (x424 ++ [r543]) r594 r595 (⟨r544⟩ : TAgenda)) else none) else (some (x424, x437))
def agenda_Agenda_Due.f (k : Nat) (a0 : TAgenda) (a1 : Int) : Option ((List TEntry) × TAgenda) := (agenda_Agenda_Next.f k a0).bind fun ⟨r22, r23⟩ => (agenda_Agenda_Due.l1 k a1 ([] : List TEntry) r22 r23 a0).bind fun ⟨x312, x319⟩ => some (x312, x319)
set_option maxRecDepth 100000 in
set_option maxHeartbeats 4000000 in
theorem agenda_Agenda_Due.calls (k : Nat) (w : World) (F : CH) (g1 : Nat) (o2 : Nat) (A3 : Option Addr) (c4 : Nat) (n5 : Nat) (p7 : CH) (g9 : Nat) (p10 : CH) (a0 : TAgenda) (a1 : Int) (hp : Pre w F [CH.row g1 o2 [.slice A3 n5 c4, .map (some g9)], p7, p10]) (hn6 : n5 = a0.q.l.length) (hR8 : Row TEntry.K F p7 (.slice A3 n5 c4) a0.q.l) (hM11 : MRow (Value.int .i64) (Value.int .i64) p10 g9 a0.q.place) (r0_ : List TEntry) (r1_ : TAgenda) (H : agenda_Agenda_Due.f k a0 a1 = some (r0_, r1_)) :
    Calls Try.prog 11 #[.pointer (some ⟨g1, o2, none⟩), .int .i64 a1] w fun e w' => ∃ (A612 : Option Addr) (c613 : Nat) (n614 : Nat) (p616 : CH) (A618 : Option Addr) (c619 : Nat) (n620 : Nat) (p622 : CH) (g624 : Nat) (p625 : CH), e = .returned (.slice A612 n614 c613) ∧ Ctx w F (domL [CH.row g1 o2 [.slice A3 n5 c4, .map (some g9)], p7, p10]) w' F [CH.row g1 o2 [.slice A618 n620 c619, .map (some g624)], p622, p625, p616] ∧ n614 = r0_.length ∧ Row TEntry.K F p616 (.slice A612 n614 c613) r0_ ∧ n620 = r1_.q.l.length ∧ Row TEntry.K F p622 (.slice A618 n620 c619) r1_.q.l ∧ MRow (Value.int .i64) (Value.int .i64) p625 g624 r1_.q.place := by
  have C := Ctx.start hp
  generalize hD : domL [CH.row g1 o2 [.slice A3 n5 c4, .map (some g9)], p7, p10] = D at C ⊢
  unfold agenda_Agenda_Due.f at H
  refine Calls.ofW Try.func11 rfl (by simp [Try.ntmps11]) ?_
  refine W.seq ?_
  refine W.region rfl ?_
  refine WL.val (Yl.assign (v := .slice none 0 0) rfl) ?_
  refine WL.done ?_
  refine W.seq ?_
  refine W.region rfl ?_
  refine WL.val (Yl.assign (v := .slice none 0 0) rfl) ?_
  refine WL.done ?_
  refine W.seq ?_
  refine W.seq ?_
  refine W.region rfl ?_
  refine WL.val (Yl.move (v := .pointer (some ⟨g1, o2, none⟩)) rfl) ?_
  have le12 : CH.le F (CH.join F (CH.row g1 o2 [.slice A3 n5 c4, .map (some g9)])) := CH.le_joinL _ _
  have lp13 : CH.le (CH.row g1 o2 [.slice A3 n5 c4, .map (some g9)]) (CH.join F (CH.row g1 o2 [.slice A3 n5 c4, .map (some g9)])) := CH.le_joinR (Ctx.dis_of [] [p7, p10] C)
  have C14 : Ctx _ _ _ _ (CH.join F (CH.row g1 o2 [.slice A3 n5 c4, .map (some g9)])) [p7, p10] := Ctx.freeze [] [p7, p10] C
  have le15 : CH.le (CH.join F (CH.row g1 o2 [.slice A3 n5 c4, .map (some g9)])) (CH.join (CH.join F (CH.row g1 o2 [.slice A3 n5 c4, .map (some g9)])) p7) := CH.le_joinL _ _
  have lp16 : CH.le p7 (CH.join (CH.join F (CH.row g1 o2 [.slice A3 n5 c4, .map (some g9)])) p7) := CH.le_joinR (Ctx.dis_of [] [p10] C14)
  have C17 : Ctx _ _ _ _ (CH.join (CH.join F (CH.row g1 o2 [.slice A3 n5 c4, .map (some g9)])) p7) [p10] := Ctx.freeze [] [p10] C14
  have le18 : CH.le (CH.join (CH.join F (CH.row g1 o2 [.slice A3 n5 c4, .map (some g9)])) p7) (CH.join (CH.join (CH.join F (CH.row g1 o2 [.slice A3 n5 c4, .map (some g9)])) p7) p10) := CH.le_joinL _ _
  have lp19 : CH.le p10 (CH.join (CH.join (CH.join F (CH.row g1 o2 [.slice A3 n5 c4, .map (some g9)])) p7) p10) := CH.le_joinR (Ctx.dis_of [] [] C17)
  have C20 : Ctx _ _ _ _ (CH.join (CH.join (CH.join F (CH.row g1 o2 [.slice A3 n5 c4, .map (some g9)])) p7) p10) [] := Ctx.freeze [] [] C17
  obtain ⟨⟨r22, r23⟩, hg21, H⟩ := bindE H
  refine WL.call (args := #[.pointer (some ⟨g1, o2, none⟩)]) (Yenter.fn Try.func19 (by kernel_rfl) rfl (argsE (.cons rfl .nil))) (agenda_Agenda_Next.calls k _ (CH.join (CH.join (CH.join F (CH.row g1 o2 [.slice A3 n5 c4, .map (some g9)])) p7) p10) g1 o2 A3 c4 n5 g9 p10 a0 (Ctx.pre (qs := []) (rest := []) C20) hn6 (Row.len_le hR8).1 (Row.len_le hR8).2.1 (Sl.mono (Row.sl hR8) (CH.le_trans (CH.le_trans le12 le15) le18) (CH.le_trans lp16 le18)) hM11 lp19 (CH.le_trans (CH.le_trans lp13 le15) le18) r22 r23 hg21) ?_
  rintro e_ w_ ⟨rfl, C24⟩
  refine ⟨_, rfl, ?_⟩
  have C25 : Ctx _ _ _ _ F [CH.row g1 o2 [.slice A3 n5 c4, .map (some g9)], p7, p10] := Ctx.callL (qs := []) (rest := [CH.row g1 o2 [.slice A3 n5 c4, .map (some g9)], p7, p10]) C (CH.le_trans (CH.le_trans le12 le15) le18) C24
  refine WL.val (Yl.move (v := .tuple #[(.agg (List.toArray [.int .i64 r22.At, .int .i64 r22.ID])), (.bool r23)]) rfl) ?_
  refine WL.val (Yl.extract (v := .agg (List.toArray [.int .i64 r22.At, .int .i64 r22.ID])) rfl rfl) ?_
  refine WL.val (Yl.extract (v := .bool r23) rfl rfl) ?_
  obtain ⟨g26, w27, hy28, C29⟩ := ev_alloc (P := Try.prog) (e := 29) [.int .i64 0, .int .i64 0] C25 zr29 rfl
  refine WL.val (hy28 _ _) ?_
  obtain ⟨w30, hy31, C32⟩ := ev_set (P := Try.prog) (ps1 := []) (ps2 := [CH.row g1 o2 [.slice A3 n5 c4, .map (some g9)], p7, p10]) (t := 29) (o := 0) [.int .i64 0, .int .i64 0] [] [.int .i64 0, .int .i64 0] [] [.int .i64 r22.At, .int .i64 r22.ID] (.agg (List.toArray [.int .i64 r22.At, .int .i64 r22.ID])) C29 rfl rfl rfl rfl (by simp [Value.oneCell']) sz29
  have C33 : Ctx _ _ _ _ F [CH.row g26 0 [.int .i64 r22.At, .int .i64 r22.ID], CH.row g1 o2 [.slice A3 n5 c4, .map (some g9)], p7, p10] := C32
  refine WL.skip (hy31 _ _ _ _ rfl rfl) ?_
  refine WL.val (Yl.assign (v := .bool r23) rfl) ?_
  refine WL.done ?_
  obtain ⟨⟨x312, x319⟩, hX330, H⟩ := bindE H
  refine W.cutM (fun env_ w_ => ∃ (A313 : Option Addr) (c314 : Nat) (n315 : Nat) (p317 : CH) (A320 : Option Addr) (c321 : Nat) (n322 : Nat) (p324 : CH) (g326 : Nat) (p327 : CH), env_ 5 = .slice A313 n315 c314 ∧ Ctx w F D w_ F [p317, CH.row g1 o2 [.slice A320 n322 c321, .map (some g326)], p324, p327] ∧ n315 = x312.length ∧ Row TEntry.K F p317 (.slice A313 n315 c314) x312 ∧ n322 = x319.q.l.length ∧ Row TEntry.K F p324 (.slice A320 n322 c321) x319.q.l ∧ MRow (Value.int .i64) (Value.int .i64) p327 g326 x319.q.place) ?_ ?_
  · skip
    refine W.block ?_
    have C525 : Ctx _ _ _ _ F [CH.emp, CH.row g26 0 [.int .i64 r22.At, .int .i64 r22.ID], CH.row g1 o2 [.slice A3 n5 c4, .map (some g9)], p7, p10] := Ctx.emp C33
    refine W.loop (fun g_ env_ w_ => ∃ (x424 : List TEntry) (x432 : TEntry) (x436 : Bool) (x437 : TAgenda) (A425 : Option Addr) (c426 : Nat) (n427 : Nat) (p429 : CH) (g433 : Nat) (o434 : Nat) (A438 : Option Addr) (c439 : Nat) (n440 : Nat) (p442 : CH) (g444 : Nat) (p445 : CH), env_ 0 = .pointer (some ⟨g1, o2, none⟩) ∧ env_ 1 = .int .i64 a1 ∧ env_ 5 = .slice A425 n427 c426 ∧ env_ 6 = .pointer (some ⟨g433, o434, none⟩) ∧ env_ 7 = .bool x436 ∧ Ctx w F D w_ F [p429, CH.row g433 o434 [.int .i64 x432.At, .int .i64 x432.ID], CH.row g1 o2 [.slice A438 n440 c439, .map (some g444)], p442, p445] ∧ n427 = x424.length ∧ Row TEntry.K F p429 (.slice A425 n427 c426) x424 ∧ n440 = x437.q.l.length ∧ Row TEntry.K F p442 (.slice A438 n440 c439) x437.q.l ∧ MRow (Value.int .i64) (Value.int .i64) p445 g444 x437.q.place ∧ agenda_Agenda_Due.l1 g_ a1 x424 x432 x436 x437 = some (x312, x319)) k ⟨([] : List TEntry), r22, r23, a0, none, 0, 0, CH.emp, g26, 0, A3, c4, n5, p7, g9, p10, rfl, rfl, rfl, rfl, rfl, C525, rfl, (Row.nil _ _), hn6, hR8, hM11, hX330⟩ ?_
    clear hX330
    rintro g_ env_ w_ ⟨x424, x432, x436, x437, A425, c426, n427, p429, g433, o434, A438, c439, n440, p442, g444, p445, ho421, ho422, ho423, ho431, ho435, C447, hn428, hR430, hn441, hR443, hM446, hX330⟩
    rcases g_ with _ | k524
    · exact absurd hX330 (by simp [agenda_Agenda_Due.l1])
    rw [agenda_Agenda_Due.l1] at hX330
    refine W.seq ?_
    refine W.seq ?_
    refine W.region rfl ?_
    refine WL.val (Yl.move (v := .bool x436) ho435) ?_
    refine WL.val (Yl.move (v := .bool x436) rfl) ?_
    obtain ⟨g526, HE527, hX330⟩ := bindE hX330
    refine WL.cut (fun env_ w_ => env_ 19 = .bool g526 ∧ env_ 0 = .pointer (some ⟨g1, o2, none⟩) ∧ env_ 1 = .int .i64 a1 ∧ env_ 5 = .slice A425 n427 c426 ∧ env_ 6 = .pointer (some ⟨g433, o434, none⟩) ∧ Ctx w F D w_ F [p429, CH.row g433 o434 [.int .i64 x432.At, .int .i64 x432.ID], CH.row g1 o2 [.slice A438 n440 c439, .map (some g444)], p442, p445]) ?_ ?_
    · skip
      rcases iteE HE527 with ⟨hc528, HE527⟩ | ⟨hc528, HE527⟩
      · skip
        refine WL.on rfl (congrArg Value.bool hc528) ?_
        refine WL.val (Yl.fieldAddr (i := 0) ho431 Try.underlying29 rfl sz3) ?_
        refine WL.on rfl (congrArg Value.bool hc528) ?_
        refine WL.val (Yl.loadV (g := g433) (off := o434) (o := 0) (cs := [.int .i64 x432.At, .int .i64 x432.ID]) (v := .int .i64 x432.At) rfl Try.underlying3 rfl (Ctx.sub_of [p429] [CH.row g1 o2 [.slice A438 n440 c439, .map (some g444)], p442, p445] C447) rfl) ?_
        refine WL.on rfl (congrArg Value.bool hc528) ?_
        refine WL.val (Yl.move (v := .int .i64 a1) ho422) ?_
        refine WL.on rfl (congrArg Value.bool hc528) ?_
        refine WL.val (Yl.leq (m := x432.At) (n := a1) (q := decide (x432.At ≤ a1)) rfl rfl rfl) ?_
        refine WL.val (Yl.pickT (v := .bool (decide (x432.At ≤ a1))) (congrArg Value.bool hc528) rfl) ?_
        cases HE527
        exact WL.done ⟨rfl, ho421, ho422, ho423, ho431, C447⟩
      · skip
        refine WL.off rfl (congrArg Value.bool (Bool.eq_false_iff.2 hc528)) ?_
        refine WL.off rfl (congrArg Value.bool (Bool.eq_false_iff.2 hc528)) ?_
        refine WL.off rfl (congrArg Value.bool (Bool.eq_false_iff.2 hc528)) ?_
        refine WL.off rfl (congrArg Value.bool (Bool.eq_false_iff.2 hc528)) ?_
        refine WL.val (Yl.pickF (v := .bool false) (congrArg Value.bool (Bool.eq_false_iff.2 hc528)) rfl) ?_
        cases HE527
        exact WL.done ⟨rfl, ho421, ho422, ho423, ho431, C447⟩
    · skip
      rintro env_ w_ ⟨ho529, ho530, ho531, ho532, ho533, C534⟩
      rcases iteE hX330 with ⟨hc535, hX330⟩ | ⟨hc535, hX330⟩
      · skip
        refine W.condT (ho529.trans (congrArg Value.bool hc535)) ?_
        refine W.skip ?_
        refine W.seq ?_
        refine W.block ?_
        refine W.region rfl ?_
        refine WL.val (Yl.move (v := .slice A425 n427 c426) ho532) ?_
        refine WL.val (Yl.move (v := .pointer (some ⟨g1, o2, none⟩)) ho530) ?_
        refine WL.val (Yl.nilCheck rfl) ?_
        refine WL.val (Yl.fieldAddr (i := 0) rfl Try.underlying53 rfl sz51) ?_
        refine WL.val (Yl.mkIface (v := .pointer (some ⟨g1, o2 + 0, none⟩)) rfl Try.underlying55 rfl) ?_
        have C536 : Ctx _ _ _ _ F [p429, CH.row g1 o2 [.slice A438 n440 c439, .map (some g444)], CH.row g433 o434 [.int .i64 x432.At, .int .i64 x432.ID], p442, p445] := Ctx.swap [p429] [p442, p445] C534
        have C537 : Ctx _ _ _ _ F [CH.row g1 o2 [.slice A438 n440 c439, .map (some g444)], p429, CH.row g433 o434 [.int .i64 x432.At, .int .i64 x432.ID], p442, p445] := Ctx.swap [] [CH.row g433 o434 [.int .i64 x432.At, .int .i64 x432.ID], p442, p445] C536
        have C538 : Ctx _ _ _ _ F [CH.row g1 o2 [.slice A438 n440 c439, .map (some g444)], p429, p442, CH.row g433 o434 [.int .i64 x432.At, .int .i64 x432.ID], p445] := Ctx.swap [CH.row g1 o2 [.slice A438 n440 c439, .map (some g444)], p429] [p445] C537
        have C539 : Ctx _ _ _ _ F [CH.row g1 o2 [.slice A438 n440 c439, .map (some g444)], p442, p429, CH.row g433 o434 [.int .i64 x432.At, .int .i64 x432.ID], p445] := Ctx.swap [CH.row g1 o2 [.slice A438 n440 c439, .map (some g444)]] [CH.row g433 o434 [.int .i64 x432.At, .int .i64 x432.ID], p445] C538
        have C540 : Ctx _ _ _ _ F [CH.row g1 o2 [.slice A438 n440 c439, .map (some g444)], p442, p429, p445, CH.row g433 o434 [.int .i64 x432.At, .int .i64 x432.ID]] := Ctx.swap [CH.row g1 o2 [.slice A438 n440 c439, .map (some g444)], p442, p429] [] C539
        have C541 : Ctx _ _ _ _ F [CH.row g1 o2 [.slice A438 n440 c439, .map (some g444)], p442, p445, p429, CH.row g433 o434 [.int .i64 x432.At, .int .i64 x432.ID]] := Ctx.swap [CH.row g1 o2 [.slice A438 n440 c439, .map (some g444)], p442] [CH.row g433 o434 [.int .i64 x432.At, .int .i64 x432.ID]] C540
        obtain ⟨⟨r543, r544⟩, hg542, hX330⟩ := bindE hX330
        refine WL.call (args := #[.iface 55 (.pointer (some ⟨g1, o2 + 0, none⟩))]) (Yenter.fn Try.func25 (by kernel_rfl) rfl (argsE (.cons rfl .nil))) (heap_Pop.calls k524 _ F g1 o2 A438 c439 n440 p442 g444 p445 x437.q (Ctx.pre (qs := [CH.row g1 o2 [.slice A438 n440 c439, .map (some g444)], p442, p445]) (rest := [p429, CH.row g433 o434 [.int .i64 x432.At, .int .i64 x432.ID]]) C541) hn441 hR443 hM446 r543 r544 hg542) ?_
        rintro e_ w_ ⟨A545, c546, n547, p549, g551, p552, rfl, C554, hn548, hR550, hM553⟩
        refine ⟨_, rfl, ?_⟩
        have C555 : Ctx _ _ _ _ F [CH.row g1 o2 [.slice A545 n547 c546, .map (some g551)], p549, p552, p429, CH.row g433 o434 [.int .i64 x432.At, .int .i64 x432.ID]] := Ctx.call (qs := [CH.row g1 o2 [.slice A438 n440 c439, .map (some g444)], p442, p445]) (rest := [p429, CH.row g433 o434 [.int .i64 x432.At, .int .i64 x432.ID]]) C541 C554
        refine WL.val (Yl.assertV (v := .agg (List.toArray [.int .i64 r543.At, .int .i64 r543.ID])) rfl Try.underlying29 rfl) ?_
        obtain ⟨A556, c557, n558, p559, w560, hn561, hy562, C563, hR564⟩ := ev_lit1' (P := Try.prog) 29 TEntry.K C555 Try.underlying22 ti29 ⟨by decide, by decide⟩ r543 (.agg (List.toArray [.int .i64 r543.At, .int .i64 r543.ID])) (TEntry.mk' _ r543  )
        refine WL.val (hy562 _ _ _ rfl) ?_
        obtain ⟨hc565, hX330⟩ := guardE hX330
        obtain ⟨A566, c567, n568, p569, w570, hn571, hy572, C573, hR574⟩ := ev_append' (P := Try.prog) (cb := c557) 29 TEntry.K [p559, CH.row g1 o2 [.slice A545 n547 c546, .map (some g551)], p549, p552] [CH.row g433 o434 [.int .i64 x432.At, .int .i64 x432.ID]] C563 hR430 hn561 (Row.sl hR564) (Ctx.sub_of [] [CH.row g1 o2 [.slice A545 n547 c546, .map (some g551)], p549, p552, p429, CH.row g433 o434 [.int .i64 x432.At, .int .i64 x432.ID]] C563) Try.underlying22 ti29 rfl zo29 (by decide) (by decide) (by simpa using hc565)
        have C575 : Ctx _ _ _ _ F [p559, CH.row g1 o2 [.slice A545 n547 c546, .map (some g551)], p549, p552, p569, CH.row g433 o434 [.int .i64 x432.At, .int .i64 x432.ID]] := C573
        refine WL.val (hy572 _ _ _ _ rfl rfl) ?_
        refine WL.val (Yl.assign (v := .slice A566 n568 c567) rfl) ?_
        refine WL.done ?_
        refine inB_n ?_
        refine W.seq ?_
        refine W.seq ?_
        refine W.region rfl ?_
        refine WL.val (Yl.loadVA (g := g433) (off := o434) (o := 0) (cs := [.int .i64 x432.At, .int .i64 x432.ID]) (us := [.int .i64 x432.At, .int .i64 x432.ID]) ho533 Try.underlying29 rfl sz29 (Ctx.sub_of [p559, CH.row g1 o2 [.slice A545 n547 c546, .map (some g551)], p549, p552, p569] [] C575) rfl) ?_
        refine WL.done ?_
        refine W.region rfl ?_
        obtain ⟨g576, w577, hy578, C579⟩ := ev_alloc (P := Try.prog) (e := 29) [.int .i64 0, .int .i64 0] C575 zr29 rfl
        refine WL.val (hy578 _ _) ?_
        obtain ⟨w580, hy581, C582⟩ := ev_set (P := Try.prog) (ps1 := []) (ps2 := [p559, CH.row g1 o2 [.slice A545 n547 c546, .map (some g551)], p549, p552, p569, CH.row g433 o434 [.int .i64 x432.At, .int .i64 x432.ID]]) (t := 29) (o := 0) [.int .i64 0, .int .i64 0] [] [.int .i64 0, .int .i64 0] [] [.int .i64 x432.At, .int .i64 x432.ID] (.agg (List.toArray [.int .i64 x432.At, .int .i64 x432.ID])) C579 rfl rfl rfl rfl (by simp [Value.oneCell']) sz29
        have C583 : Ctx _ _ _ _ F [CH.row g576 0 [.int .i64 x432.At, .int .i64 x432.ID], p559, CH.row g1 o2 [.slice A545 n547 c546, .map (some g551)], p549, p552, p569, CH.row g433 o434 [.int .i64 x432.At, .int .i64 x432.ID]] := C582
        refine WL.skip (hy581 _ _ _ _ rfl rfl) ?_
        refine WL.done ?_
        refine W.region rfl ?_
        refine WL.val (Yl.move (v := .pointer (some ⟨g1, o2, none⟩)) ho530) ?_
        have le584 : CH.le F (CH.join F (CH.row g1 o2 [.slice A545 n547 c546, .map (some g551)])) := CH.le_joinL _ _
        have lp585 : CH.le (CH.row g1 o2 [.slice A545 n547 c546, .map (some g551)]) (CH.join F (CH.row g1 o2 [.slice A545 n547 c546, .map (some g551)])) := CH.le_joinR (Ctx.dis_of [CH.row g576 0 [.int .i64 x432.At, .int .i64 x432.ID], p559] [p549, p552, p569, CH.row g433 o434 [.int .i64 x432.At, .int .i64 x432.ID]] C583)
        have C586 : Ctx _ _ _ _ (CH.join F (CH.row g1 o2 [.slice A545 n547 c546, .map (some g551)])) [CH.row g576 0 [.int .i64 x432.At, .int .i64 x432.ID], p559, p549, p552, p569, CH.row g433 o434 [.int .i64 x432.At, .int .i64 x432.ID]] := Ctx.freeze [CH.row g576 0 [.int .i64 x432.At, .int .i64 x432.ID], p559] [p549, p552, p569, CH.row g433 o434 [.int .i64 x432.At, .int .i64 x432.ID]] C583
        have le587 : CH.le (CH.join F (CH.row g1 o2 [.slice A545 n547 c546, .map (some g551)])) (CH.join (CH.join F (CH.row g1 o2 [.slice A545 n547 c546, .map (some g551)])) p549) := CH.le_joinL _ _
        have lp588 : CH.le p549 (CH.join (CH.join F (CH.row g1 o2 [.slice A545 n547 c546, .map (some g551)])) p549) := CH.le_joinR (Ctx.dis_of [CH.row g576 0 [.int .i64 x432.At, .int .i64 x432.ID], p559] [p552, p569, CH.row g433 o434 [.int .i64 x432.At, .int .i64 x432.ID]] C586)
        have C589 : Ctx _ _ _ _ (CH.join (CH.join F (CH.row g1 o2 [.slice A545 n547 c546, .map (some g551)])) p549) [CH.row g576 0 [.int .i64 x432.At, .int .i64 x432.ID], p559, p552, p569, CH.row g433 o434 [.int .i64 x432.At, .int .i64 x432.ID]] := Ctx.freeze [CH.row g576 0 [.int .i64 x432.At, .int .i64 x432.ID], p559] [p552, p569, CH.row g433 o434 [.int .i64 x432.At, .int .i64 x432.ID]] C586
        have le590 : CH.le (CH.join (CH.join F (CH.row g1 o2 [.slice A545 n547 c546, .map (some g551)])) p549) (CH.join (CH.join (CH.join F (CH.row g1 o2 [.slice A545 n547 c546, .map (some g551)])) p549) p552) := CH.le_joinL _ _
        have lp591 : CH.le p552 (CH.join (CH.join (CH.join F (CH.row g1 o2 [.slice A545 n547 c546, .map (some g551)])) p549) p552) := CH.le_joinR (Ctx.dis_of [CH.row g576 0 [.int .i64 x432.At, .int .i64 x432.ID], p559] [p569, CH.row g433 o434 [.int .i64 x432.At, .int .i64 x432.ID]] C589)
        have C592 : Ctx _ _ _ _ (CH.join (CH.join (CH.join F (CH.row g1 o2 [.slice A545 n547 c546, .map (some g551)])) p549) p552) [CH.row g576 0 [.int .i64 x432.At, .int .i64 x432.ID], p559, p569, CH.row g433 o434 [.int .i64 x432.At, .int .i64 x432.ID]] := Ctx.freeze [CH.row g576 0 [.int .i64 x432.At, .int .i64 x432.ID], p559] [p569, CH.row g433 o434 [.int .i64 x432.At, .int .i64 x432.ID]] C589
        obtain ⟨⟨r594, r595⟩, hg593, hX330⟩ := bindE hX330
        refine WL.call (args := #[.pointer (some ⟨g1, o2, none⟩)]) (Yenter.fn Try.func19 (by kernel_rfl) rfl (argsE (.cons rfl .nil))) (agenda_Agenda_Next.calls k524 _ (CH.join (CH.join (CH.join F (CH.row g1 o2 [.slice A545 n547 c546, .map (some g551)])) p549) p552) g1 o2 A545 c546 n547 g551 p552 (⟨r544⟩ : TAgenda) (Ctx.pre (qs := []) (rest := [CH.row g576 0 [.int .i64 x432.At, .int .i64 x432.ID], p559, p569, CH.row g433 o434 [.int .i64 x432.At, .int .i64 x432.ID]]) C592) hn548 (Row.len_le hR550).1 (Row.len_le hR550).2.1 (Sl.mono (Row.sl hR550) (CH.le_trans (CH.le_trans le584 le587) le590) (CH.le_trans lp588 le590)) hM553 lp591 (CH.le_trans (CH.le_trans lp585 le587) le590) r594 r595 hg593) ?_
        rintro e_ w_ ⟨rfl, C596⟩
        refine ⟨_, rfl, ?_⟩
        have C597 : Ctx _ _ _ _ F [CH.row g576 0 [.int .i64 x432.At, .int .i64 x432.ID], p559, CH.row g1 o2 [.slice A545 n547 c546, .map (some g551)], p549, p552, p569, CH.row g433 o434 [.int .i64 x432.At, .int .i64 x432.ID]] := Ctx.callL (qs := []) (rest := [CH.row g576 0 [.int .i64 x432.At, .int .i64 x432.ID], p559, CH.row g1 o2 [.slice A545 n547 c546, .map (some g551)], p549, p552, p569, CH.row g433 o434 [.int .i64 x432.At, .int .i64 x432.ID]]) C583 (CH.le_trans (CH.le_trans le584 le587) le590) C596
        refine WL.val (Yl.move (v := .tuple #[(.agg (List.toArray [.int .i64 r594.At, .int .i64 r594.ID])), (.bool r595)]) rfl) ?_
        refine WL.val (Yl.extract (v := .agg (List.toArray [.int .i64 r594.At, .int .i64 r594.ID])) rfl rfl) ?_
        refine WL.val (Yl.extract (v := .bool r595) rfl rfl) ?_
        obtain ⟨w598, hy599, C600⟩ := ev_set (P := Try.prog) (ps1 := []) (ps2 := [p559, CH.row g1 o2 [.slice A545 n547 c546, .map (some g551)], p549, p552, p569, CH.row g433 o434 [.int .i64 x432.At, .int .i64 x432.ID]]) (t := 29) (o := 0) [.int .i64 x432.At, .int .i64 x432.ID] [] [.int .i64 x432.At, .int .i64 x432.ID] [] [.int .i64 r594.At, .int .i64 r594.ID] (.agg (List.toArray [.int .i64 r594.At, .int .i64 r594.ID])) C597 rfl rfl rfl rfl (by simp [Value.oneCell']) sz29
        have C601 : Ctx _ _ _ _ F [CH.row g576 0 [.int .i64 r594.At, .int .i64 r594.ID], p559, CH.row g1 o2 [.slice A545 n547 c546, .map (some g551)], p549, p552, p569, CH.row g433 o434 [.int .i64 x432.At, .int .i64 x432.ID]] := C600
        refine WL.skip (hy599 _ _ _ _ rfl rfl) ?_
        refine WL.val (Yl.assign (v := .bool r595) rfl) ?_
        refine WL.done ?_
        have C602 : Ctx _ _ _ _ F [CH.row g576 0 [.int .i64 r594.At, .int .i64 r594.ID], CH.row g1 o2 [.slice A545 n547 c546, .map (some g551)], p549, p552, p569, CH.row g433 o434 [.int .i64 x432.At, .int .i64 x432.ID]] := Ctx.drop [CH.row g576 0 [.int .i64 r594.At, .int .i64 r594.ID]] [CH.row g1 o2 [.slice A545 n547 c546, .map (some g551)], p549, p552, p569, CH.row g433 o434 [.int .i64 x432.At, .int .i64 x432.ID]] C601
        have C603 : Ctx _ _ _ _ F [CH.row g576 0 [.int .i64 r594.At, .int .i64 r594.ID], CH.row g1 o2 [.slice A545 n547 c546, .map (some g551)], p549, p552, p569] := Ctx.drop [CH.row g576 0 [.int .i64 r594.At, .int .i64 r594.ID], CH.row g1 o2 [.slice A545 n547 c546, .map (some g551)], p549, p552, p569] [] C602
        have C604 : Ctx _ _ _ _ F [CH.row g576 0 [.int .i64 r594.At, .int .i64 r594.ID], CH.row g1 o2 [.slice A545 n547 c546, .map (some g551)], p549, p569, p552] := Ctx.swap [CH.row g576 0 [.int .i64 r594.At, .int .i64 r594.ID], CH.row g1 o2 [.slice A545 n547 c546, .map (some g551)], p549] [] C603
        have C605 : Ctx _ _ _ _ F [CH.row g576 0 [.int .i64 r594.At, .int .i64 r594.ID], CH.row g1 o2 [.slice A545 n547 c546, .map (some g551)], p569, p549, p552] := Ctx.swap [CH.row g576 0 [.int .i64 r594.At, .int .i64 r594.ID], CH.row g1 o2 [.slice A545 n547 c546, .map (some g551)]] [p552] C604
        have C606 : Ctx _ _ _ _ F [CH.row g576 0 [.int .i64 r594.At, .int .i64 r594.ID], p569, CH.row g1 o2 [.slice A545 n547 c546, .map (some g551)], p549, p552] := Ctx.swap [CH.row g576 0 [.int .i64 r594.At, .int .i64 r594.ID]] [p549, p552] C605
        have C607 : Ctx _ _ _ _ F [p569, CH.row g576 0 [.int .i64 r594.At, .int .i64 r594.ID], CH.row g1 o2 [.slice A545 n547 c546, .map (some g551)], p549, p552] := Ctx.swap [] [CH.row g1 o2 [.slice A545 n547 c546, .map (some g551)], p549, p552] C606
        exact thenE_n ⟨k524, Nat.lt_succ_self _, x424 ++ [r543], r594, r595, (⟨r544⟩ : TAgenda), A566, c567, n568, p569, g576, 0, A545, c546, n547, p549, g551, p552, ho530, ho531, rfl, rfl, rfl, C607, hn571, hR574, hn548, hR550, hM553, hX330⟩
      · skip
        refine W.condF (ho529.trans (congrArg Value.bool (Bool.eq_false_iff.2 hc535))) ?_
        refine W.exit ?_
        refine thenE_x ?_
        refine thenE_x ?_
        refine inB_here ?_
        have C608 : Ctx _ _ _ _ F [p429, CH.row g1 o2 [.slice A438 n440 c439, .map (some g444)], p442, p445] := Ctx.drop [p429] [CH.row g1 o2 [.slice A438 n440 c439, .map (some g444)], p442, p445] C534
        cases hX330
        refine thenE_n ?_
        exact ⟨A425, c426, n427, p429, A438, c439, n440, p442, g444, p445, ho532, C608, hn428, hR430, hn441, hR443, hM446⟩
  · skip
    rintro env_ w_ ⟨A313, c314, n315, p317, A320, c321, n322, p324, g326, p327, ho311, C329, hn316, hR318, hn323, hR325, hM328⟩
    refine W.seq ?_
    refine W.region rfl ?_
    refine WL.val (Yl.move (v := .slice A313 n315 c314) ho311) ?_
    refine WL.val (Yl.assign (v := .slice A313 n315 c314) rfl) ?_
    refine WL.done ?_
    refine W.ret ?_
    have C609 : Ctx _ _ _ _ F [CH.row g1 o2 [.slice A320 n322 c321, .map (some g326)], p317, p324, p327] := Ctx.swap [] [p324, p327] C329
    have C610 : Ctx _ _ _ _ F [CH.row g1 o2 [.slice A320 n322 c321, .map (some g326)], p324, p317, p327] := Ctx.swap [CH.row g1 o2 [.slice A320 n322 c321, .map (some g326)]] [p327] C609
    have C611 : Ctx _ _ _ _ F [CH.row g1 o2 [.slice A320 n322 c321, .map (some g326)], p324, p327, p317] := Ctx.swap [CH.row g1 o2 [.slice A320 n322 c321, .map (some g326)], p324] [] C610
    cases H
    exact post_r (resE1 rfl rfl) ⟨A313, c314, n315, p317, A320, c321, n322, p324, g326, p327, rfl, C611, hn316, hR318, hn323, hR325, hM328⟩
/-! ### (*jurat/agenda.Agenda).Len: function 12 -/
def agenda_Agenda_Len_nil.f (k : Nat)  : Option Int := some 0
set_option maxRecDepth 100000 in
set_option maxHeartbeats 4000000 in
theorem agenda_Agenda_Len_nil.calls (k : Nat) (w : World) (F : CH)  (hp : Pre w F [])  (r0_ : Int) (H : agenda_Agenda_Len_nil.f k  = some r0_) :
    Calls Try.prog 12 #[.pointer none] w fun e w' => e = .returned (.int .i64 r0_) ∧ (∃ n_, w' = w.drewN n_) := by
  have C := Ctx.start hp
  generalize domL [] = D at C
  have W0 : ∃ n_, w = w.drewN n_ := ⟨0, rfl⟩
  unfold agenda_Agenda_Len_nil.f at H
  refine Calls.ofW Try.func12 rfl (by simp [Try.ntmps12]) ?_
  refine W.seq ?_
  refine W.region rfl ?_
  refine WL.val (Yl.assign (v := .int .i64 0) rfl) ?_
  refine WL.done ?_
  refine W.seq ?_
  refine W.seq ?_
  refine W.region rfl ?_
  refine WL.val (Yl.move (v := .pointer none) rfl) ?_
  refine WL.val (Yl.ptrEqNN rfl rfl Try.underlying24) ?_
  refine WL.done ?_
  refine W.condT rfl ?_
  refine W.seq ?_
  refine W.region rfl ?_
  refine WL.val (Yl.assign (v := .int .i64 0) rfl) ?_
  refine WL.done ?_
  refine W.ret ?_
  refine thenE_r ?_
  cases H
  exact post_r (resE1 rfl rfl) ⟨rfl, W0⟩
/-! ### (*jurat/agenda.Agenda).Next: function 19 -/
def agenda_Agenda_Next_nil.f (k : Nat)  : Option (TEntry × Bool) := some ((⟨0, 0⟩ : TEntry), false)
set_option maxRecDepth 100000 in
set_option maxHeartbeats 4000000 in
theorem agenda_Agenda_Next_nil.calls (k : Nat) (w : World) (F : CH)  (hp : Pre w F [])  (r0_ : TEntry) (r1_ : Bool) (H : agenda_Agenda_Next_nil.f k  = some (r0_, r1_)) :
    Calls Try.prog 19 #[.pointer none] w fun e w' => e = .returned (.tuple #[(.agg (List.toArray [.int .i64 r0_.At, .int .i64 r0_.ID])), (.bool r1_)]) ∧ Ctx w F (domL []) w' F [] := by
  have C := Ctx.start hp
  generalize hD : domL [] = D at C ⊢
  unfold agenda_Agenda_Next_nil.f at H
  refine Calls.ofW Try.func19 rfl (by simp [Try.ntmps19]) ?_
  refine W.seq ?_
  refine W.region rfl ?_
  obtain ⟨g1, w2, hy3, C4⟩ := ev_alloc (P := Try.prog) (e := 29) [.int .i64 0, .int .i64 0] C zr29 rfl
  refine WL.val (hy3 _ _) ?_
  refine WL.val (Yl.assign (v := .bool false) rfl) ?_
  refine WL.done ?_
  refine W.seq ?_
  refine W.seq ?_
  refine W.region rfl ?_
  refine WL.val (Yl.move (v := .pointer none) rfl) ?_
  refine WL.val (Yl.ptrEqNN rfl rfl Try.underlying24) ?_
  refine WL.val (Yl.move (v := .bool true) rfl) ?_
  refine WL.off rfl rfl ?_
  refine WL.off rfl rfl ?_
  refine WL.off rfl rfl ?_
  refine WL.off rfl rfl ?_
  refine WL.off rfl rfl ?_
  refine WL.val (Yl.pickT (v := .bool true) rfl rfl) ?_
  refine WL.done ?_
  refine W.condT rfl ?_
  refine W.seq ?_
  refine W.region rfl ?_
  refine WL.val (Yl.build (places := [(0, 1), (1, 1)]) (cs := List.toArray [.int .i64 0, .int .i64 0]) Try.underlying29 zr29 (pl29 _ Try.underlying29) (partsB .nil) rfl) ?_
  obtain ⟨w5, hy6, C7⟩ := ev_set (P := Try.prog) (ps1 := []) (ps2 := []) (t := 29) (o := 0) [.int .i64 0, .int .i64 0] [] [.int .i64 0, .int .i64 0] [] [.int .i64 0, .int .i64 0] (.agg (List.toArray [.int .i64 0, .int .i64 0])) C4 rfl rfl rfl rfl (by simp [Value.oneCell']) sz29
  have C8 : Ctx _ _ _ _ F [CH.row g1 0 [.int .i64 0, .int .i64 0]] := C7
  refine WL.skip (hy6 _ _ _ _ rfl rfl) ?_
  refine WL.val (Yl.assign (v := .bool false) rfl) ?_
  refine WL.done ?_
  refine W.ret ?_
  refine thenE_r ?_
  have C9 : Ctx _ _ _ _ F [] := Ctx.drop [] [] C8
  cases H
  exact post_r (resET rfl ((.cell rfl (run_loadVA2 (g := g1) (off := 0) (o := 0) (cs := [.int .i64 0, .int .i64 0]) (us := [.int .i64 0, .int .i64 0]) Try.underlying29 rfl sz29 (Ctx.sub_of [] [] C8) rfl) (.tmp rfl .nil))) rfl) ⟨rfl, C9⟩
/-! ### (*jurat/agenda.Agenda).At: function 17 -/
def agenda_Agenda_At_nil.f (k : Nat) (a1 : Int) : Option (Int × Bool) := some (0, false)
set_option maxRecDepth 100000 in
set_option maxHeartbeats 4000000 in
theorem agenda_Agenda_At_nil.calls (k : Nat) (w : World) (F : CH) (a1 : Int) (hp : Pre w F [])  (r0_ : Int) (r1_ : Bool) (H : agenda_Agenda_At_nil.f k a1 = some (r0_, r1_)) :
    Calls Try.prog 17 #[.pointer none, .int .i64 a1] w fun e w' => e = .returned (.tuple #[(.int .i64 r0_), (.bool r1_)]) ∧ (∃ n_, w' = w.drewN n_) := by
  have C := Ctx.start hp
  generalize domL [] = D at C
  have W0 : ∃ n_, w = w.drewN n_ := ⟨0, rfl⟩
  unfold agenda_Agenda_At_nil.f at H
  refine Calls.ofW Try.func17 rfl (by simp [Try.ntmps17]) ?_
  refine W.seq ?_
  refine W.region rfl ?_
  refine WL.val (Yl.assign (v := .int .i64 0) rfl) ?_
  refine WL.val (Yl.assign (v := .bool false) rfl) ?_
  refine WL.done ?_
  refine W.seq ?_
  refine W.seq ?_
  refine W.region rfl ?_
  refine WL.val (Yl.move (v := .pointer none) rfl) ?_
  refine WL.val (Yl.ptrEqNN rfl rfl Try.underlying24) ?_
  refine WL.done ?_
  refine W.condT rfl ?_
  refine W.seq ?_
  refine W.region rfl ?_
  refine WL.val (Yl.assign (v := .int .i64 0) rfl) ?_
  refine WL.val (Yl.assign (v := .bool false) rfl) ?_
  refine WL.done ?_
  refine W.ret ?_
  refine thenE_r ?_
  cases H
  exact post_r (resE2 rfl rfl rfl) ⟨rfl, W0⟩
/-! ### (*jurat/agenda.Agenda).Put: function 10 -/
def agenda_Agenda_Put_nil.f (k : Nat) (a1 : TEntry) : Option Int := some 2
set_option maxRecDepth 100000 in
set_option maxHeartbeats 4000000 in
theorem agenda_Agenda_Put_nil.calls (k : Nat) (w : World) (F : CH) (a1 : TEntry) (hp : Pre w F [])  (r0_ : Int) (H : agenda_Agenda_Put_nil.f k a1 = some r0_) :
    Calls Try.prog 10 #[.pointer none, .agg (List.toArray [.int .i64 a1.At, .int .i64 a1.ID])] w fun e w' => e = .returned (.int .i64 r0_) ∧ Ctx w F (domL []) w' F [] := by
  have C := Ctx.start hp
  generalize hD : domL [] = D at C ⊢
  unfold agenda_Agenda_Put_nil.f at H
  refine Calls.ofW Try.func10 rfl (by simp [Try.ntmps10]) ?_
  refine W.seq ?_
  refine W.region rfl ?_
  obtain ⟨g1, w2, hy3, C4⟩ := ev_box (P := Try.prog) 29 (.agg (List.toArray [.int .i64 a1.At, .int .i64 a1.ID])) [.int .i64 a1.At, .int .i64 a1.ID] C rfl
  refine WL.val (hy3 _ _ _ rfl) ?_
  refine WL.val (Yl.assign (v := .int .i64 0) rfl) ?_
  refine WL.done ?_
  refine W.seq ?_
  refine W.seq ?_
  refine W.region rfl ?_
  refine WL.val (Yl.move (v := .pointer none) rfl) ?_
  refine WL.val (Yl.ptrEqNN rfl rfl Try.underlying24) ?_
  refine WL.done ?_
  refine W.condT rfl ?_
  refine W.seq ?_
  refine W.region rfl ?_
  refine WL.val (Yl.assign (v := .int .i64 2) rfl) ?_
  refine WL.done ?_
  refine W.ret ?_
  refine thenE_r ?_
  have C5 : Ctx _ _ _ _ F [] := Ctx.drop [] [] C4
  cases H
  exact post_r (resE1 rfl rfl) ⟨rfl, C5⟩
/-! ### (*jurat/agenda.Agenda).Drop: function 15 -/
def agenda_Agenda_Drop_nil.f (k : Nat) (a1 : Int) : Option Bool := some false
set_option maxRecDepth 100000 in
set_option maxHeartbeats 4000000 in
theorem agenda_Agenda_Drop_nil.calls (k : Nat) (w : World) (F : CH) (a1 : Int) (hp : Pre w F [])  (r0_ : Bool) (H : agenda_Agenda_Drop_nil.f k a1 = some r0_) :
    Calls Try.prog 15 #[.pointer none, .int .i64 a1] w fun e w' => e = .returned (.bool r0_) ∧ (∃ n_, w' = w.drewN n_) := by
  have C := Ctx.start hp
  generalize domL [] = D at C
  have W0 : ∃ n_, w = w.drewN n_ := ⟨0, rfl⟩
  unfold agenda_Agenda_Drop_nil.f at H
  refine Calls.ofW Try.func15 rfl (by simp [Try.ntmps15]) ?_
  refine W.seq ?_
  refine W.region rfl ?_
  refine WL.val (Yl.assign (v := .bool false) rfl) ?_
  refine WL.done ?_
  refine W.seq ?_
  refine W.seq ?_
  refine W.region rfl ?_
  refine WL.val (Yl.move (v := .pointer none) rfl) ?_
  refine WL.val (Yl.ptrEqNN rfl rfl Try.underlying24) ?_
  refine WL.done ?_
  refine W.condT rfl ?_
  refine W.seq ?_
  refine W.region rfl ?_
  refine WL.val (Yl.assign (v := .bool false) rfl) ?_
  refine WL.done ?_
  refine W.ret ?_
  refine thenE_r ?_
  cases H
  exact post_r (resE1 rfl rfl) ⟨rfl, W0⟩
/-! ### (*jurat/agenda.Agenda).Due: function 11 -/
def agenda_Agenda_Due_nil.l1 : Nat → Int → TEntry → List TEntry → Bool → Option (List TEntry)
  | 0, _, _, _, _ => none
  | k + 1, a1, r2, x65, x74 => (if x74 = true then (some (decide (r2.At ≤ a1))) else (some (false))).bind fun g89 => if g89 = true then (if False then (none) else none) else (some x65)
def agenda_Agenda_Due_nil.f (k : Nat) (a1 : Int) : Option (List TEntry) := (agenda_Agenda_Next_nil.f k ).bind fun ⟨r2, r3⟩ => (agenda_Agenda_Due_nil.l1 k a1 r2 ([] : List TEntry) r3).bind fun x53 => some x53
set_option maxRecDepth 100000 in
set_option maxHeartbeats 4000000 in
theorem agenda_Agenda_Due_nil.calls (k : Nat) (w : World) (F : CH) (a1 : Int) (hp : Pre w F [])  (r0_ : List TEntry) (H : agenda_Agenda_Due_nil.f k a1 = some r0_) :
    Calls Try.prog 11 #[.pointer none, .int .i64 a1] w fun e w' => ∃ (A101 : Option Addr) (c102 : Nat) (n103 : Nat) (p105 : CH), e = .returned (.slice A101 n103 c102) ∧ Ctx w F (domL []) w' F [p105] ∧ n103 = r0_.length ∧ Row TEntry.K F p105 (.slice A101 n103 c102) r0_ := by
  have C := Ctx.start hp
  generalize hD : domL [] = D at C ⊢
  unfold agenda_Agenda_Due_nil.f at H
  refine Calls.ofW Try.func11 rfl (by simp [Try.ntmps11]) ?_
  refine W.seq ?_
  refine W.region rfl ?_
  refine WL.val (Yl.assign (v := .slice none 0 0) rfl) ?_
  refine WL.done ?_
  refine W.seq ?_
  refine W.region rfl ?_
  refine WL.val (Yl.assign (v := .slice none 0 0) rfl) ?_
  refine WL.done ?_
  refine W.seq ?_
  refine W.seq ?_
  refine W.region rfl ?_
  refine WL.val (Yl.move (v := .pointer none) rfl) ?_
  obtain ⟨⟨r2, r3⟩, hg1, H⟩ := bindE H
  refine WL.call (args := #[.pointer none]) (Yenter.fn Try.func19 (by kernel_rfl) rfl (argsE (.cons rfl .nil))) (agenda_Agenda_Next_nil.calls k _ F  (Ctx.pre (qs := []) (rest := []) C)  r2 r3 hg1) ?_
  rintro e_ w_ ⟨rfl, C4⟩
  refine ⟨_, rfl, ?_⟩
  have C5 : Ctx _ _ _ _ F [] := Ctx.call (qs := []) (rest := []) C C4
  refine WL.val (Yl.move (v := .tuple #[(.agg (List.toArray [.int .i64 r2.At, .int .i64 r2.ID])), (.bool r3)]) rfl) ?_
  refine WL.val (Yl.extract (v := .agg (List.toArray [.int .i64 r2.At, .int .i64 r2.ID])) rfl rfl) ?_
  refine WL.val (Yl.extract (v := .bool r3) rfl rfl) ?_
  obtain ⟨g6, w7, hy8, C9⟩ := ev_alloc (P := Try.prog) (e := 29) [.int .i64 0, .int .i64 0] C5 zr29 rfl
  refine WL.val (hy8 _ _) ?_
  obtain ⟨w10, hy11, C12⟩ := ev_set (P := Try.prog) (ps1 := []) (ps2 := []) (t := 29) (o := 0) [.int .i64 0, .int .i64 0] [] [.int .i64 0, .int .i64 0] [] [.int .i64 r2.At, .int .i64 r2.ID] (.agg (List.toArray [.int .i64 r2.At, .int .i64 r2.ID])) C9 rfl rfl rfl rfl (by simp [Value.oneCell']) sz29
  have C13 : Ctx _ _ _ _ F [CH.row g6 0 [.int .i64 r2.At, .int .i64 r2.ID]] := C12
  refine WL.skip (hy11 _ _ _ _ rfl rfl) ?_
  refine WL.val (Yl.assign (v := .bool r3) rfl) ?_
  refine WL.done ?_
  obtain ⟨x53, hX61, H⟩ := bindE H
  refine W.cutM (fun env_ w_ => ∃ (A54 : Option Addr) (c55 : Nat) (n56 : Nat) (p58 : CH), env_ 5 = .slice A54 n56 c55 ∧ Ctx w F D w_ F [p58, CH.row g6 0 [.int .i64 r2.At, .int .i64 r2.ID]] ∧ n56 = x53.length ∧ Row TEntry.K F p58 (.slice A54 n56 c55) x53) ?_ ?_
  · skip
    refine W.block ?_
    have C88 : Ctx _ _ _ _ F [CH.emp, CH.row g6 0 [.int .i64 r2.At, .int .i64 r2.ID]] := Ctx.emp C13
    refine W.loop (fun g_ env_ w_ => ∃ (x65 : List TEntry) (x74 : Bool) (A66 : Option Addr) (c67 : Nat) (n68 : Nat) (p70 : CH), env_ 0 = .pointer none ∧ env_ 1 = .int .i64 a1 ∧ env_ 5 = .slice A66 n68 c67 ∧ env_ 6 = .pointer (some ⟨g6, 0, none⟩) ∧ env_ 7 = .bool x74 ∧ Ctx w F D w_ F [p70, CH.row g6 0 [.int .i64 r2.At, .int .i64 r2.ID]] ∧ n68 = x65.length ∧ Row TEntry.K F p70 (.slice A66 n68 c67) x65 ∧ agenda_Agenda_Due_nil.l1 g_ a1 r2 x65 x74 = some x53) k ⟨([] : List TEntry), r3, none, 0, 0, CH.emp, rfl, rfl, rfl, rfl, rfl, C88, rfl, (Row.nil _ _), hX61⟩ ?_
    clear hX61
    rintro g_ env_ w_ ⟨x65, x74, A66, c67, n68, p70, ho62, ho63, ho64, ho72, ho73, C75, hn69, hR71, hX61⟩
    rcases g_ with _ | k87
    · exact absurd hX61 (by simp [agenda_Agenda_Due_nil.l1])
    rw [agenda_Agenda_Due_nil.l1] at hX61
    refine W.seq ?_
    refine W.seq ?_
    refine W.region rfl ?_
    refine WL.val (Yl.move (v := .bool x74) ho73) ?_
    refine WL.val (Yl.move (v := .bool x74) rfl) ?_
    obtain ⟨g89, HE90, hX61⟩ := bindE hX61
    refine WL.cut (fun env_ w_ => env_ 19 = .bool g89 ∧ env_ 0 = .pointer none ∧ env_ 1 = .int .i64 a1 ∧ env_ 5 = .slice A66 n68 c67 ∧ env_ 6 = .pointer (some ⟨g6, 0, none⟩) ∧ Ctx w F D w_ F [p70, CH.row g6 0 [.int .i64 r2.At, .int .i64 r2.ID]]) ?_ ?_
    · skip
      rcases iteE HE90 with ⟨hc91, HE90⟩ | ⟨hc91, HE90⟩
      · skip
        refine WL.on rfl (congrArg Value.bool hc91) ?_
        refine WL.val (Yl.fieldAddr (i := 0) ho72 Try.underlying29 rfl sz3) ?_
        refine WL.on rfl (congrArg Value.bool hc91) ?_
        refine WL.val (Yl.loadV (g := g6) (off := 0) (o := 0) (cs := [.int .i64 r2.At, .int .i64 r2.ID]) (v := .int .i64 r2.At) rfl Try.underlying3 rfl (Ctx.sub_of [p70] [] C75) rfl) ?_
        refine WL.on rfl (congrArg Value.bool hc91) ?_
        refine WL.val (Yl.move (v := .int .i64 a1) ho63) ?_
        refine WL.on rfl (congrArg Value.bool hc91) ?_
        refine WL.val (Yl.leq (m := r2.At) (n := a1) (q := decide (r2.At ≤ a1)) rfl rfl rfl) ?_
        refine WL.val (Yl.pickT (v := .bool (decide (r2.At ≤ a1))) (congrArg Value.bool hc91) rfl) ?_
        cases HE90
        exact WL.done ⟨rfl, ho62, ho63, ho64, ho72, C75⟩
      · skip
        refine WL.off rfl (congrArg Value.bool (Bool.eq_false_iff.2 hc91)) ?_
        refine WL.off rfl (congrArg Value.bool (Bool.eq_false_iff.2 hc91)) ?_
        refine WL.off rfl (congrArg Value.bool (Bool.eq_false_iff.2 hc91)) ?_
        refine WL.off rfl (congrArg Value.bool (Bool.eq_false_iff.2 hc91)) ?_
        refine WL.val (Yl.pickF (v := .bool false) (congrArg Value.bool (Bool.eq_false_iff.2 hc91)) rfl) ?_
        cases HE90
        exact WL.done ⟨rfl, ho62, ho63, ho64, ho72, C75⟩
    · skip
      rintro env_ w_ ⟨ho92, ho93, ho94, ho95, ho96, C97⟩
      rcases iteE hX61 with ⟨hc98, hX61⟩ | ⟨hc98, hX61⟩
      · skip
        refine W.condT (ho92.trans (congrArg Value.bool hc98)) ?_
        refine W.skip ?_
        refine W.seq ?_
        refine W.block ?_
        refine W.region rfl ?_
        refine WL.val (Yl.move (v := .slice A66 n68 c67) ho95) ?_
        refine WL.val (Yl.move (v := .pointer none) ho93) ?_
        obtain ⟨hc99, hX61⟩ := guardE hX61
        exact hc99.elim
      · skip
        refine W.condF (ho92.trans (congrArg Value.bool (Bool.eq_false_iff.2 hc98))) ?_
        refine W.exit ?_
        refine thenE_x ?_
        refine thenE_x ?_
        refine inB_here ?_
        cases hX61
        refine thenE_n ?_
        exact ⟨A66, c67, n68, p70, ho95, C97, hn69, hR71⟩
  · skip
    rintro env_ w_ ⟨A54, c55, n56, p58, ho52, C60, hn57, hR59⟩
    refine W.seq ?_
    refine W.region rfl ?_
    refine WL.val (Yl.move (v := .slice A54 n56 c55) ho52) ?_
    refine WL.val (Yl.assign (v := .slice A54 n56 c55) rfl) ?_
    refine WL.done ?_
    refine W.ret ?_
    have C100 : Ctx _ _ _ _ F [p58] := Ctx.drop [p58] [] C60
    cases H
    exact post_r (resE1 rfl rfl) ⟨A54, c55, n56, p58, rfl, C100, hn57, hR59⟩
end Go.Proofs.Ytnoocbdpkddpbaa
