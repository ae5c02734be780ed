/- Functions of the program: each as a plain function of numbers and lists, and the proof that the program's own comes to it. Nothing is assumed but what each theorem says. -/
import Derived.Test.YtnoocbdpkddpbaaGc
namespace Go.Proofs.Ytnoocbdpkddpbaa
open Go.RowKit Go.WG
set_option linter.unusedVariables false
set_option linter.unusedSimpArgs false

/-! ### jurat/juratref13.before: function 26 -/
def juratref13_before.f (k : Nat) (a0 : TEntry) (a1 : TEntry) : Option Bool := (if a0.At < a1.At then (some (true)) else (if a0.At = a1.At then (some (decide (a0.ID < a1.ID))) else (some (false)))).bind fun g9 => some g9
set_option maxRecDepth 100000 in
set_option maxHeartbeats 4000000 in
theorem juratref13_before.calls (k : Nat) (w : World) (F : CH) (a0 : TEntry) (a1 : TEntry) (hp : Pre w F [])  (r0_ : Bool) (H : juratref13_before.f k a0 a1 = some r0_) :
    Calls Try.prog 26 #[.agg (List.toArray [.int .i64 a0.At, .int .i64 a0.ID]), .agg (List.toArray [.int .i64 a1.At, .int .i64 a1.ID])] w fun e w' => e = .returned (.bool r0_) ∧ Ctx w F (domL []) w' F [] := by
  have C := Ctx.start hp
  generalize hD : domL [] = D at C ⊢
  unfold juratref13_before.f at H
  refine Calls.ofW Try.func26 rfl (by simp [Try.ntmps26]) ?_
  refine W.seq ?_
  refine W.region rfl ?_
  obtain ⟨g1, w2, hy3, C4⟩ := ev_box (P := Try.prog) 29 (.agg (List.toArray [.int .i64 a0.At, .int .i64 a0.ID])) [.int .i64 a0.At, .int .i64 a0.ID] C rfl
  refine WL.val (hy3 _ _ _ rfl) ?_
  obtain ⟨g5, w6, hy7, C8⟩ := ev_box (P := Try.prog) 29 (.agg (List.toArray [.int .i64 a1.At, .int .i64 a1.ID])) [.int .i64 a1.At, .int .i64 a1.ID] C4 rfl
  refine WL.val (hy7 _ _ _ rfl) ?_
  refine WL.val (Yl.assign (v := .bool false) rfl) ?_
  refine WL.done ?_
  refine W.seq ?_
  refine W.region rfl ?_
  refine WL.val (Yl.fieldAddr (i := 0) rfl Try.underlying29 rfl sz3) ?_
  refine WL.val (Yl.loadV (g := g1) (off := 0) (o := 0) (cs := [.int .i64 a0.At, .int .i64 a0.ID]) (v := .int .i64 a0.At) rfl Try.underlying3 rfl (Ctx.sub_of [CH.row g5 0 [.int .i64 a1.At, .int .i64 a1.ID]] [] C8) rfl) ?_
  refine WL.val (Yl.fieldAddr (i := 0) rfl Try.underlying29 rfl sz3) ?_
  refine WL.val (Yl.loadV (g := g5) (off := 0) (o := 0) (cs := [.int .i64 a1.At, .int .i64 a1.ID]) (v := .int .i64 a1.At) rfl Try.underlying3 rfl (Ctx.sub_of [] [CH.row g1 0 [.int .i64 a0.At, .int .i64 a0.ID]] C8) rfl) ?_
  refine WL.val (Yl.lss (m := a0.At) (n := a1.At) (q := decide (a0.At < a1.At)) rfl rfl rfl) ?_
  refine WL.val (Yl.move (v := .bool (decide (a0.At < a1.At))) rfl) ?_
  obtain ⟨g9, HE10, H⟩ := bindE H
  refine WL.cut (fun env_ w_ => env_ 4 = .bool g9 ∧ Ctx w F D w_ F [CH.row g5 0 [.int .i64 a1.At, .int .i64 a1.ID], CH.row g1 0 [.int .i64 a0.At, .int .i64 a0.ID]]) ?_ ?_
  · skip
    rcases iteE HE10 with ⟨hc11, HE10⟩ | ⟨hc11, HE10⟩
    · skip
      refine WL.off rfl (congrArg Value.bool (decide_eq_true hc11)) ?_
      refine WL.off rfl (congrArg Value.bool (decide_eq_true hc11)) ?_
      refine WL.off rfl (congrArg Value.bool (decide_eq_true hc11)) ?_
      refine WL.off rfl (congrArg Value.bool (decide_eq_true hc11)) ?_
      refine WL.off rfl (congrArg Value.bool (decide_eq_true hc11)) ?_
      refine WL.off rfl (congrArg Value.bool (decide_eq_true hc11)) ?_
      refine WL.off' rfl rfl ?_
      refine WL.off' rfl rfl ?_
      refine WL.off' rfl rfl ?_
      refine WL.off' rfl rfl ?_
      refine WL.off' rfl rfl ?_
      refine WL.off rfl (congrArg Value.bool (decide_eq_true hc11)) ?_
      refine WL.val (Yl.pickT (v := .bool true) (congrArg Value.bool (decide_eq_true hc11)) rfl) ?_
      refine WL.val (Yl.assign (v := .bool true) rfl) ?_
      cases HE10
      exact WL.done ⟨rfl, C8⟩
    · skip
      refine WL.on rfl (congrArg Value.bool (decide_eq_false hc11)) ?_
      refine WL.val (Yl.fieldAddr (i := 0) rfl Try.underlying29 rfl sz3) ?_
      refine WL.on rfl (congrArg Value.bool (decide_eq_false hc11)) ?_
      refine WL.val (Yl.loadV (g := g1) (off := 0) (o := 0) (cs := [.int .i64 a0.At, .int .i64 a0.ID]) (v := .int .i64 a0.At) rfl Try.underlying3 rfl (Ctx.sub_of [CH.row g5 0 [.int .i64 a1.At, .int .i64 a1.ID]] [] C8) rfl) ?_
      refine WL.on rfl (congrArg Value.bool (decide_eq_false hc11)) ?_
      refine WL.val (Yl.fieldAddr (i := 0) rfl Try.underlying29 rfl sz3) ?_
      refine WL.on rfl (congrArg Value.bool (decide_eq_false hc11)) ?_
      refine WL.val (Yl.loadV (g := g5) (off := 0) (o := 0) (cs := [.int .i64 a1.At, .int .i64 a1.ID]) (v := .int .i64 a1.At) rfl Try.underlying3 rfl (Ctx.sub_of [] [CH.row g1 0 [.int .i64 a0.At, .int .i64 a0.ID]] C8) rfl) ?_
      refine WL.on rfl (congrArg Value.bool (decide_eq_false hc11)) ?_
      refine WL.val (Yl.eql (m := a0.At) (n := a1.At) (q := decide (a0.At = a1.At)) rfl rfl rfl) ?_
      refine WL.on rfl (congrArg Value.bool (decide_eq_false hc11)) ?_
      refine WL.val (Yl.move (v := .bool (decide (a0.At = a1.At))) rfl) ?_
      rcases iteE HE10 with ⟨hc12, HE10⟩ | ⟨hc12, HE10⟩
      · skip
        refine WL.on rfl (congrArg Value.bool (decide_eq_true hc12)) ?_
        refine WL.val (Yl.fieldAddr (i := 1) rfl Try.underlying29 rfl sz3) ?_
        refine WL.on rfl (congrArg Value.bool (decide_eq_true hc12)) ?_
        refine WL.val (Yl.loadV (g := g1) (off := 0) (o := 1) (cs := [.int .i64 a0.At, .int .i64 a0.ID]) (v := .int .i64 a0.ID) rfl Try.underlying3 rfl (Ctx.sub_of [CH.row g5 0 [.int .i64 a1.At, .int .i64 a1.ID]] [] C8) rfl) ?_
        refine WL.on rfl (congrArg Value.bool (decide_eq_true hc12)) ?_
        refine WL.val (Yl.fieldAddr (i := 1) rfl Try.underlying29 rfl sz3) ?_
        refine WL.on rfl (congrArg Value.bool (decide_eq_true hc12)) ?_
        refine WL.val (Yl.loadV (g := g5) (off := 0) (o := 1) (cs := [.int .i64 a1.At, .int .i64 a1.ID]) (v := .int .i64 a1.ID) rfl Try.underlying3 rfl (Ctx.sub_of [] [CH.row g1 0 [.int .i64 a0.At, .int .i64 a0.ID]] C8) rfl) ?_
        refine WL.on rfl (congrArg Value.bool (decide_eq_true hc12)) ?_
        refine WL.val (Yl.lss (m := a0.ID) (n := a1.ID) (q := decide (a0.ID < a1.ID)) rfl rfl rfl) ?_
        refine WL.on rfl (congrArg Value.bool (decide_eq_false hc11)) ?_
        refine WL.val (Yl.pickT (v := .bool (decide (a0.ID < a1.ID))) (congrArg Value.bool (decide_eq_true hc12)) rfl) ?_
        refine WL.val (Yl.pickF (v := .bool (decide (a0.ID < a1.ID))) (congrArg Value.bool (decide_eq_false hc11)) rfl) ?_
        refine WL.val (Yl.assign (v := .bool (decide (a0.ID < a1.ID))) rfl) ?_
        cases HE10
        exact WL.done ⟨rfl, C8⟩
      · skip
        refine WL.off rfl (congrArg Value.bool (decide_eq_false hc12)) ?_
        refine WL.off rfl (congrArg Value.bool (decide_eq_false hc12)) ?_
        refine WL.off rfl (congrArg Value.bool (decide_eq_false hc12)) ?_
        refine WL.off rfl (congrArg Value.bool (decide_eq_false hc12)) ?_
        refine WL.off rfl (congrArg Value.bool (decide_eq_false hc12)) ?_
        refine WL.on rfl (congrArg Value.bool (decide_eq_false hc11)) ?_
        refine WL.val (Yl.pickF (v := .bool false) (congrArg Value.bool (decide_eq_false hc12)) rfl) ?_
        refine WL.val (Yl.pickF (v := .bool false) (congrArg Value.bool (decide_eq_false hc11)) rfl) ?_
        refine WL.val (Yl.assign (v := .bool false) rfl) ?_
        cases HE10
        exact WL.done ⟨rfl, C8⟩
  · skip
    rintro env_ w_ ⟨ho13, C14⟩
    refine W.ret ?_
    have C15 : Ctx _ _ _ _ F [CH.row g1 0 [.int .i64 a0.At, .int .i64 a0.ID]] := Ctx.drop [] [CH.row g1 0 [.int .i64 a0.At, .int .i64 a0.ID]] C14
    have C16 : Ctx _ _ _ _ F [] := Ctx.drop [] [] C15
    cases H
    exact post_r (resE1 rfl ho13) ⟨rfl, C16⟩
/-! ### jurat/juratref13.Same: function 13 -/
def juratref13_Same.l1 : Nat → List TEntry → List TEntry → Int → Option (Sum Unit Bool)
  | 0, _, _, _ => none
  | k + 1, a0, a1, x72 => if x72 < (a0.length : Int) then (if 0 ≤ x72 ∧ x72 < (a0.length : Int) then (if 0 ≤ x72 ∧ x72 < (a1.length : Int) then (if ((a0.getD x72.toNat TEntry.z).At) = ((a1.getD x72.toNat TEntry.z).At) ∧ ((a0.getD x72.toNat TEntry.z).ID) = ((a1.getD x72.toNat TEntry.z).ID) then (juratref13_Same.l1 k a0 a1 (wi64 (x72 + 1))) else (some (Sum.inr false))) else none) else none) else (some (Sum.inl ()))
def juratref13_Same.f (k : Nat) (a0 : List TEntry) (a1 : List TEntry) : Option Bool := if (a0.length : Int) = (a1.length : Int) then ((juratref13_Same.l1 k a0 a1 0).bind fun o_ => sumE o_ (fun _ => some true) (fun p_ => some p_)) else (some false)
set_option maxRecDepth 100000 in
set_option maxHeartbeats 4000000 in
theorem juratref13_Same.calls (k : Nat) (w : World) (F : CH) (A1 : Option Addr) (c2 : Nat) (n3 : Nat) (a0 : List TEntry) (A8 : Option Addr) (c9 : Nat) (n10 : Nat) (a1 : List TEntry) (hp : Pre w F []) (hn4 : n3 = a0.length) (hl5 : a0.length ≤ c2) (hm6 : c2 ≤ maxLen) (hS7 : Sl TEntry.K F F A1 a0) (hn11 : n10 = a1.length) (hl12 : a1.length ≤ c9) (hm13 : c9 ≤ maxLen) (hS14 : Sl TEntry.K F F A8 a1) (r0_ : Bool) (H : juratref13_Same.f k a0 a1 = some r0_) :
    Calls Try.prog 13 #[.slice A1 n3 c2, .slice A8 n10 c9] w fun e w' => e = .returned (.bool r0_) ∧ (∃ n_, w' = w.drewN n_) := by
  have C := Ctx.start hp
  generalize domL [] = D at C
  have W0 : ∃ n_, w = w.drewN n_ := ⟨0, rfl⟩
  unfold juratref13_Same.f at H
  refine Calls.ofW Try.func13 rfl (by simp [Try.ntmps13]) ?_
  refine W.seq ?_
  refine W.region rfl ?_
  refine WL.val (Yl.assign (v := .bool false) rfl) ?_
  refine WL.done ?_
  refine W.seq ?_
  refine W.seq ?_
  refine W.region rfl ?_
  refine WL.val (Yl.move (v := .slice A1 n3 c2) rfl) ?_
  refine WL.val (Yl.lenN (A := A1) (l := n3) (q := c2) (n := (a0.length : Int)) rfl Try.underlying22 (by omega)) ?_
  refine WL.val (Yl.move (v := .slice A8 n10 c9) rfl) ?_
  refine WL.val (Yl.lenN (A := A8) (l := n10) (q := c9) (n := (a1.length : Int)) rfl Try.underlying22 (by omega)) ?_
  refine WL.val (Yl.neq (m := (a0.length : Int)) (n := (a1.length : Int)) (q := !decide ((a0.length : Int) = (a1.length : Int))) rfl rfl rfl) ?_
  refine WL.done ?_
  rcases iteE H with ⟨hc15, H⟩ | ⟨hc15, H⟩
  · skip
    refine W.condF (congrArg Value.bool (ndec_t hc15)) ?_
    refine W.skip ?_
    refine W.seq ?_
    refine W.seq ?_
    refine W.region rfl ?_
    refine WL.val (Yl.assign (v := .int .i64 0) rfl) ?_
    refine WL.done ?_
    obtain ⟨o68, hX67, H⟩ := bindE H
    refine W.cutM (fun env_ w_ => Ctx w F D w_ F [] ∧ (∃ n_, w_ = w.drewN n_) ∧ o68 = Sum.inl ()) ?_ ?_
    · skip
      refine W.block ?_
      refine W.loop (fun g_ env_ w_ => ∃ (x72 : Int), env_ 0 = .slice A1 n3 c2 ∧ env_ 1 = .slice A8 n10 c9 ∧ env_ 5 = .int .i64 x72 ∧ Ctx w F D w_ F [] ∧ (∃ n_, w_ = w.drewN n_) ∧ juratref13_Same.l1 g_ a0 a1 x72 = some o68) k ⟨0, rfl, rfl, rfl, C, W0, hX67⟩ ?_
      clear hX67
      rintro g_ env_ w_ ⟨x72, ho69, ho70, ho71, C73, Wq74, hX67⟩
      rcases g_ with _ | k96
      · exact absurd hX67 (by simp [juratref13_Same.l1])
      rw [juratref13_Same.l1] at hX67
      refine W.seq ?_
      refine W.seq ?_
      refine W.region rfl ?_
      refine WL.val (Yl.move (v := .int .i64 x72) ho71) ?_
      refine WL.val (Yl.move (v := .slice A1 n3 c2) ho69) ?_
      refine WL.val (Yl.lenN (A := A1) (l := n3) (q := c2) (n := (a0.length : Int)) rfl Try.underlying22 (by omega)) ?_
      refine WL.val (Yl.lss (m := x72) (n := (a0.length : Int)) (q := decide (x72 < (a0.length : Int))) rfl rfl rfl) ?_
      refine WL.done ?_
      rcases iteE hX67 with ⟨hc97, hX67⟩ | ⟨hc97, hX67⟩
      · skip
        refine W.condT (congrArg Value.bool (decide_eq_true hc97)) ?_
        refine W.skip ?_
        refine W.seq ?_
        refine W.block ?_
        refine W.seq ?_
        refine W.region_quiet (by kernel_rfl) (by kernel_rfl) rfl ?_
        refine WQ.val (fun _ hw => by obtain ⟨_, rfl⟩ := hw; exact Yl.move (v := .slice A1 n3 c2) ho69) ?_
        refine WQ.val (fun _ hw => by obtain ⟨_, rfl⟩ := hw; exact Yl.move (v := .int .i64 x72) ho71) ?_
        obtain ⟨hc98, hX67⟩ := guardE hX67
        obtain ⟨b99, of100, hA101, he102⟩ := hS7 (by omega)
        refine WQ.val (fun _ hw => by obtain ⟨_, rfl⟩ := hw; exact Yl.elemAddr (i := x72) rfl rfl hA101 Try.underlying22 sz29 (by omega)) ?_
        obtain ⟨cs103, hr104, hx105⟩ := he102 x72.toNat _ (getD_some (d := TEntry.z) (by omega))
        obtain ⟨rfl⟩ := TEntry.open hr104
        refine WQ.val (fun _ hw => by obtain ⟨_, rfl⟩ := hw; exact Yl.loadAgg (cs := [.int .i64 ((a0.getD x72.toNat TEntry.z).At), .int .i64 ((a0.getD x72.toNat TEntry.z).ID)]) rfl Try.underlying29 rfl sz29 (fun j u hu => by rw [add_of]; exact (((C73.drewN _).fro)).cell (hx105 _ _ hu))) ?_
        refine WQ.val (fun _ hw => by obtain ⟨_, rfl⟩ := hw; exact Yl.move (v := .slice A8 n10 c9) ho70) ?_
        refine WQ.val (fun _ hw => by obtain ⟨_, rfl⟩ := hw; exact Yl.move (v := .int .i64 x72) ho71) ?_
        obtain ⟨hc106, hX67⟩ := guardE hX67
        obtain ⟨b107, of108, hA109, he110⟩ := hS14 (by omega)
        refine WQ.val (fun _ hw => by obtain ⟨_, rfl⟩ := hw; exact Yl.elemAddr (i := x72) rfl rfl hA109 Try.underlying22 sz29 (by omega)) ?_
        obtain ⟨cs111, hr112, hx113⟩ := he110 x72.toNat _ (getD_some (d := TEntry.z) (by omega))
        obtain ⟨rfl⟩ := TEntry.open hr112
        refine WQ.val (fun _ hw => by obtain ⟨_, rfl⟩ := hw; exact Yl.loadAgg (cs := [.int .i64 ((a1.getD x72.toNat TEntry.z).At), .int .i64 ((a1.getD x72.toNat TEntry.z).ID)]) rfl Try.underlying29 rfl sz29 (fun j u hu => by rw [add_of]; exact (((C73.drewN _).fro)).cell (hx113 _ _ hu))) ?_
        refine WQ.val (fun _ hw => by obtain ⟨_, rfl⟩ := hw; exact Yl.aneq (n := 2) (xs := [.int .i64 ((a0.getD x72.toNat TEntry.z).At), .int .i64 ((a0.getD x72.toNat TEntry.z).ID)]) (ys := [.int .i64 ((a1.getD x72.toNat TEntry.z).At), .int .i64 ((a1.getD x72.toNat TEntry.z).ID)]) rfl rfl eg29 (EqV.struct (n := 1) Try.underlying29 sh29 (EqFs.cons (by decide) (PartE.one Try.underlying3 rfl rfl) (PartE.one Try.underlying3 rfl rfl) (EqV.int Try.underlying3) (EqFs.one (by decide) (PartE.one Try.underlying3 rfl rfl) (PartE.one Try.underlying3 rfl rfl) (EqV.int Try.underlying3)))) (by decide) rfl) ?_
        refine WQ.done (fun nq114 => ?_)
        have C115 := Ctx.drewN C73 nq114
        have Wq116 := drew_more Wq74 nq114
        rcases iteE hX67 with ⟨hc117, hX67⟩ | ⟨hc117, hX67⟩
        · skip
          refine W.condF (congrArg Value.bool (ndec_t hc117)) ?_
          refine W.skip ?_
          refine inB_n ?_
          refine W.region rfl ?_
          refine WL.val (Yl.move (v := .int .i64 x72) ho71) ?_
          refine WL.val (Yl.add (m := x72) (n := 1) (r := wi64 (x72 + 1)) rfl rfl rfl) ?_
          refine WL.val (Yl.assign (v := .int .i64 (wi64 (x72 + 1))) rfl) ?_
          refine WL.done ?_
          exact thenE_n ⟨k96, Nat.lt_succ_self _, wi64 (x72 + 1), ho69, ho70, rfl, C115, Wq116, hX67⟩
        · skip
          refine W.condT (congrArg Value.bool (ndec_f hc117)) ?_
          refine W.seq ?_
          refine W.region rfl ?_
          refine WL.val (Yl.assign (v := .bool false) rfl) ?_
          refine WL.done ?_
          refine W.ret ?_
          refine inB_r ?_
          refine thenE_r ?_
          refine thenE_r ?_
          refine inB_r ?_
          refine thenE_r ?_
          refine thenE_r ?_
          cases hX67
          replace H := sumE_r H
          cases H
          exact post_r (resE1 rfl rfl) ⟨rfl, Wq116⟩
      · skip
        refine W.condF (congrArg Value.bool (decide_eq_false hc97)) ?_
        refine W.exit ?_
        refine thenE_x ?_
        refine thenE_x ?_
        refine inB_here ?_
        cases hX67
        refine thenE_n ?_
        exact ⟨C73, Wq74, rfl⟩
    · skip
      rintro env_ w_ ⟨C65, Wq66, rfl⟩
      replace H := sumE_l H
      refine W.seq ?_
      refine W.region rfl ?_
      refine WL.val (Yl.assign (v := .bool true) rfl) ?_
      refine WL.done ?_
      refine W.ret ?_
      cases H
      exact post_r (resE1 rfl rfl) ⟨rfl, Wq66⟩
  · skip
    refine W.condT (congrArg Value.bool (ndec_f hc15)) ?_
    refine W.seq ?_
    refine W.region rfl ?_
    refine WL.val (Yl.assign (v := .bool false) rfl) ?_
    refine WL.done ?_
    refine W.ret ?_
    refine thenE_r ?_
    cases H
    exact post_r (resE1 rfl rfl) ⟨rfl, W0⟩
/-! ### (*jurat/juratref13.Agenda).find: function 28 -/
def juratref13_Agenda_find.l1 : Nat → TAgenda_ → Int → Int → Option (Sum Unit Int)
  | 0, _, _, _ => none
  | k + 1, a0, a1, x45 => if x45 < (a0.L.length : Int) then (if 0 ≤ x45 ∧ x45 < (a0.L.length : Int) then (if ((a0.L.getD x45.toNat TEntry.z).ID) = a1 then (some (Sum.inr x45)) else (juratref13_Agenda_find.l1 k a0 a1 (wi64 (x45 + 1)))) else none) else (some (Sum.inl ()))
def juratref13_Agenda_find.f (k : Nat) (a0 : TAgenda_) (a1 : Int) : Option Int := (juratref13_Agenda_find.l1 k a0 a1 0).bind fun o_ => sumE o_ (fun _ => some (-1)) (fun p_ => some p_)
set_option maxRecDepth 100000 in
set_option maxHeartbeats 4000000 in
theorem juratref13_Agenda_find.calls (k : Nat) (w : World) (F : CH) (g1 : Nat) (o2 : Nat) (A3 : Option Addr) (c4 : Nat) (n5 : Nat) (a0 : TAgenda_) (a1 : Int) (hp : Pre w F []) (hn6 : n5 = a0.L.length) (hl7 : a0.L.length ≤ c4) (hm8 : c4 ≤ maxLen) (hS9 : Sl TEntry.K F F A3 a0.L) (hg10 : CH.le (CH.row g1 o2 [.slice A3 n5 c4]) F) (r0_ : Int) (H : juratref13_Agenda_find.f k a0 a1 = some r0_) :
    Calls Try.prog 28 #[.pointer (some ⟨g1, o2, none⟩), .int .i64 a1] w fun e w' => e = .returned (.int .i64 r0_) ∧ (∃ n_, w' = w.drewN n_) := by
  have C := Ctx.start hp
  generalize domL [] = D at C
  have W0 : ∃ n_, w = w.drewN n_ := ⟨0, rfl⟩
  unfold juratref13_Agenda_find.f at H
  refine Calls.ofW Try.func28 rfl (by simp [Try.ntmps28]) ?_
  refine W.seq ?_
  refine W.region rfl ?_
  refine WL.val (Yl.assign (v := .int .i64 0) rfl) ?_
  refine WL.done ?_
  refine W.seq ?_
  refine W.seq ?_
  refine W.region rfl ?_
  refine WL.val (Yl.assign (v := .int .i64 0) rfl) ?_
  refine WL.done ?_
  obtain ⟨o41, hX40, H⟩ := bindE H
  refine W.cutM (fun env_ w_ => Ctx w F D w_ F [] ∧ (∃ n_, w_ = w.drewN n_) ∧ o41 = Sum.inl ()) ?_ ?_
  · skip
    refine W.block ?_
    refine W.loop (fun g_ env_ w_ => ∃ (x45 : Int), env_ 0 = .pointer (some ⟨g1, o2, none⟩) ∧ env_ 1 = .int .i64 a1 ∧ env_ 5 = .int .i64 x45 ∧ Ctx w F D w_ F [] ∧ (∃ n_, w_ = w.drewN n_) ∧ juratref13_Agenda_find.l1 g_ a0 a1 x45 = some o41) k ⟨0, rfl, rfl, rfl, C, W0, hX40⟩ ?_
    clear hX40
    rintro g_ env_ w_ ⟨x45, ho42, ho43, ho44, C46, Wq47, hX40⟩
    rcases g_ with _ | k58
    · exact absurd hX40 (by simp [juratref13_Agenda_find.l1])
    rw [juratref13_Agenda_find.l1] at hX40
    refine W.seq ?_
    refine W.seq ?_
    refine W.region rfl ?_
    refine WL.val (Yl.move (v := .int .i64 x45) ho44) ?_
    refine WL.val (Yl.move (v := .pointer (some ⟨g1, o2, none⟩)) ho42) ?_
    refine WL.val (Yl.nilCheck rfl) ?_
    refine WL.val (Yl.fieldAddr (i := 0) rfl Try.underlying39 rfl sz22) ?_
    refine WL.val (Yl.loadV (g := g1) (off := o2) (o := 0) (cs := [.slice A3 n5 c4]) (v := .slice A3 n5 c4) rfl Try.underlying22 rfl (Sub.mono (C46.fro) hg10) rfl) ?_
    refine WL.val (Yl.lenN (A := A3) (l := n5) (q := c4) (n := (a0.L.length : Int)) rfl Try.underlying22 (by omega)) ?_
    refine WL.val (Yl.lss (m := x45) (n := (a0.L.length : Int)) (q := decide (x45 < (a0.L.length : Int))) rfl rfl rfl) ?_
    refine WL.done ?_
    rcases iteE hX40 with ⟨hc59, hX40⟩ | ⟨hc59, hX40⟩
    · skip
      refine W.condT (congrArg Value.bool (decide_eq_true hc59)) ?_
      refine W.skip ?_
      refine W.seq ?_
      refine W.block ?_
      refine W.seq ?_
      refine W.region rfl ?_
      refine WL.val (Yl.move (v := .pointer (some ⟨g1, o2, none⟩)) ho42) ?_
      refine WL.val (Yl.nilCheck rfl) ?_
      refine WL.val (Yl.fieldAddr (i := 0) rfl Try.underlying39 rfl sz22) ?_
      refine WL.val (Yl.loadV (g := g1) (off := o2) (o := 0) (cs := [.slice A3 n5 c4]) (v := .slice A3 n5 c4) rfl Try.underlying22 rfl (Sub.mono (C46.fro) hg10) rfl) ?_
      refine WL.val (Yl.move (v := .int .i64 x45) ho44) ?_
      obtain ⟨hc60, hX40⟩ := guardE hX40
      obtain ⟨b61, of62, hA63, he64⟩ := hS9 (by omega)
      refine WL.val (Yl.elemAddr (i := x45) rfl rfl hA63 Try.underlying22 sz29 (by omega)) ?_
      refine WL.val (Yl.fieldAddr (i := 1) rfl Try.underlying29 rfl sz3) ?_
      obtain ⟨cs65, hr66, hx67⟩ := he64 x45.toNat _ (getD_some (d := TEntry.z) (by omega))
      obtain ⟨rfl⟩ := TEntry.open hr66
      refine WL.val (Yl.load (v := .int .i64 ((a0.L.getD x45.toNat TEntry.z).ID)) rfl Try.underlying3 rfl (((C46.fro)).cell (hx67 1 _ rfl))) ?_
      refine WL.val (Yl.move (v := .int .i64 a1) ho43) ?_
      refine WL.val (Yl.eql (m := (a0.L.getD x45.toNat TEntry.z).ID) (n := a1) (q := decide (((a0.L.getD x45.toNat TEntry.z).ID) = a1)) rfl rfl rfl) ?_
      refine WL.done ?_
      rcases iteE hX40 with ⟨hc68, hX40⟩ | ⟨hc68, hX40⟩
      · skip
        refine W.condT (congrArg Value.bool (decide_eq_true hc68)) ?_
        refine W.seq ?_
        refine W.region rfl ?_
        refine WL.val (Yl.move (v := .int .i64 x45) ho44) ?_
        refine WL.val (Yl.assign (v := .int .i64 x45) rfl) ?_
        refine WL.done ?_
        refine W.ret ?_
        refine inB_r ?_
        refine thenE_r ?_
        refine thenE_r ?_
        refine inB_r ?_
        refine thenE_r ?_
        refine thenE_r ?_
        cases hX40
        replace H := sumE_r H
        cases H
        exact post_r (resE1 rfl rfl) ⟨rfl, Wq47⟩
      · skip
        refine W.condF (congrArg Value.bool (decide_eq_false hc68)) ?_
        refine W.skip ?_
        refine inB_n ?_
        refine W.region rfl ?_
        refine WL.val (Yl.move (v := .int .i64 x45) ho44) ?_
        refine WL.val (Yl.add (m := x45) (n := 1) (r := wi64 (x45 + 1)) rfl rfl rfl) ?_
        refine WL.val (Yl.assign (v := .int .i64 (wi64 (x45 + 1))) rfl) ?_
        refine WL.done ?_
        exact thenE_n ⟨k58, Nat.lt_succ_self _, wi64 (x45 + 1), ho42, ho43, rfl, C46, Wq47, hX40⟩
    · skip
      refine W.condF (congrArg Value.bool (decide_eq_false hc59)) ?_
      refine W.exit ?_
      refine thenE_x ?_
      refine thenE_x ?_
      refine inB_here ?_
      cases hX40
      refine thenE_n ?_
      exact ⟨C46, Wq47, rfl⟩
  · skip
    rintro env_ w_ ⟨C38, Wq39, rfl⟩
    replace H := sumE_l H
    refine W.seq ?_
    refine W.region rfl ?_
    refine WL.val (Yl.assign (v := .int .i64 (-1)) rfl) ?_
    refine WL.done ?_
    refine W.ret ?_
    cases H
    exact post_r (resE1 rfl rfl) ⟨rfl, Wq39⟩
/-! ### (*jurat/juratref13.Agenda).Drop: function 16 -/
def juratref13_Agenda_Drop.f (k : Nat) (a0 : TAgenda_) (a1 : Int) : Option (Bool × TAgenda_) := (juratref13_Agenda_find.f k a0 a1).bind fun r16 => if r16 < 0 then (some (false, a0)) else (if 0 ≤ r16 ∧ r16 ≤ (a0.L.length : Int) then (if (([] : List TEntry).length + (a0.L.take r16.toNat).length) * 16 ≤ 140737488355328 then (if 0 ≤ (wi64 (r16 + 1)) ∧ (wi64 (r16 + 1)) ≤ (a0.L.length : Int) ∧ (a0.L.length : Int) ≤ (a0.L.length : Int) then (if ((a0.L.take r16.toNat).length + (a0.L.drop ((wi64 (r16 + 1)).toNat)).length) * 16 ≤ 140737488355328 then (some (true, (⟨(a0.L.take r16.toNat) ++ (a0.L.drop ((wi64 (r16 + 1)).toNat))⟩ : TAgenda_))) else none) else none) else none) else none)
set_option maxRecDepth 100000 in
set_option maxHeartbeats 4000000 in
theorem juratref13_Agenda_Drop.calls (k : Nat) (w : World) (F : CH) (g1 : Nat) (o2 : Nat) (A3 : Option Addr) (c4 : Nat) (n5 : Nat) (p7 : CH) (a0 : TAgenda_) (a1 : Int) (hp : Pre w F [CH.row g1 o2 [.slice A3 n5 c4], p7]) (hn6 : n5 = a0.L.length) (hR8 : Row TEntry.K F p7 (.slice A3 n5 c4) a0.L) (r0_ : Bool) (r1_ : TAgenda_) (H : juratref13_Agenda_Drop.f k a0 a1 = some (r0_, r1_)) :
    Calls Try.prog 16 #[.pointer (some ⟨g1, o2, none⟩), .int .i64 a1] w fun e w' => ∃ (A63 : Option Addr) (c64 : Nat) (n65 : Nat) (p67 : CH), e = .returned (.bool r0_) ∧ Ctx w F (domL [CH.row g1 o2 [.slice A3 n5 c4], p7]) w' F [CH.row g1 o2 [.slice A63 n65 c64], p67] ∧ n65 = r1_.L.length ∧ Row TEntry.K F p67 (.slice A63 n65 c64) r1_.L := by
  have C := Ctx.start hp
  generalize hD : domL [CH.row g1 o2 [.slice A3 n5 c4], p7] = D at C ⊢
  unfold juratref13_Agenda_Drop.f at H
  refine Calls.ofW Try.func16 rfl (by simp [Try.ntmps16]) ?_
  refine W.seq ?_
  refine W.region rfl ?_
  refine WL.val (Yl.assign (v := .bool false) rfl) ?_
  refine WL.done ?_
  refine W.seq ?_
  refine W.region rfl ?_
  refine WL.val (Yl.move (v := .pointer (some ⟨g1, o2, none⟩)) rfl) ?_
  refine WL.val (Yl.move (v := .int .i64 a1) rfl) ?_
  have le9 : CH.le F (CH.join F (CH.row g1 o2 [.slice A3 n5 c4])) := CH.le_joinL _ _
  have lp10 : CH.le (CH.row g1 o2 [.slice A3 n5 c4]) (CH.join F (CH.row g1 o2 [.slice A3 n5 c4])) := CH.le_joinR (Ctx.dis_of [] [p7] C)
  have C11 : Ctx _ _ _ _ (CH.join F (CH.row g1 o2 [.slice A3 n5 c4])) [p7] := Ctx.freeze [] [p7] C
  have le12 : CH.le (CH.join F (CH.row g1 o2 [.slice A3 n5 c4])) (CH.join (CH.join F (CH.row g1 o2 [.slice A3 n5 c4])) p7) := CH.le_joinL _ _
  have lp13 : CH.le p7 (CH.join (CH.join F (CH.row g1 o2 [.slice A3 n5 c4])) p7) := CH.le_joinR (Ctx.dis_of [] [] C11)
  have C14 : Ctx _ _ _ _ (CH.join (CH.join F (CH.row g1 o2 [.slice A3 n5 c4])) p7) [] := Ctx.freeze [] [] C11
  obtain ⟨r16, hg15, H⟩ := bindE H
  refine WL.call (args := #[.pointer (some ⟨g1, o2, none⟩), .int .i64 a1]) (Yenter.fn Try.func28 (by kernel_rfl) rfl (argsE (.cons rfl (.cons rfl .nil)))) (juratref13_Agenda_find.calls k _ (CH.join (CH.join F (CH.row g1 o2 [.slice A3 n5 c4])) p7) g1 o2 A3 c4 n5 a0 a1 C14.pre0 hn6 (Row.len_le hR8).1 (Row.len_le hR8).2.1 (Sl.mono (Row.sl hR8) (CH.le_trans le9 le12) lp13) (CH.le_trans lp10 le12) r16 hg15) ?_
  rintro e_ w_ ⟨rfl, ⟨m17, rfl⟩⟩
  refine ⟨_, rfl, ?_⟩
  have C18 := Ctx.drewN C m17
  refine WL.val (Yl.assign (v := .int .i64 r16) rfl) ?_
  refine WL.done ?_
  refine W.seq ?_
  refine W.seq ?_
  refine W.region rfl ?_
  refine WL.val (Yl.move (v := .int .i64 r16) rfl) ?_
  refine WL.val (Yl.lss (m := r16) (n := 0) (q := decide (r16 < 0)) rfl rfl rfl) ?_
  refine WL.done ?_
  rcases iteE H with ⟨hc19, H⟩ | ⟨hc19, H⟩
  · skip
    refine W.condT (congrArg Value.bool (decide_eq_true hc19)) ?_
    refine W.seq ?_
    refine W.region rfl ?_
    refine WL.val (Yl.assign (v := .bool false) rfl) ?_
    refine WL.done ?_
    refine W.ret ?_
    refine thenE_r ?_
    cases H
    exact post_r (resE1 rfl rfl) ⟨A3, c4, n5, p7, rfl, C18, hn6, hR8⟩
  · skip
    refine W.condF (congrArg Value.bool (decide_eq_false hc19)) ?_
    refine W.skip ?_
    refine W.seq ?_
    refine W.region rfl ?_
    refine WL.val (Yl.assign (v := .slice none 0 0) rfl) ?_
    refine WL.done ?_
    refine W.seq ?_
    refine W.region rfl ?_
    refine WL.val (Yl.move (v := .slice none 0 0) rfl) ?_
    refine WL.val (Yl.move (v := .pointer (some ⟨g1, o2, none⟩)) rfl) ?_
    refine WL.val (Yl.nilCheck rfl) ?_
    refine WL.val (Yl.fieldAddr (i := 0) rfl Try.underlying39 rfl sz22) ?_
    refine WL.val (Yl.loadV (g := g1) (off := o2) (o := 0) (cs := [.slice A3 n5 c4]) (v := .slice A3 n5 c4) rfl Try.underlying22 rfl (Ctx.sub_of [] [p7] C18) rfl) ?_
    refine WL.val (Yl.move (v := .int .i64 r16) rfl) ?_
    obtain ⟨hc20, H⟩ := guardE H
    have hl23 := (Row.len_le hR8).1
    obtain ⟨hn21, hR22⟩ := Row.take hR8 r16.toNat (by omega)
    refine WL.val (Yl.sliceHi rfl Try.underlying22 sz29 rfl ⟨hc20.1, by omega⟩) ?_
    obtain ⟨hc24, H⟩ := guardE H
    have C25 : Ctx _ _ _ _ F [CH.emp, CH.row g1 o2 [.slice A3 n5 c4], p7] := Ctx.emp C18
    obtain ⟨A26, c27, n28, p29, w30, hn31, hy32, C33, hR34⟩ := ev_append' (P := Try.prog) (cb := c4) 29 TEntry.K [] [CH.row g1 o2 [.slice A3 n5 c4], p7] C25 (Row.nil TEntry.K F) hn21 (Row.sl hR22) (Ctx.sub_of [CH.emp, CH.row g1 o2 [.slice A3 n5 c4]] [] C25) Try.underlying22 ti29 rfl zo29 (by decide) (by decide) (by simpa using hc24)
    have C35 : Ctx _ _ _ _ F [p29, CH.row g1 o2 [.slice A3 n5 c4], p7] := C33
    rw [List.nil_append] at hn31 hR34
    refine WL.val (hy32 _ _ _ _ rfl rfl) ?_
    refine WL.val (Yl.assign (v := .slice A26 n28 c27) rfl) ?_
    refine WL.done ?_
    refine W.seq ?_
    refine W.region rfl ?_
    refine WL.val (Yl.move (v := .slice A26 n28 c27) rfl) ?_
    refine WL.val (Yl.move (v := .pointer (some ⟨g1, o2, none⟩)) rfl) ?_
    refine WL.val (Yl.nilCheck rfl) ?_
    refine WL.val (Yl.fieldAddr (i := 0) rfl Try.underlying39 rfl sz22) ?_
    refine WL.val (Yl.loadV (g := g1) (off := o2) (o := 0) (cs := [.slice A3 n5 c4]) (v := .slice A3 n5 c4) rfl Try.underlying22 rfl (Ctx.sub_of [p29] [p7] C35) rfl) ?_
    refine WL.val (Yl.move (v := .int .i64 r16) rfl) ?_
    refine WL.val (Yl.add (m := r16) (n := 1) (r := wi64 (r16 + 1)) rfl rfl rfl) ?_
    obtain ⟨hc36, H⟩ := guardE H
    have hl45 : a0.L.length ≤ c4 ∧ c4 ≤ maxLen := ⟨(Row.len_le hR8).1, (Row.len_le hR8).2.1⟩
    obtain ⟨A37, c38, n39, hv40, hn41, hl42, hm43, hS44⟩ := Sl.cut (Row.sl hR8) (c := c4) hl45.2 ((wi64 (r16 + 1)).toNat) a0.L.length c4 (by omega) (by omega) (by omega) (by omega)
    rw [List.take_length] at hn41 hl42 hS44
    refine WL.val (Yl.slice ((wi64 (r16 + 1)).toNat) a0.L.length c4 rfl Try.underlying22 sz29 rfl (hn6).symm (OB.mk rfl (by omega)) (by simp) (by omega) (by omega) (by omega) hv40) ?_
    obtain ⟨hc46, H⟩ := guardE H
    obtain ⟨A47, c48, n49, p50, w51, hn52, hy53, C54, hR55⟩ := ev_append' (P := Try.prog) (cb := c38) 29 TEntry.K [] [CH.row g1 o2 [.slice A3 n5 c4], p7] C35 hR34 hn41 hS44 (Ctx.sub_of [p29, CH.row g1 o2 [.slice A3 n5 c4]] [] C35) Try.underlying22 ti29 rfl zo29 (by decide) (by decide) (by simpa using hc46)
    have C56 : Ctx _ _ _ _ F [p50, CH.row g1 o2 [.slice A3 n5 c4], p7] := C54
    refine WL.val (hy53 _ _ _ _ rfl rfl) ?_
    refine WL.val (Yl.assign (v := .slice A47 n49 c48) rfl) ?_
    refine WL.done ?_
    refine W.seq ?_
    refine W.region rfl ?_
    refine WL.val (Yl.move (v := .pointer (some ⟨g1, o2, none⟩)) rfl) ?_
    refine WL.val (Yl.move (v := .slice A47 n49 c48) rfl) ?_
    refine WL.val (Yl.nilCheck rfl) ?_
    refine WL.val (Yl.fieldAddr (i := 0) rfl Try.underlying39 rfl sz22) ?_
    obtain ⟨w57, hy58, C59⟩ := ev_set (P := Try.prog) (ps1 := [p50]) (ps2 := [p7]) (t := 22) (o := 0) [.slice A3 n5 c4] [] [.slice A3 n5 c4] [] [.slice A47 n49 c48] (.slice A47 n49 c48) C56 rfl rfl rfl rfl (by simp [Value.oneCell']) sz22
    have C60 : Ctx _ _ _ _ F [p50, CH.row g1 o2 [.slice A47 n49 c48], p7] := C59
    refine WL.skip (hy58 _ _ _ _ rfl rfl) ?_
    refine WL.done ?_
    refine W.seq ?_
    refine W.region rfl ?_
    refine WL.val (Yl.assign (v := .bool true) rfl) ?_
    refine WL.done ?_
    refine W.ret ?_
    have C61 : Ctx _ _ _ _ F [p50, CH.row g1 o2 [.slice A47 n49 c48]] := Ctx.drop [p50, CH.row g1 o2 [.slice A47 n49 c48]] [] C60
    have C62 : Ctx _ _ _ _ F [CH.row g1 o2 [.slice A47 n49 c48], p50] := Ctx.swap [] [] C61
    cases H
    exact post_r (resE1 rfl rfl) ⟨A47, c48, n49, p50, rfl, C62, hn52, hR55⟩
/-! ### (*jurat/juratref13.Agenda).Put: function 14 -/
def juratref13_Agenda_Put.l1 : Nat → TEntry → TAgenda_ → List TEntry → Int → Option ((List TEntry) × Int)
  | 0, _, _, _, _ => none
  | k + 1, a1, x57, x358, x366 => (if x366 < (x57.L.length : Int) then (if 0 ≤ x366 ∧ x366 < (x57.L.length : Int) then ((juratref13_before.f k (x57.L.getD x366.toNat TEntry.z) a1).bind fun r567 => some r567) else none) else (some false)).bind fun x529 => if x529 = true then (if 0 ≤ x366 ∧ x366 < (x57.L.length : Int) then (if (x358.length + 1) * 16 ≤ 140737488355328 then (juratref13_Agenda_Put.l1 k a1 x57 (x358 ++ [x57.L.getD x366.toNat TEntry.z]) (wi64 (x366 + 1))) else none) else none) else (some (x358, x366))
def juratref13_Agenda_Put.f (k : Nat) (a0 : TAgenda_) (a1 : TEntry) : Option (Int × TAgenda_) := ((juratref13_Agenda_Drop.f k a0 a1.ID).bind fun ⟨r82, r83⟩ => if r82 = true then (some (false, r83)) else (some (decide ((r83.L.length : Int) ≥ 4096), r83))).bind fun ⟨x56, x57⟩ => if x56 = true then (some (90, x57)) else ((juratref13_Agenda_Put.l1 k a1 x57 ([] : List TEntry) 0).bind fun ⟨x344, x352⟩ => if (x344.length + 1) * 16 ≤ 140737488355328 then (if 0 ≤ x352 ∧ x352 ≤ (x57.L.length : Int) ∧ (x57.L.length : Int) ≤ (x57.L.length : Int) then (if ((x344 ++ [a1]).length + (x57.L.drop x352.toNat).length) * 16 ≤ 140737488355328 then (some (0, (⟨(x344 ++ [a1]) ++ (x57.L.drop x352.toNat)⟩ : TAgenda_))) else none) else none) else none)
set_option maxRecDepth 100000 in
set_option maxHeartbeats 4000000 in
theorem juratref13_Agenda_Put.calls (k : Nat) (w : World) (F : CH) (g1 : Nat) (o2 : Nat) (A3 : Option Addr) (c4 : Nat) (n5 : Nat) (p7 : CH) (a0 : TAgenda_) (a1 : TEntry) (hp : Pre w F [CH.row g1 o2 [.slice A3 n5 c4], p7]) (hn6 : n5 = a0.L.length) (hR8 : Row TEntry.K F p7 (.slice A3 n5 c4) a0.L) (r0_ : Int) (r1_ : TAgenda_) (H : juratref13_Agenda_Put.f k a0 a1 = some (r0_, r1_)) :
    Calls Try.prog 14 #[.pointer (some ⟨g1, o2, none⟩), .agg (List.toArray [.int .i64 a1.At, .int .i64 a1.ID])] w fun e w' => ∃ (A650 : Option Addr) (c651 : Nat) (n652 : Nat) (p654 : CH), e = .returned (.int .i64 r0_) ∧ Ctx w F (domL [CH.row g1 o2 [.slice A3 n5 c4], p7]) w' F [CH.row g1 o2 [.slice A650 n652 c651], p654] ∧ n652 = r1_.L.length ∧ Row TEntry.K F p654 (.slice A650 n652 c651) r1_.L := by
  have C := Ctx.start hp
  generalize hD : domL [CH.row g1 o2 [.slice A3 n5 c4], p7] = D at C ⊢
  unfold juratref13_Agenda_Put.f at H
  refine Calls.ofW Try.func14 rfl (by simp [Try.ntmps14]) ?_
  refine W.seq ?_
  refine W.region rfl ?_
  obtain ⟨g9, w10, hy11, C12⟩ := ev_box (P := Try.prog) 29 (.agg (List.toArray [.int .i64 a1.At, .int .i64 a1.ID])) [.int .i64 a1.At, .int .i64 a1.ID] C rfl
  refine WL.val (hy11 _ _ _ rfl) ?_
  refine WL.val (Yl.assign (v := .int .i64 0) rfl) ?_
  refine WL.done ?_
  refine W.seq ?_
  refine W.seq ?_
  obtain ⟨⟨x56, x57⟩, hX65, H⟩ := bindE H
  refine W.cutM (fun env_ w_ => ∃ (A58 : Option Addr) (c59 : Nat) (n60 : Nat) (p62 : CH), env_ 0 = .pointer (some ⟨g1, o2, none⟩) ∧ env_ 3 = .pointer (some ⟨g9, 0, none⟩) ∧ env_ 19 = .bool x56 ∧ Ctx w F D w_ F [CH.row g1 o2 [.slice A58 n60 c59], p62, CH.row g9 0 [.int .i64 a1.At, .int .i64 a1.ID]] ∧ n60 = x57.L.length ∧ Row TEntry.K F p62 (.slice A58 n60 c59) x57.L) ?_ ?_
  · skip
    refine W.region rfl ?_
    refine WL.val (Yl.move (v := .pointer (some ⟨g1, o2, none⟩)) rfl) ?_
    refine WL.val (Yl.fieldAddr (i := 1) rfl Try.underlying29 rfl sz3) ?_
    refine WL.val (Yl.loadV (g := g9) (off := 0) (o := 1) (cs := [.int .i64 a1.At, .int .i64 a1.ID]) (v := .int .i64 a1.ID) rfl Try.underlying3 rfl (Ctx.sub_of [] [CH.row g1 o2 [.slice A3 n5 c4], p7] C12) rfl) ?_
    have C79 : Ctx _ _ _ _ F [CH.row g1 o2 [.slice A3 n5 c4], CH.row g9 0 [.int .i64 a1.At, .int .i64 a1.ID], p7] := Ctx.swap [] [p7] C12
    have C80 : Ctx _ _ _ _ F [CH.row g1 o2 [.slice A3 n5 c4], p7, CH.row g9 0 [.int .i64 a1.At, .int .i64 a1.ID]] := Ctx.swap [CH.row g1 o2 [.slice A3 n5 c4]] [] C79
    obtain ⟨⟨r82, r83⟩, hg81, hX65⟩ := bindE hX65
    refine WL.call (args := #[.pointer (some ⟨g1, o2, none⟩), .int .i64 a1.ID]) (Yenter.fn Try.func16 (by kernel_rfl) rfl (argsE (.cons rfl (.cons rfl .nil)))) (juratref13_Agenda_Drop.calls k _ F g1 o2 A3 c4 n5 p7 a0 a1.ID (Ctx.pre (qs := [CH.row g1 o2 [.slice A3 n5 c4], p7]) (rest := [CH.row g9 0 [.int .i64 a1.At, .int .i64 a1.ID]]) C80) hn6 hR8 r82 r83 hg81) ?_
    rintro e_ w_ ⟨A84, c85, n86, p88, rfl, C90, hn87, hR89⟩
    refine ⟨_, rfl, ?_⟩
    have C91 : Ctx _ _ _ _ F [CH.row g1 o2 [.slice A84 n86 c85], p88, CH.row g9 0 [.int .i64 a1.At, .int .i64 a1.ID]] := Ctx.call (qs := [CH.row g1 o2 [.slice A3 n5 c4], p7]) (rest := [CH.row g9 0 [.int .i64 a1.At, .int .i64 a1.ID]]) C80 C90
    refine WL.val (Yl.not (p := r82) (q := !r82) rfl rfl) ?_
    refine WL.val (Yl.move (v := .bool (!r82)) rfl) ?_
    rcases iteE hX65 with ⟨hc92, hX65⟩ | ⟨hc92, hX65⟩
    · skip
      refine WL.off rfl (congrArg Value.bool (nb_t hc92)) ?_
      refine WL.off rfl (congrArg Value.bool (nb_t hc92)) ?_
      refine WL.off rfl (congrArg Value.bool (nb_t hc92)) ?_
      refine WL.off rfl (congrArg Value.bool (nb_t hc92)) ?_
      refine WL.off rfl (congrArg Value.bool (nb_t hc92)) ?_
      refine WL.off rfl (congrArg Value.bool (nb_t hc92)) ?_
      refine WL.val (Yl.pickF (v := .bool false) (congrArg Value.bool (nb_t hc92)) rfl) ?_
      refine WL.done ?_
      cases hX65
      refine thenE_n ?_
      exact ⟨A84, c85, n86, p88, rfl, rfl, rfl, C91, hn87, hR89⟩
    · skip
      refine WL.on rfl (congrArg Value.bool (nb_f hc92)) ?_
      refine WL.val (Yl.move (v := .pointer (some ⟨g1, o2, none⟩)) rfl) ?_
      refine WL.on rfl (congrArg Value.bool (nb_f hc92)) ?_
      refine WL.val (Yl.nilCheck rfl) ?_
      refine WL.on rfl (congrArg Value.bool (nb_f hc92)) ?_
      refine WL.val (Yl.fieldAddr (i := 0) rfl Try.underlying39 rfl sz22) ?_
      refine WL.on rfl (congrArg Value.bool (nb_f hc92)) ?_
      refine WL.val (Yl.loadV (g := g1) (off := o2) (o := 0) (cs := [.slice A84 n86 c85]) (v := .slice A84 n86 c85) rfl Try.underlying22 rfl (Ctx.sub_of [] [p88, CH.row g9 0 [.int .i64 a1.At, .int .i64 a1.ID]] C91) rfl) ?_
      refine WL.on rfl (congrArg Value.bool (nb_f hc92)) ?_
      refine WL.val (Yl.lenN (A := A84) (l := n86) (q := c85) (n := (r83.L.length : Int)) rfl Try.underlying22 (by omega)) ?_
      refine WL.on rfl (congrArg Value.bool (nb_f hc92)) ?_
      refine WL.val (Yl.geq (m := (r83.L.length : Int)) (n := 4096) (q := decide ((r83.L.length : Int) ≥ 4096)) rfl rfl rfl) ?_
      refine WL.val (Yl.pickT (v := .bool (decide ((r83.L.length : Int) ≥ 4096))) (congrArg Value.bool (nb_f hc92)) rfl) ?_
      refine WL.done ?_
      cases hX65
      refine thenE_n ?_
      exact ⟨A84, c85, n86, p88, rfl, rfl, rfl, C91, hn87, hR89⟩
  · skip
    rintro env_ w_ ⟨A58, c59, n60, p62, ho53, ho54, ho55, C64, hn61, hR63⟩
    rcases iteE H with ⟨hc93, H⟩ | ⟨hc93, H⟩
    · skip
      refine W.condT (ho55.trans (congrArg Value.bool hc93)) ?_
      refine W.seq ?_
      refine W.region rfl ?_
      refine WL.val (Yl.assign (v := .int .i64 90) rfl) ?_
      refine WL.done ?_
      refine W.ret ?_
      refine thenE_r ?_
      have C94 : Ctx _ _ _ _ F [CH.row g1 o2 [.slice A58 n60 c59], p62] := Ctx.drop [CH.row g1 o2 [.slice A58 n60 c59], p62] [] C64
      cases H
      exact post_r (resE1 rfl rfl) ⟨A58, c59, n60, p62, rfl, C94, hn61, hR63⟩
    · skip
      refine W.condF (ho55.trans (congrArg Value.bool (Bool.eq_false_iff.2 hc93))) ?_
      refine W.skip ?_
      refine W.seq ?_
      refine W.region rfl ?_
      refine WL.val (Yl.assign (v := .slice none 0 0) rfl) ?_
      refine WL.done ?_
      refine W.seq ?_
      refine W.region rfl ?_
      refine WL.val (Yl.assign (v := .int .i64 0) rfl) ?_
      refine WL.done ?_
      refine W.seq ?_
      obtain ⟨⟨x344, x352⟩, hX354, H⟩ := bindE H
      refine W.cutM (fun env_ w_ => ∃ (A345 : Option Addr) (c346 : Nat) (n347 : Nat) (p349 : CH), env_ 0 = .pointer (some ⟨g1, o2, none⟩) ∧ env_ 3 = .pointer (some ⟨g9, 0, none⟩) ∧ env_ 5 = .slice A345 n347 c346 ∧ env_ 6 = .int .i64 x352 ∧ Ctx w F D w_ F [p349, CH.row g1 o2 [.slice A58 n60 c59], p62, CH.row g9 0 [.int .i64 a1.At, .int .i64 a1.ID]] ∧ n347 = x344.length ∧ Row TEntry.K F p349 (.slice A345 n347 c346) x344) ?_ ?_
      · skip
        refine W.block ?_
        have C484 : Ctx _ _ _ _ F [CH.emp, CH.row g1 o2 [.slice A58 n60 c59], p62, CH.row g9 0 [.int .i64 a1.At, .int .i64 a1.ID]] := Ctx.emp C64
        refine W.loop (fun g_ env_ w_ => ∃ (x358 : List TEntry) (x366 : Int) (A359 : Option Addr) (c360 : Nat) (n361 : Nat) (p363 : CH), env_ 0 = .pointer (some ⟨g1, o2, none⟩) ∧ env_ 3 = .pointer (some ⟨g9, 0, none⟩) ∧ env_ 5 = .slice A359 n361 c360 ∧ env_ 6 = .int .i64 x366 ∧ Ctx w F D w_ F [p363, CH.row g1 o2 [.slice A58 n60 c59], p62, CH.row g9 0 [.int .i64 a1.At, .int .i64 a1.ID]] ∧ n361 = x358.length ∧ Row TEntry.K F p363 (.slice A359 n361 c360) x358 ∧ juratref13_Agenda_Put.l1 g_ a1 x57 x358 x366 = some (x344, x352)) k ⟨([] : List TEntry), 0, none, 0, 0, CH.emp, ho53, ho54, rfl, rfl, C484, rfl, (Row.nil _ _), hX354⟩ ?_
        clear hX354
        rintro g_ env_ w_ ⟨x358, x366, A359, c360, n361, p363, ho355, ho356, ho357, ho365, C367, hn362, hR364, hX354⟩
        rcases g_ with _ | k483
        · exact absurd hX354 (by simp [juratref13_Agenda_Put.l1])
        rw [juratref13_Agenda_Put.l1] at hX354
        refine W.seq ?_
        refine W.seq ?_
        obtain ⟨x529, hX531, hX354⟩ := bindE hX354
        refine W.cutM (fun env_ w_ => env_ 0 = .pointer (some ⟨g1, o2, none⟩) ∧ env_ 3 = .pointer (some ⟨g9, 0, none⟩) ∧ env_ 5 = .slice A359 n361 c360 ∧ env_ 6 = .int .i64 x366 ∧ env_ 37 = .bool x529 ∧ Ctx w F D w_ F [p363, CH.row g1 o2 [.slice A58 n60 c59], p62, CH.row g9 0 [.int .i64 a1.At, .int .i64 a1.ID]]) ?_ ?_
        · skip
          rcases iteE hX531 with ⟨hc532, hX531⟩ | ⟨hc532, hX531⟩
          · skip
            refine W.regionA [([16], CH.row g1 o2 [.slice A58 n60 c59]), ([16], p62), ([16], CH.row g9 0 [.int .i64 a1.At, .int .i64 a1.ID])] (by kernel_rfl) ?_
            have C557 := Ctx.drewN C367 1
            refine WA.take none [] 0 rfl (by kernel_rfl) (by kernel_rfl) (show _ = #[true, false, false, false, false, false, false, false, false, false, false, false, false, false, false, false, false, false] from rfl) trivial ⟨(Ctx.sub_of [p363] [p62, CH.row g9 0 [.int .i64 a1.At, .int .i64 a1.ID]] C557), (Ctx.sub_of [p363, CH.row g1 o2 [.slice A58 n60 c59]] [CH.row g9 0 [.int .i64 a1.At, .int .i64 a1.ID]] C557), (Ctx.sub_of [p363, CH.row g1 o2 [.slice A58 n60 c59], p62] [] C557), trivial⟩ (fun _ hC_ => Yl.move (v := .int .i64 x366) ho365) ?_
            refine WA.take none [] 1 rfl (by kernel_rfl) (by kernel_rfl) (show _ = #[true, true, false, false, false, false, false, false, false, false, false, false, false, false, false, false, false, false] from rfl) trivial ⟨(Ctx.sub_of [p363] [p62, CH.row g9 0 [.int .i64 a1.At, .int .i64 a1.ID]] C557), (Ctx.sub_of [p363, CH.row g1 o2 [.slice A58 n60 c59]] [CH.row g9 0 [.int .i64 a1.At, .int .i64 a1.ID]] C557), (Ctx.sub_of [p363, CH.row g1 o2 [.slice A58 n60 c59], p62] [] C557), trivial⟩ (fun _ hC_ => Yl.move (v := .pointer (some ⟨g1, o2, none⟩)) ho355) ?_
            refine WA.take none [] 2 rfl (by kernel_rfl) (by kernel_rfl) (show _ = #[true, true, true, false, false, false, false, false, false, false, false, false, false, false, false, false, false, false] from rfl) trivial ⟨(Ctx.sub_of [p363] [p62, CH.row g9 0 [.int .i64 a1.At, .int .i64 a1.ID]] C557), (Ctx.sub_of [p363, CH.row g1 o2 [.slice A58 n60 c59]] [CH.row g9 0 [.int .i64 a1.At, .int .i64 a1.ID]] C557), (Ctx.sub_of [p363, CH.row g1 o2 [.slice A58 n60 c59], p62] [] C557), trivial⟩ (fun _ hC_ => Yl.nilCheck rfl) ?_
            refine WA.take none [] 3 rfl (by kernel_rfl) (by kernel_rfl) (show _ = #[true, true, true, true, false, false, false, false, false, false, false, false, false, false, false, false, false, false] from rfl) trivial ⟨(Ctx.sub_of [p363] [p62, CH.row g9 0 [.int .i64 a1.At, .int .i64 a1.ID]] C557), (Ctx.sub_of [p363, CH.row g1 o2 [.slice A58 n60 c59]] [CH.row g9 0 [.int .i64 a1.At, .int .i64 a1.ID]] C557), (Ctx.sub_of [p363, CH.row g1 o2 [.slice A58 n60 c59], p62] [] C557), trivial⟩ (fun _ hC_ => Yl.fieldAddr (i := 0) rfl Try.underlying39 rfl sz22) ?_
            refine WA.take (some 0) [5, 6, 7, 8, 9, 10, 11, 12, 13, 14, 15, 16, 17] 4 rfl (by kernel_rfl) (by kernel_rfl) (show _ = #[true, true, true, true, true, false, false, false, false, false, false, false, false, false, false, false, false, false] from rfl) (Ctx.sub_of [p363] [p62, CH.row g9 0 [.int .i64 a1.At, .int .i64 a1.ID]] C557) ⟨(Ctx.sub_of [p363] [p62, CH.row g9 0 [.int .i64 a1.At, .int .i64 a1.ID]] C557), (Ctx.sub_of [p363, CH.row g1 o2 [.slice A58 n60 c59]] [CH.row g9 0 [.int .i64 a1.At, .int .i64 a1.ID]] C557), (Ctx.sub_of [p363, CH.row g1 o2 [.slice A58 n60 c59], p62] [] C557), trivial⟩ (fun _ hC_ => Yl.loadV (g := g1) (off := o2) (o := 0) (cs := [.slice A58 n60 c59]) (v := .slice A58 n60 c59) rfl Try.underlying22 rfl (show Sub (CH.row g1 o2 [.slice A58 n60 c59]) _ from hC_) rfl) ?_
            refine WA.take none [] 5 rfl (by kernel_rfl) (by kernel_rfl) (show _ = #[true, true, true, true, true, true, false, false, false, false, false, false, false, false, false, false, false, false] from rfl) trivial ⟨(Ctx.sub_of [p363] [p62, CH.row g9 0 [.int .i64 a1.At, .int .i64 a1.ID]] C557), (Ctx.sub_of [p363, CH.row g1 o2 [.slice A58 n60 c59]] [CH.row g9 0 [.int .i64 a1.At, .int .i64 a1.ID]] C557), (Ctx.sub_of [p363, CH.row g1 o2 [.slice A58 n60 c59], p62] [] C557), trivial⟩ (fun _ hC_ => Yl.lenN (A := A58) (l := n60) (q := c59) (n := (x57.L.length : Int)) rfl Try.underlying22 (by omega)) ?_
            refine WA.take none [] 6 rfl (by kernel_rfl) (by kernel_rfl) (show _ = #[true, true, true, true, true, true, true, false, false, false, false, false, false, false, false, false, false, false] from rfl) trivial ⟨(Ctx.sub_of [p363] [p62, CH.row g9 0 [.int .i64 a1.At, .int .i64 a1.ID]] C557), (Ctx.sub_of [p363, CH.row g1 o2 [.slice A58 n60 c59]] [CH.row g9 0 [.int .i64 a1.At, .int .i64 a1.ID]] C557), (Ctx.sub_of [p363, CH.row g1 o2 [.slice A58 n60 c59], p62] [] C557), trivial⟩ (fun _ hC_ => Yl.lss (m := x366) (n := (x57.L.length : Int)) (q := decide (x366 < (x57.L.length : Int))) rfl rfl rfl) ?_
            refine WA.take none [] 7 rfl (by kernel_rfl) (by kernel_rfl) (show _ = #[true, true, true, true, true, true, true, true, false, false, false, false, false, false, false, false, false, false] from rfl) trivial ⟨(Ctx.sub_of [p363] [p62, CH.row g9 0 [.int .i64 a1.At, .int .i64 a1.ID]] C557), (Ctx.sub_of [p363, CH.row g1 o2 [.slice A58 n60 c59]] [CH.row g9 0 [.int .i64 a1.At, .int .i64 a1.ID]] C557), (Ctx.sub_of [p363, CH.row g1 o2 [.slice A58 n60 c59], p62] [] C557), trivial⟩ (fun _ hC_ => Yl.move (v := .bool (decide (x366 < (x57.L.length : Int)))) rfl) ?_
            refine WA.takeOn none [] 8 rfl rfl (congrArg Value.bool (decide_eq_true hc532)) (by kernel_rfl) (by kernel_rfl) (show _ = #[true, true, true, true, true, true, true, true, true, false, false, false, false, false, false, false, false, false] from rfl) trivial ⟨(Ctx.sub_of [p363] [p62, CH.row g9 0 [.int .i64 a1.At, .int .i64 a1.ID]] C557), (Ctx.sub_of [p363, CH.row g1 o2 [.slice A58 n60 c59]] [CH.row g9 0 [.int .i64 a1.At, .int .i64 a1.ID]] C557), (Ctx.sub_of [p363, CH.row g1 o2 [.slice A58 n60 c59], p62] [] C557), trivial⟩ (fun _ hC_ => Yl.move (v := .pointer (some ⟨g1, o2, none⟩)) ho355) ?_
            refine WA.takeOn none [] 9 rfl rfl (congrArg Value.bool (decide_eq_true hc532)) (by kernel_rfl) (by kernel_rfl) (show _ = #[true, true, true, true, true, true, true, true, true, true, false, false, false, false, false, false, false, false] from rfl) trivial ⟨(Ctx.sub_of [p363] [p62, CH.row g9 0 [.int .i64 a1.At, .int .i64 a1.ID]] C557), (Ctx.sub_of [p363, CH.row g1 o2 [.slice A58 n60 c59]] [CH.row g9 0 [.int .i64 a1.At, .int .i64 a1.ID]] C557), (Ctx.sub_of [p363, CH.row g1 o2 [.slice A58 n60 c59], p62] [] C557), trivial⟩ (fun _ hC_ => Yl.nilCheck rfl) ?_
            refine WA.takeOn none [] 10 rfl rfl (congrArg Value.bool (decide_eq_true hc532)) (by kernel_rfl) (by kernel_rfl) (show _ = #[true, true, true, true, true, true, true, true, true, true, true, false, false, false, false, false, false, false] from rfl) trivial ⟨(Ctx.sub_of [p363] [p62, CH.row g9 0 [.int .i64 a1.At, .int .i64 a1.ID]] C557), (Ctx.sub_of [p363, CH.row g1 o2 [.slice A58 n60 c59]] [CH.row g9 0 [.int .i64 a1.At, .int .i64 a1.ID]] C557), (Ctx.sub_of [p363, CH.row g1 o2 [.slice A58 n60 c59], p62] [] C557), trivial⟩ (fun _ hC_ => Yl.fieldAddr (i := 0) rfl Try.underlying39 rfl sz22) ?_
            refine WA.takeOn (some 0) [13, 14, 16, 17] 11 rfl rfl (congrArg Value.bool (decide_eq_true hc532)) (by kernel_rfl) (by kernel_rfl) (show _ = #[true, true, true, true, true, true, true, true, true, true, true, true, false, false, false, false, false, false] from rfl) (Ctx.sub_of [p363] [p62, CH.row g9 0 [.int .i64 a1.At, .int .i64 a1.ID]] C557) ⟨(Ctx.sub_of [p363] [p62, CH.row g9 0 [.int .i64 a1.At, .int .i64 a1.ID]] C557), (Ctx.sub_of [p363, CH.row g1 o2 [.slice A58 n60 c59]] [CH.row g9 0 [.int .i64 a1.At, .int .i64 a1.ID]] C557), (Ctx.sub_of [p363, CH.row g1 o2 [.slice A58 n60 c59], p62] [] C557), trivial⟩ (fun _ hC_ => Yl.loadV (g := g1) (off := o2) (o := 0) (cs := [.slice A58 n60 c59]) (v := .slice A58 n60 c59) rfl Try.underlying22 rfl (show Sub (CH.row g1 o2 [.slice A58 n60 c59]) _ from hC_) rfl) ?_
            refine WA.takeOn none [] 12 rfl rfl (congrArg Value.bool (decide_eq_true hc532)) (by kernel_rfl) (by kernel_rfl) (show _ = #[true, true, true, true, true, true, true, true, true, true, true, true, true, false, false, false, false, false] from rfl) trivial ⟨(Ctx.sub_of [p363] [p62, CH.row g9 0 [.int .i64 a1.At, .int .i64 a1.ID]] C557), (Ctx.sub_of [p363, CH.row g1 o2 [.slice A58 n60 c59]] [CH.row g9 0 [.int .i64 a1.At, .int .i64 a1.ID]] C557), (Ctx.sub_of [p363, CH.row g1 o2 [.slice A58 n60 c59], p62] [] C557), trivial⟩ (fun _ hC_ => Yl.move (v := .int .i64 x366) ho365) ?_
            obtain ⟨hc558, hX531⟩ := guardE hX531
            obtain ⟨b559, of560, hA561, he562⟩ := (Row.sl hR63) (by omega)
            refine WA.takeOn none [] 13 rfl rfl (congrArg Value.bool (decide_eq_true hc532)) (by kernel_rfl) (by kernel_rfl) (show _ = #[true, true, true, true, true, true, true, true, true, true, true, true, true, true, false, false, false, false] from rfl) trivial ⟨(Ctx.sub_of [p363] [p62, CH.row g9 0 [.int .i64 a1.At, .int .i64 a1.ID]] C557), (Ctx.sub_of [p363, CH.row g1 o2 [.slice A58 n60 c59]] [CH.row g9 0 [.int .i64 a1.At, .int .i64 a1.ID]] C557), (Ctx.sub_of [p363, CH.row g1 o2 [.slice A58 n60 c59], p62] [] C557), trivial⟩ (fun _ hC_ => Yl.elemAddr (i := x366) rfl rfl hA561 Try.underlying22 sz29 (by omega)) ?_
            obtain ⟨cs563, hr564, hx565⟩ := he562 x366.toNat _ (getD_some (d := TEntry.z) (by omega))
            obtain ⟨rfl⟩ := TEntry.open hr564
            refine WA.takeOn (some 1) [16, 17] 14 rfl rfl (congrArg Value.bool (decide_eq_true hc532)) (by kernel_rfl) (by kernel_rfl) (show _ = #[true, true, true, true, true, true, true, true, true, true, true, true, true, true, true, false, false, false] from rfl) (Ctx.sub_of [p363, CH.row g1 o2 [.slice A58 n60 c59]] [CH.row g9 0 [.int .i64 a1.At, .int .i64 a1.ID]] C557) ⟨(Ctx.sub_of [p363] [p62, CH.row g9 0 [.int .i64 a1.At, .int .i64 a1.ID]] C557), (Ctx.sub_of [p363, CH.row g1 o2 [.slice A58 n60 c59]] [CH.row g9 0 [.int .i64 a1.At, .int .i64 a1.ID]] C557), (Ctx.sub_of [p363, CH.row g1 o2 [.slice A58 n60 c59], p62] [] C557), trivial⟩ (fun _ hC_ => Yl.loadAgg (cs := [.int .i64 ((x57.L.getD x366.toNat TEntry.z).At), .int .i64 ((x57.L.getD x366.toNat TEntry.z).ID)]) rfl Try.underlying29 rfl sz29 (fun j u hu => by rw [add_of]; exact ((show Sub p62 _ from hC_)).cell (hx565 _ _ hu))) ?_
            refine WA.takeOn (some 2) [16, 17] 15 rfl rfl (congrArg Value.bool (decide_eq_true hc532)) (by kernel_rfl) (by kernel_rfl) (show _ = #[true, true, true, true, true, true, true, true, true, true, true, true, true, true, true, true, false, false] from rfl) (Ctx.sub_of [p363, CH.row g1 o2 [.slice A58 n60 c59], p62] [] C557) ⟨(Ctx.sub_of [p363] [p62, CH.row g9 0 [.int .i64 a1.At, .int .i64 a1.ID]] C557), (Ctx.sub_of [p363, CH.row g1 o2 [.slice A58 n60 c59]] [CH.row g9 0 [.int .i64 a1.At, .int .i64 a1.ID]] C557), (Ctx.sub_of [p363, CH.row g1 o2 [.slice A58 n60 c59], p62] [] C557), trivial⟩ (fun _ hC_ => Yl.loadVA (g := g9) (off := 0) (o := 0) (cs := [.int .i64 a1.At, .int .i64 a1.ID]) (us := [.int .i64 a1.At, .int .i64 a1.ID]) ho356 Try.underlying29 rfl sz29 (show Sub (CH.row g9 0 [.int .i64 a1.At, .int .i64 a1.ID]) _ from hC_) rfl) ?_
            obtain ⟨r567, hg566, hX531⟩ := bindE hX531
            refine WA.up1 16 (by kernel_rfl) (Up.callG (args := #[.agg (List.toArray [.int .i64 ((x57.L.getD x366.toNat TEntry.z).At), .int .i64 ((x57.L.getD x366.toNat TEntry.z).ID)]), .agg (List.toArray [.int .i64 a1.At, .int .i64 a1.ID])]) rfl rfl (congrArg Value.bool (decide_eq_true hc532)) (by kernel_rfl) (show _ = #[true, true, true, true, true, true, true, true, true, true, true, true, true, true, true, true, true, false] from rfl) (Yenter.fn Try.func26 (by kernel_rfl) rfl (argsE (.cons rfl (.cons rfl .nil)))) (juratref13_before.calls k483 _ F (x57.L.getD x366.toNat TEntry.z) a1 (Ctx.pre (qs := []) (rest := [p363, CH.row g1 o2 [.slice A58 n60 c59], p62, CH.row g9 0 [.int .i64 a1.At, .int .i64 a1.ID]]) C557)  r567 hg566) ?_)
            rintro e_ w_ ⟨rfl, C568⟩
            have C569 : Ctx _ _ _ _ F [p363, CH.row g1 o2 [.slice A58 n60 c59], p62, CH.row g9 0 [.int .i64 a1.At, .int .i64 a1.ID]] := Ctx.call (qs := []) (rest := [p363, CH.row g1 o2 [.slice A58 n60 c59], p62, CH.row g9 0 [.int .i64 a1.At, .int .i64 a1.ID]]) C557 C568
            refine ⟨_, rfl, ⟨trivial, trivial, trivial, trivial⟩, ?_⟩
            refine WA.take none [] 17 rfl (by kernel_rfl) (by kernel_rfl) (show _ = #[true, true, true, true, true, true, true, true, true, true, true, true, true, true, true, true, true, true] from rfl) trivial ⟨trivial, trivial, trivial, trivial⟩ (fun _ hC_ => Yl.pickT (v := .bool r567) (congrArg Value.bool (decide_eq_true hc532)) rfl) ?_
            refine WA.done (by kernel_rfl) ?_
            cases hX531
            refine thenE_n ?_
            exact ⟨ho355, ho356, ho357, ho365, rfl, C569⟩
          · skip
            refine W.regionA [([], CH.row g1 o2 [.slice A58 n60 c59])] (by kernel_rfl) ?_
            have C570 := Ctx.drewN C367 1
            refine WA.take none [] 0 rfl (by kernel_rfl) (by kernel_rfl) (show _ = #[true, false, false, false, false, false, false, false, false, false, false, false, false, false, false, false, false, false] from rfl) trivial ⟨(Ctx.sub_of [p363] [p62, CH.row g9 0 [.int .i64 a1.At, .int .i64 a1.ID]] C570), trivial⟩ (fun _ hC_ => Yl.move (v := .int .i64 x366) ho365) ?_
            refine WA.take none [] 1 rfl (by kernel_rfl) (by kernel_rfl) (show _ = #[true, true, false, false, false, false, false, false, false, false, false, false, false, false, false, false, false, false] from rfl) trivial ⟨(Ctx.sub_of [p363] [p62, CH.row g9 0 [.int .i64 a1.At, .int .i64 a1.ID]] C570), trivial⟩ (fun _ hC_ => Yl.move (v := .pointer (some ⟨g1, o2, none⟩)) ho355) ?_
            refine WA.take none [] 2 rfl (by kernel_rfl) (by kernel_rfl) (show _ = #[true, true, true, false, false, false, false, false, false, false, false, false, false, false, false, false, false, false] from rfl) trivial ⟨(Ctx.sub_of [p363] [p62, CH.row g9 0 [.int .i64 a1.At, .int .i64 a1.ID]] C570), trivial⟩ (fun _ hC_ => Yl.nilCheck rfl) ?_
            refine WA.take none [] 3 rfl (by kernel_rfl) (by kernel_rfl) (show _ = #[true, true, true, true, false, false, false, false, false, false, false, false, false, false, false, false, false, false] from rfl) trivial ⟨(Ctx.sub_of [p363] [p62, CH.row g9 0 [.int .i64 a1.At, .int .i64 a1.ID]] C570), trivial⟩ (fun _ hC_ => Yl.fieldAddr (i := 0) rfl Try.underlying39 rfl sz22) ?_
            refine WA.take (some 0) [5, 6, 7, 8, 9, 10, 11, 12, 13, 14, 15, 16, 17] 4 rfl (by kernel_rfl) (by kernel_rfl) (show _ = #[true, true, true, true, true, false, false, false, false, false, false, false, false, false, false, false, false, false] from rfl) (Ctx.sub_of [p363] [p62, CH.row g9 0 [.int .i64 a1.At, .int .i64 a1.ID]] C570) ⟨(Ctx.sub_of [p363] [p62, CH.row g9 0 [.int .i64 a1.At, .int .i64 a1.ID]] C570), trivial⟩ (fun _ hC_ => Yl.loadV (g := g1) (off := o2) (o := 0) (cs := [.slice A58 n60 c59]) (v := .slice A58 n60 c59) rfl Try.underlying22 rfl (show Sub (CH.row g1 o2 [.slice A58 n60 c59]) _ from hC_) rfl) ?_
            refine WA.take none [] 5 rfl (by kernel_rfl) (by kernel_rfl) (show _ = #[true, true, true, true, true, true, false, false, false, false, false, false, false, false, false, false, false, false] from rfl) trivial ⟨(Ctx.sub_of [p363] [p62, CH.row g9 0 [.int .i64 a1.At, .int .i64 a1.ID]] C570), trivial⟩ (fun _ hC_ => Yl.lenN (A := A58) (l := n60) (q := c59) (n := (x57.L.length : Int)) rfl Try.underlying22 (by omega)) ?_
            refine WA.take none [] 6 rfl (by kernel_rfl) (by kernel_rfl) (show _ = #[true, true, true, true, true, true, true, false, false, false, false, false, false, false, false, false, false, false] from rfl) trivial ⟨(Ctx.sub_of [p363] [p62, CH.row g9 0 [.int .i64 a1.At, .int .i64 a1.ID]] C570), trivial⟩ (fun _ hC_ => Yl.lss (m := x366) (n := (x57.L.length : Int)) (q := decide (x366 < (x57.L.length : Int))) rfl rfl rfl) ?_
            refine WA.take none [] 7 rfl (by kernel_rfl) (by kernel_rfl) (show _ = #[true, true, true, true, true, true, true, true, false, false, false, false, false, false, false, false, false, false] from rfl) trivial ⟨(Ctx.sub_of [p363] [p62, CH.row g9 0 [.int .i64 a1.At, .int .i64 a1.ID]] C570), trivial⟩ (fun _ hC_ => Yl.move (v := .bool (decide (x366 < (x57.L.length : Int)))) rfl) ?_
            refine WA.takeOff 8 rfl rfl (congrArg Value.bool (decide_eq_false hc532)) (by kernel_rfl) (by kernel_rfl) (show _ = #[true, true, true, true, true, true, true, true, true, false, false, false, false, false, false, false, false, false] from rfl) ⟨(Ctx.sub_of [p363] [p62, CH.row g9 0 [.int .i64 a1.At, .int .i64 a1.ID]] C570), trivial⟩ ?_
            refine WA.takeOff 9 rfl rfl (congrArg Value.bool (decide_eq_false hc532)) (by kernel_rfl) (by kernel_rfl) (show _ = #[true, true, true, true, true, true, true, true, true, true, false, false, false, false, false, false, false, false] from rfl) ⟨(Ctx.sub_of [p363] [p62, CH.row g9 0 [.int .i64 a1.At, .int .i64 a1.ID]] C570), trivial⟩ ?_
            refine WA.takeOff 10 rfl rfl (congrArg Value.bool (decide_eq_false hc532)) (by kernel_rfl) (by kernel_rfl) (show _ = #[true, true, true, true, true, true, true, true, true, true, true, false, false, false, false, false, false, false] from rfl) ⟨(Ctx.sub_of [p363] [p62, CH.row g9 0 [.int .i64 a1.At, .int .i64 a1.ID]] C570), trivial⟩ ?_
            refine WA.takeOff 11 rfl rfl (congrArg Value.bool (decide_eq_false hc532)) (by kernel_rfl) (by kernel_rfl) (show _ = #[true, true, true, true, true, true, true, true, true, true, true, true, false, false, false, false, false, false] from rfl) ⟨(Ctx.sub_of [p363] [p62, CH.row g9 0 [.int .i64 a1.At, .int .i64 a1.ID]] C570), trivial⟩ ?_
            refine WA.takeOff 12 rfl rfl (congrArg Value.bool (decide_eq_false hc532)) (by kernel_rfl) (by kernel_rfl) (show _ = #[true, true, true, true, true, true, true, true, true, true, true, true, true, false, false, false, false, false] from rfl) ⟨(Ctx.sub_of [p363] [p62, CH.row g9 0 [.int .i64 a1.At, .int .i64 a1.ID]] C570), trivial⟩ ?_
            refine WA.takeOff 13 rfl rfl (congrArg Value.bool (decide_eq_false hc532)) (by kernel_rfl) (by kernel_rfl) (show _ = #[true, true, true, true, true, true, true, true, true, true, true, true, true, true, false, false, false, false] from rfl) ⟨(Ctx.sub_of [p363] [p62, CH.row g9 0 [.int .i64 a1.At, .int .i64 a1.ID]] C570), trivial⟩ ?_
            refine WA.takeOff 14 rfl rfl (congrArg Value.bool (decide_eq_false hc532)) (by kernel_rfl) (by kernel_rfl) (show _ = #[true, true, true, true, true, true, true, true, true, true, true, true, true, true, true, false, false, false] from rfl) ⟨(Ctx.sub_of [p363] [p62, CH.row g9 0 [.int .i64 a1.At, .int .i64 a1.ID]] C570), trivial⟩ ?_
            refine WA.takeOff 15 rfl rfl (congrArg Value.bool (decide_eq_false hc532)) (by kernel_rfl) (by kernel_rfl) (show _ = #[true, true, true, true, true, true, true, true, true, true, true, true, true, true, true, true, false, false] from rfl) ⟨(Ctx.sub_of [p363] [p62, CH.row g9 0 [.int .i64 a1.At, .int .i64 a1.ID]] C570), trivial⟩ ?_
            refine WA.takeOff 16 rfl rfl (congrArg Value.bool (decide_eq_false hc532)) (by kernel_rfl) (by kernel_rfl) (show _ = #[true, true, true, true, true, true, true, true, true, true, true, true, true, true, true, true, true, false] from rfl) ⟨(Ctx.sub_of [p363] [p62, CH.row g9 0 [.int .i64 a1.At, .int .i64 a1.ID]] C570), trivial⟩ ?_
            refine WA.take none [] 17 rfl (by kernel_rfl) (by kernel_rfl) (show _ = #[true, true, true, true, true, true, true, true, true, true, true, true, true, true, true, true, true, true] from rfl) trivial ⟨(Ctx.sub_of [p363] [p62, CH.row g9 0 [.int .i64 a1.At, .int .i64 a1.ID]] C570), trivial⟩ (fun _ hC_ => Yl.pickF (v := .bool false) (congrArg Value.bool (decide_eq_false hc532)) rfl) ?_
            refine WA.done (by kernel_rfl) ?_
            cases hX531
            refine thenE_n ?_
            exact ⟨ho355, ho356, ho357, ho365, rfl, C570⟩
        · skip
          rintro env_ w_ ⟨ho524, ho525, ho526, ho527, ho528, C530⟩
          rcases iteE hX354 with ⟨hc571, hX354⟩ | ⟨hc571, hX354⟩
          · skip
            refine W.condT (ho528.trans (congrArg Value.bool hc571)) ?_
            refine W.skip ?_
            refine W.block ?_
            refine W.seq ?_
            refine W.region rfl ?_
            refine WL.val (Yl.move (v := .slice A359 n361 c360) ho526) ?_
            refine WL.val (Yl.move (v := .pointer (some ⟨g1, o2, none⟩)) ho524) ?_
            refine WL.val (Yl.nilCheck rfl) ?_
            refine WL.val (Yl.fieldAddr (i := 0) rfl Try.underlying39 rfl sz22) ?_
            refine WL.val (Yl.loadV (g := g1) (off := o2) (o := 0) (cs := [.slice A58 n60 c59]) (v := .slice A58 n60 c59) rfl Try.underlying22 rfl (Ctx.sub_of [p363] [p62, CH.row g9 0 [.int .i64 a1.At, .int .i64 a1.ID]] C530) rfl) ?_
            refine WL.val (Yl.move (v := .int .i64 x366) ho527) ?_
            obtain ⟨hc572, hX354⟩ := guardE hX354
            obtain ⟨b573, of574, hA575, he576⟩ := (Row.sl hR63) (by omega)
            refine WL.val (Yl.elemAddr (i := x366) rfl rfl hA575 Try.underlying22 sz29 (by omega)) ?_
            obtain ⟨cs577, hr578, hx579⟩ := he576 x366.toNat _ (getD_some (d := TEntry.z) (by omega))
            obtain ⟨rfl⟩ := TEntry.open hr578
            refine WL.val (Yl.loadAgg (cs := [.int .i64 ((x57.L.getD x366.toNat TEntry.z).At), .int .i64 ((x57.L.getD x366.toNat TEntry.z).ID)]) rfl Try.underlying29 rfl sz29 (fun j u hu => by rw [add_of]; exact ((Ctx.sub_of [p363, CH.row g1 o2 [.slice A58 n60 c59]] [CH.row g9 0 [.int .i64 a1.At, .int .i64 a1.ID]] C530)).cell (hx579 _ _ hu))) ?_
            obtain ⟨A580, c581, n582, p583, w584, hn585, hy586, C587, hR588⟩ := ev_lit1' (P := Try.prog) 29 TEntry.K C530 Try.underlying22 ti29 ⟨by decide, by decide⟩ (x57.L.getD x366.toNat TEntry.z) (.agg (List.toArray [.int .i64 ((x57.L.getD x366.toNat TEntry.z).At), .int .i64 ((x57.L.getD x366.toNat TEntry.z).ID)])) (TEntry.mk' _ (x57.L.getD x366.toNat TEntry.z)  )
            refine WL.val (hy586 _ _ _ rfl) ?_
            obtain ⟨hc589, hX354⟩ := guardE hX354
            obtain ⟨A590, c591, n592, p593, w594, hn595, hy596, C597, hR598⟩ := ev_append' (P := Try.prog) (cb := c581) 29 TEntry.K [p583] [CH.row g1 o2 [.slice A58 n60 c59], p62, CH.row g9 0 [.int .i64 a1.At, .int .i64 a1.ID]] C587 hR364 hn585 (Row.sl hR588) (Ctx.sub_of [] [p363, CH.row g1 o2 [.slice A58 n60 c59], p62, CH.row g9 0 [.int .i64 a1.At, .int .i64 a1.ID]] C587) Try.underlying22 ti29 rfl zo29 (by decide) (by decide) (by simpa using hc589)
            have C599 : Ctx _ _ _ _ F [p583, p593, CH.row g1 o2 [.slice A58 n60 c59], p62, CH.row g9 0 [.int .i64 a1.At, .int .i64 a1.ID]] := C597
            refine WL.val (hy596 _ _ _ _ rfl rfl) ?_
            refine WL.val (Yl.assign (v := .slice A590 n592 c591) rfl) ?_
            refine WL.done ?_
            refine W.region rfl ?_
            refine WL.val (Yl.move (v := .int .i64 x366) ho527) ?_
            refine WL.val (Yl.add (m := x366) (n := 1) (r := wi64 (x366 + 1)) rfl rfl rfl) ?_
            refine WL.val (Yl.assign (v := .int .i64 (wi64 (x366 + 1))) rfl) ?_
            refine WL.done ?_
            refine inB_n ?_
            have C600 : Ctx _ _ _ _ F [p593, CH.row g1 o2 [.slice A58 n60 c59], p62, CH.row g9 0 [.int .i64 a1.At, .int .i64 a1.ID]] := Ctx.drop [] [p593, CH.row g1 o2 [.slice A58 n60 c59], p62, CH.row g9 0 [.int .i64 a1.At, .int .i64 a1.ID]] C599
            exact thenE_n ⟨k483, Nat.lt_succ_self _, x358 ++ [x57.L.getD x366.toNat TEntry.z], wi64 (x366 + 1), A590, c591, n592, p593, ho524, ho525, rfl, rfl, C600, hn595, hR598, hX354⟩
          · skip
            refine W.condF (ho528.trans (congrArg Value.bool (Bool.eq_false_iff.2 hc571))) ?_
            refine W.exit ?_
            refine thenE_x ?_
            refine thenE_x ?_
            refine inB_here ?_
            cases hX354
            refine thenE_n ?_
            exact ⟨A359, c360, n361, p363, ho524, ho525, ho526, ho527, C530, hn362, hR364⟩
      · skip
        rintro env_ w_ ⟨A345, c346, n347, p349, ho341, ho342, ho343, ho351, C353, hn348, hR350⟩
        refine W.seq ?_
        refine W.region rfl ?_
        refine WL.val (Yl.move (v := .slice A345 n347 c346) ho343) ?_
        refine WL.val (Yl.loadVA (g := g9) (off := 0) (o := 0) (cs := [.int .i64 a1.At, .int .i64 a1.ID]) (us := [.int .i64 a1.At, .int .i64 a1.ID]) ho342 Try.underlying29 rfl sz29 (Ctx.sub_of [p349, CH.row g1 o2 [.slice A58 n60 c59], p62] [] C353) rfl) ?_
        obtain ⟨A601, c602, n603, p604, w605, hn606, hy607, C608, hR609⟩ := ev_lit1' (P := Try.prog) 29 TEntry.K C353 Try.underlying22 ti29 ⟨by decide, by decide⟩ a1 (.agg (List.toArray [.int .i64 a1.At, .int .i64 a1.ID])) (TEntry.mk' _ a1  )
        refine WL.val (hy607 _ _ _ rfl) ?_
        obtain ⟨hc610, H⟩ := guardE H
        obtain ⟨A611, c612, n613, p614, w615, hn616, hy617, C618, hR619⟩ := ev_append' (P := Try.prog) (cb := c602) 29 TEntry.K [p604] [CH.row g1 o2 [.slice A58 n60 c59], p62, CH.row g9 0 [.int .i64 a1.At, .int .i64 a1.ID]] C608 hR350 hn606 (Row.sl hR609) (Ctx.sub_of [] [p349, CH.row g1 o2 [.slice A58 n60 c59], p62, CH.row g9 0 [.int .i64 a1.At, .int .i64 a1.ID]] C608) Try.underlying22 ti29 rfl zo29 (by decide) (by decide) (by simpa using hc610)
        have C620 : Ctx _ _ _ _ F [p604, p614, CH.row g1 o2 [.slice A58 n60 c59], p62, CH.row g9 0 [.int .i64 a1.At, .int .i64 a1.ID]] := C618
        refine WL.val (hy617 _ _ _ _ rfl rfl) ?_
        refine WL.val (Yl.assign (v := .slice A611 n613 c612) rfl) ?_
        refine WL.done ?_
        refine W.seq ?_
        refine W.region rfl ?_
        refine WL.val (Yl.move (v := .slice A611 n613 c612) rfl) ?_
        refine WL.val (Yl.move (v := .pointer (some ⟨g1, o2, none⟩)) ho341) ?_
        refine WL.val (Yl.nilCheck rfl) ?_
        refine WL.val (Yl.fieldAddr (i := 0) rfl Try.underlying39 rfl sz22) ?_
        refine WL.val (Yl.loadV (g := g1) (off := o2) (o := 0) (cs := [.slice A58 n60 c59]) (v := .slice A58 n60 c59) rfl Try.underlying22 rfl (Ctx.sub_of [p604, p614] [p62, CH.row g9 0 [.int .i64 a1.At, .int .i64 a1.ID]] C620) rfl) ?_
        refine WL.val (Yl.move (v := .int .i64 x352) ho351) ?_
        obtain ⟨hc621, H⟩ := guardE H
        have hl630 : x57.L.length ≤ c59 ∧ c59 ≤ maxLen := ⟨(Row.len_le hR63).1, (Row.len_le hR63).2.1⟩
        obtain ⟨A622, c623, n624, hv625, hn626, hl627, hm628, hS629⟩ := Sl.cut (Row.sl hR63) (c := c59) hl630.2 x352.toNat x57.L.length c59 (by omega) (by omega) (by omega) (by omega)
        rw [List.take_length] at hn626 hl627 hS629
        refine WL.val (Yl.slice x352.toNat x57.L.length c59 rfl Try.underlying22 sz29 rfl (hn61).symm (OB.mk rfl (by omega)) (by simp) (by omega) (by omega) (by omega) hv625) ?_
        obtain ⟨hc631, H⟩ := guardE H
        obtain ⟨A632, c633, n634, p635, w636, hn637, hy638, C639, hR640⟩ := ev_append' (P := Try.prog) (cb := c623) 29 TEntry.K [p604] [CH.row g1 o2 [.slice A58 n60 c59], p62, CH.row g9 0 [.int .i64 a1.At, .int .i64 a1.ID]] C620 hR619 hn626 hS629 (Ctx.sub_of [p604, p614, CH.row g1 o2 [.slice A58 n60 c59]] [CH.row g9 0 [.int .i64 a1.At, .int .i64 a1.ID]] C620) Try.underlying22 ti29 rfl zo29 (by decide) (by decide) (by simpa using hc631)
        have C641 : Ctx _ _ _ _ F [p604, p635, CH.row g1 o2 [.slice A58 n60 c59], p62, CH.row g9 0 [.int .i64 a1.At, .int .i64 a1.ID]] := C639
        refine WL.val (hy638 _ _ _ _ rfl rfl) ?_
        refine WL.val (Yl.assign (v := .slice A632 n634 c633) rfl) ?_
        refine WL.done ?_
        refine W.seq ?_
        refine W.region rfl ?_
        refine WL.val (Yl.move (v := .pointer (some ⟨g1, o2, none⟩)) ho341) ?_
        refine WL.val (Yl.move (v := .slice A632 n634 c633) rfl) ?_
        refine WL.val (Yl.nilCheck rfl) ?_
        refine WL.val (Yl.fieldAddr (i := 0) rfl Try.underlying39 rfl sz22) ?_
        obtain ⟨w642, hy643, C644⟩ := ev_set (P := Try.prog) (ps1 := [p604, p635]) (ps2 := [p62, CH.row g9 0 [.int .i64 a1.At, .int .i64 a1.ID]]) (t := 22) (o := 0) [.slice A58 n60 c59] [] [.slice A58 n60 c59] [] [.slice A632 n634 c633] (.slice A632 n634 c633) C641 rfl rfl rfl rfl (by simp [Value.oneCell']) sz22
        have C645 : Ctx _ _ _ _ F [p604, p635, CH.row g1 o2 [.slice A632 n634 c633], p62, CH.row g9 0 [.int .i64 a1.At, .int .i64 a1.ID]] := C644
        refine WL.skip (hy643 _ _ _ _ rfl rfl) ?_
        refine WL.done ?_
        refine W.seq ?_
        refine W.region rfl ?_
        refine WL.val (Yl.assign (v := .int .i64 0) rfl) ?_
        refine WL.done ?_
        refine W.ret ?_
        have C646 : Ctx _ _ _ _ F [p635, CH.row g1 o2 [.slice A632 n634 c633], p62, CH.row g9 0 [.int .i64 a1.At, .int .i64 a1.ID]] := Ctx.drop [] [p635, CH.row g1 o2 [.slice A632 n634 c633], p62, CH.row g9 0 [.int .i64 a1.At, .int .i64 a1.ID]] C645
        have C647 : Ctx _ _ _ _ F [p635, CH.row g1 o2 [.slice A632 n634 c633], CH.row g9 0 [.int .i64 a1.At, .int .i64 a1.ID]] := Ctx.drop [p635, CH.row g1 o2 [.slice A632 n634 c633]] [CH.row g9 0 [.int .i64 a1.At, .int .i64 a1.ID]] C646
        have C648 : Ctx _ _ _ _ F [p635, CH.row g1 o2 [.slice A632 n634 c633]] := Ctx.drop [p635, CH.row g1 o2 [.slice A632 n634 c633]] [] C647
        have C649 : Ctx _ _ _ _ F [CH.row g1 o2 [.slice A632 n634 c633], p635] := Ctx.swap [] [] C648
        cases H
        exact post_r (resE1 rfl rfl) ⟨A632, c633, n634, p635, rfl, C649, hn637, hR640⟩
/-! ### (*jurat/juratref13.Agenda).At: function 18 -/
def juratref13_Agenda_At.f (k : Nat) (a0 : TAgenda_) (a1 : Int) : Option (Int × Bool) := (juratref13_Agenda_find.f k a0 a1).bind fun r12 => if r12 < 0 then (some (0, false)) else (if 0 ≤ r12 ∧ r12 < (a0.L.length : Int) then (some ((a0.L.getD r12.toNat TEntry.z).At, true)) else none)
set_option maxRecDepth 100000 in
set_option maxHeartbeats 4000000 in
theorem juratref13_Agenda_At.calls (k : Nat) (w : World) (F : CH) (g1 : Nat) (o2 : Nat) (A3 : Option Addr) (c4 : Nat) (n5 : Nat) (a0 : TAgenda_) (a1 : Int) (hp : Pre w F []) (hn6 : n5 = a0.L.length) (hl7 : a0.L.length ≤ c4) (hm8 : c4 ≤ maxLen) (hS9 : Sl TEntry.K F F A3 a0.L) (hg10 : CH.le (CH.row g1 o2 [.slice A3 n5 c4]) F) (r0_ : Int) (r1_ : Bool) (H : juratref13_Agenda_At.f k a0 a1 = some (r0_, r1_)) :
    Calls Try.prog 18 #[.pointer (some ⟨g1, o2, none⟩), .int .i64 a1] w fun e w' => e = .returned (.tuple #[(.int .i64 r0_), (.bool r1_)]) ∧ (∃ n_, w' = w.drewN n_) := by
  have C := Ctx.start hp
  generalize domL [] = D at C
  have W0 : ∃ n_, w = w.drewN n_ := ⟨0, rfl⟩
  unfold juratref13_Agenda_At.f at H
  refine Calls.ofW Try.func18 rfl (by simp [Try.ntmps18]) ?_
  refine W.seq ?_
  refine W.region rfl ?_
  refine WL.val (Yl.assign (v := .int .i64 0) rfl) ?_
  refine WL.val (Yl.assign (v := .bool false) rfl) ?_
  refine WL.done ?_
  refine W.seq ?_
  refine W.region rfl ?_
  refine WL.val (Yl.move (v := .pointer (some ⟨g1, o2, none⟩)) rfl) ?_
  refine WL.val (Yl.move (v := .int .i64 a1) rfl) ?_
  obtain ⟨r12, hg11, H⟩ := bindE H
  refine WL.call (args := #[.pointer (some ⟨g1, o2, none⟩), .int .i64 a1]) (Yenter.fn Try.func28 (by kernel_rfl) rfl (argsE (.cons rfl (.cons rfl .nil)))) (juratref13_Agenda_find.calls k _ F g1 o2 A3 c4 n5 a0 a1 C.pre0 hn6 hl7 hm8 hS9 (CH.le_trans hg10 (CH.le_trans (CH.le_refl _) (CH.le_refl _))) r12 hg11) ?_
  rintro e_ w_ ⟨rfl, ⟨m13, rfl⟩⟩
  refine ⟨_, rfl, ?_⟩
  have C14 := Ctx.drewN C m13
  have Wq15 := drew_more W0 m13
  refine WL.val (Yl.assign (v := .int .i64 r12) rfl) ?_
  refine WL.done ?_
  refine W.seq ?_
  refine W.seq ?_
  refine W.region rfl ?_
  refine WL.val (Yl.move (v := .int .i64 r12) rfl) ?_
  refine WL.val (Yl.lss (m := r12) (n := 0) (q := decide (r12 < 0)) rfl rfl rfl) ?_
  refine WL.done ?_
  rcases iteE H with ⟨hc16, H⟩ | ⟨hc16, H⟩
  · skip
    refine W.condT (congrArg Value.bool (decide_eq_true hc16)) ?_
    refine W.seq ?_
    refine W.region rfl ?_
    refine WL.val (Yl.assign (v := .int .i64 0) rfl) ?_
    refine WL.val (Yl.assign (v := .bool false) rfl) ?_
    refine WL.done ?_
    refine W.ret ?_
    refine thenE_r ?_
    cases H
    exact post_r (resE2 rfl rfl rfl) ⟨rfl, Wq15⟩
  · skip
    refine W.condF (congrArg Value.bool (decide_eq_false hc16)) ?_
    refine W.skip ?_
    refine W.seq ?_
    refine W.region rfl ?_
    refine WL.val (Yl.move (v := .pointer (some ⟨g1, o2, none⟩)) rfl) ?_
    refine WL.val (Yl.nilCheck rfl) ?_
    refine WL.val (Yl.fieldAddr (i := 0) rfl Try.underlying39 rfl sz22) ?_
    refine WL.val (Yl.loadV (g := g1) (off := o2) (o := 0) (cs := [.slice A3 n5 c4]) (v := .slice A3 n5 c4) rfl Try.underlying22 rfl (Sub.mono (C14.fro) hg10) rfl) ?_
    refine WL.val (Yl.move (v := .int .i64 r12) rfl) ?_
    obtain ⟨hc17, H⟩ := guardE H
    obtain ⟨b18, of19, hA20, he21⟩ := hS9 (by omega)
    refine WL.val (Yl.elemAddr (i := r12) rfl rfl hA20 Try.underlying22 sz29 (by omega)) ?_
    refine WL.val (Yl.fieldAddr (i := 0) rfl Try.underlying29 rfl sz3) ?_
    obtain ⟨cs22, hr23, hx24⟩ := he21 r12.toNat _ (getD_some (d := TEntry.z) (by omega))
    obtain ⟨rfl⟩ := TEntry.open hr23
    refine WL.val (Yl.load (v := .int .i64 ((a0.L.getD r12.toNat TEntry.z).At)) rfl Try.underlying3 rfl (((C14.fro)).cell (hx24 0 _ rfl))) ?_
    refine WL.val (Yl.assign (v := .int .i64 ((a0.L.getD r12.toNat TEntry.z).At)) rfl) ?_
    refine WL.val (Yl.assign (v := .bool true) rfl) ?_
    refine WL.done ?_
    refine W.ret ?_
    cases H
    exact post_r (resE2 rfl rfl rfl) ⟨rfl, Wq15⟩
/-! ### (*jurat/juratref13.Agenda).Next: function 20 -/
def juratref13_Agenda_Next.f (k : Nat) (a0 : TAgenda_) : Option (TEntry × Bool) := if (a0.L.length : Int) = 0 then (some ((⟨0, 0⟩ : TEntry), false)) else (if 0 ≤ 0 ∧ 0 < (a0.L.length : Int) then (some (a0.L.getD (0 : Int).toNat TEntry.z, true)) else none)
set_option maxRecDepth 100000 in
set_option maxHeartbeats 4000000 in
theorem juratref13_Agenda_Next.calls (k : Nat) (w : World) (F : CH) (g1 : Nat) (o2 : Nat) (A3 : Option Addr) (c4 : Nat) (n5 : Nat) (a0 : TAgenda_) (hp : Pre w F []) (hn6 : n5 = a0.L.length) (hl7 : a0.L.length ≤ c4) (hm8 : c4 ≤ maxLen) (hS9 : Sl TEntry.K F F A3 a0.L) (hg10 : CH.le (CH.row g1 o2 [.slice A3 n5 c4]) F) (r0_ : TEntry) (r1_ : Bool) (H : juratref13_Agenda_Next.f k a0 = some (r0_, r1_)) :
    Calls Try.prog 20 #[.pointer (some ⟨g1, o2, none⟩)] w fun e w' => e = .returned (.tuple #[(.agg (List.toArray [.int .i64 r0_.At, .int .i64 r0_.ID])), (.bool r1_)]) ∧ Ctx w F (domL []) w' F [] := by
  have C := Ctx.start hp
  generalize hD : domL [] = D at C ⊢
  unfold juratref13_Agenda_Next.f at H
  refine Calls.ofW Try.func20 rfl (by simp [Try.ntmps20]) ?_
  refine W.seq ?_
  refine W.region rfl ?_
  obtain ⟨g11, w12, hy13, C14⟩ := ev_alloc (P := Try.prog) (e := 29) [.int .i64 0, .int .i64 0] C zr29 rfl
  refine WL.val (hy13 _ _) ?_
  refine WL.val (Yl.assign (v := .bool false) rfl) ?_
  refine WL.done ?_
  refine W.seq ?_
  refine W.seq ?_
  refine W.region rfl ?_
  refine WL.val (Yl.move (v := .pointer (some ⟨g1, o2, none⟩)) rfl) ?_
  refine WL.val (Yl.nilCheck rfl) ?_
  refine WL.val (Yl.fieldAddr (i := 0) rfl Try.underlying39 rfl sz22) ?_
  refine WL.val (Yl.loadV (g := g1) (off := o2) (o := 0) (cs := [.slice A3 n5 c4]) (v := .slice A3 n5 c4) rfl Try.underlying22 rfl (Sub.mono (C14.fro) hg10) rfl) ?_
  refine WL.val (Yl.lenN (A := A3) (l := n5) (q := c4) (n := (a0.L.length : Int)) rfl Try.underlying22 (by omega)) ?_
  refine WL.val (Yl.eql (m := (a0.L.length : Int)) (n := 0) (q := decide ((a0.L.length : Int) = 0)) rfl rfl rfl) ?_
  refine WL.done ?_
  rcases iteE H with ⟨hc15, H⟩ | ⟨hc15, H⟩
  · skip
    refine W.condT (congrArg Value.bool (decide_eq_true hc15)) ?_
    refine W.seq ?_
    refine W.region rfl ?_
    refine WL.val (Yl.build (places := [(0, 1), (1, 1)]) (cs := List.toArray [.int .i64 0, .int .i64 0]) Try.underlying29 zr29 (pl29 _ Try.underlying29) (partsB .nil) rfl) ?_
    obtain ⟨w16, hy17, C18⟩ := ev_set (P := Try.prog) (ps1 := []) (ps2 := []) (t := 29) (o := 0) [.int .i64 0, .int .i64 0] [] [.int .i64 0, .int .i64 0] [] [.int .i64 0, .int .i64 0] (.agg (List.toArray [.int .i64 0, .int .i64 0])) C14 rfl rfl rfl rfl (by simp [Value.oneCell']) sz29
    have C19 : Ctx _ _ _ _ F [CH.row g11 0 [.int .i64 0, .int .i64 0]] := C18
    refine WL.skip (hy17 _ _ _ _ rfl rfl) ?_
    refine WL.val (Yl.assign (v := .bool false) rfl) ?_
    refine WL.done ?_
    refine W.ret ?_
    refine thenE_r ?_
    have C20 : Ctx _ _ _ _ F [] := Ctx.drop [] [] C19
    cases H
    exact post_r (resET rfl ((.cell rfl (run_loadVA2 (g := g11) (off := 0) (o := 0) (cs := [.int .i64 0, .int .i64 0]) (us := [.int .i64 0, .int .i64 0]) Try.underlying29 rfl sz29 (Ctx.sub_of [] [] C19) rfl) (.tmp rfl .nil))) rfl) ⟨rfl, C20⟩
  · skip
    refine W.condF (congrArg Value.bool (decide_eq_false hc15)) ?_
    refine W.skip ?_
    refine W.seq ?_
    refine W.region rfl ?_
    refine WL.val (Yl.move (v := .pointer (some ⟨g1, o2, none⟩)) rfl) ?_
    refine WL.val (Yl.nilCheck rfl) ?_
    refine WL.val (Yl.fieldAddr (i := 0) rfl Try.underlying39 rfl sz22) ?_
    refine WL.val (Yl.loadV (g := g1) (off := o2) (o := 0) (cs := [.slice A3 n5 c4]) (v := .slice A3 n5 c4) rfl Try.underlying22 rfl (Sub.mono (C14.fro) hg10) rfl) ?_
    obtain ⟨hc21, H⟩ := guardE H
    obtain ⟨b22, of23, hA24, he25⟩ := hS9 (by omega)
    refine WL.val (Yl.elemAddr (i := 0) rfl rfl hA24 Try.underlying22 sz29 (by omega)) ?_
    obtain ⟨cs26, hr27, hx28⟩ := he25 (0 : Int).toNat _ (getD_some (d := TEntry.z) (by omega))
    obtain ⟨rfl⟩ := TEntry.open hr27
    refine WL.val (Yl.loadAgg (cs := [.int .i64 ((a0.L.getD (0 : Int).toNat TEntry.z).At), .int .i64 ((a0.L.getD (0 : Int).toNat TEntry.z).ID)]) rfl Try.underlying29 rfl sz29 (fun j u hu => by rw [add_of]; exact ((C14.fro)).cell (hx28 _ _ hu))) ?_
    obtain ⟨w29, hy30, C31⟩ := ev_set (P := Try.prog) (ps1 := []) (ps2 := []) (t := 29) (o := 0) [.int .i64 0, .int .i64 0] [] [.int .i64 0, .int .i64 0] [] [.int .i64 ((a0.L.getD (0 : Int).toNat TEntry.z).At), .int .i64 ((a0.L.getD (0 : Int).toNat TEntry.z).ID)] (.agg (List.toArray [.int .i64 ((a0.L.getD (0 : Int).toNat TEntry.z).At), .int .i64 ((a0.L.getD (0 : Int).toNat TEntry.z).ID)])) C14 rfl rfl rfl rfl (by simp [Value.oneCell']) sz29
    have C32 : Ctx _ _ _ _ F [CH.row g11 0 [.int .i64 ((a0.L.getD (0 : Int).toNat TEntry.z).At), .int .i64 ((a0.L.getD (0 : Int).toNat TEntry.z).ID)]] := C31
    refine WL.skip (hy30 _ _ _ _ rfl rfl) ?_
    refine WL.val (Yl.assign (v := .bool true) rfl) ?_
    refine WL.done ?_
    refine W.ret ?_
    have C33 : Ctx _ _ _ _ F [] := Ctx.drop [] [] C32
    cases H
    exact post_r (resET rfl ((.cell rfl (run_loadVA2 (g := g11) (off := 0) (o := 0) (cs := [.int .i64 ((a0.L.getD (0 : Int).toNat TEntry.z).At), .int .i64 ((a0.L.getD (0 : Int).toNat TEntry.z).ID)]) (us := [.int .i64 ((a0.L.getD (0 : Int).toNat TEntry.z).At), .int .i64 ((a0.L.getD (0 : Int).toNat TEntry.z).ID)]) Try.underlying29 rfl sz29 (Ctx.sub_of [] [] C32) rfl) (.tmp rfl .nil))) rfl) ⟨rfl, C33⟩
/-! ### (*jurat/juratref13.Agenda).Due: function 21 -/
def juratref13_Agenda_Due.l1 : Nat → TAgenda_ → Int → Int → Option Int
  | 0, _, _, _ => none
  | k + 1, a0, a1, x57 => (if x57 < (a0.L.length : Int) then (if 0 ≤ x57 ∧ x57 < (a0.L.length : Int) then (some (decide (((a0.L.getD x57.toNat TEntry.z).At) ≤ a1))) else none) else (some (false))).bind fun g77 => if g77 = true then (juratref13_Agenda_Due.l1 k a0 a1 (wi64 (x57 + 1))) else (some x57)
def juratref13_Agenda_Due.f (k : Nat) (a0 : TAgenda_) (a1 : Int) : Option ((List TEntry) × TAgenda_) := (juratref13_Agenda_Due.l1 k a0 a1 0).bind fun x51 => if 0 ≤ x51 ∧ x51 ≤ (a0.L.length : Int) then (if (a0.L.take x51.toNat).length * 16 ≤ 140737488355328 then (if 0 ≤ x51 ∧ x51 ≤ (a0.L.length : Int) ∧ (a0.L.length : Int) ≤ (a0.L.length : Int) then (if (a0.L.drop x51.toNat).length * 16 ≤ 140737488355328 then (some (a0.L.take x51.toNat, (⟨a0.L.drop x51.toNat⟩ : TAgenda_))) else none) else none) else none) else none
set_option maxRecDepth 100000 in
set_option maxHeartbeats 4000000 in
theorem juratref13_Agenda_Due.calls (k : Nat) (w : World) (F : CH) (g1 : Nat) (o2 : Nat) (A3 : Option Addr) (c4 : Nat) (n5 : Nat) (p7 : CH) (a0 : TAgenda_) (a1 : Int) (hp : Pre w F [CH.row g1 o2 [.slice A3 n5 c4], p7]) (hn6 : n5 = a0.L.length) (hR8 : Row TEntry.K F p7 (.slice A3 n5 c4) a0.L) (r0_ : List TEntry) (r1_ : TAgenda_) (H : juratref13_Agenda_Due.f k a0 a1 = some (r0_, r1_)) :
    Calls Try.prog 21 #[.pointer (some ⟨g1, o2, none⟩), .int .i64 a1] w fun e w' => ∃ (A155 : Option Addr) (c156 : Nat) (n157 : Nat) (p159 : CH) (A161 : Option Addr) (c162 : Nat) (n163 : Nat) (p165 : CH), e = .returned (.slice A155 n157 c156) ∧ Ctx w F (domL [CH.row g1 o2 [.slice A3 n5 c4], p7]) w' F [CH.row g1 o2 [.slice A161 n163 c162], p165, p159] ∧ n157 = r0_.length ∧ Row TEntry.K F p159 (.slice A155 n157 c156) r0_ ∧ n163 = r1_.L.length ∧ Row TEntry.K F p165 (.slice A161 n163 c162) r1_.L := by
  have C := Ctx.start hp
  generalize hD : domL [CH.row g1 o2 [.slice A3 n5 c4], p7] = D at C ⊢
  unfold juratref13_Agenda_Due.f at H
  refine Calls.ofW Try.func21 rfl (by simp [Try.ntmps21]) ?_
  refine W.seq ?_
  refine W.region rfl ?_
  refine WL.val (Yl.assign (v := .slice none 0 0) rfl) ?_
  refine WL.done ?_
  refine W.seq ?_
  refine W.region rfl ?_
  refine WL.val (Yl.assign (v := .int .i64 0) rfl) ?_
  refine WL.done ?_
  refine W.seq ?_
  obtain ⟨x51, hX53, H⟩ := bindE H
  refine W.cutM (fun env_ w_ => env_ 0 = .pointer (some ⟨g1, o2, none⟩) ∧ env_ 5 = .int .i64 x51 ∧ Ctx w F D w_ F [CH.row g1 o2 [.slice A3 n5 c4], p7]) ?_ ?_
  · skip
    refine W.block ?_
    refine W.loop (fun g_ env_ w_ => ∃ (x57 : Int), env_ 0 = .pointer (some ⟨g1, o2, none⟩) ∧ env_ 1 = .int .i64 a1 ∧ env_ 5 = .int .i64 x57 ∧ Ctx w F D w_ F [CH.row g1 o2 [.slice A3 n5 c4], p7] ∧ juratref13_Agenda_Due.l1 g_ a0 a1 x57 = some x51) k ⟨0, rfl, rfl, rfl, C, hX53⟩ ?_
    clear hX53
    rintro g_ env_ w_ ⟨x57, ho54, ho55, ho56, C58, hX53⟩
    rcases g_ with _ | k76
    · exact absurd hX53 (by simp [juratref13_Agenda_Due.l1])
    rw [juratref13_Agenda_Due.l1] at hX53
    refine W.seq ?_
    refine W.seq ?_
    refine W.region rfl ?_
    refine WL.val (Yl.move (v := .int .i64 x57) ho56) ?_
    refine WL.val (Yl.move (v := .pointer (some ⟨g1, o2, none⟩)) ho54) ?_
    refine WL.val (Yl.nilCheck rfl) ?_
    refine WL.val (Yl.fieldAddr (i := 0) rfl Try.underlying39 rfl sz22) ?_
    refine WL.val (Yl.loadV (g := g1) (off := o2) (o := 0) (cs := [.slice A3 n5 c4]) (v := .slice A3 n5 c4) rfl Try.underlying22 rfl (Ctx.sub_of [] [p7] C58) rfl) ?_
    refine WL.val (Yl.lenN (A := A3) (l := n5) (q := c4) (n := (a0.L.length : Int)) rfl Try.underlying22 (by omega)) ?_
    refine WL.val (Yl.lss (m := x57) (n := (a0.L.length : Int)) (q := decide (x57 < (a0.L.length : Int))) rfl rfl rfl) ?_
    refine WL.val (Yl.move (v := .bool (decide (x57 < (a0.L.length : Int)))) rfl) ?_
    obtain ⟨g77, HE78, hX53⟩ := bindE hX53
    refine WL.cut (fun env_ w_ => env_ 25 = .bool g77 ∧ env_ 0 = .pointer (some ⟨g1, o2, none⟩) ∧ env_ 1 = .int .i64 a1 ∧ env_ 5 = .int .i64 x57 ∧ Ctx w F D w_ F [CH.row g1 o2 [.slice A3 n5 c4], p7]) ?_ ?_
    · skip
      rcases iteE HE78 with ⟨hc79, HE78⟩ | ⟨hc79, HE78⟩
      · skip
        refine WL.on rfl (congrArg Value.bool (decide_eq_true hc79)) ?_
        refine WL.val (Yl.move (v := .pointer (some ⟨g1, o2, none⟩)) ho54) ?_
        refine WL.on rfl (congrArg Value.bool (decide_eq_true hc79)) ?_
        refine WL.val (Yl.nilCheck rfl) ?_
        refine WL.on rfl (congrArg Value.bool (decide_eq_true hc79)) ?_
        refine WL.val (Yl.fieldAddr (i := 0) rfl Try.underlying39 rfl sz22) ?_
        refine WL.on rfl (congrArg Value.bool (decide_eq_true hc79)) ?_
        refine WL.val (Yl.loadV (g := g1) (off := o2) (o := 0) (cs := [.slice A3 n5 c4]) (v := .slice A3 n5 c4) rfl Try.underlying22 rfl (Ctx.sub_of [] [p7] C58) rfl) ?_
        refine WL.on rfl (congrArg Value.bool (decide_eq_true hc79)) ?_
        refine WL.val (Yl.move (v := .int .i64 x57) ho56) ?_
        refine WL.on rfl (congrArg Value.bool (decide_eq_true hc79)) ?_
        obtain ⟨hc80, HE78⟩ := guardE HE78
        obtain ⟨b81, of82, hA83, he84⟩ := (Row.sl hR8) (by omega)
        refine WL.val (Yl.elemAddr (i := x57) rfl rfl hA83 Try.underlying22 sz29 (by omega)) ?_
        refine WL.on rfl (congrArg Value.bool (decide_eq_true hc79)) ?_
        refine WL.val (Yl.fieldAddr (i := 0) rfl Try.underlying29 rfl sz3) ?_
        refine WL.on rfl (congrArg Value.bool (decide_eq_true hc79)) ?_
        obtain ⟨cs85, hr86, hx87⟩ := he84 x57.toNat _ (getD_some (d := TEntry.z) (by omega))
        obtain ⟨rfl⟩ := TEntry.open hr86
        refine WL.val (Yl.load (v := .int .i64 ((a0.L.getD x57.toNat TEntry.z).At)) rfl Try.underlying3 rfl (((Ctx.sub_of [CH.row g1 o2 [.slice A3 n5 c4]] [] C58)).cell (hx87 0 _ rfl))) ?_
        refine WL.on rfl (congrArg Value.bool (decide_eq_true hc79)) ?_
        refine WL.val (Yl.move (v := .int .i64 a1) ho55) ?_
        refine WL.on rfl (congrArg Value.bool (decide_eq_true hc79)) ?_
        refine WL.val (Yl.leq (m := (a0.L.getD x57.toNat TEntry.z).At) (n := a1) (q := decide (((a0.L.getD x57.toNat TEntry.z).At) ≤ a1)) rfl rfl rfl) ?_
        refine WL.val (Yl.pickT (v := .bool (decide (((a0.L.getD x57.toNat TEntry.z).At) ≤ a1))) (congrArg Value.bool (decide_eq_true hc79)) rfl) ?_
        cases HE78
        exact WL.done ⟨rfl, ho54, ho55, ho56, C58⟩
      · skip
        refine WL.off rfl (congrArg Value.bool (decide_eq_false hc79)) ?_
        refine WL.off rfl (congrArg Value.bool (decide_eq_false hc79)) ?_
        refine WL.off rfl (congrArg Value.bool (decide_eq_false hc79)) ?_
        refine WL.off rfl (congrArg Value.bool (decide_eq_false hc79)) ?_
        refine WL.off rfl (congrArg Value.bool (decide_eq_false hc79)) ?_
        refine WL.off rfl (congrArg Value.bool (decide_eq_false hc79)) ?_
        refine WL.off rfl (congrArg Value.bool (decide_eq_false hc79)) ?_
        refine WL.off rfl (congrArg Value.bool (decide_eq_false hc79)) ?_
        refine WL.off rfl (congrArg Value.bool (decide_eq_false hc79)) ?_
        refine WL.off rfl (congrArg Value.bool (decide_eq_false hc79)) ?_
        refine WL.val (Yl.pickF (v := .bool false) (congrArg Value.bool (decide_eq_false hc79)) rfl) ?_
        cases HE78
        exact WL.done ⟨rfl, ho54, ho55, ho56, C58⟩
    · skip
      rintro env_ w_ ⟨ho88, ho89, ho90, ho91, C92⟩
      rcases iteE hX53 with ⟨hc93, hX53⟩ | ⟨hc93, hX53⟩
      · skip
        refine W.condT (ho88.trans (congrArg Value.bool hc93)) ?_
        refine W.skip ?_
        refine W.block ?_
        refine W.region rfl ?_
        refine WL.val (Yl.move (v := .int .i64 x57) ho91) ?_
        refine WL.val (Yl.add (m := x57) (n := 1) (r := wi64 (x57 + 1)) rfl rfl rfl) ?_
        refine WL.val (Yl.assign (v := .int .i64 (wi64 (x57 + 1))) rfl) ?_
        refine WL.done ?_
        refine inB_n ?_
        exact thenE_n ⟨k76, Nat.lt_succ_self _, wi64 (x57 + 1), ho89, ho90, rfl, C92, hX53⟩
      · skip
        refine W.condF (ho88.trans (congrArg Value.bool (Bool.eq_false_iff.2 hc93))) ?_
        refine W.exit ?_
        refine thenE_x ?_
        refine thenE_x ?_
        refine inB_here ?_
        cases hX53
        refine thenE_n ?_
        exact ⟨ho89, ho91, C92⟩
  · skip
    rintro env_ w_ ⟨ho49, ho50, C52⟩
    refine W.seq ?_
    refine W.region rfl ?_
    obtain ⟨A94, c95, n96, p97, w98, hn99, hy100, C101, hR102⟩ := ev_lit0 (P := Try.prog) 29 TEntry.K C52 Try.underlying22 ti29
    refine WL.val (hy100 _ _) ?_
    refine WL.val (Yl.move (v := .pointer (some ⟨g1, o2, none⟩)) ho49) ?_
    refine WL.val (Yl.nilCheck rfl) ?_
    refine WL.val (Yl.fieldAddr (i := 0) rfl Try.underlying39 rfl sz22) ?_
    refine WL.val (Yl.loadV (g := g1) (off := o2) (o := 0) (cs := [.slice A3 n5 c4]) (v := .slice A3 n5 c4) rfl Try.underlying22 rfl (Ctx.sub_of [p97] [p7] C101) rfl) ?_
    refine WL.val (Yl.move (v := .int .i64 x51) ho50) ?_
    obtain ⟨hc103, H⟩ := guardE H
    have hl106 := (Row.len_le hR8).1
    obtain ⟨hn104, hR105⟩ := Row.take hR8 x51.toNat (by omega)
    refine WL.val (Yl.sliceHi rfl Try.underlying22 sz29 rfl ⟨hc103.1, by omega⟩) ?_
    obtain ⟨hc107, H⟩ := guardE H
    obtain ⟨A108, c109, n110, p111, w112, hn113, hy114, C115, hR116⟩ := ev_append' (P := Try.prog) (cb := c4) 29 TEntry.K [] [CH.row g1 o2 [.slice A3 n5 c4], p7] C101 hR102 hn104 (Row.sl hR105) (Ctx.sub_of [p97, CH.row g1 o2 [.slice A3 n5 c4]] [] C101) Try.underlying22 ti29 rfl zo29 (by decide) (by decide) (by simpa using hc107)
    have C117 : Ctx _ _ _ _ F [p111, CH.row g1 o2 [.slice A3 n5 c4], p7] := C115
    rw [List.nil_append] at hn113 hR116
    refine WL.val (hy114 _ _ _ _ rfl rfl) ?_
    refine WL.val (Yl.assign (v := .slice A108 n110 c109) rfl) ?_
    refine WL.done ?_
    refine W.seq ?_
    refine W.region rfl ?_
    refine WL.val (Yl.move (v := .pointer (some ⟨g1, o2, none⟩)) ho49) ?_
    obtain ⟨A118, c119, n120, p121, w122, hn123, hy124, C125, hR126⟩ := ev_lit0 (P := Try.prog) 29 TEntry.K C117 Try.underlying22 ti29
    refine WL.val (hy124 _ _) ?_
    refine WL.val (Yl.move (v := .pointer (some ⟨g1, o2, none⟩)) ho49) ?_
    refine WL.val (Yl.nilCheck rfl) ?_
    refine WL.val (Yl.fieldAddr (i := 0) rfl Try.underlying39 rfl sz22) ?_
    refine WL.val (Yl.loadV (g := g1) (off := o2) (o := 0) (cs := [.slice A3 n5 c4]) (v := .slice A3 n5 c4) rfl Try.underlying22 rfl (Ctx.sub_of [p121, p111] [p7] C125) rfl) ?_
    refine WL.val (Yl.move (v := .int .i64 x51) ho50) ?_
    obtain ⟨hc127, H⟩ := guardE H
    have hl136 : a0.L.length ≤ c4 ∧ c4 ≤ maxLen := ⟨(Row.len_le hR8).1, (Row.len_le hR8).2.1⟩
    obtain ⟨A128, c129, n130, hv131, hn132, hl133, hm134, hS135⟩ := Sl.cut (Row.sl hR8) (c := c4) hl136.2 x51.toNat a0.L.length c4 (by omega) (by omega) (by omega) (by omega)
    rw [List.take_length] at hn132 hl133 hS135
    refine WL.val (Yl.slice x51.toNat a0.L.length c4 rfl Try.underlying22 sz29 rfl (hn6).symm (OB.mk rfl (by omega)) (by simp) (by omega) (by omega) (by omega) hv131) ?_
    obtain ⟨hc137, H⟩ := guardE H
    obtain ⟨A138, c139, n140, p141, w142, hn143, hy144, C145, hR146⟩ := ev_append' (P := Try.prog) (cb := c129) 29 TEntry.K [] [p111, CH.row g1 o2 [.slice A3 n5 c4], p7] C125 hR126 hn132 hS135 (Ctx.sub_of [p121, p111, CH.row g1 o2 [.slice A3 n5 c4]] [] C125) Try.underlying22 ti29 rfl zo29 (by decide) (by decide) (by simpa using hc137)
    have C147 : Ctx _ _ _ _ F [p141, p111, CH.row g1 o2 [.slice A3 n5 c4], p7] := C145
    rw [List.nil_append] at hn143 hR146
    refine WL.val (hy144 _ _ _ _ rfl rfl) ?_
    refine WL.val (Yl.nilCheck rfl) ?_
    refine WL.val (Yl.fieldAddr (i := 0) rfl Try.underlying39 rfl sz22) ?_
    obtain ⟨w148, hy149, C150⟩ := ev_set (P := Try.prog) (ps1 := [p141, p111]) (ps2 := [p7]) (t := 22) (o := 0) [.slice A3 n5 c4] [] [.slice A3 n5 c4] [] [.slice A138 n140 c139] (.slice A138 n140 c139) C147 rfl rfl rfl rfl (by simp [Value.oneCell']) sz22
    have C151 : Ctx _ _ _ _ F [p141, p111, CH.row g1 o2 [.slice A138 n140 c139], p7] := C150
    refine WL.skip (hy149 _ _ _ _ rfl rfl) ?_
    refine WL.done ?_
    refine W.seq ?_
    refine W.region rfl ?_
    refine WL.val (Yl.move (v := .slice A108 n110 c109) rfl) ?_
    refine WL.val (Yl.assign (v := .slice A108 n110 c109) rfl) ?_
    refine WL.done ?_
    refine W.ret ?_
    have C152 : Ctx _ _ _ _ F [p141, p111, CH.row g1 o2 [.slice A138 n140 c139]] := Ctx.drop [p141, p111, CH.row g1 o2 [.slice A138 n140 c139]] [] C151
    have C153 : Ctx _ _ _ _ F [p141, CH.row g1 o2 [.slice A138 n140 c139], p111] := Ctx.swap [p141] [] C152
    have C154 : Ctx _ _ _ _ F [CH.row g1 o2 [.slice A138 n140 c139], p141, p111] := Ctx.swap [] [p111] C153
    cases H
    exact post_r (resE1 rfl rfl) ⟨A108, c109, n110, p111, A138, c139, n140, p141, rfl, C154, hn113, hR116, hn143, hR146⟩
end Go.Proofs.Ytnoocbdpkddpbaa
