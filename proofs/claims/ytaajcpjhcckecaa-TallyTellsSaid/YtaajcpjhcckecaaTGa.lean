/- Functions of the program: each as a plain function of numbers and lists, and the proof that the program's own comes to it. Nothing is assumed but what each theorem says. -/
import Derived.Test.YtaajcpjhcckecaaTGt
namespace Go.Proofs.Ytaajcpjhcckecaa
open Go.RowKit Go.WG
set_option linter.unusedVariables false
set_option linter.unusedSimpArgs false
def juratref01_Same.l1 : Nat → List Int → List Int → Int → Option (Sum Unit Bool)
  | 0, _, _, _ => none
  | k + 1, a0, a1, x72 => if x72 < (a0.length : Int) then (if 0 ≤ x72 ∧ x72 < (a0.length : Int) then (if 0 ≤ x72 ∧ x72 < (a1.length : Int) then (if (a0.getD x72.toNat 0) = (a1.getD x72.toNat 0) then (juratref01_Same.l1 k a0 a1 (wi64 (x72 + 1))) else (some (Sum.inr false))) else none) else none) else (some (Sum.inl ()))
def juratref01_Same.f (k : Nat) (a0 : List Int) (a1 : List Int) : Option Bool := if (a0.length : Int) = (a1.length : Int) then ((juratref01_Same.l1 k a0 a1 0).bind fun o_ => sumE o_ (fun _ => some true) (fun p_ => some p_)) else (some false)
set_option maxRecDepth 100000 in
set_option maxHeartbeats 4000000 in
theorem juratref01_Same.calls (k : Nat) (w : World) (F : CH) (A1 : Option Addr) (c2 : Nat) (n3 : Nat) (a0 : List Int) (A8 : Option Addr) (c9 : Nat) (n10 : Nat) (a1 : List Int) (hp : Pre w F []) (hn4 : n3 = a0.length) (hl5 : a0.length ≤ c2) (hm6 : c2 ≤ maxLen) (hS7 : Sl (Kd.int .u8) F F A1 a0) (hn11 : n10 = a1.length) (hl12 : a1.length ≤ c9) (hm13 : c9 ≤ maxLen) (hS14 : Sl (Kd.int .u8) F F A8 a1) (r0_ : Bool) (H : juratref01_Same.f k a0 a1 = some r0_) :
    Calls Try.prog 12 #[.slice A1 n3 c2, .slice A8 n10 c9] w fun e w' => e = .returned (.bool r0_) ∧ (∃ n_, w' = w.drewN n_) := by
  have C := Ctx.start hp
  generalize domL [] = D at C
  have W0 : ∃ n_, w = w.drewN n_ := ⟨0, rfl⟩
  unfold juratref01_Same.f at H
  refine Calls.ofW Try.func12 rfl (by simp [Try.ntmps12]) ?_
  refine W.seq ?_
  refine W.region rfl ?_
  refine WL.val (Yl.assign (v := .bool false) rfl) ?_
  refine WL.done ?_
  refine W.seq ?_
  refine W.seq ?_
  refine W.region rfl ?_
  refine WL.val (Yl.move (v := .slice A1 n3 c2) rfl) ?_
  refine WL.val (Yl.lenN (A := A1) (l := n3) (q := c2) (n := (a0.length : Int)) rfl Try.underlying23 (by omega)) ?_
  refine WL.val (Yl.move (v := .slice A8 n10 c9) rfl) ?_
  refine WL.val (Yl.lenN (A := A8) (l := n10) (q := c9) (n := (a1.length : Int)) rfl Try.underlying23 (by omega)) ?_
  refine WL.val (Yl.neq (m := (a0.length : Int)) (n := (a1.length : Int)) (q := !decide ((a0.length : Int) = (a1.length : Int))) rfl rfl rfl) ?_
  refine WL.done ?_
  rcases iteE H with ⟨hc15, H⟩ | ⟨hc15, H⟩
  · skip
    refine W.condF (congrArg Value.bool (ndec_t hc15)) ?_
    refine W.skip ?_
    refine W.seq ?_
    refine W.seq ?_
    refine W.region rfl ?_
    refine WL.val (Yl.assign (v := .int .i64 0) rfl) ?_
    refine WL.done ?_
    obtain ⟨o68, hX67, H⟩ := bindE H
    refine W.cutM (fun env_ w_ => Ctx w F D w_ F [] ∧ (∃ n_, w_ = w.drewN n_) ∧ o68 = Sum.inl ()) ?_ ?_
    · skip
      refine W.block ?_
      refine W.loop (fun g_ env_ w_ => ∃ (x72 : Int), env_ 0 = .slice A1 n3 c2 ∧ env_ 1 = .slice A8 n10 c9 ∧ env_ 5 = .int .i64 x72 ∧ Ctx w F D w_ F [] ∧ (∃ n_, w_ = w.drewN n_) ∧ juratref01_Same.l1 g_ a0 a1 x72 = some o68) k ⟨0, rfl, rfl, rfl, C, W0, hX67⟩ ?_
      clear hX67
      rintro g_ env_ w_ ⟨x72, ho69, ho70, ho71, C73, Wq74, hX67⟩
      rcases g_ with _ | k96
      · exact absurd hX67 (by simp [juratref01_Same.l1])
      rw [juratref01_Same.l1] at hX67
      refine W.seq ?_
      refine W.seq ?_
      refine W.region rfl ?_
      refine WL.val (Yl.move (v := .int .i64 x72) ho71) ?_
      refine WL.val (Yl.move (v := .slice A1 n3 c2) ho69) ?_
      refine WL.val (Yl.lenN (A := A1) (l := n3) (q := c2) (n := (a0.length : Int)) rfl Try.underlying23 (by omega)) ?_
      refine WL.val (Yl.lss (m := x72) (n := (a0.length : Int)) (q := decide (x72 < (a0.length : Int))) rfl rfl rfl) ?_
      refine WL.done ?_
      rcases iteE hX67 with ⟨hc97, hX67⟩ | ⟨hc97, hX67⟩
      · skip
        refine W.condT (congrArg Value.bool (decide_eq_true hc97)) ?_
        refine W.skip ?_
        refine W.seq ?_
        refine W.block ?_
        refine W.seq ?_
        refine W.region_quiet (by kernel_rfl) (by kernel_rfl) rfl ?_
        refine WQ.val (fun _ hw => by obtain ⟨_, rfl⟩ := hw; exact Yl.move (v := .slice A1 n3 c2) ho69) ?_
        refine WQ.val (fun _ hw => by obtain ⟨_, rfl⟩ := hw; exact Yl.move (v := .int .i64 x72) ho71) ?_
        obtain ⟨hc98, hX67⟩ := guardE hX67
        obtain ⟨b99, of100, hA101, he102⟩ := hS7 (by omega)
        refine WQ.val (fun _ hw => by obtain ⟨_, rfl⟩ := hw; exact Yl.elemAddr (i := x72) rfl rfl hA101 Try.underlying23 sz5 (by omega)) ?_
        obtain ⟨cs103, hr104, hx105⟩ := he102 x72.toNat _ (getD_some (d := 0) (by omega))
        obtain rfl := hr104
        refine WQ.val (fun _ hw => by obtain ⟨_, rfl⟩ := hw; exact Yl.load (v := .int .u8 (a0.getD x72.toNat 0)) rfl Try.underlying5 rfl ((((C73.drewN _).fro)).cell (hx105 0 _ rfl))) ?_
        refine WQ.val (fun _ hw => by obtain ⟨_, rfl⟩ := hw; exact Yl.move (v := .slice A8 n10 c9) ho70) ?_
        refine WQ.val (fun _ hw => by obtain ⟨_, rfl⟩ := hw; exact Yl.move (v := .int .i64 x72) ho71) ?_
        obtain ⟨hc106, hX67⟩ := guardE hX67
        obtain ⟨b107, of108, hA109, he110⟩ := hS14 (by omega)
        refine WQ.val (fun _ hw => by obtain ⟨_, rfl⟩ := hw; exact Yl.elemAddr (i := x72) rfl rfl hA109 Try.underlying23 sz5 (by omega)) ?_
        obtain ⟨cs111, hr112, hx113⟩ := he110 x72.toNat _ (getD_some (d := 0) (by omega))
        obtain rfl := hr112
        refine WQ.val (fun _ hw => by obtain ⟨_, rfl⟩ := hw; exact Yl.load (v := .int .u8 (a1.getD x72.toNat 0)) rfl Try.underlying5 rfl ((((C73.drewN _).fro)).cell (hx113 0 _ rfl))) ?_
        refine WQ.val (fun _ hw => by obtain ⟨_, rfl⟩ := hw; exact Yl.neq (m := a0.getD x72.toNat 0) (n := a1.getD x72.toNat 0) (q := !decide ((a0.getD x72.toNat 0) = (a1.getD x72.toNat 0))) rfl rfl rfl) ?_
        refine WQ.done (fun nq114 => ?_)
        have C115 := Ctx.drewN C73 nq114
        have Wq116 := drew_more Wq74 nq114
        rcases iteE hX67 with ⟨hc117, hX67⟩ | ⟨hc117, hX67⟩
        · skip
          refine W.condF (congrArg Value.bool (ndec_t hc117)) ?_
          refine W.skip ?_
          refine inB_n ?_
          refine W.region rfl ?_
          refine WL.val (Yl.move (v := .int .i64 x72) ho71) ?_
          refine WL.val (Yl.add (m := x72) (n := 1) (r := wi64 (x72 + 1)) rfl rfl rfl) ?_
          refine WL.val (Yl.assign (v := .int .i64 (wi64 (x72 + 1))) rfl) ?_
          refine WL.done ?_
          exact thenE_n ⟨k96, Nat.lt_succ_self _, wi64 (x72 + 1), ho69, ho70, rfl, C115, Wq116, hX67⟩
        · skip
          refine W.condT (congrArg Value.bool (ndec_f hc117)) ?_
          refine W.seq ?_
          refine W.region rfl ?_
          refine WL.val (Yl.assign (v := .bool false) rfl) ?_
          refine WL.done ?_
          refine W.ret ?_
          refine inB_r ?_
          refine thenE_r ?_
          refine thenE_r ?_
          refine inB_r ?_
          refine thenE_r ?_
          refine thenE_r ?_
          cases hX67
          replace H := sumE_r H
          have e118 := Option.some.inj H
          subst e118
          exact post_r (resE1 rfl rfl) ⟨rfl, Wq116⟩
      · skip
        refine W.condF (congrArg Value.bool (decide_eq_false hc97)) ?_
        refine W.exit ?_
        refine thenE_x ?_
        refine thenE_x ?_
        refine inB_here ?_
        cases hX67
        refine thenE_n ?_
        exact ⟨C73, Wq74, rfl⟩
    · skip
      rintro env_ w_ ⟨C65, Wq66, rfl⟩
      replace H := sumE_l H
      refine W.seq ?_
      refine W.region rfl ?_
      refine WL.val (Yl.assign (v := .bool true) rfl) ?_
      refine WL.done ?_
      refine W.ret ?_
      have e119 := Option.some.inj H
      subst e119
      exact post_r (resE1 rfl rfl) ⟨rfl, Wq66⟩
  · skip
    refine W.condT (congrArg Value.bool (ndec_f hc15)) ?_
    refine W.seq ?_
    refine W.region rfl ?_
    refine WL.val (Yl.assign (v := .bool false) rfl) ?_
    refine WL.done ?_
    refine W.ret ?_
    refine thenE_r ?_
    have e120 := Option.some.inj H
    subst e120
    exact post_r (resE1 rfl rfl) ⟨rfl, W0⟩
def juratref18_Same.l1 : Nat → List Int → List Int → Int → Option (Sum Unit Bool)
  | 0, _, _, _ => none
  | k + 1, a0, a1, x72 => if x72 < (a0.length : Int) then (if 0 ≤ x72 ∧ x72 < (a0.length : Int) then (if 0 ≤ x72 ∧ x72 < (a1.length : Int) then (if (a0.getD x72.toNat 0) = (a1.getD x72.toNat 0) then (juratref18_Same.l1 k a0 a1 (wi64 (x72 + 1))) else (some (Sum.inr false))) else none) else none) else (some (Sum.inl ()))
def juratref18_Same.f (k : Nat) (a0 : List Int) (a1 : List Int) : Option Bool := if (a0.length : Int) = (a1.length : Int) then ((juratref18_Same.l1 k a0 a1 0).bind fun o_ => sumE o_ (fun _ => some true) (fun p_ => some p_)) else (some false)
set_option maxRecDepth 100000 in
set_option maxHeartbeats 4000000 in
theorem juratref18_Same.calls (k : Nat) (w : World) (F : CH) (A1 : Option Addr) (c2 : Nat) (n3 : Nat) (a0 : List Int) (A8 : Option Addr) (c9 : Nat) (n10 : Nat) (a1 : List Int) (hp : Pre w F []) (hn4 : n3 = a0.length) (hl5 : a0.length ≤ c2) (hm6 : c2 ≤ maxLen) (hS7 : Sl (Kd.int .i64) F F A1 a0) (hn11 : n10 = a1.length) (hl12 : a1.length ≤ c9) (hm13 : c9 ≤ maxLen) (hS14 : Sl (Kd.int .i64) F F A8 a1) (r0_ : Bool) (H : juratref18_Same.f k a0 a1 = some r0_) :
    Calls Try.prog 20 #[.slice A1 n3 c2, .slice A8 n10 c9] w fun e w' => e = .returned (.bool r0_) ∧ (∃ n_, w' = w.drewN n_) := by
  have C := Ctx.start hp
  generalize domL [] = D at C
  have W0 : ∃ n_, w = w.drewN n_ := ⟨0, rfl⟩
  unfold juratref18_Same.f at H
  refine Calls.ofW Try.func20 rfl (by simp [Try.ntmps20]) ?_
  refine W.seq ?_
  refine W.region rfl ?_
  refine WL.val (Yl.assign (v := .bool false) rfl) ?_
  refine WL.done ?_
  refine W.seq ?_
  refine W.seq ?_
  refine W.region rfl ?_
  refine WL.val (Yl.move (v := .slice A1 n3 c2) rfl) ?_
  refine WL.val (Yl.lenN (A := A1) (l := n3) (q := c2) (n := (a0.length : Int)) rfl Try.underlying31 (by omega)) ?_
  refine WL.val (Yl.move (v := .slice A8 n10 c9) rfl) ?_
  refine WL.val (Yl.lenN (A := A8) (l := n10) (q := c9) (n := (a1.length : Int)) rfl Try.underlying31 (by omega)) ?_
  refine WL.val (Yl.neq (m := (a0.length : Int)) (n := (a1.length : Int)) (q := !decide ((a0.length : Int) = (a1.length : Int))) rfl rfl rfl) ?_
  refine WL.done ?_
  rcases iteE H with ⟨hc15, H⟩ | ⟨hc15, H⟩
  · skip
    refine W.condF (congrArg Value.bool (ndec_t hc15)) ?_
    refine W.skip ?_
    refine W.seq ?_
    refine W.seq ?_
    refine W.region rfl ?_
    refine WL.val (Yl.assign (v := .int .i64 0) rfl) ?_
    refine WL.done ?_
    obtain ⟨o68, hX67, H⟩ := bindE H
    refine W.cutM (fun env_ w_ => Ctx w F D w_ F [] ∧ (∃ n_, w_ = w.drewN n_) ∧ o68 = Sum.inl ()) ?_ ?_
    · skip
      refine W.block ?_
      refine W.loop (fun g_ env_ w_ => ∃ (x72 : Int), env_ 0 = .slice A1 n3 c2 ∧ env_ 1 = .slice A8 n10 c9 ∧ env_ 5 = .int .i64 x72 ∧ Ctx w F D w_ F [] ∧ (∃ n_, w_ = w.drewN n_) ∧ juratref18_Same.l1 g_ a0 a1 x72 = some o68) k ⟨0, rfl, rfl, rfl, C, W0, hX67⟩ ?_
      clear hX67
      rintro g_ env_ w_ ⟨x72, ho69, ho70, ho71, C73, Wq74, hX67⟩
      rcases g_ with _ | k96
      · exact absurd hX67 (by simp [juratref18_Same.l1])
      rw [juratref18_Same.l1] at hX67
      refine W.seq ?_
      refine W.seq ?_
      refine W.region rfl ?_
      refine WL.val (Yl.move (v := .int .i64 x72) ho71) ?_
      refine WL.val (Yl.move (v := .slice A1 n3 c2) ho69) ?_
      refine WL.val (Yl.lenN (A := A1) (l := n3) (q := c2) (n := (a0.length : Int)) rfl Try.underlying31 (by omega)) ?_
      refine WL.val (Yl.lss (m := x72) (n := (a0.length : Int)) (q := decide (x72 < (a0.length : Int))) rfl rfl rfl) ?_
      refine WL.done ?_
      rcases iteE hX67 with ⟨hc97, hX67⟩ | ⟨hc97, hX67⟩
      · skip
        refine W.condT (congrArg Value.bool (decide_eq_true hc97)) ?_
        refine W.skip ?_
        refine W.seq ?_
        refine W.block ?_
        refine W.seq ?_
        refine W.region_quiet (by kernel_rfl) (by kernel_rfl) rfl ?_
        refine WQ.val (fun _ hw => by obtain ⟨_, rfl⟩ := hw; exact Yl.move (v := .slice A1 n3 c2) ho69) ?_
        refine WQ.val (fun _ hw => by obtain ⟨_, rfl⟩ := hw; exact Yl.move (v := .int .i64 x72) ho71) ?_
        obtain ⟨hc98, hX67⟩ := guardE hX67
        obtain ⟨b99, of100, hA101, he102⟩ := hS7 (by omega)
        refine WQ.val (fun _ hw => by obtain ⟨_, rfl⟩ := hw; exact Yl.elemAddr (i := x72) rfl rfl hA101 Try.underlying31 sz3 (by omega)) ?_
        obtain ⟨cs103, hr104, hx105⟩ := he102 x72.toNat _ (getD_some (d := 0) (by omega))
        obtain rfl := hr104
        refine WQ.val (fun _ hw => by obtain ⟨_, rfl⟩ := hw; exact Yl.load (v := .int .i64 (a0.getD x72.toNat 0)) rfl Try.underlying3 rfl ((((C73.drewN _).fro)).cell (hx105 0 _ rfl))) ?_
        refine WQ.val (fun _ hw => by obtain ⟨_, rfl⟩ := hw; exact Yl.move (v := .slice A8 n10 c9) ho70) ?_
        refine WQ.val (fun _ hw => by obtain ⟨_, rfl⟩ := hw; exact Yl.move (v := .int .i64 x72) ho71) ?_
        obtain ⟨hc106, hX67⟩ := guardE hX67
        obtain ⟨b107, of108, hA109, he110⟩ := hS14 (by omega)
        refine WQ.val (fun _ hw => by obtain ⟨_, rfl⟩ := hw; exact Yl.elemAddr (i := x72) rfl rfl hA109 Try.underlying31 sz3 (by omega)) ?_
        obtain ⟨cs111, hr112, hx113⟩ := he110 x72.toNat _ (getD_some (d := 0) (by omega))
        obtain rfl := hr112
        refine WQ.val (fun _ hw => by obtain ⟨_, rfl⟩ := hw; exact Yl.load (v := .int .i64 (a1.getD x72.toNat 0)) rfl Try.underlying3 rfl ((((C73.drewN _).fro)).cell (hx113 0 _ rfl))) ?_
        refine WQ.val (fun _ hw => by obtain ⟨_, rfl⟩ := hw; exact Yl.neq (m := a0.getD x72.toNat 0) (n := a1.getD x72.toNat 0) (q := !decide ((a0.getD x72.toNat 0) = (a1.getD x72.toNat 0))) rfl rfl rfl) ?_
        refine WQ.done (fun nq114 => ?_)
        have C115 := Ctx.drewN C73 nq114
        have Wq116 := drew_more Wq74 nq114
        rcases iteE hX67 with ⟨hc117, hX67⟩ | ⟨hc117, hX67⟩
        · skip
          refine W.condF (congrArg Value.bool (ndec_t hc117)) ?_
          refine W.skip ?_
          refine inB_n ?_
          refine W.region rfl ?_
          refine WL.val (Yl.move (v := .int .i64 x72) ho71) ?_
          refine WL.val (Yl.add (m := x72) (n := 1) (r := wi64 (x72 + 1)) rfl rfl rfl) ?_
          refine WL.val (Yl.assign (v := .int .i64 (wi64 (x72 + 1))) rfl) ?_
          refine WL.done ?_
          exact thenE_n ⟨k96, Nat.lt_succ_self _, wi64 (x72 + 1), ho69, ho70, rfl, C115, Wq116, hX67⟩
        · skip
          refine W.condT (congrArg Value.bool (ndec_f hc117)) ?_
          refine W.seq ?_
          refine W.region rfl ?_
          refine WL.val (Yl.assign (v := .bool false) rfl) ?_
          refine WL.done ?_
          refine W.ret ?_
          refine inB_r ?_
          refine thenE_r ?_
          refine thenE_r ?_
          refine inB_r ?_
          refine thenE_r ?_
          refine thenE_r ?_
          cases hX67
          replace H := sumE_r H
          have e118 := Option.some.inj H
          subst e118
          exact post_r (resE1 rfl rfl) ⟨rfl, Wq116⟩
      · skip
        refine W.condF (congrArg Value.bool (decide_eq_false hc97)) ?_
        refine W.exit ?_
        refine thenE_x ?_
        refine thenE_x ?_
        refine inB_here ?_
        cases hX67
        refine thenE_n ?_
        exact ⟨C73, Wq74, rfl⟩
    · skip
      rintro env_ w_ ⟨C65, Wq66, rfl⟩
      replace H := sumE_l H
      refine W.seq ?_
      refine W.region rfl ?_
      refine WL.val (Yl.assign (v := .bool true) rfl) ?_
      refine WL.done ?_
      refine W.ret ?_
      have e119 := Option.some.inj H
      subst e119
      exact post_r (resE1 rfl rfl) ⟨rfl, Wq66⟩
  · skip
    refine W.condT (congrArg Value.bool (ndec_f hc15)) ?_
    refine W.seq ?_
    refine W.region rfl ?_
    refine WL.val (Yl.assign (v := .bool false) rfl) ?_
    refine WL.done ?_
    refine W.ret ?_
    refine thenE_r ?_
    have e120 := Option.some.inj H
    subst e120
    exact post_r (resE1 rfl rfl) ⟨rfl, W0⟩
def juratref19_first.l1 : Nat → List TCast → Int → Int → Option (Sum Unit Bool)
  | 0, _, _, _ => none
  | k + 1, a0, a1, x154 => if x154 < a1 then (if 0 ≤ x154 ∧ x154 < (a0.length : Int) then (if 0 ≤ a1 ∧ a1 < (a0.length : Int) then ((if ((a0.getD x154.toNat TCast.z).Worker) = ((a0.getD a1.toNat TCast.z).Worker) then ((juratref01_Same.f k ((a0.getD x154.toNat TCast.z).Value) ((a0.getD a1.toNat TCast.z).Value)).bind fun r281 => some (r281)) else (some (false))).bind fun g277 => if g277 = true then (some (Sum.inr false)) else (juratref19_first.l1 k a0 a1 (wi64 (x154 + 1)))) else none) else none) else (some (Sum.inl ()))
def juratref19_first.f (k : Nat) (a0 : List TCast) (a1 : Int) : Option Bool := (juratref19_first.l1 k a0 a1 0).bind fun o_ => sumE o_ (fun _ => some true) (fun p_ => some p_)
set_option maxRecDepth 100000 in
set_option maxHeartbeats 4000000 in
theorem juratref19_first.calls (k : Nat) (w : World) (F : CH) (A1 : Option Addr) (c2 : Nat) (n3 : Nat) (a0 : List TCast) (a1 : Int) (hp : Pre w F []) (hn4 : n3 = a0.length) (hl5 : a0.length ≤ c2) (hm6 : c2 ≤ maxLen) (hS7 : Sl TCast.K F F A1 a0) (r0_ : Bool) (H : juratref19_first.f k a0 a1 = some r0_) :
    Calls Try.prog 29 #[.slice A1 n3 c2, .int .i64 a1] w fun e w' => e = .returned (.bool r0_) ∧ (∃ n_, w' = w.drewN n_) := by
  have C := Ctx.start hp
  generalize domL [] = D at C
  have W0 : ∃ n_, w = w.drewN n_ := ⟨0, rfl⟩
  unfold juratref19_first.f at H
  refine Calls.ofW Try.func29 rfl (by simp [Try.ntmps29]) ?_
  refine W.seq ?_
  refine W.region rfl ?_
  refine WL.val (Yl.assign (v := .bool false) rfl) ?_
  refine WL.done ?_
  refine W.seq ?_
  refine W.seq ?_
  refine W.region rfl ?_
  refine WL.val (Yl.assign (v := .int .i64 0) rfl) ?_
  refine WL.done ?_
  obtain ⟨o150, hX149, H⟩ := bindE H
  refine W.cutM (fun env_ w_ => Ctx w F D w_ F [] ∧ (∃ n_, w_ = w.drewN n_) ∧ o150 = Sum.inl ()) ?_ ?_
  · skip
    refine W.block ?_
    refine W.loop (fun g_ env_ w_ => ∃ (x154 : Int), env_ 0 = .slice A1 n3 c2 ∧ env_ 1 = .int .i64 a1 ∧ env_ 5 = .int .i64 x154 ∧ Ctx w F D w_ F [] ∧ (∃ n_, w_ = w.drewN n_) ∧ juratref19_first.l1 g_ a0 a1 x154 = some o150) k ⟨0, rfl, rfl, rfl, C, W0, hX149⟩ ?_
    clear hX149
    rintro g_ env_ w_ ⟨x154, ho151, ho152, ho153, C155, Wq156, hX149⟩
    rcases g_ with _ | k223
    · exact absurd hX149 (by simp [juratref19_first.l1])
    rw [juratref19_first.l1] at hX149
    refine W.seq ?_
    refine W.seq ?_
    refine W.region rfl ?_
    refine WL.val (Yl.move (v := .int .i64 x154) ho153) ?_
    refine WL.val (Yl.move (v := .int .i64 a1) ho152) ?_
    refine WL.val (Yl.lss (m := x154) (n := a1) (q := decide (x154 < a1)) rfl rfl rfl) ?_
    refine WL.done ?_
    rcases iteE hX149 with ⟨hc224, hX149⟩ | ⟨hc224, hX149⟩
    · skip
      refine W.condT (congrArg Value.bool (decide_eq_true hc224)) ?_
      refine W.skip ?_
      refine W.seq ?_
      refine W.block ?_
      refine W.seq ?_
      refine W.region_quiet (by kernel_rfl) (by kernel_rfl) rfl ?_
      refine WQ.val (fun _ hw => by obtain ⟨_, rfl⟩ := hw; exact Yl.move (v := .slice A1 n3 c2) ho151) ?_
      refine WQ.val (fun _ hw => by obtain ⟨_, rfl⟩ := hw; exact Yl.move (v := .int .i64 x154) ho153) ?_
      obtain ⟨hc251, hX149⟩ := guardE hX149
      obtain ⟨b252, of253, hA254, he255⟩ := hS7 (by omega)
      refine WQ.val (fun _ hw => by obtain ⟨_, rfl⟩ := hw; exact Yl.elemAddr (i := x154) rfl rfl hA254 Try.underlying26 sz37 (by omega)) ?_
      refine WQ.val (fun _ hw => by obtain ⟨_, rfl⟩ := hw; exact Yl.fieldAddr (i := 0) rfl Try.underlying37 rfl sz3) ?_
      obtain ⟨cs256, hr257, hx258⟩ := he255 x154.toNat _ (getD_some (d := TCast.z) (by omega))
      obtain ⟨A259, c260, n261, rfl, hn262, hl263, hm264, hS265⟩ := TCast.open hr257
      refine WQ.val (fun _ hw => by obtain ⟨_, rfl⟩ := hw; exact Yl.load (v := .int .i64 ((a0.getD x154.toNat TCast.z).Worker)) rfl Try.underlying3 rfl ((((C155.drewN _).fro)).cell (hx258 0 _ rfl))) ?_
      refine WQ.val (fun _ hw => by obtain ⟨_, rfl⟩ := hw; exact Yl.move (v := .slice A1 n3 c2) ho151) ?_
      refine WQ.val (fun _ hw => by obtain ⟨_, rfl⟩ := hw; exact Yl.move (v := .int .i64 a1) ho152) ?_
      obtain ⟨hc266, hX149⟩ := guardE hX149
      refine WQ.val (fun _ hw => by obtain ⟨_, rfl⟩ := hw; exact Yl.elemAddr (i := a1) rfl rfl hA254 Try.underlying26 sz37 (by omega)) ?_
      refine WQ.val (fun _ hw => by obtain ⟨_, rfl⟩ := hw; exact Yl.fieldAddr (i := 0) rfl Try.underlying37 rfl sz3) ?_
      obtain ⟨cs267, hr268, hx269⟩ := he255 a1.toNat _ (getD_some (d := TCast.z) (by omega))
      obtain ⟨A270, c271, n272, rfl, hn273, hl274, hm275, hS276⟩ := TCast.open hr268
      refine WQ.val (fun _ hw => by obtain ⟨_, rfl⟩ := hw; exact Yl.load (v := .int .i64 ((a0.getD a1.toNat TCast.z).Worker)) rfl Try.underlying3 rfl ((((C155.drewN _).fro)).cell (hx269 0 _ rfl))) ?_
      refine WQ.val (fun _ hw => by obtain ⟨_, rfl⟩ := hw; exact Yl.eql (m := (a0.getD x154.toNat TCast.z).Worker) (n := (a0.getD a1.toNat TCast.z).Worker) (q := decide (((a0.getD x154.toNat TCast.z).Worker) = ((a0.getD a1.toNat TCast.z).Worker))) rfl rfl rfl) ?_
      refine WQ.val (fun _ hw => by obtain ⟨_, rfl⟩ := hw; exact Yl.move (v := .bool (decide (((a0.getD x154.toNat TCast.z).Worker) = ((a0.getD a1.toNat TCast.z).Worker)))) rfl) ?_
      obtain ⟨g277, HE278, hX149⟩ := bindE hX149
      refine WQ.cut (fun env_ => env_ 34 = .bool g277 ∧ env_ 0 = .slice A1 n3 c2 ∧ env_ 1 = .int .i64 a1 ∧ env_ 5 = .int .i64 x154) ?_ ?_
      · skip
        rcases iteE HE278 with ⟨hc279, HE278⟩ | ⟨hc279, HE278⟩
        · skip
          refine WQ.on rfl (congrArg Value.bool (decide_eq_true hc279)) ?_
          refine WQ.val (fun _ hw => by obtain ⟨_, rfl⟩ := hw; exact Yl.move (v := .slice A1 n3 c2) ho151) ?_
          refine WQ.on rfl (congrArg Value.bool (decide_eq_true hc279)) ?_
          refine WQ.val (fun _ hw => by obtain ⟨_, rfl⟩ := hw; exact Yl.move (v := .int .i64 x154) ho153) ?_
          refine WQ.on rfl (congrArg Value.bool (decide_eq_true hc279)) ?_
          refine WQ.val (fun _ hw => by obtain ⟨_, rfl⟩ := hw; exact Yl.elemAddr (i := x154) rfl rfl hA254 Try.underlying26 sz37 (by omega)) ?_
          refine WQ.on rfl (congrArg Value.bool (decide_eq_true hc279)) ?_
          refine WQ.val (fun _ hw => by obtain ⟨_, rfl⟩ := hw; exact Yl.fieldAddr (i := 1) rfl Try.underlying37 rfl sz23) ?_
          refine WQ.on rfl (congrArg Value.bool (decide_eq_true hc279)) ?_
          refine WQ.val (fun _ hw => by obtain ⟨_, rfl⟩ := hw; exact Yl.load (v := .slice A259 n261 c260) rfl Try.underlying23 rfl ((((C155.drewN _).fro)).cell (hx258 1 _ rfl))) ?_
          refine WQ.on rfl (congrArg Value.bool (decide_eq_true hc279)) ?_
          refine WQ.val (fun _ hw => by obtain ⟨_, rfl⟩ := hw; exact Yl.move (v := .slice A1 n3 c2) ho151) ?_
          refine WQ.on rfl (congrArg Value.bool (decide_eq_true hc279)) ?_
          refine WQ.val (fun _ hw => by obtain ⟨_, rfl⟩ := hw; exact Yl.move (v := .int .i64 a1) ho152) ?_
          refine WQ.on rfl (congrArg Value.bool (decide_eq_true hc279)) ?_
          refine WQ.val (fun _ hw => by obtain ⟨_, rfl⟩ := hw; exact Yl.elemAddr (i := a1) rfl rfl hA254 Try.underlying26 sz37 (by omega)) ?_
          refine WQ.on rfl (congrArg Value.bool (decide_eq_true hc279)) ?_
          refine WQ.val (fun _ hw => by obtain ⟨_, rfl⟩ := hw; exact Yl.fieldAddr (i := 1) rfl Try.underlying37 rfl sz23) ?_
          refine WQ.on rfl (congrArg Value.bool (decide_eq_true hc279)) ?_
          refine WQ.val (fun _ hw => by obtain ⟨_, rfl⟩ := hw; exact Yl.load (v := .slice A270 n272 c271) rfl Try.underlying23 rfl ((((C155.drewN _).fro)).cell (hx269 1 _ rfl))) ?_
          refine WQ.on rfl (congrArg Value.bool (decide_eq_true hc279)) ?_
          obtain ⟨r281, hg280, HE278⟩ := bindE HE278
          refine WQ.call (v := .bool r281) (f := 12) (args := #[.slice A259 n261 c260, .slice A270 n272 c271]) (fun _ hw => by obtain ⟨_, rfl⟩ := hw; exact (Yenter.fn Try.func12 (by kernel_rfl) rfl (argsE (.cons rfl (.cons rfl .nil))))) (fun _ hw => by obtain ⟨n_, rfl⟩ := hw; exact (juratref01_Same.calls k223 _ F A259 c260 n261 ((a0.getD x154.toNat TCast.z).Value) A270 c271 n272 ((a0.getD a1.toNat TCast.z).Value) (C155.drewN n_).pre0 hn262 hl263 hm264 hS265 hn273 hl274 hm275 hS276 r281 hg280).mono (fun _ _ ⟨he, m_, hm_⟩ => ⟨he, n_ + m_, by rw [hm_, World.drewN_drewN]⟩)) ?_
          refine WQ.val (fun _ hw => by obtain ⟨_, rfl⟩ := hw; exact Yl.pickT (v := .bool r281) (congrArg Value.bool (decide_eq_true hc279)) rfl) ?_
          cases HE278
          exact WQ.done ⟨rfl, ho151, ho152, ho153⟩
        · skip
          refine WQ.off rfl (congrArg Value.bool (decide_eq_false hc279)) ?_
          refine WQ.off rfl (congrArg Value.bool (decide_eq_false hc279)) ?_
          refine WQ.off rfl (congrArg Value.bool (decide_eq_false hc279)) ?_
          refine WQ.off rfl (congrArg Value.bool (decide_eq_false hc279)) ?_
          refine WQ.off rfl (congrArg Value.bool (decide_eq_false hc279)) ?_
          refine WQ.off rfl (congrArg Value.bool (decide_eq_false hc279)) ?_
          refine WQ.off rfl (congrArg Value.bool (decide_eq_false hc279)) ?_
          refine WQ.off rfl (congrArg Value.bool (decide_eq_false hc279)) ?_
          refine WQ.off rfl (congrArg Value.bool (decide_eq_false hc279)) ?_
          refine WQ.off rfl (congrArg Value.bool (decide_eq_false hc279)) ?_
          refine WQ.off rfl (congrArg Value.bool (decide_eq_false hc279)) ?_
          refine WQ.val (fun _ hw => by obtain ⟨_, rfl⟩ := hw; exact Yl.pickF (v := .bool false) (congrArg Value.bool (decide_eq_false hc279)) rfl) ?_
          cases HE278
          exact WQ.done ⟨rfl, ho151, ho152, ho153⟩
      · skip
        rintro env_ ⟨ho282, ho283, ho284, ho285⟩
        intro nq286
        have C287 := Ctx.drewN C155 nq286
        have Wq288 := drew_more Wq156 nq286
        rcases iteE hX149 with ⟨hc289, hX149⟩ | ⟨hc289, hX149⟩
        · skip
          refine W.condT (ho282.trans (congrArg Value.bool hc289)) ?_
          refine W.seq ?_
          refine W.region rfl ?_
          refine WL.val (Yl.assign (v := .bool false) rfl) ?_
          refine WL.done ?_
          refine W.ret ?_
          refine inB_r ?_
          refine thenE_r ?_
          refine thenE_r ?_
          refine inB_r ?_
          refine thenE_r ?_
          refine thenE_r ?_
          cases hX149
          replace H := sumE_r H
          have e290 := Option.some.inj H
          subst e290
          exact post_r (resE1 rfl rfl) ⟨rfl, Wq288⟩
        · skip
          refine W.condF (ho282.trans (congrArg Value.bool (Bool.eq_false_iff.2 hc289))) ?_
          refine W.skip ?_
          refine inB_n ?_
          refine W.region rfl ?_
          refine WL.val (Yl.move (v := .int .i64 x154) ho285) ?_
          refine WL.val (Yl.add (m := x154) (n := 1) (r := wi64 (x154 + 1)) rfl rfl rfl) ?_
          refine WL.val (Yl.assign (v := .int .i64 (wi64 (x154 + 1))) rfl) ?_
          refine WL.done ?_
          exact thenE_n ⟨k223, Nat.lt_succ_self _, wi64 (x154 + 1), ho283, ho284, rfl, C287, Wq288, hX149⟩
    · skip
      refine W.condF (congrArg Value.bool (decide_eq_false hc224)) ?_
      refine W.exit ?_
      refine thenE_x ?_
      refine thenE_x ?_
      refine inB_here ?_
      cases hX149
      refine thenE_n ?_
      exact ⟨C155, Wq156, rfl⟩
  · skip
    rintro env_ w_ ⟨C147, Wq148, rfl⟩
    replace H := sumE_l H
    refine W.seq ?_
    refine W.region rfl ?_
    refine WL.val (Yl.assign (v := .bool true) rfl) ?_
    refine WL.done ?_
    refine W.ret ?_
    have e291 := Option.some.inj H
    subst e291
    exact post_r (resE1 rfl rfl) ⟨rfl, Wq148⟩
def juratref19_Count.l1 : Nat → List TCast → List Int → Int → Int → Option Int
  | 0, _, _, _, _ => none
  | k + 1, a0, a1, x146, x148 => if x148 < (a0.length : Int) then (if 0 ≤ x148 ∧ x148 < (a0.length : Int) then ((juratref01_Same.f k ((a0.getD x148.toNat TCast.z).Value) a1).bind fun r246 => (if r246 = true then ((juratref19_first.f k a0 x148).bind fun r254 => some (r254)) else (some (false))).bind fun g250 => if g250 = true then (juratref19_Count.l1 k a0 a1 (wi64 (x146 + 1)) (wi64 (x148 + 1))) else (juratref19_Count.l1 k a0 a1 x146 (wi64 (x148 + 1)))) else none) else (some x146)
def juratref19_Count.f (k : Nat) (a0 : List TCast) (a1 : List Int) : Option Int := (juratref19_Count.l1 k a0 a1 0 0).bind fun x139 => some x139
set_option maxRecDepth 100000 in
set_option maxHeartbeats 4000000 in
theorem juratref19_Count.calls (k : Nat) (w : World) (F : CH) (A1 : Option Addr) (c2 : Nat) (n3 : Nat) (a0 : List TCast) (A8 : Option Addr) (c9 : Nat) (n10 : Nat) (a1 : List Int) (hp : Pre w F []) (hn4 : n3 = a0.length) (hl5 : a0.length ≤ c2) (hm6 : c2 ≤ maxLen) (hS7 : Sl TCast.K F F A1 a0) (hn11 : n10 = a1.length) (hl12 : a1.length ≤ c9) (hm13 : c9 ≤ maxLen) (hS14 : Sl (Kd.int .u8) F F A8 a1) (r0_ : Int) (H : juratref19_Count.f k a0 a1 = some r0_) :
    Calls Try.prog 19 #[.slice A1 n3 c2, .slice A8 n10 c9] w fun e w' => e = .returned (.int .i64 r0_) ∧ (∃ n_, w' = w.drewN n_) := by
  have C := Ctx.start hp
  generalize domL [] = D at C
  have W0 : ∃ n_, w = w.drewN n_ := ⟨0, rfl⟩
  unfold juratref19_Count.f at H
  refine Calls.ofW Try.func19 rfl (by simp [Try.ntmps19]) ?_
  refine W.seq ?_
  refine W.region rfl ?_
  refine WL.val (Yl.assign (v := .int .i64 0) rfl) ?_
  refine WL.done ?_
  refine W.seq ?_
  refine W.region rfl ?_
  refine WL.val (Yl.assign (v := .int .i64 0) rfl) ?_
  refine WL.done ?_
  refine W.seq ?_
  refine W.seq ?_
  refine W.region rfl ?_
  refine WL.val (Yl.assign (v := .int .i64 0) rfl) ?_
  refine WL.done ?_
  obtain ⟨x139, hX142, H⟩ := bindE H
  refine W.cutM (fun env_ w_ => env_ 5 = .int .i64 x139 ∧ Ctx w F D w_ F [] ∧ (∃ n_, w_ = w.drewN n_)) ?_ ?_
  · skip
    refine W.block ?_
    refine W.loop (fun g_ env_ w_ => ∃ (x146 : Int) (x148 : Int), env_ 0 = .slice A1 n3 c2 ∧ env_ 1 = .slice A8 n10 c9 ∧ env_ 5 = .int .i64 x146 ∧ env_ 6 = .int .i64 x148 ∧ Ctx w F D w_ F [] ∧ (∃ n_, w_ = w.drewN n_) ∧ juratref19_Count.l1 g_ a0 a1 x146 x148 = some x139) k ⟨0, 0, rfl, rfl, rfl, rfl, C, W0, hX142⟩ ?_
    clear hX142
    rintro g_ env_ w_ ⟨x146, x148, ho143, ho144, ho145, ho147, C149, Wq150, hX142⟩
    rcases g_ with _ | k208
    · exact absurd hX142 (by simp [juratref19_Count.l1])
    rw [juratref19_Count.l1] at hX142
    refine W.seq ?_
    refine W.seq ?_
    refine W.region rfl ?_
    refine WL.val (Yl.move (v := .int .i64 x148) ho147) ?_
    refine WL.val (Yl.move (v := .slice A1 n3 c2) ho143) ?_
    refine WL.val (Yl.lenN (A := A1) (l := n3) (q := c2) (n := (a0.length : Int)) rfl Try.underlying26 (by omega)) ?_
    refine WL.val (Yl.lss (m := x148) (n := (a0.length : Int)) (q := decide (x148 < (a0.length : Int))) rfl rfl rfl) ?_
    refine WL.done ?_
    rcases iteE hX142 with ⟨hc209, hX142⟩ | ⟨hc209, hX142⟩
    · skip
      refine W.condT (congrArg Value.bool (decide_eq_true hc209)) ?_
      refine W.skip ?_
      refine W.seq ?_
      refine W.block ?_
      refine W.seq ?_
      refine W.region rfl ?_
      refine WL.val (Yl.move (v := .slice A1 n3 c2) ho143) ?_
      refine WL.val (Yl.move (v := .int .i64 x148) ho147) ?_
      obtain ⟨hc230, hX142⟩ := guardE hX142
      obtain ⟨b231, of232, hA233, he234⟩ := hS7 (by omega)
      refine WL.val (Yl.elemAddr (i := x148) rfl rfl hA233 Try.underlying26 sz37 (by omega)) ?_
      refine WL.val (Yl.fieldAddr (i := 1) rfl Try.underlying37 rfl sz23) ?_
      obtain ⟨cs235, hr236, hx237⟩ := he234 x148.toNat _ (getD_some (d := TCast.z) (by omega))
      obtain ⟨A238, c239, n240, rfl, hn241, hl242, hm243, hS244⟩ := TCast.open hr236
      refine WL.val (Yl.load (v := .slice A238 n240 c239) rfl Try.underlying23 rfl (((C149.fro)).cell (hx237 1 _ rfl))) ?_
      refine WL.val (Yl.move (v := .slice A8 n10 c9) ho144) ?_
      obtain ⟨r246, hg245, hX142⟩ := bindE hX142
      refine WL.call (args := #[.slice A238 n240 c239, .slice A8 n10 c9]) (Yenter.fn Try.func12 (by kernel_rfl) rfl (argsE (.cons rfl (.cons rfl .nil)))) (juratref01_Same.calls k208 _ F A238 c239 n240 ((a0.getD x148.toNat TCast.z).Value) A8 c9 n10 a1 C149.pre0 hn241 hl242 hm243 hS244 hn11 hl12 hm13 hS14 r246 hg245) ?_
      rintro e_ w_ ⟨rfl, ⟨m247, rfl⟩⟩
      refine ⟨_, rfl, ?_⟩
      have C248 := Ctx.drewN C149 m247
      have Wq249 := drew_more Wq150 m247
      refine WL.val (Yl.move (v := .bool r246) rfl) ?_
      obtain ⟨g250, HE251, hX142⟩ := bindE hX142
      refine WL.cut (fun env_ w_ => env_ 24 = .bool g250 ∧ env_ 0 = .slice A1 n3 c2 ∧ env_ 1 = .slice A8 n10 c9 ∧ env_ 5 = .int .i64 x146 ∧ env_ 6 = .int .i64 x148 ∧ Ctx w F D w_ F [] ∧ (∃ n_, w_ = w.drewN n_)) ?_ ?_
      · skip
        rcases iteE HE251 with ⟨hc252, HE251⟩ | ⟨hc252, HE251⟩
        · skip
          refine WL.on rfl (congrArg Value.bool hc252) ?_
          refine WL.val (Yl.move (v := .slice A1 n3 c2) ho143) ?_
          refine WL.on rfl (congrArg Value.bool hc252) ?_
          refine WL.val (Yl.move (v := .int .i64 x148) ho147) ?_
          refine WL.on rfl (congrArg Value.bool hc252) ?_
          obtain ⟨r254, hg253, HE251⟩ := bindE HE251
          refine WL.call (args := #[.slice A1 n3 c2, .int .i64 x148]) (Yenter.fn Try.func29 (by kernel_rfl) rfl (argsE (.cons rfl (.cons rfl .nil)))) (juratref19_first.calls k208 _ F A1 c2 n3 a0 x148 C248.pre0 hn4 hl5 hm6 hS7 r254 hg253) ?_
          rintro e_ w_ ⟨rfl, ⟨m255, rfl⟩⟩
          refine ⟨_, rfl, ?_⟩
          have C256 := Ctx.drewN C248 m255
          have Wq257 := drew_more Wq249 m255
          refine WL.val (Yl.pickT (v := .bool r254) (congrArg Value.bool hc252) rfl) ?_
          cases HE251
          exact WL.done ⟨rfl, ho143, ho144, ho145, ho147, C256, Wq257⟩
        · skip
          refine WL.off rfl (congrArg Value.bool (Bool.eq_false_iff.2 hc252)) ?_
          refine WL.off rfl (congrArg Value.bool (Bool.eq_false_iff.2 hc252)) ?_
          refine WL.off rfl (congrArg Value.bool (Bool.eq_false_iff.2 hc252)) ?_
          refine WL.val (Yl.pickF (v := .bool false) (congrArg Value.bool (Bool.eq_false_iff.2 hc252)) rfl) ?_
          cases HE251
          exact WL.done ⟨rfl, ho143, ho144, ho145, ho147, C248, Wq249⟩
      · skip
        rintro env_ w_ ⟨ho258, ho259, ho260, ho261, ho262, C263, Wq264⟩
        rcases iteE hX142 with ⟨hc265, hX142⟩ | ⟨hc265, hX142⟩
        · skip
          refine W.condT (ho258.trans (congrArg Value.bool hc265)) ?_
          refine W.region rfl ?_
          refine WL.val (Yl.move (v := .int .i64 x146) ho261) ?_
          refine WL.val (Yl.add (m := x146) (n := 1) (r := wi64 (x146 + 1)) rfl rfl rfl) ?_
          refine WL.val (Yl.assign (v := .int .i64 (wi64 (x146 + 1))) rfl) ?_
          refine WL.done ?_
          refine inB_n ?_
          refine W.region rfl ?_
          refine WL.val (Yl.move (v := .int .i64 x148) ho262) ?_
          refine WL.val (Yl.add (m := x148) (n := 1) (r := wi64 (x148 + 1)) rfl rfl rfl) ?_
          refine WL.val (Yl.assign (v := .int .i64 (wi64 (x148 + 1))) rfl) ?_
          refine WL.done ?_
          exact thenE_n ⟨k208, Nat.lt_succ_self _, wi64 (x146 + 1), wi64 (x148 + 1), ho259, ho260, rfl, rfl, C263, Wq264, hX142⟩
        · skip
          refine W.condF (ho258.trans (congrArg Value.bool (Bool.eq_false_iff.2 hc265))) ?_
          refine W.skip ?_
          refine inB_n ?_
          refine W.region rfl ?_
          refine WL.val (Yl.move (v := .int .i64 x148) ho262) ?_
          refine WL.val (Yl.add (m := x148) (n := 1) (r := wi64 (x148 + 1)) rfl rfl rfl) ?_
          refine WL.val (Yl.assign (v := .int .i64 (wi64 (x148 + 1))) rfl) ?_
          refine WL.done ?_
          exact thenE_n ⟨k208, Nat.lt_succ_self _, x146, wi64 (x148 + 1), ho259, ho260, ho261, rfl, C263, Wq264, hX142⟩
    · skip
      refine W.condF (congrArg Value.bool (decide_eq_false hc209)) ?_
      refine W.exit ?_
      refine thenE_x ?_
      refine thenE_x ?_
      refine inB_here ?_
      cases hX142
      refine thenE_n ?_
      exact ⟨ho145, C149, Wq150⟩
  · skip
    rintro env_ w_ ⟨ho138, C140, Wq141⟩
    refine W.seq ?_
    refine W.region rfl ?_
    refine WL.val (Yl.move (v := .int .i64 x139) ho138) ?_
    refine WL.val (Yl.assign (v := .int .i64 x139) rfl) ?_
    refine WL.done ?_
    refine W.ret ?_
    have e266 := Option.some.inj H
    subst e266
    exact post_r (resE1 rfl rfl) ⟨rfl, Wq141⟩
def juratref19_Decide.l1 : Nat → List TCast → Int → Int → Option (Sum Unit ((List Int) × Bool))
  | 0, _, _, _ => none
  | k + 1, a0, a1, x80 => if ((decide (x80 < (a0.length : Int))) && (decide (a1 ≥ 0))) = true then (if 0 ≤ x80 ∧ x80 < (a0.length : Int) then ((juratref19_Count.f k a0 ((a0.getD x80.toNat TCast.z).Value)).bind fun r137 => if r137 > a1 then (some (Sum.inr ((a0.getD x80.toNat TCast.z).Value, true))) else (juratref19_Decide.l1 k a0 a1 (wi64 (x80 + 1)))) else none) else (some (Sum.inl ()))
def juratref19_Decide.f (k : Nat) (a0 : List TCast) (a1 : Int) : Option ((List Int) × Bool) := (juratref19_Decide.l1 k a0 a1 0).bind fun o_ => sumE o_ (fun _ => some (([] : List Int), false)) (fun p_ => some p_)
set_option maxRecDepth 100000 in
set_option maxHeartbeats 4000000 in
theorem juratref19_Decide.calls (k : Nat) (w : World) (F : CH) (A1 : Option Addr) (c2 : Nat) (n3 : Nat) (a0 : List TCast) (a1 : Int) (hp : Pre w F []) (hn4 : n3 = a0.length) (hl5 : a0.length ≤ c2) (hm6 : c2 ≤ maxLen) (hS7 : Sl TCast.K F F A1 a0) (r0_ : List Int) (r1_ : Bool) (H : juratref19_Decide.f k a0 a1 = some (r0_, r1_)) :
    Calls Try.prog 17 #[.slice A1 n3 c2, .int .i64 a1] w fun e w' => ∃ (A146 : Option Addr) (c147 : Nat) (n148 : Nat), e = .returned (.tuple #[(.slice A146 n148 c147), (.bool r1_)]) ∧ (∃ n_, w' = w.drewN n_) ∧ n148 = r0_.length ∧ r0_.length ≤ c147 ∧ c147 ≤ maxLen ∧ Sl (Kd.int .u8) F F A146 r0_ := by
  have C := Ctx.start hp
  generalize domL [] = D at C
  have W0 : ∃ n_, w = w.drewN n_ := ⟨0, rfl⟩
  unfold juratref19_Decide.f at H
  refine Calls.ofW Try.func17 rfl (by simp [Try.ntmps17]) ?_
  refine W.seq ?_
  refine W.region rfl ?_
  refine WL.val (Yl.assign (v := .slice none 0 0) rfl) ?_
  refine WL.val (Yl.assign (v := .bool false) rfl) ?_
  refine WL.done ?_
  refine W.seq ?_
  refine W.seq ?_
  refine W.region rfl ?_
  refine WL.val (Yl.assign (v := .int .i64 0) rfl) ?_
  refine WL.done ?_
  obtain ⟨o76, hX75, H⟩ := bindE H
  refine W.cutM (fun env_ w_ => Ctx w F D w_ F [] ∧ (∃ n_, w_ = w.drewN n_) ∧ o76 = Sum.inl ()) ?_ ?_
  · skip
    refine W.block ?_
    refine W.loop (fun g_ env_ w_ => ∃ (x80 : Int), env_ 0 = .slice A1 n3 c2 ∧ env_ 1 = .int .i64 a1 ∧ env_ 6 = .int .i64 x80 ∧ Ctx w F D w_ F [] ∧ (∃ n_, w_ = w.drewN n_) ∧ juratref19_Decide.l1 g_ a0 a1 x80 = some o76) k ⟨0, rfl, rfl, rfl, C, W0, hX75⟩ ?_
    clear hX75
    rintro g_ env_ w_ ⟨x80, ho77, ho78, ho79, C81, Wq82, hX75⟩
    rcases g_ with _ | k112
    · exact absurd hX75 (by simp [juratref19_Decide.l1])
    rw [juratref19_Decide.l1] at hX75
    refine W.seq ?_
    refine W.seq ?_
    refine W.region rfl ?_
    refine WL.val (Yl.move (v := .int .i64 x80) ho79) ?_
    refine WL.val (Yl.move (v := .slice A1 n3 c2) ho77) ?_
    refine WL.val (Yl.lenN (A := A1) (l := n3) (q := c2) (n := (a0.length : Int)) rfl Try.underlying26 (by omega)) ?_
    refine WL.val (Yl.lss (m := x80) (n := (a0.length : Int)) (q := decide (x80 < (a0.length : Int))) rfl rfl rfl) ?_
    refine WL.val (Yl.move (v := .bool (decide (x80 < (a0.length : Int)))) rfl) ?_
    refine WL.cut (fun env_ w_ => env_ 14 = .bool ((decide (x80 < (a0.length : Int))) && (decide (a1 ≥ 0))) ∧ env_ 0 = .slice A1 n3 c2 ∧ env_ 1 = .int .i64 a1 ∧ env_ 6 = .int .i64 x80 ∧ Ctx w F D w_ F [] ∧ (∃ n_, w_ = w.drewN n_)) ?_ ?_
    · skip
      rcases Bool.eq_false_or_eq_true (decide (x80 < (a0.length : Int))) with hb113 | hb113
      · skip
        refine WL.on rfl (congrArg Value.bool hb113) ?_
        refine WL.val (Yl.move (v := .int .i64 a1) ho78) ?_
        refine WL.on rfl (congrArg Value.bool hb113) ?_
        refine WL.val (Yl.geq (m := a1) (n := 0) (q := decide (a1 ≥ 0)) rfl rfl rfl) ?_
        refine WL.val (Yl.pickT (v := .bool (decide (a1 ≥ 0))) (congrArg Value.bool hb113) rfl) ?_
        exact WL.done ⟨(congrArg Value.bool (show (decide (a1 ≥ 0)) = ((decide (x80 < (a0.length : Int))) && (decide (a1 ≥ 0))) from by simp [hb113])), ho77, ho78, ho79, C81, Wq82⟩
      · skip
        refine WL.off rfl (congrArg Value.bool hb113) ?_
        refine WL.off rfl (congrArg Value.bool hb113) ?_
        refine WL.val (Yl.pickF (v := .bool false) (congrArg Value.bool hb113) rfl) ?_
        exact WL.done ⟨(congrArg Value.bool (show false = ((decide (x80 < (a0.length : Int))) && (decide (a1 ≥ 0))) from by simp [hb113])), ho77, ho78, ho79, C81, Wq82⟩
    · skip
      rintro env_ w_ ⟨ho114, ho115, ho116, ho117, C118, Wq119⟩
      rcases iteE hX75 with ⟨hc120, hX75⟩ | ⟨hc120, hX75⟩
      · skip
        refine W.condT (ho114.trans (congrArg Value.bool hc120)) ?_
        refine W.skip ?_
        refine W.seq ?_
        refine W.block ?_
        refine W.seq ?_
        refine W.region rfl ?_
        refine WL.val (Yl.move (v := .slice A1 n3 c2) ho115) ?_
        refine WL.val (Yl.move (v := .slice A1 n3 c2) ho115) ?_
        refine WL.val (Yl.move (v := .int .i64 x80) ho117) ?_
        obtain ⟨hc121, hX75⟩ := guardE hX75
        obtain ⟨b122, of123, hA124, he125⟩ := hS7 (by omega)
        refine WL.val (Yl.elemAddr (i := x80) rfl rfl hA124 Try.underlying26 sz37 (by omega)) ?_
        refine WL.val (Yl.fieldAddr (i := 1) rfl Try.underlying37 rfl sz23) ?_
        obtain ⟨cs126, hr127, hx128⟩ := he125 x80.toNat _ (getD_some (d := TCast.z) (by omega))
        obtain ⟨A129, c130, n131, rfl, hn132, hl133, hm134, hS135⟩ := TCast.open hr127
        refine WL.val (Yl.load (v := .slice A129 n131 c130) rfl Try.underlying23 rfl (((C118.fro)).cell (hx128 1 _ rfl))) ?_
        obtain ⟨r137, hg136, hX75⟩ := bindE hX75
        refine WL.call (args := #[.slice A1 n3 c2, .slice A129 n131 c130]) (Yenter.fn Try.func19 (by kernel_rfl) rfl (argsE (.cons rfl (.cons rfl .nil)))) (juratref19_Count.calls k112 _ F A1 c2 n3 a0 A129 c130 n131 ((a0.getD x80.toNat TCast.z).Value) C118.pre0 hn4 hl5 hm6 hS7 hn132 hl133 hm134 hS135 r137 hg136) ?_
        rintro e_ w_ ⟨rfl, ⟨m138, rfl⟩⟩
        refine ⟨_, rfl, ?_⟩
        have C139 := Ctx.drewN C118 m138
        have Wq140 := drew_more Wq119 m138
        refine WL.val (Yl.move (v := .int .i64 a1) ho116) ?_
        refine WL.val (Yl.gtr (m := r137) (n := a1) (q := decide (r137 > a1)) rfl rfl rfl) ?_
        refine WL.done ?_
        rcases iteE hX75 with ⟨hc141, hX75⟩ | ⟨hc141, hX75⟩
        · skip
          refine W.condT (congrArg Value.bool (decide_eq_true hc141)) ?_
          refine W.seq ?_
          refine W.region rfl ?_
          refine WL.val (Yl.move (v := .slice A1 n3 c2) ho115) ?_
          refine WL.val (Yl.move (v := .int .i64 x80) ho117) ?_
          refine WL.val (Yl.elemAddr (i := x80) rfl rfl hA124 Try.underlying26 sz37 (by omega)) ?_
          refine WL.val (Yl.fieldAddr (i := 1) rfl Try.underlying37 rfl sz23) ?_
          refine WL.val (Yl.load (v := .slice A129 n131 c130) rfl Try.underlying23 rfl (((C139.fro)).cell (hx128 1 _ rfl))) ?_
          refine WL.val (Yl.assign (v := .slice A129 n131 c130) rfl) ?_
          refine WL.val (Yl.assign (v := .bool true) rfl) ?_
          refine WL.done ?_
          refine W.ret ?_
          refine inB_r ?_
          refine thenE_r ?_
          refine thenE_r ?_
          refine inB_r ?_
          refine thenE_r ?_
          refine thenE_r ?_
          cases hX75
          replace H := sumE_r H
          simp only [Option.some.injEq, Prod.mk.injEq] at H
          obtain ⟨e142, e143⟩ := H
          subst e142 e143
          exact post_r (resE2 rfl rfl rfl) ⟨A129, c130, n131, rfl, Wq140, hn132, hl133, hm134, hS135⟩
        · skip
          refine W.condF (congrArg Value.bool (decide_eq_false hc141)) ?_
          refine W.skip ?_
          refine inB_n ?_
          refine W.region rfl ?_
          refine WL.val (Yl.move (v := .int .i64 x80) ho117) ?_
          refine WL.val (Yl.add (m := x80) (n := 1) (r := wi64 (x80 + 1)) rfl rfl rfl) ?_
          refine WL.val (Yl.assign (v := .int .i64 (wi64 (x80 + 1))) rfl) ?_
          refine WL.done ?_
          exact thenE_n ⟨k112, Nat.lt_succ_self _, wi64 (x80 + 1), ho115, ho116, rfl, C139, Wq140, hX75⟩
      · skip
        refine W.condF (ho114.trans (congrArg Value.bool (Bool.eq_false_iff.2 hc120))) ?_
        refine W.exit ?_
        refine thenE_x ?_
        refine thenE_x ?_
        refine inB_here ?_
        cases hX75
        refine thenE_n ?_
        exact ⟨C118, Wq119, rfl⟩
  · skip
    rintro env_ w_ ⟨C73, Wq74, rfl⟩
    replace H := sumE_l H
    refine W.seq ?_
    refine W.region rfl ?_
    refine WL.val (Yl.assign (v := .slice none 0 0) rfl) ?_
    refine WL.val (Yl.assign (v := .bool false) rfl) ?_
    refine WL.done ?_
    refine W.ret ?_
    simp only [Option.some.injEq, Prod.mk.injEq] at H
    obtain ⟨e144, e145⟩ := H
    subst e144 e145
    exact post_r (resE2 rfl rfl rfl) ⟨none, 0, 0, rfl, Wq74, rfl, (Nat.le_refl _), (Nat.zero_le _), (Sl.nil _ _ _ _)⟩
def juratref19_Liars.l2 : Nat → List TCast → List Int → Int → List Int → Int → Option ((List Int) × Int)
  | 0, _, _, _, _, _ => none
  | k + 1, a0, x763, x771, x1291, x1299 => (if x1299 < (x763.length : Int) then (if 0 ≤ x1299 ∧ x1299 < (x763.length : Int) then (some (decide ((x763.getD x1299.toNat 0) < ((a0.getD x771.toNat TCast.z).Worker)))) else none) else (some (false))).bind fun g1352 => if g1352 = true then (if 0 ≤ x1299 ∧ x1299 < (x763.length : Int) then (if (x1291.length + 1 + (x1291.length + 1) / 4 + 192) * 8 ≤ 281474976710656 then (juratref19_Liars.l2 k a0 x763 x771 (x1291 ++ [x763.getD x1299.toNat 0]) (wi64 (x1299 + 1))) else none) else none) else (some (x1291, x1299))
def juratref19_Liars.l1 : Nat → List TCast → List Int → List Int → Int → Option (List Int)
  | 0, _, _, _, _ => none
  | k + 1, a0, a1, x763, x771 => if x771 < (a0.length : Int) then (if 0 ≤ x771 ∧ x771 < (a0.length : Int) then ((juratref01_Same.f k ((a0.getD x771.toNat TCast.z).Value) a1).bind fun r1150 => if r1150 = true then (juratref19_Liars.l1 k a0 a1 x763 (wi64 (x771 + 1))) else ((juratref19_Liars.l2 k a0 x763 x771 ([] : List Int) 0).bind fun ⟨x1275, x1283⟩ => if (x1275.length + 1 + (x1275.length + 1) / 4 + 192) * 8 ≤ 281474976710656 then ((if x1283 < (x763.length : Int) then (if 0 ≤ x1283 ∧ x1283 < (x763.length : Int) then (some (decide ((x763.getD x1283.toNat 0) = ((a0.getD x771.toNat TCast.z).Worker)))) else none) else (some (false))).bind fun g1422 => if g1422 = true then (if 0 ≤ (wi64 (x1283 + 1)) ∧ (wi64 (x1283 + 1)) ≤ (x763.length : Int) ∧ (x763.length : Int) ≤ (x763.length : Int) then (if ((x1275 ++ [(a0.getD x771.toNat TCast.z).Worker]).length + (x763.drop ((wi64 (x1283 + 1)).toNat)).length + ((x1275 ++ [(a0.getD x771.toNat TCast.z).Worker]).length + (x763.drop ((wi64 (x1283 + 1)).toNat)).length) / 4 + 192) * 8 ≤ 281474976710656 then (juratref19_Liars.l1 k a0 a1 ((x1275 ++ [(a0.getD x771.toNat TCast.z).Worker]) ++ (x763.drop ((wi64 (x1283 + 1)).toNat))) (wi64 (x771 + 1))) else none) else none) else (if 0 ≤ x1283 ∧ x1283 ≤ (x763.length : Int) ∧ (x763.length : Int) ≤ (x763.length : Int) then (if ((x1275 ++ [(a0.getD x771.toNat TCast.z).Worker]).length + (x763.drop x1283.toNat).length + ((x1275 ++ [(a0.getD x771.toNat TCast.z).Worker]).length + (x763.drop x1283.toNat).length) / 4 + 192) * 8 ≤ 281474976710656 then (juratref19_Liars.l1 k a0 a1 ((x1275 ++ [(a0.getD x771.toNat TCast.z).Worker]) ++ (x763.drop x1283.toNat)) (wi64 (x771 + 1))) else none) else none)) else none)) else none) else (some x763)
def juratref19_Liars.f (k : Nat) (a0 : List TCast) (a1 : List Int) : Option (List Int) := (juratref19_Liars.l1 k a0 a1 ([] : List Int) 0).bind fun x751 => some x751
set_option maxRecDepth 100000 in
set_option maxHeartbeats 4000000 in
theorem juratref19_Liars.calls (k : Nat) (w : World) (F : CH) (A1 : Option Addr) (c2 : Nat) (n3 : Nat) (a0 : List TCast) (A8 : Option Addr) (c9 : Nat) (n10 : Nat) (a1 : List Int) (hp : Pre w F []) (hn4 : n3 = a0.length) (hl5 : a0.length ≤ c2) (hm6 : c2 ≤ maxLen) (hS7 : Sl TCast.K F F A1 a0) (hn11 : n10 = a1.length) (hl12 : a1.length ≤ c9) (hm13 : c9 ≤ maxLen) (hS14 : Sl (Kd.int .u8) F F A8 a1) (r0_ : List Int) (H : juratref19_Liars.f k a0 a1 = some r0_) :
    Calls Try.prog 21 #[.slice A1 n3 c2, .slice A8 n10 c9] w fun e w' => ∃ (A1496 : Option Addr) (c1497 : Nat) (n1498 : Nat) (p1500 : CH), e = .returned (.slice A1496 n1498 c1497) ∧ Ctx w F (domL []) w' F [p1500] ∧ n1498 = r0_.length ∧ Row (Kd.int .i64) F p1500 (.slice A1496 n1498 c1497) r0_ := by
  have C := Ctx.start hp
  generalize hD : domL [] = D at C ⊢
  unfold juratref19_Liars.f at H
  refine Calls.ofW Try.func21 rfl (by simp [Try.ntmps21]) ?_
  refine W.seq ?_
  refine W.region rfl ?_
  refine WL.val (Yl.assign (v := .slice none 0 0) rfl) ?_
  refine WL.done ?_
  refine W.seq ?_
  refine W.region rfl ?_
  refine WL.val (Yl.assign (v := .slice none 0 0) rfl) ?_
  refine WL.done ?_
  refine W.seq ?_
  refine W.seq ?_
  refine W.region rfl ?_
  refine WL.val (Yl.assign (v := .int .i64 0) rfl) ?_
  refine WL.done ?_
  obtain ⟨x751, hX759, H⟩ := bindE H
  refine W.cutM (fun env_ w_ => ∃ (A752 : Option Addr) (c753 : Nat) (n754 : Nat) (p756 : CH), env_ 5 = .slice A752 n754 c753 ∧ Ctx w F D w_ F [p756] ∧ n754 = x751.length ∧ Row (Kd.int .i64) F p756 (.slice A752 n754 c753) x751) ?_ ?_
  · skip
    refine W.block ?_
    have C1132 : Ctx _ _ _ _ F [CH.emp] := Ctx.emp C
    refine W.loop (fun g_ env_ w_ => ∃ (x763 : List Int) (x771 : Int) (A764 : Option Addr) (c765 : Nat) (n766 : Nat) (p768 : CH), env_ 0 = .slice A1 n3 c2 ∧ env_ 1 = .slice A8 n10 c9 ∧ env_ 5 = .slice A764 n766 c765 ∧ env_ 6 = .int .i64 x771 ∧ Ctx w F D w_ F [p768] ∧ n766 = x763.length ∧ Row (Kd.int .i64) F p768 (.slice A764 n766 c765) x763 ∧ juratref19_Liars.l1 g_ a0 a1 x763 x771 = some x751) k ⟨([] : List Int), 0, none, 0, 0, CH.emp, rfl, rfl, rfl, rfl, C1132, rfl, (Row.nil _ _), hX759⟩ ?_
    clear hX759
    rintro g_ env_ w_ ⟨x763, x771, A764, c765, n766, p768, ho760, ho761, ho762, ho770, C772, hn767, hR769, hX759⟩
    rcases g_ with _ | k1131
    · exact absurd hX759 (by simp [juratref19_Liars.l1])
    rw [juratref19_Liars.l1] at hX759
    refine W.seq ?_
    refine W.seq ?_
    refine W.region rfl ?_
    refine WL.val (Yl.move (v := .int .i64 x771) ho770) ?_
    refine WL.val (Yl.move (v := .slice A1 n3 c2) ho760) ?_
    refine WL.val (Yl.lenN (A := A1) (l := n3) (q := c2) (n := (a0.length : Int)) rfl Try.underlying26 (by omega)) ?_
    refine WL.val (Yl.lss (m := x771) (n := (a0.length : Int)) (q := decide (x771 < (a0.length : Int))) rfl rfl rfl) ?_
    refine WL.done ?_
    rcases iteE hX759 with ⟨hc1133, hX759⟩ | ⟨hc1133, hX759⟩
    · skip
      refine W.condT (congrArg Value.bool (decide_eq_true hc1133)) ?_
      refine W.skip ?_
      refine W.seq ?_
      refine W.block ?_
      refine W.seq ?_
      refine W.seq ?_
      refine W.region rfl ?_
      refine WL.val (Yl.move (v := .slice A1 n3 c2) ho760) ?_
      refine WL.val (Yl.move (v := .int .i64 x771) ho770) ?_
      obtain ⟨hc1134, hX759⟩ := guardE hX759
      obtain ⟨b1135, of1136, hA1137, he1138⟩ := hS7 (by omega)
      refine WL.val (Yl.elemAddr (i := x771) rfl rfl hA1137 Try.underlying26 sz37 (by omega)) ?_
      refine WL.val (Yl.fieldAddr (i := 1) rfl Try.underlying37 rfl sz23) ?_
      obtain ⟨cs1139, hr1140, hx1141⟩ := he1138 x771.toNat _ (getD_some (d := TCast.z) (by omega))
      obtain ⟨A1142, c1143, n1144, rfl, hn1145, hl1146, hm1147, hS1148⟩ := TCast.open hr1140
      refine WL.val (Yl.load (v := .slice A1142 n1144 c1143) rfl Try.underlying23 rfl (((C772.fro)).cell (hx1141 1 _ rfl))) ?_
      refine WL.val (Yl.move (v := .slice A8 n10 c9) ho761) ?_
      obtain ⟨r1150, hg1149, hX759⟩ := bindE hX759
      refine WL.call (args := #[.slice A1142 n1144 c1143, .slice A8 n10 c9]) (Yenter.fn Try.func12 (by kernel_rfl) rfl (argsE (.cons rfl (.cons rfl .nil)))) (juratref01_Same.calls k1131 _ F A1142 c1143 n1144 ((a0.getD x771.toNat TCast.z).Value) A8 c9 n10 a1 C772.pre0 hn1145 hl1146 hm1147 hS1148 hn11 hl12 hm13 hS14 r1150 hg1149) ?_
      rintro e_ w_ ⟨rfl, ⟨m1151, rfl⟩⟩
      refine ⟨_, rfl, ?_⟩
      have C1152 := Ctx.drewN C772 m1151
      refine WL.done ?_
      rcases iteE hX759 with ⟨hc1153, hX759⟩ | ⟨hc1153, hX759⟩
      · skip
        refine W.condT (congrArg Value.bool hc1153) ?_
        refine W.exit ?_
        refine thenE_x ?_
        refine inB_here ?_
        refine W.region rfl ?_
        refine WL.val (Yl.move (v := .int .i64 x771) ho770) ?_
        refine WL.val (Yl.add (m := x771) (n := 1) (r := wi64 (x771 + 1)) rfl rfl rfl) ?_
        refine WL.val (Yl.assign (v := .int .i64 (wi64 (x771 + 1))) rfl) ?_
        refine WL.done ?_
        exact thenE_n ⟨k1131, Nat.lt_succ_self _, x763, wi64 (x771 + 1), A764, c765, n766, p768, ho760, ho761, ho762, rfl, C1152, hn767, hR769, hX759⟩
      · skip
        refine W.condF (congrArg Value.bool (Bool.eq_false_iff.2 hc1153)) ?_
        refine W.skip ?_
        refine W.seq ?_
        refine W.region rfl ?_
        refine WL.val (Yl.assign (v := .slice none 0 0) rfl) ?_
        refine WL.done ?_
        refine W.seq ?_
        refine W.region rfl ?_
        refine WL.val (Yl.assign (v := .int .i64 0) rfl) ?_
        refine WL.done ?_
        refine W.seq ?_
        obtain ⟨⟨x1275, x1283⟩, hX1285, hX759⟩ := bindE hX759
        refine W.cutM (fun env_ w_ => ∃ (A1276 : Option Addr) (c1277 : Nat) (n1278 : Nat) (p1280 : CH), env_ 0 = .slice A1 n3 c2 ∧ env_ 1 = .slice A8 n10 c9 ∧ env_ 5 = .slice A764 n766 c765 ∧ env_ 6 = .int .i64 x771 ∧ env_ 7 = .slice A1276 n1278 c1277 ∧ env_ 8 = .int .i64 x1283 ∧ Ctx w F D w_ F [p1280, p768] ∧ n1278 = x1275.length ∧ Row (Kd.int .i64) F p1280 (.slice A1276 n1278 c1277) x1275) ?_ ?_
        · skip
          refine W.block ?_
          have C1351 : Ctx _ _ _ _ F [CH.emp, p768] := Ctx.emp C1152
          refine W.loop (fun g_ env_ w_ => ∃ (x1291 : List Int) (x1299 : Int) (A1292 : Option Addr) (c1293 : Nat) (n1294 : Nat) (p1296 : CH), env_ 0 = .slice A1 n3 c2 ∧ env_ 1 = .slice A8 n10 c9 ∧ env_ 5 = .slice A764 n766 c765 ∧ env_ 6 = .int .i64 x771 ∧ env_ 7 = .slice A1292 n1294 c1293 ∧ env_ 8 = .int .i64 x1299 ∧ Ctx w F D w_ F [p1296, p768] ∧ n1294 = x1291.length ∧ Row (Kd.int .i64) F p1296 (.slice A1292 n1294 c1293) x1291 ∧ juratref19_Liars.l2 g_ a0 x763 x771 x1291 x1299 = some (x1275, x1283)) k1131 ⟨([] : List Int), 0, none, 0, 0, CH.emp, ho760, ho761, ho762, ho770, rfl, rfl, C1351, rfl, (Row.nil _ _), hX1285⟩ ?_
          clear hX1285
          rintro g_ env_ w_ ⟨x1291, x1299, A1292, c1293, n1294, p1296, ho1286, ho1287, ho1288, ho1289, ho1290, ho1298, C1300, hn1295, hR1297, hX1285⟩
          rcases g_ with _ | k1350
          · exact absurd hX1285 (by simp [juratref19_Liars.l2])
          rw [juratref19_Liars.l2] at hX1285
          refine W.seq ?_
          refine W.seq ?_
          refine W.region_quiet (by kernel_rfl) (by kernel_rfl) rfl ?_
          refine WQ.val (fun _ hw => by obtain ⟨_, rfl⟩ := hw; exact Yl.move (v := .int .i64 x1299) ho1298) ?_
          refine WQ.val (fun _ hw => by obtain ⟨_, rfl⟩ := hw; exact Yl.move (v := .slice A764 n766 c765) ho1288) ?_
          refine WQ.val (fun _ hw => by obtain ⟨_, rfl⟩ := hw; exact Yl.lenN (A := A764) (l := n766) (q := c765) (n := (x763.length : Int)) rfl Try.underlying31 (by omega)) ?_
          refine WQ.val (fun _ hw => by obtain ⟨_, rfl⟩ := hw; exact Yl.lss (m := x1299) (n := (x763.length : Int)) (q := decide (x1299 < (x763.length : Int))) rfl rfl rfl) ?_
          refine WQ.val (fun _ hw => by obtain ⟨_, rfl⟩ := hw; exact Yl.move (v := .bool (decide (x1299 < (x763.length : Int)))) rfl) ?_
          obtain ⟨g1352, HE1353, hX1285⟩ := bindE hX1285
          refine WQ.cut (fun env_ => env_ 37 = .bool g1352 ∧ env_ 0 = .slice A1 n3 c2 ∧ env_ 1 = .slice A8 n10 c9 ∧ env_ 5 = .slice A764 n766 c765 ∧ env_ 6 = .int .i64 x771 ∧ env_ 7 = .slice A1292 n1294 c1293 ∧ env_ 8 = .int .i64 x1299) ?_ ?_
          · skip
            rcases iteE HE1353 with ⟨hc1354, HE1353⟩ | ⟨hc1354, HE1353⟩
            · skip
              refine WQ.on rfl (congrArg Value.bool (decide_eq_true hc1354)) ?_
              refine WQ.val (fun _ hw => by obtain ⟨_, rfl⟩ := hw; exact Yl.move (v := .slice A764 n766 c765) ho1288) ?_
              refine WQ.on rfl (congrArg Value.bool (decide_eq_true hc1354)) ?_
              refine WQ.val (fun _ hw => by obtain ⟨_, rfl⟩ := hw; exact Yl.move (v := .int .i64 x1299) ho1298) ?_
              refine WQ.on rfl (congrArg Value.bool (decide_eq_true hc1354)) ?_
              obtain ⟨hc1355, HE1353⟩ := guardE HE1353
              obtain ⟨b1356, of1357, hA1358, he1359⟩ := (Row.sl hR769) (by omega)
              refine WQ.val (fun _ hw => by obtain ⟨_, rfl⟩ := hw; exact Yl.elemAddr (i := x1299) rfl rfl hA1358 Try.underlying31 sz3 (by omega)) ?_
              refine WQ.on rfl (congrArg Value.bool (decide_eq_true hc1354)) ?_
              obtain ⟨cs1360, hr1361, hx1362⟩ := he1359 x1299.toNat _ (getD_some (d := 0) (by omega))
              obtain rfl := hr1361
              refine WQ.val (fun _ hw => by obtain ⟨_, rfl⟩ := hw; exact Yl.load (v := .int .i64 (x763.getD x1299.toNat 0)) rfl Try.underlying3 rfl (((Ctx.sub_of [p1296] [] (C1300.drewN _))).cell (hx1362 0 _ rfl))) ?_
              refine WQ.on rfl (congrArg Value.bool (decide_eq_true hc1354)) ?_
              refine WQ.val (fun _ hw => by obtain ⟨_, rfl⟩ := hw; exact Yl.move (v := .slice A1 n3 c2) ho1286) ?_
              refine WQ.on rfl (congrArg Value.bool (decide_eq_true hc1354)) ?_
              refine WQ.val (fun _ hw => by obtain ⟨_, rfl⟩ := hw; exact Yl.move (v := .int .i64 x771) ho1289) ?_
              refine WQ.on rfl (congrArg Value.bool (decide_eq_true hc1354)) ?_
              refine WQ.val (fun _ hw => by obtain ⟨_, rfl⟩ := hw; exact Yl.elemAddr (i := x771) rfl rfl hA1137 Try.underlying26 sz37 (by omega)) ?_
              refine WQ.on rfl (congrArg Value.bool (decide_eq_true hc1354)) ?_
              refine WQ.val (fun _ hw => by obtain ⟨_, rfl⟩ := hw; exact Yl.fieldAddr (i := 0) rfl Try.underlying37 rfl sz3) ?_
              refine WQ.on rfl (congrArg Value.bool (decide_eq_true hc1354)) ?_
              refine WQ.val (fun _ hw => by obtain ⟨_, rfl⟩ := hw; exact Yl.load (v := .int .i64 ((a0.getD x771.toNat TCast.z).Worker)) rfl Try.underlying3 rfl ((((C1300.drewN _).fro)).cell (hx1141 0 _ rfl))) ?_
              refine WQ.on rfl (congrArg Value.bool (decide_eq_true hc1354)) ?_
              refine WQ.val (fun _ hw => by obtain ⟨_, rfl⟩ := hw; exact Yl.lss (m := x763.getD x1299.toNat 0) (n := (a0.getD x771.toNat TCast.z).Worker) (q := decide ((x763.getD x1299.toNat 0) < ((a0.getD x771.toNat TCast.z).Worker))) rfl rfl rfl) ?_
              refine WQ.val (fun _ hw => by obtain ⟨_, rfl⟩ := hw; exact Yl.pickT (v := .bool (decide ((x763.getD x1299.toNat 0) < ((a0.getD x771.toNat TCast.z).Worker)))) (congrArg Value.bool (decide_eq_true hc1354)) rfl) ?_
              cases HE1353
              exact WQ.done ⟨rfl, ho1286, ho1287, ho1288, ho1289, ho1290, ho1298⟩
            · skip
              refine WQ.off rfl (congrArg Value.bool (decide_eq_false hc1354)) ?_
              refine WQ.off rfl (congrArg Value.bool (decide_eq_false hc1354)) ?_
              refine WQ.off rfl (congrArg Value.bool (decide_eq_false hc1354)) ?_
              refine WQ.off rfl (congrArg Value.bool (decide_eq_false hc1354)) ?_
              refine WQ.off rfl (congrArg Value.bool (decide_eq_false hc1354)) ?_
              refine WQ.off rfl (congrArg Value.bool (decide_eq_false hc1354)) ?_
              refine WQ.off rfl (congrArg Value.bool (decide_eq_false hc1354)) ?_
              refine WQ.off rfl (congrArg Value.bool (decide_eq_false hc1354)) ?_
              refine WQ.off rfl (congrArg Value.bool (decide_eq_false hc1354)) ?_
              refine WQ.off rfl (congrArg Value.bool (decide_eq_false hc1354)) ?_
              refine WQ.val (fun _ hw => by obtain ⟨_, rfl⟩ := hw; exact Yl.pickF (v := .bool false) (congrArg Value.bool (decide_eq_false hc1354)) rfl) ?_
              cases HE1353
              exact WQ.done ⟨rfl, ho1286, ho1287, ho1288, ho1289, ho1290, ho1298⟩
          · skip
            rintro env_ ⟨ho1363, ho1364, ho1365, ho1366, ho1367, ho1368, ho1369⟩
            intro nq1370
            have C1371 := Ctx.drewN C1300 nq1370
            rcases iteE hX1285 with ⟨hc1372, hX1285⟩ | ⟨hc1372, hX1285⟩
            · skip
              refine W.condT (ho1363.trans (congrArg Value.bool hc1372)) ?_
              refine W.skip ?_
              refine W.block ?_
              refine W.seq ?_
              refine W.region rfl ?_
              refine WL.val (Yl.move (v := .slice A1292 n1294 c1293) ho1368) ?_
              refine WL.val (Yl.move (v := .slice A764 n766 c765) ho1366) ?_
              refine WL.val (Yl.move (v := .int .i64 x1299) ho1369) ?_
              obtain ⟨hc1373, hX1285⟩ := guardE hX1285
              obtain ⟨b1374, of1375, hA1376, he1377⟩ := (Row.sl hR769) (by omega)
              refine WL.val (Yl.elemAddr (i := x1299) rfl rfl hA1376 Try.underlying31 sz3 (by omega)) ?_
              obtain ⟨cs1378, hr1379, hx1380⟩ := he1377 x1299.toNat _ (getD_some (d := 0) (by omega))
              obtain rfl := hr1379
              refine WL.val (Yl.load (v := .int .i64 (x763.getD x1299.toNat 0)) rfl Try.underlying3 rfl (((Ctx.sub_of [p1296] [] C1371)).cell (hx1380 0 _ rfl))) ?_
              obtain ⟨A1381, c1382, n1383, p1384, w1385, hn1386, hy1387, C1388, hR1389⟩ := ev_lit1' (P := Try.prog) 3 (Kd.int .i64) C1371 Try.underlying31 ti3 ⟨by decide, by decide⟩ (x763.getD x1299.toNat 0) (.int .i64 (x763.getD x1299.toNat 0)) rfl
              refine WL.val (hy1387 _ _ _ rfl) ?_
              obtain ⟨hc1390, hX1285⟩ := guardE hX1285
              obtain ⟨A1391, c1392, n1393, p1394, w1395, hn1396, hy1397, C1398, hR1399⟩ := ev_append' (P := Try.prog) (cb := c1382) 3 (Kd.int .i64) [p1384] [p768] C1388 hR1297 hn1386 (Row.sl hR1389) (Ctx.sub_of [] [p1296, p768] C1388) Try.underlying31 ti3 rfl zo3 (by decide) (by decide) (by simpa using hc1390)
              have C1400 : Ctx _ _ _ _ F [p1384, p1394, p768] := C1398
              refine WL.val (hy1397 _ _ _ _ rfl rfl) ?_
              refine WL.val (Yl.assign (v := .slice A1391 n1393 c1392) rfl) ?_
              refine WL.done ?_
              refine W.region rfl ?_
              refine WL.val (Yl.move (v := .int .i64 x1299) ho1369) ?_
              refine WL.val (Yl.add (m := x1299) (n := 1) (r := wi64 (x1299 + 1)) rfl rfl rfl) ?_
              refine WL.val (Yl.assign (v := .int .i64 (wi64 (x1299 + 1))) rfl) ?_
              refine WL.done ?_
              refine inB_n ?_
              have C1401 : Ctx _ _ _ _ F [p1394, p768] := Ctx.drop [] [p1394, p768] C1400
              exact thenE_n ⟨k1350, Nat.lt_succ_self _, x1291 ++ [x763.getD x1299.toNat 0], wi64 (x1299 + 1), A1391, c1392, n1393, p1394, ho1364, ho1365, ho1366, ho1367, rfl, rfl, C1401, hn1396, hR1399, hX1285⟩
            · skip
              refine W.condF (ho1363.trans (congrArg Value.bool (Bool.eq_false_iff.2 hc1372))) ?_
              refine W.exit ?_
              refine thenE_x ?_
              refine thenE_x ?_
              refine inB_here ?_
              cases hX1285
              refine thenE_n ?_
              exact ⟨A1292, c1293, n1294, p1296, ho1364, ho1365, ho1366, ho1367, ho1368, ho1369, C1371, hn1295, hR1297⟩
        · skip
          rintro env_ w_ ⟨A1276, c1277, n1278, p1280, ho1270, ho1271, ho1272, ho1273, ho1274, ho1282, C1284, hn1279, hR1281⟩
          refine W.seq ?_
          refine W.region rfl ?_
          refine WL.val (Yl.move (v := .slice A1276 n1278 c1277) ho1274) ?_
          refine WL.val (Yl.move (v := .slice A1 n3 c2) ho1270) ?_
          refine WL.val (Yl.move (v := .int .i64 x771) ho1273) ?_
          refine WL.val (Yl.elemAddr (i := x771) rfl rfl hA1137 Try.underlying26 sz37 (by omega)) ?_
          refine WL.val (Yl.fieldAddr (i := 0) rfl Try.underlying37 rfl sz3) ?_
          refine WL.val (Yl.load (v := .int .i64 ((a0.getD x771.toNat TCast.z).Worker)) rfl Try.underlying3 rfl (((C1284.fro)).cell (hx1141 0 _ rfl))) ?_
          obtain ⟨A1402, c1403, n1404, p1405, w1406, hn1407, hy1408, C1409, hR1410⟩ := ev_lit1' (P := Try.prog) 3 (Kd.int .i64) C1284 Try.underlying31 ti3 ⟨by decide, by decide⟩ ((a0.getD x771.toNat TCast.z).Worker) (.int .i64 ((a0.getD x771.toNat TCast.z).Worker)) rfl
          refine WL.val (hy1408 _ _ _ rfl) ?_
          obtain ⟨hc1411, hX759⟩ := guardE hX759
          obtain ⟨A1412, c1413, n1414, p1415, w1416, hn1417, hy1418, C1419, hR1420⟩ := ev_append' (P := Try.prog) (cb := c1403) 3 (Kd.int .i64) [p1405] [p768] C1409 hR1281 hn1407 (Row.sl hR1410) (Ctx.sub_of [] [p1280, p768] C1409) Try.underlying31 ti3 rfl zo3 (by decide) (by decide) (by simpa using hc1411)
          have C1421 : Ctx _ _ _ _ F [p1405, p1415, p768] := C1419
          refine WL.val (hy1418 _ _ _ _ rfl rfl) ?_
          refine WL.val (Yl.assign (v := .slice A1412 n1414 c1413) rfl) ?_
          refine WL.done ?_
          refine W.seq ?_
          refine W.seq ?_
          refine W.region_quiet (by kernel_rfl) (by kernel_rfl) rfl ?_
          refine WQ.val (fun _ hw => by obtain ⟨_, rfl⟩ := hw; exact Yl.move (v := .int .i64 x1283) ho1282) ?_
          refine WQ.val (fun _ hw => by obtain ⟨_, rfl⟩ := hw; exact Yl.move (v := .slice A764 n766 c765) ho1272) ?_
          refine WQ.val (fun _ hw => by obtain ⟨_, rfl⟩ := hw; exact Yl.lenN (A := A764) (l := n766) (q := c765) (n := (x763.length : Int)) rfl Try.underlying31 (by omega)) ?_
          refine WQ.val (fun _ hw => by obtain ⟨_, rfl⟩ := hw; exact Yl.lss (m := x1283) (n := (x763.length : Int)) (q := decide (x1283 < (x763.length : Int))) rfl rfl rfl) ?_
          refine WQ.val (fun _ hw => by obtain ⟨_, rfl⟩ := hw; exact Yl.move (v := .bool (decide (x1283 < (x763.length : Int)))) rfl) ?_
          obtain ⟨g1422, HE1423, hX759⟩ := bindE hX759
          refine WQ.cut (fun env_ => env_ 70 = .bool g1422 ∧ env_ 0 = .slice A1 n3 c2 ∧ env_ 1 = .slice A8 n10 c9 ∧ env_ 5 = .slice A764 n766 c765 ∧ env_ 6 = .int .i64 x771 ∧ env_ 7 = .slice A1412 n1414 c1413 ∧ env_ 8 = .int .i64 x1283) ?_ ?_
          · skip
            rcases iteE HE1423 with ⟨hc1424, HE1423⟩ | ⟨hc1424, HE1423⟩
            · skip
              refine WQ.on rfl (congrArg Value.bool (decide_eq_true hc1424)) ?_
              refine WQ.val (fun _ hw => by obtain ⟨_, rfl⟩ := hw; exact Yl.move (v := .slice A764 n766 c765) ho1272) ?_
              refine WQ.on rfl (congrArg Value.bool (decide_eq_true hc1424)) ?_
              refine WQ.val (fun _ hw => by obtain ⟨_, rfl⟩ := hw; exact Yl.move (v := .int .i64 x1283) ho1282) ?_
              refine WQ.on rfl (congrArg Value.bool (decide_eq_true hc1424)) ?_
              obtain ⟨hc1425, HE1423⟩ := guardE HE1423
              obtain ⟨b1426, of1427, hA1428, he1429⟩ := (Row.sl hR769) (by omega)
              refine WQ.val (fun _ hw => by obtain ⟨_, rfl⟩ := hw; exact Yl.elemAddr (i := x1283) rfl rfl hA1428 Try.underlying31 sz3 (by omega)) ?_
              refine WQ.on rfl (congrArg Value.bool (decide_eq_true hc1424)) ?_
              obtain ⟨cs1430, hr1431, hx1432⟩ := he1429 x1283.toNat _ (getD_some (d := 0) (by omega))
              obtain rfl := hr1431
              refine WQ.val (fun _ hw => by obtain ⟨_, rfl⟩ := hw; exact Yl.load (v := .int .i64 (x763.getD x1283.toNat 0)) rfl Try.underlying3 rfl (((Ctx.sub_of [p1405, p1415] [] (C1421.drewN _))).cell (hx1432 0 _ rfl))) ?_
              refine WQ.on rfl (congrArg Value.bool (decide_eq_true hc1424)) ?_
              refine WQ.val (fun _ hw => by obtain ⟨_, rfl⟩ := hw; exact Yl.move (v := .slice A1 n3 c2) ho1270) ?_
              refine WQ.on rfl (congrArg Value.bool (decide_eq_true hc1424)) ?_
              refine WQ.val (fun _ hw => by obtain ⟨_, rfl⟩ := hw; exact Yl.move (v := .int .i64 x771) ho1273) ?_
              refine WQ.on rfl (congrArg Value.bool (decide_eq_true hc1424)) ?_
              refine WQ.val (fun _ hw => by obtain ⟨_, rfl⟩ := hw; exact Yl.elemAddr (i := x771) rfl rfl hA1137 Try.underlying26 sz37 (by omega)) ?_
              refine WQ.on rfl (congrArg Value.bool (decide_eq_true hc1424)) ?_
              refine WQ.val (fun _ hw => by obtain ⟨_, rfl⟩ := hw; exact Yl.fieldAddr (i := 0) rfl Try.underlying37 rfl sz3) ?_
              refine WQ.on rfl (congrArg Value.bool (decide_eq_true hc1424)) ?_
              refine WQ.val (fun _ hw => by obtain ⟨_, rfl⟩ := hw; exact Yl.load (v := .int .i64 ((a0.getD x771.toNat TCast.z).Worker)) rfl Try.underlying3 rfl ((((C1421.drewN _).fro)).cell (hx1141 0 _ rfl))) ?_
              refine WQ.on rfl (congrArg Value.bool (decide_eq_true hc1424)) ?_
              refine WQ.val (fun _ hw => by obtain ⟨_, rfl⟩ := hw; exact Yl.eql (m := x763.getD x1283.toNat 0) (n := (a0.getD x771.toNat TCast.z).Worker) (q := decide ((x763.getD x1283.toNat 0) = ((a0.getD x771.toNat TCast.z).Worker))) rfl rfl rfl) ?_
              refine WQ.val (fun _ hw => by obtain ⟨_, rfl⟩ := hw; exact Yl.pickT (v := .bool (decide ((x763.getD x1283.toNat 0) = ((a0.getD x771.toNat TCast.z).Worker)))) (congrArg Value.bool (decide_eq_true hc1424)) rfl) ?_
              cases HE1423
              exact WQ.done ⟨rfl, ho1270, ho1271, ho1272, ho1273, rfl, ho1282⟩
            · skip
              refine WQ.off rfl (congrArg Value.bool (decide_eq_false hc1424)) ?_
              refine WQ.off rfl (congrArg Value.bool (decide_eq_false hc1424)) ?_
              refine WQ.off rfl (congrArg Value.bool (decide_eq_false hc1424)) ?_
              refine WQ.off rfl (congrArg Value.bool (decide_eq_false hc1424)) ?_
              refine WQ.off rfl (congrArg Value.bool (decide_eq_false hc1424)) ?_
              refine WQ.off rfl (congrArg Value.bool (decide_eq_false hc1424)) ?_
              refine WQ.off rfl (congrArg Value.bool (decide_eq_false hc1424)) ?_
              refine WQ.off rfl (congrArg Value.bool (decide_eq_false hc1424)) ?_
              refine WQ.off rfl (congrArg Value.bool (decide_eq_false hc1424)) ?_
              refine WQ.off rfl (congrArg Value.bool (decide_eq_false hc1424)) ?_
              refine WQ.val (fun _ hw => by obtain ⟨_, rfl⟩ := hw; exact Yl.pickF (v := .bool false) (congrArg Value.bool (decide_eq_false hc1424)) rfl) ?_
              cases HE1423
              exact WQ.done ⟨rfl, ho1270, ho1271, ho1272, ho1273, rfl, ho1282⟩
          · skip
            rintro env_ ⟨ho1433, ho1434, ho1435, ho1436, ho1437, ho1438, ho1439⟩
            intro nq1440
            have C1441 := Ctx.drewN C1421 nq1440
            rcases iteE hX759 with ⟨hc1442, hX759⟩ | ⟨hc1442, hX759⟩
            · skip
              refine W.condT (ho1433.trans (congrArg Value.bool hc1442)) ?_
              refine W.region rfl ?_
              refine WL.val (Yl.move (v := .int .i64 x1283) ho1439) ?_
              refine WL.val (Yl.add (m := x1283) (n := 1) (r := wi64 (x1283 + 1)) rfl rfl rfl) ?_
              refine WL.val (Yl.assign (v := .int .i64 (wi64 (x1283 + 1))) rfl) ?_
              refine WL.done ?_
              refine W.seq ?_
              refine W.region rfl ?_
              refine WL.val (Yl.move (v := .slice A1412 n1414 c1413) ho1438) ?_
              refine WL.val (Yl.move (v := .slice A764 n766 c765) ho1436) ?_
              refine WL.val (Yl.move (v := .int .i64 (wi64 (x1283 + 1))) rfl) ?_
              obtain ⟨hc1443, hX759⟩ := guardE hX759
              obtain ⟨A1444, c1445, n1446, p1453, hv1447, hn1448, hR1454, lp1455⟩ := Row.tail hR769 ((wi64 (x1283 + 1)).toNat) (by omega)
              have hl1452 : x763.length ≤ c765 ∧ c765 ≤ maxLen := ⟨(Row.len_le hR769).1, (Row.len_le hR769).2.1⟩
              rw [hn767] at hv1447
              refine WL.val (Yl.slice ((wi64 (x1283 + 1)).toNat) x763.length c765 rfl Try.underlying31 sz3 rfl (hn767).symm (OB.mk rfl (by omega)) (by simp) (by omega) (by omega) (by omega) hv1447) ?_
              obtain ⟨hc1456, hX759⟩ := guardE hX759
              obtain ⟨A1457, c1458, n1459, p1460, w1461, hn1462, hy1463, C1464, hR1465⟩ := ev_append' (P := Try.prog) (cb := c1445) 3 (Kd.int .i64) [p1405] [p768] C1441 hR1420 hn1448 (Sl.mono (Row.sl hR1454) (CH.le_refl _) lp1455) (Ctx.sub_of [p1405, p1415] [] C1441) Try.underlying31 ti3 rfl zo3 (by decide) (by decide) (by simpa using hc1456)
              have C1466 : Ctx _ _ _ _ F [p1405, p1460, p768] := C1464
              refine WL.val (hy1463 _ _ _ _ rfl rfl) ?_
              refine WL.val (Yl.assign (v := .slice A1457 n1459 c1458) rfl) ?_
              refine WL.done ?_
              refine W.region rfl ?_
              refine WL.val (Yl.move (v := .slice A1457 n1459 c1458) rfl) ?_
              refine WL.val (Yl.assign (v := .slice A1457 n1459 c1458) rfl) ?_
              refine WL.done ?_
              refine inB_n ?_
              refine W.region rfl ?_
              refine WL.val (Yl.move (v := .int .i64 x771) ho1437) ?_
              refine WL.val (Yl.add (m := x771) (n := 1) (r := wi64 (x771 + 1)) rfl rfl rfl) ?_
              refine WL.val (Yl.assign (v := .int .i64 (wi64 (x771 + 1))) rfl) ?_
              refine WL.done ?_
              have C1467 : Ctx _ _ _ _ F [p1460, p768] := Ctx.drop [] [p1460, p768] C1466
              have C1468 : Ctx _ _ _ _ F [p1460] := Ctx.drop [p1460] [] C1467
              exact thenE_n ⟨k1131, Nat.lt_succ_self _, (x1275 ++ [(a0.getD x771.toNat TCast.z).Worker]) ++ (x763.drop ((wi64 (x1283 + 1)).toNat)), wi64 (x771 + 1), A1457, c1458, n1459, p1460, ho1434, ho1435, rfl, rfl, C1468, hn1462, hR1465, hX759⟩
            · skip
              refine W.condF (ho1433.trans (congrArg Value.bool (Bool.eq_false_iff.2 hc1442))) ?_
              refine W.skip ?_
              refine W.seq ?_
              refine W.region rfl ?_
              refine WL.val (Yl.move (v := .slice A1412 n1414 c1413) ho1438) ?_
              refine WL.val (Yl.move (v := .slice A764 n766 c765) ho1436) ?_
              refine WL.val (Yl.move (v := .int .i64 x1283) ho1439) ?_
              obtain ⟨hc1469, hX759⟩ := guardE hX759
              obtain ⟨A1470, c1471, n1472, p1479, hv1473, hn1474, hR1480, lp1481⟩ := Row.tail hR769 x1283.toNat (by omega)
              have hl1478 : x763.length ≤ c765 ∧ c765 ≤ maxLen := ⟨(Row.len_le hR769).1, (Row.len_le hR769).2.1⟩
              rw [hn767] at hv1473
              refine WL.val (Yl.slice x1283.toNat x763.length c765 rfl Try.underlying31 sz3 rfl (hn767).symm (OB.mk rfl (by omega)) (by simp) (by omega) (by omega) (by omega) hv1473) ?_
              obtain ⟨hc1482, hX759⟩ := guardE hX759
              obtain ⟨A1483, c1484, n1485, p1486, w1487, hn1488, hy1489, C1490, hR1491⟩ := ev_append' (P := Try.prog) (cb := c1471) 3 (Kd.int .i64) [p1405] [p768] C1441 hR1420 hn1474 (Sl.mono (Row.sl hR1480) (CH.le_refl _) lp1481) (Ctx.sub_of [p1405, p1415] [] C1441) Try.underlying31 ti3 rfl zo3 (by decide) (by decide) (by simpa using hc1482)
              have C1492 : Ctx _ _ _ _ F [p1405, p1486, p768] := C1490
              refine WL.val (hy1489 _ _ _ _ rfl rfl) ?_
              refine WL.val (Yl.assign (v := .slice A1483 n1485 c1484) rfl) ?_
              refine WL.done ?_
              refine W.region rfl ?_
              refine WL.val (Yl.move (v := .slice A1483 n1485 c1484) rfl) ?_
              refine WL.val (Yl.assign (v := .slice A1483 n1485 c1484) rfl) ?_
              refine WL.done ?_
              refine inB_n ?_
              refine W.region rfl ?_
              refine WL.val (Yl.move (v := .int .i64 x771) ho1437) ?_
              refine WL.val (Yl.add (m := x771) (n := 1) (r := wi64 (x771 + 1)) rfl rfl rfl) ?_
              refine WL.val (Yl.assign (v := .int .i64 (wi64 (x771 + 1))) rfl) ?_
              refine WL.done ?_
              have C1493 : Ctx _ _ _ _ F [p1486, p768] := Ctx.drop [] [p1486, p768] C1492
              have C1494 : Ctx _ _ _ _ F [p1486] := Ctx.drop [p1486] [] C1493
              exact thenE_n ⟨k1131, Nat.lt_succ_self _, (x1275 ++ [(a0.getD x771.toNat TCast.z).Worker]) ++ (x763.drop x1283.toNat), wi64 (x771 + 1), A1483, c1484, n1485, p1486, ho1434, ho1435, rfl, rfl, C1494, hn1488, hR1491, hX759⟩
    · skip
      refine W.condF (congrArg Value.bool (decide_eq_false hc1133)) ?_
      refine W.exit ?_
      refine thenE_x ?_
      refine thenE_x ?_
      refine inB_here ?_
      cases hX759
      refine thenE_n ?_
      exact ⟨A764, c765, n766, p768, ho762, C772, hn767, hR769⟩
  · skip
    rintro env_ w_ ⟨A752, c753, n754, p756, ho750, C758, hn755, hR757⟩
    refine W.seq ?_
    refine W.region rfl ?_
    refine WL.val (Yl.move (v := .slice A752 n754 c753) ho750) ?_
    refine WL.val (Yl.assign (v := .slice A752 n754 c753) rfl) ?_
    refine WL.done ?_
    refine W.ret ?_
    have e1495 := Option.some.inj H
    subst e1495
    exact post_r (resE1 rfl rfl) ⟨A752, c753, n754, p756, rfl, C758, hn755, hR757⟩
def juratref19_Copy.l1 : Nat → List TCast → List TCast → Int → Option (List TCast)
  | 0, _, _, _ => none
  | k + 1, a0, x577, x585 => if x585 < (a0.length : Int) then (if 0 ≤ x585 ∧ x585 < (a0.length : Int) then (if (((a0.getD x585.toNat TCast.z).Value).length + ((a0.getD x585.toNat TCast.z).Value).length / 4 + 192) * 1 ≤ 281474976710656 then (if (x577.length + 1 + (x577.length + 1) / 4 + 192) * 32 ≤ 281474976710656 then (juratref19_Copy.l1 k a0 (x577 ++ [(⟨(a0.getD x585.toNat TCast.z).Worker, (a0.getD x585.toNat TCast.z).Value⟩ : TCast)]) (wi64 (x585 + 1))) else none) else none) else none) else (some x577)
def juratref19_Copy.f (k : Nat) (a0 : List TCast) : Option (List TCast) := (juratref19_Copy.l1 k a0 ([] : List TCast) 0).bind fun x424 => some x424
set_option maxRecDepth 100000 in
set_option maxHeartbeats 4000000 in
theorem juratref19_Copy.calls (k : Nat) (w : World) (F : CH) (A1 : Option Addr) (c2 : Nat) (n3 : Nat) (a0 : List TCast) (hp : Pre w F []) (hn4 : n3 = a0.length) (hl5 : a0.length ≤ c2) (hm6 : c2 ≤ maxLen) (hS7 : Sl TCast.K F F A1 a0) (r0_ : List TCast) (H : juratref19_Copy.f k a0 = some r0_) :
    Calls Try.prog 16 #[.slice A1 n3 c2] w fun e w' => ∃ (F' : CH) (A847 : Option Addr) (c848 : Nat) (n849 : Nat) (p851 : CH), e = .returned (.slice A847 n849 c848) ∧ CH.le F F' ∧ Ctx w F (domL []) w' F' [p851] ∧ n849 = r0_.length ∧ Row TCast.K F' p851 (.slice A847 n849 c848) r0_ := by
  have C := Ctx.start hp
  generalize hD : domL [] = D at C ⊢
  unfold juratref19_Copy.f at H
  refine Calls.ofW Try.func16 rfl (by simp [Try.ntmps16]) ?_
  refine W.seq ?_
  refine W.region rfl ?_
  refine WL.val (Yl.assign (v := .slice none 0 0) rfl) ?_
  refine WL.done ?_
  refine W.seq ?_
  refine W.region rfl ?_
  refine WL.val (Yl.assign (v := .slice none 0 0) rfl) ?_
  refine WL.done ?_
  refine W.seq ?_
  refine W.seq ?_
  refine W.region rfl ?_
  refine WL.val (Yl.assign (v := .int .i64 0) rfl) ?_
  refine WL.done ?_
  obtain ⟨x424, hX432, H⟩ := bindE H
  refine W.cutM (fun env_ w_ => ∃ (F421 : CH) (A425 : Option Addr) (c426 : Nat) (n427 : Nat) (p429 : CH), env_ 3 = .slice A425 n427 c426 ∧ Ctx w F D w_ F421 [p429] ∧ CH.le F F421 ∧ n427 = x424.length ∧ Row TCast.K F421 p429 (.slice A425 n427 c426) x424) ?_ ?_
  · skip
    refine W.block ?_
    have C716 : Ctx _ _ _ _ F [CH.emp] := Ctx.emp C
    refine W.loop (fun g_ env_ w_ => ∃ (x577 : List TCast) (x585 : Int) (F573 : CH) (A578 : Option Addr) (c579 : Nat) (n580 : Nat) (p582 : CH), env_ 0 = .slice A1 n3 c2 ∧ env_ 3 = .slice A578 n580 c579 ∧ env_ 4 = .int .i64 x585 ∧ Ctx w F D w_ F573 [p582] ∧ CH.le F F573 ∧ n580 = x577.length ∧ Row TCast.K F573 p582 (.slice A578 n580 c579) x577 ∧ juratref19_Copy.l1 g_ a0 x577 x585 = some x424) k ⟨([] : List TCast), 0, F, none, 0, 0, CH.emp, rfl, rfl, rfl, C716, (CH.le_refl _), rfl, (Row.nil _ _), hX432⟩ ?_
    clear hX432
    rintro g_ env_ w_ ⟨x577, x585, F573, A578, c579, n580, p582, ho575, ho576, ho584, C586, le574, hn581, hR583, hX432⟩
    rcases g_ with _ | k715
    · exact absurd hX432 (by simp [juratref19_Copy.l1])
    rw [juratref19_Copy.l1] at hX432
    refine W.seq ?_
    refine W.seq ?_
    refine W.region rfl ?_
    refine WL.val (Yl.move (v := .int .i64 x585) ho584) ?_
    refine WL.val (Yl.move (v := .slice A1 n3 c2) ho575) ?_
    refine WL.val (Yl.lenN (A := A1) (l := n3) (q := c2) (n := (a0.length : Int)) rfl Try.underlying26 (by omega)) ?_
    refine WL.val (Yl.lss (m := x585) (n := (a0.length : Int)) (q := decide (x585 < (a0.length : Int))) rfl rfl rfl) ?_
    refine WL.done ?_
    rcases iteE hX432 with ⟨hc717, hX432⟩ | ⟨hc717, hX432⟩
    · skip
      refine W.condT (congrArg Value.bool (decide_eq_true hc717)) ?_
      refine W.skip ?_
      refine W.seq ?_
      refine W.block ?_
      refine W.regionA [([14, 15], F573)] (by kernel_rfl) ?_
      have C781 := Ctx.drewN C586 1
      refine WA.take none [] 0 rfl (by kernel_rfl) (by kernel_rfl) (show _ = #[true, false, false, false, false, false, false, false, false, false, false, false, false, false, false, false, false] from rfl) trivial ⟨(C781.fro), trivial⟩ (fun _ hC_ => Yl.move (v := .slice A578 n580 c579) ho576) ?_
      refine WA.take none [] 1 rfl (by kernel_rfl) (by kernel_rfl) (show _ = #[true, true, false, false, false, false, false, false, false, false, false, false, false, false, false, false, false] from rfl) trivial ⟨(C781.fro), trivial⟩ (fun _ hC_ => Yl.move (v := .slice A1 n3 c2) ho575) ?_
      refine WA.take none [] 2 rfl (by kernel_rfl) (by kernel_rfl) (show _ = #[true, true, true, false, false, false, false, false, false, false, false, false, false, false, false, false, false] from rfl) trivial ⟨(C781.fro), trivial⟩ (fun _ hC_ => Yl.move (v := .int .i64 x585) ho584) ?_
      obtain ⟨hc782, hX432⟩ := guardE hX432
      obtain ⟨b783, of784, hA785, he786⟩ := hS7 (by omega)
      refine WA.take none [] 3 rfl (by kernel_rfl) (by kernel_rfl) (show _ = #[true, true, true, true, false, false, false, false, false, false, false, false, false, false, false, false, false] from rfl) trivial ⟨(C781.fro), trivial⟩ (fun _ hC_ => Yl.elemAddr (i := x585) rfl rfl hA785 Try.underlying26 sz37 (by omega)) ?_
      refine WA.take none [] 4 rfl (by kernel_rfl) (by kernel_rfl) (show _ = #[true, true, true, true, true, false, false, false, false, false, false, false, false, false, false, false, false] from rfl) trivial ⟨(C781.fro), trivial⟩ (fun _ hC_ => Yl.fieldAddr (i := 0) rfl Try.underlying37 rfl sz3) ?_
      obtain ⟨cs787, hr788, hx789⟩ := he786 x585.toNat _ (getD_some (d := TCast.z) (by omega))
      obtain ⟨A790, c791, n792, rfl, hn793, hl794, hm795, hS796⟩ := TCast.open hr788
      refine WA.take (some 0) [13, 14, 15, 16] 5 rfl (by kernel_rfl) (by kernel_rfl) (show _ = #[true, true, true, true, true, true, false, false, false, false, false, false, false, false, false, false, false] from rfl) (C781.fro) ⟨(C781.fro), trivial⟩ (fun _ hC_ => Yl.load (v := .int .i64 ((a0.getD x585.toNat TCast.z).Worker)) rfl Try.underlying3 rfl (((Sub.mono (show Sub F573 _ from hC_) le574)).cell (hx789 0 _ rfl))) ?_
      refine WA.take none [] 7 rfl (by kernel_rfl) (by kernel_rfl) (show _ = #[true, true, true, true, true, true, false, true, false, false, false, false, false, false, false, false, false] from rfl) trivial ⟨(C781.fro), trivial⟩ (fun _ hC_ => Yl.move (v := .slice A1 n3 c2) ho575) ?_
      refine WA.take none [] 8 rfl (by kernel_rfl) (by kernel_rfl) (show _ = #[true, true, true, true, true, true, false, true, true, false, false, false, false, false, false, false, false] from rfl) trivial ⟨(C781.fro), trivial⟩ (fun _ hC_ => Yl.move (v := .int .i64 x585) ho584) ?_
      refine WA.take none [] 9 rfl (by kernel_rfl) (by kernel_rfl) (show _ = #[true, true, true, true, true, true, false, true, true, true, false, false, false, false, false, false, false] from rfl) trivial ⟨(C781.fro), trivial⟩ (fun _ hC_ => Yl.elemAddr (i := x585) rfl rfl hA785 Try.underlying26 sz37 (by omega)) ?_
      refine WA.take none [] 10 rfl (by kernel_rfl) (by kernel_rfl) (show _ = #[true, true, true, true, true, true, false, true, true, true, true, false, false, false, false, false, false] from rfl) trivial ⟨(C781.fro), trivial⟩ (fun _ hC_ => Yl.fieldAddr (i := 1) rfl Try.underlying37 rfl sz23) ?_
      refine WA.take (some 0) [12, 13, 14, 15, 16] 11 rfl (by kernel_rfl) (by kernel_rfl) (show _ = #[true, true, true, true, true, true, false, true, true, true, true, true, false, false, false, false, false] from rfl) (C781.fro) ⟨(C781.fro), trivial⟩ (fun _ hC_ => Yl.load (v := .slice A790 n792 c791) rfl Try.underlying23 rfl (((Sub.mono (show Sub F573 _ from hC_) le574)).cell (hx789 1 _ rfl))) ?_
      obtain ⟨A797, c798, n799, p800, w801, hn802, hy803, C804, hR805⟩ := ev_lit0 (P := Try.prog) 5 (Kd.int .u8) C781 Try.underlying23 ti5
      refine WA.up1 6 (by kernel_rfl) (Up.val rfl rfl (show _ = #[true, true, true, true, true, true, true, true, true, true, true, true, false, false, false, false, false] from rfl) (hy803 _ _) ⟨(C804.fro), trivial⟩ ?_)
      obtain ⟨hc806, hX432⟩ := guardE hX432
      obtain ⟨A807, c808, n809, p810, w811, hn812, hy813, C814, hR815⟩ := ev_append' (P := Try.prog) (cb := c791) 5 (Kd.int .u8) [] [p582] C804 hR805 hn793 (Sl.mono hS796 le574 le574) C804.fro Try.underlying23 ti5 rfl zo5 (by decide) (by decide) (by simpa using hc806)
      have C816 : Ctx _ _ _ _ F573 [p810, p582] := C814
      rw [List.nil_append] at hn812 hR815
      refine WA.up1 12 (by kernel_rfl) (Up.val rfl rfl (show _ = #[true, true, true, true, true, true, true, true, true, true, true, true, true, false, false, false, false] from rfl) (hy813 _ _ _ _ rfl rfl) ⟨(C816.fro), trivial⟩ ?_)
      refine WA.take none [] 13 rfl (by kernel_rfl) (by kernel_rfl) (show _ = #[true, true, true, true, true, true, true, true, true, true, true, true, true, true, false, false, false] from rfl) trivial ⟨(C816.fro), trivial⟩ (fun _ hC_ => Yl.build (places := [(0, 1), (1, 1)]) (cs := List.toArray [.int .i64 ((a0.getD x585.toNat TCast.z).Worker), .slice A807 n809 c808]) Try.underlying37 zr37 (pl37 _ Try.underlying37) (partsB (.cons rfl (.cons rfl .nil))) rfl) ?_
      have hd817 := Ctx.dis_of [] [p582] C816
      have C820 : Ctx _ _ _ _ (CH.join F573 p810) [p582] := Ctx.freeze [] [p582] C816
      have le819 := CH.le_joinL F573 p810
      obtain ⟨hl821, hm822, hS823⟩ := Row.freeze' hR815 hd817
      have hR824 := Row.mono hR583 le819
      obtain ⟨A825, c826, n827, p828, w829, hn830, hy831, C832, hR833⟩ := ev_lit1' (P := Try.prog) 37 TCast.K C820 Try.underlying26 ti37 ⟨by decide, by decide⟩ (⟨(a0.getD x585.toNat TCast.z).Worker, (a0.getD x585.toNat TCast.z).Value⟩ : TCast) (.agg (List.toArray [.int .i64 ((a0.getD x585.toNat TCast.z).Worker), .slice A807 n809 c808])) (TCast.mk' _ (⟨(a0.getD x585.toNat TCast.z).Worker, (a0.getD x585.toNat TCast.z).Value⟩ : TCast) A807 c808 n809 hn812 hl821 hm822 hS823)
      refine WA.up1 14 (by kernel_rfl) (Up.val rfl rfl (show _ = #[true, true, true, true, true, true, true, true, true, true, true, true, true, true, true, false, false] from rfl) (hy831 _ _ _ rfl) ⟨trivial, trivial⟩ ?_)
      obtain ⟨hc834, hX432⟩ := guardE hX432
      obtain ⟨A835, c836, n837, p838, w839, hn840, hy841, C842, hR843⟩ := ev_append' (P := Try.prog) (cb := c826) 37 TCast.K [p828] [] C832 hR824 hn830 (Row.sl hR833) (Ctx.sub_of [] [p582] C832) Try.underlying26 ti37 rfl zo37 (by decide) (by decide) (by simpa using hc834)
      have C844 : Ctx _ _ _ _ (CH.join F573 p810) [p828, p838] := C842
      refine WA.up1 15 (by kernel_rfl) (Up.val rfl rfl (show _ = #[true, true, true, true, true, true, true, true, true, true, true, true, true, true, true, true, false] from rfl) (hy841 _ _ _ _ rfl rfl) ⟨trivial, trivial⟩ ?_)
      refine WA.take none [] 16 rfl (by kernel_rfl) (by kernel_rfl) (show _ = #[true, true, true, true, true, true, true, true, true, true, true, true, true, true, true, true, true] from rfl) trivial ⟨trivial, trivial⟩ (fun _ hC_ => Yl.assign (v := .slice A835 n837 c836) rfl) ?_
      refine WA.done (by kernel_rfl) ?_
      refine inB_n ?_
      refine W.region rfl ?_
      refine WL.val (Yl.move (v := .int .i64 x585) ho584) ?_
      refine WL.val (Yl.add (m := x585) (n := 1) (r := wi64 (x585 + 1)) rfl rfl rfl) ?_
      refine WL.val (Yl.assign (v := .int .i64 (wi64 (x585 + 1))) rfl) ?_
      refine WL.done ?_
      have C845 : Ctx _ _ _ _ (CH.join F573 p810) [p838] := Ctx.drop [] [p838] C844
      exact thenE_n ⟨k715, Nat.lt_succ_self _, x577 ++ [(⟨(a0.getD x585.toNat TCast.z).Worker, (a0.getD x585.toNat TCast.z).Value⟩ : TCast)], wi64 (x585 + 1), (CH.join F573 p810), A835, c836, n837, p838, ho575, rfl, rfl, C845, (CH.le_trans le574 le819), hn840, hR843, hX432⟩
    · skip
      refine W.condF (congrArg Value.bool (decide_eq_false hc717)) ?_
      refine W.exit ?_
      refine thenE_x ?_
      refine thenE_x ?_
      refine inB_here ?_
      cases hX432
      refine thenE_n ?_
      exact ⟨F573, A578, c579, n580, p582, ho576, C586, le574, hn581, hR583⟩
  · skip
    rintro env_ w_ ⟨F421, A425, c426, n427, p429, ho423, C431, le422, hn428, hR430⟩
    refine W.seq ?_
    refine W.region rfl ?_
    refine WL.val (Yl.move (v := .slice A425 n427 c426) ho423) ?_
    refine WL.val (Yl.assign (v := .slice A425 n427 c426) rfl) ?_
    refine WL.done ?_
    refine W.ret ?_
    have e846 := Option.some.inj H
    subst e846
    exact post_r (resE1 rfl rfl) ⟨F421, A425, c426, n427, p429, rfl, le422, C431, hn428, hR430⟩
def juratref19_Great.l1 : Nat → List TCast → Int → Option (Sum Unit Bool)
  | 0, _, _ => none
  | k + 1, a0, x56 => if x56 < (a0.length : Int) then (if 0 ≤ x56 ∧ x56 < (a0.length : Int) then (if (((a0.getD x56.toNat TCast.z).Value).length : Int) > 200 then (some (Sum.inr true)) else (juratref19_Great.l1 k a0 (wi64 (x56 + 1)))) else none) else (some (Sum.inl ()))
def juratref19_Great.f (k : Nat) (a0 : List TCast) : Option Bool := if (a0.length : Int) > 60 then (some true) else ((juratref19_Great.l1 k a0 0).bind fun o_ => sumE o_ (fun _ => some false) (fun p_ => some p_))
set_option maxRecDepth 100000 in
set_option maxHeartbeats 4000000 in
theorem juratref19_Great.calls (k : Nat) (w : World) (F : CH) (A1 : Option Addr) (c2 : Nat) (n3 : Nat) (a0 : List TCast) (hp : Pre w F []) (hn4 : n3 = a0.length) (hl5 : a0.length ≤ c2) (hm6 : c2 ≤ maxLen) (hS7 : Sl TCast.K F F A1 a0) (r0_ : Bool) (H : juratref19_Great.f k a0 = some r0_) :
    Calls Try.prog 15 #[.slice A1 n3 c2] w fun e w' => e = .returned (.bool r0_) ∧ (∃ n_, w' = w.drewN n_) := by
  have C := Ctx.start hp
  generalize domL [] = D at C
  have W0 : ∃ n_, w = w.drewN n_ := ⟨0, rfl⟩
  unfold juratref19_Great.f at H
  refine Calls.ofW Try.func15 rfl (by simp [Try.ntmps15]) ?_
  refine W.seq ?_
  refine W.region rfl ?_
  refine WL.val (Yl.assign (v := .bool false) rfl) ?_
  refine WL.done ?_
  refine W.seq ?_
  refine W.seq ?_
  refine W.region rfl ?_
  refine WL.val (Yl.move (v := .slice A1 n3 c2) rfl) ?_
  refine WL.val (Yl.lenN (A := A1) (l := n3) (q := c2) (n := (a0.length : Int)) rfl Try.underlying26 (by omega)) ?_
  refine WL.val (Yl.gtr (m := (a0.length : Int)) (n := 60) (q := decide ((a0.length : Int) > 60)) rfl rfl rfl) ?_
  refine WL.done ?_
  rcases iteE H with ⟨hc8, H⟩ | ⟨hc8, H⟩
  · skip
    refine W.condT (congrArg Value.bool (decide_eq_true hc8)) ?_
    refine W.seq ?_
    refine W.region rfl ?_
    refine WL.val (Yl.assign (v := .bool true) rfl) ?_
    refine WL.done ?_
    refine W.ret ?_
    refine thenE_r ?_
    have e9 := Option.some.inj H
    subst e9
    exact post_r (resE1 rfl rfl) ⟨rfl, W0⟩
  · skip
    refine W.condF (congrArg Value.bool (decide_eq_false hc8)) ?_
    refine W.skip ?_
    refine W.seq ?_
    refine W.seq ?_
    refine W.region rfl ?_
    refine WL.val (Yl.assign (v := .int .i64 0) rfl) ?_
    refine WL.done ?_
    obtain ⟨o53, hX52, H⟩ := bindE H
    refine W.cutM (fun env_ w_ => Ctx w F D w_ F [] ∧ (∃ n_, w_ = w.drewN n_) ∧ o53 = Sum.inl ()) ?_ ?_
    · skip
      refine W.block ?_
      refine W.loop (fun g_ env_ w_ => ∃ (x56 : Int), env_ 0 = .slice A1 n3 c2 ∧ env_ 3 = .int .i64 x56 ∧ Ctx w F D w_ F [] ∧ (∃ n_, w_ = w.drewN n_) ∧ juratref19_Great.l1 g_ a0 x56 = some o53) k ⟨0, rfl, rfl, C, W0, hX52⟩ ?_
      clear hX52
      rintro g_ env_ w_ ⟨x56, ho54, ho55, C57, Wq58, hX52⟩
      rcases g_ with _ | k76
      · exact absurd hX52 (by simp [juratref19_Great.l1])
      rw [juratref19_Great.l1] at hX52
      refine W.seq ?_
      refine W.seq ?_
      refine W.region rfl ?_
      refine WL.val (Yl.move (v := .int .i64 x56) ho55) ?_
      refine WL.val (Yl.move (v := .slice A1 n3 c2) ho54) ?_
      refine WL.val (Yl.lenN (A := A1) (l := n3) (q := c2) (n := (a0.length : Int)) rfl Try.underlying26 (by omega)) ?_
      refine WL.val (Yl.lss (m := x56) (n := (a0.length : Int)) (q := decide (x56 < (a0.length : Int))) rfl rfl rfl) ?_
      refine WL.done ?_
      rcases iteE hX52 with ⟨hc77, hX52⟩ | ⟨hc77, hX52⟩
      · skip
        refine W.condT (congrArg Value.bool (decide_eq_true hc77)) ?_
        refine W.skip ?_
        refine W.seq ?_
        refine W.block ?_
        refine W.seq ?_
        refine W.region rfl ?_
        refine WL.val (Yl.move (v := .slice A1 n3 c2) ho54) ?_
        refine WL.val (Yl.move (v := .int .i64 x56) ho55) ?_
        obtain ⟨hc78, hX52⟩ := guardE hX52
        obtain ⟨b79, of80, hA81, he82⟩ := hS7 (by omega)
        refine WL.val (Yl.elemAddr (i := x56) rfl rfl hA81 Try.underlying26 sz37 (by omega)) ?_
        refine WL.val (Yl.fieldAddr (i := 1) rfl Try.underlying37 rfl sz23) ?_
        obtain ⟨cs83, hr84, hx85⟩ := he82 x56.toNat _ (getD_some (d := TCast.z) (by omega))
        obtain ⟨A86, c87, n88, rfl, hn89, hl90, hm91, hS92⟩ := TCast.open hr84
        refine WL.val (Yl.load (v := .slice A86 n88 c87) rfl Try.underlying23 rfl (((C57.fro)).cell (hx85 1 _ rfl))) ?_
        refine WL.val (Yl.lenN (A := A86) (l := n88) (q := c87) (n := (((a0.getD x56.toNat TCast.z).Value).length : Int)) rfl Try.underlying23 (by omega)) ?_
        refine WL.val (Yl.gtr (m := (((a0.getD x56.toNat TCast.z).Value).length : Int)) (n := 200) (q := decide ((((a0.getD x56.toNat TCast.z).Value).length : Int) > 200)) rfl rfl rfl) ?_
        refine WL.done ?_
        rcases iteE hX52 with ⟨hc93, hX52⟩ | ⟨hc93, hX52⟩
        · skip
          refine W.condT (congrArg Value.bool (decide_eq_true hc93)) ?_
          refine W.seq ?_
          refine W.region rfl ?_
          refine WL.val (Yl.assign (v := .bool true) rfl) ?_
          refine WL.done ?_
          refine W.ret ?_
          refine inB_r ?_
          refine thenE_r ?_
          refine thenE_r ?_
          refine inB_r ?_
          refine thenE_r ?_
          refine thenE_r ?_
          cases hX52
          replace H := sumE_r H
          have e94 := Option.some.inj H
          subst e94
          exact post_r (resE1 rfl rfl) ⟨rfl, Wq58⟩
        · skip
          refine W.condF (congrArg Value.bool (decide_eq_false hc93)) ?_
          refine W.skip ?_
          refine inB_n ?_
          refine W.region rfl ?_
          refine WL.val (Yl.move (v := .int .i64 x56) ho55) ?_
          refine WL.val (Yl.add (m := x56) (n := 1) (r := wi64 (x56 + 1)) rfl rfl rfl) ?_
          refine WL.val (Yl.assign (v := .int .i64 (wi64 (x56 + 1))) rfl) ?_
          refine WL.done ?_
          exact thenE_n ⟨k76, Nat.lt_succ_self _, wi64 (x56 + 1), ho54, rfl, C57, Wq58, hX52⟩
      · skip
        refine W.condF (congrArg Value.bool (decide_eq_false hc77)) ?_
        refine W.exit ?_
        refine thenE_x ?_
        refine thenE_x ?_
        refine inB_here ?_
        cases hX52
        refine thenE_n ?_
        exact ⟨C57, Wq58, rfl⟩
    · skip
      rintro env_ w_ ⟨C50, Wq51, rfl⟩
      replace H := sumE_l H
      refine W.seq ?_
      refine W.region rfl ?_
      refine WL.val (Yl.assign (v := .bool false) rfl) ?_
      refine WL.done ?_
      refine W.ret ?_
      have e95 := Option.some.inj H
      subst e95
      exact post_r (resE1 rfl rfl) ⟨rfl, Wq51⟩
end Go.Proofs.Ytaajcpjhcckecaa
