/- Functions of the program: each as a plain function of numbers and lists, and the proof that the program's own comes to it. Nothing is assumed but what each theorem says. -/
import Derived.Test.YtaajcpjhcckecaaTGt
namespace Go.Proofs.Ytaajcpjhcckecaa
open Go.RowKit Go.WG
set_option linter.unusedVariables false
set_option linter.unusedSimpArgs false
def juratref01_Same.l1 : Nat → List Int → List Int → Int → Option (Sum Unit Bool)
  | 0, _, _, _ => none
  | k + 1, a0, a1, x72 => if x72 < (a0.length : Int) then (if 0 ≤ x72 ∧ x72 < (a0.length : Int) then (if 0 ≤ x72 ∧ x72 < (a1.length : Int) then (if (a0.getD x72.toNat 0) = (a1.getD x72.toNat 0) then (juratref01_Same.l1 k a0 a1 (wi64 (x72 + 1))) else (some (Sum.inr false))) else none) else none) else (some (Sum.inl ()))
def juratref01_Same.f (k : Nat) (a0 : List Int) (a1 : List Int) : Option Bool := if (a0.length : Int) = (a1.length : Int) then ((juratref01_Same.l1 k a0 a1 0).bind fun o_ => sumE o_ (fun _ => some true) (fun p_ => some p_)) else (some false)
set_option maxRecDepth 100000 in
set_option maxHeartbeats 4000000 in
theorem juratref01_Same.calls (k : Nat) (w : World) (F : CH) (A1 : Option Addr) (c2 : Nat) (n3 : Nat) (a0 : List Int) (A8 : Option Addr) (c9 : Nat) (n10 : Nat) (a1 : List Int) (hp : Pre w F []) (hn4 : n3 = a0.length) (hl5 : a0.length ≤ c2) (hm6 : c2 ≤ maxLen) (hS7 : Sl (Kd.int .u8) F F A1 a0) (hn11 : n10 = a1.length) (hl12 : a1.length ≤ c9) (hm13 : c9 ≤ maxLen) (hS14 : Sl (Kd.int .u8) F F A8 a1) (r0_ : Bool) (H : juratref01_Same.f k a0 a1 = some r0_) :
    Calls Try.prog 12 #[.slice A1 n3 c2, .slice A8 n10 c9] w fun e w' => e = .returned (.bool r0_) ∧ (∃ n_, w' = w.drewN n_) := by
  have C := Ctx.start hp
  generalize domL [] = D at C
  have W0 : ∃ n_, w = w.drewN n_ := ⟨0, rfl⟩
  unfold juratref01_Same.f at H
  refine Calls.ofW Try.func12 rfl (by simp [Try.ntmps12]) ?_
  refine W.seq ?_
  refine W.region rfl ?_
  refine WL.val (Yl.assign (v := .bool false) rfl) ?_
  refine WL.done ?_
  refine W.seq ?_
  refine W.seq ?_
  refine W.region rfl ?_
  refine WL.val (Yl.move (v := .slice A1 n3 c2) rfl) ?_
  refine WL.val (Yl.lenN (A := A1) (l := n3) (q := c2) (n := (a0.length : Int)) rfl Try.underlying23 (by omega)) ?_
  refine WL.val (Yl.move (v := .slice A8 n10 c9) rfl) ?_
  refine WL.val (Yl.lenN (A := A8) (l := n10) (q := c9) (n := (a1.length : Int)) rfl Try.underlying23 (by omega)) ?_
  refine WL.val (Yl.neq (m := (a0.length : Int)) (n := (a1.length : Int)) (q := !decide ((a0.length : Int) = (a1.length : Int))) rfl rfl rfl) ?_
  refine WL.done ?_
  rcases iteE H with ⟨hc15, H⟩ | ⟨hc15, H⟩
  · skip
    refine W.condF (congrArg Value.bool (ndec_t hc15)) ?_
    refine W.skip ?_
    refine W.seq ?_
    refine W.seq ?_
    refine W.region rfl ?_
    refine WL.val (Yl.assign (v := .int .i64 0) rfl) ?_
    refine WL.done ?_
    obtain ⟨o68, hX67, H⟩ := bindE H
    refine W.cutM (fun env_ w_ => Ctx w F D w_ F [] ∧ (∃ n_, w_ = w.drewN n_) ∧ o68 = Sum.inl ()) ?_ ?_
    · skip
      refine W.block ?_
      refine W.loop (fun g_ env_ w_ => ∃ (x72 : Int), env_ 0 = .slice A1 n3 c2 ∧ env_ 1 = .slice A8 n10 c9 ∧ env_ 5 = .int .i64 x72 ∧ Ctx w F D w_ F [] ∧ (∃ n_, w_ = w.drewN n_) ∧ juratref01_Same.l1 g_ a0 a1 x72 = some o68) k ⟨0, rfl, rfl, rfl, C, W0, hX67⟩ ?_
      clear hX67
      rintro g_ env_ w_ ⟨x72, ho69, ho70, ho71, C73, Wq74, hX67⟩
      rcases g_ with _ | k96
      · exact absurd hX67 (by simp [juratref01_Same.l1])
      rw [juratref01_Same.l1] at hX67
      refine W.seq ?_
      refine W.seq ?_
      refine W.region rfl ?_
      refine WL.val (Yl.move (v := .int .i64 x72) ho71) ?_
      refine WL.val (Yl.move (v := .slice A1 n3 c2) ho69) ?_
      refine WL.val (Yl.lenN (A := A1) (l := n3) (q := c2) (n := (a0.length : Int)) rfl Try.underlying23 (by omega)) ?_
      refine WL.val (Yl.lss (m := x72) (n := (a0.length : Int)) (q := decide (x72 < (a0.length : Int))) rfl rfl rfl) ?_
      refine WL.done ?_
      rcases iteE hX67 with ⟨hc97, hX67⟩ | ⟨hc97, hX67⟩
      · skip
        refine W.condT (congrArg Value.bool (decide_eq_true hc97)) ?_
        refine W.skip ?_
        refine W.seq ?_
        refine W.block ?_
        refine W.seq ?_
        refine W.region_quiet (by kernel_rfl) (by kernel_rfl) rfl ?_
        refine WQ.val (fun _ hw => by obtain ⟨_, rfl⟩ := hw; exact Yl.move (v := .slice A1 n3 c2) ho69) ?_
        refine WQ.val (fun _ hw => by obtain ⟨_, rfl⟩ := hw; exact Yl.move (v := .int .i64 x72) ho71) ?_
        obtain ⟨hc98, hX67⟩ := guardE hX67
        obtain ⟨b99, of100, hA101, he102⟩ := hS7 (by omega)
        refine WQ.val (fun _ hw => by obtain ⟨_, rfl⟩ := hw; exact Yl.elemAddr (i := x72) rfl rfl hA101 Try.underlying23 sz5 (by omega)) ?_
        obtain ⟨cs103, hr104, hx105⟩ := he102 x72.toNat _ (getD_some (d := 0) (by omega))
        obtain rfl := hr104
        refine WQ.val (fun _ hw => by obtain ⟨_, rfl⟩ := hw; exact Yl.load (v := .int .u8 (a0.getD x72.toNat 0)) rfl Try.underlying5 rfl ((((C73.drewN _).fro)).cell (hx105 0 _ rfl))) ?_
        refine WQ.val (fun _ hw => by obtain ⟨_, rfl⟩ := hw; exact Yl.move (v := .slice A8 n10 c9) ho70) ?_
        refine WQ.val (fun _ hw => by obtain ⟨_, rfl⟩ := hw; exact Yl.move (v := .int .i64 x72) ho71) ?_
        obtain ⟨hc106, hX67⟩ := guardE hX67
        obtain ⟨b107, of108, hA109, he110⟩ := hS14 (by omega)
        refine WQ.val (fun _ hw => by obtain ⟨_, rfl⟩ := hw; exact Yl.elemAddr (i := x72) rfl rfl hA109 Try.underlying23 sz5 (by omega)) ?_
        obtain ⟨cs111, hr112, hx113⟩ := he110 x72.toNat _ (getD_some (d := 0) (by omega))
        obtain rfl := hr112
        refine WQ.val (fun _ hw => by obtain ⟨_, rfl⟩ := hw; exact Yl.load (v := .int .u8 (a1.getD x72.toNat 0)) rfl Try.underlying5 rfl ((((C73.drewN _).fro)).cell (hx113 0 _ rfl))) ?_
        refine WQ.val (fun _ hw => by obtain ⟨_, rfl⟩ := hw; exact Yl.neq (m := a0.getD x72.toNat 0) (n := a1.getD x72.toNat 0) (q := !decide ((a0.getD x72.toNat 0) = (a1.getD x72.toNat 0))) rfl rfl rfl) ?_
        refine WQ.done (fun nq114 => ?_)
        have C115 := Ctx.drewN C73 nq114
        have Wq116 := drew_more Wq74 nq114
        rcases iteE hX67 with ⟨hc117, hX67⟩ | ⟨hc117, hX67⟩
        · skip
          refine W.condF (congrArg Value.bool (ndec_t hc117)) ?_
          refine W.skip ?_
          refine inB_n ?_
          refine W.region rfl ?_
          refine WL.val (Yl.move (v := .int .i64 x72) ho71) ?_
          refine WL.val (Yl.add (m := x72) (n := 1) (r := wi64 (x72 + 1)) rfl rfl rfl) ?_
          refine WL.val (Yl.assign (v := .int .i64 (wi64 (x72 + 1))) rfl) ?_
          refine WL.done ?_
          exact thenE_n ⟨k96, Nat.lt_succ_self _, wi64 (x72 + 1), ho69, ho70, rfl, C115, Wq116, hX67⟩
        · skip
          refine W.condT (congrArg Value.bool (ndec_f hc117)) ?_
          refine W.seq ?_
          refine W.region rfl ?_
          refine WL.val (Yl.assign (v := .bool false) rfl) ?_
          refine WL.done ?_
          refine W.ret ?_
          refine inB_r ?_
          refine thenE_r ?_
          refine thenE_r ?_
          refine inB_r ?_
          refine thenE_r ?_
          refine thenE_r ?_
          cases hX67
          replace H := sumE_r H
          have e118 := Option.some.inj H
          subst e118
          exact post_r (resE1 rfl rfl) ⟨rfl, Wq116⟩
      · skip
        refine W.condF (congrArg Value.bool (decide_eq_false hc97)) ?_
        refine W.exit ?_
        refine thenE_x ?_
        refine thenE_x ?_
        refine inB_here ?_
        cases hX67
        refine thenE_n ?_
        exact ⟨C73, Wq74, rfl⟩
    · skip
      rintro env_ w_ ⟨C65, Wq66, rfl⟩
      replace H := sumE_l H
      refine W.seq ?_
      refine W.region rfl ?_
      refine WL.val (Yl.assign (v := .bool true) rfl) ?_
      refine WL.done ?_
      refine W.ret ?_
      have e119 := Option.some.inj H
      subst e119
      exact post_r (resE1 rfl rfl) ⟨rfl, Wq66⟩
  · skip
    refine W.condT (congrArg Value.bool (ndec_f hc15)) ?_
    refine W.seq ?_
    refine W.region rfl ?_
    refine WL.val (Yl.assign (v := .bool false) rfl) ?_
    refine WL.done ?_
    refine W.ret ?_
    refine thenE_r ?_
    have e120 := Option.some.inj H
    subst e120
    exact post_r (resE1 rfl rfl) ⟨rfl, W0⟩
def juratref18_Same.l1 : Nat → List Int → List Int → Int → Option (Sum Unit Bool)
  | 0, _, _, _ => none
  | k + 1, a0, a1, x72 => if x72 < (a0.length : Int) then (if 0 ≤ x72 ∧ x72 < (a0.length : Int) then (if 0 ≤ x72 ∧ x72 < (a1.length : Int) then (if (a0.getD x72.toNat 0) = (a1.getD x72.toNat 0) then (juratref18_Same.l1 k a0 a1 (wi64 (x72 + 1))) else (some (Sum.inr false))) else none) else none) else (some (Sum.inl ()))
def juratref18_Same.f (k : Nat) (a0 : List Int) (a1 : List Int) : Option Bool := if (a0.length : Int) = (a1.length : Int) then ((juratref18_Same.l1 k a0 a1 0).bind fun o_ => sumE o_ (fun _ => some true) (fun p_ => some p_)) else (some false)
set_option maxRecDepth 100000 in
set_option maxHeartbeats 4000000 in
theorem juratref18_Same.calls (k : Nat) (w : World) (F : CH) (A1 : Option Addr) (c2 : Nat) (n3 : Nat) (a0 : List Int) (A8 : Option Addr) (c9 : Nat) (n10 : Nat) (a1 : List Int) (hp : Pre w F []) (hn4 : n3 = a0.length) (hl5 : a0.length ≤ c2) (hm6 : c2 ≤ maxLen) (hS7 : Sl (Kd.int .i64) F F A1 a0) (hn11 : n10 = a1.length) (hl12 : a1.length ≤ c9) (hm13 : c9 ≤ maxLen) (hS14 : Sl (Kd.int .i64) F F A8 a1) (r0_ : Bool) (H : juratref18_Same.f k a0 a1 = some r0_) :
    Calls Try.prog 20 #[.slice A1 n3 c2, .slice A8 n10 c9] w fun e w' => e = .returned (.bool r0_) ∧ (∃ n_, w' = w.drewN n_) := by
  have C := Ctx.start hp
  generalize domL [] = D at C
  have W0 : ∃ n_, w = w.drewN n_ := ⟨0, rfl⟩
  unfold juratref18_Same.f at H
  refine Calls.ofW Try.func20 rfl (by simp [Try.ntmps20]) ?_
  refine W.seq ?_
  refine W.region rfl ?_
  refine WL.val (Yl.assign (v := .bool false) rfl) ?_
  refine WL.done ?_
  refine W.seq ?_
  refine W.seq ?_
  refine W.region rfl ?_
  refine WL.val (Yl.move (v := .slice A1 n3 c2) rfl) ?_
  refine WL.val (Yl.lenN (A := A1) (l := n3) (q := c2) (n := (a0.length : Int)) rfl Try.underlying31 (by omega)) ?_
  refine WL.val (Yl.move (v := .slice A8 n10 c9) rfl) ?_
  refine WL.val (Yl.lenN (A := A8) (l := n10) (q := c9) (n := (a1.length : Int)) rfl Try.underlying31 (by omega)) ?_
  refine WL.val (Yl.neq (m := (a0.length : Int)) (n := (a1.length : Int)) (q := !decide ((a0.length : Int) = (a1.length : Int))) rfl rfl rfl) ?_
  refine WL.done ?_
  rcases iteE H with ⟨hc15, H⟩ | ⟨hc15, H⟩
  · skip
    refine W.condF (congrArg Value.bool (ndec_t hc15)) ?_
    refine W.skip ?_
    refine W.seq ?_
    refine W.seq ?_
    refine W.region rfl ?_
    refine WL.val (Yl.assign (v := .int .i64 0) rfl) ?_
    refine WL.done ?_
    obtain ⟨o68, hX67, H⟩ := bindE H
    refine W.cutM (fun env_ w_ => Ctx w F D w_ F [] ∧ (∃ n_, w_ = w.drewN n_) ∧ o68 = Sum.inl ()) ?_ ?_
    · skip
      refine W.block ?_
      refine W.loop (fun g_ env_ w_ => ∃ (x72 : Int), env_ 0 = .slice A1 n3 c2 ∧ env_ 1 = .slice A8 n10 c9 ∧ env_ 5 = .int .i64 x72 ∧ Ctx w F D w_ F [] ∧ (∃ n_, w_ = w.drewN n_) ∧ juratref18_Same.l1 g_ a0 a1 x72 = some o68) k ⟨0, rfl, rfl, rfl, C, W0, hX67⟩ ?_
      clear hX67
      rintro g_ env_ w_ ⟨x72, ho69, ho70, ho71, C73, Wq74, hX67⟩
      rcases g_ with _ | k96
      · exact absurd hX67 (by simp [juratref18_Same.l1])
      rw [juratref18_Same.l1] at hX67
      refine W.seq ?_
      refine W.seq ?_
      refine W.region rfl ?_
      refine WL.val (Yl.move (v := .int .i64 x72) ho71) ?_
      refine WL.val (Yl.move (v := .slice A1 n3 c2) ho69) ?_
      refine WL.val (Yl.lenN (A := A1) (l := n3) (q := c2) (n := (a0.length : Int)) rfl Try.underlying31 (by omega)) ?_
      refine WL.val (Yl.lss (m := x72) (n := (a0.length : Int)) (q := decide (x72 < (a0.length : Int))) rfl rfl rfl) ?_
      refine WL.done ?_
      rcases iteE hX67 with ⟨hc97, hX67⟩ | ⟨hc97, hX67⟩
      · skip
        refine W.condT (congrArg Value.bool (decide_eq_true hc97)) ?_
        refine W.skip ?_
        refine W.seq ?_
        refine W.block ?_
        refine W.seq ?_
        refine W.region_quiet (by kernel_rfl) (by kernel_rfl) rfl ?_
        refine WQ.val (fun _ hw => by obtain ⟨_, rfl⟩ := hw; exact Yl.move (v := .slice A1 n3 c2) ho69) ?_
        refine WQ.val (fun _ hw => by obtain ⟨_, rfl⟩ := hw; exact Yl.move (v := .int .i64 x72) ho71) ?_
        obtain ⟨hc98, hX67⟩ := guardE hX67
        obtain ⟨b99, of100, hA101, he102⟩ := hS7 (by omega)
        refine WQ.val (fun _ hw => by obtain ⟨_, rfl⟩ := hw; exact Yl.elemAddr (i := x72) rfl rfl hA101 Try.underlying31 sz3 (by omega)) ?_
        obtain ⟨cs103, hr104, hx105⟩ := he102 x72.toNat _ (getD_some (d := 0) (by omega))
        obtain rfl := hr104
        refine WQ.val (fun _ hw => by obtain ⟨_, rfl⟩ := hw; exact Yl.load (v := .int .i64 (a0.getD x72.toNat 0)) rfl Try.underlying3 rfl ((((C73.drewN _).fro)).cell (hx105 0 _ rfl))) ?_
        refine WQ.val (fun _ hw => by obtain ⟨_, rfl⟩ := hw; exact Yl.move (v := .slice A8 n10 c9) ho70) ?_
        refine WQ.val (fun _ hw => by obtain ⟨_, rfl⟩ := hw; exact Yl.move (v := .int .i64 x72) ho71) ?_
        obtain ⟨hc106, hX67⟩ := guardE hX67
        obtain ⟨b107, of108, hA109, he110⟩ := hS14 (by omega)
        refine WQ.val (fun _ hw => by obtain ⟨_, rfl⟩ := hw; exact Yl.elemAddr (i := x72) rfl rfl hA109 Try.underlying31 sz3 (by omega)) ?_
        obtain ⟨cs111, hr112, hx113⟩ := he110 x72.toNat _ (getD_some (d := 0) (by omega))
        obtain rfl := hr112
        refine WQ.val (fun _ hw => by obtain ⟨_, rfl⟩ := hw; exact Yl.load (v := .int .i64 (a1.getD x72.toNat 0)) rfl Try.underlying3 rfl ((((C73.drewN _).fro)).cell (hx113 0 _ rfl))) ?_
        refine WQ.val (fun _ hw => by obtain ⟨_, rfl⟩ := hw; exact Yl.neq (m := a0.getD x72.toNat 0) (n := a1.getD x72.toNat 0) (q := !decide ((a0.getD x72.toNat 0) = (a1.getD x72.toNat 0))) rfl rfl rfl) ?_
        refine WQ.done (fun nq114 => ?_)
        have C115 := Ctx.drewN C73 nq114
        have Wq116 := drew_more Wq74 nq114
        rcases iteE hX67 with ⟨hc117, hX67⟩ | ⟨hc117, hX67⟩
        · skip
          refine W.condF (congrArg Value.bool (ndec_t hc117)) ?_
          refine W.skip ?_
          refine inB_n ?_
          refine W.region rfl ?_
          refine WL.val (Yl.move (v := .int .i64 x72) ho71) ?_
          refine WL.val (Yl.add (m := x72) (n := 1) (r := wi64 (x72 + 1)) rfl rfl rfl) ?_
          refine WL.val (Yl.assign (v := .int .i64 (wi64 (x72 + 1))) rfl) ?_
          refine WL.done ?_
          exact thenE_n ⟨k96, Nat.lt_succ_self _, wi64 (x72 + 1), ho69, ho70, rfl, C115, Wq116, hX67⟩
        · skip
          refine W.condT (congrArg Value.bool (ndec_f hc117)) ?_
          refine W.seq ?_
          refine W.region rfl ?_
          refine WL.val (Yl.assign (v := .bool false) rfl) ?_
          refine WL.done ?_
          refine W.ret ?_
          refine inB_r ?_
          refine thenE_r ?_
          refine thenE_r ?_
          refine inB_r ?_
          refine thenE_r ?_
          refine thenE_r ?_
          cases hX67
          replace H := sumE_r H
          have e118 := Option.some.inj H
          subst e118
          exact post_r (resE1 rfl rfl) ⟨rfl, Wq116⟩
      · skip
        refine W.condF (congrArg Value.bool (decide_eq_false hc97)) ?_
        refine W.exit ?_
        refine thenE_x ?_
        refine thenE_x ?_
        refine inB_here ?_
        cases hX67
        refine thenE_n ?_
        exact ⟨C73, Wq74, rfl⟩
    · skip
      rintro env_ w_ ⟨C65, Wq66, rfl⟩
      replace H := sumE_l H
      refine W.seq ?_
      refine W.region rfl ?_
      refine WL.val (Yl.assign (v := .bool true) rfl) ?_
      refine WL.done ?_
      refine W.ret ?_
      have e119 := Option.some.inj H
      subst e119
      exact post_r (resE1 rfl rfl) ⟨rfl, Wq66⟩
  · skip
    refine W.condT (congrArg Value.bool (ndec_f hc15)) ?_
    refine W.seq ?_
    refine W.region rfl ?_
    refine WL.val (Yl.assign (v := .bool false) rfl) ?_
    refine WL.done ?_
    refine W.ret ?_
    refine thenE_r ?_
    have e120 := Option.some.inj H
    subst e120
    exact post_r (resE1 rfl rfl) ⟨rfl, W0⟩
def juratref19_Same.l1 : Nat → List TCast → List TCast → Int → Option (Sum Unit Bool)
  | 0, _, _, _ => none
  | k + 1, a0, a1, x178 => if x178 < (a0.length : Int) then (if 0 ≤ x178 ∧ x178 < (a0.length : Int) then (if 0 ≤ x178 ∧ x178 < (a1.length : Int) then ((if ((a0.getD x178.toNat TCast.z).Worker) = ((a1.getD x178.toNat TCast.z).Worker) then ((juratref01_Same.f k ((a0.getD x178.toNat TCast.z).Value) ((a1.getD x178.toNat TCast.z).Value)).bind fun r321 => some (!r321)) else (some (true))).bind fun g317 => if g317 = true then (some (Sum.inr false)) else (juratref19_Same.l1 k a0 a1 (wi64 (x178 + 1)))) else none) else none) else (some (Sum.inl ()))
def juratref19_Same.f (k : Nat) (a0 : List TCast) (a1 : List TCast) : Option Bool := if (a0.length : Int) = (a1.length : Int) then ((juratref19_Same.l1 k a0 a1 0).bind fun o_ => sumE o_ (fun _ => some true) (fun p_ => some p_)) else (some false)
set_option maxRecDepth 100000 in
set_option maxHeartbeats 4000000 in
theorem juratref19_Same.calls (k : Nat) (w : World) (F : CH) (A1 : Option Addr) (c2 : Nat) (n3 : Nat) (a0 : List TCast) (A8 : Option Addr) (c9 : Nat) (n10 : Nat) (a1 : List TCast) (hp : Pre w F []) (hn4 : n3 = a0.length) (hl5 : a0.length ≤ c2) (hm6 : c2 ≤ maxLen) (hS7 : Sl TCast.K F F A1 a0) (hn11 : n10 = a1.length) (hl12 : a1.length ≤ c9) (hm13 : c9 ≤ maxLen) (hS14 : Sl TCast.K F F A8 a1) (r0_ : Bool) (H : juratref19_Same.f k a0 a1 = some r0_) :
    Calls Try.prog 24 #[.slice A1 n3 c2, .slice A8 n10 c9] w fun e w' => e = .returned (.bool r0_) ∧ (∃ n_, w' = w.drewN n_) := by
  have C := Ctx.start hp
  generalize domL [] = D at C
  have W0 : ∃ n_, w = w.drewN n_ := ⟨0, rfl⟩
  unfold juratref19_Same.f at H
  refine Calls.ofW Try.func24 rfl (by simp [Try.ntmps24]) ?_
  refine W.seq ?_
  refine W.region rfl ?_
  refine WL.val (Yl.assign (v := .bool false) rfl) ?_
  refine WL.done ?_
  refine W.seq ?_
  refine W.seq ?_
  refine W.region rfl ?_
  refine WL.val (Yl.move (v := .slice A1 n3 c2) rfl) ?_
  refine WL.val (Yl.lenN (A := A1) (l := n3) (q := c2) (n := (a0.length : Int)) rfl Try.underlying26 (by omega)) ?_
  refine WL.val (Yl.move (v := .slice A8 n10 c9) rfl) ?_
  refine WL.val (Yl.lenN (A := A8) (l := n10) (q := c9) (n := (a1.length : Int)) rfl Try.underlying26 (by omega)) ?_
  refine WL.val (Yl.neq (m := (a0.length : Int)) (n := (a1.length : Int)) (q := !decide ((a0.length : Int) = (a1.length : Int))) rfl rfl rfl) ?_
  refine WL.done ?_
  rcases iteE H with ⟨hc15, H⟩ | ⟨hc15, H⟩
  · skip
    refine W.condF (congrArg Value.bool (ndec_t hc15)) ?_
    refine W.skip ?_
    refine W.seq ?_
    refine W.seq ?_
    refine W.region rfl ?_
    refine WL.val (Yl.assign (v := .int .i64 0) rfl) ?_
    refine WL.done ?_
    obtain ⟨o174, hX173, H⟩ := bindE H
    refine W.cutM (fun env_ w_ => Ctx w F D w_ F [] ∧ (∃ n_, w_ = w.drewN n_) ∧ o174 = Sum.inl ()) ?_ ?_
    · skip
      refine W.block ?_
      refine W.loop (fun g_ env_ w_ => ∃ (x178 : Int), env_ 0 = .slice A1 n3 c2 ∧ env_ 1 = .slice A8 n10 c9 ∧ env_ 5 = .int .i64 x178 ∧ Ctx w F D w_ F [] ∧ (∃ n_, w_ = w.drewN n_) ∧ juratref19_Same.l1 g_ a0 a1 x178 = some o174) k ⟨0, rfl, rfl, rfl, C, W0, hX173⟩ ?_
      clear hX173
      rintro g_ env_ w_ ⟨x178, ho175, ho176, ho177, C179, Wq180, hX173⟩
      rcases g_ with _ | k255
      · exact absurd hX173 (by simp [juratref19_Same.l1])
      rw [juratref19_Same.l1] at hX173
      refine W.seq ?_
      refine W.seq ?_
      refine W.region rfl ?_
      refine WL.val (Yl.move (v := .int .i64 x178) ho177) ?_
      refine WL.val (Yl.move (v := .slice A1 n3 c2) ho175) ?_
      refine WL.val (Yl.lenN (A := A1) (l := n3) (q := c2) (n := (a0.length : Int)) rfl Try.underlying26 (by omega)) ?_
      refine WL.val (Yl.lss (m := x178) (n := (a0.length : Int)) (q := decide (x178 < (a0.length : Int))) rfl rfl rfl) ?_
      refine WL.done ?_
      rcases iteE hX173 with ⟨hc256, hX173⟩ | ⟨hc256, hX173⟩
      · skip
        refine W.condT (congrArg Value.bool (decide_eq_true hc256)) ?_
        refine W.skip ?_
        refine W.seq ?_
        refine W.block ?_
        refine W.seq ?_
        refine W.region_quiet (by kernel_rfl) (by kernel_rfl) rfl ?_
        refine WQ.val (fun _ hw => by obtain ⟨_, rfl⟩ := hw; exact Yl.move (v := .slice A1 n3 c2) ho175) ?_
        refine WQ.val (fun _ hw => by obtain ⟨_, rfl⟩ := hw; exact Yl.move (v := .int .i64 x178) ho177) ?_
        obtain ⟨hc287, hX173⟩ := guardE hX173
        obtain ⟨b288, of289, hA290, he291⟩ := hS7 (by omega)
        refine WQ.val (fun _ hw => by obtain ⟨_, rfl⟩ := hw; exact Yl.elemAddr (i := x178) rfl rfl hA290 Try.underlying26 sz37 (by omega)) ?_
        refine WQ.val (fun _ hw => by obtain ⟨_, rfl⟩ := hw; exact Yl.fieldAddr (i := 0) rfl Try.underlying37 rfl sz3) ?_
        obtain ⟨cs292, hr293, hx294⟩ := he291 x178.toNat _ (getD_some (d := TCast.z) (by omega))
        obtain ⟨A295, c296, n297, rfl, hn298, hl299, hm300, hS301⟩ := TCast.open hr293
        refine WQ.val (fun _ hw => by obtain ⟨_, rfl⟩ := hw; exact Yl.load (v := .int .i64 ((a0.getD x178.toNat TCast.z).Worker)) rfl Try.underlying3 rfl ((((C179.drewN _).fro)).cell (hx294 0 _ rfl))) ?_
        refine WQ.val (fun _ hw => by obtain ⟨_, rfl⟩ := hw; exact Yl.move (v := .slice A8 n10 c9) ho176) ?_
        refine WQ.val (fun _ hw => by obtain ⟨_, rfl⟩ := hw; exact Yl.move (v := .int .i64 x178) ho177) ?_
        obtain ⟨hc302, hX173⟩ := guardE hX173
        obtain ⟨b303, of304, hA305, he306⟩ := hS14 (by omega)
        refine WQ.val (fun _ hw => by obtain ⟨_, rfl⟩ := hw; exact Yl.elemAddr (i := x178) rfl rfl hA305 Try.underlying26 sz37 (by omega)) ?_
        refine WQ.val (fun _ hw => by obtain ⟨_, rfl⟩ := hw; exact Yl.fieldAddr (i := 0) rfl Try.underlying37 rfl sz3) ?_
        obtain ⟨cs307, hr308, hx309⟩ := he306 x178.toNat _ (getD_some (d := TCast.z) (by omega))
        obtain ⟨A310, c311, n312, rfl, hn313, hl314, hm315, hS316⟩ := TCast.open hr308
        refine WQ.val (fun _ hw => by obtain ⟨_, rfl⟩ := hw; exact Yl.load (v := .int .i64 ((a1.getD x178.toNat TCast.z).Worker)) rfl Try.underlying3 rfl ((((C179.drewN _).fro)).cell (hx309 0 _ rfl))) ?_
        refine WQ.val (fun _ hw => by obtain ⟨_, rfl⟩ := hw; exact Yl.neq (m := (a0.getD x178.toNat TCast.z).Worker) (n := (a1.getD x178.toNat TCast.z).Worker) (q := !decide (((a0.getD x178.toNat TCast.z).Worker) = ((a1.getD x178.toNat TCast.z).Worker))) rfl rfl rfl) ?_
        refine WQ.val (fun _ hw => by obtain ⟨_, rfl⟩ := hw; exact Yl.move (v := .bool (!decide (((a0.getD x178.toNat TCast.z).Worker) = ((a1.getD x178.toNat TCast.z).Worker)))) rfl) ?_
        obtain ⟨g317, HE318, hX173⟩ := bindE hX173
        refine WQ.cut (fun env_ => env_ 41 = .bool g317 ∧ env_ 0 = .slice A1 n3 c2 ∧ env_ 1 = .slice A8 n10 c9 ∧ env_ 5 = .int .i64 x178) ?_ ?_
        · skip
          rcases iteE HE318 with ⟨hc319, HE318⟩ | ⟨hc319, HE318⟩
          · skip
            refine WQ.on rfl (congrArg Value.bool (ndec_t hc319)) ?_
            refine WQ.val (fun _ hw => by obtain ⟨_, rfl⟩ := hw; exact Yl.move (v := .slice A1 n3 c2) ho175) ?_
            refine WQ.on rfl (congrArg Value.bool (ndec_t hc319)) ?_
            refine WQ.val (fun _ hw => by obtain ⟨_, rfl⟩ := hw; exact Yl.move (v := .int .i64 x178) ho177) ?_
            refine WQ.on rfl (congrArg Value.bool (ndec_t hc319)) ?_
            refine WQ.val (fun _ hw => by obtain ⟨_, rfl⟩ := hw; exact Yl.elemAddr (i := x178) rfl rfl hA290 Try.underlying26 sz37 (by omega)) ?_
            refine WQ.on rfl (congrArg Value.bool (ndec_t hc319)) ?_
            refine WQ.val (fun _ hw => by obtain ⟨_, rfl⟩ := hw; exact Yl.fieldAddr (i := 1) rfl Try.underlying37 rfl sz23) ?_
            refine WQ.on rfl (congrArg Value.bool (ndec_t hc319)) ?_
            refine WQ.val (fun _ hw => by obtain ⟨_, rfl⟩ := hw; exact Yl.load (v := .slice A295 n297 c296) rfl Try.underlying23 rfl ((((C179.drewN _).fro)).cell (hx294 1 _ rfl))) ?_
            refine WQ.on rfl (congrArg Value.bool (ndec_t hc319)) ?_
            refine WQ.val (fun _ hw => by obtain ⟨_, rfl⟩ := hw; exact Yl.move (v := .slice A8 n10 c9) ho176) ?_
            refine WQ.on rfl (congrArg Value.bool (ndec_t hc319)) ?_
            refine WQ.val (fun _ hw => by obtain ⟨_, rfl⟩ := hw; exact Yl.move (v := .int .i64 x178) ho177) ?_
            refine WQ.on rfl (congrArg Value.bool (ndec_t hc319)) ?_
            refine WQ.val (fun _ hw => by obtain ⟨_, rfl⟩ := hw; exact Yl.elemAddr (i := x178) rfl rfl hA305 Try.underlying26 sz37 (by omega)) ?_
            refine WQ.on rfl (congrArg Value.bool (ndec_t hc319)) ?_
            refine WQ.val (fun _ hw => by obtain ⟨_, rfl⟩ := hw; exact Yl.fieldAddr (i := 1) rfl Try.underlying37 rfl sz23) ?_
            refine WQ.on rfl (congrArg Value.bool (ndec_t hc319)) ?_
            refine WQ.val (fun _ hw => by obtain ⟨_, rfl⟩ := hw; exact Yl.load (v := .slice A310 n312 c311) rfl Try.underlying23 rfl ((((C179.drewN _).fro)).cell (hx309 1 _ rfl))) ?_
            refine WQ.on rfl (congrArg Value.bool (ndec_t hc319)) ?_
            obtain ⟨r321, hg320, HE318⟩ := bindE HE318
            refine WQ.call (v := .bool r321) (f := 12) (args := #[.slice A295 n297 c296, .slice A310 n312 c311]) (fun _ hw => by obtain ⟨_, rfl⟩ := hw; exact (Yenter.fn Try.func12 (by kernel_rfl) rfl (argsE (.cons rfl (.cons rfl .nil))))) (fun _ hw => by obtain ⟨n_, rfl⟩ := hw; exact (juratref01_Same.calls k255 _ F A295 c296 n297 ((a0.getD x178.toNat TCast.z).Value) A310 c311 n312 ((a1.getD x178.toNat TCast.z).Value) (C179.drewN n_).pre0 hn298 hl299 hm300 hS301 hn313 hl314 hm315 hS316 r321 hg320).mono (fun _ _ ⟨he, m_, hm_⟩ => ⟨he, n_ + m_, by rw [hm_, World.drewN_drewN]⟩)) ?_
            refine WQ.on rfl (congrArg Value.bool (ndec_t hc319)) ?_
            refine WQ.val (fun _ hw => by obtain ⟨_, rfl⟩ := hw; exact Yl.not (p := r321) (q := !r321) rfl rfl) ?_
            refine WQ.val (fun _ hw => by obtain ⟨_, rfl⟩ := hw; exact Yl.pickF (v := .bool (!r321)) (congrArg Value.bool (ndec_t hc319)) rfl) ?_
            cases HE318
            exact WQ.done ⟨rfl, ho175, ho176, ho177⟩
          · skip
            refine WQ.off rfl (congrArg Value.bool (ndec_f hc319)) ?_
            refine WQ.off rfl (congrArg Value.bool (ndec_f hc319)) ?_
            refine WQ.off rfl (congrArg Value.bool (ndec_f hc319)) ?_
            refine WQ.off rfl (congrArg Value.bool (ndec_f hc319)) ?_
            refine WQ.off rfl (congrArg Value.bool (ndec_f hc319)) ?_
            refine WQ.off rfl (congrArg Value.bool (ndec_f hc319)) ?_
            refine WQ.off rfl (congrArg Value.bool (ndec_f hc319)) ?_
            refine WQ.off rfl (congrArg Value.bool (ndec_f hc319)) ?_
            refine WQ.off rfl (congrArg Value.bool (ndec_f hc319)) ?_
            refine WQ.off rfl (congrArg Value.bool (ndec_f hc319)) ?_
            refine WQ.off rfl (congrArg Value.bool (ndec_f hc319)) ?_
            refine WQ.off rfl (congrArg Value.bool (ndec_f hc319)) ?_
            refine WQ.val (fun _ hw => by obtain ⟨_, rfl⟩ := hw; exact Yl.pickT (v := .bool true) (congrArg Value.bool (ndec_f hc319)) rfl) ?_
            cases HE318
            exact WQ.done ⟨rfl, ho175, ho176, ho177⟩
        · skip
          rintro env_ ⟨ho322, ho323, ho324, ho325⟩
          intro nq326
          have C327 := Ctx.drewN C179 nq326
          have Wq328 := drew_more Wq180 nq326
          rcases iteE hX173 with ⟨hc329, hX173⟩ | ⟨hc329, hX173⟩
          · skip
            refine W.condT (ho322.trans (congrArg Value.bool hc329)) ?_
            refine W.seq ?_
            refine W.region rfl ?_
            refine WL.val (Yl.assign (v := .bool false) rfl) ?_
            refine WL.done ?_
            refine W.ret ?_
            refine inB_r ?_
            refine thenE_r ?_
            refine thenE_r ?_
            refine inB_r ?_
            refine thenE_r ?_
            refine thenE_r ?_
            cases hX173
            replace H := sumE_r H
            have e330 := Option.some.inj H
            subst e330
            exact post_r (resE1 rfl rfl) ⟨rfl, Wq328⟩
          · skip
            refine W.condF (ho322.trans (congrArg Value.bool (Bool.eq_false_iff.2 hc329))) ?_
            refine W.skip ?_
            refine inB_n ?_
            refine W.region rfl ?_
            refine WL.val (Yl.move (v := .int .i64 x178) ho325) ?_
            refine WL.val (Yl.add (m := x178) (n := 1) (r := wi64 (x178 + 1)) rfl rfl rfl) ?_
            refine WL.val (Yl.assign (v := .int .i64 (wi64 (x178 + 1))) rfl) ?_
            refine WL.done ?_
            exact thenE_n ⟨k255, Nat.lt_succ_self _, wi64 (x178 + 1), ho323, ho324, rfl, C327, Wq328, hX173⟩
      · skip
        refine W.condF (congrArg Value.bool (decide_eq_false hc256)) ?_
        refine W.exit ?_
        refine thenE_x ?_
        refine thenE_x ?_
        refine inB_here ?_
        cases hX173
        refine thenE_n ?_
        exact ⟨C179, Wq180, rfl⟩
    · skip
      rintro env_ w_ ⟨C171, Wq172, rfl⟩
      replace H := sumE_l H
      refine W.seq ?_
      refine W.region rfl ?_
      refine WL.val (Yl.assign (v := .bool true) rfl) ?_
      refine WL.done ?_
      refine W.ret ?_
      have e331 := Option.some.inj H
      subst e331
      exact post_r (resE1 rfl rfl) ⟨rfl, Wq172⟩
  · skip
    refine W.condT (congrArg Value.bool (ndec_f hc15)) ?_
    refine W.seq ?_
    refine W.region rfl ?_
    refine WL.val (Yl.assign (v := .bool false) rfl) ?_
    refine WL.done ?_
    refine W.ret ?_
    refine thenE_r ?_
    have e332 := Option.some.inj H
    subst e332
    exact post_r (resE1 rfl rfl) ⟨rfl, W0⟩
def juratref19_Copy.l1 : Nat → List TCast → List TCast → Int → Option (List TCast)
  | 0, _, _, _ => none
  | k + 1, a0, x577, x585 => if x585 < (a0.length : Int) then (if 0 ≤ x585 ∧ x585 < (a0.length : Int) then (if (((a0.getD x585.toNat TCast.z).Value).length + ((a0.getD x585.toNat TCast.z).Value).length / 4 + 192) * 1 ≤ 281474976710656 then (if (x577.length + 1 + (x577.length + 1) / 4 + 192) * 32 ≤ 281474976710656 then (juratref19_Copy.l1 k a0 (x577 ++ [(⟨(a0.getD x585.toNat TCast.z).Worker, (a0.getD x585.toNat TCast.z).Value⟩ : TCast)]) (wi64 (x585 + 1))) else none) else none) else none) else (some x577)
def juratref19_Copy.f (k : Nat) (a0 : List TCast) : Option (List TCast) := (juratref19_Copy.l1 k a0 ([] : List TCast) 0).bind fun x424 => some x424
set_option maxRecDepth 100000 in
set_option maxHeartbeats 4000000 in
theorem juratref19_Copy.calls (k : Nat) (w : World) (F : CH) (A1 : Option Addr) (c2 : Nat) (n3 : Nat) (a0 : List TCast) (hp : Pre w F []) (hn4 : n3 = a0.length) (hl5 : a0.length ≤ c2) (hm6 : c2 ≤ maxLen) (hS7 : Sl TCast.K F F A1 a0) (r0_ : List TCast) (H : juratref19_Copy.f k a0 = some r0_) :
    Calls Try.prog 16 #[.slice A1 n3 c2] w fun e w' => ∃ (F' : CH) (A847 : Option Addr) (c848 : Nat) (n849 : Nat) (p851 : CH), e = .returned (.slice A847 n849 c848) ∧ CH.le F F' ∧ Ctx w F (domL []) w' F' [p851] ∧ n849 = r0_.length ∧ Row TCast.K F' p851 (.slice A847 n849 c848) r0_ := by
  have C := Ctx.start hp
  generalize hD : domL [] = D at C ⊢
  unfold juratref19_Copy.f at H
  refine Calls.ofW Try.func16 rfl (by simp [Try.ntmps16]) ?_
  refine W.seq ?_
  refine W.region rfl ?_
  refine WL.val (Yl.assign (v := .slice none 0 0) rfl) ?_
  refine WL.done ?_
  refine W.seq ?_
  refine W.region rfl ?_
  refine WL.val (Yl.assign (v := .slice none 0 0) rfl) ?_
  refine WL.done ?_
  refine W.seq ?_
  refine W.seq ?_
  refine W.region rfl ?_
  refine WL.val (Yl.assign (v := .int .i64 0) rfl) ?_
  refine WL.done ?_
  obtain ⟨x424, hX432, H⟩ := bindE H
  refine W.cutM (fun env_ w_ => ∃ (F421 : CH) (A425 : Option Addr) (c426 : Nat) (n427 : Nat) (p429 : CH), env_ 3 = .slice A425 n427 c426 ∧ Ctx w F D w_ F421 [p429] ∧ CH.le F F421 ∧ n427 = x424.length ∧ Row TCast.K F421 p429 (.slice A425 n427 c426) x424) ?_ ?_
  · skip
    refine W.block ?_
    have C716 : Ctx _ _ _ _ F [CH.emp] := Ctx.emp C
    refine W.loop (fun g_ env_ w_ => ∃ (x577 : List TCast) (x585 : Int) (F573 : CH) (A578 : Option Addr) (c579 : Nat) (n580 : Nat) (p582 : CH), env_ 0 = .slice A1 n3 c2 ∧ env_ 3 = .slice A578 n580 c579 ∧ env_ 4 = .int .i64 x585 ∧ Ctx w F D w_ F573 [p582] ∧ CH.le F F573 ∧ n580 = x577.length ∧ Row TCast.K F573 p582 (.slice A578 n580 c579) x577 ∧ juratref19_Copy.l1 g_ a0 x577 x585 = some x424) k ⟨([] : List TCast), 0, F, none, 0, 0, CH.emp, rfl, rfl, rfl, C716, (CH.le_refl _), rfl, (Row.nil _ _), hX432⟩ ?_
    clear hX432
    rintro g_ env_ w_ ⟨x577, x585, F573, A578, c579, n580, p582, ho575, ho576, ho584, C586, le574, hn581, hR583, hX432⟩
    rcases g_ with _ | k715
    · exact absurd hX432 (by simp [juratref19_Copy.l1])
    rw [juratref19_Copy.l1] at hX432
    refine W.seq ?_
    refine W.seq ?_
    refine W.region rfl ?_
    refine WL.val (Yl.move (v := .int .i64 x585) ho584) ?_
    refine WL.val (Yl.move (v := .slice A1 n3 c2) ho575) ?_
    refine WL.val (Yl.lenN (A := A1) (l := n3) (q := c2) (n := (a0.length : Int)) rfl Try.underlying26 (by omega)) ?_
    refine WL.val (Yl.lss (m := x585) (n := (a0.length : Int)) (q := decide (x585 < (a0.length : Int))) rfl rfl rfl) ?_
    refine WL.done ?_
    rcases iteE hX432 with ⟨hc717, hX432⟩ | ⟨hc717, hX432⟩
    · skip
      refine W.condT (congrArg Value.bool (decide_eq_true hc717)) ?_
      refine W.skip ?_
      refine W.seq ?_
      refine W.block ?_
      refine W.regionA [([14, 15], F573)] (by kernel_rfl) ?_
      have C781 := Ctx.drewN C586 1
      refine WA.take none [] 0 rfl (by kernel_rfl) (by kernel_rfl) (show _ = #[true, false, false, false, false, false, false, false, false, false, false, false, false, false, false, false, false] from rfl) trivial ⟨(C781.fro), trivial⟩ (fun _ hC_ => Yl.move (v := .slice A578 n580 c579) ho576) ?_
      refine WA.take none [] 1 rfl (by kernel_rfl) (by kernel_rfl) (show _ = #[true, true, false, false, false, false, false, false, false, false, false, false, false, false, false, false, false] from rfl) trivial ⟨(C781.fro), trivial⟩ (fun _ hC_ => Yl.move (v := .slice A1 n3 c2) ho575) ?_
      refine WA.take none [] 2 rfl (by kernel_rfl) (by kernel_rfl) (show _ = #[true, true, true, false, false, false, false, false, false, false, false, false, false, false, false, false, false] from rfl) trivial ⟨(C781.fro), trivial⟩ (fun _ hC_ => Yl.move (v := .int .i64 x585) ho584) ?_
      obtain ⟨hc782, hX432⟩ := guardE hX432
      obtain ⟨b783, of784, hA785, he786⟩ := hS7 (by omega)
      refine WA.take none [] 3 rfl (by kernel_rfl) (by kernel_rfl) (show _ = #[true, true, true, true, false, false, false, false, false, false, false, false, false, false, false, false, false] from rfl) trivial ⟨(C781.fro), trivial⟩ (fun _ hC_ => Yl.elemAddr (i := x585) rfl rfl hA785 Try.underlying26 sz37 (by omega)) ?_
      refine WA.take none [] 4 rfl (by kernel_rfl) (by kernel_rfl) (show _ = #[true, true, true, true, true, false, false, false, false, false, false, false, false, false, false, false, false] from rfl) trivial ⟨(C781.fro), trivial⟩ (fun _ hC_ => Yl.fieldAddr (i := 0) rfl Try.underlying37 rfl sz3) ?_
      obtain ⟨cs787, hr788, hx789⟩ := he786 x585.toNat _ (getD_some (d := TCast.z) (by omega))
      obtain ⟨A790, c791, n792, rfl, hn793, hl794, hm795, hS796⟩ := TCast.open hr788
      refine WA.take (some 0) [13, 14, 15, 16] 5 rfl (by kernel_rfl) (by kernel_rfl) (show _ = #[true, true, true, true, true, true, false, false, false, false, false, false, false, false, false, false, false] from rfl) (C781.fro) ⟨(C781.fro), trivial⟩ (fun _ hC_ => Yl.load (v := .int .i64 ((a0.getD x585.toNat TCast.z).Worker)) rfl Try.underlying3 rfl (((Sub.mono (show Sub F573 _ from hC_) le574)).cell (hx789 0 _ rfl))) ?_
      refine WA.take none [] 7 rfl (by kernel_rfl) (by kernel_rfl) (show _ = #[true, true, true, true, true, true, false, true, false, false, false, false, false, false, false, false, false] from rfl) trivial ⟨(C781.fro), trivial⟩ (fun _ hC_ => Yl.move (v := .slice A1 n3 c2) ho575) ?_
      refine WA.take none [] 8 rfl (by kernel_rfl) (by kernel_rfl) (show _ = #[true, true, true, true, true, true, false, true, true, false, false, false, false, false, false, false, false] from rfl) trivial ⟨(C781.fro), trivial⟩ (fun _ hC_ => Yl.move (v := .int .i64 x585) ho584) ?_
      refine WA.take none [] 9 rfl (by kernel_rfl) (by kernel_rfl) (show _ = #[true, true, true, true, true, true, false, true, true, true, false, false, false, false, false, false, false] from rfl) trivial ⟨(C781.fro), trivial⟩ (fun _ hC_ => Yl.elemAddr (i := x585) rfl rfl hA785 Try.underlying26 sz37 (by omega)) ?_
      refine WA.take none [] 10 rfl (by kernel_rfl) (by kernel_rfl) (show _ = #[true, true, true, true, true, true, false, true, true, true, true, false, false, false, false, false, false] from rfl) trivial ⟨(C781.fro), trivial⟩ (fun _ hC_ => Yl.fieldAddr (i := 1) rfl Try.underlying37 rfl sz23) ?_
      refine WA.take (some 0) [12, 13, 14, 15, 16] 11 rfl (by kernel_rfl) (by kernel_rfl) (show _ = #[true, true, true, true, true, true, false, true, true, true, true, true, false, false, false, false, false] from rfl) (C781.fro) ⟨(C781.fro), trivial⟩ (fun _ hC_ => Yl.load (v := .slice A790 n792 c791) rfl Try.underlying23 rfl (((Sub.mono (show Sub F573 _ from hC_) le574)).cell (hx789 1 _ rfl))) ?_
      obtain ⟨A797, c798, n799, p800, w801, hn802, hy803, C804, hR805⟩ := ev_lit0 (P := Try.prog) 5 (Kd.int .u8) C781 Try.underlying23 ti5
      refine WA.up1 6 (by kernel_rfl) (Up.val rfl rfl (show _ = #[true, true, true, true, true, true, true, true, true, true, true, true, false, false, false, false, false] from rfl) (hy803 _ _) ⟨(C804.fro), trivial⟩ ?_)
      obtain ⟨hc806, hX432⟩ := guardE hX432
      obtain ⟨A807, c808, n809, p810, w811, hn812, hy813, C814, hR815⟩ := ev_append' (P := Try.prog) (cb := c791) 5 (Kd.int .u8) [] [p582] C804 hR805 hn793 (Sl.mono hS796 le574 le574) C804.fro Try.underlying23 ti5 rfl zo5 (by decide) (by decide) (by simpa using hc806)
      have C816 : Ctx _ _ _ _ F573 [p810, p582] := C814
      rw [List.nil_append] at hn812 hR815
      refine WA.up1 12 (by kernel_rfl) (Up.val rfl rfl (show _ = #[true, true, true, true, true, true, true, true, true, true, true, true, true, false, false, false, false] from rfl) (hy813 _ _ _ _ rfl rfl) ⟨(C816.fro), trivial⟩ ?_)
      refine WA.take none [] 13 rfl (by kernel_rfl) (by kernel_rfl) (show _ = #[true, true, true, true, true, true, true, true, true, true, true, true, true, true, false, false, false] from rfl) trivial ⟨(C816.fro), trivial⟩ (fun _ hC_ => Yl.build (places := [(0, 1), (1, 1)]) (cs := List.toArray [.int .i64 ((a0.getD x585.toNat TCast.z).Worker), .slice A807 n809 c808]) Try.underlying37 zr37 (pl37 _ Try.underlying37) (partsB (.cons rfl (.cons rfl .nil))) rfl) ?_
      have hd817 := Ctx.dis_of [] [p582] C816
      have C820 : Ctx _ _ _ _ (CH.join F573 p810) [p582] := Ctx.freeze [] [p582] C816
      have le819 := CH.le_joinL F573 p810
      obtain ⟨hl821, hm822, hS823⟩ := Row.freeze' hR815 hd817
      have hR824 := Row.mono hR583 le819
      obtain ⟨A825, c826, n827, p828, w829, hn830, hy831, C832, hR833⟩ := ev_lit1' (P := Try.prog) 37 TCast.K C820 Try.underlying26 ti37 ⟨by decide, by decide⟩ (⟨(a0.getD x585.toNat TCast.z).Worker, (a0.getD x585.toNat TCast.z).Value⟩ : TCast) (.agg (List.toArray [.int .i64 ((a0.getD x585.toNat TCast.z).Worker), .slice A807 n809 c808])) (TCast.mk' _ (⟨(a0.getD x585.toNat TCast.z).Worker, (a0.getD x585.toNat TCast.z).Value⟩ : TCast) A807 c808 n809 hn812 hl821 hm822 hS823)
      refine WA.up1 14 (by kernel_rfl) (Up.val rfl rfl (show _ = #[true, true, true, true, true, true, true, true, true, true, true, true, true, true, true, false, false] from rfl) (hy831 _ _ _ rfl) ⟨trivial, trivial⟩ ?_)
      obtain ⟨hc834, hX432⟩ := guardE hX432
      obtain ⟨A835, c836, n837, p838, w839, hn840, hy841, C842, hR843⟩ := ev_append' (P := Try.prog) (cb := c826) 37 TCast.K [p828] [] C832 hR824 hn830 (Row.sl hR833) (Ctx.sub_of [] [p582] C832) Try.underlying26 ti37 rfl zo37 (by decide) (by decide) (by simpa using hc834)
      have C844 : Ctx _ _ _ _ (CH.join F573 p810) [p828, p838] := C842
      refine WA.up1 15 (by kernel_rfl) (Up.val rfl rfl (show _ = #[true, true, true, true, true, true, true, true, true, true, true, true, true, true, true, true, false] from rfl) (hy841 _ _ _ _ rfl rfl) ⟨trivial, trivial⟩ ?_)
      refine WA.take none [] 16 rfl (by kernel_rfl) (by kernel_rfl) (show _ = #[true, true, true, true, true, true, true, true, true, true, true, true, true, true, true, true, true] from rfl) trivial ⟨trivial, trivial⟩ (fun _ hC_ => Yl.assign (v := .slice A835 n837 c836) rfl) ?_
      refine WA.done (by kernel_rfl) ?_
      refine inB_n ?_
      refine W.region rfl ?_
      refine WL.val (Yl.move (v := .int .i64 x585) ho584) ?_
      refine WL.val (Yl.add (m := x585) (n := 1) (r := wi64 (x585 + 1)) rfl rfl rfl) ?_
      refine WL.val (Yl.assign (v := .int .i64 (wi64 (x585 + 1))) rfl) ?_
      refine WL.done ?_
      have C845 : Ctx _ _ _ _ (CH.join F573 p810) [p838] := Ctx.drop [] [p838] C844
      exact thenE_n ⟨k715, Nat.lt_succ_self _, x577 ++ [(⟨(a0.getD x585.toNat TCast.z).Worker, (a0.getD x585.toNat TCast.z).Value⟩ : TCast)], wi64 (x585 + 1), (CH.join F573 p810), A835, c836, n837, p838, ho575, rfl, rfl, C845, (CH.le_trans le574 le819), hn840, hR843, hX432⟩
    · skip
      refine W.condF (congrArg Value.bool (decide_eq_false hc717)) ?_
      refine W.exit ?_
      refine thenE_x ?_
      refine thenE_x ?_
      refine inB_here ?_
      cases hX432
      refine thenE_n ?_
      exact ⟨F573, A578, c579, n580, p582, ho576, C586, le574, hn581, hR583⟩
  · skip
    rintro env_ w_ ⟨F421, A425, c426, n427, p429, ho423, C431, le422, hn428, hR430⟩
    refine W.seq ?_
    refine W.region rfl ?_
    refine WL.val (Yl.move (v := .slice A425 n427 c426) ho423) ?_
    refine WL.val (Yl.assign (v := .slice A425 n427 c426) rfl) ?_
    refine WL.done ?_
    refine W.ret ?_
    have e846 := Option.some.inj H
    subst e846
    exact post_r (resE1 rfl rfl) ⟨F421, A425, c426, n427, p429, rfl, le422, C431, hn428, hR430⟩
def juratref19_Great.l1 : Nat → List TCast → Int → Option (Sum Unit Bool)
  | 0, _, _ => none
  | k + 1, a0, x56 => if x56 < (a0.length : Int) then (if 0 ≤ x56 ∧ x56 < (a0.length : Int) then (if (((a0.getD x56.toNat TCast.z).Value).length : Int) > 200 then (some (Sum.inr true)) else (juratref19_Great.l1 k a0 (wi64 (x56 + 1)))) else none) else (some (Sum.inl ()))
def juratref19_Great.f (k : Nat) (a0 : List TCast) : Option Bool := if (a0.length : Int) > 60 then (some true) else ((juratref19_Great.l1 k a0 0).bind fun o_ => sumE o_ (fun _ => some false) (fun p_ => some p_))
set_option maxRecDepth 100000 in
set_option maxHeartbeats 4000000 in
theorem juratref19_Great.calls (k : Nat) (w : World) (F : CH) (A1 : Option Addr) (c2 : Nat) (n3 : Nat) (a0 : List TCast) (hp : Pre w F []) (hn4 : n3 = a0.length) (hl5 : a0.length ≤ c2) (hm6 : c2 ≤ maxLen) (hS7 : Sl TCast.K F F A1 a0) (r0_ : Bool) (H : juratref19_Great.f k a0 = some r0_) :
    Calls Try.prog 15 #[.slice A1 n3 c2] w fun e w' => e = .returned (.bool r0_) ∧ (∃ n_, w' = w.drewN n_) := by
  have C := Ctx.start hp
  generalize domL [] = D at C
  have W0 : ∃ n_, w = w.drewN n_ := ⟨0, rfl⟩
  unfold juratref19_Great.f at H
  refine Calls.ofW Try.func15 rfl (by simp [Try.ntmps15]) ?_
  refine W.seq ?_
  refine W.region rfl ?_
  refine WL.val (Yl.assign (v := .bool false) rfl) ?_
  refine WL.done ?_
  refine W.seq ?_
  refine W.seq ?_
  refine W.region rfl ?_
  refine WL.val (Yl.move (v := .slice A1 n3 c2) rfl) ?_
  refine WL.val (Yl.lenN (A := A1) (l := n3) (q := c2) (n := (a0.length : Int)) rfl Try.underlying26 (by omega)) ?_
  refine WL.val (Yl.gtr (m := (a0.length : Int)) (n := 60) (q := decide ((a0.length : Int) > 60)) rfl rfl rfl) ?_
  refine WL.done ?_
  rcases iteE H with ⟨hc8, H⟩ | ⟨hc8, H⟩
  · skip
    refine W.condT (congrArg Value.bool (decide_eq_true hc8)) ?_
    refine W.seq ?_
    refine W.region rfl ?_
    refine WL.val (Yl.assign (v := .bool true) rfl) ?_
    refine WL.done ?_
    refine W.ret ?_
    refine thenE_r ?_
    have e9 := Option.some.inj H
    subst e9
    exact post_r (resE1 rfl rfl) ⟨rfl, W0⟩
  · skip
    refine W.condF (congrArg Value.bool (decide_eq_false hc8)) ?_
    refine W.skip ?_
    refine W.seq ?_
    refine W.seq ?_
    refine W.region rfl ?_
    refine WL.val (Yl.assign (v := .int .i64 0) rfl) ?_
    refine WL.done ?_
    obtain ⟨o53, hX52, H⟩ := bindE H
    refine W.cutM (fun env_ w_ => Ctx w F D w_ F [] ∧ (∃ n_, w_ = w.drewN n_) ∧ o53 = Sum.inl ()) ?_ ?_
    · skip
      refine W.block ?_
      refine W.loop (fun g_ env_ w_ => ∃ (x56 : Int), env_ 0 = .slice A1 n3 c2 ∧ env_ 3 = .int .i64 x56 ∧ Ctx w F D w_ F [] ∧ (∃ n_, w_ = w.drewN n_) ∧ juratref19_Great.l1 g_ a0 x56 = some o53) k ⟨0, rfl, rfl, C, W0, hX52⟩ ?_
      clear hX52
      rintro g_ env_ w_ ⟨x56, ho54, ho55, C57, Wq58, hX52⟩
      rcases g_ with _ | k76
      · exact absurd hX52 (by simp [juratref19_Great.l1])
      rw [juratref19_Great.l1] at hX52
      refine W.seq ?_
      refine W.seq ?_
      refine W.region rfl ?_
      refine WL.val (Yl.move (v := .int .i64 x56) ho55) ?_
      refine WL.val (Yl.move (v := .slice A1 n3 c2) ho54) ?_
      refine WL.val (Yl.lenN (A := A1) (l := n3) (q := c2) (n := (a0.length : Int)) rfl Try.underlying26 (by omega)) ?_
      refine WL.val (Yl.lss (m := x56) (n := (a0.length : Int)) (q := decide (x56 < (a0.length : Int))) rfl rfl rfl) ?_
      refine WL.done ?_
      rcases iteE hX52 with ⟨hc77, hX52⟩ | ⟨hc77, hX52⟩
      · skip
        refine W.condT (congrArg Value.bool (decide_eq_true hc77)) ?_
        refine W.skip ?_
        refine W.seq ?_
        refine W.block ?_
        refine W.seq ?_
        refine W.region rfl ?_
        refine WL.val (Yl.move (v := .slice A1 n3 c2) ho54) ?_
        refine WL.val (Yl.move (v := .int .i64 x56) ho55) ?_
        obtain ⟨hc78, hX52⟩ := guardE hX52
        obtain ⟨b79, of80, hA81, he82⟩ := hS7 (by omega)
        refine WL.val (Yl.elemAddr (i := x56) rfl rfl hA81 Try.underlying26 sz37 (by omega)) ?_
        refine WL.val (Yl.fieldAddr (i := 1) rfl Try.underlying37 rfl sz23) ?_
        obtain ⟨cs83, hr84, hx85⟩ := he82 x56.toNat _ (getD_some (d := TCast.z) (by omega))
        obtain ⟨A86, c87, n88, rfl, hn89, hl90, hm91, hS92⟩ := TCast.open hr84
        refine WL.val (Yl.load (v := .slice A86 n88 c87) rfl Try.underlying23 rfl (((C57.fro)).cell (hx85 1 _ rfl))) ?_
        refine WL.val (Yl.lenN (A := A86) (l := n88) (q := c87) (n := (((a0.getD x56.toNat TCast.z).Value).length : Int)) rfl Try.underlying23 (by omega)) ?_
        refine WL.val (Yl.gtr (m := (((a0.getD x56.toNat TCast.z).Value).length : Int)) (n := 200) (q := decide ((((a0.getD x56.toNat TCast.z).Value).length : Int) > 200)) rfl rfl rfl) ?_
        refine WL.done ?_
        rcases iteE hX52 with ⟨hc93, hX52⟩ | ⟨hc93, hX52⟩
        · skip
          refine W.condT (congrArg Value.bool (decide_eq_true hc93)) ?_
          refine W.seq ?_
          refine W.region rfl ?_
          refine WL.val (Yl.assign (v := .bool true) rfl) ?_
          refine WL.done ?_
          refine W.ret ?_
          refine inB_r ?_
          refine thenE_r ?_
          refine thenE_r ?_
          refine inB_r ?_
          refine thenE_r ?_
          refine thenE_r ?_
          cases hX52
          replace H := sumE_r H
          have e94 := Option.some.inj H
          subst e94
          exact post_r (resE1 rfl rfl) ⟨rfl, Wq58⟩
        · skip
          refine W.condF (congrArg Value.bool (decide_eq_false hc93)) ?_
          refine W.skip ?_
          refine inB_n ?_
          refine W.region rfl ?_
          refine WL.val (Yl.move (v := .int .i64 x56) ho55) ?_
          refine WL.val (Yl.add (m := x56) (n := 1) (r := wi64 (x56 + 1)) rfl rfl rfl) ?_
          refine WL.val (Yl.assign (v := .int .i64 (wi64 (x56 + 1))) rfl) ?_
          refine WL.done ?_
          exact thenE_n ⟨k76, Nat.lt_succ_self _, wi64 (x56 + 1), ho54, rfl, C57, Wq58, hX52⟩
      · skip
        refine W.condF (congrArg Value.bool (decide_eq_false hc77)) ?_
        refine W.exit ?_
        refine thenE_x ?_
        refine thenE_x ?_
        refine inB_here ?_
        cases hX52
        refine thenE_n ?_
        exact ⟨C57, Wq58, rfl⟩
    · skip
      rintro env_ w_ ⟨C50, Wq51, rfl⟩
      replace H := sumE_l H
      refine W.seq ?_
      refine W.region rfl ?_
      refine WL.val (Yl.assign (v := .bool false) rfl) ?_
      refine WL.done ?_
      refine W.ret ?_
      have e95 := Option.some.inj H
      subst e95
      exact post_r (resE1 rfl rfl) ⟨rfl, Wq51⟩
def juratref19_Cast.l1 : Nat → List TCast → TCast → Int → Option (Sum Unit ((List TCast) × Int))
  | 0, _, _, _ => none
  | k + 1, a0, a1, x81 => if x81 < (a0.length : Int) then (if 0 ≤ x81 ∧ x81 < (a0.length : Int) then (if ((a0.getD x81.toNat TCast.z).Worker) = a1.Worker then (some (Sum.inr (([] : List TCast), 190))) else (juratref19_Cast.l1 k a0 a1 (wi64 (x81 + 1)))) else none) else (some (Sum.inl ()))
def juratref19_Cast.f (k : Nat) (a0 : List TCast) (a1 : TCast) : Option ((List TCast) × Int) := if a1.Worker < 0 then (some (([] : List TCast), 1)) else (if (a1.Value.length : Int) > 32 then (some (([] : List TCast), 42)) else ((juratref19_Cast.l1 k a0 a1 0).bind fun o_ => sumE o_ (fun _ => if (a0.length + a0.length / 4 + 192) * 32 ≤ 281474976710656 then (if (a0.length + 1 + (a0.length + 1) / 4 + 192) * 32 ≤ 281474976710656 then (some (a0 ++ [a1], 0)) else none) else none) (fun p_ => some p_)))
set_option maxRecDepth 100000 in
set_option maxHeartbeats 4000000 in
theorem juratref19_Cast.calls (k : Nat) (w : World) (F : CH) (A1 : Option Addr) (c2 : Nat) (n3 : Nat) (a0 : List TCast) (A8 : Option Addr) (c9 : Nat) (n10 : Nat) (a1 : TCast) (hp : Pre w F []) (hn4 : n3 = a0.length) (hl5 : a0.length ≤ c2) (hm6 : c2 ≤ maxLen) (hS7 : Sl TCast.K F F A1 a0) (hn11 : n10 = a1.Value.length) (hl12 : a1.Value.length ≤ c9) (hm13 : c9 ≤ maxLen) (hS14 : Sl (Kd.int .u8) F F A8 a1.Value) (r0_ : List TCast) (r1_ : Int) (H : juratref19_Cast.f k a0 a1 = some (r0_, r1_)) :
    Calls Try.prog 23 #[.slice A1 n3 c2, .agg (List.toArray [.int .i64 a1.Worker, .slice A8 n10 c9])] w fun e w' => ∃ (F' : CH) (A170 : Option Addr) (c171 : Nat) (n172 : Nat) (p174 : CH), e = .returned (.tuple #[(.slice A170 n172 c171), (.int .i64 r1_)]) ∧ CH.le F F' ∧ Ctx w F (domL []) w' F' [p174] ∧ n172 = r0_.length ∧ Row TCast.K F' p174 (.slice A170 n172 c171) r0_ := by
  have C := Ctx.start hp
  generalize hD : domL [] = D at C ⊢
  unfold juratref19_Cast.f at H
  refine Calls.ofW Try.func23 rfl (by simp [Try.ntmps23]) ?_
  refine W.seq ?_
  refine W.region rfl ?_
  obtain ⟨g15, w16, hy17, C18⟩ := ev_box (P := Try.prog) 37 (.agg (List.toArray [.int .i64 a1.Worker, .slice A8 n10 c9])) [.int .i64 a1.Worker, .slice A8 n10 c9] C rfl
  refine WL.val (hy17 _ _ _ rfl) ?_
  refine WL.val (Yl.assign (v := .slice none 0 0) rfl) ?_
  refine WL.val (Yl.assign (v := .int .i64 0) rfl) ?_
  refine WL.done ?_
  refine W.seq ?_
  refine W.seq ?_
  refine W.region rfl ?_
  refine WL.val (Yl.fieldAddr (i := 0) rfl Try.underlying37 rfl sz3) ?_
  refine WL.val (Yl.loadV (g := g15) (off := 0) (o := 0) (cs := [.int .i64 a1.Worker, .slice A8 n10 c9]) (v := .int .i64 a1.Worker) rfl Try.underlying3 rfl (Ctx.sub_of [] [] C18) rfl) ?_
  refine WL.val (Yl.lss (m := a1.Worker) (n := 0) (q := decide (a1.Worker < 0)) rfl rfl rfl) ?_
  refine WL.done ?_
  rcases iteE H with ⟨hc19, H⟩ | ⟨hc19, H⟩
  · skip
    refine W.condT (congrArg Value.bool (decide_eq_true hc19)) ?_
    refine W.seq ?_
    refine W.region rfl ?_
    refine WL.val (Yl.assign (v := .slice none 0 0) rfl) ?_
    refine WL.val (Yl.assign (v := .int .i64 1) rfl) ?_
    refine WL.done ?_
    refine W.ret ?_
    refine thenE_r ?_
    have C20 : Ctx _ _ _ _ F [] := Ctx.drop [] [] C18
    have C21 : Ctx _ _ _ _ F [CH.emp] := Ctx.emp C20
    simp only [Option.some.injEq, Prod.mk.injEq] at H
    obtain ⟨e22, e23⟩ := H
    subst e22 e23
    exact post_r (resE2 rfl rfl rfl) ⟨F, none, 0, 0, CH.emp, rfl, (CH.le_refl _), C21, rfl, (Row.nil _ _)⟩
  · skip
    refine W.condF (congrArg Value.bool (decide_eq_false hc19)) ?_
    refine W.skip ?_
    refine W.seq ?_
    refine W.seq ?_
    refine W.region rfl ?_
    refine WL.val (Yl.fieldAddr (i := 1) rfl Try.underlying37 rfl sz23) ?_
    refine WL.val (Yl.loadV (g := g15) (off := 0) (o := 1) (cs := [.int .i64 a1.Worker, .slice A8 n10 c9]) (v := .slice A8 n10 c9) rfl Try.underlying23 rfl (Ctx.sub_of [] [] C18) rfl) ?_
    refine WL.val (Yl.lenN (A := A8) (l := n10) (q := c9) (n := (a1.Value.length : Int)) rfl Try.underlying23 (by omega)) ?_
    refine WL.val (Yl.gtr (m := (a1.Value.length : Int)) (n := 32) (q := decide ((a1.Value.length : Int) > 32)) rfl rfl rfl) ?_
    refine WL.done ?_
    rcases iteE H with ⟨hc24, H⟩ | ⟨hc24, H⟩
    · skip
      refine W.condT (congrArg Value.bool (decide_eq_true hc24)) ?_
      refine W.seq ?_
      refine W.region rfl ?_
      refine WL.val (Yl.assign (v := .slice none 0 0) rfl) ?_
      refine WL.val (Yl.assign (v := .int .i64 42) rfl) ?_
      refine WL.done ?_
      refine W.ret ?_
      refine thenE_r ?_
      have C25 : Ctx _ _ _ _ F [] := Ctx.drop [] [] C18
      have C26 : Ctx _ _ _ _ F [CH.emp] := Ctx.emp C25
      simp only [Option.some.injEq, Prod.mk.injEq] at H
      obtain ⟨e27, e28⟩ := H
      subst e27 e28
      exact post_r (resE2 rfl rfl rfl) ⟨F, none, 0, 0, CH.emp, rfl, (CH.le_refl _), C26, rfl, (Row.nil _ _)⟩
    · skip
      refine W.condF (congrArg Value.bool (decide_eq_false hc24)) ?_
      refine W.skip ?_
      refine W.seq ?_
      refine W.seq ?_
      refine W.region rfl ?_
      refine WL.val (Yl.assign (v := .int .i64 0) rfl) ?_
      refine WL.done ?_
      obtain ⟨o77, hX76, H⟩ := bindE H
      refine W.cutM (fun env_ w_ => env_ 0 = .slice A1 n3 c2 ∧ env_ 3 = .pointer (some ⟨g15, 0, none⟩) ∧ Ctx w F D w_ F [CH.row g15 0 [.int .i64 a1.Worker, .slice A8 n10 c9]] ∧ o77 = Sum.inl ()) ?_ ?_
      · skip
        refine W.block ?_
        refine W.loop (fun g_ env_ w_ => ∃ (x81 : Int), env_ 0 = .slice A1 n3 c2 ∧ env_ 3 = .pointer (some ⟨g15, 0, none⟩) ∧ env_ 6 = .int .i64 x81 ∧ Ctx w F D w_ F [CH.row g15 0 [.int .i64 a1.Worker, .slice A8 n10 c9]] ∧ juratref19_Cast.l1 g_ a0 a1 x81 = some o77) k ⟨0, rfl, rfl, rfl, C18, hX76⟩ ?_
        clear hX76
        rintro g_ env_ w_ ⟨x81, ho78, ho79, ho80, C82, hX76⟩
        rcases g_ with _ | k102
        · exact absurd hX76 (by simp [juratref19_Cast.l1])
        rw [juratref19_Cast.l1] at hX76
        refine W.seq ?_
        refine W.seq ?_
        refine W.region rfl ?_
        refine WL.val (Yl.move (v := .int .i64 x81) ho80) ?_
        refine WL.val (Yl.move (v := .slice A1 n3 c2) ho78) ?_
        refine WL.val (Yl.lenN (A := A1) (l := n3) (q := c2) (n := (a0.length : Int)) rfl Try.underlying26 (by omega)) ?_
        refine WL.val (Yl.lss (m := x81) (n := (a0.length : Int)) (q := decide (x81 < (a0.length : Int))) rfl rfl rfl) ?_
        refine WL.done ?_
        rcases iteE hX76 with ⟨hc103, hX76⟩ | ⟨hc103, hX76⟩
        · skip
          refine W.condT (congrArg Value.bool (decide_eq_true hc103)) ?_
          refine W.skip ?_
          refine W.seq ?_
          refine W.block ?_
          refine W.seq ?_
          refine W.region_quiet (by kernel_rfl) (by kernel_rfl) rfl ?_
          refine WQ.val (fun _ hw => by obtain ⟨_, rfl⟩ := hw; exact Yl.move (v := .slice A1 n3 c2) ho78) ?_
          refine WQ.val (fun _ hw => by obtain ⟨_, rfl⟩ := hw; exact Yl.move (v := .int .i64 x81) ho80) ?_
          obtain ⟨hc104, hX76⟩ := guardE hX76
          obtain ⟨b105, of106, hA107, he108⟩ := hS7 (by omega)
          refine WQ.val (fun _ hw => by obtain ⟨_, rfl⟩ := hw; exact Yl.elemAddr (i := x81) rfl rfl hA107 Try.underlying26 sz37 (by omega)) ?_
          refine WQ.val (fun _ hw => by obtain ⟨_, rfl⟩ := hw; exact Yl.fieldAddr (i := 0) rfl Try.underlying37 rfl sz3) ?_
          obtain ⟨cs109, hr110, hx111⟩ := he108 x81.toNat _ (getD_some (d := TCast.z) (by omega))
          obtain ⟨A112, c113, n114, rfl, hn115, hl116, hm117, hS118⟩ := TCast.open hr110
          refine WQ.val (fun _ hw => by obtain ⟨_, rfl⟩ := hw; exact Yl.load (v := .int .i64 ((a0.getD x81.toNat TCast.z).Worker)) rfl Try.underlying3 rfl ((((C82.drewN _).fro)).cell (hx111 0 _ rfl))) ?_
          refine WQ.val (fun _ hw => by obtain ⟨_, rfl⟩ := hw; exact Yl.fieldAddr (i := 0) ho79 Try.underlying37 rfl sz3) ?_
          refine WQ.val (fun _ hw => by obtain ⟨_, rfl⟩ := hw; exact Yl.loadV (g := g15) (off := 0) (o := 0) (cs := [.int .i64 a1.Worker, .slice A8 n10 c9]) (v := .int .i64 a1.Worker) rfl Try.underlying3 rfl (Ctx.sub_of [] [] (C82.drewN _)) rfl) ?_
          refine WQ.val (fun _ hw => by obtain ⟨_, rfl⟩ := hw; exact Yl.eql (m := (a0.getD x81.toNat TCast.z).Worker) (n := a1.Worker) (q := decide (((a0.getD x81.toNat TCast.z).Worker) = a1.Worker)) rfl rfl rfl) ?_
          refine WQ.done (fun nq119 => ?_)
          have C120 := Ctx.drewN C82 nq119
          rcases iteE hX76 with ⟨hc121, hX76⟩ | ⟨hc121, hX76⟩
          · skip
            refine W.condT (congrArg Value.bool (decide_eq_true hc121)) ?_
            refine W.seq ?_
            refine W.region rfl ?_
            refine WL.val (Yl.assign (v := .slice none 0 0) rfl) ?_
            refine WL.val (Yl.assign (v := .int .i64 190) rfl) ?_
            refine WL.done ?_
            refine W.ret ?_
            refine inB_r ?_
            refine thenE_r ?_
            refine thenE_r ?_
            refine inB_r ?_
            refine thenE_r ?_
            refine thenE_r ?_
            cases hX76
            replace H := sumE_r H
            have C122 : Ctx _ _ _ _ F [] := Ctx.drop [] [] C120
            have C123 : Ctx _ _ _ _ F [CH.emp] := Ctx.emp C122
            simp only [Option.some.injEq, Prod.mk.injEq] at H
            obtain ⟨e124, e125⟩ := H
            subst e124 e125
            exact post_r (resE2 rfl rfl rfl) ⟨F, none, 0, 0, CH.emp, rfl, (CH.le_refl _), C123, rfl, (Row.nil _ _)⟩
          · skip
            refine W.condF (congrArg Value.bool (decide_eq_false hc121)) ?_
            refine W.skip ?_
            refine inB_n ?_
            refine W.region rfl ?_
            refine WL.val (Yl.move (v := .int .i64 x81) ho80) ?_
            refine WL.val (Yl.add (m := x81) (n := 1) (r := wi64 (x81 + 1)) rfl rfl rfl) ?_
            refine WL.val (Yl.assign (v := .int .i64 (wi64 (x81 + 1))) rfl) ?_
            refine WL.done ?_
            exact thenE_n ⟨k102, Nat.lt_succ_self _, wi64 (x81 + 1), ho78, ho79, rfl, C120, hX76⟩
        · skip
          refine W.condF (congrArg Value.bool (decide_eq_false hc103)) ?_
          refine W.exit ?_
          refine thenE_x ?_
          refine thenE_x ?_
          refine inB_here ?_
          cases hX76
          refine thenE_n ?_
          exact ⟨ho78, ho79, C82, rfl⟩
      · skip
        rintro env_ w_ ⟨ho73, ho74, C75, rfl⟩
        replace H := sumE_l H
        refine W.seq ?_
        refine W.region rfl ?_
        obtain ⟨A126, c127, n128, p129, w130, hn131, hy132, C133, hR134⟩ := ev_lit0 (P := Try.prog) 37 TCast.K C75 Try.underlying26 ti37
        refine WL.val (hy132 _ _) ?_
        refine WL.val (Yl.move (v := .slice A1 n3 c2) ho73) ?_
        obtain ⟨hc135, H⟩ := guardE H
        obtain ⟨A136, c137, n138, p139, w140, hn141, hy142, C143, hR144⟩ := ev_append' (P := Try.prog) (cb := c2) 37 TCast.K [] [CH.row g15 0 [.int .i64 a1.Worker, .slice A8 n10 c9]] C133 hR134 hn4 hS7 C133.fro Try.underlying26 ti37 rfl zo37 (by decide) (by decide) (by simpa using hc135)
        have C145 : Ctx _ _ _ _ F [p139, CH.row g15 0 [.int .i64 a1.Worker, .slice A8 n10 c9]] := C143
        rw [List.nil_append] at hn141 hR144
        refine WL.val (hy142 _ _ _ _ rfl rfl) ?_
        refine WL.val (Yl.assign (v := .slice A136 n138 c137) rfl) ?_
        refine WL.done ?_
        refine W.seq ?_
        refine W.region rfl ?_
        refine WL.val (Yl.move (v := .slice A136 n138 c137) rfl) ?_
        refine WL.val (Yl.loadVA (g := g15) (off := 0) (o := 0) (cs := [.int .i64 a1.Worker, .slice A8 n10 c9]) (us := [.int .i64 a1.Worker, .slice A8 n10 c9]) ho74 Try.underlying37 rfl sz37 (Ctx.sub_of [p139] [] C145) rfl) ?_
        obtain ⟨A146, c147, n148, p149, w150, hn151, hy152, C153, hR154⟩ := ev_lit1' (P := Try.prog) 37 TCast.K C145 Try.underlying26 ti37 ⟨by decide, by decide⟩ a1 (.agg (List.toArray [.int .i64 a1.Worker, .slice A8 n10 c9])) (TCast.mk' _ a1 A8 c9 n10 hn11 hl12 hm13 hS14)
        refine WL.val (hy152 _ _ _ rfl) ?_
        obtain ⟨hc155, H⟩ := guardE H
        obtain ⟨A156, c157, n158, p159, w160, hn161, hy162, C163, hR164⟩ := ev_append' (P := Try.prog) (cb := c147) 37 TCast.K [p149] [CH.row g15 0 [.int .i64 a1.Worker, .slice A8 n10 c9]] C153 hR144 hn151 (Row.sl hR154) (Ctx.sub_of [] [p139, CH.row g15 0 [.int .i64 a1.Worker, .slice A8 n10 c9]] C153) Try.underlying26 ti37 rfl zo37 (by decide) (by decide) (by simpa using hc155)
        have C165 : Ctx _ _ _ _ F [p149, p159, CH.row g15 0 [.int .i64 a1.Worker, .slice A8 n10 c9]] := C163
        refine WL.val (hy162 _ _ _ _ rfl rfl) ?_
        refine WL.val (Yl.assign (v := .slice A156 n158 c157) rfl) ?_
        refine WL.val (Yl.assign (v := .int .i64 0) rfl) ?_
        refine WL.done ?_
        refine W.ret ?_
        have C166 : Ctx _ _ _ _ F [p159, CH.row g15 0 [.int .i64 a1.Worker, .slice A8 n10 c9]] := Ctx.drop [] [p159, CH.row g15 0 [.int .i64 a1.Worker, .slice A8 n10 c9]] C165
        have C167 : Ctx _ _ _ _ F [p159] := Ctx.drop [p159] [] C166
        simp only [Option.some.injEq, Prod.mk.injEq] at H
        obtain ⟨e168, e169⟩ := H
        subst e168 e169
        exact post_r (resE2 rfl rfl rfl) ⟨F, A156, c157, n158, p159, rfl, (CH.le_refl _), C167, hn161, hR164⟩
end Go.Proofs.Ytaajcpjhcckecaa
