/- Functions of the program: each as a plain function of numbers and lists, and the proof that the program's own comes to it. Nothing is assumed but what each theorem says. -/
import Derived.Test.YtcmoclekbifhbaaGt
namespace Go.Proofs.Ytcmoclekbifhbaa
open Go.RowKit Go.WG
set_option linter.unusedVariables false
set_option linter.unusedSimpArgs false

/-! ### jurat/crew.right: function 14 -/
def crew_right.l1 : Nat → List Int → Int → Option (Sum Unit Bool)
  | 0, _, _ => none
  | k + 1, a0, x55 => if x55 < (a0.length : Int) then (if 0 ≤ x55 ∧ x55 < (a0.length : Int) then (if (a0.getD x55.toNat 0) < 0 then (some (Sum.inr false)) else (crew_right.l1 k a0 (wi64 (x55 + 1)))) else none) else (some (Sum.inl ()))
def crew_right.f (k : Nat) (a0 : List Int) (a1 : List Bool) : Option Bool := (crew_right.l1 k a0 0).bind fun o_ => sumE o_ (fun _ => (if (a0.length : Int) = (a1.length : Int) then (some (decide ((a0.length : Int) ≤ 8))) else (some (false))).bind fun g79 => some g79) (fun p_ => some p_)
set_option maxRecDepth 100000 in
set_option maxHeartbeats 4000000 in
theorem crew_right.calls (k : Nat) (w : World) (F : CH) (A1 : Option Addr) (c2 : Nat) (n3 : Nat) (a0 : List Int) (A8 : Option Addr) (c9 : Nat) (n10 : Nat) (a1 : List Bool) (hp : Pre w F []) (hn4 : n3 = a0.length) (hl5 : a0.length ≤ c2) (hm6 : c2 ≤ maxLen) (hS7 : Sl (Kd.int .i64) F F A1 a0) (hn11 : n10 = a1.length) (hl12 : a1.length ≤ c9) (hm13 : c9 ≤ maxLen) (hS14 : Sl Kd.bool F F A8 a1) (r0_ : Bool) (H : crew_right.f k a0 a1 = some r0_) :
    Calls Try.prog 14 #[.slice A1 n3 c2, .slice A8 n10 c9] w fun e w' => e = .returned (.bool r0_) ∧ (∃ n_, w' = w.drewN n_) := by
  have C := Ctx.start hp
  generalize domL [] = D at C
  have W0 : ∃ n_, w = w.drewN n_ := ⟨0, rfl⟩
  unfold crew_right.f at H
  refine Calls.ofW Try.func14 rfl (by simp [Try.ntmps14]) ?_
  refine W.seq ?_
  refine W.region rfl ?_
  refine WL.val (Yl.assign (v := .bool false) rfl) ?_
  refine WL.done ?_
  refine W.seq ?_
  refine W.seq ?_
  refine W.region rfl ?_
  refine WL.val (Yl.move (v := .slice A1 n3 c2) rfl) ?_
  refine WL.val (Yl.lenN (A := A1) (l := n3) (q := c2) (n := (a0.length : Int)) rfl Try.underlying22 (by omega)) ?_
  refine WL.val (Yl.move (v := .int .i64 0) rfl) ?_
  refine WL.done ?_
  obtain ⟨o49, hX48, H⟩ := bindE H
  refine W.cutM (fun env_ w_ => env_ 0 = .slice A1 n3 c2 ∧ env_ 1 = .slice A8 n10 c9 ∧ Ctx w F D w_ F [] ∧ (∃ n_, w_ = w.drewN n_) ∧ o49 = Sum.inl ()) ?_ ?_
  · skip
    refine W.block ?_
    refine W.loop (fun g_ env_ w_ => ∃ (x55 : Int), env_ 0 = .slice A1 n3 c2 ∧ env_ 1 = .slice A8 n10 c9 ∧ env_ 7 = .slice A1 n3 c2 ∧ env_ 8 = .int .i64 (a0.length : Int) ∧ env_ 9 = .int .i64 x55 ∧ Ctx w F D w_ F [] ∧ (∃ n_, w_ = w.drewN n_) ∧ crew_right.l1 g_ a0 x55 = some o49) k ⟨0, rfl, rfl, rfl, rfl, rfl, C, W0, hX48⟩ ?_
    clear hX48
    rintro g_ env_ w_ ⟨x55, ho50, ho51, ho52, ho53, ho54, C56, Wq57, hX48⟩
    rcases g_ with _ | k68
    · exact absurd hX48 (by simp [crew_right.l1])
    rw [crew_right.l1] at hX48
    refine W.seq ?_
    refine W.region rfl ?_
    refine WL.val (Yl.lss (m := x55) (n := (a0.length : Int)) (q := decide (x55 < (a0.length : Int))) ho54 ho53 rfl) ?_
    refine WL.done ?_
    refine W.seq ?_
    rcases iteE hX48 with ⟨hc69, hX48⟩ | ⟨hc69, hX48⟩
    · skip
      refine W.condT (congrArg Value.bool (decide_eq_true hc69)) ?_
      refine W.skip ?_
      refine W.seq ?_
      refine W.block ?_
      refine W.seq ?_
      refine W.region rfl ?_
      obtain ⟨hc70, hX48⟩ := guardE hX48
      obtain ⟨b71, of72, hA73, he74⟩ := hS7 (by omega)
      refine WL.val (Yl.elemAddr (i := x55) ho52 ho54 hA73 Try.underlying22 sz3 (by omega)) ?_
      obtain ⟨cs75, hr76, hx77⟩ := he74 x55.toNat _ (getD_some (d := 0) (by omega))
      obtain rfl := hr76
      refine WL.val (Yl.load (v := .int .i64 (a0.getD x55.toNat 0)) rfl Try.underlying3 rfl (((C56.fro)).cell (hx77 0 _ rfl))) ?_
      refine WL.val (Yl.assign (v := .int .i64 (a0.getD x55.toNat 0)) rfl) ?_
      refine WL.done ?_
      refine W.seq ?_
      refine W.region rfl ?_
      refine WL.val (Yl.move (v := .int .i64 (a0.getD x55.toNat 0)) rfl) ?_
      refine WL.val (Yl.lss (m := a0.getD x55.toNat 0) (n := 0) (q := decide ((a0.getD x55.toNat 0) < 0)) rfl rfl rfl) ?_
      refine WL.done ?_
      rcases iteE hX48 with ⟨hc78, hX48⟩ | ⟨hc78, hX48⟩
      · skip
        refine W.condT (congrArg Value.bool (decide_eq_true hc78)) ?_
        refine W.seq ?_
        refine W.region rfl ?_
        refine WL.val (Yl.assign (v := .bool false) rfl) ?_
        refine WL.done ?_
        refine W.ret ?_
        refine inB_r ?_
        refine thenE_r ?_
        refine thenE_r ?_
        refine inB_r ?_
        refine thenE_r ?_
        refine thenE_r ?_
        cases hX48
        replace H := sumE_r H
        cases H
        exact post_r (resE1 rfl rfl) ⟨rfl, Wq57⟩
      · skip
        refine W.condF (congrArg Value.bool (decide_eq_false hc78)) ?_
        refine W.skip ?_
        refine inB_n ?_
        refine W.region rfl ?_
        refine WL.val (Yl.add (m := x55) (n := 1) (r := wi64 (x55 + 1)) ho54 rfl rfl) ?_
        refine WL.val (Yl.move (v := .int .i64 (wi64 (x55 + 1))) rfl) ?_
        refine WL.done ?_
        exact thenE_n ⟨k68, Nat.lt_succ_self _, wi64 (x55 + 1), ho50, ho51, ho52, ho53, rfl, C56, Wq57, hX48⟩
    · skip
      refine W.condF (congrArg Value.bool (decide_eq_false hc69)) ?_
      refine W.exit ?_
      refine thenE_x ?_
      refine thenE_x ?_
      refine inB_here ?_
      cases hX48
      refine thenE_n ?_
      exact ⟨ho50, ho51, C56, Wq57, rfl⟩
  · skip
    rintro env_ w_ ⟨ho44, ho45, C46, Wq47, rfl⟩
    replace H := sumE_l H
    refine W.seq ?_
    refine W.region rfl ?_
    refine WL.val (Yl.move (v := .slice A1 n3 c2) ho44) ?_
    refine WL.val (Yl.lenN (A := A1) (l := n3) (q := c2) (n := (a0.length : Int)) rfl Try.underlying22 (by omega)) ?_
    refine WL.val (Yl.move (v := .slice A8 n10 c9) ho45) ?_
    refine WL.val (Yl.lenN (A := A8) (l := n10) (q := c9) (n := (a1.length : Int)) rfl Try.underlying23 (by omega)) ?_
    refine WL.val (Yl.eql (m := (a0.length : Int)) (n := (a1.length : Int)) (q := decide ((a0.length : Int) = (a1.length : Int))) rfl rfl rfl) ?_
    refine WL.val (Yl.move (v := .bool (decide ((a0.length : Int) = (a1.length : Int)))) rfl) ?_
    obtain ⟨g79, HE80, H⟩ := bindE H
    refine WL.cut (fun env_ w_ => env_ 4 = .bool g79 ∧ Ctx w F D w_ F [] ∧ (∃ n_, w_ = w.drewN n_)) ?_ ?_
    · skip
      rcases iteE HE80 with ⟨hc81, HE80⟩ | ⟨hc81, HE80⟩
      · skip
        refine WL.on rfl (congrArg Value.bool (decide_eq_true hc81)) ?_
        refine WL.val (Yl.move (v := .slice A1 n3 c2) ho44) ?_
        refine WL.on rfl (congrArg Value.bool (decide_eq_true hc81)) ?_
        refine WL.val (Yl.lenN (A := A1) (l := n3) (q := c2) (n := (a0.length : Int)) rfl Try.underlying22 (by omega)) ?_
        refine WL.on rfl (congrArg Value.bool (decide_eq_true hc81)) ?_
        refine WL.val (Yl.leq (m := (a0.length : Int)) (n := 8) (q := decide ((a0.length : Int) ≤ 8)) rfl rfl rfl) ?_
        refine WL.val (Yl.pickT (v := .bool (decide ((a0.length : Int) ≤ 8))) (congrArg Value.bool (decide_eq_true hc81)) rfl) ?_
        refine WL.val (Yl.assign (v := .bool (decide ((a0.length : Int) ≤ 8))) rfl) ?_
        cases HE80
        exact WL.done ⟨rfl, C46, Wq47⟩
      · skip
        refine WL.off rfl (congrArg Value.bool (decide_eq_false hc81)) ?_
        refine WL.off rfl (congrArg Value.bool (decide_eq_false hc81)) ?_
        refine WL.off rfl (congrArg Value.bool (decide_eq_false hc81)) ?_
        refine WL.val (Yl.pickF (v := .bool false) (congrArg Value.bool (decide_eq_false hc81)) rfl) ?_
        refine WL.val (Yl.assign (v := .bool false) rfl) ?_
        cases HE80
        exact WL.done ⟨rfl, C46, Wq47⟩
    · skip
      rintro env_ w_ ⟨ho82, C83, Wq84⟩
      refine W.ret ?_
      cases H
      exact post_r (resE1 rfl ho82) ⟨rfl, Wq84⟩
/-! ### jurat/juratref18.Same: function 10 -/
def juratref18_Same.l1 : Nat → List Int → List Int → Int → Option (Sum Unit Bool)
  | 0, _, _, _ => none
  | k + 1, a0, a1, x72 => if x72 < (a0.length : Int) then (if 0 ≤ x72 ∧ x72 < (a0.length : Int) then (if 0 ≤ x72 ∧ x72 < (a1.length : Int) then (if (a0.getD x72.toNat 0) = (a1.getD x72.toNat 0) then (juratref18_Same.l1 k a0 a1 (wi64 (x72 + 1))) else (some (Sum.inr false))) else none) else none) else (some (Sum.inl ()))
def juratref18_Same.f (k : Nat) (a0 : List Int) (a1 : List Int) : Option Bool := if (a0.length : Int) = (a1.length : Int) then ((juratref18_Same.l1 k a0 a1 0).bind fun o_ => sumE o_ (fun _ => some true) (fun p_ => some p_)) else (some false)
set_option maxRecDepth 100000 in
set_option maxHeartbeats 4000000 in
theorem juratref18_Same.calls (k : Nat) (w : World) (F : CH) (A1 : Option Addr) (c2 : Nat) (n3 : Nat) (a0 : List Int) (A8 : Option Addr) (c9 : Nat) (n10 : Nat) (a1 : List Int) (hp : Pre w F []) (hn4 : n3 = a0.length) (hl5 : a0.length ≤ c2) (hm6 : c2 ≤ maxLen) (hS7 : Sl (Kd.int .i64) F F A1 a0) (hn11 : n10 = a1.length) (hl12 : a1.length ≤ c9) (hm13 : c9 ≤ maxLen) (hS14 : Sl (Kd.int .i64) F F A8 a1) (r0_ : Bool) (H : juratref18_Same.f k a0 a1 = some r0_) :
    Calls Try.prog 10 #[.slice A1 n3 c2, .slice A8 n10 c9] w fun e w' => e = .returned (.bool r0_) ∧ (∃ n_, w' = w.drewN n_) := by
  have C := Ctx.start hp
  generalize domL [] = D at C
  have W0 : ∃ n_, w = w.drewN n_ := ⟨0, rfl⟩
  unfold juratref18_Same.f at H
  refine Calls.ofW Try.func10 rfl (by simp [Try.ntmps10]) ?_
  refine W.seq ?_
  refine W.region rfl ?_
  refine WL.val (Yl.assign (v := .bool false) rfl) ?_
  refine WL.done ?_
  refine W.seq ?_
  refine W.seq ?_
  refine W.region rfl ?_
  refine WL.val (Yl.move (v := .slice A1 n3 c2) rfl) ?_
  refine WL.val (Yl.lenN (A := A1) (l := n3) (q := c2) (n := (a0.length : Int)) rfl Try.underlying22 (by omega)) ?_
  refine WL.val (Yl.move (v := .slice A8 n10 c9) rfl) ?_
  refine WL.val (Yl.lenN (A := A8) (l := n10) (q := c9) (n := (a1.length : Int)) rfl Try.underlying22 (by omega)) ?_
  refine WL.val (Yl.neq (m := (a0.length : Int)) (n := (a1.length : Int)) (q := !decide ((a0.length : Int) = (a1.length : Int))) rfl rfl rfl) ?_
  refine WL.done ?_
  rcases iteE H with ⟨hc15, H⟩ | ⟨hc15, H⟩
  · skip
    refine W.condF (congrArg Value.bool (ndec_t hc15)) ?_
    refine W.skip ?_
    refine W.seq ?_
    refine W.seq ?_
    refine W.region rfl ?_
    refine WL.val (Yl.assign (v := .int .i64 0) rfl) ?_
    refine WL.done ?_
    obtain ⟨o68, hX67, H⟩ := bindE H
    refine W.cutM (fun env_ w_ => Ctx w F D w_ F [] ∧ (∃ n_, w_ = w.drewN n_) ∧ o68 = Sum.inl ()) ?_ ?_
    · skip
      refine W.block ?_
      refine W.loop (fun g_ env_ w_ => ∃ (x72 : Int), env_ 0 = .slice A1 n3 c2 ∧ env_ 1 = .slice A8 n10 c9 ∧ env_ 5 = .int .i64 x72 ∧ Ctx w F D w_ F [] ∧ (∃ n_, w_ = w.drewN n_) ∧ juratref18_Same.l1 g_ a0 a1 x72 = some o68) k ⟨0, rfl, rfl, rfl, C, W0, hX67⟩ ?_
      clear hX67
      rintro g_ env_ w_ ⟨x72, ho69, ho70, ho71, C73, Wq74, hX67⟩
      rcases g_ with _ | k96
      · exact absurd hX67 (by simp [juratref18_Same.l1])
      rw [juratref18_Same.l1] at hX67
      refine W.seq ?_
      refine W.seq ?_
      refine W.region rfl ?_
      refine WL.val (Yl.move (v := .int .i64 x72) ho71) ?_
      refine WL.val (Yl.move (v := .slice A1 n3 c2) ho69) ?_
      refine WL.val (Yl.lenN (A := A1) (l := n3) (q := c2) (n := (a0.length : Int)) rfl Try.underlying22 (by omega)) ?_
      refine WL.val (Yl.lss (m := x72) (n := (a0.length : Int)) (q := decide (x72 < (a0.length : Int))) rfl rfl rfl) ?_
      refine WL.done ?_
      rcases iteE hX67 with ⟨hc97, hX67⟩ | ⟨hc97, hX67⟩
      · skip
        refine W.condT (congrArg Value.bool (decide_eq_true hc97)) ?_
        refine W.skip ?_
        refine W.seq ?_
        refine W.block ?_
        refine W.seq ?_
        refine W.region_quiet (by kernel_rfl) (by kernel_rfl) rfl ?_
        refine WQ.val (fun _ hw => by obtain ⟨_, rfl⟩ := hw; exact Yl.move (v := .slice A1 n3 c2) ho69) ?_
        refine WQ.val (fun _ hw => by obtain ⟨_, rfl⟩ := hw; exact Yl.move (v := .int .i64 x72) ho71) ?_
        obtain ⟨hc98, hX67⟩ := guardE hX67
        obtain ⟨b99, of100, hA101, he102⟩ := hS7 (by omega)
        refine WQ.val (fun _ hw => by obtain ⟨_, rfl⟩ := hw; exact Yl.elemAddr (i := x72) rfl rfl hA101 Try.underlying22 sz3 (by omega)) ?_
        obtain ⟨cs103, hr104, hx105⟩ := he102 x72.toNat _ (getD_some (d := 0) (by omega))
        obtain rfl := hr104
        refine WQ.val (fun _ hw => by obtain ⟨_, rfl⟩ := hw; exact Yl.load (v := .int .i64 (a0.getD x72.toNat 0)) rfl Try.underlying3 rfl (((C73.fro)).cell (hx105 0 _ rfl))) ?_
        refine WQ.val (fun _ hw => by obtain ⟨_, rfl⟩ := hw; exact Yl.move (v := .slice A8 n10 c9) ho70) ?_
        refine WQ.val (fun _ hw => by obtain ⟨_, rfl⟩ := hw; exact Yl.move (v := .int .i64 x72) ho71) ?_
        obtain ⟨hc106, hX67⟩ := guardE hX67
        obtain ⟨b107, of108, hA109, he110⟩ := hS14 (by omega)
        refine WQ.val (fun _ hw => by obtain ⟨_, rfl⟩ := hw; exact Yl.elemAddr (i := x72) rfl rfl hA109 Try.underlying22 sz3 (by omega)) ?_
        obtain ⟨cs111, hr112, hx113⟩ := he110 x72.toNat _ (getD_some (d := 0) (by omega))
        obtain rfl := hr112
        refine WQ.val (fun _ hw => by obtain ⟨_, rfl⟩ := hw; exact Yl.load (v := .int .i64 (a1.getD x72.toNat 0)) rfl Try.underlying3 rfl (((C73.fro)).cell (hx113 0 _ rfl))) ?_
        refine WQ.val (fun _ hw => by obtain ⟨_, rfl⟩ := hw; exact Yl.neq (m := a0.getD x72.toNat 0) (n := a1.getD x72.toNat 0) (q := !decide ((a0.getD x72.toNat 0) = (a1.getD x72.toNat 0))) rfl rfl rfl) ?_
        refine WQ.done (fun nq114 => ?_)
        have C115 := Ctx.drewN C73 nq114
        have Wq116 := drew_more Wq74 nq114
        rcases iteE hX67 with ⟨hc117, hX67⟩ | ⟨hc117, hX67⟩
        · skip
          refine W.condF (congrArg Value.bool (ndec_t hc117)) ?_
          refine W.skip ?_
          refine inB_n ?_
          refine W.region rfl ?_
          refine WL.val (Yl.move (v := .int .i64 x72) ho71) ?_
          refine WL.val (Yl.add (m := x72) (n := 1) (r := wi64 (x72 + 1)) rfl rfl rfl) ?_
          refine WL.val (Yl.assign (v := .int .i64 (wi64 (x72 + 1))) rfl) ?_
          refine WL.done ?_
          exact thenE_n ⟨k96, Nat.lt_succ_self _, wi64 (x72 + 1), ho69, ho70, rfl, C115, Wq116, hX67⟩
        · skip
          refine W.condT (congrArg Value.bool (ndec_f hc117)) ?_
          refine W.seq ?_
          refine W.region rfl ?_
          refine WL.val (Yl.assign (v := .bool false) rfl) ?_
          refine WL.done ?_
          refine W.ret ?_
          refine inB_r ?_
          refine thenE_r ?_
          refine thenE_r ?_
          refine inB_r ?_
          refine thenE_r ?_
          refine thenE_r ?_
          cases hX67
          replace H := sumE_r H
          cases H
          exact post_r (resE1 rfl rfl) ⟨rfl, Wq116⟩
      · skip
        refine W.condF (congrArg Value.bool (decide_eq_false hc97)) ?_
        refine W.exit ?_
        refine thenE_x ?_
        refine thenE_x ?_
        refine inB_here ?_
        cases hX67
        refine thenE_n ?_
        exact ⟨C73, Wq74, rfl⟩
    · skip
      rintro env_ w_ ⟨C65, Wq66, rfl⟩
      replace H := sumE_l H
      refine W.seq ?_
      refine W.region rfl ?_
      refine WL.val (Yl.assign (v := .bool true) rfl) ?_
      refine WL.done ?_
      refine W.ret ?_
      cases H
      exact post_r (resE1 rfl rfl) ⟨rfl, Wq66⟩
  · skip
    refine W.condT (congrArg Value.bool (ndec_f hc15)) ?_
    refine W.seq ?_
    refine W.region rfl ?_
    refine WL.val (Yl.assign (v := .bool false) rfl) ?_
    refine WL.done ?_
    refine W.ret ?_
    refine thenE_r ?_
    cases H
    exact post_r (resE1 rfl rfl) ⟨rfl, W0⟩
/-! ### jurat/juratref18.Right: function 13 -/
def juratref18_Right.l1 : Nat → List Int → Int → Option (Sum Unit Bool)
  | 0, _, _ => none
  | k + 1, a0, x55 => if x55 < (a0.length : Int) then (if 0 ≤ x55 ∧ x55 < (a0.length : Int) then (if (a0.getD x55.toNat 0) < 0 then (some (Sum.inr false)) else (juratref18_Right.l1 k a0 (wi64 (x55 + 1)))) else none) else (some (Sum.inl ()))
def juratref18_Right.f (k : Nat) (a0 : List Int) (a1 : List Bool) : Option Bool := (if (a0.length : Int) = (a1.length : Int) then (some (decide ((a0.length : Int) > 8))) else (some (true))).bind fun g15 => if g15 = true then (some false) else ((juratref18_Right.l1 k a0 0).bind fun o_ => sumE o_ (fun _ => some true) (fun p_ => some p_))
set_option maxRecDepth 100000 in
set_option maxHeartbeats 4000000 in
theorem juratref18_Right.calls (k : Nat) (w : World) (F : CH) (A1 : Option Addr) (c2 : Nat) (n3 : Nat) (a0 : List Int) (A8 : Option Addr) (c9 : Nat) (n10 : Nat) (a1 : List Bool) (hp : Pre w F []) (hn4 : n3 = a0.length) (hl5 : a0.length ≤ c2) (hm6 : c2 ≤ maxLen) (hS7 : Sl (Kd.int .i64) F F A1 a0) (hn11 : n10 = a1.length) (hl12 : a1.length ≤ c9) (hm13 : c9 ≤ maxLen) (hS14 : Sl Kd.bool F F A8 a1) (r0_ : Bool) (H : juratref18_Right.f k a0 a1 = some r0_) :
    Calls Try.prog 13 #[.slice A1 n3 c2, .slice A8 n10 c9] w fun e w' => e = .returned (.bool r0_) ∧ (∃ n_, w' = w.drewN n_) := by
  have C := Ctx.start hp
  generalize domL [] = D at C
  have W0 : ∃ n_, w = w.drewN n_ := ⟨0, rfl⟩
  unfold juratref18_Right.f at H
  refine Calls.ofW Try.func13 rfl (by simp [Try.ntmps13]) ?_
  refine W.seq ?_
  refine W.region rfl ?_
  refine WL.val (Yl.assign (v := .bool false) rfl) ?_
  refine WL.done ?_
  refine W.seq ?_
  refine W.seq ?_
  refine W.region rfl ?_
  refine WL.val (Yl.move (v := .slice A1 n3 c2) rfl) ?_
  refine WL.val (Yl.lenN (A := A1) (l := n3) (q := c2) (n := (a0.length : Int)) rfl Try.underlying22 (by omega)) ?_
  refine WL.val (Yl.move (v := .slice A8 n10 c9) rfl) ?_
  refine WL.val (Yl.lenN (A := A8) (l := n10) (q := c9) (n := (a1.length : Int)) rfl Try.underlying23 (by omega)) ?_
  refine WL.val (Yl.neq (m := (a0.length : Int)) (n := (a1.length : Int)) (q := !decide ((a0.length : Int) = (a1.length : Int))) rfl rfl rfl) ?_
  refine WL.val (Yl.move (v := .bool (!decide ((a0.length : Int) = (a1.length : Int)))) rfl) ?_
  obtain ⟨g15, HE16, H⟩ := bindE H
  refine WL.cut (fun env_ w_ => env_ 15 = .bool g15 ∧ env_ 0 = .slice A1 n3 c2 ∧ Ctx w F D w_ F [] ∧ (∃ n_, w_ = w.drewN n_)) ?_ ?_
  · skip
    rcases iteE HE16 with ⟨hc17, HE16⟩ | ⟨hc17, HE16⟩
    · skip
      refine WL.on rfl (congrArg Value.bool (ndec_t hc17)) ?_
      refine WL.val (Yl.move (v := .slice A1 n3 c2) rfl) ?_
      refine WL.on rfl (congrArg Value.bool (ndec_t hc17)) ?_
      refine WL.val (Yl.lenN (A := A1) (l := n3) (q := c2) (n := (a0.length : Int)) rfl Try.underlying22 (by omega)) ?_
      refine WL.on rfl (congrArg Value.bool (ndec_t hc17)) ?_
      refine WL.val (Yl.gtr (m := (a0.length : Int)) (n := 8) (q := decide ((a0.length : Int) > 8)) rfl rfl rfl) ?_
      refine WL.val (Yl.pickF (v := .bool (decide ((a0.length : Int) > 8))) (congrArg Value.bool (ndec_t hc17)) rfl) ?_
      cases HE16
      exact WL.done ⟨rfl, rfl, C, W0⟩
    · skip
      refine WL.off rfl (congrArg Value.bool (ndec_f hc17)) ?_
      refine WL.off rfl (congrArg Value.bool (ndec_f hc17)) ?_
      refine WL.off rfl (congrArg Value.bool (ndec_f hc17)) ?_
      refine WL.val (Yl.pickT (v := .bool true) (congrArg Value.bool (ndec_f hc17)) rfl) ?_
      cases HE16
      exact WL.done ⟨rfl, rfl, C, W0⟩
  · skip
    rintro env_ w_ ⟨ho18, ho19, C20, Wq21⟩
    rcases iteE H with ⟨hc22, H⟩ | ⟨hc22, H⟩
    · skip
      refine W.condT (ho18.trans (congrArg Value.bool hc22)) ?_
      refine W.seq ?_
      refine W.region rfl ?_
      refine WL.val (Yl.assign (v := .bool false) rfl) ?_
      refine WL.done ?_
      refine W.ret ?_
      refine thenE_r ?_
      cases H
      exact post_r (resE1 rfl rfl) ⟨rfl, Wq21⟩
    · skip
      refine W.condF (ho18.trans (congrArg Value.bool (Bool.eq_false_iff.2 hc22))) ?_
      refine W.skip ?_
      refine W.seq ?_
      refine W.seq ?_
      refine W.region rfl ?_
      refine WL.val (Yl.assign (v := .int .i64 0) rfl) ?_
      refine WL.done ?_
      obtain ⟨o52, hX51, H⟩ := bindE H
      refine W.cutM (fun env_ w_ => Ctx w F D w_ F [] ∧ (∃ n_, w_ = w.drewN n_) ∧ o52 = Sum.inl ()) ?_ ?_
      · skip
        refine W.block ?_
        refine W.loop (fun g_ env_ w_ => ∃ (x55 : Int), env_ 0 = .slice A1 n3 c2 ∧ env_ 5 = .int .i64 x55 ∧ Ctx w F D w_ F [] ∧ (∃ n_, w_ = w.drewN n_) ∧ juratref18_Right.l1 g_ a0 x55 = some o52) k ⟨0, ho19, rfl, C20, Wq21, hX51⟩ ?_
        clear hX51
        rintro g_ env_ w_ ⟨x55, ho53, ho54, C56, Wq57, hX51⟩
        rcases g_ with _ | k68
        · exact absurd hX51 (by simp [juratref18_Right.l1])
        rw [juratref18_Right.l1] at hX51
        refine W.seq ?_
        refine W.seq ?_
        refine W.region rfl ?_
        refine WL.val (Yl.move (v := .int .i64 x55) ho54) ?_
        refine WL.val (Yl.move (v := .slice A1 n3 c2) ho53) ?_
        refine WL.val (Yl.lenN (A := A1) (l := n3) (q := c2) (n := (a0.length : Int)) rfl Try.underlying22 (by omega)) ?_
        refine WL.val (Yl.lss (m := x55) (n := (a0.length : Int)) (q := decide (x55 < (a0.length : Int))) rfl rfl rfl) ?_
        refine WL.done ?_
        rcases iteE hX51 with ⟨hc69, hX51⟩ | ⟨hc69, hX51⟩
        · skip
          refine W.condT (congrArg Value.bool (decide_eq_true hc69)) ?_
          refine W.skip ?_
          refine W.seq ?_
          refine W.block ?_
          refine W.seq ?_
          refine W.region rfl ?_
          refine WL.val (Yl.move (v := .slice A1 n3 c2) ho53) ?_
          refine WL.val (Yl.move (v := .int .i64 x55) ho54) ?_
          obtain ⟨hc70, hX51⟩ := guardE hX51
          obtain ⟨b71, of72, hA73, he74⟩ := hS7 (by omega)
          refine WL.val (Yl.elemAddr (i := x55) rfl rfl hA73 Try.underlying22 sz3 (by omega)) ?_
          obtain ⟨cs75, hr76, hx77⟩ := he74 x55.toNat _ (getD_some (d := 0) (by omega))
          obtain rfl := hr76
          refine WL.val (Yl.load (v := .int .i64 (a0.getD x55.toNat 0)) rfl Try.underlying3 rfl (((C56.fro)).cell (hx77 0 _ rfl))) ?_
          refine WL.val (Yl.lss (m := a0.getD x55.toNat 0) (n := 0) (q := decide ((a0.getD x55.toNat 0) < 0)) rfl rfl rfl) ?_
          refine WL.done ?_
          rcases iteE hX51 with ⟨hc78, hX51⟩ | ⟨hc78, hX51⟩
          · skip
            refine W.condT (congrArg Value.bool (decide_eq_true hc78)) ?_
            refine W.seq ?_
            refine W.region rfl ?_
            refine WL.val (Yl.assign (v := .bool false) rfl) ?_
            refine WL.done ?_
            refine W.ret ?_
            refine inB_r ?_
            refine thenE_r ?_
            refine thenE_r ?_
            refine inB_r ?_
            refine thenE_r ?_
            refine thenE_r ?_
            cases hX51
            replace H := sumE_r H
            cases H
            exact post_r (resE1 rfl rfl) ⟨rfl, Wq57⟩
          · skip
            refine W.condF (congrArg Value.bool (decide_eq_false hc78)) ?_
            refine W.skip ?_
            refine inB_n ?_
            refine W.region rfl ?_
            refine WL.val (Yl.move (v := .int .i64 x55) ho54) ?_
            refine WL.val (Yl.add (m := x55) (n := 1) (r := wi64 (x55 + 1)) rfl rfl rfl) ?_
            refine WL.val (Yl.assign (v := .int .i64 (wi64 (x55 + 1))) rfl) ?_
            refine WL.done ?_
            exact thenE_n ⟨k68, Nat.lt_succ_self _, wi64 (x55 + 1), ho53, rfl, C56, Wq57, hX51⟩
        · skip
          refine W.condF (congrArg Value.bool (decide_eq_false hc69)) ?_
          refine W.exit ?_
          refine thenE_x ?_
          refine thenE_x ?_
          refine inB_here ?_
          cases hX51
          refine thenE_n ?_
          exact ⟨C56, Wq57, rfl⟩
      · skip
        rintro env_ w_ ⟨C49, Wq50, rfl⟩
        replace H := sumE_l H
        refine W.seq ?_
        refine W.region rfl ?_
        refine WL.val (Yl.assign (v := .bool true) rfl) ?_
        refine WL.done ?_
        refine W.ret ?_
        cases H
        exact post_r (resE1 rfl rfl) ⟨rfl, Wq50⟩
/-! ### jurat/juratref18.Left: function 12 -/
def juratref18_Left.l1 : Nat → List Int → List Bool → Int → Int → Int → Option Int
  | 0, _, _, _, _, _ => none
  | k + 1, a0, a1, a2, x124, x126 => (if x126 < (a0.length : Int) then ((juratref18_Right.f k a0 a1).bind fun r179 => some (r179)) else (some (false))).bind fun g175 => if g175 = true then (if 0 ≤ x126 ∧ x126 < (a1.length : Int) then ((if (a1.getD x126.toNat false) = true then (some (false)) else (if 0 ≤ x126 ∧ x126 < (a0.length : Int) then (some (decide ((a0.getD x126.toNat 0) < a2))) else none)).bind fun g200 => if g200 = true then (juratref18_Left.l1 k a0 a1 a2 (wi64 (x124 + 1)) (wi64 (x126 + 1))) else (juratref18_Left.l1 k a0 a1 a2 x124 (wi64 (x126 + 1)))) else none) else (some x124)
def juratref18_Left.f (k : Nat) (a0 : List Int) (a1 : List Bool) (a2 : Int) : Option Int := (juratref18_Left.l1 k a0 a1 a2 0 0).bind fun x116 => some x116
set_option maxRecDepth 100000 in
set_option maxHeartbeats 4000000 in
theorem juratref18_Left.calls (k : Nat) (w : World) (F : CH) (A1 : Option Addr) (c2 : Nat) (n3 : Nat) (a0 : List Int) (A8 : Option Addr) (c9 : Nat) (n10 : Nat) (a1 : List Bool) (a2 : Int) (hp : Pre w F []) (hn4 : n3 = a0.length) (hl5 : a0.length ≤ c2) (hm6 : c2 ≤ maxLen) (hS7 : Sl (Kd.int .i64) F F A1 a0) (hn11 : n10 = a1.length) (hl12 : a1.length ≤ c9) (hm13 : c9 ≤ maxLen) (hS14 : Sl Kd.bool F F A8 a1) (r0_ : Int) (H : juratref18_Left.f k a0 a1 a2 = some r0_) :
    Calls Try.prog 12 #[.slice A1 n3 c2, .slice A8 n10 c9, .int .i64 a2] w fun e w' => e = .returned (.int .i64 r0_) ∧ (∃ n_, w' = w.drewN n_) := by
  have C := Ctx.start hp
  generalize domL [] = D at C
  have W0 : ∃ n_, w = w.drewN n_ := ⟨0, rfl⟩
  unfold juratref18_Left.f at H
  refine Calls.ofW Try.func12 rfl (by simp [Try.ntmps12]) ?_
  refine W.seq ?_
  refine W.region rfl ?_
  refine WL.val (Yl.assign (v := .int .i64 0) rfl) ?_
  refine WL.done ?_
  refine W.seq ?_
  refine W.region rfl ?_
  refine WL.val (Yl.assign (v := .int .i64 0) rfl) ?_
  refine WL.done ?_
  refine W.seq ?_
  refine W.seq ?_
  refine W.region rfl ?_
  refine WL.val (Yl.assign (v := .int .i64 0) rfl) ?_
  refine WL.done ?_
  obtain ⟨x116, hX119, H⟩ := bindE H
  refine W.cutM (fun env_ w_ => env_ 7 = .int .i64 x116 ∧ Ctx w F D w_ F [] ∧ (∃ n_, w_ = w.drewN n_)) ?_ ?_
  · skip
    refine W.block ?_
    refine W.loop (fun g_ env_ w_ => ∃ (x124 : Int) (x126 : Int), env_ 0 = .slice A1 n3 c2 ∧ env_ 1 = .slice A8 n10 c9 ∧ env_ 2 = .int .i64 a2 ∧ env_ 7 = .int .i64 x124 ∧ env_ 8 = .int .i64 x126 ∧ Ctx w F D w_ F [] ∧ (∃ n_, w_ = w.drewN n_) ∧ juratref18_Left.l1 g_ a0 a1 a2 x124 x126 = some x116) k ⟨0, 0, rfl, rfl, rfl, rfl, rfl, C, W0, hX119⟩ ?_
    clear hX119
    rintro g_ env_ w_ ⟨x124, x126, ho120, ho121, ho122, ho123, ho125, C127, Wq128, hX119⟩
    rcases g_ with _ | k174
    · exact absurd hX119 (by simp [juratref18_Left.l1])
    rw [juratref18_Left.l1] at hX119
    refine W.seq ?_
    refine W.seq ?_
    refine W.region rfl ?_
    refine WL.val (Yl.move (v := .int .i64 x126) ho125) ?_
    refine WL.val (Yl.move (v := .slice A1 n3 c2) ho120) ?_
    refine WL.val (Yl.lenN (A := A1) (l := n3) (q := c2) (n := (a0.length : Int)) rfl Try.underlying22 (by omega)) ?_
    refine WL.val (Yl.lss (m := x126) (n := (a0.length : Int)) (q := decide (x126 < (a0.length : Int))) rfl rfl rfl) ?_
    refine WL.val (Yl.move (v := .bool (decide (x126 < (a0.length : Int)))) rfl) ?_
    obtain ⟨g175, HE176, hX119⟩ := bindE hX119
    refine WL.cut (fun env_ w_ => env_ 17 = .bool g175 ∧ env_ 0 = .slice A1 n3 c2 ∧ env_ 1 = .slice A8 n10 c9 ∧ env_ 2 = .int .i64 a2 ∧ env_ 7 = .int .i64 x124 ∧ env_ 8 = .int .i64 x126 ∧ Ctx w F D w_ F [] ∧ (∃ n_, w_ = w.drewN n_)) ?_ ?_
    · skip
      rcases iteE HE176 with ⟨hc177, HE176⟩ | ⟨hc177, HE176⟩
      · skip
        refine WL.on rfl (congrArg Value.bool (decide_eq_true hc177)) ?_
        refine WL.val (Yl.move (v := .slice A1 n3 c2) ho120) ?_
        refine WL.on rfl (congrArg Value.bool (decide_eq_true hc177)) ?_
        refine WL.val (Yl.move (v := .slice A8 n10 c9) ho121) ?_
        refine WL.on rfl (congrArg Value.bool (decide_eq_true hc177)) ?_
        obtain ⟨r179, hg178, HE176⟩ := bindE HE176
        refine WL.call (args := #[.slice A1 n3 c2, .slice A8 n10 c9]) (Yenter.fn Try.func13 (by kernel_rfl) rfl (argsE (.cons rfl (.cons rfl .nil)))) (juratref18_Right.calls k174 _ F A1 c2 n3 a0 A8 c9 n10 a1 C127.pre0 hn4 hl5 hm6 hS7 hn11 hl12 hm13 hS14 r179 hg178) ?_
        rintro e_ w_ ⟨rfl, ⟨m180, rfl⟩⟩
        refine ⟨_, rfl, ?_⟩
        have C181 := Ctx.drewN C127 m180
        have Wq182 := drew_more Wq128 m180
        refine WL.val (Yl.pickT (v := .bool r179) (congrArg Value.bool (decide_eq_true hc177)) rfl) ?_
        cases HE176
        exact WL.done ⟨rfl, ho120, ho121, ho122, ho123, ho125, C181, Wq182⟩
      · skip
        refine WL.off rfl (congrArg Value.bool (decide_eq_false hc177)) ?_
        refine WL.off rfl (congrArg Value.bool (decide_eq_false hc177)) ?_
        refine WL.off rfl (congrArg Value.bool (decide_eq_false hc177)) ?_
        refine WL.val (Yl.pickF (v := .bool false) (congrArg Value.bool (decide_eq_false hc177)) rfl) ?_
        cases HE176
        exact WL.done ⟨rfl, ho120, ho121, ho122, ho123, ho125, C127, Wq128⟩
    · skip
      rintro env_ w_ ⟨ho183, ho184, ho185, ho186, ho187, ho188, C189, Wq190⟩
      rcases iteE hX119 with ⟨hc191, hX119⟩ | ⟨hc191, hX119⟩
      · skip
        refine W.condT (ho183.trans (congrArg Value.bool hc191)) ?_
        refine W.skip ?_
        refine W.seq ?_
        refine W.block ?_
        refine W.seq ?_
        refine W.region rfl ?_
        refine WL.val (Yl.move (v := .slice A8 n10 c9) ho185) ?_
        refine WL.val (Yl.move (v := .int .i64 x126) ho188) ?_
        obtain ⟨hc192, hX119⟩ := guardE hX119
        obtain ⟨b193, of194, hA195, he196⟩ := hS14 (by omega)
        refine WL.val (Yl.elemAddr (i := x126) rfl rfl hA195 Try.underlying23 sz4 (by omega)) ?_
        obtain ⟨cs197, hr198, hx199⟩ := he196 x126.toNat _ (getD_some (d := false) (by omega))
        obtain rfl := hr198
        refine WL.val (Yl.load (v := .bool (a1.getD x126.toNat false)) rfl Try.underlying4 rfl (((C189.fro)).cell (hx199 0 _ rfl))) ?_
        refine WL.val (Yl.not (p := a1.getD x126.toNat false) (q := !(a1.getD x126.toNat false)) rfl rfl) ?_
        refine WL.val (Yl.move (v := .bool (!(a1.getD x126.toNat false))) rfl) ?_
        obtain ⟨g200, HE201, hX119⟩ := bindE hX119
        refine WL.cut (fun env_ w_ => env_ 32 = .bool g200 ∧ env_ 0 = .slice A1 n3 c2 ∧ env_ 1 = .slice A8 n10 c9 ∧ env_ 2 = .int .i64 a2 ∧ env_ 7 = .int .i64 x124 ∧ env_ 8 = .int .i64 x126 ∧ Ctx w F D w_ F [] ∧ (∃ n_, w_ = w.drewN n_)) ?_ ?_
        · skip
          rcases iteE HE201 with ⟨hc202, HE201⟩ | ⟨hc202, HE201⟩
          · skip
            refine WL.off rfl (congrArg Value.bool (nb_t hc202)) ?_
            refine WL.off rfl (congrArg Value.bool (nb_t hc202)) ?_
            refine WL.off rfl (congrArg Value.bool (nb_t hc202)) ?_
            refine WL.off rfl (congrArg Value.bool (nb_t hc202)) ?_
            refine WL.off rfl (congrArg Value.bool (nb_t hc202)) ?_
            refine WL.off rfl (congrArg Value.bool (nb_t hc202)) ?_
            refine WL.val (Yl.pickF (v := .bool false) (congrArg Value.bool (nb_t hc202)) rfl) ?_
            cases HE201
            exact WL.done ⟨rfl, ho184, ho185, ho186, ho187, ho188, C189, Wq190⟩
          · skip
            refine WL.on rfl (congrArg Value.bool (nb_f hc202)) ?_
            refine WL.val (Yl.move (v := .slice A1 n3 c2) ho184) ?_
            refine WL.on rfl (congrArg Value.bool (nb_f hc202)) ?_
            refine WL.val (Yl.move (v := .int .i64 x126) ho188) ?_
            refine WL.on rfl (congrArg Value.bool (nb_f hc202)) ?_
            obtain ⟨hc203, HE201⟩ := guardE HE201
            obtain ⟨b204, of205, hA206, he207⟩ := hS7 (by omega)
            refine WL.val (Yl.elemAddr (i := x126) rfl rfl hA206 Try.underlying22 sz3 (by omega)) ?_
            refine WL.on rfl (congrArg Value.bool (nb_f hc202)) ?_
            obtain ⟨cs208, hr209, hx210⟩ := he207 x126.toNat _ (getD_some (d := 0) (by omega))
            obtain rfl := hr209
            refine WL.val (Yl.load (v := .int .i64 (a0.getD x126.toNat 0)) rfl Try.underlying3 rfl (((C189.fro)).cell (hx210 0 _ rfl))) ?_
            refine WL.on rfl (congrArg Value.bool (nb_f hc202)) ?_
            refine WL.val (Yl.move (v := .int .i64 a2) ho186) ?_
            refine WL.on rfl (congrArg Value.bool (nb_f hc202)) ?_
            refine WL.val (Yl.lss (m := a0.getD x126.toNat 0) (n := a2) (q := decide ((a0.getD x126.toNat 0) < a2)) rfl rfl rfl) ?_
            refine WL.val (Yl.pickT (v := .bool (decide ((a0.getD x126.toNat 0) < a2))) (congrArg Value.bool (nb_f hc202)) rfl) ?_
            cases HE201
            exact WL.done ⟨rfl, ho184, ho185, ho186, ho187, ho188, C189, Wq190⟩
        · skip
          rintro env_ w_ ⟨ho211, ho212, ho213, ho214, ho215, ho216, C217, Wq218⟩
          rcases iteE hX119 with ⟨hc219, hX119⟩ | ⟨hc219, hX119⟩
          · skip
            refine W.condT (ho211.trans (congrArg Value.bool hc219)) ?_
            refine W.region rfl ?_
            refine WL.val (Yl.move (v := .int .i64 x124) ho215) ?_
            refine WL.val (Yl.add (m := x124) (n := 1) (r := wi64 (x124 + 1)) rfl rfl rfl) ?_
            refine WL.val (Yl.assign (v := .int .i64 (wi64 (x124 + 1))) rfl) ?_
            refine WL.done ?_
            refine inB_n ?_
            refine W.region rfl ?_
            refine WL.val (Yl.move (v := .int .i64 x126) ho216) ?_
            refine WL.val (Yl.add (m := x126) (n := 1) (r := wi64 (x126 + 1)) rfl rfl rfl) ?_
            refine WL.val (Yl.assign (v := .int .i64 (wi64 (x126 + 1))) rfl) ?_
            refine WL.done ?_
            exact thenE_n ⟨k174, Nat.lt_succ_self _, wi64 (x124 + 1), wi64 (x126 + 1), ho212, ho213, ho214, rfl, rfl, C217, Wq218, hX119⟩
          · skip
            refine W.condF (ho211.trans (congrArg Value.bool (Bool.eq_false_iff.2 hc219))) ?_
            refine W.skip ?_
            refine inB_n ?_
            refine W.region rfl ?_
            refine WL.val (Yl.move (v := .int .i64 x126) ho216) ?_
            refine WL.val (Yl.add (m := x126) (n := 1) (r := wi64 (x126 + 1)) rfl rfl rfl) ?_
            refine WL.val (Yl.assign (v := .int .i64 (wi64 (x126 + 1))) rfl) ?_
            refine WL.done ?_
            exact thenE_n ⟨k174, Nat.lt_succ_self _, x124, wi64 (x126 + 1), ho212, ho213, ho214, ho215, rfl, C217, Wq218, hX119⟩
      · skip
        refine W.condF (ho183.trans (congrArg Value.bool (Bool.eq_false_iff.2 hc191))) ?_
        refine W.exit ?_
        refine thenE_x ?_
        refine thenE_x ?_
        refine inB_here ?_
        cases hX119
        refine thenE_n ?_
        exact ⟨ho187, C189, Wq190⟩
  · skip
    rintro env_ w_ ⟨ho115, C117, Wq118⟩
    refine W.seq ?_
    refine W.region rfl ?_
    refine WL.val (Yl.move (v := .int .i64 x116) ho115) ?_
    refine WL.val (Yl.assign (v := .int .i64 x116) rfl) ?_
    refine WL.done ?_
    refine W.ret ?_
    cases H
    exact post_r (resE1 rfl rfl) ⟨rfl, Wq118⟩
/-! ### jurat/crew.able: function 15 -/
def crew_able.l1 : Nat → List Int → List Bool → Int → List Thand → Int → Int → Option ((List Thand) × Int)
  | 0, _, _, _, _, _, _ => none
  | k + 1, a0, a1, a2, x128, x136, x140 => if x140 < (a0.length : Int) then (if 0 ≤ x140 ∧ x140 < (a0.length : Int) then (if 0 ≤ x140 ∧ x140 < (a1.length : Int) then (if (a1.getD x140.toNat false) = true then (crew_able.l1 k a0 a1 a2 x128 x136 (wi64 (x140 + 1))) else (if (a0.getD x140.toNat 0) < a2 then (if (x128.length + 1) * 16 ≤ 140737488355328 then (crew_able.l1 k a0 a1 a2 (x128 ++ [(⟨a0.getD x140.toNat 0, x140⟩ : Thand)]) (wi64 (x136 + 1)) (wi64 (x140 + 1))) else none) else (crew_able.l1 k a0 a1 a2 x128 (wi64 (x136 + 1)) (wi64 (x140 + 1))))) else none) else none) else (some (x128, x136))
def crew_able.f (k : Nat) (a0 : List Int) (a1 : List Bool) (a2 : Int) : Option ((List Thand) × Int) := (crew_able.l1 k a0 a1 a2 ([] : List Thand) 0 0).bind fun ⟨x114, x122⟩ => some (x114, x122)
set_option maxRecDepth 100000 in
set_option maxHeartbeats 4000000 in
theorem crew_able.calls (k : Nat) (w : World) (F : CH) (A1 : Option Addr) (c2 : Nat) (n3 : Nat) (a0 : List Int) (A8 : Option Addr) (c9 : Nat) (n10 : Nat) (a1 : List Bool) (a2 : Int) (hp : Pre w F []) (hn4 : n3 = a0.length) (hl5 : a0.length ≤ c2) (hm6 : c2 ≤ maxLen) (hS7 : Sl (Kd.int .i64) F F A1 a0) (hn11 : n10 = a1.length) (hl12 : a1.length ≤ c9) (hm13 : c9 ≤ maxLen) (hS14 : Sl Kd.bool F F A8 a1) (r0_ : List Thand) (r1_ : Int) (H : crew_able.f k a0 a1 a2 = some (r0_, r1_)) :
    Calls Try.prog 15 #[.slice A1 n3 c2, .slice A8 n10 c9, .int .i64 a2] w fun e w' => ∃ (A223 : Option Addr) (c224 : Nat) (n225 : Nat) (p227 : CH), e = .returned (.tuple #[(.slice A223 n225 c224), (.int .i64 r1_)]) ∧ Ctx w F (domL []) w' F [p227] ∧ n225 = r0_.length ∧ Row Thand.K F p227 (.slice A223 n225 c224) r0_ := by
  have C := Ctx.start hp
  generalize hD : domL [] = D at C ⊢
  unfold crew_able.f at H
  refine Calls.ofW Try.func15 rfl (by simp [Try.ntmps15]) ?_
  refine W.seq ?_
  refine W.region rfl ?_
  refine WL.val (Yl.assign (v := .slice none 0 0) rfl) ?_
  refine WL.val (Yl.assign (v := .int .i64 0) rfl) ?_
  refine WL.done ?_
  refine W.seq ?_
  refine W.region rfl ?_
  refine WL.val (Yl.assign (v := .slice none 0 0) rfl) ?_
  refine WL.done ?_
  refine W.seq ?_
  refine W.region rfl ?_
  refine WL.val (Yl.assign (v := .int .i64 0) rfl) ?_
  refine WL.done ?_
  refine W.seq ?_
  refine W.seq ?_
  refine W.region rfl ?_
  refine WL.val (Yl.move (v := .slice A1 n3 c2) rfl) ?_
  refine WL.val (Yl.lenN (A := A1) (l := n3) (q := c2) (n := (a0.length : Int)) rfl Try.underlying22 (by omega)) ?_
  refine WL.val (Yl.move (v := .int .i64 0) rfl) ?_
  refine WL.done ?_
  obtain ⟨⟨x114, x122⟩, hX124, H⟩ := bindE H
  refine W.cutM (fun env_ w_ => ∃ (A115 : Option Addr) (c116 : Nat) (n117 : Nat) (p119 : CH), env_ 8 = .slice A115 n117 c116 ∧ env_ 9 = .int .i64 x122 ∧ Ctx w F D w_ F [p119] ∧ n117 = x114.length ∧ Row Thand.K F p119 (.slice A115 n117 c116) x114) ?_ ?_
  · skip
    refine W.block ?_
    have C182 : Ctx _ _ _ _ F [CH.emp] := Ctx.emp C
    refine W.loop (fun g_ env_ w_ => ∃ (x128 : List Thand) (x136 : Int) (x140 : Int) (A129 : Option Addr) (c130 : Nat) (n131 : Nat) (p133 : CH), env_ 1 = .slice A8 n10 c9 ∧ env_ 2 = .int .i64 a2 ∧ env_ 8 = .slice A129 n131 c130 ∧ env_ 9 = .int .i64 x136 ∧ env_ 12 = .slice A1 n3 c2 ∧ env_ 13 = .int .i64 (a0.length : Int) ∧ env_ 14 = .int .i64 x140 ∧ Ctx w F D w_ F [p133] ∧ n131 = x128.length ∧ Row Thand.K F p133 (.slice A129 n131 c130) x128 ∧ crew_able.l1 g_ a0 a1 a2 x128 x136 x140 = some (x114, x122)) k ⟨([] : List Thand), 0, 0, none, 0, 0, CH.emp, rfl, rfl, rfl, rfl, rfl, rfl, rfl, C182, rfl, (Row.nil _ _), hX124⟩ ?_
    clear hX124
    rintro g_ env_ w_ ⟨x128, x136, x140, A129, c130, n131, p133, ho125, ho126, ho127, ho135, ho137, ho138, ho139, C141, hn132, hR134, hX124⟩
    rcases g_ with _ | k181
    · exact absurd hX124 (by simp [crew_able.l1])
    rw [crew_able.l1] at hX124
    refine W.seq ?_
    refine W.region rfl ?_
    refine WL.val (Yl.lss (m := x140) (n := (a0.length : Int)) (q := decide (x140 < (a0.length : Int))) ho139 ho138 rfl) ?_
    refine WL.done ?_
    refine W.seq ?_
    rcases iteE hX124 with ⟨hc183, hX124⟩ | ⟨hc183, hX124⟩
    · skip
      refine W.condT (congrArg Value.bool (decide_eq_true hc183)) ?_
      refine W.skip ?_
      refine W.seq ?_
      refine W.block ?_
      refine W.seq ?_
      refine W.region rfl ?_
      refine WL.val (Yl.move (v := .int .i64 x140) ho139) ?_
      obtain ⟨hc184, hX124⟩ := guardE hX124
      obtain ⟨b185, of186, hA187, he188⟩ := hS7 (by omega)
      refine WL.val (Yl.elemAddr (i := x140) ho137 ho139 hA187 Try.underlying22 sz3 (by omega)) ?_
      obtain ⟨cs189, hr190, hx191⟩ := he188 x140.toNat _ (getD_some (d := 0) (by omega))
      obtain rfl := hr190
      refine WL.val (Yl.load (v := .int .i64 (a0.getD x140.toNat 0)) rfl Try.underlying3 rfl (((C141.fro)).cell (hx191 0 _ rfl))) ?_
      refine WL.val (Yl.assign (v := .int .i64 x140) rfl) ?_
      refine WL.val (Yl.assign (v := .int .i64 (a0.getD x140.toNat 0)) rfl) ?_
      refine WL.done ?_
      refine W.seq ?_
      refine W.seq ?_
      refine W.region rfl ?_
      refine WL.val (Yl.move (v := .slice A8 n10 c9) ho125) ?_
      refine WL.val (Yl.move (v := .int .i64 x140) rfl) ?_
      obtain ⟨hc192, hX124⟩ := guardE hX124
      obtain ⟨b193, of194, hA195, he196⟩ := hS14 (by omega)
      refine WL.val (Yl.elemAddr (i := x140) rfl rfl hA195 Try.underlying23 sz4 (by omega)) ?_
      obtain ⟨cs197, hr198, hx199⟩ := he196 x140.toNat _ (getD_some (d := false) (by omega))
      obtain rfl := hr198
      refine WL.val (Yl.load (v := .bool (a1.getD x140.toNat false)) rfl Try.underlying4 rfl (((C141.fro)).cell (hx199 0 _ rfl))) ?_
      refine WL.done ?_
      rcases iteE hX124 with ⟨hc200, hX124⟩ | ⟨hc200, hX124⟩
      · skip
        refine W.condT (congrArg Value.bool hc200) ?_
        refine W.exit ?_
        refine thenE_x ?_
        refine inB_here ?_
        refine W.region rfl ?_
        refine WL.val (Yl.add (m := x140) (n := 1) (r := wi64 (x140 + 1)) ho139 rfl rfl) ?_
        refine WL.val (Yl.move (v := .int .i64 (wi64 (x140 + 1))) rfl) ?_
        refine WL.done ?_
        exact thenE_n ⟨k181, Nat.lt_succ_self _, x128, x136, wi64 (x140 + 1), A129, c130, n131, p133, ho125, ho126, ho127, ho135, ho137, ho138, rfl, C141, hn132, hR134, hX124⟩
      · skip
        refine W.condF (congrArg Value.bool (Bool.eq_false_iff.2 hc200)) ?_
        refine W.skip ?_
        refine W.seq ?_
        refine W.region rfl ?_
        refine WL.val (Yl.move (v := .int .i64 x136) ho135) ?_
        refine WL.val (Yl.add (m := x136) (n := 1) (r := wi64 (x136 + 1)) rfl rfl rfl) ?_
        refine WL.val (Yl.assign (v := .int .i64 (wi64 (x136 + 1))) rfl) ?_
        refine WL.done ?_
        refine W.seq ?_
        refine W.region rfl ?_
        refine WL.val (Yl.move (v := .int .i64 (a0.getD x140.toNat 0)) rfl) ?_
        refine WL.val (Yl.move (v := .int .i64 a2) ho126) ?_
        refine WL.val (Yl.lss (m := a0.getD x140.toNat 0) (n := a2) (q := decide ((a0.getD x140.toNat 0) < a2)) rfl rfl rfl) ?_
        refine WL.done ?_
        rcases iteE hX124 with ⟨hc201, hX124⟩ | ⟨hc201, hX124⟩
        · skip
          refine W.condT (congrArg Value.bool (decide_eq_true hc201)) ?_
          refine W.region rfl ?_
          refine WL.val (Yl.move (v := .slice A129 n131 c130) ho127) ?_
          refine WL.val (Yl.move (v := .int .i64 (a0.getD x140.toNat 0)) rfl) ?_
          refine WL.val (Yl.move (v := .int .i64 x140) rfl) ?_
          refine WL.val (Yl.build (places := [(0, 1), (1, 1)]) (cs := List.toArray [.int .i64 (a0.getD x140.toNat 0), .int .i64 x140]) Try.underlying42 zr42 (pl42 _ Try.underlying42) (partsB (.cons rfl (.cons rfl .nil))) rfl) ?_
          obtain ⟨A202, c203, n204, p205, w206, hn207, hy208, C209, hR210⟩ := ev_lit1' (P := Try.prog) 42 Thand.K C141 Try.underlying36 ti42 ⟨by decide, by decide⟩ (⟨a0.getD x140.toNat 0, x140⟩ : Thand) (.agg (List.toArray [.int .i64 (a0.getD x140.toNat 0), .int .i64 x140])) (Thand.mk' _ (⟨a0.getD x140.toNat 0, x140⟩ : Thand)  )
          refine WL.val (hy208 _ _ _ rfl) ?_
          obtain ⟨hc211, hX124⟩ := guardE hX124
          obtain ⟨A212, c213, n214, p215, w216, hn217, hy218, C219, hR220⟩ := ev_append' (P := Try.prog) (cb := c203) 42 Thand.K [p205] [] C209 hR134 hn207 (Row.sl hR210) (Ctx.sub_of [] [p133] C209) Try.underlying36 ti42 rfl zo42 (by decide) (by decide) (by simpa using hc211)
          have C221 : Ctx _ _ _ _ F [p205, p215] := C219
          refine WL.val (hy218 _ _ _ _ rfl rfl) ?_
          refine WL.val (Yl.assign (v := .slice A212 n214 c213) rfl) ?_
          refine WL.done ?_
          refine inB_n ?_
          refine W.region rfl ?_
          refine WL.val (Yl.add (m := x140) (n := 1) (r := wi64 (x140 + 1)) ho139 rfl rfl) ?_
          refine WL.val (Yl.move (v := .int .i64 (wi64 (x140 + 1))) rfl) ?_
          refine WL.done ?_
          have C222 : Ctx _ _ _ _ F [p215] := Ctx.drop [] [p215] C221
          exact thenE_n ⟨k181, Nat.lt_succ_self _, x128 ++ [(⟨a0.getD x140.toNat 0, x140⟩ : Thand)], wi64 (x136 + 1), wi64 (x140 + 1), A212, c213, n214, p215, ho125, ho126, rfl, rfl, ho137, ho138, rfl, C222, hn217, hR220, hX124⟩
        · skip
          refine W.condF (congrArg Value.bool (decide_eq_false hc201)) ?_
          refine W.skip ?_
          refine inB_n ?_
          refine W.region rfl ?_
          refine WL.val (Yl.add (m := x140) (n := 1) (r := wi64 (x140 + 1)) ho139 rfl rfl) ?_
          refine WL.val (Yl.move (v := .int .i64 (wi64 (x140 + 1))) rfl) ?_
          refine WL.done ?_
          exact thenE_n ⟨k181, Nat.lt_succ_self _, x128, wi64 (x136 + 1), wi64 (x140 + 1), A129, c130, n131, p133, ho125, ho126, ho127, rfl, ho137, ho138, rfl, C141, hn132, hR134, hX124⟩
    · skip
      refine W.condF (congrArg Value.bool (decide_eq_false hc183)) ?_
      refine W.exit ?_
      refine thenE_x ?_
      refine thenE_x ?_
      refine inB_here ?_
      cases hX124
      refine thenE_n ?_
      exact ⟨A129, c130, n131, p133, ho127, ho135, C141, hn132, hR134⟩
  · skip
    rintro env_ w_ ⟨A115, c116, n117, p119, ho113, ho121, C123, hn118, hR120⟩
    refine W.seq ?_
    refine W.region rfl ?_
    refine WL.val (Yl.move (v := .slice A115 n117 c116) ho113) ?_
    refine WL.val (Yl.move (v := .int .i64 x122) ho121) ?_
    refine WL.val (Yl.assign (v := .slice A115 n117 c116) rfl) ?_
    refine WL.val (Yl.assign (v := .int .i64 x122) rfl) ?_
    refine WL.done ?_
    refine W.ret ?_
    cases H
    exact post_r (resE2 rfl rfl rfl) ⟨A115, c116, n117, p119, rfl, C123, hn118, hR120⟩
/-! ### jurat/crew.Left: function 11 -/
def crew_Left.f (k : Nat) (a0 : List Int) (a1 : List Bool) (a2 : Int) : Option Int := (crew_right.f k a0 a1).bind fun r16 => if r16 = true then ((crew_able.f k a0 a1 a2).bind fun ⟨r21, r22⟩ => some (r21.length : Int)) else (some 0)
set_option maxRecDepth 100000 in
set_option maxHeartbeats 4000000 in
theorem crew_Left.calls (k : Nat) (w : World) (F : CH) (A1 : Option Addr) (c2 : Nat) (n3 : Nat) (a0 : List Int) (A8 : Option Addr) (c9 : Nat) (n10 : Nat) (a1 : List Bool) (a2 : Int) (hp : Pre w F []) (hn4 : n3 = a0.length) (hl5 : a0.length ≤ c2) (hm6 : c2 ≤ maxLen) (hS7 : Sl (Kd.int .i64) F F A1 a0) (hn11 : n10 = a1.length) (hl12 : a1.length ≤ c9) (hm13 : c9 ≤ maxLen) (hS14 : Sl Kd.bool F F A8 a1) (r0_ : Int) (H : crew_Left.f k a0 a1 a2 = some r0_) :
    Calls Try.prog 11 #[.slice A1 n3 c2, .slice A8 n10 c9, .int .i64 a2] w fun e w' => e = .returned (.int .i64 r0_) ∧ Ctx w F (domL []) w' F [] := by
  have C := Ctx.start hp
  generalize hD : domL [] = D at C ⊢
  unfold crew_Left.f at H
  refine Calls.ofW Try.func11 rfl (by simp [Try.ntmps11]) ?_
  refine W.seq ?_
  refine W.region rfl ?_
  refine WL.val (Yl.assign (v := .int .i64 0) rfl) ?_
  refine WL.done ?_
  refine W.seq ?_
  refine W.seq ?_
  refine W.region rfl ?_
  refine WL.val (Yl.move (v := .slice A1 n3 c2) rfl) ?_
  refine WL.val (Yl.move (v := .slice A8 n10 c9) rfl) ?_
  obtain ⟨r16, hg15, H⟩ := bindE H
  refine WL.call (args := #[.slice A1 n3 c2, .slice A8 n10 c9]) (Yenter.fn Try.func14 (by kernel_rfl) rfl (argsE (.cons rfl (.cons rfl .nil)))) (crew_right.calls k _ F A1 c2 n3 a0 A8 c9 n10 a1 C.pre0 hn4 hl5 hm6 hS7 hn11 hl12 hm13 hS14 r16 hg15) ?_
  rintro e_ w_ ⟨rfl, ⟨m17, rfl⟩⟩
  refine ⟨_, rfl, ?_⟩
  have C18 := Ctx.drewN C m17
  refine WL.val (Yl.not (p := r16) (q := !r16) rfl rfl) ?_
  refine WL.done ?_
  rcases iteE H with ⟨hc19, H⟩ | ⟨hc19, H⟩
  · skip
    refine W.condF (congrArg Value.bool (nb_t hc19)) ?_
    refine W.skip ?_
    refine W.seq ?_
    refine W.region rfl ?_
    refine WL.val (Yl.move (v := .slice A1 n3 c2) rfl) ?_
    refine WL.val (Yl.move (v := .slice A8 n10 c9) rfl) ?_
    refine WL.val (Yl.move (v := .int .i64 a2) rfl) ?_
    obtain ⟨⟨r21, r22⟩, hg20, H⟩ := bindE H
    refine WL.call (args := #[.slice A1 n3 c2, .slice A8 n10 c9, .int .i64 a2]) (Yenter.fn Try.func15 (by kernel_rfl) rfl (argsE (.cons rfl (.cons rfl (.cons rfl .nil))))) (crew_able.calls k _ F A1 c2 n3 a0 A8 c9 n10 a1 a2 (Ctx.pre (qs := []) (rest := []) C18) hn4 hl5 hm6 hS7 hn11 hl12 hm13 hS14 r21 r22 hg20) ?_
    rintro e_ w_ ⟨A23, c24, n25, p27, rfl, C29, hn26, hR28⟩
    refine ⟨_, rfl, ?_⟩
    have C30 : Ctx _ _ _ _ F [p27] := Ctx.call (qs := []) (rest := []) C18 C29
    refine WL.val (Yl.move (v := .tuple #[(.slice A23 n25 c24), (.int .i64 r22)]) rfl) ?_
    refine WL.val (Yl.extract (v := .slice A23 n25 c24) rfl rfl) ?_
    refine WL.val (Yl.extract (v := .int .i64 r22) rfl rfl) ?_
    refine WL.val (Yl.assign (v := .slice A23 n25 c24) rfl) ?_
    refine WL.val (Yl.assign (v := .int .i64 r22) rfl) ?_
    refine WL.done ?_
    refine W.seq ?_
    refine W.region rfl ?_
    refine WL.val (Yl.move (v := .slice A23 n25 c24) rfl) ?_
    refine WL.val (Yl.lenN (A := A23) (l := n25) (q := c24) (n := (r21.length : Int)) rfl Try.underlying36 (by omega)) ?_
    refine WL.val (Yl.assign (v := .int .i64 (r21.length : Int)) rfl) ?_
    refine WL.done ?_
    refine W.ret ?_
    have C31 : Ctx _ _ _ _ F [] := Ctx.drop [] [] C30
    cases H
    exact post_r (resE1 rfl rfl) ⟨rfl, C31⟩
  · skip
    refine W.condT (congrArg Value.bool (nb_f hc19)) ?_
    refine W.seq ?_
    refine W.region rfl ?_
    refine WL.val (Yl.assign (v := .int .i64 0) rfl) ?_
    refine WL.done ?_
    refine W.ret ?_
    refine thenE_r ?_
    cases H
    exact post_r (resE1 rfl rfl) ⟨rfl, C18⟩
/-! ### jurat/juratref18.Pick: function 9 -/
def juratref18_Pick.l1 : Nat → List Bool → Int → Int → Option Int
  | 0, _, _, _ => none
  | k + 1, a1, x72, x74 => if x74 < (a1.length : Int) then (if 0 ≤ x74 ∧ x74 < (a1.length : Int) then (if (a1.getD x74.toNat false) = true then (juratref18_Pick.l1 k a1 x72 (wi64 (x74 + 1))) else (juratref18_Pick.l1 k a1 (wi64 (x72 + 1)) (wi64 (x74 + 1)))) else none) else (some x72)
def juratref18_Pick.l3 : Nat → List Int → List Bool → Int → Int → Int → List Int → Int → Int → Option ((List Int) × Int)
  | 0, _, _, _, _, _, _, _, _ => none
  | k + 1, a0, a1, a2, a3, x1391, x2343, x2352, x2354 => if x2354 < (a0.length : Int) then (if 0 ≤ x2354 ∧ x2354 < (a1.length : Int) then ((if (a1.getD x2354.toNat false) = true then (some (true)) else (if 0 ≤ x2354 ∧ x2354 < (a0.length : Int) then (some (decide ((a0.getD x2354.toNat 0) ≥ a2))) else none)).bind fun g2508 => if g2508 = true then (juratref18_Pick.l3 k a0 a1 a2 a3 x1391 x2343 x2352 (wi64 (x2354 + 1))) else ((if 0 ≤ x2354 ∧ x2354 < (a0.length : Int) then ((if (a0.getD x2354.toNat 0) = x1391 then (some (decide ((x2343.length : Int) < a3))) else (some (false))).bind fun g2597 => if g2597 = true then (if (x2343.length + 1) * 8 ≤ 140737488355328 then (some (x2343 ++ [x2354])) else none) else (some x2343)) else none).bind fun x2577 => if 0 ≤ x2354 ∧ x2354 < (a0.length : Int) then (if (a0.getD x2354.toNat 0) > x1391 then (juratref18_Pick.l3 k a0 a1 a2 a3 x1391 x2577 (if (a0.getD x2354.toNat 0) < x2352 then a0.getD x2354.toNat 0 else x2352) (wi64 (x2354 + 1))) else (juratref18_Pick.l3 k a0 a1 a2 a3 x1391 x2577 x2352 (wi64 (x2354 + 1)))) else none)) else none) else (some (x2343, x2352))
def juratref18_Pick.l2 : Nat → List Int → List Bool → Int → Int → List Int → Int → Option (List Int)
  | 0, _, _, _, _, _, _ => none
  | k + 1, a0, a1, a2, a3, x1383, x1391 => if (x1383.length : Int) < a3 then ((juratref18_Pick.l3 k a0 a1 a2 a3 x1391 x1383 a2 0).bind fun ⟨x2327, x2335⟩ => juratref18_Pick.l2 k a0 a1 a2 a3 x2327 x2335) else (some x1383)
def juratref18_Pick.f (k : Nat) (a0 : List Int) (a1 : List Bool) (a2 : Int) (a3 : Int) : Option ((List Int) × Int) := (juratref18_Right.f k a0 a1).bind fun r16 => if (((!r16) || (decide (a3 < 1))) || (decide (a2 < 0))) = true then (some (([] : List Int), 1)) else ((juratref18_Pick.l1 k a1 0 0).bind fun x64 => if x64 < a3 then (some (([] : List Int), 180)) else ((juratref18_Left.f k a0 a1 a2).bind fun r100 => if r100 < a3 then (some (([] : List Int), 70)) else ((juratref18_Pick.l2 k a0 a1 a2 a3 ([] : List Int) 0).bind fun x1369 => some (x1369, 0))))
set_option maxRecDepth 100000 in
set_option maxHeartbeats 4000000 in
theorem juratref18_Pick.calls (k : Nat) (w : World) (F : CH) (A1 : Option Addr) (c2 : Nat) (n3 : Nat) (a0 : List Int) (A8 : Option Addr) (c9 : Nat) (n10 : Nat) (a1 : List Bool) (a2 : Int) (a3 : Int) (hp : Pre w F []) (hn4 : n3 = a0.length) (hl5 : a0.length ≤ c2) (hm6 : c2 ≤ maxLen) (hS7 : Sl (Kd.int .i64) F F A1 a0) (hn11 : n10 = a1.length) (hl12 : a1.length ≤ c9) (hm13 : c9 ≤ maxLen) (hS14 : Sl Kd.bool F F A8 a1) (r0_ : List Int) (r1_ : Int) (H : juratref18_Pick.f k a0 a1 a2 a3 = some (r0_, r1_)) :
    Calls Try.prog 9 #[.slice A1 n3 c2, .slice A8 n10 c9, .int .i64 a2, .int .i64 a3] w fun e w' => ∃ (A2641 : Option Addr) (c2642 : Nat) (n2643 : Nat) (p2645 : CH), e = .returned (.tuple #[(.slice A2641 n2643 c2642), (.int .i64 r1_)]) ∧ Ctx w F (domL []) w' F [p2645] ∧ n2643 = r0_.length ∧ Row (Kd.int .i64) F p2645 (.slice A2641 n2643 c2642) r0_ := by
  have C := Ctx.start hp
  generalize hD : domL [] = D at C ⊢
  unfold juratref18_Pick.f at H
  refine Calls.ofW Try.func9 rfl (by simp [Try.ntmps9]) ?_
  refine W.seq ?_
  refine W.region rfl ?_
  refine WL.val (Yl.assign (v := .slice none 0 0) rfl) ?_
  refine WL.val (Yl.assign (v := .int .i64 0) rfl) ?_
  refine WL.done ?_
  refine W.seq ?_
  refine W.seq ?_
  refine W.region rfl ?_
  refine WL.val (Yl.move (v := .slice A1 n3 c2) rfl) ?_
  refine WL.val (Yl.move (v := .slice A8 n10 c9) rfl) ?_
  obtain ⟨r16, hg15, H⟩ := bindE H
  refine WL.call (args := #[.slice A1 n3 c2, .slice A8 n10 c9]) (Yenter.fn Try.func13 (by kernel_rfl) rfl (argsE (.cons rfl (.cons rfl .nil)))) (juratref18_Right.calls k _ F A1 c2 n3 a0 A8 c9 n10 a1 C.pre0 hn4 hl5 hm6 hS7 hn11 hl12 hm13 hS14 r16 hg15) ?_
  rintro e_ w_ ⟨rfl, ⟨m17, rfl⟩⟩
  refine ⟨_, rfl, ?_⟩
  have C18 := Ctx.drewN C m17
  refine WL.val (Yl.not (p := r16) (q := !r16) rfl rfl) ?_
  refine WL.val (Yl.move (v := .bool (!r16)) rfl) ?_
  refine WL.cut (fun env_ w_ => env_ 27 = .bool (((!r16) || (decide (a3 < 1))) || (decide (a2 < 0))) ∧ env_ 0 = .slice A1 n3 c2 ∧ env_ 1 = .slice A8 n10 c9 ∧ env_ 2 = .int .i64 a2 ∧ env_ 3 = .int .i64 a3 ∧ Ctx w F D w_ F []) ?_ ?_
  · skip
    rcases Bool.eq_false_or_eq_true (!r16) with hb19 | hb19
    · skip
      refine WL.off rfl (congrArg Value.bool hb19) ?_
      refine WL.off rfl (congrArg Value.bool hb19) ?_
      refine WL.val (Yl.pickT (v := .bool true) (congrArg Value.bool hb19) rfl) ?_
      refine WL.val (Yl.move (v := .bool true) rfl) ?_
      refine WL.off rfl rfl ?_
      refine WL.off rfl rfl ?_
      refine WL.val (Yl.pickT (v := .bool true) rfl rfl) ?_
      exact WL.done ⟨(congrArg Value.bool (show true = (((!r16) || (decide (a3 < 1))) || (decide (a2 < 0))) from by simp [hb19])), rfl, rfl, rfl, rfl, C18⟩
    · skip
      refine WL.on rfl (congrArg Value.bool hb19) ?_
      refine WL.val (Yl.move (v := .int .i64 a3) rfl) ?_
      refine WL.on rfl (congrArg Value.bool hb19) ?_
      refine WL.val (Yl.lss (m := a3) (n := 1) (q := decide (a3 < 1)) rfl rfl rfl) ?_
      refine WL.val (Yl.pickF (v := .bool (decide (a3 < 1))) (congrArg Value.bool hb19) rfl) ?_
      refine WL.val (Yl.move (v := .bool (decide (a3 < 1))) rfl) ?_
      rcases Bool.eq_false_or_eq_true (decide (a3 < 1)) with hb20 | hb20
      · skip
        refine WL.off rfl (congrArg Value.bool hb20) ?_
        refine WL.off rfl (congrArg Value.bool hb20) ?_
        refine WL.val (Yl.pickT (v := .bool true) (congrArg Value.bool hb20) rfl) ?_
        exact WL.done ⟨(congrArg Value.bool (show true = (((!r16) || (decide (a3 < 1))) || (decide (a2 < 0))) from by simp [hb19, hb20])), rfl, rfl, rfl, rfl, C18⟩
      · skip
        refine WL.on rfl (congrArg Value.bool hb20) ?_
        refine WL.val (Yl.move (v := .int .i64 a2) rfl) ?_
        refine WL.on rfl (congrArg Value.bool hb20) ?_
        refine WL.val (Yl.lss (m := a2) (n := 0) (q := decide (a2 < 0)) rfl rfl rfl) ?_
        refine WL.val (Yl.pickF (v := .bool (decide (a2 < 0))) (congrArg Value.bool hb20) rfl) ?_
        exact WL.done ⟨(congrArg Value.bool (show (decide (a2 < 0)) = (((!r16) || (decide (a3 < 1))) || (decide (a2 < 0))) from by simp [hb19, hb20])), rfl, rfl, rfl, rfl, C18⟩
  · skip
    rintro env_ w_ ⟨ho21, ho22, ho23, ho24, ho25, C26⟩
    rcases iteE H with ⟨hc27, H⟩ | ⟨hc27, H⟩
    · skip
      refine W.condT (ho21.trans (congrArg Value.bool hc27)) ?_
      refine W.seq ?_
      refine W.region rfl ?_
      refine WL.val (Yl.assign (v := .slice none 0 0) rfl) ?_
      refine WL.val (Yl.assign (v := .int .i64 1) rfl) ?_
      refine WL.done ?_
      refine W.ret ?_
      refine thenE_r ?_
      have C28 : Ctx _ _ _ _ F [CH.emp] := Ctx.emp C26
      cases H
      exact post_r (resE2 rfl rfl rfl) ⟨none, 0, 0, CH.emp, rfl, C28, rfl, (Row.nil _ _)⟩
    · skip
      refine W.condF (ho21.trans (congrArg Value.bool (Bool.eq_false_iff.2 hc27))) ?_
      refine W.skip ?_
      refine W.seq ?_
      refine W.region rfl ?_
      refine WL.val (Yl.assign (v := .int .i64 0) rfl) ?_
      refine WL.done ?_
      refine W.seq ?_
      refine W.seq ?_
      refine W.region rfl ?_
      refine WL.val (Yl.assign (v := .int .i64 0) rfl) ?_
      refine WL.done ?_
      obtain ⟨x64, hX66, H⟩ := bindE H
      refine W.cutM (fun env_ w_ => env_ 0 = .slice A1 n3 c2 ∧ env_ 1 = .slice A8 n10 c9 ∧ env_ 2 = .int .i64 a2 ∧ env_ 3 = .int .i64 a3 ∧ env_ 10 = .int .i64 x64 ∧ Ctx w F D w_ F []) ?_ ?_
      · skip
        refine W.block ?_
        refine W.loop (fun g_ env_ w_ => ∃ (x72 : Int) (x74 : Int), env_ 0 = .slice A1 n3 c2 ∧ env_ 1 = .slice A8 n10 c9 ∧ env_ 2 = .int .i64 a2 ∧ env_ 3 = .int .i64 a3 ∧ env_ 10 = .int .i64 x72 ∧ env_ 11 = .int .i64 x74 ∧ Ctx w F D w_ F [] ∧ juratref18_Pick.l1 g_ a1 x72 x74 = some x64) k ⟨0, 0, ho22, ho23, ho24, ho25, rfl, rfl, C26, hX66⟩ ?_
        clear hX66
        rintro g_ env_ w_ ⟨x72, x74, ho67, ho68, ho69, ho70, ho71, ho73, C75, hX66⟩
        rcases g_ with _ | k86
        · exact absurd hX66 (by simp [juratref18_Pick.l1])
        rw [juratref18_Pick.l1] at hX66
        refine W.seq ?_
        refine W.seq ?_
        refine W.region rfl ?_
        refine WL.val (Yl.move (v := .int .i64 x74) ho73) ?_
        refine WL.val (Yl.move (v := .slice A8 n10 c9) ho68) ?_
        refine WL.val (Yl.lenN (A := A8) (l := n10) (q := c9) (n := (a1.length : Int)) rfl Try.underlying23 (by omega)) ?_
        refine WL.val (Yl.lss (m := x74) (n := (a1.length : Int)) (q := decide (x74 < (a1.length : Int))) rfl rfl rfl) ?_
        refine WL.done ?_
        rcases iteE hX66 with ⟨hc87, hX66⟩ | ⟨hc87, hX66⟩
        · skip
          refine W.condT (congrArg Value.bool (decide_eq_true hc87)) ?_
          refine W.skip ?_
          refine W.seq ?_
          refine W.block ?_
          refine W.seq ?_
          refine W.region rfl ?_
          refine WL.val (Yl.move (v := .slice A8 n10 c9) ho68) ?_
          refine WL.val (Yl.move (v := .int .i64 x74) ho73) ?_
          obtain ⟨hc88, hX66⟩ := guardE hX66
          obtain ⟨b89, of90, hA91, he92⟩ := hS14 (by omega)
          refine WL.val (Yl.elemAddr (i := x74) rfl rfl hA91 Try.underlying23 sz4 (by omega)) ?_
          obtain ⟨cs93, hr94, hx95⟩ := he92 x74.toNat _ (getD_some (d := false) (by omega))
          obtain rfl := hr94
          refine WL.val (Yl.load (v := .bool (a1.getD x74.toNat false)) rfl Try.underlying4 rfl (((C75.fro)).cell (hx95 0 _ rfl))) ?_
          refine WL.val (Yl.not (p := a1.getD x74.toNat false) (q := !(a1.getD x74.toNat false)) rfl rfl) ?_
          refine WL.done ?_
          rcases iteE hX66 with ⟨hc96, hX66⟩ | ⟨hc96, hX66⟩
          · skip
            refine W.condF (congrArg Value.bool (nb_t hc96)) ?_
            refine W.skip ?_
            refine inB_n ?_
            refine W.region rfl ?_
            refine WL.val (Yl.move (v := .int .i64 x74) ho73) ?_
            refine WL.val (Yl.add (m := x74) (n := 1) (r := wi64 (x74 + 1)) rfl rfl rfl) ?_
            refine WL.val (Yl.assign (v := .int .i64 (wi64 (x74 + 1))) rfl) ?_
            refine WL.done ?_
            exact thenE_n ⟨k86, Nat.lt_succ_self _, x72, wi64 (x74 + 1), ho67, ho68, ho69, ho70, ho71, rfl, C75, hX66⟩
          · skip
            refine W.condT (congrArg Value.bool (nb_f hc96)) ?_
            refine W.region rfl ?_
            refine WL.val (Yl.move (v := .int .i64 x72) ho71) ?_
            refine WL.val (Yl.add (m := x72) (n := 1) (r := wi64 (x72 + 1)) rfl rfl rfl) ?_
            refine WL.val (Yl.assign (v := .int .i64 (wi64 (x72 + 1))) rfl) ?_
            refine WL.done ?_
            refine inB_n ?_
            refine W.region rfl ?_
            refine WL.val (Yl.move (v := .int .i64 x74) ho73) ?_
            refine WL.val (Yl.add (m := x74) (n := 1) (r := wi64 (x74 + 1)) rfl rfl rfl) ?_
            refine WL.val (Yl.assign (v := .int .i64 (wi64 (x74 + 1))) rfl) ?_
            refine WL.done ?_
            exact thenE_n ⟨k86, Nat.lt_succ_self _, wi64 (x72 + 1), wi64 (x74 + 1), ho67, ho68, ho69, ho70, rfl, rfl, C75, hX66⟩
        · skip
          refine W.condF (congrArg Value.bool (decide_eq_false hc87)) ?_
          refine W.exit ?_
          refine thenE_x ?_
          refine thenE_x ?_
          refine inB_here ?_
          cases hX66
          refine thenE_n ?_
          exact ⟨ho67, ho68, ho69, ho70, ho71, C75⟩
      · skip
        rintro env_ w_ ⟨ho59, ho60, ho61, ho62, ho63, C65⟩
        refine W.seq ?_
        refine W.seq ?_
        refine W.region rfl ?_
        refine WL.val (Yl.move (v := .int .i64 x64) ho63) ?_
        refine WL.val (Yl.move (v := .int .i64 a3) ho62) ?_
        refine WL.val (Yl.lss (m := x64) (n := a3) (q := decide (x64 < a3)) rfl rfl rfl) ?_
        refine WL.done ?_
        rcases iteE H with ⟨hc97, H⟩ | ⟨hc97, H⟩
        · skip
          refine W.condT (congrArg Value.bool (decide_eq_true hc97)) ?_
          refine W.seq ?_
          refine W.region rfl ?_
          refine WL.val (Yl.assign (v := .slice none 0 0) rfl) ?_
          refine WL.val (Yl.assign (v := .int .i64 180) rfl) ?_
          refine WL.done ?_
          refine W.ret ?_
          refine thenE_r ?_
          have C98 : Ctx _ _ _ _ F [CH.emp] := Ctx.emp C65
          cases H
          exact post_r (resE2 rfl rfl rfl) ⟨none, 0, 0, CH.emp, rfl, C98, rfl, (Row.nil _ _)⟩
        · skip
          refine W.condF (congrArg Value.bool (decide_eq_false hc97)) ?_
          refine W.skip ?_
          refine W.seq ?_
          refine W.seq ?_
          refine W.region rfl ?_
          refine WL.val (Yl.move (v := .slice A1 n3 c2) ho59) ?_
          refine WL.val (Yl.move (v := .slice A8 n10 c9) ho60) ?_
          refine WL.val (Yl.move (v := .int .i64 a2) ho61) ?_
          obtain ⟨r100, hg99, H⟩ := bindE H
          refine WL.call (args := #[.slice A1 n3 c2, .slice A8 n10 c9, .int .i64 a2]) (Yenter.fn Try.func12 (by kernel_rfl) rfl (argsE (.cons rfl (.cons rfl (.cons rfl .nil))))) (juratref18_Left.calls k _ F A1 c2 n3 a0 A8 c9 n10 a1 a2 C65.pre0 hn4 hl5 hm6 hS7 hn11 hl12 hm13 hS14 r100 hg99) ?_
          rintro e_ w_ ⟨rfl, ⟨m101, rfl⟩⟩
          refine ⟨_, rfl, ?_⟩
          have C102 := Ctx.drewN C65 m101
          refine WL.val (Yl.move (v := .int .i64 a3) ho62) ?_
          refine WL.val (Yl.lss (m := r100) (n := a3) (q := decide (r100 < a3)) rfl rfl rfl) ?_
          refine WL.done ?_
          rcases iteE H with ⟨hc103, H⟩ | ⟨hc103, H⟩
          · skip
            refine W.condT (congrArg Value.bool (decide_eq_true hc103)) ?_
            refine W.seq ?_
            refine W.region rfl ?_
            refine WL.val (Yl.assign (v := .slice none 0 0) rfl) ?_
            refine WL.val (Yl.assign (v := .int .i64 70) rfl) ?_
            refine WL.done ?_
            refine W.ret ?_
            refine thenE_r ?_
            have C104 : Ctx _ _ _ _ F [CH.emp] := Ctx.emp C102
            cases H
            exact post_r (resE2 rfl rfl rfl) ⟨none, 0, 0, CH.emp, rfl, C104, rfl, (Row.nil _ _)⟩
          · skip
            refine W.condF (congrArg Value.bool (decide_eq_false hc103)) ?_
            refine W.skip ?_
            refine W.seq ?_
            refine W.region rfl ?_
            refine WL.val (Yl.assign (v := .slice none 0 0) rfl) ?_
            refine WL.done ?_
            refine W.seq ?_
            refine W.seq ?_
            refine W.region rfl ?_
            refine WL.val (Yl.assign (v := .int .i64 0) rfl) ?_
            refine WL.done ?_
            obtain ⟨x1369, hX1377, H⟩ := bindE H
            refine W.cutM (fun env_ w_ => ∃ (A1370 : Option Addr) (c1371 : Nat) (n1372 : Nat) (p1374 : CH), env_ 12 = .slice A1370 n1372 c1371 ∧ Ctx w F D w_ F [p1374] ∧ n1372 = x1369.length ∧ Row (Kd.int .i64) F p1374 (.slice A1370 n1372 c1371) x1369) ?_ ?_
            · skip
              refine W.block ?_
              have C2017 : Ctx _ _ _ _ F [CH.emp] := Ctx.emp C102
              refine W.loop (fun g_ env_ w_ => ∃ (x1383 : List Int) (x1391 : Int) (A1384 : Option Addr) (c1385 : Nat) (n1386 : Nat) (p1388 : CH), env_ 0 = .slice A1 n3 c2 ∧ env_ 1 = .slice A8 n10 c9 ∧ env_ 2 = .int .i64 a2 ∧ env_ 3 = .int .i64 a3 ∧ env_ 12 = .slice A1384 n1386 c1385 ∧ env_ 13 = .int .i64 x1391 ∧ Ctx w F D w_ F [p1388] ∧ n1386 = x1383.length ∧ Row (Kd.int .i64) F p1388 (.slice A1384 n1386 c1385) x1383 ∧ juratref18_Pick.l2 g_ a0 a1 a2 a3 x1383 x1391 = some x1369) k ⟨([] : List Int), 0, none, 0, 0, CH.emp, ho59, ho60, ho61, ho62, rfl, rfl, C2017, rfl, (Row.nil _ _), hX1377⟩ ?_
              clear hX1377
              rintro g_ env_ w_ ⟨x1383, x1391, A1384, c1385, n1386, p1388, ho1378, ho1379, ho1380, ho1381, ho1382, ho1390, C1392, hn1387, hR1389, hX1377⟩
              rcases g_ with _ | k2016
              · exact absurd hX1377 (by simp [juratref18_Pick.l2])
              rw [juratref18_Pick.l2] at hX1377
              refine W.seq ?_
              refine W.seq ?_
              refine W.region rfl ?_
              refine WL.val (Yl.move (v := .slice A1384 n1386 c1385) ho1382) ?_
              refine WL.val (Yl.lenN (A := A1384) (l := n1386) (q := c1385) (n := (x1383.length : Int)) rfl Try.underlying22 (by omega)) ?_
              refine WL.val (Yl.move (v := .int .i64 a3) ho1381) ?_
              refine WL.val (Yl.lss (m := (x1383.length : Int)) (n := a3) (q := decide ((x1383.length : Int) < a3)) rfl rfl rfl) ?_
              refine WL.done ?_
              rcases iteE hX1377 with ⟨hc2018, hX1377⟩ | ⟨hc2018, hX1377⟩
              · skip
                refine W.condT (congrArg Value.bool (decide_eq_true hc2018)) ?_
                refine W.skip ?_
                refine W.block ?_
                refine W.seq ?_
                refine W.region rfl ?_
                refine WL.val (Yl.move (v := .int .i64 a2) ho1380) ?_
                refine WL.val (Yl.assign (v := .int .i64 a2) rfl) ?_
                refine WL.done ?_
                refine W.seq ?_
                refine W.seq ?_
                refine W.region rfl ?_
                refine WL.val (Yl.assign (v := .int .i64 0) rfl) ?_
                refine WL.done ?_
                obtain ⟨⟨x2327, x2335⟩, hX2337, hX1377⟩ := bindE hX1377
                refine W.cutM (fun env_ w_ => ∃ (A2328 : Option Addr) (c2329 : Nat) (n2330 : Nat) (p2332 : CH), env_ 0 = .slice A1 n3 c2 ∧ env_ 1 = .slice A8 n10 c9 ∧ env_ 2 = .int .i64 a2 ∧ env_ 3 = .int .i64 a3 ∧ env_ 12 = .slice A2328 n2330 c2329 ∧ env_ 14 = .int .i64 x2335 ∧ Ctx w F D w_ F [p2332] ∧ n2330 = x2327.length ∧ Row (Kd.int .i64) F p2332 (.slice A2328 n2330 c2329) x2327) ?_ ?_
                · skip
                  refine W.block ?_
                  refine W.loop (fun g_ env_ w_ => ∃ (x2343 : List Int) (x2352 : Int) (x2354 : Int) (A2344 : Option Addr) (c2345 : Nat) (n2346 : Nat) (p2348 : CH), env_ 0 = .slice A1 n3 c2 ∧ env_ 1 = .slice A8 n10 c9 ∧ env_ 2 = .int .i64 a2 ∧ env_ 3 = .int .i64 a3 ∧ env_ 12 = .slice A2344 n2346 c2345 ∧ env_ 13 = .int .i64 x1391 ∧ env_ 14 = .int .i64 x2352 ∧ env_ 15 = .int .i64 x2354 ∧ Ctx w F D w_ F [p2348] ∧ n2346 = x2343.length ∧ Row (Kd.int .i64) F p2348 (.slice A2344 n2346 c2345) x2343 ∧ juratref18_Pick.l3 g_ a0 a1 a2 a3 x1391 x2343 x2352 x2354 = some (x2327, x2335)) k2016 ⟨x1383, a2, 0, A1384, c1385, n1386, p1388, ho1378, ho1379, ho1380, ho1381, ho1382, ho1390, rfl, rfl, C1392, hn1387, hR1389, hX2337⟩ ?_
                  clear hX2337
                  rintro g_ env_ w_ ⟨x2343, x2352, x2354, A2344, c2345, n2346, p2348, ho2338, ho2339, ho2340, ho2341, ho2342, ho2350, ho2351, ho2353, C2355, hn2347, hR2349, hX2337⟩
                  rcases g_ with _ | k2498
                  · exact absurd hX2337 (by simp [juratref18_Pick.l3])
                  rw [juratref18_Pick.l3] at hX2337
                  refine W.seq ?_
                  refine W.seq ?_
                  refine W.region rfl ?_
                  refine WL.val (Yl.move (v := .int .i64 x2354) ho2353) ?_
                  refine WL.val (Yl.move (v := .slice A1 n3 c2) ho2338) ?_
                  refine WL.val (Yl.lenN (A := A1) (l := n3) (q := c2) (n := (a0.length : Int)) rfl Try.underlying22 (by omega)) ?_
                  refine WL.val (Yl.lss (m := x2354) (n := (a0.length : Int)) (q := decide (x2354 < (a0.length : Int))) rfl rfl rfl) ?_
                  refine WL.done ?_
                  rcases iteE hX2337 with ⟨hc2499, hX2337⟩ | ⟨hc2499, hX2337⟩
                  · skip
                    refine W.condT (congrArg Value.bool (decide_eq_true hc2499)) ?_
                    refine W.skip ?_
                    refine W.seq ?_
                    refine W.block ?_
                    refine W.seq ?_
                    refine W.seq ?_
                    refine W.region rfl ?_
                    refine WL.val (Yl.move (v := .slice A8 n10 c9) ho2339) ?_
                    refine WL.val (Yl.move (v := .int .i64 x2354) ho2353) ?_
                    obtain ⟨hc2500, hX2337⟩ := guardE hX2337
                    obtain ⟨b2501, of2502, hA2503, he2504⟩ := hS14 (by omega)
                    refine WL.val (Yl.elemAddr (i := x2354) rfl rfl hA2503 Try.underlying23 sz4 (by omega)) ?_
                    obtain ⟨cs2505, hr2506, hx2507⟩ := he2504 x2354.toNat _ (getD_some (d := false) (by omega))
                    obtain rfl := hr2506
                    refine WL.val (Yl.load (v := .bool (a1.getD x2354.toNat false)) rfl Try.underlying4 rfl (((C2355.fro)).cell (hx2507 0 _ rfl))) ?_
                    refine WL.val (Yl.move (v := .bool (a1.getD x2354.toNat false)) rfl) ?_
                    obtain ⟨g2508, HE2509, hX2337⟩ := bindE hX2337
                    refine WL.cut (fun env_ w_ => env_ 72 = .bool g2508 ∧ env_ 0 = .slice A1 n3 c2 ∧ env_ 1 = .slice A8 n10 c9 ∧ env_ 2 = .int .i64 a2 ∧ env_ 3 = .int .i64 a3 ∧ env_ 12 = .slice A2344 n2346 c2345 ∧ env_ 13 = .int .i64 x1391 ∧ env_ 14 = .int .i64 x2352 ∧ env_ 15 = .int .i64 x2354 ∧ Ctx w F D w_ F [p2348]) ?_ ?_
                    · skip
                      rcases iteE HE2509 with ⟨hc2510, HE2509⟩ | ⟨hc2510, HE2509⟩
                      · skip
                        refine WL.off rfl (congrArg Value.bool hc2510) ?_
                        refine WL.off rfl (congrArg Value.bool hc2510) ?_
                        refine WL.off rfl (congrArg Value.bool hc2510) ?_
                        refine WL.off rfl (congrArg Value.bool hc2510) ?_
                        refine WL.off rfl (congrArg Value.bool hc2510) ?_
                        refine WL.off rfl (congrArg Value.bool hc2510) ?_
                        refine WL.val (Yl.pickT (v := .bool true) (congrArg Value.bool hc2510) rfl) ?_
                        cases HE2509
                        exact WL.done ⟨rfl, ho2338, ho2339, ho2340, ho2341, ho2342, ho2350, ho2351, ho2353, C2355⟩
                      · skip
                        refine WL.on rfl (congrArg Value.bool (Bool.eq_false_iff.2 hc2510)) ?_
                        refine WL.val (Yl.move (v := .slice A1 n3 c2) ho2338) ?_
                        refine WL.on rfl (congrArg Value.bool (Bool.eq_false_iff.2 hc2510)) ?_
                        refine WL.val (Yl.move (v := .int .i64 x2354) ho2353) ?_
                        refine WL.on rfl (congrArg Value.bool (Bool.eq_false_iff.2 hc2510)) ?_
                        obtain ⟨hc2511, HE2509⟩ := guardE HE2509
                        obtain ⟨b2512, of2513, hA2514, he2515⟩ := hS7 (by omega)
                        refine WL.val (Yl.elemAddr (i := x2354) rfl rfl hA2514 Try.underlying22 sz3 (by omega)) ?_
                        refine WL.on rfl (congrArg Value.bool (Bool.eq_false_iff.2 hc2510)) ?_
                        obtain ⟨cs2516, hr2517, hx2518⟩ := he2515 x2354.toNat _ (getD_some (d := 0) (by omega))
                        obtain rfl := hr2517
                        refine WL.val (Yl.load (v := .int .i64 (a0.getD x2354.toNat 0)) rfl Try.underlying3 rfl (((C2355.fro)).cell (hx2518 0 _ rfl))) ?_
                        refine WL.on rfl (congrArg Value.bool (Bool.eq_false_iff.2 hc2510)) ?_
                        refine WL.val (Yl.move (v := .int .i64 a2) ho2340) ?_
                        refine WL.on rfl (congrArg Value.bool (Bool.eq_false_iff.2 hc2510)) ?_
                        refine WL.val (Yl.geq (m := a0.getD x2354.toNat 0) (n := a2) (q := decide ((a0.getD x2354.toNat 0) ≥ a2)) rfl rfl rfl) ?_
                        refine WL.val (Yl.pickF (v := .bool (decide ((a0.getD x2354.toNat 0) ≥ a2))) (congrArg Value.bool (Bool.eq_false_iff.2 hc2510)) rfl) ?_
                        cases HE2509
                        exact WL.done ⟨rfl, ho2338, ho2339, ho2340, ho2341, ho2342, ho2350, ho2351, ho2353, C2355⟩
                    · skip
                      rintro env_ w_ ⟨ho2519, ho2520, ho2521, ho2522, ho2523, ho2524, ho2525, ho2526, ho2527, C2528⟩
                      rcases iteE hX2337 with ⟨hc2529, hX2337⟩ | ⟨hc2529, hX2337⟩
                      · skip
                        refine W.condT (ho2519.trans (congrArg Value.bool hc2529)) ?_
                        refine W.exit ?_
                        refine thenE_x ?_
                        refine inB_here ?_
                        refine W.region rfl ?_
                        refine WL.val (Yl.move (v := .int .i64 x2354) ho2527) ?_
                        refine WL.val (Yl.add (m := x2354) (n := 1) (r := wi64 (x2354 + 1)) rfl rfl rfl) ?_
                        refine WL.val (Yl.assign (v := .int .i64 (wi64 (x2354 + 1))) rfl) ?_
                        refine WL.done ?_
                        exact thenE_n ⟨k2498, Nat.lt_succ_self _, x2343, x2352, wi64 (x2354 + 1), A2344, c2345, n2346, p2348, ho2520, ho2521, ho2522, ho2523, ho2524, ho2525, ho2526, rfl, C2528, hn2347, hR2349, hX2337⟩
                      · skip
                        refine W.condF (ho2519.trans (congrArg Value.bool (Bool.eq_false_iff.2 hc2529))) ?_
                        refine W.skip ?_
                        refine W.seq ?_
                        obtain ⟨x2577, hX2588, hX2337⟩ := bindE hX2337
                        refine W.cutM (fun env_ w_ => ∃ (A2578 : Option Addr) (c2579 : Nat) (n2580 : Nat) (p2582 : CH), env_ 0 = .slice A1 n3 c2 ∧ env_ 1 = .slice A8 n10 c9 ∧ env_ 2 = .int .i64 a2 ∧ env_ 3 = .int .i64 a3 ∧ env_ 12 = .slice A2578 n2580 c2579 ∧ env_ 13 = .int .i64 x1391 ∧ env_ 14 = .int .i64 x2352 ∧ env_ 15 = .int .i64 x2354 ∧ Ctx w F D w_ F [p2582] ∧ n2580 = x2577.length ∧ Row (Kd.int .i64) F p2582 (.slice A2578 n2580 c2579) x2577) ?_ ?_
                        · skip
                          refine W.seq ?_
                          refine W.region rfl ?_
                          refine WL.val (Yl.move (v := .slice A1 n3 c2) ho2520) ?_
                          refine WL.val (Yl.move (v := .int .i64 x2354) ho2527) ?_
                          obtain ⟨hc2589, hX2588⟩ := guardE hX2588
                          obtain ⟨b2590, of2591, hA2592, he2593⟩ := hS7 (by omega)
                          refine WL.val (Yl.elemAddr (i := x2354) rfl rfl hA2592 Try.underlying22 sz3 (by omega)) ?_
                          obtain ⟨cs2594, hr2595, hx2596⟩ := he2593 x2354.toNat _ (getD_some (d := 0) (by omega))
                          obtain rfl := hr2595
                          refine WL.val (Yl.load (v := .int .i64 (a0.getD x2354.toNat 0)) rfl Try.underlying3 rfl (((C2528.fro)).cell (hx2596 0 _ rfl))) ?_
                          refine WL.val (Yl.move (v := .int .i64 x1391) ho2525) ?_
                          refine WL.val (Yl.eql (m := a0.getD x2354.toNat 0) (n := x1391) (q := decide ((a0.getD x2354.toNat 0) = x1391)) rfl rfl rfl) ?_
                          refine WL.val (Yl.move (v := .bool (decide ((a0.getD x2354.toNat 0) = x1391))) rfl) ?_
                          obtain ⟨g2597, HE2598, hX2588⟩ := bindE hX2588
                          refine WL.cut (fun env_ w_ => env_ 84 = .bool g2597 ∧ env_ 0 = .slice A1 n3 c2 ∧ env_ 1 = .slice A8 n10 c9 ∧ env_ 2 = .int .i64 a2 ∧ env_ 3 = .int .i64 a3 ∧ env_ 12 = .slice A2344 n2346 c2345 ∧ env_ 13 = .int .i64 x1391 ∧ env_ 14 = .int .i64 x2352 ∧ env_ 15 = .int .i64 x2354 ∧ Ctx w F D w_ F [p2348]) ?_ ?_
                          · skip
                            rcases iteE HE2598 with ⟨hc2599, HE2598⟩ | ⟨hc2599, HE2598⟩
                            · skip
                              refine WL.on rfl (congrArg Value.bool (decide_eq_true hc2599)) ?_
                              refine WL.val (Yl.move (v := .slice A2344 n2346 c2345) ho2524) ?_
                              refine WL.on rfl (congrArg Value.bool (decide_eq_true hc2599)) ?_
                              refine WL.val (Yl.lenN (A := A2344) (l := n2346) (q := c2345) (n := (x2343.length : Int)) rfl Try.underlying22 (by omega)) ?_
                              refine WL.on rfl (congrArg Value.bool (decide_eq_true hc2599)) ?_
                              refine WL.val (Yl.move (v := .int .i64 a3) ho2523) ?_
                              refine WL.on rfl (congrArg Value.bool (decide_eq_true hc2599)) ?_
                              refine WL.val (Yl.lss (m := (x2343.length : Int)) (n := a3) (q := decide ((x2343.length : Int) < a3)) rfl rfl rfl) ?_
                              refine WL.val (Yl.pickT (v := .bool (decide ((x2343.length : Int) < a3))) (congrArg Value.bool (decide_eq_true hc2599)) rfl) ?_
                              cases HE2598
                              exact WL.done ⟨rfl, ho2520, ho2521, ho2522, ho2523, ho2524, ho2525, ho2526, ho2527, C2528⟩
                            · skip
                              refine WL.off rfl (congrArg Value.bool (decide_eq_false hc2599)) ?_
                              refine WL.off rfl (congrArg Value.bool (decide_eq_false hc2599)) ?_
                              refine WL.off rfl (congrArg Value.bool (decide_eq_false hc2599)) ?_
                              refine WL.off rfl (congrArg Value.bool (decide_eq_false hc2599)) ?_
                              refine WL.val (Yl.pickF (v := .bool false) (congrArg Value.bool (decide_eq_false hc2599)) rfl) ?_
                              cases HE2598
                              exact WL.done ⟨rfl, ho2520, ho2521, ho2522, ho2523, ho2524, ho2525, ho2526, ho2527, C2528⟩
                          · skip
                            rintro env_ w_ ⟨ho2600, ho2601, ho2602, ho2603, ho2604, ho2605, ho2606, ho2607, ho2608, C2609⟩
                            rcases iteE hX2588 with ⟨hc2610, hX2588⟩ | ⟨hc2610, hX2588⟩
                            · skip
                              refine W.condT (ho2600.trans (congrArg Value.bool hc2610)) ?_
                              refine W.region rfl ?_
                              refine WL.val (Yl.move (v := .slice A2344 n2346 c2345) ho2605) ?_
                              refine WL.val (Yl.move (v := .int .i64 x2354) ho2608) ?_
                              obtain ⟨A2611, c2612, n2613, p2614, w2615, hn2616, hy2617, C2618, hR2619⟩ := ev_lit1' (P := Try.prog) 3 (Kd.int .i64) C2609 Try.underlying22 ti3 ⟨by decide, by decide⟩ x2354 (.int .i64 x2354) rfl
                              refine WL.val (hy2617 _ _ _ rfl) ?_
                              obtain ⟨hc2620, hX2588⟩ := guardE hX2588
                              obtain ⟨A2621, c2622, n2623, p2624, w2625, hn2626, hy2627, C2628, hR2629⟩ := ev_append' (P := Try.prog) (cb := c2612) 3 (Kd.int .i64) [p2614] [] C2618 hR2349 hn2616 (Row.sl hR2619) (Ctx.sub_of [] [p2348] C2618) Try.underlying22 ti3 rfl zo3 (by decide) (by decide) (by simpa using hc2620)
                              have C2630 : Ctx _ _ _ _ F [p2614, p2624] := C2628
                              refine WL.val (hy2627 _ _ _ _ rfl rfl) ?_
                              refine WL.val (Yl.assign (v := .slice A2621 n2623 c2622) rfl) ?_
                              refine WL.done ?_
                              have C2631 : Ctx _ _ _ _ F [p2624] := Ctx.drop [] [p2624] C2630
                              cases hX2588
                              refine thenE_n ?_
                              exact ⟨A2621, c2622, n2623, p2624, ho2601, ho2602, ho2603, ho2604, rfl, ho2606, ho2607, ho2608, C2631, hn2626, hR2629⟩
                            · skip
                              refine W.condF (ho2600.trans (congrArg Value.bool (Bool.eq_false_iff.2 hc2610))) ?_
                              refine W.skip ?_
                              cases hX2588
                              refine thenE_n ?_
                              exact ⟨A2344, c2345, n2346, p2348, ho2601, ho2602, ho2603, ho2604, ho2605, ho2606, ho2607, ho2608, C2609, hn2347, hR2349⟩
                        · skip
                          rintro env_ w_ ⟨A2578, c2579, n2580, p2582, ho2572, ho2573, ho2574, ho2575, ho2576, ho2584, ho2585, ho2586, C2587, hn2581, hR2583⟩
                          refine W.seq ?_
                          refine W.region rfl ?_
                          refine WL.val (Yl.move (v := .slice A1 n3 c2) ho2572) ?_
                          refine WL.val (Yl.move (v := .int .i64 x2354) ho2586) ?_
                          obtain ⟨hc2632, hX2337⟩ := guardE hX2337
                          obtain ⟨b2633, of2634, hA2635, he2636⟩ := hS7 (by omega)
                          refine WL.val (Yl.elemAddr (i := x2354) rfl rfl hA2635 Try.underlying22 sz3 (by omega)) ?_
                          obtain ⟨cs2637, hr2638, hx2639⟩ := he2636 x2354.toNat _ (getD_some (d := 0) (by omega))
                          obtain rfl := hr2638
                          refine WL.val (Yl.load (v := .int .i64 (a0.getD x2354.toNat 0)) rfl Try.underlying3 rfl (((C2587.fro)).cell (hx2639 0 _ rfl))) ?_
                          refine WL.val (Yl.move (v := .int .i64 x1391) ho2584) ?_
                          refine WL.val (Yl.gtr (m := a0.getD x2354.toNat 0) (n := x1391) (q := decide ((a0.getD x2354.toNat 0) > x1391)) rfl rfl rfl) ?_
                          refine WL.done ?_
                          rcases iteE hX2337 with ⟨hc2640, hX2337⟩ | ⟨hc2640, hX2337⟩
                          · skip
                            refine W.condT (congrArg Value.bool (decide_eq_true hc2640)) ?_
                            refine W.region rfl ?_
                            refine WL.val (Yl.move (v := .int .i64 x2352) ho2585) ?_
                            refine WL.val (Yl.move (v := .slice A1 n3 c2) ho2572) ?_
                            refine WL.val (Yl.move (v := .int .i64 x2354) ho2586) ?_
                            refine WL.val (Yl.elemAddr (i := x2354) rfl rfl hA2635 Try.underlying22 sz3 (by omega)) ?_
                            refine WL.val (Yl.load (v := .int .i64 (a0.getD x2354.toNat 0)) rfl Try.underlying3 rfl (((C2587.fro)).cell (hx2639 0 _ rfl))) ?_
                            refine WL.val (Yl.min2 (m := x2352) (n := a0.getD x2354.toNat 0) (r := (if (a0.getD x2354.toNat 0) < x2352 then a0.getD x2354.toNat 0 else x2352)) rfl rfl rfl) ?_
                            refine WL.val (Yl.assign (v := .int .i64 (if (a0.getD x2354.toNat 0) < x2352 then a0.getD x2354.toNat 0 else x2352)) rfl) ?_
                            refine WL.done ?_
                            refine inB_n ?_
                            refine W.region rfl ?_
                            refine WL.val (Yl.move (v := .int .i64 x2354) ho2586) ?_
                            refine WL.val (Yl.add (m := x2354) (n := 1) (r := wi64 (x2354 + 1)) rfl rfl rfl) ?_
                            refine WL.val (Yl.assign (v := .int .i64 (wi64 (x2354 + 1))) rfl) ?_
                            refine WL.done ?_
                            exact thenE_n ⟨k2498, Nat.lt_succ_self _, x2577, (if (a0.getD x2354.toNat 0) < x2352 then a0.getD x2354.toNat 0 else x2352), wi64 (x2354 + 1), A2578, c2579, n2580, p2582, ho2572, ho2573, ho2574, ho2575, ho2576, ho2584, rfl, rfl, C2587, hn2581, hR2583, hX2337⟩
                          · skip
                            refine W.condF (congrArg Value.bool (decide_eq_false hc2640)) ?_
                            refine W.skip ?_
                            refine inB_n ?_
                            refine W.region rfl ?_
                            refine WL.val (Yl.move (v := .int .i64 x2354) ho2586) ?_
                            refine WL.val (Yl.add (m := x2354) (n := 1) (r := wi64 (x2354 + 1)) rfl rfl rfl) ?_
                            refine WL.val (Yl.assign (v := .int .i64 (wi64 (x2354 + 1))) rfl) ?_
                            refine WL.done ?_
                            exact thenE_n ⟨k2498, Nat.lt_succ_self _, x2577, x2352, wi64 (x2354 + 1), A2578, c2579, n2580, p2582, ho2572, ho2573, ho2574, ho2575, ho2576, ho2584, ho2585, rfl, C2587, hn2581, hR2583, hX2337⟩
                  · skip
                    refine W.condF (congrArg Value.bool (decide_eq_false hc2499)) ?_
                    refine W.exit ?_
                    refine thenE_x ?_
                    refine thenE_x ?_
                    refine inB_here ?_
                    cases hX2337
                    refine thenE_n ?_
                    exact ⟨A2344, c2345, n2346, p2348, ho2338, ho2339, ho2340, ho2341, ho2342, ho2351, C2355, hn2347, hR2349⟩
                · skip
                  rintro env_ w_ ⟨A2328, c2329, n2330, p2332, ho2322, ho2323, ho2324, ho2325, ho2326, ho2334, C2336, hn2331, hR2333⟩
                  refine W.region rfl ?_
                  refine WL.val (Yl.move (v := .int .i64 x2335) ho2334) ?_
                  refine WL.val (Yl.assign (v := .int .i64 x2335) rfl) ?_
                  refine WL.done ?_
                  refine inB_n ?_
                  exact thenE_n ⟨k2016, Nat.lt_succ_self _, x2327, x2335, A2328, c2329, n2330, p2332, ho2322, ho2323, ho2324, ho2325, ho2326, rfl, C2336, hn2331, hR2333, hX1377⟩
              · skip
                refine W.condF (congrArg Value.bool (decide_eq_false hc2018)) ?_
                refine W.exit ?_
                refine thenE_x ?_
                refine thenE_x ?_
                refine inB_here ?_
                cases hX1377
                refine thenE_n ?_
                exact ⟨A1384, c1385, n1386, p1388, ho1382, C1392, hn1387, hR1389⟩
            · skip
              rintro env_ w_ ⟨A1370, c1371, n1372, p1374, ho1368, C1376, hn1373, hR1375⟩
              refine W.seq ?_
              refine W.region rfl ?_
              refine WL.val (Yl.move (v := .slice A1370 n1372 c1371) ho1368) ?_
              refine WL.val (Yl.assign (v := .slice A1370 n1372 c1371) rfl) ?_
              refine WL.val (Yl.assign (v := .int .i64 0) rfl) ?_
              refine WL.done ?_
              refine W.ret ?_
              cases H
              exact post_r (resE2 rfl rfl rfl) ⟨A1370, c1371, n1372, p1374, rfl, C1376, hn1373, hR1375⟩
end Go.Proofs.Ytcmoclekbifhbaa
