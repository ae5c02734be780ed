/- Functions of the program: each as a plain function of numbers and lists, and the proof that the program's own comes to it. Nothing is assumed but what each theorem says. -/
import Derived.Test.YtobdpbnadjkhiaaTGt
namespace Go.Proofs.Ytobdpbnadjkhiaa
open Go.RowKit Go.WG
set_option linter.unusedVariables false
set_option linter.unusedSimpArgs false
def juratref01_Same.l1 : Nat → List Int → List Int → Int → Option (Sum Unit Bool)
  | 0, _, _, _ => none
  | k + 1, a0, a1, x72 => if x72 < (a0.length : Int) then (if 0 ≤ x72 ∧ x72 < (a0.length : Int) then (if 0 ≤ x72 ∧ x72 < (a1.length : Int) then (if (a0.getD x72.toNat 0) = (a1.getD x72.toNat 0) then (juratref01_Same.l1 k a0 a1 (wi64 (x72 + 1))) else (some (Sum.inr false))) else none) else none) else (some (Sum.inl ()))
def juratref01_Same.f (k : Nat) (a0 : List Int) (a1 : List Int) : Option Bool := if (a0.length : Int) = (a1.length : Int) then ((juratref01_Same.l1 k a0 a1 0).bind fun o_ => sumE o_ (fun _ => some true) (fun p_ => some p_)) else (some false)
set_option maxRecDepth 100000 in
set_option maxHeartbeats 4000000 in
theorem juratref01_Same.calls (k : Nat) (w : World) (F : CH) (A1 : Option Addr) (c2 : Nat) (n3 : Nat) (a0 : List Int) (A8 : Option Addr) (c9 : Nat) (n10 : Nat) (a1 : List Int) (hp : Pre w F []) (hn4 : n3 = a0.length) (hl5 : a0.length ≤ c2) (hm6 : c2 ≤ maxLen) (hS7 : Sl (Kd.int .u8) F F A1 a0) (hn11 : n10 = a1.length) (hl12 : a1.length ≤ c9) (hm13 : c9 ≤ maxLen) (hS14 : Sl (Kd.int .u8) F F A8 a1) (r0_ : Bool) (H : juratref01_Same.f k a0 a1 = some r0_) :
    Calls Try.prog 21 #[.slice A1 n3 c2, .slice A8 n10 c9] w fun e w' => e = .returned (.bool r0_) ∧ (∃ n_, w' = w.drewN n_) := by
 have C := Ctx.start hp
 generalize domL [] = D at C
 have W0 : ∃ n_, w = w.drewN n_ := ⟨0, rfl⟩
 unfold juratref01_Same.f at H
 refine Calls.ofW Try.func21 rfl (by simp [Try.ntmps21]) ?_
 refine W.seq ?_
 refine W.region rfl ?_
 refine WL.val (Yl.assign (v := .bool false) rfl) ?_
 refine WL.done ?_
 refine W.seq ?_
 refine W.seq ?_
 refine W.region rfl ?_
 refine WL.val (Yl.move (v := .slice A1 n3 c2) rfl) ?_
 refine WL.val (Yl.lenN (A := A1) (l := n3) (q := c2) (n := (a0.length : Int)) rfl Try.underlying44 (by omega)) ?_
 refine WL.val (Yl.move (v := .slice A8 n10 c9) rfl) ?_
 refine WL.val (Yl.lenN (A := A8) (l := n10) (q := c9) (n := (a1.length : Int)) rfl Try.underlying44 (by omega)) ?_
 refine WL.val (Yl.neq (m := (a0.length : Int)) (n := (a1.length : Int)) (q := !decide ((a0.length : Int) = (a1.length : Int))) rfl rfl rfl) ?_
 refine WL.done ?_
 rcases iteE H with ⟨hc15, H⟩ | ⟨hc15, H⟩
 ·refine W.condF (congrArg Value.bool (ndec_t hc15)) ?_
  refine W.skip ?_
  refine W.seq ?_
  refine W.seq ?_
  refine W.region rfl ?_
  refine WL.val (Yl.assign (v := .int .i64 0) rfl) ?_
  refine WL.done ?_
  obtain ⟨o68, hX67, H⟩ := bindE H
  refine W.cutM (fun env_ w_ => Ctx w F D w_ F [] ∧ (∃ n_, w_ = w.drewN n_) ∧ o68 = Sum.inl ()) ?_ ?_
  ·refine W.block ?_
   refine W.loop (fun g_ env_ w_ => ∃ (x72 : Int), env_ 0 = .slice A1 n3 c2 ∧ env_ 1 = .slice A8 n10 c9 ∧ env_ 5 = .int .i64 x72 ∧ Ctx w F D w_ F [] ∧ (∃ n_, w_ = w.drewN n_) ∧ juratref01_Same.l1 g_ a0 a1 x72 = some o68) k ⟨0, rfl, rfl, rfl, C, W0, hX67⟩ ?_
   clear hX67
   rintro g_ env_ w_ ⟨x72, ho69, ho70, ho71, C73, Wq74, hX67⟩
   rcases g_ with _ | k96
   · exact absurd hX67 (by simp [juratref01_Same.l1])
   rw [juratref01_Same.l1] at hX67
   refine W.seq ?_
   refine W.seq ?_
   refine W.region rfl ?_
   refine WL.val (Yl.move (v := .int .i64 x72) ho71) ?_
   refine WL.val (Yl.move (v := .slice A1 n3 c2) ho69) ?_
   refine WL.val (Yl.lenN (A := A1) (l := n3) (q := c2) (n := (a0.length : Int)) rfl Try.underlying44 (by omega)) ?_
   refine WL.val (Yl.lss (m := x72) (n := (a0.length : Int)) (q := decide (x72 < (a0.length : Int))) rfl rfl rfl) ?_
   refine WL.done ?_
   rcases iteE hX67 with ⟨hc97, hX67⟩ | ⟨hc97, hX67⟩
   ·refine W.condT (congrArg Value.bool (decide_eq_true hc97)) ?_
    refine W.skip ?_
    refine W.seq ?_
    refine W.block ?_
    refine W.seq ?_
    refine W.region_quiet (by kernel_rfl) (by kernel_rfl) rfl ?_
    refine WQ.vl (fun _ => Yl.move (v := .slice A1 n3 c2) ho69) ?_
    refine WQ.vl (fun _ => Yl.move (v := .int .i64 x72) ho71) ?_
    obtain ⟨hc98, hX67⟩ := guardE hX67
    obtain ⟨b99, of100, hA101, he102⟩ := hS7 (by omega)
    refine WQ.vl (fun _ => Yl.elemAddr (i := x72) rfl rfl hA101 Try.underlying44 sz5 (by omega)) ?_
    obtain ⟨cs103, hr104, hx105⟩ := he102 x72.toNat _ (getD_some (d := 0) (by omega))
    obtain rfl := hr104
    refine WQ.vl (fun _ => Yl.load (v := .int .u8 (a0.getD x72.toNat 0)) rfl Try.underlying5 rfl ((((C73.drewN _).fro)).cell (hx105 0 _ rfl))) ?_
    refine WQ.vl (fun _ => Yl.move (v := .slice A8 n10 c9) ho70) ?_
    refine WQ.vl (fun _ => Yl.move (v := .int .i64 x72) ho71) ?_
    obtain ⟨hc106, hX67⟩ := guardE hX67
    obtain ⟨b107, of108, hA109, he110⟩ := hS14 (by omega)
    refine WQ.vl (fun _ => Yl.elemAddr (i := x72) rfl rfl hA109 Try.underlying44 sz5 (by omega)) ?_
    obtain ⟨cs111, hr112, hx113⟩ := he110 x72.toNat _ (getD_some (d := 0) (by omega))
    obtain rfl := hr112
    refine WQ.vl (fun _ => Yl.load (v := .int .u8 (a1.getD x72.toNat 0)) rfl Try.underlying5 rfl ((((C73.drewN _).fro)).cell (hx113 0 _ rfl))) ?_
    refine WQ.vl (fun _ => Yl.neq (m := a0.getD x72.toNat 0) (n := a1.getD x72.toNat 0) (q := !decide ((a0.getD x72.toNat 0) = (a1.getD x72.toNat 0))) rfl rfl rfl) ?_
    refine WQ.done (fun nq114 => ?_)
    have C115 := Ctx.drewN C73 nq114
    have Wq116 := drew_more Wq74 nq114
    rcases iteE hX67 with ⟨hc117, hX67⟩ | ⟨hc117, hX67⟩
    ·refine W.condF (congrArg Value.bool (ndec_t hc117)) ?_
     refine W.skip ?_
     refine inB_n ?_
     refine W.region rfl ?_
     refine WL.val (Yl.move (v := .int .i64 x72) ho71) ?_
     refine WL.val (Yl.add (m := x72) (n := 1) (r := wi64 (x72 + 1)) rfl rfl rfl) ?_
     refine WL.val (Yl.assign (v := .int .i64 (wi64 (x72 + 1))) rfl) ?_
     refine WL.done ?_
     exact thenE_n ⟨k96, Nat.lt_succ_self _, wi64 (x72 + 1), ho69, ho70, rfl, C115, Wq116, hX67⟩
    ·refine W.condT (congrArg Value.bool (ndec_f hc117)) ?_
     refine W.seq ?_
     refine W.region rfl ?_
     refine WL.val (Yl.assign (v := .bool false) rfl) ?_
     refine WL.done ?_
     refine W.ret ?_
     refine inB_r ?_
     refine thenE_r ?_
     refine thenE_r ?_
     refine inB_r ?_
     refine thenE_r ?_
     refine thenE_r ?_
     cases hX67
     replace H := sumE_r H
     have e118 := Option.some.inj H
     subst e118
     exact post_r (resE1 rfl rfl) ⟨rfl, Wq116⟩
   ·refine W.condF (congrArg Value.bool (decide_eq_false hc97)) ?_
    refine W.exit ?_
    refine thenE_x ?_
    refine thenE_x ?_
    refine inB_here ?_
    cases hX67
    refine thenE_n ?_
    exact ⟨C73, Wq74, rfl⟩
  ·rintro env_ w_ ⟨C65, Wq66, rfl⟩
   replace H := sumE_l H
   refine W.seq ?_
   refine W.region rfl ?_
   refine WL.val (Yl.assign (v := .bool true) rfl) ?_
   refine WL.done ?_
   refine W.ret ?_
   have e119 := Option.some.inj H
   subst e119
   exact post_r (resE1 rfl rfl) ⟨rfl, Wq66⟩
 ·refine W.condT (congrArg Value.bool (ndec_f hc15)) ?_
  refine W.seq ?_
  refine W.region rfl ?_
  refine WL.val (Yl.assign (v := .bool false) rfl) ?_
  refine WL.done ?_
  refine W.ret ?_
  refine thenE_r ?_
  have e120 := Option.some.inj H
  subst e120
  exact post_r (resE1 rfl rfl) ⟨rfl, W0⟩
end Go.Proofs.Ytobdpbnadjkhiaa
