/- Functions of the program: each as a plain function of numbers and lists, and the proof that the program's own comes to it. Nothing is assumed but what each theorem says. -/
import Derived.Test.YtnlpmnegjgjiiaaGreatDoorGt
namespace Go.Proofs.YtnlpmnegjgjiiaaGreatDoor
open Go.RowKit Go.WG
set_option linter.unusedVariables false
set_option linter.unusedSimpArgs false

/-! ### math/bits.Len32: function 278 -/
def bits_Len32.f (k : Nat) (a0 : Int) : Option Int := (if a0 ≥ 65536 then (some (shrOp .u32 a0 16, 16)) else (some (a0, 0))).bind fun ⟨x3, x5⟩ => if x3 ≥ 256 then (if 0 ≤ (wu8 (shrOp .u32 x3 8)) ∧ (wu8 (shrOp .u32 x3 8)) < (text0.size : Int) then (some (wi64 ((wi64 (x5 + 8)) + (wi64 (sget text0 (wu8 (shrOp .u32 x3 8))))))) else none) else (if 0 ≤ (wu8 x3) ∧ (wu8 x3) < (text0.size : Int) then (some (wi64 (x5 + (wi64 (sget text0 (wu8 x3)))))) else none)
set_option maxRecDepth 100000 in
set_option maxHeartbeats 4000000 in
theorem bits_Len32.calls (k : Nat) (w : World) (F : CH) (a0 : Int) (hp : Pre w F [])  (r0_ : Int) (H : bits_Len32.f k a0 = some r0_) :
    Calls Tryz.prog 278 #[.int .u32 a0] w fun e w' => e = .returned (.int .i64 r0_) ∧ (∃ n_, w' = w.drewN n_) := by
  have C := Ctx.start hp
  generalize domL [] = D at C
  have W0 : ∃ n_, w = w.drewN n_ := ⟨0, rfl⟩
  unfold bits_Len32.f at H
  refine Calls.ofW Tryz.func278 rfl (by simp [Tryz.ntmps278]) ?_
  refine W.seq ?_
  refine W.region rfl ?_
  refine WL.val (Yl.assign (v := .int .i64 0) rfl) ?_
  refine WL.done ?_
  refine W.seq ?_
  obtain ⟨⟨x3, x5⟩, hX8, H⟩ := bindE H
  refine W.cutM (fun env_ w_ => env_ 0 = .int .u32 x3 ∧ env_ 2 = .int .i64 x5 ∧ Ctx w F D w_ F [] ∧ (∃ n_, w_ = w.drewN n_)) ?_ ?_
  · skip
    refine W.seq ?_
    refine W.region rfl ?_
    refine WL.val (Yl.move (v := .int .u32 a0) rfl) ?_
    refine WL.val (Yl.geq (m := a0) (n := 65536) (q := decide (a0 ≥ 65536)) rfl rfl rfl) ?_
    refine WL.done ?_
    rcases iteE hX8 with ⟨hc9, hX8⟩ | ⟨hc9, hX8⟩
    · skip
      refine W.condT (congrArg Value.bool (decide_eq_true hc9)) ?_
      refine W.seq ?_
      refine W.region rfl ?_
      refine WL.val (Yl.move (v := .int .u32 a0) rfl) ?_
      refine WL.val (Yl.shr (m := a0) (n := 16) (r := shrOp .u32 a0 16) rfl rfl (by decide) rfl) ?_
      refine WL.val (Yl.assign (v := .int .u32 (shrOp .u32 a0 16)) rfl) ?_
      refine WL.done ?_
      refine W.region rfl ?_
      refine WL.val (Yl.assign (v := .int .i64 16) rfl) ?_
      refine WL.done ?_
      cases hX8
      refine thenE_n ?_
      exact ⟨rfl, rfl, C, W0⟩
    · skip
      refine W.condF (congrArg Value.bool (decide_eq_false hc9)) ?_
      refine W.skip ?_
      cases hX8
      refine thenE_n ?_
      exact ⟨rfl, rfl, C, W0⟩
  · skip
    rintro env_ w_ ⟨ho2, ho4, C6, Wq7⟩
    refine W.seq ?_
    refine W.seq ?_
    refine W.region rfl ?_
    refine WL.val (Yl.move (v := .int .u32 x3) ho2) ?_
    refine WL.val (Yl.geq (m := x3) (n := 256) (q := decide (x3 ≥ 256)) rfl rfl rfl) ?_
    refine WL.done ?_
    rcases iteE H with ⟨hc10, H⟩ | ⟨hc10, H⟩
    · skip
      refine W.condT (congrArg Value.bool (decide_eq_true hc10)) ?_
      refine W.seq ?_
      refine W.region rfl ?_
      refine WL.val (Yl.move (v := .int .u32 x3) ho2) ?_
      refine WL.val (Yl.shr (m := x3) (n := 8) (r := shrOp .u32 x3 8) rfl rfl (by decide) rfl) ?_
      refine WL.val (Yl.assign (v := .int .u32 (shrOp .u32 x3 8)) rfl) ?_
      refine WL.done ?_
      refine W.region rfl ?_
      refine WL.val (Yl.move (v := .int .i64 x5) ho4) ?_
      refine WL.val (Yl.add (m := x5) (n := 8) (r := wi64 (x5 + 8)) rfl rfl rfl) ?_
      refine WL.val (Yl.assign (v := .int .i64 (wi64 (x5 + 8))) rfl) ?_
      refine WL.done ?_
      refine W.seq ?_
      refine W.region rfl ?_
      refine WL.val (Yl.move (v := .int .i64 (wi64 (x5 + 8))) rfl) ?_
      refine WL.val (Yl.move (v := .int .u32 (shrOp .u32 x3 8)) rfl) ?_
      refine WL.val (Yl.conv (m := shrOp .u32 x3 8) (r := wu8 (shrOp .u32 x3 8)) rfl Tryz.underlying247 Tryz.underlying5 rfl) ?_
      obtain ⟨hc11, H⟩ := guardE H
      refine WL.val (Yl.indexStr (s := text0) (i := wu8 (shrOp .u32 x3 8)) rfl rfl Tryz.underlying9 hc11) ?_
      refine WL.val (Yl.conv (m := sget text0 (wu8 (shrOp .u32 x3 8))) (r := wi64 (sget text0 (wu8 (shrOp .u32 x3 8)))) rfl Tryz.underlying5 Tryz.underlying3 rfl) ?_
      refine WL.val (Yl.add (m := wi64 (x5 + 8)) (n := wi64 (sget text0 (wu8 (shrOp .u32 x3 8)))) (r := wi64 ((wi64 (x5 + 8)) + (wi64 (sget text0 (wu8 (shrOp .u32 x3 8)))))) rfl rfl rfl) ?_
      refine WL.val (Yl.assign (v := .int .i64 (wi64 ((wi64 (x5 + 8)) + (wi64 (sget text0 (wu8 (shrOp .u32 x3 8))))))) rfl) ?_
      refine WL.done ?_
      refine W.ret ?_
      have e12 := Option.some.inj H
      subst e12
      exact post_r (resE1 rfl rfl) ⟨rfl, Wq7⟩
    · skip
      refine W.condF (congrArg Value.bool (decide_eq_false hc10)) ?_
      refine W.skip ?_
      refine W.seq ?_
      refine W.region rfl ?_
      refine WL.val (Yl.move (v := .int .i64 x5) ho4) ?_
      refine WL.val (Yl.move (v := .int .u32 x3) ho2) ?_
      refine WL.val (Yl.conv (m := x3) (r := wu8 x3) rfl Tryz.underlying247 Tryz.underlying5 rfl) ?_
      obtain ⟨hc13, H⟩ := guardE H
      refine WL.val (Yl.indexStr (s := text0) (i := wu8 x3) rfl rfl Tryz.underlying9 hc13) ?_
      refine WL.val (Yl.conv (m := sget text0 (wu8 x3)) (r := wi64 (sget text0 (wu8 x3))) rfl Tryz.underlying5 Tryz.underlying3 rfl) ?_
      refine WL.val (Yl.add (m := x5) (n := wi64 (sget text0 (wu8 x3))) (r := wi64 (x5 + (wi64 (sget text0 (wu8 x3))))) rfl rfl rfl) ?_
      refine WL.val (Yl.assign (v := .int .i64 (wi64 (x5 + (wi64 (sget text0 (wu8 x3)))))) rfl) ?_
      refine WL.done ?_
      refine W.ret ?_
      have e14 := Option.some.inj H
      subst e14
      exact post_r (resE1 rfl rfl) ⟨rfl, Wq7⟩
/-! ### math/bits.Len64: function 279 -/
def bits_Len64.f (k : Nat) (a0 : Int) : Option Int := (if a0 ≥ 4294967296 then (some (shrOp .u64 a0 32, 32)) else (some (a0, 0))).bind fun ⟨x3, x5⟩ => (if x3 ≥ 65536 then (some (shrOp .u64 x3 16, wi64 (x5 + 16))) else (some (x3, x5))).bind fun ⟨x12, x14⟩ => if x12 ≥ 256 then (if 0 ≤ (wu8 (shrOp .u64 x12 8)) ∧ (wu8 (shrOp .u64 x12 8)) < (text0.size : Int) then (some (wi64 ((wi64 (x14 + 8)) + (wi64 (sget text0 (wu8 (shrOp .u64 x12 8))))))) else none) else (if 0 ≤ (wu8 x12) ∧ (wu8 x12) < (text0.size : Int) then (some (wi64 (x14 + (wi64 (sget text0 (wu8 x12)))))) else none)
set_option maxRecDepth 100000 in
set_option maxHeartbeats 4000000 in
theorem bits_Len64.calls (k : Nat) (w : World) (F : CH) (a0 : Int) (hp : Pre w F [])  (r0_ : Int) (H : bits_Len64.f k a0 = some r0_) :
    Calls Tryz.prog 279 #[.int .u64 a0] w fun e w' => e = .returned (.int .i64 r0_) ∧ (∃ n_, w' = w.drewN n_) := by
  have C := Ctx.start hp
  generalize domL [] = D at C
  have W0 : ∃ n_, w = w.drewN n_ := ⟨0, rfl⟩
  unfold bits_Len64.f at H
  refine Calls.ofW Tryz.func279 rfl (by simp [Tryz.ntmps279]) ?_
  refine W.seq ?_
  refine W.region rfl ?_
  refine WL.val (Yl.assign (v := .int .i64 0) rfl) ?_
  refine WL.done ?_
  refine W.seq ?_
  obtain ⟨⟨x3, x5⟩, hX8, H⟩ := bindE H
  refine W.cutM (fun env_ w_ => env_ 0 = .int .u64 x3 ∧ env_ 2 = .int .i64 x5 ∧ Ctx w F D w_ F [] ∧ (∃ n_, w_ = w.drewN n_)) ?_ ?_
  · skip
    refine W.seq ?_
    refine W.region rfl ?_
    refine WL.val (Yl.move (v := .int .u64 a0) rfl) ?_
    refine WL.val (Yl.geq (m := a0) (n := 4294967296) (q := decide (a0 ≥ 4294967296)) rfl rfl rfl) ?_
    refine WL.done ?_
    rcases iteE hX8 with ⟨hc9, hX8⟩ | ⟨hc9, hX8⟩
    · skip
      refine W.condT (congrArg Value.bool (decide_eq_true hc9)) ?_
      refine W.seq ?_
      refine W.region rfl ?_
      refine WL.val (Yl.move (v := .int .u64 a0) rfl) ?_
      refine WL.val (Yl.shr (m := a0) (n := 32) (r := shrOp .u64 a0 32) rfl rfl (by decide) rfl) ?_
      refine WL.val (Yl.assign (v := .int .u64 (shrOp .u64 a0 32)) rfl) ?_
      refine WL.done ?_
      refine W.region rfl ?_
      refine WL.val (Yl.assign (v := .int .i64 32) rfl) ?_
      refine WL.done ?_
      cases hX8
      refine thenE_n ?_
      exact ⟨rfl, rfl, C, W0⟩
    · skip
      refine W.condF (congrArg Value.bool (decide_eq_false hc9)) ?_
      refine W.skip ?_
      cases hX8
      refine thenE_n ?_
      exact ⟨rfl, rfl, C, W0⟩
  · skip
    rintro env_ w_ ⟨ho2, ho4, C6, Wq7⟩
    refine W.seq ?_
    obtain ⟨⟨x12, x14⟩, hX17, H⟩ := bindE H
    refine W.cutM (fun env_ w_ => env_ 0 = .int .u64 x12 ∧ env_ 2 = .int .i64 x14 ∧ Ctx w F D w_ F [] ∧ (∃ n_, w_ = w.drewN n_)) ?_ ?_
    · skip
      refine W.seq ?_
      refine W.region rfl ?_
      refine WL.val (Yl.move (v := .int .u64 x3) ho2) ?_
      refine WL.val (Yl.geq (m := x3) (n := 65536) (q := decide (x3 ≥ 65536)) rfl rfl rfl) ?_
      refine WL.done ?_
      rcases iteE hX17 with ⟨hc18, hX17⟩ | ⟨hc18, hX17⟩
      · skip
        refine W.condT (congrArg Value.bool (decide_eq_true hc18)) ?_
        refine W.seq ?_
        refine W.region rfl ?_
        refine WL.val (Yl.move (v := .int .u64 x3) ho2) ?_
        refine WL.val (Yl.shr (m := x3) (n := 16) (r := shrOp .u64 x3 16) rfl rfl (by decide) rfl) ?_
        refine WL.val (Yl.assign (v := .int .u64 (shrOp .u64 x3 16)) rfl) ?_
        refine WL.done ?_
        refine W.region rfl ?_
        refine WL.val (Yl.move (v := .int .i64 x5) ho4) ?_
        refine WL.val (Yl.add (m := x5) (n := 16) (r := wi64 (x5 + 16)) rfl rfl rfl) ?_
        refine WL.val (Yl.assign (v := .int .i64 (wi64 (x5 + 16))) rfl) ?_
        refine WL.done ?_
        cases hX17
        refine thenE_n ?_
        exact ⟨rfl, rfl, C6, Wq7⟩
      · skip
        refine W.condF (congrArg Value.bool (decide_eq_false hc18)) ?_
        refine W.skip ?_
        cases hX17
        refine thenE_n ?_
        exact ⟨ho2, ho4, C6, Wq7⟩
    · skip
      rintro env_ w_ ⟨ho11, ho13, C15, Wq16⟩
      refine W.seq ?_
      refine W.seq ?_
      refine W.region rfl ?_
      refine WL.val (Yl.move (v := .int .u64 x12) ho11) ?_
      refine WL.val (Yl.geq (m := x12) (n := 256) (q := decide (x12 ≥ 256)) rfl rfl rfl) ?_
      refine WL.done ?_
      rcases iteE H with ⟨hc19, H⟩ | ⟨hc19, H⟩
      · skip
        refine W.condT (congrArg Value.bool (decide_eq_true hc19)) ?_
        refine W.seq ?_
        refine W.region rfl ?_
        refine WL.val (Yl.move (v := .int .u64 x12) ho11) ?_
        refine WL.val (Yl.shr (m := x12) (n := 8) (r := shrOp .u64 x12 8) rfl rfl (by decide) rfl) ?_
        refine WL.val (Yl.assign (v := .int .u64 (shrOp .u64 x12 8)) rfl) ?_
        refine WL.done ?_
        refine W.region rfl ?_
        refine WL.val (Yl.move (v := .int .i64 x14) ho13) ?_
        refine WL.val (Yl.add (m := x14) (n := 8) (r := wi64 (x14 + 8)) rfl rfl rfl) ?_
        refine WL.val (Yl.assign (v := .int .i64 (wi64 (x14 + 8))) rfl) ?_
        refine WL.done ?_
        refine W.seq ?_
        refine W.region rfl ?_
        refine WL.val (Yl.move (v := .int .i64 (wi64 (x14 + 8))) rfl) ?_
        refine WL.val (Yl.move (v := .int .u64 (shrOp .u64 x12 8)) rfl) ?_
        refine WL.val (Yl.conv (m := shrOp .u64 x12 8) (r := wu8 (shrOp .u64 x12 8)) rfl Tryz.underlying97 Tryz.underlying5 rfl) ?_
        obtain ⟨hc20, H⟩ := guardE H
        refine WL.val (Yl.indexStr (s := text0) (i := wu8 (shrOp .u64 x12 8)) rfl rfl Tryz.underlying9 hc20) ?_
        refine WL.val (Yl.conv (m := sget text0 (wu8 (shrOp .u64 x12 8))) (r := wi64 (sget text0 (wu8 (shrOp .u64 x12 8)))) rfl Tryz.underlying5 Tryz.underlying3 rfl) ?_
        refine WL.val (Yl.add (m := wi64 (x14 + 8)) (n := wi64 (sget text0 (wu8 (shrOp .u64 x12 8)))) (r := wi64 ((wi64 (x14 + 8)) + (wi64 (sget text0 (wu8 (shrOp .u64 x12 8)))))) rfl rfl rfl) ?_
        refine WL.val (Yl.assign (v := .int .i64 (wi64 ((wi64 (x14 + 8)) + (wi64 (sget text0 (wu8 (shrOp .u64 x12 8))))))) rfl) ?_
        refine WL.done ?_
        refine W.ret ?_
        have e21 := Option.some.inj H
        subst e21
        exact post_r (resE1 rfl rfl) ⟨rfl, Wq16⟩
      · skip
        refine W.condF (congrArg Value.bool (decide_eq_false hc19)) ?_
        refine W.skip ?_
        refine W.seq ?_
        refine W.region rfl ?_
        refine WL.val (Yl.move (v := .int .i64 x14) ho13) ?_
        refine WL.val (Yl.move (v := .int .u64 x12) ho11) ?_
        refine WL.val (Yl.conv (m := x12) (r := wu8 x12) rfl Tryz.underlying97 Tryz.underlying5 rfl) ?_
        obtain ⟨hc22, H⟩ := guardE H
        refine WL.val (Yl.indexStr (s := text0) (i := wu8 x12) rfl rfl Tryz.underlying9 hc22) ?_
        refine WL.val (Yl.conv (m := sget text0 (wu8 x12)) (r := wi64 (sget text0 (wu8 x12))) rfl Tryz.underlying5 Tryz.underlying3 rfl) ?_
        refine WL.val (Yl.add (m := x14) (n := wi64 (sget text0 (wu8 x12))) (r := wi64 (x14 + (wi64 (sget text0 (wu8 x12))))) rfl rfl rfl) ?_
        refine WL.val (Yl.assign (v := .int .i64 (wi64 (x14 + (wi64 (sget text0 (wu8 x12)))))) rfl) ?_
        refine WL.done ?_
        refine W.ret ?_
        have e23 := Option.some.inj H
        subst e23
        exact post_r (resE1 rfl rfl) ⟨rfl, Wq16⟩
/-! ### math/bits.Len: function 268 -/
def bits_Len.f (k : Nat) (a0 : Int) : Option Int := (bits_Len64.f k a0).bind fun r2 => some r2
set_option maxRecDepth 100000 in
set_option maxHeartbeats 4000000 in
theorem bits_Len.calls (k : Nat) (w : World) (F : CH) (a0 : Int) (hp : Pre w F [])  (r0_ : Int) (H : bits_Len.f k a0 = some r0_) :
    Calls Tryz.prog 268 #[.int .u64 a0] w fun e w' => e = .returned (.int .i64 r0_) ∧ (∃ n_, w' = w.drewN n_) := by
  have C := Ctx.start hp
  generalize domL [] = D at C
  have W0 : ∃ n_, w = w.drewN n_ := ⟨0, rfl⟩
  unfold bits_Len.f at H
  refine Calls.ofW Tryz.func268 rfl (by simp [Tryz.ntmps268]) ?_
  refine W.seq ?_
  refine W.region rfl ?_
  refine WL.val (Yl.assign (v := .int .i64 0) rfl) ?_
  refine WL.done ?_
  refine W.seq ?_
  refine W.condF rfl ?_
  refine W.skip ?_
  refine W.seq ?_
  refine W.region rfl ?_
  refine WL.val (Yl.move (v := .int .u64 a0) rfl) ?_
  obtain ⟨r2, hg1, H⟩ := bindE H
  refine WL.call (args := #[.int .u64 a0]) (Yenter.fn Tryz.func279 (by kernel_rfl) rfl (argsE (.cons rfl .nil))) (bits_Len64.calls k _ F a0 C.pre0  r2 hg1) ?_
  rintro e_ w_ ⟨rfl, ⟨m3, rfl⟩⟩
  refine ⟨_, rfl, ?_⟩
  have C4 := Ctx.drewN C m3
  have Wq5 := drew_more W0 m3
  refine WL.val (Yl.assign (v := .int .i64 r2) rfl) ?_
  refine WL.done ?_
  refine W.ret ?_
  have e6 := Option.some.inj H
  subst e6
  exact post_r (resE1 rfl rfl) ⟨rfl, Wq5⟩
/-! ### jurat/bits.Number: function 81 -/
def bits_Number.l1 : Nat → List Int → Int → Int → Option Int
  | 0, _, _, _ => none
  | k + 1, a0, x44, x48 => if x48 < (a0.length : Int) then (if 0 ≤ x48 ∧ x48 < (a0.length : Int) then (bits_Number.l1 k a0 (bitsOp .or .u64 (shlOp .u64 x44 8) (wu64 (a0.getD x48.toNat 0))) (wi64 (x48 + 1))) else none) else (some x44)
def bits_Number.f (k : Nat) (a0 : List Int) : Option (Int × Int) := if (a0.length : Int) > 8 then (some (0, 1)) else ((bits_Number.l1 k a0 0 0).bind fun x39 => some (x39, 0))
set_option maxRecDepth 100000 in
set_option maxHeartbeats 4000000 in
theorem bits_Number.calls (k : Nat) (w : World) (F : CH) (A1 : Option Addr) (c2 : Nat) (n3 : Nat) (a0 : List Int) (hp : Pre w F []) (hn4 : n3 = a0.length) (hl5 : a0.length ≤ c2) (hm6 : c2 ≤ maxLen) (hS7 : Sl (Kd.int .u8) F F A1 a0) (r0_ : Int) (r1_ : Int) (H : bits_Number.f k a0 = some (r0_, r1_)) :
    Calls Tryz.prog 81 #[.slice A1 n3 c2] w fun e w' => e = .returned (.tuple #[(.int .u64 r0_), (.int .i64 r1_)]) ∧ (∃ n_, w' = w.drewN n_) := by
  have C := Ctx.start hp
  generalize domL [] = D at C
  have W0 : ∃ n_, w = w.drewN n_ := ⟨0, rfl⟩
  unfold bits_Number.f at H
  refine Calls.ofW Tryz.func81 rfl (by simp [Tryz.ntmps81]) ?_
  refine W.seq ?_
  refine W.region rfl ?_
  refine WL.val (Yl.assign (v := .int .u64 0) rfl) ?_
  refine WL.val (Yl.assign (v := .int .i64 0) rfl) ?_
  refine WL.done ?_
  refine W.seq ?_
  refine W.seq ?_
  refine W.region rfl ?_
  refine WL.val (Yl.move (v := .slice A1 n3 c2) rfl) ?_
  refine WL.val (Yl.lenN (A := A1) (l := n3) (q := c2) (n := (a0.length : Int)) rfl Tryz.underlying30 (by omega)) ?_
  refine WL.val (Yl.gtr (m := (a0.length : Int)) (n := 8) (q := decide ((a0.length : Int) > 8)) rfl rfl rfl) ?_
  refine WL.done ?_
  rcases iteE H with ⟨hc8, H⟩ | ⟨hc8, H⟩
  · skip
    refine W.condT (congrArg Value.bool (decide_eq_true hc8)) ?_
    refine W.seq ?_
    refine W.region rfl ?_
    refine WL.val (Yl.assign (v := .int .u64 0) rfl) ?_
    refine WL.val (Yl.assign (v := .int .i64 1) rfl) ?_
    refine WL.done ?_
    refine W.ret ?_
    refine thenE_r ?_
    simp only [Option.some.injEq, Prod.mk.injEq] at H
    obtain ⟨e9, e10⟩ := H
    subst e9 e10
    exact post_r (resE2 rfl rfl rfl) ⟨rfl, W0⟩
  · skip
    refine W.condF (congrArg Value.bool (decide_eq_false hc8)) ?_
    refine W.skip ?_
    refine W.seq ?_
    refine W.region rfl ?_
    refine WL.val (Yl.assign (v := .int .u64 0) rfl) ?_
    refine WL.done ?_
    refine W.seq ?_
    refine W.seq ?_
    refine W.region rfl ?_
    refine WL.val (Yl.move (v := .slice A1 n3 c2) rfl) ?_
    refine WL.val (Yl.lenN (A := A1) (l := n3) (q := c2) (n := (a0.length : Int)) rfl Tryz.underlying30 (by omega)) ?_
    refine WL.val (Yl.move (v := .int .i64 0) rfl) ?_
    refine WL.done ?_
    obtain ⟨x39, hX42, H⟩ := bindE H
    refine W.cutM (fun env_ w_ => env_ 4 = .int .u64 x39 ∧ Ctx w F D w_ F [] ∧ (∃ n_, w_ = w.drewN n_)) ?_ ?_
    · skip
      refine W.block ?_
      refine W.loop (fun g_ env_ w_ => ∃ (x44 : Int) (x48 : Int), env_ 4 = .int .u64 x44 ∧ env_ 10 = .slice A1 n3 c2 ∧ env_ 11 = .int .i64 (a0.length : Int) ∧ env_ 12 = .int .i64 x48 ∧ Ctx w F D w_ F [] ∧ (∃ n_, w_ = w.drewN n_) ∧ bits_Number.l1 g_ a0 x44 x48 = some x39) k ⟨0, 0, rfl, rfl, rfl, rfl, C, W0, hX42⟩ ?_
      clear hX42
      rintro g_ env_ w_ ⟨x44, x48, ho43, ho45, ho46, ho47, C49, Wq50, hX42⟩
      rcases g_ with _ | k60
      · exact absurd hX42 (by simp [bits_Number.l1])
      rw [bits_Number.l1] at hX42
      refine W.seq ?_
      refine W.region rfl ?_
      refine WL.val (Yl.lss (m := x48) (n := (a0.length : Int)) (q := decide (x48 < (a0.length : Int))) ho47 ho46 rfl) ?_
      refine WL.done ?_
      refine W.seq ?_
      rcases iteE hX42 with ⟨hc61, hX42⟩ | ⟨hc61, hX42⟩
      · skip
        refine W.condT (congrArg Value.bool (decide_eq_true hc61)) ?_
        refine W.skip ?_
        refine W.seq ?_
        refine W.block ?_
        refine W.seq ?_
        refine W.region rfl ?_
        obtain ⟨hc62, hX42⟩ := guardE hX42
        obtain ⟨b63, of64, hA65, he66⟩ := hS7 (by omega)
        refine WL.val (Yl.elemAddr (i := x48) ho45 ho47 hA65 Tryz.underlying30 sz5 (by omega)) ?_
        obtain ⟨cs67, hr68, hx69⟩ := he66 x48.toNat _ (getD_some (d := 0) (by omega))
        obtain rfl := hr68
        refine WL.val (Yl.load (v := .int .u8 (a0.getD x48.toNat 0)) rfl Tryz.underlying5 rfl (((C49.fro)).cell (hx69 0 _ rfl))) ?_
        refine WL.val (Yl.assign (v := .int .u8 (a0.getD x48.toNat 0)) rfl) ?_
        refine WL.done ?_
        refine W.region rfl ?_
        refine WL.val (Yl.move (v := .int .u64 x44) ho43) ?_
        refine WL.val (Yl.shl (m := x44) (n := 8) (r := shlOp .u64 x44 8) rfl rfl (by decide) rfl) ?_
        refine WL.val (Yl.move (v := .int .u8 (a0.getD x48.toNat 0)) rfl) ?_
        refine WL.val (Yl.conv (m := a0.getD x48.toNat 0) (r := wu64 (a0.getD x48.toNat 0)) rfl Tryz.underlying5 Tryz.underlying97 rfl) ?_
        refine WL.val (Yl.or (m := shlOp .u64 x44 8) (n := wu64 (a0.getD x48.toNat 0)) (r := bitsOp .or .u64 (shlOp .u64 x44 8) (wu64 (a0.getD x48.toNat 0))) rfl rfl rfl) ?_
        refine WL.val (Yl.assign (v := .int .u64 (bitsOp .or .u64 (shlOp .u64 x44 8) (wu64 (a0.getD x48.toNat 0)))) rfl) ?_
        refine WL.done ?_
        refine inB_n ?_
        refine W.region rfl ?_
        refine WL.val (Yl.add (m := x48) (n := 1) (r := wi64 (x48 + 1)) ho47 rfl rfl) ?_
        refine WL.val (Yl.move (v := .int .i64 (wi64 (x48 + 1))) rfl) ?_
        refine WL.done ?_
        exact thenE_n ⟨k60, Nat.lt_succ_self _, bitsOp .or .u64 (shlOp .u64 x44 8) (wu64 (a0.getD x48.toNat 0)), wi64 (x48 + 1), rfl, ho45, ho46, rfl, C49, Wq50, hX42⟩
      · skip
        refine W.condF (congrArg Value.bool (decide_eq_false hc61)) ?_
        refine W.exit ?_
        refine thenE_x ?_
        refine thenE_x ?_
        refine inB_here ?_
        cases hX42
        refine thenE_n ?_
        exact ⟨ho43, C49, Wq50⟩
    · skip
      rintro env_ w_ ⟨ho38, C40, Wq41⟩
      refine W.seq ?_
      refine W.region rfl ?_
      refine WL.val (Yl.move (v := .int .u64 x39) ho38) ?_
      refine WL.val (Yl.assign (v := .int .u64 x39) rfl) ?_
      refine WL.val (Yl.assign (v := .int .i64 0) rfl) ?_
      refine WL.done ?_
      refine W.ret ?_
      simp only [Option.some.injEq, Prod.mk.injEq] at H
      obtain ⟨e70, e71⟩ := H
      subst e70 e71
      exact post_r (resE2 rfl rfl rfl) ⟨rfl, Wq41⟩
/-! ### jurat/bits.Word: function 221 -/
def bits_Word.f (k : Nat) (a0 : List Int) (a1 : Int) : Option (Int × Int) := (if a1 < 0 then (some (true)) else (some (decide (a1 > (wi64 ((a0.length : Int) - 4)))))).bind fun g8 => if g8 = true then (some (0, 1)) else (if 0 ≤ a1 ∧ a1 ≤ (wi64 (a1 + 4)) ∧ (wi64 (a1 + 4)) ≤ (a0.length : Int) then ((bits_Number.f k ((a0.take ((wi64 (a1 + 4)).toNat)).drop a1.toNat)).bind fun ⟨r30, r31⟩ => some (wu32 r30, r31)) else none)
set_option maxRecDepth 100000 in
set_option maxHeartbeats 4000000 in
theorem bits_Word.calls (k : Nat) (w : World) (F : CH) (A1 : Option Addr) (c2 : Nat) (n3 : Nat) (a0 : List Int) (a1 : Int) (hp : Pre w F []) (hn4 : n3 = a0.length) (hl5 : a0.length ≤ c2) (hm6 : c2 ≤ maxLen) (hS7 : Sl (Kd.int .u8) F F A1 a0) (r0_ : Int) (r1_ : Int) (H : bits_Word.f k a0 a1 = some (r0_, r1_)) :
    Calls Tryz.prog 221 #[.slice A1 n3 c2, .int .i64 a1] w fun e w' => e = .returned (.tuple #[(.int .u32 r0_), (.int .i64 r1_)]) ∧ (∃ n_, w' = w.drewN n_) := by
  have C := Ctx.start hp
  generalize domL [] = D at C
  have W0 : ∃ n_, w = w.drewN n_ := ⟨0, rfl⟩
  unfold bits_Word.f at H
  refine Calls.ofW Tryz.func221 rfl (by simp [Tryz.ntmps221]) ?_
  refine W.seq ?_
  refine W.region rfl ?_
  refine WL.val (Yl.assign (v := .int .u32 0) rfl) ?_
  refine WL.val (Yl.assign (v := .int .i64 0) rfl) ?_
  refine WL.done ?_
  refine W.seq ?_
  refine W.seq ?_
  refine W.region rfl ?_
  refine WL.val (Yl.move (v := .int .i64 a1) rfl) ?_
  refine WL.val (Yl.lss (m := a1) (n := 0) (q := decide (a1 < 0)) rfl rfl rfl) ?_
  refine WL.val (Yl.move (v := .bool (decide (a1 < 0))) rfl) ?_
  obtain ⟨g8, HE9, H⟩ := bindE H
  refine WL.cut (fun env_ w_ => env_ 16 = .bool g8 ∧ env_ 0 = .slice A1 n3 c2 ∧ env_ 1 = .int .i64 a1 ∧ Ctx w F D w_ F [] ∧ (∃ n_, w_ = w.drewN n_)) ?_ ?_
  · skip
    rcases iteE HE9 with ⟨hc10, HE9⟩ | ⟨hc10, HE9⟩
    · skip
      refine WL.offs 5 10 false (congrArg Value.bool (decide_eq_true hc10)) rfl ?_
      refine WL.val (Yl.pickT (v := .bool true) (congrArg Value.bool (decide_eq_true hc10)) rfl) ?_
      cases HE9
      exact WL.done ⟨rfl, rfl, rfl, C, W0⟩
    · skip
      refine WL.valOn rfl (congrArg Value.bool (decide_eq_false hc10)) (Yl.move (v := .int .i64 a1) rfl) ?_
      refine WL.valOn rfl (congrArg Value.bool (decide_eq_false hc10)) (Yl.move (v := .slice A1 n3 c2) rfl) ?_
      refine WL.valOn rfl (congrArg Value.bool (decide_eq_false hc10)) (Yl.lenN (A := A1) (l := n3) (q := c2) (n := (a0.length : Int)) rfl Tryz.underlying30 (by omega)) ?_
      refine WL.valOn rfl (congrArg Value.bool (decide_eq_false hc10)) (Yl.sub (m := (a0.length : Int)) (n := 4) (r := wi64 ((a0.length : Int) - 4)) rfl rfl rfl) ?_
      refine WL.valOn rfl (congrArg Value.bool (decide_eq_false hc10)) (Yl.gtr (m := a1) (n := wi64 ((a0.length : Int) - 4)) (q := decide (a1 > (wi64 ((a0.length : Int) - 4)))) rfl rfl rfl) ?_
      refine WL.val (Yl.pickF (v := .bool (decide (a1 > (wi64 ((a0.length : Int) - 4))))) (congrArg Value.bool (decide_eq_false hc10)) rfl) ?_
      cases HE9
      exact WL.done ⟨rfl, rfl, rfl, C, W0⟩
  · skip
    rintro env_ w_ ⟨ho11, ho12, ho13, C14, Wq15⟩
    rcases iteE H with ⟨hc16, H⟩ | ⟨hc16, H⟩
    · skip
      refine W.condT (ho11.trans (congrArg Value.bool hc16)) ?_
      refine W.seq ?_
      refine W.region rfl ?_
      refine WL.val (Yl.assign (v := .int .u32 0) rfl) ?_
      refine WL.val (Yl.assign (v := .int .i64 1) rfl) ?_
      refine WL.done ?_
      refine W.ret ?_
      refine thenE_r ?_
      simp only [Option.some.injEq, Prod.mk.injEq] at H
      obtain ⟨e17, e18⟩ := H
      subst e17 e18
      exact post_r (resE2 rfl rfl rfl) ⟨rfl, Wq15⟩
    · skip
      refine W.condF (ho11.trans (congrArg Value.bool (Bool.eq_false_iff.2 hc16))) ?_
      refine W.skip ?_
      refine W.seq ?_
      refine W.region rfl ?_
      refine WL.val (Yl.move (v := .slice A1 n3 c2) ho12) ?_
      refine WL.val (Yl.move (v := .int .i64 a1) ho13) ?_
      refine WL.val (Yl.move (v := .int .i64 a1) ho13) ?_
      refine WL.val (Yl.add (m := a1) (n := 4) (r := wi64 (a1 + 4)) rfl rfl rfl) ?_
      obtain ⟨hc19, H⟩ := guardE H
      have hl28 : a0.length ≤ c2 ∧ c2 ≤ maxLen := ⟨hl5, hm6⟩
      obtain ⟨A20, c21, n22, hv23, hn24, hl25, hm26, hS27⟩ := Sl.cut hS7 (c := c2) hl28.2 a1.toNat ((wi64 (a1 + 4)).toNat) c2 (by omega) (by omega) (by omega) (by omega)
      refine WL.val (Yl.slice a1.toNat ((wi64 (a1 + 4)).toNat) c2 rfl Tryz.underlying30 sz5 rfl (OB.mk rfl (by omega)) (OB.mk rfl (by omega)) (by simp) (by omega) (by omega) (by omega) hv23) ?_
      obtain ⟨⟨r30, r31⟩, hg29, H⟩ := bindE H
      refine WL.call (args := #[.slice A20 n22 c21]) (Yenter.fn Tryz.func81 (by kernel_rfl) rfl (argsE (.cons rfl .nil))) (bits_Number.calls k _ F A20 c21 n22 ((a0.take ((wi64 (a1 + 4)).toNat)).drop a1.toNat) C14.pre0 hn24 hl25 hm26 hS27 r30 r31 hg29) ?_
      rintro e_ w_ ⟨rfl, ⟨m32, rfl⟩⟩
      refine ⟨_, rfl, ?_⟩
      have C33 := Ctx.drewN C14 m32
      have Wq34 := drew_more Wq15 m32
      refine WL.val (Yl.move (v := .tuple #[(.int .u64 r30), (.int .i64 r31)]) rfl) ?_
      refine WL.val (Yl.extract (v := .int .u64 r30) rfl rfl) ?_
      refine WL.val (Yl.extract (v := .int .i64 r31) rfl rfl) ?_
      refine WL.val (Yl.assign (v := .int .u64 r30) rfl) ?_
      refine WL.val (Yl.assign (v := .int .i64 r31) rfl) ?_
      refine WL.done ?_
      refine W.seq ?_
      refine W.region rfl ?_
      refine WL.val (Yl.move (v := .int .u64 r30) rfl) ?_
      refine WL.val (Yl.conv (m := r30) (r := wu32 r30) rfl Tryz.underlying97 Tryz.underlying247 rfl) ?_
      refine WL.val (Yl.move (v := .int .i64 r31) rfl) ?_
      refine WL.val (Yl.assign (v := .int .u32 (wu32 r30)) rfl) ?_
      refine WL.val (Yl.assign (v := .int .i64 r31) rfl) ?_
      refine WL.done ?_
      refine W.ret ?_
      simp only [Option.some.injEq, Prod.mk.injEq] at H
      obtain ⟨e35, e36⟩ := H
      subst e35 e36
      exact post_r (resE2 rfl rfl rfl) ⟨rfl, Wq34⟩
/-! ### jurat/bits.Rot: function 222 -/
def bits_Rot.f (k : Nat) (a0 : Int) (a1 : Int) : Option Int := if 0 ≤ (bitsOp .and .u64 (wu64 a1) 31) then (if 0 ≤ (wu64 (32 - (bitsOp .and .u64 (wu64 a1) 31))) then (some (bitsOp .or .u32 (shrOp .u32 a0 (bitsOp .and .u64 (wu64 a1) 31)) (shlOp .u32 a0 (wu64 (32 - (bitsOp .and .u64 (wu64 a1) 31)))))) else none) else none
set_option maxRecDepth 100000 in
set_option maxHeartbeats 4000000 in
theorem bits_Rot.calls (k : Nat) (w : World) (F : CH) (a0 : Int) (a1 : Int) (hp : Pre w F [])  (r0_ : Int) (H : bits_Rot.f k a0 a1 = some r0_) :
    Calls Tryz.prog 222 #[.int .u32 a0, .int .i64 a1] w fun e w' => e = .returned (.int .u32 r0_) ∧ (∃ n_, w' = w.drewN n_) := by
  have C := Ctx.start hp
  generalize domL [] = D at C
  have W0 : ∃ n_, w = w.drewN n_ := ⟨0, rfl⟩
  unfold bits_Rot.f at H
  refine Calls.ofW Tryz.func222 rfl (by simp [Tryz.ntmps222]) ?_
  refine W.seq ?_
  refine W.region rfl ?_
  refine WL.val (Yl.assign (v := .int .u32 0) rfl) ?_
  refine WL.done ?_
  refine W.seq ?_
  refine W.region rfl ?_
  refine WL.val (Yl.move (v := .int .i64 a1) rfl) ?_
  refine WL.val (Yl.conv (m := a1) (r := wu64 a1) rfl Tryz.underlying3 Tryz.underlying250 rfl) ?_
  refine WL.val (Yl.and (m := wu64 a1) (n := 31) (r := bitsOp .and .u64 (wu64 a1) 31) rfl rfl rfl) ?_
  refine WL.val (Yl.assign (v := .int .u64 (bitsOp .and .u64 (wu64 a1) 31)) rfl) ?_
  refine WL.done ?_
  refine W.seq ?_
  refine W.region rfl ?_
  refine WL.val (Yl.move (v := .int .u32 a0) rfl) ?_
  refine WL.val (Yl.move (v := .int .u64 (bitsOp .and .u64 (wu64 a1) 31)) rfl) ?_
  obtain ⟨hc1, H⟩ := guardE H
  refine WL.val (Yl.shr (m := a0) (n := bitsOp .and .u64 (wu64 a1) 31) (r := shrOp .u32 a0 (bitsOp .and .u64 (wu64 a1) 31)) rfl rfl hc1 rfl) ?_
  refine WL.val (Yl.move (v := .int .u32 a0) rfl) ?_
  refine WL.val (Yl.move (v := .int .u64 (bitsOp .and .u64 (wu64 a1) 31)) rfl) ?_
  refine WL.val (Yl.sub (m := 32) (n := bitsOp .and .u64 (wu64 a1) 31) (r := wu64 (32 - (bitsOp .and .u64 (wu64 a1) 31))) rfl rfl rfl) ?_
  obtain ⟨hc2, H⟩ := guardE H
  refine WL.val (Yl.shl (m := a0) (n := wu64 (32 - (bitsOp .and .u64 (wu64 a1) 31))) (r := shlOp .u32 a0 (wu64 (32 - (bitsOp .and .u64 (wu64 a1) 31)))) rfl rfl hc2 rfl) ?_
  refine WL.val (Yl.or (m := shrOp .u32 a0 (bitsOp .and .u64 (wu64 a1) 31)) (n := shlOp .u32 a0 (wu64 (32 - (bitsOp .and .u64 (wu64 a1) 31)))) (r := bitsOp .or .u32 (shrOp .u32 a0 (bitsOp .and .u64 (wu64 a1) 31)) (shlOp .u32 a0 (wu64 (32 - (bitsOp .and .u64 (wu64 a1) 31))))) rfl rfl rfl) ?_
  refine WL.val (Yl.assign (v := .int .u32 (bitsOp .or .u32 (shrOp .u32 a0 (bitsOp .and .u64 (wu64 a1) 31)) (shlOp .u32 a0 (wu64 (32 - (bitsOp .and .u64 (wu64 a1) 31)))))) rfl) ?_
  refine WL.done ?_
  refine W.ret ?_
  have e3 := Option.some.inj H
  subst e3
  exact post_r (resE1 rfl rfl) ⟨rfl, W0⟩
/-! ### jurat/bits.Bytes: function 72 -/
def bits_Bytes.l1 : Nat → Int → Int → List Int → Int → Option (List Int)
  | 0, _, _, _, _ => none
  | k + 1, a0, a1, x122, x131 => if x131 < a1 then (if 0 ≤ (wi64 (8 * x131)) then (if 0 ≤ (wi64 ((wi64 (a1 - 1)) - x131)) ∧ (wi64 ((wi64 (a1 - 1)) - x131)) < (x122.length : Int) then (bits_Bytes.l1 k a0 a1 (x122.set (wi64 ((wi64 (a1 - 1)) - x131)).toNat (wu8 (shrOp .u64 a0 (wi64 (8 * x131))))) (wi64 (x131 + 1))) else none) else none) else (some x122)
def bits_Bytes.f (k : Nat) (a0 : Int) (a1 : Int) : Option ((List Int) × Int) := if ((decide (a1 < 0)) || (decide (a1 > 8))) = true then (some (([] : List Int), 1)) else (if 0 ≤ a1 ∧ a1 * 1 ≤ 140737488355328 then ((bits_Bytes.l1 k a0 a1 (List.replicate a1.toNat (0 : Int)) 0).bind fun x88 => some (x88, 0)) else none)
set_option maxRecDepth 100000 in
set_option maxHeartbeats 4000000 in
theorem bits_Bytes.calls (k : Nat) (w : World) (F : CH) (a0 : Int) (a1 : Int) (hp : Pre w F [])  (r0_ : List Int) (r1_ : Int) (H : bits_Bytes.f k a0 a1 = some (r0_, r1_)) :
    Calls Tryz.prog 72 #[.int .u64 a0, .int .i64 a1] w fun e w' => ∃ (A166 : Option Addr) (c167 : Nat) (n168 : Nat) (p170 : CH), e = .returned (.tuple #[(.slice A166 n168 c167), (.int .i64 r1_)]) ∧ Ctx w F (domL []) w' F [p170] ∧ n168 = r0_.length ∧ Row (Kd.int .u8) F p170 (.slice A166 n168 c167) r0_ := by
  have C := Ctx.start hp
  generalize hD : domL [] = D at C ⊢
  unfold bits_Bytes.f at H
  refine Calls.ofW Tryz.func72 rfl (by simp [Tryz.ntmps72]) ?_
  refine W.seq ?_
  refine W.region rfl ?_
  refine WL.val (Yl.assign (v := .slice none 0 0) rfl) ?_
  refine WL.val (Yl.assign (v := .int .i64 0) rfl) ?_
  refine WL.done ?_
  refine W.seq ?_
  refine W.seq ?_
  refine W.region rfl ?_
  refine WL.val (Yl.move (v := .int .i64 a1) rfl) ?_
  refine WL.val (Yl.lss (m := a1) (n := 0) (q := decide (a1 < 0)) rfl rfl rfl) ?_
  refine WL.val (Yl.move (v := .bool (decide (a1 < 0))) rfl) ?_
  refine WL.cut (fun env_ w_ => env_ 13 = .bool ((decide (a1 < 0)) || (decide (a1 > 8))) ∧ env_ 0 = .int .u64 a0 ∧ env_ 1 = .int .i64 a1 ∧ Ctx w F D w_ F []) ?_ ?_
  · skip
    rcases Bool.eq_false_or_eq_true (decide (a1 < 0)) with hb1 | hb1
    · skip
      refine WL.offs 2 10 false (congrArg Value.bool hb1) rfl ?_
      refine WL.val (Yl.pickT (v := .bool true) (congrArg Value.bool hb1) rfl) ?_
      exact WL.done ⟨(congrArg Value.bool (show true = ((decide (a1 < 0)) || (decide (a1 > 8))) from by simp [hb1])), rfl, rfl, C⟩
    · skip
      refine WL.valOn rfl (congrArg Value.bool hb1) (Yl.move (v := .int .i64 a1) rfl) ?_
      refine WL.valOn rfl (congrArg Value.bool hb1) (Yl.gtr (m := a1) (n := 8) (q := decide (a1 > 8)) rfl rfl rfl) ?_
      refine WL.val (Yl.pickF (v := .bool (decide (a1 > 8))) (congrArg Value.bool hb1) rfl) ?_
      exact WL.done ⟨(congrArg Value.bool (show (decide (a1 > 8)) = ((decide (a1 < 0)) || (decide (a1 > 8))) from by simp [hb1])), rfl, rfl, C⟩
  · skip
    rintro env_ w_ ⟨ho2, ho3, ho4, C5⟩
    rcases iteE H with ⟨hc6, H⟩ | ⟨hc6, H⟩
    · skip
      refine W.condT (ho2.trans (congrArg Value.bool hc6)) ?_
      refine W.seq ?_
      refine W.region rfl ?_
      refine WL.val (Yl.assign (v := .slice none 0 0) rfl) ?_
      refine WL.val (Yl.assign (v := .int .i64 1) rfl) ?_
      refine WL.done ?_
      refine W.ret ?_
      refine thenE_r ?_
      have C7 : Ctx _ _ _ _ _ [CH.emp] := Ctx.pick [0] C5 rfl
      simp only [Option.some.injEq, Prod.mk.injEq] at H
      obtain ⟨e8, e9⟩ := H
      subst e8 e9
      exact post_r (resE2 rfl rfl rfl) ⟨none, 0, 0, CH.emp, rfl, C7, rfl, (Row.nil _ _)⟩
    · skip
      refine W.condF (ho2.trans (congrArg Value.bool (Bool.eq_false_iff.2 hc6))) ?_
      refine W.skip ?_
      refine W.seq ?_
      refine W.region rfl ?_
      refine WL.val (Yl.move (v := .int .i64 a1) ho4) ?_
      obtain ⟨hc10, H⟩ := guardE H
      obtain ⟨A11, c12, n13, p14, w15, hn16, hy17, C18, hR19⟩ := ev_make' (P := Tryz.prog) 5 (Kd.int .u8) C5 Tryz.underlying30 ti5 0 rfl (by decide) a1 hc10
      refine WL.val (hy17 _ _ _ _ _ _ rfl rfl) ?_
      refine WL.val (Yl.assign (v := .slice A11 n13 c12) rfl) ?_
      refine WL.done ?_
      refine W.seq ?_
      refine W.seq ?_
      refine W.region rfl ?_
      refine WL.val (Yl.move (v := .int .i64 a1) ho4) ?_
      refine WL.val (Yl.move (v := .int .i64 0) rfl) ?_
      refine WL.done ?_
      obtain ⟨x88, hX96, H⟩ := bindE H
      refine W.cutM (fun env_ w_ => ∃ (A89 : Option Addr) (c90 : Nat) (n91 : Nat) (p93 : CH), env_ 6 = .slice A89 n91 c90 ∧ Ctx w F D w_ F [p93] ∧ n91 = x88.length ∧ Row (Kd.int .u8) F p93 (.slice A89 n91 c90) x88) ?_ ?_
      · skip
        refine W.block ?_
        refine W.loop (fun g_ env_ w_ => ∃ (x122 : List Int) (x131 : Int) (A123 : Option Addr) (c124 : Nat) (n125 : Nat) (p127 : CH), env_ 0 = .int .u64 a0 ∧ env_ 1 = .int .i64 a1 ∧ env_ 6 = .slice A123 n125 c124 ∧ env_ 16 = .int .i64 a1 ∧ env_ 17 = .int .i64 x131 ∧ Ctx w F D w_ F [p127] ∧ n125 = x122.length ∧ Row (Kd.int .u8) F p127 (.slice A123 n125 c124) x122 ∧ bits_Bytes.l1 g_ a0 a1 x122 x131 = some x88) k ⟨(List.replicate a1.toNat (0 : Int)), 0, A11, c12, n13, p14, ho3, ho4, rfl, rfl, rfl, C18, hn16, hR19, hX96⟩ ?_
        clear hX96
        rintro g_ env_ w_ ⟨x122, x131, A123, c124, n125, p127, ho119, ho120, ho121, ho129, ho130, C132, hn126, hR128, hX96⟩
        rcases g_ with _ | k148
        · exact absurd hX96 (by simp [bits_Bytes.l1])
        rw [bits_Bytes.l1] at hX96
        refine W.seq ?_
        refine W.region rfl ?_
        refine WL.val (Yl.lss (m := x131) (n := a1) (q := decide (x131 < a1)) ho130 ho129 rfl) ?_
        refine WL.done ?_
        refine W.seq ?_
        rcases iteE hX96 with ⟨hc149, hX96⟩ | ⟨hc149, hX96⟩
        · skip
          refine W.condT (congrArg Value.bool (decide_eq_true hc149)) ?_
          refine W.skip ?_
          refine W.seq ?_
          refine W.block ?_
          refine W.seq ?_
          refine W.region rfl ?_
          refine WL.val (Yl.move (v := .int .i64 x131) ho130) ?_
          refine WL.val (Yl.assign (v := .int .i64 x131) rfl) ?_
          refine WL.done ?_
          refine W.region rfl ?_
          refine WL.val (Yl.move (v := .slice A123 n125 c124) ho121) ?_
          refine WL.val (Yl.move (v := .int .i64 a1) ho120) ?_
          refine WL.val (Yl.sub (m := a1) (n := 1) (r := wi64 (a1 - 1)) rfl rfl rfl) ?_
          refine WL.val (Yl.move (v := .int .i64 x131) rfl) ?_
          refine WL.val (Yl.sub (m := wi64 (a1 - 1)) (n := x131) (r := wi64 ((wi64 (a1 - 1)) - x131)) rfl rfl rfl) ?_
          refine WL.val (Yl.move (v := .int .u64 a0) ho119) ?_
          refine WL.val (Yl.move (v := .int .i64 x131) rfl) ?_
          refine WL.val (Yl.mul (m := 8) (n := x131) (r := wi64 (8 * x131)) rfl rfl rfl) ?_
          obtain ⟨hc150, hX96⟩ := guardE hX96
          refine WL.val (Yl.shr (m := a0) (n := wi64 (8 * x131)) (r := shrOp .u64 a0 (wi64 (8 * x131))) rfl rfl hc150 rfl) ?_
          refine WL.val (Yl.conv (m := shrOp .u64 a0 (wi64 (8 * x131))) (r := wu8 (shrOp .u64 a0 (wi64 (8 * x131)))) rfl Tryz.underlying97 Tryz.underlying5 rfl) ?_
          obtain ⟨hc151, hX96⟩ := guardE hX96
          obtain ⟨b152, of153, hA154, he155⟩ := (Row.sl hR128) (by omega)
          refine WL.val (Yl.elemAddr (i := wi64 ((wi64 (a1 - 1)) - x131)) rfl rfl hA154 Tryz.underlying30 sz5 (by omega)) ?_
          have hj161 : (wi64 ((wi64 (a1 - 1)) - x131)).toNat < x122.length := by first | omega | (simp only [List.length_set, List.length_replicate] at *; omega)
          let q1 : List Go.Value := [.int .u8 (wu8 (shrOp .u64 a0 (wi64 (8 * x131))))]
          obtain ⟨p156, w157, hy158, C159, hR160⟩ := ev_store (P := Tryz.prog) (t := 5) (Kd.int .u8) [] [] C132 hR128 hA154 (wi64 ((wi64 (a1 - 1)) - x131)).toNat 0 hj161 0 (.int .u8 (wu8 (shrOp .u64 a0 (wi64 (8 * x131))))) (q1) rfl (ones_of rfl) (Nat.le_of_ble_eq_true rfl) sz5 (wu8 (shrOp .u64 a0 (wi64 (8 * x131)))) (fun _ h_ => rep_whole h_ rfl) ⟨b152, of153 + (wi64 ((wi64 (a1 - 1)) - x131)).toNat * 1, none⟩ rfl
          have hn162 : n125 = (x122.set (wi64 ((wi64 (a1 - 1)) - x131)).toNat (wu8 (shrOp .u64 a0 (wi64 (8 * x131))))).length := by rw [List.length_set]; omega
          have C163 : Ctx _ _ _ _ _ [p156] := C159
          refine WL.skip (hy158 _ _ _ _ rfl rfl) ?_
          refine WL.done ?_
          refine inB_n ?_
          refine W.region rfl ?_
          refine WL.val (Yl.add (m := x131) (n := 1) (r := wi64 (x131 + 1)) ho130 rfl rfl) ?_
          refine WL.val (Yl.move (v := .int .i64 (wi64 (x131 + 1))) rfl) ?_
          refine WL.done ?_
          exact thenE_n ⟨k148, Nat.lt_succ_self _, x122.set (wi64 ((wi64 (a1 - 1)) - x131)).toNat (wu8 (shrOp .u64 a0 (wi64 (8 * x131)))), wi64 (x131 + 1), A123, c124, n125, p156, ho119, ho120, ho121, ho129, rfl, C163, hn162, hR160, hX96⟩
        · skip
          refine W.condF (congrArg Value.bool (decide_eq_false hc149)) ?_
          refine W.exit ?_
          refine thenE_x ?_
          refine thenE_x ?_
          refine inB_here ?_
          cases hX96
          refine thenE_n ?_
          exact ⟨A123, c124, n125, p127, ho121, C132, hn126, hR128⟩
      · skip
        rintro env_ w_ ⟨A89, c90, n91, p93, ho87, C95, hn92, hR94⟩
        refine W.seq ?_
        refine W.region rfl ?_
        refine WL.val (Yl.move (v := .slice A89 n91 c90) ho87) ?_
        refine WL.val (Yl.assign (v := .slice A89 n91 c90) rfl) ?_
        refine WL.val (Yl.assign (v := .int .i64 0) rfl) ?_
        refine WL.done ?_
        refine W.ret ?_
        simp only [Option.some.injEq, Prod.mk.injEq] at H
        obtain ⟨e164, e165⟩ := H
        subst e164 e165
        exact post_r (resE2 rfl rfl rfl) ⟨A89, c90, n91, p93, rfl, C95, hn92, hR94⟩
/-! ### jurat/sha.Pad: function 174 -/
def sha_Pad.f (k : Nat) (a0 : Int) : Option ((List Int) × Int) := if ((decide (a0 < 0)) || (decide (a0 > 1152921504606846976))) = true then (some (([] : List Int), 1)) else (if 0 ≤ (wi64 (1 + ((wi64 (119 - (a0.tmod 64))).tmod 64))) ∧ (wi64 (1 + ((wi64 (119 - (a0.tmod 64))).tmod 64))) * 1 ≤ 140737488355328 then (if 0 ≤ (0 : Int) ∧ (0 : Int) < ((List.replicate (wi64 (1 + ((wi64 (119 - (a0.tmod 64))).tmod 64))).toNat (0 : Int)).length : Int) then ((bits_Bytes.f k (shlOp .u64 (wu64 a0) 3) 8).bind fun ⟨r33, r34⟩ => if (((List.replicate (wi64 (1 + ((wi64 (119 - (a0.tmod 64))).tmod 64))).toNat (0 : Int)).set (0 : Int).toNat 128).length + r33.length + (((List.replicate (wi64 (1 + ((wi64 (119 - (a0.tmod 64))).tmod 64))).toNat (0 : Int)).set (0 : Int).toNat 128).length + r33.length) / 4 + 192) * 1 ≤ 281474976710656 then (some (((List.replicate (wi64 (1 + ((wi64 (119 - (a0.tmod 64))).tmod 64))).toNat (0 : Int)).set (0 : Int).toNat 128) ++ r33, 0)) else none) else none) else none)
set_option maxRecDepth 100000 in
set_option maxHeartbeats 4000000 in
theorem sha_Pad.calls (k : Nat) (w : World) (F : CH) (a0 : Int) (hp : Pre w F [])  (r0_ : List Int) (r1_ : Int) (H : sha_Pad.f k a0 = some (r0_, r1_)) :
    Calls Tryz.prog 174 #[.int .i64 a0] w fun e w' => ∃ (A57 : Option Addr) (c58 : Nat) (n59 : Nat) (p61 : CH), e = .returned (.tuple #[(.slice A57 n59 c58), (.int .i64 r1_)]) ∧ Ctx w F (domL []) w' F [p61] ∧ n59 = r0_.length ∧ Row (Kd.int .u8) F p61 (.slice A57 n59 c58) r0_ := by
  have C := Ctx.start hp
  generalize hD : domL [] = D at C ⊢
  unfold sha_Pad.f at H
  refine Calls.ofW Tryz.func174 rfl (by simp [Tryz.ntmps174]) ?_
  refine W.seq ?_
  refine W.region rfl ?_
  refine WL.val (Yl.assign (v := .slice none 0 0) rfl) ?_
  refine WL.val (Yl.assign (v := .int .i64 0) rfl) ?_
  refine WL.done ?_
  refine W.seq ?_
  refine W.seq ?_
  refine W.region rfl ?_
  refine WL.val (Yl.move (v := .int .i64 a0) rfl) ?_
  refine WL.val (Yl.lss (m := a0) (n := 0) (q := decide (a0 < 0)) rfl rfl rfl) ?_
  refine WL.val (Yl.move (v := .bool (decide (a0 < 0))) rfl) ?_
  refine WL.cut (fun env_ w_ => env_ 13 = .bool ((decide (a0 < 0)) || (decide (a0 > 1152921504606846976))) ∧ env_ 0 = .int .i64 a0 ∧ Ctx w F D w_ F []) ?_ ?_
  · skip
    rcases Bool.eq_false_or_eq_true (decide (a0 < 0)) with hb1 | hb1
    · skip
      refine WL.offs 2 10 false (congrArg Value.bool hb1) rfl ?_
      refine WL.val (Yl.pickT (v := .bool true) (congrArg Value.bool hb1) rfl) ?_
      exact WL.done ⟨(congrArg Value.bool (show true = ((decide (a0 < 0)) || (decide (a0 > 1152921504606846976))) from by simp [hb1])), rfl, C⟩
    · skip
      refine WL.valOn rfl (congrArg Value.bool hb1) (Yl.move (v := .int .i64 a0) rfl) ?_
      refine WL.valOn rfl (congrArg Value.bool hb1) (Yl.gtr (m := a0) (n := 1152921504606846976) (q := decide (a0 > 1152921504606846976)) rfl rfl rfl) ?_
      refine WL.val (Yl.pickF (v := .bool (decide (a0 > 1152921504606846976))) (congrArg Value.bool hb1) rfl) ?_
      exact WL.done ⟨(congrArg Value.bool (show (decide (a0 > 1152921504606846976)) = ((decide (a0 < 0)) || (decide (a0 > 1152921504606846976))) from by simp [hb1])), rfl, C⟩
  · skip
    rintro env_ w_ ⟨ho2, ho3, C4⟩
    rcases iteE H with ⟨hc5, H⟩ | ⟨hc5, H⟩
    · skip
      refine W.condT (ho2.trans (congrArg Value.bool hc5)) ?_
      refine W.seq ?_
      refine W.region rfl ?_
      refine WL.val (Yl.assign (v := .slice none 0 0) rfl) ?_
      refine WL.val (Yl.assign (v := .int .i64 1) rfl) ?_
      refine WL.done ?_
      refine W.ret ?_
      refine thenE_r ?_
      have C6 : Ctx _ _ _ _ _ [CH.emp] := Ctx.pick [0] C4 rfl
      simp only [Option.some.injEq, Prod.mk.injEq] at H
      obtain ⟨e7, e8⟩ := H
      subst e7 e8
      exact post_r (resE2 rfl rfl rfl) ⟨none, 0, 0, CH.emp, rfl, C6, rfl, (Row.nil _ _)⟩
    · skip
      refine W.condF (ho2.trans (congrArg Value.bool (Bool.eq_false_iff.2 hc5))) ?_
      refine W.skip ?_
      refine W.seq ?_
      refine W.region rfl ?_
      refine WL.val (Yl.move (v := .int .i64 a0) ho3) ?_
      refine WL.val (Yl.rem (m := a0) (n := 64) (r := a0.tmod 64) rfl rfl (by decide) rfl) ?_
      refine WL.val (Yl.sub (m := 119) (n := a0.tmod 64) (r := wi64 (119 - (a0.tmod 64))) rfl rfl rfl) ?_
      refine WL.val (Yl.rem (m := wi64 (119 - (a0.tmod 64))) (n := 64) (r := (wi64 (119 - (a0.tmod 64))).tmod 64) rfl rfl (by decide) rfl) ?_
      refine WL.val (Yl.assign (v := .int .i64 ((wi64 (119 - (a0.tmod 64))).tmod 64)) rfl) ?_
      refine WL.done ?_
      refine W.seq ?_
      refine W.region rfl ?_
      refine WL.val (Yl.move (v := .int .i64 ((wi64 (119 - (a0.tmod 64))).tmod 64)) rfl) ?_
      refine WL.val (Yl.add (m := 1) (n := (wi64 (119 - (a0.tmod 64))).tmod 64) (r := wi64 (1 + ((wi64 (119 - (a0.tmod 64))).tmod 64))) rfl rfl rfl) ?_
      obtain ⟨hc9, H⟩ := guardE H
      obtain ⟨A10, c11, n12, p13, w14, hn15, hy16, C17, hR18⟩ := ev_make' (P := Tryz.prog) 5 (Kd.int .u8) C4 Tryz.underlying30 ti5 0 rfl (by decide) (wi64 (1 + ((wi64 (119 - (a0.tmod 64))).tmod 64))) hc9
      refine WL.val (hy16 _ _ _ _ _ _ rfl rfl) ?_
      refine WL.val (Yl.assign (v := .slice A10 n12 c11) rfl) ?_
      refine WL.done ?_
      refine W.seq ?_
      refine W.region rfl ?_
      refine WL.val (Yl.move (v := .slice A10 n12 c11) rfl) ?_
      obtain ⟨hc19, H⟩ := guardE H
      obtain ⟨b20, of21, hA22, he23⟩ := (Row.sl hR18) (by omega)
      refine WL.val (Yl.elemAddr (i := 0) rfl rfl hA22 Tryz.underlying30 sz5 (by omega)) ?_
      have hj29 : (0 : Int).toNat < (List.replicate (wi64 (1 + ((wi64 (119 - (a0.tmod 64))).tmod 64))).toNat (0 : Int)).length := by first | omega | (simp only [List.length_set, List.length_replicate] at *; omega)
      obtain ⟨p24, w25, hy26, C27, hR28⟩ := ev_store (P := Tryz.prog) (t := 5) (Kd.int .u8) [] [] C17 hR18 hA22 (0 : Int).toNat 0 hj29 0 (.int .u8 128) ([.int .u8 128]) rfl (ones_of rfl) (Nat.le_of_ble_eq_true rfl) sz5 (128) (fun _ h_ => rep_whole h_ rfl) ⟨b20, of21 + (0 : Int).toNat * 1, none⟩ rfl
      have hn30 : n12 = ((List.replicate (wi64 (1 + ((wi64 (119 - (a0.tmod 64))).tmod 64))).toNat (0 : Int)).set (0 : Int).toNat 128).length := by rw [List.length_set]; omega
      have C31 : Ctx _ _ _ _ _ [p24] := C27
      refine WL.skip (hy26 _ _ _ _ rfl rfl) ?_
      refine WL.done ?_
      refine W.seq ?_
      refine W.region rfl ?_
      refine WL.val (Yl.move (v := .int .i64 a0) ho3) ?_
      refine WL.val (Yl.conv (m := a0) (r := wu64 a0) rfl Tryz.underlying3 Tryz.underlying97 rfl) ?_
      refine WL.val (Yl.shl (m := wu64 a0) (n := 3) (r := shlOp .u64 (wu64 a0) 3) rfl rfl (by decide) rfl) ?_
      obtain ⟨⟨r33, r34⟩, hg32, H⟩ := bindE H
      refine WL.call (args := #[.int .u64 (shlOp .u64 (wu64 a0) 3), .int .i64 8]) (Yenter.fn Tryz.func72 (by kernel_rfl) rfl (argsE (.cons rfl (.cons rfl .nil)))) (bits_Bytes.calls k _ F (shlOp .u64 (wu64 a0) 3) 8 (Ctx.pre (qs := []) (rest := [p24]) C31)  r33 r34 hg32) ?_
      rintro e_ w_ ⟨A35, c36, n37, p39, rfl, C41, hn38, hR40⟩
      refine ⟨_, rfl, ?_⟩
      have C42 : Ctx _ _ _ _ _ [p39, p24] := Ctx.call (qs := []) (rest := [p24]) C31 C41
      refine WL.val (Yl.move (v := .tuple #[(.slice A35 n37 c36), (.int .i64 r34)]) rfl) ?_
      refine WL.val (Yl.extract (v := .slice A35 n37 c36) rfl rfl) ?_
      refine WL.val (Yl.extract (v := .int .i64 r34) rfl rfl) ?_
      refine WL.val (Yl.assign (v := .slice A35 n37 c36) rfl) ?_
      refine WL.val (Yl.assign (v := .int .i64 r34) rfl) ?_
      refine WL.done ?_
      refine W.seq ?_
      refine W.region rfl ?_
      refine WL.val (Yl.move (v := .slice A10 n12 c11) rfl) ?_
      refine WL.val (Yl.move (v := .slice A35 n37 c36) rfl) ?_
      obtain ⟨hc43, H⟩ := guardE H
      obtain ⟨A44, c45, n46, p47, w48, hn49, hy50, C51, hR52⟩ := ev_append' (P := Tryz.prog) (cb := c36) 5 (Kd.int .u8) [p39] [] C42 hR28 hn38 (Row.sl hR40) (Ctx.subI 0 C42 rfl) Tryz.underlying30 ti5 rfl zo5 (by decide) (by decide) (by simpa using hc43)
      have C53 : Ctx _ _ _ _ _ [p39, p47] := C51
      refine WL.val (hy50 _ _ _ _ rfl rfl) ?_
      refine WL.val (Yl.assign (v := .slice A44 n46 c45) rfl) ?_
      refine WL.val (Yl.assign (v := .int .i64 0) rfl) ?_
      refine WL.done ?_
      refine W.ret ?_
      have C54 : Ctx _ _ _ _ _ [p47] := Ctx.pick [1] C53 rfl
      simp only [Option.some.injEq, Prod.mk.injEq] at H
      obtain ⟨e55, e56⟩ := H
      subst e55 e56
      exact post_r (resE2 rfl rfl rfl) ⟨A44, c45, n46, p47, rfl, C54, hn49, hR52⟩
end Go.Proofs.YtnlpmnegjgjiiaaGreatDoor
