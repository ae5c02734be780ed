/- Functions of the program: each as a plain function of numbers and lists, and the proof that the program's own comes to it. Nothing is assumed but what each theorem says. -/
import Derived.Test.YthdlfclkcdnenaaDoorTGc
namespace Go.Proofs.YthdlfclkcdnenaaDoor
open Go.RowKit Go.WG
set_option linter.unusedVariables false
set_option linter.unusedSimpArgs false
def ledger_New.f (k : Nat)  : Option TLedger := some (⟨(⟨([] : List (List Int))⟩ : Tdigests), ([] : List (List Int))⟩ : TLedger)
set_option maxRecDepth 100000 in
set_option maxHeartbeats 4000000 in
theorem ledger_New.calls (k : Nat) (w : World) (F : CH)  (hp : Pre w F [])  (r0_ : TLedger) (H : ledger_New.f k  = some r0_) :
    Calls Tryd.prog 18 #[] w fun e w' => ∃ (g10 : Nat) (o11 : Nat) (A12 : Option Addr) (c13 : Nat) (n14 : Nat) (p16 : CH) (A18 : Option Addr) (c19 : Nat) (n20 : Nat) (p22 : CH), e = .returned (.pointer (some ⟨g10, o11, none⟩)) ∧ Ctx w F (domL []) w' F [CH.row g10 o11 [.slice A12 n14 c13, .slice A18 n20 c19], p16, p22] ∧ n14 = r0_.digests.sums.length ∧ Row (Kd.arrI 32 .u8) F p16 (.slice A12 n14 c13) r0_.digests.sums ∧ n20 = r0_.leaves.length ∧ Row (Kd.slice (Kd.int .u8)) F p22 (.slice A18 n20 c19) r0_.leaves := by
  have C := Ctx.start hp
  generalize hD : domL [] = D at C ⊢
  unfold ledger_New.f at H
  refine Calls.ofW Tryd.func18 rfl (by simp [Tryd.ntmps18]) ?_
  refine W.seq ?_
  refine W.region rfl ?_
  refine WL.val (Yl.assign (v := .pointer none) rfl) ?_
  refine WL.done ?_
  refine W.seq ?_
  refine W.region rfl ?_
  refine WL.val (Yl.build (places := [(0, 1), (1, 1)]) (cs := List.toArray [.slice none 0 0, .slice none 0 0]) Tryd.underlying82 zr82 (pl82 _ Tryd.underlying82) (partsB .nil) rfl) ?_
  obtain ⟨g1, w2, hy3, C4⟩ := ev_box (P := Tryd.prog) 82 (.agg (List.toArray [.slice none 0 0, .slice none 0 0])) [.slice none 0 0, .slice none 0 0] C rfl
  refine WL.val (hy3 _ _ _ rfl) ?_
  refine WL.val (Yl.assign (v := .pointer (some ⟨g1, 0, none⟩)) rfl) ?_
  refine WL.done ?_
  refine W.ret ?_
  have C5 : Ctx _ _ _ _ F [CH.emp, CH.row g1 0 [.slice none 0 0, .slice none 0 0]] := Ctx.emp C4
  have C6 : Ctx _ _ _ _ F [CH.emp, CH.emp, CH.row g1 0 [.slice none 0 0, .slice none 0 0]] := Ctx.emp C5
  have C7 : Ctx _ _ _ _ F [CH.emp, CH.row g1 0 [.slice none 0 0, .slice none 0 0], CH.emp] := Ctx.swap [CH.emp] [] C6
  have C8 : Ctx _ _ _ _ F [CH.row g1 0 [.slice none 0 0, .slice none 0 0], CH.emp, CH.emp] := Ctx.swap [] [CH.emp] C7
  have e9 := Option.some.inj H
  subst e9
  exact post_r (resE1 rfl rfl) ⟨g1, 0, none, 0, 0, CH.emp, none, 0, 0, CH.emp, rfl, C8, rfl, (Row.nil _ _), rfl, (Row.nil _ _)⟩
def ledger_digests_first.f (k : Nat) (a0 : Tdigests) (a1 : Int) : Option ((List (List Int)) × Bool) := (if a1 < 0 then (some (true)) else (some (decide (a1 > (a0.sums.length : Int))))).bind fun g11 => if g11 = true then (some (([] : List (List Int)), false)) else (if 0 ≤ (0 : Int) ∧ (0 : Int) ≤ a1 ∧ a1 ≤ (a0.sums.length : Int) ∧ a1 = a1 then (some (a0.sums.take a1.toNat, true)) else none)
set_option maxRecDepth 100000 in
set_option maxHeartbeats 4000000 in
theorem ledger_digests_first.calls (k : Nat) (w : World) (F : CH) (g1 : Nat) (o2 : Nat) (A3 : Option Addr) (c4 : Nat) (n5 : Nat) (a0 : Tdigests) (a1 : Int) (hp : Pre w F []) (hn6 : n5 = a0.sums.length) (hl7 : a0.sums.length ≤ c4) (hm8 : c4 ≤ maxLen) (hS9 : Sl (Kd.arrI 32 .u8) F F A3 a0.sums) (hg10 : CH.le (CH.row g1 o2 [.slice A3 n5 c4]) F) (r0_ : List (List Int)) (r1_ : Bool) (H : ledger_digests_first.f k a0 a1 = some (r0_, r1_)) :
    Calls Tryd.prog 71 #[.pointer (some ⟨g1, o2, none⟩), .int .i64 a1] w fun e w' => ∃ (A34 : Option Addr) (c35 : Nat) (n36 : Nat), e = .returned (.tuple #[(.slice A34 n36 c35), (.bool r1_)]) ∧ (∃ n_, w' = w.drewN n_) ∧ n36 = r0_.length ∧ r0_.length ≤ c35 ∧ c35 ≤ maxLen ∧ Sl (Kd.arrI 32 .u8) F F A34 r0_ := by
  have C := Ctx.start hp
  generalize domL [] = D at C
  have W0 : ∃ n_, w = w.drewN n_ := ⟨0, rfl⟩
  unfold ledger_digests_first.f at H
  refine Calls.ofW Tryd.func71 rfl (by simp [Tryd.ntmps71]) ?_
  refine W.seq ?_
  refine W.region rfl ?_
  refine WL.val (Yl.assign (v := .slice none 0 0) rfl) ?_
  refine WL.val (Yl.assign (v := .bool false) rfl) ?_
  refine WL.done ?_
  refine W.seq ?_
  refine W.seq ?_
  refine W.region rfl ?_
  refine WL.val (Yl.move (v := .int .i64 a1) rfl) ?_
  refine WL.val (Yl.lss (m := a1) (n := 0) (q := decide (a1 < 0)) rfl rfl rfl) ?_
  refine WL.val (Yl.move (v := .bool (decide (a1 < 0))) rfl) ?_
  obtain ⟨g11, HE12, H⟩ := bindE H
  refine WL.cut (fun env_ w_ => env_ 16 = .bool g11 ∧ env_ 0 = .pointer (some ⟨g1, o2, none⟩) ∧ env_ 1 = .int .i64 a1 ∧ Ctx w F D w_ F [] ∧ (∃ n_, w_ = w.drewN n_)) ?_ ?_
  · skip
    rcases iteE HE12 with ⟨hc13, HE12⟩ | ⟨hc13, HE12⟩
    · skip
      refine WL.off rfl (congrArg Value.bool (decide_eq_true hc13)) ?_
      refine WL.off rfl (congrArg Value.bool (decide_eq_true hc13)) ?_
      refine WL.off rfl (congrArg Value.bool (decide_eq_true hc13)) ?_
      refine WL.off rfl (congrArg Value.bool (decide_eq_true hc13)) ?_
      refine WL.off rfl (congrArg Value.bool (decide_eq_true hc13)) ?_
      refine WL.off rfl (congrArg Value.bool (decide_eq_true hc13)) ?_
      refine WL.off rfl (congrArg Value.bool (decide_eq_true hc13)) ?_
      refine WL.val (Yl.pickT (v := .bool true) (congrArg Value.bool (decide_eq_true hc13)) rfl) ?_
      cases HE12
      exact WL.done ⟨rfl, rfl, rfl, C, W0⟩
    · skip
      refine WL.on rfl (congrArg Value.bool (decide_eq_false hc13)) ?_
      refine WL.val (Yl.move (v := .int .i64 a1) rfl) ?_
      refine WL.on rfl (congrArg Value.bool (decide_eq_false hc13)) ?_
      refine WL.val (Yl.move (v := .pointer (some ⟨g1, o2, none⟩)) rfl) ?_
      refine WL.on rfl (congrArg Value.bool (decide_eq_false hc13)) ?_
      refine WL.val (Yl.nilCheck rfl) ?_
      refine WL.on rfl (congrArg Value.bool (decide_eq_false hc13)) ?_
      refine WL.val (Yl.fieldAddr (i := 0) rfl Tryd.underlying80 rfl sz31) ?_
      refine WL.on rfl (congrArg Value.bool (decide_eq_false hc13)) ?_
      refine WL.val (Yl.loadV (g := g1) (off := o2) (o := 0) (cs := [.slice A3 n5 c4]) (v := .slice A3 n5 c4) rfl Tryd.underlying31 rfl (Sub.mono (C.fro) hg10) rfl) ?_
      refine WL.on rfl (congrArg Value.bool (decide_eq_false hc13)) ?_
      refine WL.val (Yl.lenN (A := A3) (l := n5) (q := c4) (n := (a0.sums.length : Int)) rfl Tryd.underlying31 (by omega)) ?_
      refine WL.on rfl (congrArg Value.bool (decide_eq_false hc13)) ?_
      refine WL.val (Yl.gtr (m := a1) (n := (a0.sums.length : Int)) (q := decide (a1 > (a0.sums.length : Int))) rfl rfl rfl) ?_
      refine WL.val (Yl.pickF (v := .bool (decide (a1 > (a0.sums.length : Int)))) (congrArg Value.bool (decide_eq_false hc13)) rfl) ?_
      cases HE12
      exact WL.done ⟨rfl, rfl, rfl, C, W0⟩
  · skip
    rintro env_ w_ ⟨ho14, ho15, ho16, C17, Wq18⟩
    rcases iteE H with ⟨hc19, H⟩ | ⟨hc19, H⟩
    · skip
      refine W.condT (ho14.trans (congrArg Value.bool hc19)) ?_
      refine W.seq ?_
      refine W.region rfl ?_
      refine WL.val (Yl.assign (v := .slice none 0 0) rfl) ?_
      refine WL.val (Yl.assign (v := .bool false) rfl) ?_
      refine WL.done ?_
      refine W.ret ?_
      refine thenE_r ?_
      simp only [Option.some.injEq, Prod.mk.injEq] at H
      obtain ⟨e20, e21⟩ := H
      subst e20 e21
      exact post_r (resE2 rfl rfl rfl) ⟨none, 0, 0, rfl, Wq18, rfl, (Nat.le_refl _), (Nat.zero_le _), (Sl.nil _ _ _ _)⟩
    · skip
      refine W.condF (ho14.trans (congrArg Value.bool (Bool.eq_false_iff.2 hc19))) ?_
      refine W.skip ?_
      refine W.seq ?_
      refine W.region rfl ?_
      refine WL.val (Yl.move (v := .pointer (some ⟨g1, o2, none⟩)) ho15) ?_
      refine WL.val (Yl.nilCheck rfl) ?_
      refine WL.val (Yl.fieldAddr (i := 0) rfl Tryd.underlying80 rfl sz31) ?_
      refine WL.val (Yl.loadV (g := g1) (off := o2) (o := 0) (cs := [.slice A3 n5 c4]) (v := .slice A3 n5 c4) rfl Tryd.underlying31 rfl (Sub.mono (C17.fro) hg10) rfl) ?_
      refine WL.val (Yl.move (v := .int .i64 a1) ho16) ?_
      refine WL.val (Yl.move (v := .int .i64 a1) ho16) ?_
      obtain ⟨hc22, H⟩ := guardE H
      have hl31 : a0.sums.length ≤ c4 ∧ c4 ≤ maxLen := ⟨hl7, hm8⟩
      obtain ⟨A23, c24, n25, hv26, hn27, hl28, hm29, hS30⟩ := Sl.cut hS9 (c := c4) hl31.2 0 a1.toNat a1.toNat (by omega) (by omega) (by omega) (by omega)
      rw [List.drop_zero] at hn27 hl28 hS30
      refine WL.val (Yl.slice 0 a1.toNat a1.toNat rfl Tryd.underlying31 sz33 (OB.mkT rfl (by omega) (by omega)) (OB.mk rfl (by omega)) rfl (by simp) (by omega) (by omega) (by omega) hv26) ?_
      refine WL.val (Yl.assign (v := .slice A23 n25 c24) rfl) ?_
      refine WL.val (Yl.assign (v := .bool true) rfl) ?_
      refine WL.done ?_
      refine W.ret ?_
      simp only [Option.some.injEq, Prod.mk.injEq] at H
      obtain ⟨e32, e33⟩ := H
      subst e32 e33
      exact post_r (resE2 rfl rfl rfl) ⟨A23, c24, n25, rfl, Wq18, hn27, hl28, hm29, hS30⟩
def ledger_Ledger_Size.f (k : Nat) (a0 : TLedger) : Option Int := some (a0.leaves.length : Int)
set_option maxRecDepth 100000 in
set_option maxHeartbeats 4000000 in
theorem ledger_Ledger_Size.calls (k : Nat) (w : World) (F : CH) (g1 : Nat) (o2 : Nat) (A3 : Option Addr) (c4 : Nat) (n5 : Nat) (A10 : Option Addr) (c11 : Nat) (n12 : Nat) (a0 : TLedger) (hp : Pre w F []) (hn6 : n5 = a0.digests.sums.length) (hl7 : a0.digests.sums.length ≤ c4) (hm8 : c4 ≤ maxLen) (hS9 : Sl (Kd.arrI 32 .u8) F F A3 a0.digests.sums) (hn13 : n12 = a0.leaves.length) (hl14 : a0.leaves.length ≤ c11) (hm15 : c11 ≤ maxLen) (hS16 : Sl (Kd.slice (Kd.int .u8)) F F A10 a0.leaves) (hg17 : CH.le (CH.row g1 o2 [.slice A3 n5 c4, .slice A10 n12 c11]) F) (r0_ : Int) (H : ledger_Ledger_Size.f k a0 = some r0_) :
    Calls Tryd.prog 20 #[.pointer (some ⟨g1, o2, none⟩)] w fun e w' => e = .returned (.int .i64 r0_) ∧ (∃ n_, w' = w.drewN n_) := by
  have C := Ctx.start hp
  generalize domL [] = D at C
  have W0 : ∃ n_, w = w.drewN n_ := ⟨0, rfl⟩
  unfold ledger_Ledger_Size.f at H
  refine Calls.ofW Tryd.func20 rfl (by simp [Tryd.ntmps20]) ?_
  refine W.seq ?_
  refine W.region rfl ?_
  refine WL.val (Yl.assign (v := .int .i64 0) rfl) ?_
  refine WL.done ?_
  refine W.seq ?_
  refine W.seq ?_
  refine W.region rfl ?_
  refine WL.val (Yl.move (v := .pointer (some ⟨g1, o2, none⟩)) rfl) ?_
  refine WL.val (Yl.ptrEqSN rfl rfl Tryd.underlying23) ?_
  refine WL.done ?_
  refine W.condF rfl ?_
  refine W.skip ?_
  refine W.seq ?_
  refine W.region rfl ?_
  refine WL.val (Yl.move (v := .pointer (some ⟨g1, o2, none⟩)) rfl) ?_
  refine WL.val (Yl.nilCheck rfl) ?_
  refine WL.val (Yl.fieldAddr (i := 1) rfl Tryd.underlying82 rfl sz49) ?_
  refine WL.val (Yl.loadV (g := g1) (off := o2) (o := 1) (cs := [.slice A3 n5 c4, .slice A10 n12 c11]) (v := .slice A10 n12 c11) rfl Tryd.underlying49 rfl (Sub.mono (C.fro) hg17) rfl) ?_
  refine WL.val (Yl.lenN (A := A10) (l := n12) (q := c11) (n := (a0.leaves.length : Int)) rfl Tryd.underlying49 (by omega)) ?_
  refine WL.val (Yl.assign (v := .int .i64 (a0.leaves.length : Int)) rfl) ?_
  refine WL.done ?_
  refine W.ret ?_
  have e18 := Option.some.inj H
  subst e18
  exact post_r (resE1 rfl rfl) ⟨rfl, W0⟩
def ledger_Ledger_Append.f (k : Nat) (a0 : TLedger) (a1 : List Int) : Option (Int × Int × TLedger) := if (a1.length : Int) > 4096 then (some (0, 42, a0)) else ((ledger_Ledger_Size.f k a0).bind fun r36 => if r36 ≥ 4096 then (some (0, 90, a0)) else (if a1.length * 1 ≤ 140737488355328 then (if (a0.leaves.length + 1) * 24 ≤ 140737488355328 then ((proof_Leaf.f k a1).bind fun r181 => if (a0.digests.sums.length + 1) * 32 ≤ 140737488355328 then ((ledger_Ledger_Size.f k (⟨(⟨a0.digests.sums ++ [r181]⟩ : Tdigests), a0.leaves ++ [a1]⟩ : TLedger)).bind fun r219 => some (wi64 (r219 - 1), 0, (⟨(⟨a0.digests.sums ++ [r181]⟩ : Tdigests), a0.leaves ++ [a1]⟩ : TLedger))) else none) else none) else none))
set_option maxRecDepth 100000 in
set_option maxHeartbeats 4000000 in
theorem ledger_Ledger_Append.calls (k : Nat) (w : World) (F : CH) (g1 : Nat) (o2 : Nat) (A3 : Option Addr) (c4 : Nat) (n5 : Nat) (p7 : CH) (A9 : Option Addr) (c10 : Nat) (n11 : Nat) (p13 : CH) (a0 : TLedger) (A15 : Option Addr) (c16 : Nat) (n17 : Nat) (a1 : List Int) (hp : Pre w F [CH.row g1 o2 [.slice A3 n5 c4, .slice A9 n11 c10], p7, p13]) (hn6 : n5 = a0.digests.sums.length) (hR8 : Row (Kd.arrI 32 .u8) F p7 (.slice A3 n5 c4) a0.digests.sums) (hn12 : n11 = a0.leaves.length) (hR14 : Row (Kd.slice (Kd.int .u8)) F p13 (.slice A9 n11 c10) a0.leaves) (hn18 : n17 = a1.length) (hl19 : a1.length ≤ c16) (hm20 : c16 ≤ maxLen) (hS21 : Sl (Kd.int .u8) F F A15 a1) (hG1 : CH.le (CH.row 1 0 (glob1.map (Value.int .u32))) F) (hG3 : CH.le (CH.row 3 0 (glob3.map (Value.int .u32))) F) (r0_ : Int) (r1_ : Int) (r2_ : TLedger) (H : ledger_Ledger_Append.f k a0 a1 = some (r0_, r1_, r2_)) :
    Calls Tryd.prog 19 #[.pointer (some ⟨g1, o2, none⟩), .slice A15 n17 c16] w fun e w' => ∃ (F' : CH) (A227 : Option Addr) (c228 : Nat) (n229 : Nat) (p231 : CH) (A233 : Option Addr) (c234 : Nat) (n235 : Nat) (p237 : CH), e = .returned (.tuple #[(.int .i64 r0_), (.int .i64 r1_)]) ∧ CH.le F F' ∧ Ctx w F (domL [CH.row g1 o2 [.slice A3 n5 c4, .slice A9 n11 c10], p7, p13]) w' F' [CH.row g1 o2 [.slice A227 n229 c228, .slice A233 n235 c234], p231, p237] ∧ n229 = r2_.digests.sums.length ∧ Row (Kd.arrI 32 .u8) F' p231 (.slice A227 n229 c228) r2_.digests.sums ∧ n235 = r2_.leaves.length ∧ Row (Kd.slice (Kd.int .u8)) F' p237 (.slice A233 n235 c234) r2_.leaves := by
  have C := Ctx.start hp
  generalize hD : domL [CH.row g1 o2 [.slice A3 n5 c4, .slice A9 n11 c10], p7, p13] = D at C ⊢
  unfold ledger_Ledger_Append.f at H
  refine Calls.ofW Tryd.func19 rfl (by simp [Tryd.ntmps19]) ?_
  refine W.seq ?_
  refine W.region rfl ?_
  refine WL.val (Yl.assign (v := .int .i64 0) rfl) ?_
  refine WL.val (Yl.assign (v := .int .i64 0) rfl) ?_
  refine WL.done ?_
  refine W.seq ?_
  refine W.block ?_
  refine W.seq ?_
  refine W.region rfl ?_
  refine WL.val (Yl.move (v := .pointer (some ⟨g1, o2, none⟩)) rfl) ?_
  refine WL.val (Yl.ptrEqSN rfl rfl Tryd.underlying23) ?_
  refine WL.val (Yl.assign (v := .bool false) rfl) ?_
  refine WL.done ?_
  refine W.condF rfl ?_
  refine W.seq ?_
  refine W.region rfl ?_
  refine WL.val (Yl.move (v := .slice A15 n17 c16) rfl) ?_
  refine WL.val (Yl.lenN (A := A15) (l := n17) (q := c16) (n := (a1.length : Int)) rfl Tryd.underlying28 (by omega)) ?_
  refine WL.val (Yl.gtr (m := (a1.length : Int)) (n := 4096) (q := decide ((a1.length : Int) > 4096)) rfl rfl rfl) ?_
  refine WL.val (Yl.assign (v := .bool (decide ((a1.length : Int) > 4096))) rfl) ?_
  refine WL.done ?_
  rcases iteE H with ⟨hc22, H⟩ | ⟨hc22, H⟩
  · skip
    refine W.condT (congrArg Value.bool (decide_eq_true hc22)) ?_
    refine W.seq ?_
    refine W.region rfl ?_
    refine WL.val (Yl.assign (v := .int .i64 0) rfl) ?_
    refine WL.val (Yl.assign (v := .int .i64 42) rfl) ?_
    refine WL.done ?_
    refine W.ret ?_
    refine inB_r ?_
    refine thenE_r ?_
    simp only [Option.some.injEq, Prod.mk.injEq] at H
    obtain ⟨e23, e24, e25⟩ := H
    subst e23 e24 e25
    exact post_r (resE2 rfl rfl rfl) ⟨F, A3, c4, n5, p7, A9, c10, n11, p13, rfl, (CH.le_refl _), C, hn6, hR8, hn12, hR14⟩
  · skip
    refine W.condF (congrArg Value.bool (decide_eq_false hc22)) ?_
    refine W.seq ?_
    refine W.region rfl ?_
    refine WL.val (Yl.move (v := .pointer (some ⟨g1, o2, none⟩)) rfl) ?_
    have le26 : CH.le F (CH.join F (CH.row g1 o2 [.slice A3 n5 c4, .slice A9 n11 c10])) := CH.le_joinL _ _
    have lp27 : CH.le (CH.row g1 o2 [.slice A3 n5 c4, .slice A9 n11 c10]) (CH.join F (CH.row g1 o2 [.slice A3 n5 c4, .slice A9 n11 c10])) := CH.le_joinR (Ctx.dis_of [] [p7, p13] C)
    have C28 : Ctx _ _ _ _ (CH.join F (CH.row g1 o2 [.slice A3 n5 c4, .slice A9 n11 c10])) [p7, p13] := Ctx.freeze [] [p7, p13] C
    have le29 : CH.le (CH.join F (CH.row g1 o2 [.slice A3 n5 c4, .slice A9 n11 c10])) (CH.join (CH.join F (CH.row g1 o2 [.slice A3 n5 c4, .slice A9 n11 c10])) p7) := CH.le_joinL _ _
    have lp30 : CH.le p7 (CH.join (CH.join F (CH.row g1 o2 [.slice A3 n5 c4, .slice A9 n11 c10])) p7) := CH.le_joinR (Ctx.dis_of [] [p13] C28)
    have C31 : Ctx _ _ _ _ (CH.join (CH.join F (CH.row g1 o2 [.slice A3 n5 c4, .slice A9 n11 c10])) p7) [p13] := Ctx.freeze [] [p13] C28
    have le32 : CH.le (CH.join (CH.join F (CH.row g1 o2 [.slice A3 n5 c4, .slice A9 n11 c10])) p7) (CH.join (CH.join (CH.join F (CH.row g1 o2 [.slice A3 n5 c4, .slice A9 n11 c10])) p7) p13) := CH.le_joinL _ _
    have lp33 : CH.le p13 (CH.join (CH.join (CH.join F (CH.row g1 o2 [.slice A3 n5 c4, .slice A9 n11 c10])) p7) p13) := CH.le_joinR (Ctx.dis_of [] [] C31)
    have C34 : Ctx _ _ _ _ (CH.join (CH.join (CH.join F (CH.row g1 o2 [.slice A3 n5 c4, .slice A9 n11 c10])) p7) p13) [] := Ctx.freeze [] [] C31
    obtain ⟨r36, hg35, H⟩ := bindE H
    refine WL.call (args := #[.pointer (some ⟨g1, o2, none⟩)]) (Yenter.fn Tryd.func20 (by kernel_rfl) rfl (argsE (.cons rfl .nil))) (ledger_Ledger_Size.calls k _ (CH.join (CH.join (CH.join F (CH.row g1 o2 [.slice A3 n5 c4, .slice A9 n11 c10])) p7) p13) g1 o2 A3 c4 n5 A9 c10 n11 a0 C34.pre0 hn6 (Row.len_le hR8).1 (Row.len_le hR8).2.1 (Sl.mono (Row.sl hR8) (CH.le_trans (CH.le_trans le26 le29) le32) (CH.le_trans lp30 le32)) hn12 (Row.len_le hR14).1 (Row.len_le hR14).2.1 (Sl.mono (Row.sl hR14) (CH.le_trans (CH.le_trans le26 le29) le32) lp33) (CH.le_trans (CH.le_trans lp27 le29) le32) r36 hg35) ?_
    rintro e_ w_ ⟨rfl, ⟨m37, rfl⟩⟩
    refine ⟨_, rfl, ?_⟩
    have C38 := Ctx.drewN C m37
    refine WL.val (Yl.geq (m := r36) (n := 4096) (q := decide (r36 ≥ 4096)) rfl rfl rfl) ?_
    refine WL.val (Yl.assign (v := .bool (decide (r36 ≥ 4096))) rfl) ?_
    refine WL.done ?_
    rcases iteE H with ⟨hc39, H⟩ | ⟨hc39, H⟩
    · skip
      refine W.condT (congrArg Value.bool (decide_eq_true hc39)) ?_
      refine W.seq ?_
      refine W.region rfl ?_
      refine WL.val (Yl.assign (v := .int .i64 0) rfl) ?_
      refine WL.val (Yl.assign (v := .int .i64 90) rfl) ?_
      refine WL.done ?_
      refine W.ret ?_
      refine inB_r ?_
      refine thenE_r ?_
      simp only [Option.some.injEq, Prod.mk.injEq] at H
      obtain ⟨e40, e41, e42⟩ := H
      subst e40 e41 e42
      exact post_r (resE2 rfl rfl rfl) ⟨F, A3, c4, n5, p7, A9, c10, n11, p13, rfl, (CH.le_refl _), C38, hn6, hR8, hn12, hR14⟩
    · skip
      refine W.condF (congrArg Value.bool (decide_eq_false hc39)) ?_
      refine W.skip ?_
      refine inB_n ?_
      refine W.seq ?_
      refine W.regionA [([9, 12], CH.row g1 o2 [.slice A3 n5 c4, .slice A9 n11 c10])] (by kernel_rfl) ?_
      have C96 := Ctx.drewN C38 1
      refine WA.take none [] 0 rfl (by kernel_rfl) (by kernel_rfl) (show _ = #[true, false, false, false, false, false, false, false, false, false, false, false, false] from rfl) trivial ⟨(Ctx.sub_of [] [p7, p13] C96), trivial⟩ (fun _ hC_ => Yl.move (v := .pointer (some ⟨g1, o2, none⟩)) rfl) ?_
      refine WA.take none [] 1 rfl (by kernel_rfl) (by kernel_rfl) (show _ = #[true, true, false, false, false, false, false, false, false, false, false, false, false] from rfl) trivial ⟨(Ctx.sub_of [] [p7, p13] C96), trivial⟩ (fun _ hC_ => Yl.move (v := .pointer (some ⟨g1, o2, none⟩)) rfl) ?_
      refine WA.take none [] 2 rfl (by kernel_rfl) (by kernel_rfl) (show _ = #[true, true, true, false, false, false, false, false, false, false, false, false, false] from rfl) trivial ⟨(Ctx.sub_of [] [p7, p13] C96), trivial⟩ (fun _ hC_ => Yl.nilCheck rfl) ?_
      refine WA.take none [] 3 rfl (by kernel_rfl) (by kernel_rfl) (show _ = #[true, true, true, true, false, false, false, false, false, false, false, false, false] from rfl) trivial ⟨(Ctx.sub_of [] [p7, p13] C96), trivial⟩ (fun _ hC_ => Yl.fieldAddr (i := 1) rfl Tryd.underlying82 rfl sz49) ?_
      refine WA.take (some 0) [9, 10, 11, 12] 4 rfl (by kernel_rfl) (by kernel_rfl) (show _ = #[true, true, true, true, true, false, false, false, false, false, false, false, false] from rfl) (Ctx.sub_of [] [p7, p13] C96) ⟨(Ctx.sub_of [] [p7, p13] C96), trivial⟩ (fun _ hC_ => Yl.loadV (g := g1) (off := o2) (o := 1) (cs := [.slice A3 n5 c4, .slice A9 n11 c10]) (v := .slice A9 n11 c10) rfl Tryd.underlying49 rfl (show Sub (CH.row g1 o2 [.slice A3 n5 c4, .slice A9 n11 c10]) _ from hC_) rfl) ?_
      refine WA.take none [] 6 rfl (by kernel_rfl) (by kernel_rfl) (show _ = #[true, true, true, true, true, false, true, false, false, false, false, false, false] from rfl) trivial ⟨(Ctx.sub_of [] [p7, p13] C96), trivial⟩ (fun _ hC_ => Yl.move (v := .slice A15 n17 c16) rfl) ?_
      obtain ⟨A97, c98, n99, p100, w101, hn102, hy103, C104, hR105⟩ := ev_lit0 (P := Tryd.prog) 5 (Kd.int .u8) C96 Tryd.underlying28 ti5
      refine WA.up1 5 (by kernel_rfl) (Up.val rfl rfl (show _ = #[true, true, true, true, true, true, true, false, false, false, false, false, false] from rfl) (hy103 _ _) ⟨(Ctx.sub_of [p100] [p7, p13] C104), trivial⟩ ?_)
      obtain ⟨hc106, H⟩ := guardE H
      obtain ⟨A107, c108, n109, p110, w111, hn112, hy113, C114, hR115⟩ := ev_append' (P := Tryd.prog) (cb := c16) 5 (Kd.int .u8) [] [CH.row g1 o2 [.slice A3 n5 c4, .slice A9 n11 c10], p7, p13] C104 hR105 hn18 hS21 C104.fro Tryd.underlying28 ti5 rfl zo5 (by decide) (by decide) (by simpa using hc106)
      have C116 : Ctx _ _ _ _ F [p110, CH.row g1 o2 [.slice A3 n5 c4, .slice A9 n11 c10], p7, p13] := C114
      rw [List.nil_append] at hn112 hR115
      refine WA.up1 7 (by kernel_rfl) (Up.val rfl rfl (show _ = #[true, true, true, true, true, true, true, true, false, false, false, false, false] from rfl) (hy113 _ _ _ _ rfl rfl) ⟨(Ctx.sub_of [p110] [p7, p13] C116), trivial⟩ ?_)
      have hd117 := Ctx.dis_of [] [CH.row g1 o2 [.slice A3 n5 c4, .slice A9 n11 c10], p7, p13] C116
      have C120 : Ctx _ _ _ _ (CH.join F p110) [CH.row g1 o2 [.slice A3 n5 c4, .slice A9 n11 c10], p7, p13] := Ctx.freeze [] [CH.row g1 o2 [.slice A3 n5 c4, .slice A9 n11 c10], p7, p13] C116
      have le119 := CH.le_joinL F p110
      obtain ⟨hl121, hm122, hS123⟩ := Row.freeze' hR115 hd117
      have hR124 := Row.mono hR14 le119
      have hR125 := Row.mono hR8 le119
      obtain ⟨A126, c127, n128, p129, w130, hn131, hy132, C133, hR134⟩ := ev_lit1' (P := Tryd.prog) 28 (Kd.slice (Kd.int .u8)) C120 Tryd.underlying49 ti28 ⟨by decide, by decide⟩ a1 (.slice A107 n109 c108) (slice_rep' A107 c108 n109 hn112 hl121 hm122 hS123)
      refine WA.up1 8 (by kernel_rfl) (Up.val rfl rfl (show _ = #[true, true, true, true, true, true, true, true, true, false, false, false, false] from rfl) (hy132 _ _ _ rfl) ⟨(Ctx.sub_of [p129] [p7, p13] C133), trivial⟩ ?_)
      obtain ⟨hc135, H⟩ := guardE H
      obtain ⟨A136, c137, n138, p139, w140, hn141, hy142, C143, hR144⟩ := ev_append' (P := Tryd.prog) (cb := c127) 28 (Kd.slice (Kd.int .u8)) [p129, CH.row g1 o2 [.slice A3 n5 c4, .slice A9 n11 c10], p7] [] C133 hR124 hn131 (Row.sl hR134) (Ctx.sub_of [] [CH.row g1 o2 [.slice A3 n5 c4, .slice A9 n11 c10], p7, p13] C133) Tryd.underlying49 ti28 rfl zo28 (by decide) (by decide) (by simpa using hc135)
      have C145 : Ctx _ _ _ _ (CH.join F p110) [p129, CH.row g1 o2 [.slice A3 n5 c4, .slice A9 n11 c10], p7, p139] := C143
      refine WA.up1 9 (by kernel_rfl) (Up.val rfl rfl (show _ = #[true, true, true, true, true, true, true, true, true, true, false, false, false] from rfl) (hy142 _ _ _ _ rfl rfl) ⟨trivial, trivial⟩ ?_)
      refine WA.take none [] 10 rfl (by kernel_rfl) (by kernel_rfl) (show _ = #[true, true, true, true, true, true, true, true, true, true, true, false, false] from rfl) trivial ⟨trivial, trivial⟩ (fun _ hC_ => Yl.nilCheck rfl) ?_
      refine WA.take none [] 11 rfl (by kernel_rfl) (by kernel_rfl) (show _ = #[true, true, true, true, true, true, true, true, true, true, true, true, false] from rfl) trivial ⟨trivial, trivial⟩ (fun _ hC_ => Yl.fieldAddr (i := 1) rfl Tryd.underlying82 rfl sz49) ?_
      obtain ⟨w146, hy147, C148⟩ := ev_set (P := Tryd.prog) (ps1 := [p129]) (ps2 := [p7, p139]) (t := 49) (o := 1) [.slice A3 n5 c4, .slice A9 n11 c10] [.slice A3 n5 c4] [.slice A9 n11 c10] [] [.slice A136 n138 c137] (.slice A136 n138 c137) C145 rfl rfl rfl rfl (by simp [Value.oneCell']) sz49
      have C149 : Ctx _ _ _ _ (CH.join F p110) [p129, CH.row g1 o2 [.slice A3 n5 c4, .slice A136 n138 c137], p7, p139] := C148
      refine WA.up1 12 (by kernel_rfl) (Up.skip rfl (show _ = #[true, true, true, true, true, true, true, true, true, true, true, true, true] from rfl) (hy147 _ _ _ _ rfl rfl) ⟨trivial, trivial⟩ ?_)
      refine WA.done (by kernel_rfl) ?_
      refine W.seq ?_
      refine W.regionA [([9, 13], CH.row g1 o2 [.slice A3 n5 c4, .slice A136 n138 c137])] (by kernel_rfl) ?_
      have C179 := Ctx.drewN C149 1
      refine WA.take none [] 0 rfl (by kernel_rfl) (by kernel_rfl) (show _ = #[true, false, false, false, false, false, false, false, false, false, false, false, false, false] from rfl) trivial ⟨(Ctx.sub_of [p129] [p7, p139] C179), trivial⟩ (fun _ hC_ => Yl.move (v := .pointer (some ⟨g1, o2, none⟩)) rfl) ?_
      refine WA.take none [] 1 rfl (by kernel_rfl) (by kernel_rfl) (show _ = #[true, true, false, false, false, false, false, false, false, false, false, false, false, false] from rfl) trivial ⟨(Ctx.sub_of [p129] [p7, p139] C179), trivial⟩ (fun _ hC_ => Yl.move (v := .pointer (some ⟨g1, o2, none⟩)) rfl) ?_
      refine WA.take none [] 2 rfl (by kernel_rfl) (by kernel_rfl) (show _ = #[true, true, true, false, false, false, false, false, false, false, false, false, false, false] from rfl) trivial ⟨(Ctx.sub_of [p129] [p7, p139] C179), trivial⟩ (fun _ hC_ => Yl.nilCheck rfl) ?_
      refine WA.take none [] 3 rfl (by kernel_rfl) (by kernel_rfl) (show _ = #[true, true, true, true, false, false, false, false, false, false, false, false, false, false] from rfl) trivial ⟨(Ctx.sub_of [p129] [p7, p139] C179), trivial⟩ (fun _ hC_ => Yl.fieldAddr (i := 0) rfl Tryd.underlying82 rfl sz80) ?_
      refine WA.take none [] 4 rfl (by kernel_rfl) (by kernel_rfl) (show _ = #[true, true, true, true, true, false, false, false, false, false, false, false, false, false] from rfl) trivial ⟨(Ctx.sub_of [p129] [p7, p139] C179), trivial⟩ (fun _ hC_ => Yl.fieldAddr (i := 0) rfl Tryd.underlying80 rfl sz31) ?_
      refine WA.take (some 0) [9, 10, 11, 12, 13] 5 rfl (by kernel_rfl) (by kernel_rfl) (show _ = #[true, true, true, true, true, true, false, false, false, false, false, false, false, false] from rfl) (Ctx.sub_of [p129] [p7, p139] C179) ⟨(Ctx.sub_of [p129] [p7, p139] C179), trivial⟩ (fun _ hC_ => Yl.loadV (g := g1) (off := o2) (o := 0) (cs := [.slice A3 n5 c4, .slice A136 n138 c137]) (v := .slice A3 n5 c4) rfl Tryd.underlying31 rfl (show Sub (CH.row g1 o2 [.slice A3 n5 c4, .slice A136 n138 c137]) _ from hC_) rfl) ?_
      refine WA.take none [] 6 rfl (by kernel_rfl) (by kernel_rfl) (show _ = #[true, true, true, true, true, true, true, false, false, false, false, false, false, false] from rfl) trivial ⟨(Ctx.sub_of [p129] [p7, p139] C179), trivial⟩ (fun _ hC_ => Yl.move (v := .slice A15 n17 c16) rfl) ?_
      obtain ⟨r181, hg180, H⟩ := bindE H
      refine WA.up1 7 (by kernel_rfl) (Up.call (args := #[.slice A15 n17 c16]) rfl (by kernel_rfl) (show _ = #[true, true, true, true, true, true, true, true, false, false, false, false, false, false] from rfl) (Yenter.fn Tryd.func27 (by kernel_rfl) rfl (argsE (.cons rfl .nil))) (proof_Leaf.calls k _ (CH.join F p110) A15 c16 n17 a1 (Ctx.pre (qs := []) (rest := [p129, CH.row g1 o2 [.slice A3 n5 c4, .slice A136 n138 c137], p7, p139]) C179) hn18 hl19 hm20 (Sl.mono hS21 le119 le119) (CH.le_trans hG1 (CH.le_trans le119 (CH.le_refl _))) (CH.le_trans hG3 (CH.le_trans le119 (CH.le_refl _))) r181 hg180) ?_)
      rintro e_ w_ ⟨rfl, C183, ha182⟩
      have C184 : Ctx _ _ _ _ (CH.join F p110) [p129, CH.row g1 o2 [.slice A3 n5 c4, .slice A136 n138 c137], p7, p139] := Ctx.call (qs := []) (rest := [p129, CH.row g1 o2 [.slice A3 n5 c4, .slice A136 n138 c137], p7, p139]) C179 C183
      refine ⟨_, rfl, ⟨(Ctx.sub_of [p129] [p7, p139] C184), trivial⟩, ?_⟩
      obtain ⟨A185, c186, n187, p188, w189, hn190, hy191, C192, hR193⟩ := ev_lit1' (P := Tryd.prog) 33 (Kd.arrI 32 .u8) C184 Tryd.underlying31 ti33 ⟨by decide, by decide⟩ r181 (.agg (List.toArray (r181.map (Value.int .u8)))) ⟨rfl, ha182⟩
      refine WA.up1 8 (by kernel_rfl) (Up.val rfl rfl (show _ = #[true, true, true, true, true, true, true, true, true, false, false, false, false, false] from rfl) (hy191 _ _ _ rfl) ⟨(Ctx.sub_of [p188, p129] [p7, p139] C192), trivial⟩ ?_)
      obtain ⟨hc194, H⟩ := guardE H
      obtain ⟨A195, c196, n197, p198, w199, hn200, hy201, C202, hR203⟩ := ev_append' (P := Tryd.prog) (cb := c186) 33 (Kd.arrI 32 .u8) [p188, p129, CH.row g1 o2 [.slice A3 n5 c4, .slice A136 n138 c137]] [p139] C192 hR125 hn190 (Row.sl hR193) (Ctx.sub_of [] [p129, CH.row g1 o2 [.slice A3 n5 c4, .slice A136 n138 c137], p7, p139] C192) Tryd.underlying31 ti33 rfl zo33 (by decide) (by decide) (by simpa using hc194)
      have C204 : Ctx _ _ _ _ (CH.join F p110) [p188, p129, CH.row g1 o2 [.slice A3 n5 c4, .slice A136 n138 c137], p198, p139] := C202
      refine WA.up1 9 (by kernel_rfl) (Up.val rfl rfl (show _ = #[true, true, true, true, true, true, true, true, true, true, false, false, false, false] from rfl) (hy201 _ _ _ _ rfl rfl) ⟨trivial, trivial⟩ ?_)
      refine WA.take none [] 10 rfl (by kernel_rfl) (by kernel_rfl) (show _ = #[true, true, true, true, true, true, true, true, true, true, true, false, false, false] from rfl) trivial ⟨trivial, trivial⟩ (fun _ hC_ => Yl.nilCheck rfl) ?_
      refine WA.take none [] 11 rfl (by kernel_rfl) (by kernel_rfl) (show _ = #[true, true, true, true, true, true, true, true, true, true, true, true, false, false] from rfl) trivial ⟨trivial, trivial⟩ (fun _ hC_ => Yl.fieldAddr (i := 0) rfl Tryd.underlying82 rfl sz80) ?_
      refine WA.take none [] 12 rfl (by kernel_rfl) (by kernel_rfl) (show _ = #[true, true, true, true, true, true, true, true, true, true, true, true, true, false] from rfl) trivial ⟨trivial, trivial⟩ (fun _ hC_ => Yl.fieldAddr (i := 0) rfl Tryd.underlying80 rfl sz31) ?_
      obtain ⟨w205, hy206, C207⟩ := ev_set (P := Tryd.prog) (ps1 := [p188, p129]) (ps2 := [p198, p139]) (t := 31) (o := 0) [.slice A3 n5 c4, .slice A136 n138 c137] [] [.slice A3 n5 c4] [.slice A136 n138 c137] [.slice A195 n197 c196] (.slice A195 n197 c196) C204 rfl rfl rfl rfl (by simp [Value.oneCell']) sz31
      have C208 : Ctx _ _ _ _ (CH.join F p110) [p188, p129, CH.row g1 o2 [.slice A195 n197 c196, .slice A136 n138 c137], p198, p139] := C207
      refine WA.up1 13 (by kernel_rfl) (Up.skip rfl (show _ = #[true, true, true, true, true, true, true, true, true, true, true, true, true, true] from rfl) (hy206 _ _ _ _ rfl rfl) ⟨trivial, trivial⟩ ?_)
      refine WA.done (by kernel_rfl) ?_
      refine W.seq ?_
      refine W.region rfl ?_
      refine WL.val (Yl.move (v := .pointer (some ⟨g1, o2, none⟩)) rfl) ?_
      have le209 : CH.le (CH.join F p110) (CH.join (CH.join F p110) (CH.row g1 o2 [.slice A195 n197 c196, .slice A136 n138 c137])) := CH.le_joinL _ _
      have lp210 : CH.le (CH.row g1 o2 [.slice A195 n197 c196, .slice A136 n138 c137]) (CH.join (CH.join F p110) (CH.row g1 o2 [.slice A195 n197 c196, .slice A136 n138 c137])) := CH.le_joinR (Ctx.dis_of [p188, p129] [p198, p139] C208)
      have C211 : Ctx _ _ _ _ (CH.join (CH.join F p110) (CH.row g1 o2 [.slice A195 n197 c196, .slice A136 n138 c137])) [p188, p129, p198, p139] := Ctx.freeze [p188, p129] [p198, p139] C208
      have le212 : CH.le (CH.join (CH.join F p110) (CH.row g1 o2 [.slice A195 n197 c196, .slice A136 n138 c137])) (CH.join (CH.join (CH.join F p110) (CH.row g1 o2 [.slice A195 n197 c196, .slice A136 n138 c137])) p198) := CH.le_joinL _ _
      have lp213 : CH.le p198 (CH.join (CH.join (CH.join F p110) (CH.row g1 o2 [.slice A195 n197 c196, .slice A136 n138 c137])) p198) := CH.le_joinR (Ctx.dis_of [p188, p129] [p139] C211)
      have C214 : Ctx _ _ _ _ (CH.join (CH.join (CH.join F p110) (CH.row g1 o2 [.slice A195 n197 c196, .slice A136 n138 c137])) p198) [p188, p129, p139] := Ctx.freeze [p188, p129] [p139] C211
      have le215 : CH.le (CH.join (CH.join (CH.join F p110) (CH.row g1 o2 [.slice A195 n197 c196, .slice A136 n138 c137])) p198) (CH.join (CH.join (CH.join (CH.join F p110) (CH.row g1 o2 [.slice A195 n197 c196, .slice A136 n138 c137])) p198) p139) := CH.le_joinL _ _
      have lp216 : CH.le p139 (CH.join (CH.join (CH.join (CH.join F p110) (CH.row g1 o2 [.slice A195 n197 c196, .slice A136 n138 c137])) p198) p139) := CH.le_joinR (Ctx.dis_of [p188, p129] [] C214)
      have C217 : Ctx _ _ _ _ (CH.join (CH.join (CH.join (CH.join F p110) (CH.row g1 o2 [.slice A195 n197 c196, .slice A136 n138 c137])) p198) p139) [p188, p129] := Ctx.freeze [p188, p129] [] C214
      obtain ⟨r219, hg218, H⟩ := bindE H
      refine WL.call (args := #[.pointer (some ⟨g1, o2, none⟩)]) (Yenter.fn Tryd.func20 (by kernel_rfl) rfl (argsE (.cons rfl .nil))) (ledger_Ledger_Size.calls k _ (CH.join (CH.join (CH.join (CH.join F p110) (CH.row g1 o2 [.slice A195 n197 c196, .slice A136 n138 c137])) p198) p139) g1 o2 A195 c196 n197 A136 c137 n138 (⟨(⟨a0.digests.sums ++ [r181]⟩ : Tdigests), a0.leaves ++ [a1]⟩ : TLedger) C217.pre0 hn200 (Row.len_le hR203).1 (Row.len_le hR203).2.1 (Sl.mono (Row.sl hR203) (CH.le_trans (CH.le_trans le209 le212) le215) (CH.le_trans lp213 le215)) hn141 (Row.len_le hR144).1 (Row.len_le hR144).2.1 (Sl.mono (Row.sl hR144) (CH.le_trans (CH.le_trans le209 le212) le215) lp216) (CH.le_trans (CH.le_trans lp210 le212) le215) r219 hg218) ?_
      rintro e_ w_ ⟨rfl, ⟨m220, rfl⟩⟩
      refine ⟨_, rfl, ?_⟩
      have C221 := Ctx.drewN C208 m220
      refine WL.val (Yl.sub (m := r219) (n := 1) (r := wi64 (r219 - 1)) rfl rfl rfl) ?_
      refine WL.val (Yl.assign (v := .int .i64 (wi64 (r219 - 1))) rfl) ?_
      refine WL.val (Yl.assign (v := .int .i64 0) rfl) ?_
      refine WL.done ?_
      refine W.ret ?_
      have C222 : Ctx _ _ _ _ (CH.join F p110) [p129, CH.row g1 o2 [.slice A195 n197 c196, .slice A136 n138 c137], p198, p139] := Ctx.drop [] [p129, CH.row g1 o2 [.slice A195 n197 c196, .slice A136 n138 c137], p198, p139] C221
      have C223 : Ctx _ _ _ _ (CH.join F p110) [CH.row g1 o2 [.slice A195 n197 c196, .slice A136 n138 c137], p198, p139] := Ctx.drop [] [CH.row g1 o2 [.slice A195 n197 c196, .slice A136 n138 c137], p198, p139] C222
      simp only [Option.some.injEq, Prod.mk.injEq] at H
      obtain ⟨e224, e225, e226⟩ := H
      subst e224 e225 e226
      exact post_r (resE2 rfl rfl rfl) ⟨(CH.join F p110), A195, c196, n197, p198, A136, c137, n138, p139, rfl, le119, C223, hn200, hR203, hn141, hR144⟩
def ledger_Ledger_Leaf.f (k : Nat) (a0 : TLedger) (a1 : Int) : Option ((List Int) × Int) := (if a1 < 0 then (some (true)) else (some (decide (a1 ≥ (a0.leaves.length : Int))))).bind fun g18 => if g18 = true then (some (([] : List Int), 1)) else (if 0 ≤ a1 ∧ a1 < (a0.leaves.length : Int) then (if (a0.leaves.getD a1.toNat []).length * 1 ≤ 140737488355328 then (some (a0.leaves.getD a1.toNat [], 0)) else none) else none)
set_option maxRecDepth 100000 in
set_option maxHeartbeats 4000000 in
theorem ledger_Ledger_Leaf.calls (k : Nat) (w : World) (F : CH) (g1 : Nat) (o2 : Nat) (A3 : Option Addr) (c4 : Nat) (n5 : Nat) (A10 : Option Addr) (c11 : Nat) (n12 : Nat) (a0 : TLedger) (a1 : Int) (hp : Pre w F []) (hn6 : n5 = a0.digests.sums.length) (hl7 : a0.digests.sums.length ≤ c4) (hm8 : c4 ≤ maxLen) (hS9 : Sl (Kd.arrI 32 .u8) F F A3 a0.digests.sums) (hn13 : n12 = a0.leaves.length) (hl14 : a0.leaves.length ≤ c11) (hm15 : c11 ≤ maxLen) (hS16 : Sl (Kd.slice (Kd.int .u8)) F F A10 a0.leaves) (hg17 : CH.le (CH.row g1 o2 [.slice A3 n5 c4, .slice A10 n12 c11]) F) (r0_ : List Int) (r1_ : Int) (H : ledger_Ledger_Leaf.f k a0 a1 = some (r0_, r1_)) :
    Calls Tryd.prog 42 #[.pointer (some ⟨g1, o2, none⟩), .int .i64 a1] w fun e w' => ∃ (A66 : Option Addr) (c67 : Nat) (n68 : Nat) (p70 : CH), e = .returned (.tuple #[(.slice A66 n68 c67), (.int .i64 r1_)]) ∧ Ctx w F (domL []) w' F [p70] ∧ n68 = r0_.length ∧ Row (Kd.int .u8) F p70 (.slice A66 n68 c67) r0_ := by
  have C := Ctx.start hp
  generalize hD : domL [] = D at C ⊢
  unfold ledger_Ledger_Leaf.f at H
  refine Calls.ofW Tryd.func42 rfl (by simp [Tryd.ntmps42]) ?_
  refine W.seq ?_
  refine W.region rfl ?_
  refine WL.val (Yl.assign (v := .slice none 0 0) rfl) ?_
  refine WL.val (Yl.assign (v := .int .i64 0) rfl) ?_
  refine WL.done ?_
  refine W.seq ?_
  refine W.block ?_
  refine W.seq ?_
  refine W.region rfl ?_
  refine WL.val (Yl.move (v := .pointer (some ⟨g1, o2, none⟩)) rfl) ?_
  refine WL.val (Yl.ptrEqSN rfl rfl Tryd.underlying23) ?_
  refine WL.val (Yl.assign (v := .bool false) rfl) ?_
  refine WL.done ?_
  refine W.condF rfl ?_
  refine W.seq ?_
  refine W.region rfl ?_
  refine WL.val (Yl.move (v := .int .i64 a1) rfl) ?_
  refine WL.val (Yl.lss (m := a1) (n := 0) (q := decide (a1 < 0)) rfl rfl rfl) ?_
  refine WL.val (Yl.move (v := .bool (decide (a1 < 0))) rfl) ?_
  obtain ⟨g18, HE19, H⟩ := bindE H
  refine WL.cut (fun env_ w_ => env_ 9 = .bool g18 ∧ env_ 0 = .pointer (some ⟨g1, o2, none⟩) ∧ env_ 1 = .int .i64 a1 ∧ Ctx w F D w_ F []) ?_ ?_
  · skip
    rcases iteE HE19 with ⟨hc20, HE19⟩ | ⟨hc20, HE19⟩
    · skip
      refine WL.off rfl (congrArg Value.bool (decide_eq_true hc20)) ?_
      refine WL.off rfl (congrArg Value.bool (decide_eq_true hc20)) ?_
      refine WL.off rfl (congrArg Value.bool (decide_eq_true hc20)) ?_
      refine WL.off rfl (congrArg Value.bool (decide_eq_true hc20)) ?_
      refine WL.off rfl (congrArg Value.bool (decide_eq_true hc20)) ?_
      refine WL.off rfl (congrArg Value.bool (decide_eq_true hc20)) ?_
      refine WL.off rfl (congrArg Value.bool (decide_eq_true hc20)) ?_
      refine WL.val (Yl.pickT (v := .bool true) (congrArg Value.bool (decide_eq_true hc20)) rfl) ?_
      refine WL.val (Yl.assign (v := .bool true) rfl) ?_
      cases HE19
      exact WL.done ⟨rfl, rfl, rfl, C⟩
    · skip
      refine WL.on rfl (congrArg Value.bool (decide_eq_false hc20)) ?_
      refine WL.val (Yl.move (v := .int .i64 a1) rfl) ?_
      refine WL.on rfl (congrArg Value.bool (decide_eq_false hc20)) ?_
      refine WL.val (Yl.move (v := .pointer (some ⟨g1, o2, none⟩)) rfl) ?_
      refine WL.on rfl (congrArg Value.bool (decide_eq_false hc20)) ?_
      refine WL.val (Yl.nilCheck rfl) ?_
      refine WL.on rfl (congrArg Value.bool (decide_eq_false hc20)) ?_
      refine WL.val (Yl.fieldAddr (i := 1) rfl Tryd.underlying82 rfl sz49) ?_
      refine WL.on rfl (congrArg Value.bool (decide_eq_false hc20)) ?_
      refine WL.val (Yl.loadV (g := g1) (off := o2) (o := 1) (cs := [.slice A3 n5 c4, .slice A10 n12 c11]) (v := .slice A10 n12 c11) rfl Tryd.underlying49 rfl (Sub.mono (C.fro) hg17) rfl) ?_
      refine WL.on rfl (congrArg Value.bool (decide_eq_false hc20)) ?_
      refine WL.val (Yl.lenN (A := A10) (l := n12) (q := c11) (n := (a0.leaves.length : Int)) rfl Tryd.underlying49 (by omega)) ?_
      refine WL.on rfl (congrArg Value.bool (decide_eq_false hc20)) ?_
      refine WL.val (Yl.geq (m := a1) (n := (a0.leaves.length : Int)) (q := decide (a1 ≥ (a0.leaves.length : Int))) rfl rfl rfl) ?_
      refine WL.val (Yl.pickF (v := .bool (decide (a1 ≥ (a0.leaves.length : Int)))) (congrArg Value.bool (decide_eq_false hc20)) rfl) ?_
      refine WL.val (Yl.assign (v := .bool (decide (a1 ≥ (a0.leaves.length : Int)))) rfl) ?_
      cases HE19
      exact WL.done ⟨rfl, rfl, rfl, C⟩
  · skip
    rintro env_ w_ ⟨ho21, ho22, ho23, C24⟩
    rcases iteE H with ⟨hc25, H⟩ | ⟨hc25, H⟩
    · skip
      refine W.condT (ho21.trans (congrArg Value.bool hc25)) ?_
      refine W.seq ?_
      refine W.region rfl ?_
      refine WL.val (Yl.assign (v := .slice none 0 0) rfl) ?_
      refine WL.val (Yl.assign (v := .int .i64 1) rfl) ?_
      refine WL.done ?_
      refine W.ret ?_
      refine inB_r ?_
      refine thenE_r ?_
      have C26 : Ctx _ _ _ _ F [CH.emp] := Ctx.emp C24
      simp only [Option.some.injEq, Prod.mk.injEq] at H
      obtain ⟨e27, e28⟩ := H
      subst e27 e28
      exact post_r (resE2 rfl rfl rfl) ⟨none, 0, 0, CH.emp, rfl, C26, rfl, (Row.nil _ _)⟩
    · skip
      refine W.condF (ho21.trans (congrArg Value.bool (Bool.eq_false_iff.2 hc25))) ?_
      refine W.skip ?_
      refine inB_n ?_
      refine W.seq ?_
      refine W.region rfl ?_
      obtain ⟨A29, c30, n31, p32, w33, hn34, hy35, C36, hR37⟩ := ev_lit0 (P := Tryd.prog) 5 (Kd.int .u8) C24 Tryd.underlying28 ti5
      refine WL.val (hy35 _ _) ?_
      refine WL.val (Yl.move (v := .pointer (some ⟨g1, o2, none⟩)) ho22) ?_
      refine WL.val (Yl.nilCheck rfl) ?_
      refine WL.val (Yl.fieldAddr (i := 1) rfl Tryd.underlying82 rfl sz49) ?_
      refine WL.val (Yl.loadV (g := g1) (off := o2) (o := 1) (cs := [.slice A3 n5 c4, .slice A10 n12 c11]) (v := .slice A10 n12 c11) rfl Tryd.underlying49 rfl (Sub.mono (C36.fro) hg17) rfl) ?_
      refine WL.val (Yl.move (v := .int .i64 a1) ho23) ?_
      obtain ⟨hc38, H⟩ := guardE H
      obtain ⟨b39, of40, hA41, he42⟩ := hS16 (by omega)
      refine WL.val (Yl.elemAddr (i := a1) rfl rfl hA41 Tryd.underlying49 sz28 (by omega)) ?_
      obtain ⟨cs43, hr44, hx45⟩ := he42 a1.toNat _ (getD_some (d := []) (by omega))
      obtain ⟨A46, c47, rfl, hl50, hm51, hS52⟩ := hr44
      refine WL.val (Yl.load (v := .slice A46 ((a0.leaves.getD a1.toNat []).length) c47) rfl Tryd.underlying28 rfl (((C36.fro)).cell (hx45 0 _ rfl))) ?_
      obtain ⟨hc53, H⟩ := guardE H
      obtain ⟨A54, c55, n56, p57, w58, hn59, hy60, C61, hR62⟩ := ev_append' (P := Tryd.prog) (cb := c47) 5 (Kd.int .u8) [] [] C36 hR37 rfl hS52 C36.fro Tryd.underlying28 ti5 rfl zo5 (by decide) (by decide) (by simpa using hc53)
      have C63 : Ctx _ _ _ _ F [p57] := C61
      rw [List.nil_append] at hn59 hR62
      refine WL.val (hy60 _ _ _ _ rfl rfl) ?_
      refine WL.val (Yl.assign (v := .slice A54 n56 c55) rfl) ?_
      refine WL.val (Yl.assign (v := .int .i64 0) rfl) ?_
      refine WL.done ?_
      refine W.ret ?_
      simp only [Option.some.injEq, Prod.mk.injEq] at H
      obtain ⟨e64, e65⟩ := H
      subst e64 e65
      exact post_r (resE2 rfl rfl rfl) ⟨A54, c55, n56, p57, rfl, C63, hn59, hR62⟩
def ledger_Ledger_part.f (k : Nat) (a0 : TLedger) (a1 : Int) : Option ((List (List Int)) × Int) := (ledger_digests_first.f k a0.digests a1).bind fun ⟨r19, r20⟩ => if r20 = true then (some (r19, 0)) else (some (([] : List (List Int)), 1))
set_option maxRecDepth 100000 in
set_option maxHeartbeats 4000000 in
theorem ledger_Ledger_part.calls (k : Nat) (w : World) (F : CH) (g1 : Nat) (o2 : Nat) (A3 : Option Addr) (c4 : Nat) (n5 : Nat) (A10 : Option Addr) (c11 : Nat) (n12 : Nat) (a0 : TLedger) (a1 : Int) (hp : Pre w F []) (hn6 : n5 = a0.digests.sums.length) (hl7 : a0.digests.sums.length ≤ c4) (hm8 : c4 ≤ maxLen) (hS9 : Sl (Kd.arrI 32 .u8) F F A3 a0.digests.sums) (hn13 : n12 = a0.leaves.length) (hl14 : a0.leaves.length ≤ c11) (hm15 : c11 ≤ maxLen) (hS16 : Sl (Kd.slice (Kd.int .u8)) F F A10 a0.leaves) (hg17 : CH.le (CH.row g1 o2 [.slice A3 n5 c4, .slice A10 n12 c11]) F) (r0_ : List (List Int)) (r1_ : Int) (H : ledger_Ledger_part.f k a0 a1 = some (r0_, r1_)) :
    Calls Tryd.prog 64 #[.pointer (some ⟨g1, o2, none⟩), .int .i64 a1] w fun e w' => ∃ (A36 : Option Addr) (c37 : Nat) (n38 : Nat), e = .returned (.tuple #[(.slice A36 n38 c37), (.int .i64 r1_)]) ∧ (∃ n_, w' = w.drewN n_) ∧ n38 = r0_.length ∧ r0_.length ≤ c37 ∧ c37 ≤ maxLen ∧ Sl (Kd.arrI 32 .u8) F F A36 r0_ := by
  have C := Ctx.start hp
  generalize domL [] = D at C
  have W0 : ∃ n_, w = w.drewN n_ := ⟨0, rfl⟩
  unfold ledger_Ledger_part.f at H
  refine Calls.ofW Tryd.func64 rfl (by simp [Tryd.ntmps64]) ?_
  refine W.seq ?_
  refine W.region rfl ?_
  refine WL.val (Yl.assign (v := .slice none 0 0) rfl) ?_
  refine WL.val (Yl.assign (v := .int .i64 0) rfl) ?_
  refine WL.done ?_
  refine W.seq ?_
  refine W.seq ?_
  refine W.region rfl ?_
  refine WL.val (Yl.move (v := .pointer (some ⟨g1, o2, none⟩)) rfl) ?_
  refine WL.val (Yl.ptrEqSN rfl rfl Tryd.underlying23) ?_
  refine WL.done ?_
  refine W.condF rfl ?_
  refine W.skip ?_
  refine W.seq ?_
  refine W.region rfl ?_
  refine WL.val (Yl.move (v := .pointer (some ⟨g1, o2, none⟩)) rfl) ?_
  refine WL.val (Yl.nilCheck rfl) ?_
  refine WL.val (Yl.fieldAddr (i := 0) rfl Tryd.underlying82 rfl sz80) ?_
  refine WL.val (Yl.move (v := .int .i64 a1) rfl) ?_
  obtain ⟨⟨r19, r20⟩, hg18, H⟩ := bindE H
  refine WL.call (args := #[.pointer (some ⟨g1, o2 + 0, none⟩), .int .i64 a1]) (Yenter.fn Tryd.func71 (by kernel_rfl) rfl (argsE (.cons rfl (.cons rfl .nil)))) (ledger_digests_first.calls k _ F g1 (o2 + 0) A3 c4 n5 a0.digests a1 C.pre0 hn6 hl7 hm8 hS9 (CH.le_trans (CH.le_part (o := 0) (cs := [.slice A3 n5 c4, .slice A10 n12 c11]) rfl) (CH.le_trans hg17 (CH.le_trans (CH.le_refl _) (CH.le_refl _)))) r19 r20 hg18) ?_
  rintro e_ w_ ⟨A21, c22, n23, rfl, ⟨m28, rfl⟩, hn24, hl25, hm26, hS27⟩
  refine ⟨_, rfl, ?_⟩
  have C29 := Ctx.drewN C m28
  have Wq30 := drew_more W0 m28
  refine WL.val (Yl.move (v := .tuple #[(.slice A21 n23 c22), (.bool r20)]) rfl) ?_
  refine WL.val (Yl.extract (v := .slice A21 n23 c22) rfl rfl) ?_
  refine WL.val (Yl.extract (v := .bool r20) rfl rfl) ?_
  refine WL.val (Yl.assign (v := .slice A21 n23 c22) rfl) ?_
  refine WL.val (Yl.assign (v := .bool r20) rfl) ?_
  refine WL.done ?_
  refine W.seq ?_
  refine W.seq ?_
  refine W.region rfl ?_
  refine WL.val (Yl.move (v := .bool r20) rfl) ?_
  refine WL.val (Yl.not (p := r20) (q := !r20) rfl rfl) ?_
  refine WL.done ?_
  rcases iteE H with ⟨hc31, H⟩ | ⟨hc31, H⟩
  · skip
    refine W.condF (congrArg Value.bool (nb_t hc31)) ?_
    refine W.skip ?_
    refine W.seq ?_
    refine W.region rfl ?_
    refine WL.val (Yl.move (v := .slice A21 n23 c22) rfl) ?_
    refine WL.val (Yl.assign (v := .slice A21 n23 c22) rfl) ?_
    refine WL.val (Yl.assign (v := .int .i64 0) rfl) ?_
    refine WL.done ?_
    refine W.ret ?_
    simp only [Option.some.injEq, Prod.mk.injEq] at H
    obtain ⟨e32, e33⟩ := H
    subst e32 e33
    exact post_r (resE2 rfl rfl rfl) ⟨A21, c22, n23, rfl, Wq30, hn24, hl25, hm26, hS27⟩
  · skip
    refine W.condT (congrArg Value.bool (nb_f hc31)) ?_
    refine W.seq ?_
    refine W.region rfl ?_
    refine WL.val (Yl.assign (v := .slice none 0 0) rfl) ?_
    refine WL.val (Yl.assign (v := .int .i64 1) rfl) ?_
    refine WL.done ?_
    refine W.ret ?_
    refine thenE_r ?_
    simp only [Option.some.injEq, Prod.mk.injEq] at H
    obtain ⟨e34, e35⟩ := H
    subst e34 e35
    exact post_r (resE2 rfl rfl rfl) ⟨none, 0, 0, rfl, Wq30, rfl, (Nat.le_refl _), (Nat.zero_le _), (Sl.nil _ _ _ _)⟩
def ledger_Ledger_Head.f (k : Nat) (a0 : TLedger) (a1 : Int) : Option (THead × Int) := (ledger_Ledger_part.f k a0 a1).bind fun ⟨r23, r24⟩ => if r24 = 0 then ((proof_Root.f k r23).bind fun r36 => some ((⟨a1, r36⟩ : THead), 0)) else (some ((⟨0, (List.replicate 32 (0 : Int))⟩ : THead), r24))
set_option maxRecDepth 100000 in
set_option maxHeartbeats 4000000 in
theorem ledger_Ledger_Head.calls (k : Nat) (w : World) (F : CH) (g1 : Nat) (o2 : Nat) (A3 : Option Addr) (c4 : Nat) (n5 : Nat) (A10 : Option Addr) (c11 : Nat) (n12 : Nat) (a0 : TLedger) (a1 : Int) (hp : Pre w F []) (hn6 : n5 = a0.digests.sums.length) (hl7 : a0.digests.sums.length ≤ c4) (hm8 : c4 ≤ maxLen) (hS9 : Sl (Kd.arrI 32 .u8) F F A3 a0.digests.sums) (hn13 : n12 = a0.leaves.length) (hl14 : a0.leaves.length ≤ c11) (hm15 : c11 ≤ maxLen) (hS16 : Sl (Kd.slice (Kd.int .u8)) F F A10 a0.leaves) (hg17 : CH.le (CH.row g1 o2 [.slice A3 n5 c4, .slice A10 n12 c11]) F) (hG1 : CH.le (CH.row 1 0 (glob1.map (Value.int .u32))) F) (hG3 : CH.le (CH.row 3 0 (glob3.map (Value.int .u32))) F) (r0_ : THead) (r1_ : Int) (H : ledger_Ledger_Head.f k a0 a1 = some (r0_, r1_)) :
    Calls Tryd.prog 39 #[.pointer (some ⟨g1, o2, none⟩), .int .i64 a1] w fun e w' => e = .returned (.tuple #[(.agg (List.toArray ([.int .i64 r0_.Size] ++ (r0_.Root.map (Value.int .u8))))), (.int .i64 r1_)]) ∧ Ctx w F (domL []) w' F [] ∧ r0_.Root.length = 32 := by
  have C := Ctx.start hp
  generalize hD : domL [] = D at C ⊢
  unfold ledger_Ledger_Head.f at H
  refine Calls.ofW Tryd.func39 rfl (by simp [Tryd.ntmps39]) ?_
  refine W.seq ?_
  refine W.region rfl ?_
  obtain ⟨g18, w19, hy20, C21⟩ := ev_alloc (P := Tryd.prog) (e := 53) ([.int .i64 0] ++ ((List.replicate 32 (0 : Int)).map (Value.int .u8))) C zr53 rfl
  refine WL.val (hy20 _ _) ?_
  refine WL.val (Yl.assign (v := .int .i64 0) rfl) ?_
  refine WL.done ?_
  refine W.seq ?_
  refine W.region rfl ?_
  refine WL.val (Yl.move (v := .pointer (some ⟨g1, o2, none⟩)) rfl) ?_
  refine WL.val (Yl.move (v := .int .i64 a1) rfl) ?_
  obtain ⟨⟨r23, r24⟩, hg22, H⟩ := bindE H
  refine WL.call (args := #[.pointer (some ⟨g1, o2, none⟩), .int .i64 a1]) (Yenter.fn Tryd.func64 (by kernel_rfl) rfl (argsE (.cons rfl (.cons rfl .nil)))) (ledger_Ledger_part.calls k _ F g1 o2 A3 c4 n5 A10 c11 n12 a0 a1 C21.pre0 hn6 hl7 hm8 hS9 hn13 hl14 hm15 hS16 (CH.le_trans hg17 (CH.le_trans (CH.le_refl _) (CH.le_refl _))) r23 r24 hg22) ?_
  rintro e_ w_ ⟨A25, c26, n27, rfl, ⟨m32, rfl⟩, hn28, hl29, hm30, hS31⟩
  refine ⟨_, rfl, ?_⟩
  have C33 := Ctx.drewN C21 m32
  refine WL.val (Yl.move (v := .tuple #[(.slice A25 n27 c26), (.int .i64 r24)]) rfl) ?_
  refine WL.val (Yl.extract (v := .slice A25 n27 c26) rfl rfl) ?_
  refine WL.val (Yl.extract (v := .int .i64 r24) rfl rfl) ?_
  refine WL.val (Yl.assign (v := .slice A25 n27 c26) rfl) ?_
  refine WL.val (Yl.assign (v := .int .i64 r24) rfl) ?_
  refine WL.done ?_
  refine W.seq ?_
  refine W.seq ?_
  refine W.region rfl ?_
  refine WL.val (Yl.move (v := .int .i64 r24) rfl) ?_
  refine WL.val (Yl.neq (m := r24) (n := 0) (q := !decide (r24 = 0)) rfl rfl rfl) ?_
  refine WL.done ?_
  rcases iteE H with ⟨hc34, H⟩ | ⟨hc34, H⟩
  · skip
    refine W.condF (congrArg Value.bool (ndec_t hc34)) ?_
    refine W.skip ?_
    refine W.seq ?_
    refine W.region rfl ?_
    refine WL.val (Yl.move (v := .int .i64 a1) rfl) ?_
    refine WL.val (Yl.move (v := .slice A25 n27 c26) rfl) ?_
    obtain ⟨r36, hg35, H⟩ := bindE H
    refine WL.call (args := #[.slice A25 n27 c26]) (Yenter.fn Tryd.func22 (by kernel_rfl) rfl (argsE (.cons rfl .nil))) (proof_Root.calls k _ F A25 c26 n27 r23 (Ctx.pre (qs := []) (rest := [CH.row g18 0 ([.int .i64 0] ++ ((List.replicate 32 (0 : Int)).map (Value.int .u8)))]) C33) hn28 hl29 hm30 hS31 (CH.le_trans hG1 (CH.le_trans (CH.le_refl _) (CH.le_refl _))) (CH.le_trans hG3 (CH.le_trans (CH.le_refl _) (CH.le_refl _))) r36 hg35) ?_
    rintro e_ w_ ⟨rfl, C38, ha37⟩
    refine ⟨_, rfl, ?_⟩
    have C39 : Ctx _ _ _ _ F [CH.row g18 0 ([.int .i64 0] ++ ((List.replicate 32 (0 : Int)).map (Value.int .u8)))] := Ctx.call (qs := []) (rest := [CH.row g18 0 ([.int .i64 0] ++ ((List.replicate 32 (0 : Int)).map (Value.int .u8)))]) C33 C38
    refine WL.val (Yl.build (places := [(0, 1), (1, 32)]) (cs := List.toArray ([.int .i64 a1] ++ (r36.map (Value.int .u8)))) Tryd.underlying53 zr53 (pl53 _ Tryd.underlying53) (partsB (.cons rfl (.cons rfl .nil))) (Fills.run (a := [.int .i64 0] ++ ((List.replicate 32 (0 : Int)).map (Value.int .u8))) (c := [.int .i64 a1] ++ (r36.map (Value.int .u8))) (.seg (off := 0) (n := 1) (us := [.int .i64 a1]) (b := [.int .i64 a1] ++ ((List.replicate 32 (0 : Int)).map (Value.int .u8))) (pre := []) (z := [.int .i64 0]) (post := (List.replicate 32 (0 : Int)).map (Value.int .u8)) rfl rfl (by simp [(List.length_replicate ..), ha37]) (by simp) (by simp) (by simp [(List.length_replicate ..), ha37]) (by simp [(List.length_replicate ..), ha37]) (.seg (off := 1) (n := 32) (us := r36.map (Value.int .u8)) (b := [.int .i64 a1] ++ (r36.map (Value.int .u8))) (pre := [.int .i64 a1]) (z := (List.replicate 32 (0 : Int)).map (Value.int .u8)) (post := []) rfl rfl (by simp [(List.length_replicate ..), ha37]) (by simp) (by simp) (by simp [(List.length_replicate ..), ha37]) (by simp [(List.length_replicate ..), ha37]) .nil)))) ?_
    obtain ⟨w40, hy41, C42⟩ := ev_set (P := Tryd.prog) (ps1 := []) (ps2 := []) (t := 53) (o := 0) ([.int .i64 0] ++ ((List.replicate 32 (0 : Int)).map (Value.int .u8))) [] ([.int .i64 0] ++ ((List.replicate 32 (0 : Int)).map (Value.int .u8))) [] ([.int .i64 a1] ++ (r36.map (Value.int .u8))) (.agg (List.toArray ([.int .i64 a1] ++ (r36.map (Value.int .u8))))) C39 (by first | (simp only [List.length_append, List.length_map, List.length_cons, List.length_nil, (List.length_replicate ..), ha37]; done) | simp [(List.length_replicate ..), ha37]) (by first | (simp only [List.length_append, List.length_map, List.length_cons, List.length_nil, (List.length_replicate ..), ha37]; done) | simp [(List.length_replicate ..), ha37]) (by first | (simp only [List.length_append, List.length_map, List.length_cons, List.length_nil, (List.length_replicate ..), ha37]; done) | simp [(List.length_replicate ..), ha37]) rfl (ones_append (by simp [Value.oneCell']) (one_ints _ _)) (sz_of sz53 (by first | (simp only [List.length_append, List.length_map, List.length_cons, List.length_nil, ha37]; done) | simp [ha37]))
    have C43 : Ctx _ _ _ _ F [CH.row g18 0 ([.int .i64 a1] ++ (r36.map (Value.int .u8)))] := (by simpa using C42)
    refine WL.skip (hy41 _ _ _ _ rfl rfl) ?_
    refine WL.val (Yl.assign (v := .int .i64 0) rfl) ?_
    refine WL.done ?_
    refine W.ret ?_
    have C44 : Ctx _ _ _ _ F [] := Ctx.drop [] [] C43
    simp only [Option.some.injEq, Prod.mk.injEq] at H
    obtain ⟨e45, e46⟩ := H
    subst e45 e46
    exact post_r (resET rfl ((.cell rfl (run_loadVA2 (g := g18) (off := 0) (o := 0) (cs := [.int .i64 a1] ++ (r36.map (Value.int .u8))) (us := [.int .i64 a1] ++ (r36.map (Value.int .u8))) Tryd.underlying53 rfl (sz_of sz53 (by first | (simp only [List.length_append, List.length_map, List.length_cons, List.length_nil, ha37]; done) | simp [ha37])) (Ctx.sub_of [] [] C43) (take_all _)) (.tmp rfl .nil))) rfl) ⟨rfl, C44, ha37⟩
  · skip
    refine W.condT (congrArg Value.bool (ndec_f hc34)) ?_
    refine W.seq ?_
    refine W.region rfl ?_
    refine WL.val (Yl.build (places := [(0, 1), (1, 32)]) (cs := List.toArray ([.int .i64 0] ++ ((List.replicate 32 (0 : Int)).map (Value.int .u8)))) Tryd.underlying53 zr53 (pl53 _ Tryd.underlying53) (partsB .nil) (Fills.run (a := [.int .i64 0] ++ ((List.replicate 32 (0 : Int)).map (Value.int .u8))) (c := [.int .i64 0] ++ ((List.replicate 32 (0 : Int)).map (Value.int .u8))) .nil)) ?_
    refine WL.val (Yl.move (v := .int .i64 r24) rfl) ?_
    obtain ⟨w47, hy48, C49⟩ := ev_set (P := Tryd.prog) (ps1 := []) (ps2 := []) (t := 53) (o := 0) ([.int .i64 0] ++ ((List.replicate 32 (0 : Int)).map (Value.int .u8))) [] ([.int .i64 0] ++ ((List.replicate 32 (0 : Int)).map (Value.int .u8))) [] ([.int .i64 0] ++ ((List.replicate 32 (0 : Int)).map (Value.int .u8))) (.agg (List.toArray ([.int .i64 0] ++ ((List.replicate 32 (0 : Int)).map (Value.int .u8))))) C33 (by first | (simp only [List.length_append, List.length_map, List.length_cons, List.length_nil, (List.length_replicate ..)]; done) | simp [(List.length_replicate ..)]) (by first | (simp only [List.length_append, List.length_map, List.length_cons, List.length_nil, (List.length_replicate ..)]; done) | simp [(List.length_replicate ..)]) (by first | (simp only [List.length_append, List.length_map, List.length_cons, List.length_nil, (List.length_replicate ..)]; done) | simp [(List.length_replicate ..)]) rfl (ones_append (by simp [Value.oneCell']) (one_ints _ _)) (sz_of sz53 (by first | (simp only [List.length_append, List.length_map, List.length_cons, List.length_nil, (List.length_replicate ..)]; done) | simp [(List.length_replicate ..)]))
    have C50 : Ctx _ _ _ _ F [CH.row g18 0 ([.int .i64 0] ++ ((List.replicate 32 (0 : Int)).map (Value.int .u8)))] := (by simpa using C49)
    refine WL.skip (hy48 _ _ _ _ rfl rfl) ?_
    refine WL.val (Yl.assign (v := .int .i64 r24) rfl) ?_
    refine WL.done ?_
    refine W.ret ?_
    refine thenE_r ?_
    have C51 : Ctx _ _ _ _ F [] := Ctx.drop [] [] C50
    simp only [Option.some.injEq, Prod.mk.injEq] at H
    obtain ⟨e52, e53⟩ := H
    subst e52 e53
    exact post_r (resET rfl ((.cell rfl (run_loadVA2 (g := g18) (off := 0) (o := 0) (cs := [.int .i64 0] ++ ((List.replicate 32 (0 : Int)).map (Value.int .u8))) (us := [.int .i64 0] ++ ((List.replicate 32 (0 : Int)).map (Value.int .u8))) Tryd.underlying53 rfl (sz_of sz53 (by first | (simp only [List.length_append, List.length_map, List.length_cons, List.length_nil, (List.length_replicate ..)]; done) | simp [(List.length_replicate ..)])) (Ctx.sub_of [] [] C50) (take_all _)) (.tmp rfl .nil))) rfl) ⟨rfl, C51, (List.length_replicate ..)⟩
def ledger_Ledger_Include.f (k : Nat) (a0 : TLedger) (a1 : Int) (a2 : Int) : Option ((List (List Int)) × Int) := (ledger_Ledger_part.f k a0 a2).bind fun ⟨r19, r20⟩ => if r20 = 0 then ((proof_Include.f k r19 a1).bind fun ⟨r32, r33⟩ => some (r32, r33)) else (some (([] : List (List Int)), r20))
set_option maxRecDepth 100000 in
set_option maxHeartbeats 4000000 in
theorem ledger_Ledger_Include.calls (k : Nat) (w : World) (F : CH) (g1 : Nat) (o2 : Nat) (A3 : Option Addr) (c4 : Nat) (n5 : Nat) (A10 : Option Addr) (c11 : Nat) (n12 : Nat) (a0 : TLedger) (a1 : Int) (a2 : Int) (hp : Pre w F []) (hn6 : n5 = a0.digests.sums.length) (hl7 : a0.digests.sums.length ≤ c4) (hm8 : c4 ≤ maxLen) (hS9 : Sl (Kd.arrI 32 .u8) F F A3 a0.digests.sums) (hn13 : n12 = a0.leaves.length) (hl14 : a0.leaves.length ≤ c11) (hm15 : c11 ≤ maxLen) (hS16 : Sl (Kd.slice (Kd.int .u8)) F F A10 a0.leaves) (hg17 : CH.le (CH.row g1 o2 [.slice A3 n5 c4, .slice A10 n12 c11]) F) (hG1 : CH.le (CH.row 1 0 (glob1.map (Value.int .u32))) F) (hG3 : CH.le (CH.row 3 0 (glob3.map (Value.int .u32))) F) (r0_ : List (List Int)) (r1_ : Int) (H : ledger_Ledger_Include.f k a0 a1 a2 = some (r0_, r1_)) :
    Calls Tryd.prog 40 #[.pointer (some ⟨g1, o2, none⟩), .int .i64 a1, .int .i64 a2] w fun e w' => ∃ (A47 : Option Addr) (c48 : Nat) (n49 : Nat) (p51 : CH), e = .returned (.tuple #[(.slice A47 n49 c48), (.int .i64 r1_)]) ∧ Ctx w F (domL []) w' F [p51] ∧ n49 = r0_.length ∧ Row (Kd.arrI 32 .u8) F p51 (.slice A47 n49 c48) r0_ := by
  have C := Ctx.start hp
  generalize hD : domL [] = D at C ⊢
  unfold ledger_Ledger_Include.f at H
  refine Calls.ofW Tryd.func40 rfl (by simp [Tryd.ntmps40]) ?_
  refine W.seq ?_
  refine W.region rfl ?_
  refine WL.val (Yl.assign (v := .slice none 0 0) rfl) ?_
  refine WL.val (Yl.assign (v := .int .i64 0) rfl) ?_
  refine WL.done ?_
  refine W.seq ?_
  refine W.region rfl ?_
  refine WL.val (Yl.move (v := .pointer (some ⟨g1, o2, none⟩)) rfl) ?_
  refine WL.val (Yl.move (v := .int .i64 a2) rfl) ?_
  obtain ⟨⟨r19, r20⟩, hg18, H⟩ := bindE H
  refine WL.call (args := #[.pointer (some ⟨g1, o2, none⟩), .int .i64 a2]) (Yenter.fn Tryd.func64 (by kernel_rfl) rfl (argsE (.cons rfl (.cons rfl .nil)))) (ledger_Ledger_part.calls k _ F g1 o2 A3 c4 n5 A10 c11 n12 a0 a2 C.pre0 hn6 hl7 hm8 hS9 hn13 hl14 hm15 hS16 (CH.le_trans hg17 (CH.le_trans (CH.le_refl _) (CH.le_refl _))) r19 r20 hg18) ?_
  rintro e_ w_ ⟨A21, c22, n23, rfl, ⟨m28, rfl⟩, hn24, hl25, hm26, hS27⟩
  refine ⟨_, rfl, ?_⟩
  have C29 := Ctx.drewN C m28
  refine WL.val (Yl.move (v := .tuple #[(.slice A21 n23 c22), (.int .i64 r20)]) rfl) ?_
  refine WL.val (Yl.extract (v := .slice A21 n23 c22) rfl rfl) ?_
  refine WL.val (Yl.extract (v := .int .i64 r20) rfl rfl) ?_
  refine WL.val (Yl.assign (v := .slice A21 n23 c22) rfl) ?_
  refine WL.val (Yl.assign (v := .int .i64 r20) rfl) ?_
  refine WL.done ?_
  refine W.seq ?_
  refine W.seq ?_
  refine W.region rfl ?_
  refine WL.val (Yl.move (v := .int .i64 r20) rfl) ?_
  refine WL.val (Yl.neq (m := r20) (n := 0) (q := !decide (r20 = 0)) rfl rfl rfl) ?_
  refine WL.done ?_
  rcases iteE H with ⟨hc30, H⟩ | ⟨hc30, H⟩
  · skip
    refine W.condF (congrArg Value.bool (ndec_t hc30)) ?_
    refine W.skip ?_
    refine W.seq ?_
    refine W.region rfl ?_
    refine WL.val (Yl.move (v := .slice A21 n23 c22) rfl) ?_
    refine WL.val (Yl.move (v := .int .i64 a1) rfl) ?_
    obtain ⟨⟨r32, r33⟩, hg31, H⟩ := bindE H
    refine WL.call (args := #[.slice A21 n23 c22, .int .i64 a1]) (Yenter.fn Tryd.func29 (by kernel_rfl) rfl (argsE (.cons rfl (.cons rfl .nil)))) (proof_Include.calls k _ F A21 c22 n23 r19 a1 (Ctx.pre (qs := []) (rest := []) C29) hn24 hl25 hm26 hS27 (CH.le_trans hG1 (CH.le_trans (CH.le_refl _) (CH.le_refl _))) (CH.le_trans hG3 (CH.le_trans (CH.le_refl _) (CH.le_refl _))) r32 r33 hg31) ?_
    rintro e_ w_ ⟨A34, c35, n36, p38, rfl, C40, hn37, hR39⟩
    refine ⟨_, rfl, ?_⟩
    have C41 : Ctx _ _ _ _ F [p38] := Ctx.call (qs := []) (rest := []) C29 C40
    refine WL.val (Yl.extract (v := .slice A34 n36 c35) rfl rfl) ?_
    refine WL.val (Yl.extract (v := .int .i64 r33) rfl rfl) ?_
    refine WL.val (Yl.assign (v := .slice A34 n36 c35) rfl) ?_
    refine WL.val (Yl.assign (v := .int .i64 r33) rfl) ?_
    refine WL.done ?_
    refine W.ret ?_
    simp only [Option.some.injEq, Prod.mk.injEq] at H
    obtain ⟨e42, e43⟩ := H
    subst e42 e43
    exact post_r (resE2 rfl rfl rfl) ⟨A34, c35, n36, p38, rfl, C41, hn37, hR39⟩
  · skip
    refine W.condT (congrArg Value.bool (ndec_f hc30)) ?_
    refine W.seq ?_
    refine W.region rfl ?_
    refine WL.val (Yl.move (v := .int .i64 r20) rfl) ?_
    refine WL.val (Yl.assign (v := .slice none 0 0) rfl) ?_
    refine WL.val (Yl.assign (v := .int .i64 r20) rfl) ?_
    refine WL.done ?_
    refine W.ret ?_
    refine thenE_r ?_
    have C44 : Ctx _ _ _ _ F [CH.emp] := Ctx.emp C29
    simp only [Option.some.injEq, Prod.mk.injEq] at H
    obtain ⟨e45, e46⟩ := H
    subst e45 e46
    exact post_r (resE2 rfl rfl rfl) ⟨none, 0, 0, CH.emp, rfl, C44, rfl, (Row.nil _ _)⟩
def ledger_Ledger_Consist.f (k : Nat) (a0 : TLedger) (a1 : Int) (a2 : Int) : Option ((List (List Int)) × Int) := (ledger_Ledger_part.f k a0 a2).bind fun ⟨r19, r20⟩ => if r20 = 0 then ((proof_Consist.f k r19 a1).bind fun ⟨r32, r33⟩ => some (r32, r33)) else (some (([] : List (List Int)), r20))
set_option maxRecDepth 100000 in
set_option maxHeartbeats 4000000 in
theorem ledger_Ledger_Consist.calls (k : Nat) (w : World) (F : CH) (g1 : Nat) (o2 : Nat) (A3 : Option Addr) (c4 : Nat) (n5 : Nat) (A10 : Option Addr) (c11 : Nat) (n12 : Nat) (a0 : TLedger) (a1 : Int) (a2 : Int) (hp : Pre w F []) (hn6 : n5 = a0.digests.sums.length) (hl7 : a0.digests.sums.length ≤ c4) (hm8 : c4 ≤ maxLen) (hS9 : Sl (Kd.arrI 32 .u8) F F A3 a0.digests.sums) (hn13 : n12 = a0.leaves.length) (hl14 : a0.leaves.length ≤ c11) (hm15 : c11 ≤ maxLen) (hS16 : Sl (Kd.slice (Kd.int .u8)) F F A10 a0.leaves) (hg17 : CH.le (CH.row g1 o2 [.slice A3 n5 c4, .slice A10 n12 c11]) F) (hG1 : CH.le (CH.row 1 0 (glob1.map (Value.int .u32))) F) (hG3 : CH.le (CH.row 3 0 (glob3.map (Value.int .u32))) F) (r0_ : List (List Int)) (r1_ : Int) (H : ledger_Ledger_Consist.f k a0 a1 a2 = some (r0_, r1_)) :
    Calls Tryd.prog 48 #[.pointer (some ⟨g1, o2, none⟩), .int .i64 a1, .int .i64 a2] w fun e w' => ∃ (A47 : Option Addr) (c48 : Nat) (n49 : Nat) (p51 : CH), e = .returned (.tuple #[(.slice A47 n49 c48), (.int .i64 r1_)]) ∧ Ctx w F (domL []) w' F [p51] ∧ n49 = r0_.length ∧ Row (Kd.arrI 32 .u8) F p51 (.slice A47 n49 c48) r0_ := by
  have C := Ctx.start hp
  generalize hD : domL [] = D at C ⊢
  unfold ledger_Ledger_Consist.f at H
  refine Calls.ofW Tryd.func48 rfl (by simp [Tryd.ntmps48]) ?_
  refine W.seq ?_
  refine W.region rfl ?_
  refine WL.val (Yl.assign (v := .slice none 0 0) rfl) ?_
  refine WL.val (Yl.assign (v := .int .i64 0) rfl) ?_
  refine WL.done ?_
  refine W.seq ?_
  refine W.region rfl ?_
  refine WL.val (Yl.move (v := .pointer (some ⟨g1, o2, none⟩)) rfl) ?_
  refine WL.val (Yl.move (v := .int .i64 a2) rfl) ?_
  obtain ⟨⟨r19, r20⟩, hg18, H⟩ := bindE H
  refine WL.call (args := #[.pointer (some ⟨g1, o2, none⟩), .int .i64 a2]) (Yenter.fn Tryd.func64 (by kernel_rfl) rfl (argsE (.cons rfl (.cons rfl .nil)))) (ledger_Ledger_part.calls k _ F g1 o2 A3 c4 n5 A10 c11 n12 a0 a2 C.pre0 hn6 hl7 hm8 hS9 hn13 hl14 hm15 hS16 (CH.le_trans hg17 (CH.le_trans (CH.le_refl _) (CH.le_refl _))) r19 r20 hg18) ?_
  rintro e_ w_ ⟨A21, c22, n23, rfl, ⟨m28, rfl⟩, hn24, hl25, hm26, hS27⟩
  refine ⟨_, rfl, ?_⟩
  have C29 := Ctx.drewN C m28
  refine WL.val (Yl.move (v := .tuple #[(.slice A21 n23 c22), (.int .i64 r20)]) rfl) ?_
  refine WL.val (Yl.extract (v := .slice A21 n23 c22) rfl rfl) ?_
  refine WL.val (Yl.extract (v := .int .i64 r20) rfl rfl) ?_
  refine WL.val (Yl.assign (v := .slice A21 n23 c22) rfl) ?_
  refine WL.val (Yl.assign (v := .int .i64 r20) rfl) ?_
  refine WL.done ?_
  refine W.seq ?_
  refine W.seq ?_
  refine W.region rfl ?_
  refine WL.val (Yl.move (v := .int .i64 r20) rfl) ?_
  refine WL.val (Yl.neq (m := r20) (n := 0) (q := !decide (r20 = 0)) rfl rfl rfl) ?_
  refine WL.done ?_
  rcases iteE H with ⟨hc30, H⟩ | ⟨hc30, H⟩
  · skip
    refine W.condF (congrArg Value.bool (ndec_t hc30)) ?_
    refine W.skip ?_
    refine W.seq ?_
    refine W.region rfl ?_
    refine WL.val (Yl.move (v := .slice A21 n23 c22) rfl) ?_
    refine WL.val (Yl.move (v := .int .i64 a1) rfl) ?_
    obtain ⟨⟨r32, r33⟩, hg31, H⟩ := bindE H
    refine WL.call (args := #[.slice A21 n23 c22, .int .i64 a1]) (Yenter.fn Tryd.func31 (by kernel_rfl) rfl (argsE (.cons rfl (.cons rfl .nil)))) (proof_Consist.calls k _ F A21 c22 n23 r19 a1 (Ctx.pre (qs := []) (rest := []) C29) hn24 hl25 hm26 hS27 (CH.le_trans hG1 (CH.le_trans (CH.le_refl _) (CH.le_refl _))) (CH.le_trans hG3 (CH.le_trans (CH.le_refl _) (CH.le_refl _))) r32 r33 hg31) ?_
    rintro e_ w_ ⟨A34, c35, n36, p38, rfl, C40, hn37, hR39⟩
    refine ⟨_, rfl, ?_⟩
    have C41 : Ctx _ _ _ _ F [p38] := Ctx.call (qs := []) (rest := []) C29 C40
    refine WL.val (Yl.extract (v := .slice A34 n36 c35) rfl rfl) ?_
    refine WL.val (Yl.extract (v := .int .i64 r33) rfl rfl) ?_
    refine WL.val (Yl.assign (v := .slice A34 n36 c35) rfl) ?_
    refine WL.val (Yl.assign (v := .int .i64 r33) rfl) ?_
    refine WL.done ?_
    refine W.ret ?_
    simp only [Option.some.injEq, Prod.mk.injEq] at H
    obtain ⟨e42, e43⟩ := H
    subst e42 e43
    exact post_r (resE2 rfl rfl rfl) ⟨A34, c35, n36, p38, rfl, C41, hn37, hR39⟩
  · skip
    refine W.condT (congrArg Value.bool (ndec_f hc30)) ?_
    refine W.seq ?_
    refine W.region rfl ?_
    refine WL.val (Yl.move (v := .int .i64 r20) rfl) ?_
    refine WL.val (Yl.assign (v := .slice none 0 0) rfl) ?_
    refine WL.val (Yl.assign (v := .int .i64 r20) rfl) ?_
    refine WL.done ?_
    refine W.ret ?_
    refine thenE_r ?_
    have C44 : Ctx _ _ _ _ F [CH.emp] := Ctx.emp C29
    simp only [Option.some.injEq, Prod.mk.injEq] at H
    obtain ⟨e45, e46⟩ := H
    subst e45 e46
    exact post_r (resE2 rfl rfl rfl) ⟨none, 0, 0, CH.emp, rfl, C44, rfl, (Row.nil _ _)⟩
end Go.Proofs.YthdlfclkcdnenaaDoor
