/- Functions of the program: each as a plain function of numbers and lists, and the proof that the program's own comes to it. Nothing is assumed but what each theorem says. -/
import Derived.Test.YtobdpbnadjkhiaaTGt
namespace Go.Proofs.Ytobdpbnadjkhiaa
open Go.RowKit Go.WG
set_option linter.unusedVariables false
set_option linter.unusedSimpArgs false
def juratref21_in.f (k : Nat) (a0 : Int) (a1 : Int) (a2 : Int) : Option Bool := some ((decide (a0 ≥ a1)) && (decide (a0 ≤ a2)))
set_option maxRecDepth 100000 in
set_option maxHeartbeats 4000000 in
theorem juratref21_in.calls (k : Nat) (w : World) (F : CH) (a0 : Int) (a1 : Int) (a2 : Int) (hp : Pre w F [])  (r0_ : Bool) (H : juratref21_in.f k a0 a1 a2 = some r0_) :
    Calls Try.prog 35 #[.int .i64 a0, .int .i64 a1, .int .i64 a2] w fun e w' => e = .returned (.bool r0_) ∧ (∃ n_, w' = w.drewN n_) := by
 have C := Ctx.start hp
 generalize domL [] = D at C
 have W0 : ∃ n_, w = w.drewN n_ := ⟨0, rfl⟩
 unfold juratref21_in.f at H
 refine Calls.ofW Try.func35 rfl (by simp [Try.ntmps35]) ?_
 refine W.seq ?_
 refine W.region rfl ?_
 refine WL.val (Yl.assign (v := .bool false) rfl) ?_
 refine WL.done ?_
 refine W.seq ?_
 refine W.region rfl ?_
 refine WL.val (Yl.move (v := .int .i64 a0) rfl) ?_
 refine WL.val (Yl.move (v := .int .i64 a1) rfl) ?_
 refine WL.val (Yl.geq (m := a0) (n := a1) (q := decide (a0 ≥ a1)) rfl rfl rfl) ?_
 refine WL.val (Yl.move (v := .bool (decide (a0 ≥ a1))) rfl) ?_
 refine WL.cut (fun env_ w_ => env_ 6 = .bool ((decide (a0 ≥ a1)) && (decide (a0 ≤ a2))) ∧ Ctx w F D w_ F [] ∧ (∃ n_, w_ = w.drewN n_)) ?_ ?_
 ·rcases Bool.eq_false_or_eq_true (decide (a0 ≥ a1)) with hb1 | hb1
  ·refine WL.valOn rfl (congrArg Value.bool hb1) (Yl.move (v := .int .i64 a0) rfl) ?_
   refine WL.valOn rfl (congrArg Value.bool hb1) (Yl.move (v := .int .i64 a2) rfl) ?_
   refine WL.valOn rfl (congrArg Value.bool hb1) (Yl.leq (m := a0) (n := a2) (q := decide (a0 ≤ a2)) rfl rfl rfl) ?_
   refine WL.val (Yl.pickT (v := .bool (decide (a0 ≤ a2))) (congrArg Value.bool hb1) rfl) ?_
   refine WL.val (Yl.assign (v := .bool (decide (a0 ≤ a2))) rfl) ?_
   exact WL.done ⟨(congrArg Value.bool (show (decide (a0 ≤ a2)) = ((decide (a0 ≥ a1)) && (decide (a0 ≤ a2))) from by simp [hb1])), C, W0⟩
  ·refine WL.offs 3 10 true (congrArg Value.bool hb1) rfl ?_
   refine WL.val (Yl.pickF (v := .bool false) (congrArg Value.bool hb1) rfl) ?_
   refine WL.val (Yl.assign (v := .bool false) rfl) ?_
   exact WL.done ⟨(congrArg Value.bool (show false = ((decide (a0 ≥ a1)) && (decide (a0 ≤ a2))) from by simp [hb1])), C, W0⟩
 ·rintro env_ w_ ⟨ho2, C3, Wq4⟩
  refine W.ret ?_
  have e5 := Option.some.inj H
  subst e5
  exact post_r (resE1 rfl ho2) ⟨rfl, Wq4⟩
def juratref21_Right.f (k : Nat) (a0 : TConfig) : Option Bool := (juratref21_in.f k a0.Faulty 0 2).bind fun r10 => (if r10 = true then ((juratref21_in.f k a0.Workers (wi64 ((wi64 (2 * a0.Faulty)) + 1)) 8).bind fun r17 => if r17 = true then ((juratref21_in.f k a0.Height 0 6).bind fun r22 => if r22 = true then ((juratref21_in.f k a0.Heads 0 6).bind fun r27 => if r27 = true then ((juratref21_in.f k a0.Bits 1 256).bind fun r32 => if r32 = true then ((juratref21_in.f k a0.Jobs 1 64).bind fun r37 => if r37 = true then ((juratref21_in.f k a0.Term 1 10000).bind fun r42 => some (r42)) else (some (false))) else (some (false))) else (some (false))) else (some (false))) else (some (false))) else (some (false))).bind fun g13 => some g13
set_option maxRecDepth 100000 in
set_option maxHeartbeats 4000000 in
theorem juratref21_Right.calls (k : Nat) (w : World) (F : CH) (a0 : TConfig) (hp : Pre w F [])  (r0_ : Bool) (H : juratref21_Right.f k a0 = some r0_) :
    Calls Try.prog 22 #[.agg (List.toArray [.int .i64 a0.Faulty, .int .i64 a0.Workers, .int .i64 a0.Height, .int .i64 a0.Bits, .int .i64 a0.Jobs, .int .i64 a0.Term, .int .i64 a0.Heads])] w fun e w' => e = .returned (.bool r0_) ∧ Ctx w F (domL []) w' F [] := by
 have C := Ctx.start hp
 generalize hD : domL [] = D at C ⊢
 unfold juratref21_Right.f at H
 refine Calls.ofW Try.func22 rfl (by simp [Try.ntmps22]) ?_
 refine W.seq ?_
 refine W.region rfl ?_
 let q1 : List Go.Value := [.int .i64 a0.Faulty, .int .i64 a0.Workers, .int .i64 a0.Height, .int .i64 a0.Bits, .int .i64 a0.Jobs, .int .i64 a0.Term, .int .i64 a0.Heads]
 obtain ⟨g1, w2, hy3, C4⟩ := ev_box (P := Try.prog) 23 (.agg (List.toArray q1)) q1 C rfl
 refine WL.val (hy3 _ _ _ rfl) ?_
 refine WL.val (Yl.assign (v := .bool false) rfl) ?_
 refine WL.done ?_
 refine W.seq ?_
 refine W.region rfl ?_
 refine WL.val (Yl.fieldAddr (i := 0) rfl Try.underlying23 rfl sz3) ?_
 refine WL.val (Yl.loadV (g := g1) (off := 0) (o := 0) (cs := q1) (v := .int .i64 a0.Faulty) rfl Try.underlying3 rfl (Ctx.subI 0 C4 rfl) rfl) ?_
 obtain ⟨r10, hg9, H⟩ := bindE H
 refine WL.callH (juratref21_in.calls k _ F a0.Faulty 0 2 C4.pre0  r10 hg9) (Yenter.fn Try.func35 (by kernel_rfl) rfl (argsE (.cons rfl (.cons rfl (.cons rfl .nil))))) ?_
 rintro e_ w_ ⟨rfl, ⟨m11, rfl⟩⟩
 refine ⟨_, rfl, ?_⟩
 have C12 := Ctx.drewN C4 m11
 refine WL.val (Yl.move (v := .bool r10) rfl) ?_
 obtain ⟨g13, HE14, H⟩ := bindE H
 refine WL.cut (fun env_ w_ => env_ 2 = .bool g13 ∧ Ctx w F D w_ F [CH.row g1 0 q1]) ?_ ?_
 ·rcases iteE HE14 with ⟨hc15, HE14⟩ | ⟨hc15, HE14⟩
  ·refine WL.valOn rfl (congrArg Value.bool hc15) (Yl.fieldAddr (i := 1) rfl Try.underlying23 rfl sz3) ?_
   refine WL.valOn rfl (congrArg Value.bool hc15) (Yl.loadV (g := g1) (off := 0) (o := 1) (cs := q1) (v := .int .i64 a0.Workers) rfl Try.underlying3 rfl (Ctx.subI 0 C12 rfl) rfl) ?_
   refine WL.valOn rfl (congrArg Value.bool hc15) (Yl.fieldAddr (i := 0) rfl Try.underlying23 rfl sz3) ?_
   refine WL.valOn rfl (congrArg Value.bool hc15) (Yl.loadV (g := g1) (off := 0) (o := 0) (cs := q1) (v := .int .i64 a0.Faulty) rfl Try.underlying3 rfl (Ctx.subI 0 C12 rfl) rfl) ?_
   refine WL.valOn rfl (congrArg Value.bool hc15) (Yl.mul (m := 2) (n := a0.Faulty) (r := wi64 (2 * a0.Faulty)) rfl rfl rfl) ?_
   refine WL.valOn rfl (congrArg Value.bool hc15) (Yl.add (m := wi64 (2 * a0.Faulty)) (n := 1) (r := wi64 ((wi64 (2 * a0.Faulty)) + 1)) rfl rfl rfl) ?_
   refine WL.on rfl (congrArg Value.bool hc15) ?_
   obtain ⟨r17, hg16, HE14⟩ := bindE HE14
   refine WL.callH (juratref21_in.calls k _ F a0.Workers (wi64 ((wi64 (2 * a0.Faulty)) + 1)) 8 C12.pre0  r17 hg16) (Yenter.fn Try.func35 (by kernel_rfl) rfl (argsE (.cons rfl (.cons rfl (.cons rfl .nil))))) ?_
   rintro e_ w_ ⟨rfl, ⟨m18, rfl⟩⟩
   refine ⟨_, rfl, ?_⟩
   have C19 := Ctx.drewN C12 m18
   refine WL.val (Yl.pickT (v := .bool r17) (congrArg Value.bool hc15) rfl) ?_
   refine WL.val (Yl.move (v := .bool r17) rfl) ?_
   rcases iteE HE14 with ⟨hc20, HE14⟩ | ⟨hc20, HE14⟩
   ·refine WL.valOn rfl (congrArg Value.bool hc20) (Yl.fieldAddr (i := 2) rfl Try.underlying23 rfl sz3) ?_
    refine WL.valOn rfl (congrArg Value.bool hc20) (Yl.loadV (g := g1) (off := 0) (o := 2) (cs := q1) (v := .int .i64 a0.Height) rfl Try.underlying3 rfl (Ctx.subI 0 C19 rfl) rfl) ?_
    refine WL.on rfl (congrArg Value.bool hc20) ?_
    obtain ⟨r22, hg21, HE14⟩ := bindE HE14
    refine WL.callH (juratref21_in.calls k _ F a0.Height 0 6 C19.pre0  r22 hg21) (Yenter.fn Try.func35 (by kernel_rfl) rfl (argsE (.cons rfl (.cons rfl (.cons rfl .nil))))) ?_
    rintro e_ w_ ⟨rfl, ⟨m23, rfl⟩⟩
    refine ⟨_, rfl, ?_⟩
    have C24 := Ctx.drewN C19 m23
    refine WL.val (Yl.pickT (v := .bool r22) (congrArg Value.bool hc20) rfl) ?_
    refine WL.val (Yl.move (v := .bool r22) rfl) ?_
    rcases iteE HE14 with ⟨hc25, HE14⟩ | ⟨hc25, HE14⟩
    ·refine WL.valOn rfl (congrArg Value.bool hc25) (Yl.fieldAddr (i := 6) rfl Try.underlying23 rfl sz3) ?_
     refine WL.valOn rfl (congrArg Value.bool hc25) (Yl.loadV (g := g1) (off := 0) (o := 6) (cs := q1) (v := .int .i64 a0.Heads) rfl Try.underlying3 rfl (Ctx.subI 0 C24 rfl) rfl) ?_
     refine WL.on rfl (congrArg Value.bool hc25) ?_
     obtain ⟨r27, hg26, HE14⟩ := bindE HE14
     refine WL.callH (juratref21_in.calls k _ F a0.Heads 0 6 C24.pre0  r27 hg26) (Yenter.fn Try.func35 (by kernel_rfl) rfl (argsE (.cons rfl (.cons rfl (.cons rfl .nil))))) ?_
     rintro e_ w_ ⟨rfl, ⟨m28, rfl⟩⟩
     refine ⟨_, rfl, ?_⟩
     have C29 := Ctx.drewN C24 m28
     refine WL.val (Yl.pickT (v := .bool r27) (congrArg Value.bool hc25) rfl) ?_
     refine WL.val (Yl.move (v := .bool r27) rfl) ?_
     rcases iteE HE14 with ⟨hc30, HE14⟩ | ⟨hc30, HE14⟩
     ·refine WL.valOn rfl (congrArg Value.bool hc30) (Yl.fieldAddr (i := 3) rfl Try.underlying23 rfl sz3) ?_
      refine WL.valOn rfl (congrArg Value.bool hc30) (Yl.loadV (g := g1) (off := 0) (o := 3) (cs := q1) (v := .int .i64 a0.Bits) rfl Try.underlying3 rfl (Ctx.subI 0 C29 rfl) rfl) ?_
      refine WL.on rfl (congrArg Value.bool hc30) ?_
      obtain ⟨r32, hg31, HE14⟩ := bindE HE14
      refine WL.callH (juratref21_in.calls k _ F a0.Bits 1 256 C29.pre0  r32 hg31) (Yenter.fn Try.func35 (by kernel_rfl) rfl (argsE (.cons rfl (.cons rfl (.cons rfl .nil))))) ?_
      rintro e_ w_ ⟨rfl, ⟨m33, rfl⟩⟩
      refine ⟨_, rfl, ?_⟩
      have C34 := Ctx.drewN C29 m33
      refine WL.val (Yl.pickT (v := .bool r32) (congrArg Value.bool hc30) rfl) ?_
      refine WL.val (Yl.move (v := .bool r32) rfl) ?_
      rcases iteE HE14 with ⟨hc35, HE14⟩ | ⟨hc35, HE14⟩
      ·refine WL.valOn rfl (congrArg Value.bool hc35) (Yl.fieldAddr (i := 4) rfl Try.underlying23 rfl sz3) ?_
       refine WL.valOn rfl (congrArg Value.bool hc35) (Yl.loadV (g := g1) (off := 0) (o := 4) (cs := q1) (v := .int .i64 a0.Jobs) rfl Try.underlying3 rfl (Ctx.subI 0 C34 rfl) rfl) ?_
       refine WL.on rfl (congrArg Value.bool hc35) ?_
       obtain ⟨r37, hg36, HE14⟩ := bindE HE14
       refine WL.callH (juratref21_in.calls k _ F a0.Jobs 1 64 C34.pre0  r37 hg36) (Yenter.fn Try.func35 (by kernel_rfl) rfl (argsE (.cons rfl (.cons rfl (.cons rfl .nil))))) ?_
       rintro e_ w_ ⟨rfl, ⟨m38, rfl⟩⟩
       refine ⟨_, rfl, ?_⟩
       have C39 := Ctx.drewN C34 m38
       refine WL.val (Yl.pickT (v := .bool r37) (congrArg Value.bool hc35) rfl) ?_
       refine WL.val (Yl.move (v := .bool r37) rfl) ?_
       rcases iteE HE14 with ⟨hc40, HE14⟩ | ⟨hc40, HE14⟩
       ·refine WL.valOn rfl (congrArg Value.bool hc40) (Yl.fieldAddr (i := 5) rfl Try.underlying23 rfl sz3) ?_
        refine WL.valOn rfl (congrArg Value.bool hc40) (Yl.loadV (g := g1) (off := 0) (o := 5) (cs := q1) (v := .int .i64 a0.Term) rfl Try.underlying3 rfl (Ctx.subI 0 C39 rfl) rfl) ?_
        refine WL.on rfl (congrArg Value.bool hc40) ?_
        obtain ⟨r42, hg41, HE14⟩ := bindE HE14
        refine WL.callH (juratref21_in.calls k _ F a0.Term 1 10000 C39.pre0  r42 hg41) (Yenter.fn Try.func35 (by kernel_rfl) rfl (argsE (.cons rfl (.cons rfl (.cons rfl .nil))))) ?_
        rintro e_ w_ ⟨rfl, ⟨m43, rfl⟩⟩
        refine ⟨_, rfl, ?_⟩
        have C44 := Ctx.drewN C39 m43
        refine WL.val (Yl.pickT (v := .bool r42) (congrArg Value.bool hc40) rfl) ?_
        refine WL.val (Yl.assign (v := .bool r42) rfl) ?_
        cases HE14
        exact WL.done ⟨rfl, C44⟩
       ·refine WL.offs 3 35 true (congrArg Value.bool (Bool.eq_false_iff.2 hc40)) rfl ?_
        refine WL.val (Yl.pickF (v := .bool false) (congrArg Value.bool (Bool.eq_false_iff.2 hc40)) rfl) ?_
        refine WL.val (Yl.assign (v := .bool false) rfl) ?_
        cases HE14
        exact WL.done ⟨rfl, C39⟩
      ·refine WL.offs 3 30 true (congrArg Value.bool (Bool.eq_false_iff.2 hc35)) rfl ?_
       refine WL.val (Yl.pickF (v := .bool false) (congrArg Value.bool (Bool.eq_false_iff.2 hc35)) rfl) ?_
       refine WL.val (Yl.move (v := .bool false) rfl) ?_
       refine WL.offs 3 35 true rfl rfl ?_
       refine WL.val (Yl.pickF (v := .bool false) rfl rfl) ?_
       refine WL.val (Yl.assign (v := .bool false) rfl) ?_
       cases HE14
       exact WL.done ⟨rfl, C34⟩
     ·refine WL.offs 3 25 true (congrArg Value.bool (Bool.eq_false_iff.2 hc30)) rfl ?_
      refine WL.val (Yl.pickF (v := .bool false) (congrArg Value.bool (Bool.eq_false_iff.2 hc30)) rfl) ?_
      refine WL.val (Yl.move (v := .bool false) rfl) ?_
      refine WL.offs 3 30 true rfl rfl ?_
      refine WL.val (Yl.pickF (v := .bool false) rfl rfl) ?_
      refine WL.val (Yl.move (v := .bool false) rfl) ?_
      refine WL.offs 3 35 true rfl rfl ?_
      refine WL.val (Yl.pickF (v := .bool false) rfl rfl) ?_
      refine WL.val (Yl.assign (v := .bool false) rfl) ?_
      cases HE14
      exact WL.done ⟨rfl, C29⟩
    ·refine WL.offs 3 20 true (congrArg Value.bool (Bool.eq_false_iff.2 hc25)) rfl ?_
     refine WL.val (Yl.pickF (v := .bool false) (congrArg Value.bool (Bool.eq_false_iff.2 hc25)) rfl) ?_
     refine WL.val (Yl.move (v := .bool false) rfl) ?_
     refine WL.offs 3 25 true rfl rfl ?_
     refine WL.val (Yl.pickF (v := .bool false) rfl rfl) ?_
     refine WL.val (Yl.move (v := .bool false) rfl) ?_
     refine WL.offs 3 30 true rfl rfl ?_
     refine WL.val (Yl.pickF (v := .bool false) rfl rfl) ?_
     refine WL.val (Yl.move (v := .bool false) rfl) ?_
     refine WL.offs 3 35 true rfl rfl ?_
     refine WL.val (Yl.pickF (v := .bool false) rfl rfl) ?_
     refine WL.val (Yl.assign (v := .bool false) rfl) ?_
     cases HE14
     exact WL.done ⟨rfl, C24⟩
   ·refine WL.offs 3 15 true (congrArg Value.bool (Bool.eq_false_iff.2 hc20)) rfl ?_
    refine WL.val (Yl.pickF (v := .bool false) (congrArg Value.bool (Bool.eq_false_iff.2 hc20)) rfl) ?_
    refine WL.val (Yl.move (v := .bool false) rfl) ?_
    refine WL.offs 3 20 true rfl rfl ?_
    refine WL.val (Yl.pickF (v := .bool false) rfl rfl) ?_
    refine WL.val (Yl.move (v := .bool false) rfl) ?_
    refine WL.offs 3 25 true rfl rfl ?_
    refine WL.val (Yl.pickF (v := .bool false) rfl rfl) ?_
    refine WL.val (Yl.move (v := .bool false) rfl) ?_
    refine WL.offs 3 30 true rfl rfl ?_
    refine WL.val (Yl.pickF (v := .bool false) rfl rfl) ?_
    refine WL.val (Yl.move (v := .bool false) rfl) ?_
    refine WL.offs 3 35 true rfl rfl ?_
    refine WL.val (Yl.pickF (v := .bool false) rfl rfl) ?_
    refine WL.val (Yl.assign (v := .bool false) rfl) ?_
    cases HE14
    exact WL.done ⟨rfl, C19⟩
  ·refine WL.offs 7 6 true (congrArg Value.bool (Bool.eq_false_iff.2 hc15)) rfl ?_
   refine WL.val (Yl.pickF (v := .bool false) (congrArg Value.bool (Bool.eq_false_iff.2 hc15)) rfl) ?_
   refine WL.val (Yl.move (v := .bool false) rfl) ?_
   refine WL.offs 3 15 true rfl rfl ?_
   refine WL.val (Yl.pickF (v := .bool false) rfl rfl) ?_
   refine WL.val (Yl.move (v := .bool false) rfl) ?_
   refine WL.offs 3 20 true rfl rfl ?_
   refine WL.val (Yl.pickF (v := .bool false) rfl rfl) ?_
   refine WL.val (Yl.move (v := .bool false) rfl) ?_
   refine WL.offs 3 25 true rfl rfl ?_
   refine WL.val (Yl.pickF (v := .bool false) rfl rfl) ?_
   refine WL.val (Yl.move (v := .bool false) rfl) ?_
   refine WL.offs 3 30 true rfl rfl ?_
   refine WL.val (Yl.pickF (v := .bool false) rfl rfl) ?_
   refine WL.val (Yl.move (v := .bool false) rfl) ?_
   refine WL.offs 3 35 true rfl rfl ?_
   refine WL.val (Yl.pickF (v := .bool false) rfl rfl) ?_
   refine WL.val (Yl.assign (v := .bool false) rfl) ?_
   cases HE14
   exact WL.done ⟨rfl, C12⟩
 ·rintro env_ w_ ⟨ho45, C46⟩
  refine W.ret ?_
  have C47 : Ctx _ _ _ _ _ [] := Ctx.pick [] C46 rfl
  have e48 := Option.some.inj H
  subst e48
  exact post_r (resE1 rfl ho45) ⟨rfl, C47⟩
end Go.Proofs.Ytobdpbnadjkhiaa
