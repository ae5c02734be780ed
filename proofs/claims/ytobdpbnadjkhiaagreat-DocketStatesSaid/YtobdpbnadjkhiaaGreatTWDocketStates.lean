/- The law DocketStates returns true for every input, and changes none of it: the row, out of the law's walk and its plain law. No condition but the row's own. -/
import Derived.Test.YtobdpbnadjkhiaaGreatRows
import Derived.Test.YtobdpbnadjkhiaaGreatTM10
import Derived.Test.YtobdpbnadjkhiaaGreatTM2
import Derived.Test.YtobdpbnadjkhiaaGreatTM12
import Derived.WalkKit
import Derived.ProofKit
import Derived.OpenShut
import Derived.ShutString
import Derived.ChangeOld
import Derived.Below
import Derived.SizedLaws
import Derived.Carry
namespace Go.Proofs.YtobdpbnadjkhiaaGreat.docketStates
open Go.ChangeShapes Go.WideShapes Go.ChangeAt Go.RowKit Go.WG
set_option linter.unusedVariables false
theorem own : ownKnob Tryz.prog.godebug = none := by kernel_rfl
theorem laidOut : laidOutB Tryz.prog = true := by kernel_rfl
set_option maxRecDepth 100000 in
theorem lifted (os : Os) (started : os.Started) (H : Type) (enc : TypeId × Value → H) :
  ReturnsInHanded {} Tryz.checked os 4 .any (Rows.docketStatesSpec.pre6 enc Tryz.prog Tryz.f4 Rows.docketStatesRow.domain false) (Rows.docketStatesSpec.post enc Tryz.prog Tryz.f4 false true false false) := by
 refine returnsInHanded_of_change_sized (C := Tryz.checked) own started (by kernel_rfl) Tryz.func4
  (ChangeSpec.witness6 (enc := enc) (C := Tryz.checked) false ⟨#[], #[.agg #[.int .i64 0, .int .i64 0, .int .i64 0, .int .i64 0, .int .i64 0, .int .i64 0, .int .i64 0], .slice none 0 0, .slice none 0 0], []⟩ 8 (by kernel_rfl) (by kernel_rfl) (by kernel_rfl) (by kernel_rfl)) ?_
 intro W base args ds gs before hval0 hW hcnd hsz0 _
 have hsz : (DataW.weightsEach Tryz.prog (Tryz.f4.params.toList ++ Rows.docketStatesSpec.plain.varTypes Tryz.prog) (ds ++ gs)).all (· ≤ reachBytes) = true := hsz0
 have hval : ∀ (j : Nat) t v, Tryz.f4.params[j]? = some t → args[j]? = some v → Value.okWide Tryz.prog W .any base t v := hval0
 have hW' := hW
 obtain ⟨p, q, hA0, hV, rfl, hfz, hnd⟩ := hW
 have hA : DataW.TrodAll enc Tryz.prog W 0 (fun _ => true) true Tryz.f4.params.toList args.toList ds p := hA0
 rw [Tryz.params4] at hA hval hsz
 obtain ⟨v0, vs0, d0, ds0, p0, q0, hargs, rfl, rfl, h0, r0⟩ := trodAll_cons hA
 obtain ⟨v1, vs1, d1, ds1, p1, q1, rfl, rfl, rfl, h1, r1⟩ := trodAll_cons r0
 obtain ⟨v2, vs2, d2, ds2, p2, q2, rfl, rfl, rfl, h2, r2⟩ := trodAll_cons r1
 obtain ⟨rfl, rfl, rfl⟩ := trodAll_nil r2
 obtain rfl : args = #[v0, v1, v2] := by cases args; simp_all
 obtain ⟨rfl, rfl⟩ := trodVars_none hV
 have k0 := h0
 have lt0 : ∀ x ∈ p0, x.block < W.heap.size := by obtain ⟨m, hm⟩ := k0; exact DataW.trod_lt m _ _ _ hm
 obtain ⟨a0, hk0, ho0⟩ := Rd.arg Lg h0 hsz (j := 0) rfl rfl
 obtain ⟨cs0, rfl, _⟩ := okWide_struct Tryz.underlying42 (hval 0 42 v0 rfl rfl)
 have hcs0 := rK.open hk0
 obtain rfl : cs0 = List.toArray ([.int .i64 a0.Faulty, .int .i64 a0.Workers, .int .i64 a0.Height, .int .i64 a0.Bits, .int .i64 a0.Jobs, .int .i64 a0.Term, .int .i64 a0.Heads]) := by rw [← hcs0]; exact (Array.toArray_toList).symm
 have k1 := h1
 have lt1 : ∀ x ∈ p1, x.block < W.heap.size := by obtain ⟨m, hm⟩ := k1; exact DataW.trod_lt m _ _ _ hm
 obtain ⟨a1, hk1, ho1⟩ := Rd.arg KU h1 hsz (j := 1) rfl rfl
 obtain ⟨A1, n1, c1, rfl⟩ := okWide_slice Tryz.underlying43 (hval 1 43 v1 rfl rfl)
 obtain ⟨hn1, hl1, hm1, hS1⟩ := DN hk1
 have k2 := h2
 have lt2 : ∀ x ∈ p2, x.block < W.heap.size := by obtain ⟨m, hm⟩ := k2; exact DataW.trod_lt m _ _ _ hm
 obtain ⟨a2, hk2, ho2⟩ := Rd.arg Kg h2 hsz (j := 2) rfl rfl
 obtain ⟨A2, n2, c2, rfl⟩ := okWide_slice Tryz.underlying24 (hval 2 24 v2 rfl rfl)
 obtain ⟨hn2, hl2, hm2, hS2⟩ := DN hk2
 clear hA0 hval0 hsz0 hsz
 obtain ⟨k_, hk_⟩ := Pure.CB a0 a1 a2 ho0 ho1 ho2
 refine (sM.calls k_ W (whole W) a0 A1 c1 n1 a1 A2 c2 n2 a2 (GP W) hn1 hl1 hm1 hS1 hn2 hl2 hm2 hS2 true hk_).mono fun e W' hq => ?_
 obtain ⟨he, hC⟩ := hq
 have bel : Below W.heap.size W W' := hC.below
 subst he
 exact ⟨_, rfl, _, _, _, [], _, [], hW', trodAll_mk1 (shut_bool Tryz.underlying4 _), (trodAll_cons_mk (Below.trod laidOut (by kernel_rfl) (of_decide_eq_true (by kernel_rfl)) k0 bel lt0) (trodAll_cons_mk (Below.trod laidOut (by kernel_rfl) (of_decide_eq_true (by kernel_rfl)) k1 bel lt1) (trodAll_cons_mk (Below.trod laidOut (by kernel_rfl) (of_decide_eq_true (by kernel_rfl)) k2 bel lt2) trodAll_mk0))), rfl, bel.frame _, fun h => by cases h⟩
theorem Ks : Rows.docketStatesRow.holds Tryz.pinned (OpenSpec.ofChange Rows.docketStatesSpec) :=
 OpenClaim.holds_of_wide 4 Tryz.f4 rfl rfl rfl rfl rfl rfl rfl ⟨rfl, rfl, rfl, rfl, rfl⟩ rfl rfl rfl rfl rfl (by kernel_rfl) Tryz.func4 (by kernel_rfl)
  (of_decide_eq_true (by kernel_rfl)) (by unfold Func.isWrapper; first | (rw [if_pos (by decide +kernel)]; kernel_rfl) | (rw [if_neg (by decide +kernel)]; exact ⟨rfl, rfl⟩))
  (fun os started H enc _ => lifted os started H enc)
theorem proved : Rows.DocketStatesSaid := Ks
#print axioms proved
end Go.Proofs.YtobdpbnadjkhiaaGreat.docketStates
namespace Go.Proofs.YtobdpbnadjkhiaaGreat
theorem docketStates_holds : Rows.DocketStatesSaid := docketStates.proved
end Go.Proofs.YtobdpbnadjkhiaaGreat
