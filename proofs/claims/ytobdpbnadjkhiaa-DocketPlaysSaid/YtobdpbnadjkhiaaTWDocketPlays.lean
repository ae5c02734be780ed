/- The law DocketPlays returns true for every input, and changes none of it: the row, out of the law's walk and its plain law. No condition but the row's own. -/
import Derived.Test.YtobdpbnadjkhiaaRows
import Derived.Test.YtobdpbnadjkhiaaTPPlays
import Derived.Test.YtobdpbnadjkhiaaTLj
import Derived.Test.YtobdpbnadjkhiaaTUPlays
import Derived.WalkKit
import Derived.ProofKit
import Derived.OpenShut
import Derived.ShutString
import Derived.ChangeOld
import Derived.Below
import Derived.SizedLaws
import Derived.Carry
namespace Go.Proofs.Ytobdpbnadjkhiaa.docketPlays
open Go.ChangeShapes Go.WideShapes Go.ChangeAt Go.RowKit Go.WG
set_option linter.unusedVariables false
theorem own : ownKnob Try.prog.godebug = none := by kernel_rfl
theorem laidOut : laidOutB Try.prog = true := by kernel_rfl
set_option maxRecDepth 100000 in
theorem lifted (os : Os) (started : os.Started) (H : Type) (enc : TypeId × Value → H) :
  ReturnsInHanded {} Try.checked os 3 .any (Rows.docketPlaysSpec.pre6 enc Try.prog Try.f3 Rows.docketPlaysRow.domain false) (Rows.docketPlaysSpec.post enc Try.prog Try.f3 false true false false) := by
 refine returnsInHanded_of_change_sized (C := Try.checked) own started (by kernel_rfl) Try.func3
  (ChangeSpec.witness6 (enc := enc) (C := Try.checked) false ⟨#[], #[.agg #[.int .i64 0, .int .i64 0, .int .i64 0, .int .i64 0, .int .i64 0, .int .i64 0, .int .i64 0], .slice none 0 0], []⟩ 8 (by kernel_rfl) (by kernel_rfl) (by kernel_rfl) (by kernel_rfl)) ?_
 intro W base args ds gs before hval0 hW hcnd hsz0 _
 have hsz : (DataW.weightsEach Try.prog (Try.f3.params.toList ++ Rows.docketPlaysSpec.plain.varTypes Try.prog) (ds ++ gs)).all (· ≤ reachBytes) = true := hsz0
 have hval : ∀ (j : Nat) t v, Try.f3.params[j]? = some t → args[j]? = some v → Value.okWide Try.prog W .any base t v := hval0
 have hW' := hW
 obtain ⟨p, q, hA0, hV, rfl, hfz, hnd⟩ := hW
 have hA : DataW.TrodAll enc Try.prog W 0 (fun _ => true) true Try.f3.params.toList args.toList ds p := hA0
 rw [Try.params3] at hA hval hsz
 obtain ⟨v0, vs0, d0, ds0, p0, q0, hargs, rfl, rfl, h0, r0⟩ := trodAll_cons hA
 obtain ⟨v1, vs1, d1, ds1, p1, q1, rfl, rfl, rfl, h1, r1⟩ := trodAll_cons r0
 obtain ⟨rfl, rfl, rfl⟩ := trodAll_nil r1
 obtain rfl : args = #[v0, v1] := by cases args; simp_all
 obtain ⟨rfl, rfl⟩ := trodVars_none hV
 have k0 := h0
 have lt0 : ∀ x ∈ p0, x.block < W.heap.size := by obtain ⟨m, hm⟩ := k0; exact DataW.trod_lt m _ _ _ hm
 obtain ⟨a0, hk0, ho0⟩ := Rd.arg rd23 h0 hsz (j := 0) rfl rfl
 obtain ⟨cs0, rfl, _⟩ := okWide_struct Try.underlying23 (hval 0 23 v0 rfl rfl)
 have hcs0 := TConfig.open hk0
 obtain rfl : cs0 = List.toArray ([.int .i64 a0.Faulty, .int .i64 a0.Workers, .int .i64 a0.Height, .int .i64 a0.Bits, .int .i64 a0.Jobs, .int .i64 a0.Term, .int .i64 a0.Heads]) := by rw [← hcs0]; exact (Array.toArray_toList).symm
 have k1 := h1
 have lt1 : ∀ x ∈ p1, x.block < W.heap.size := by obtain ⟨m, hm⟩ := k1; exact DataW.trod_lt m _ _ _ hm
 obtain ⟨a1, hk1, ho1⟩ := Rd.arg rd24 h1 hsz (j := 1) rfl rfl
 obtain ⟨A1, n1, c1, rfl⟩ := okWide_slice Try.underlying24 (hval 1 24 v1 rfl rfl)
 obtain ⟨hn1, hl1, hm1, hS1⟩ := slice_rep2 hk1
 clear hA0 hval0 hsz0 hsz
 obtain ⟨k_, hk_⟩ := Pure.DocketPlays a0 a1 ho0 ho1
 refine (juratlaw21_DocketPlays.calls k_ W (whole W) a0 A1 c1 n1 a1 (whole_pre W) hn1 hl1 hm1 hS1 true hk_).mono fun e W' hq => ?_
 obtain ⟨he, hC⟩ := hq
 have bel : Below W.heap.size W W' := hC.below
 subst he
 exact ⟨_, rfl, _, _, _, [], _, [], hW', trodAll_mk1 (shut_bool Try.underlying4 _), (trodAll_cons_mk (Below.trod laidOut (by kernel_rfl) (of_decide_eq_true (by kernel_rfl)) k0 bel lt0) (trodAll_cons_mk (Below.trod laidOut (by kernel_rfl) (of_decide_eq_true (by kernel_rfl)) k1 bel lt1) trodAll_mk0)), rfl, bel.frame _, fun h => by cases h⟩
theorem over : Rows.docketPlaysRow.holds Try.pinned (OpenSpec.ofChange Rows.docketPlaysSpec) :=
 OpenClaim.holds_of_wide 3 Try.f3 rfl rfl rfl rfl rfl rfl rfl ⟨rfl, rfl, rfl, rfl, rfl⟩ rfl rfl rfl rfl rfl (by kernel_rfl) Try.func3 (by kernel_rfl)
  (of_decide_eq_true (by kernel_rfl)) (by unfold Func.isWrapper; first | (rw [if_pos (by decide +kernel)]; kernel_rfl) | (rw [if_neg (by decide +kernel)]; exact ⟨rfl, rfl⟩))
  (fun os started H enc _ => lifted os started H enc)
theorem proved : Rows.DocketPlaysSaid := over
#print axioms proved
end Go.Proofs.Ytobdpbnadjkhiaa.docketPlays
namespace Go.Proofs.Ytobdpbnadjkhiaa
/-- The row, under a short name, for the claim. -/
theorem docketPlays_holds : Rows.DocketPlaysSaid := docketPlays.proved
end Go.Proofs.Ytobdpbnadjkhiaa
