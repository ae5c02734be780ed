/- The law ReplicaNil returns true for every input, and changes none of it: the row, out of the law's walk and its plain law. No condition but the row's own. -/
import Derived.Test.YtnlpmnegjgjiiaaGreatDoorRows
import Derived.Test.YtnlpmnegjgjiiaaGreatDoorGr
import Derived.Test.YtnlpmnegjgjiiaaGreatDoorLp
import Derived.Test.YtnlpmnegjgjiiaaGreatDoorEyL
import Derived.WalkKit
import Derived.ProofKit
import Derived.OpenShut
import Derived.ShutString
import Derived.ChangeOld
import Derived.Below
import Derived.SizedLaws
import Derived.Carry
import Derived.LaidMore
import Derived.Stop.Joined
import Derived.SevenTiedAt
import Derived.MakeChecks
import Derived.Test.YtnlpmnegjgjiiaaGreatDoorCards
import Derived.Test.YtnlpmnegjgjiiaaGreatDoorTie
namespace Go.Proofs.YtnlpmnegjgjiiaaGreatDoor.replicaNil
open Go.ChangeShapes Go.WideShapes Go.ChangeAt Go.RowKit Go.WG
set_option linter.unusedVariables false
theorem own : ownKnob Tryz.prog.godebug = none := by kernel_rfl
theorem laidOut : laidOutB Tryz.prog = true := by kernel_rfl
theorem g3 : Tryz.prog.globalNamed "jurat/sha.k" = some 3 := by kernel_rfl
theorem t3 : (Tryz.prog.globals[3]?).map (·.type) = some 309 := by kernel_rfl
theorem g1 : Tryz.prog.globalNamed "jurat/sha.begin" = some 1 := by kernel_rfl
theorem t1 : (Tryz.prog.globals[1]?).map (·.type) = some 248 := by kernel_rfl
theorem door_met (os : Os) (args : Array Value) : laidMetH Tryz.prog Rows.replicaNilRow.laid ((World.doorLaid Tryz.prog 400 os).forCall (fun _ _ => 0) ⟨#[], args, []⟩).memory :=
  laidMetH_of_parts3 (fuel := 8) (laidMet_of_run' 8 (by kernel_rfl) (by kernel_rfl)) (by kernel_rfl) (by kernel_rfl)
set_option maxRecDepth 100000 in
theorem lifted (os : Os) (started : os.Started) (H : Type) (enc : TypeId × Value → H) :
    ReturnsInHanded {} Tryz.checked os 7 .any (fun w args => (Rows.replicaNilSpec.pre enc Tryz.prog Tryz.f7 [] false w args ∧ laidMetH Tryz.prog Rows.replicaNilRow.laid w) ∧ sizedMet enc Tryz.prog Tryz.f7 (OpenSpec.ofChange Rows.replicaNilSpec) false w args) (Rows.replicaNilSpec.post enc Tryz.prog Tryz.f7 false true false false) := by
  refine returnsInHanded_of_change_and (C := Tryz.checked) (X := fun w _ => laidMetH Tryz.prog Rows.replicaNilRow.laid w) (fun _ _ _ hh h => h.of_heap hh) own started (by kernel_rfl) Tryz.func7
    (ChangeSpec.witness_shaped (enc := enc) (C := Tryz.checked) (os := os) (X := fun w _ => laidMetH Tryz.prog Rows.replicaNilRow.laid w) false (World.doorLaid Tryz.prog 400 os) #[.int .i64 0, .slice none 0 0, .int .i64 0, .int .i64 0] 8 rfl (World.shaped_of_RefB (by kernel_rfl) (by kernel_rfl)) (by kernel_rfl) (by kernel_rfl) (by kernel_rfl) (door_met os _)) ?_
  intro W base args ds gs before hval0 hW hcnd hsz0 hL _
  rw [MakeChecks.laidMetH_plain _ _ _ (by kernel_rfl)] at hL
  obtain ⟨ps_, hLV, _, _⟩ := hL
  obtain ⟨gg3, tt3, cs3g, fu3, pp3, qq3, hg3, ht3, hv3, hd3, hLV, _⟩ := hLV
  obtain rfl := Option.some.inj (g3.symm.trans hg3)
  obtain rfl := Option.some.inj (t3.symm.trans ht3)
  have hG3 : CH.le (CH.row 3 0 (glob3.map (Value.int .u32))) (whole W) := laid_glob (vals := glob3) g3 Tryz.underlying309 Tryz.underlying247 (by kernel_rfl) rfl hv3 hd3
  obtain ⟨gg1, tt1, cs1g, fu1, pp1, qq1, hg1, ht1, hv1, hd1, hLV, _⟩ := hLV
  obtain rfl := Option.some.inj (g1.symm.trans hg1)
  obtain rfl := Option.some.inj (t1.symm.trans ht1)
  have hG1 : CH.le (CH.row 1 0 (glob1.map (Value.int .u32))) (whole W) := laid_glob (vals := glob1) g1 Tryz.underlying248 Tryz.underlying247 (by kernel_rfl) rfl hv1 hd1
  have hsz : (DataW.weightsEach Tryz.prog (Tryz.f7.params.toList ++ Rows.replicaNilSpec.plain.varTypes Tryz.prog) (ds ++ gs)).all (· ≤ reachBytes) = true := hsz0
  have hval : ∀ (j : Nat) t v, Tryz.f7.params[j]? = some t → args[j]? = some v → Value.okWide Tryz.prog W .any base t v := hval0
  have hW' := hW
  obtain ⟨p, q, hA0, hV, rfl, hfz, hnd⟩ := hW
  have hA : DataW.TrodAll enc Tryz.prog W 0 (fun _ => true) true Tryz.f7.params.toList args.toList ds p := hA0
  rw [Tryz.params7] at hA hval hsz
  obtain ⟨v0, vs0, d0, ds0, p0, q0, hargs, rfl, rfl, h0, r0⟩ := trodAll_cons hA
  obtain ⟨v1, vs1, d1, ds1, p1, q1, rfl, rfl, rfl, h1, r1⟩ := trodAll_cons r0
  obtain ⟨v2, vs2, d2, ds2, p2, q2, rfl, rfl, rfl, h2, r2⟩ := trodAll_cons r1
  obtain ⟨v3, vs3, d3, ds3, p3, q3, rfl, rfl, rfl, h3, r3⟩ := trodAll_cons r2
  obtain ⟨rfl, rfl, rfl⟩ := trodAll_nil r3
  obtain rfl : args = #[v0, v1, v2, v3] := by cases args; simp_all
  obtain ⟨rfl, rfl⟩ := trodVars_none hV
  have k0 := h0
  have lt0 : ∀ x ∈ p0, x.block < W.heap.size := by obtain ⟨m, hm⟩ := k0; exact DataW.trod_lt m _ _ _ hm
  obtain ⟨a0, hk0, ho0⟩ := Rd.arg rd3 h0 hsz (j := 0) rfl rfl
  obtain ⟨b0, rfl⟩ := okWide_int Tryz.underlying3 (hval 0 3 v0 rfl rfl)
  obtain rfl : b0 = a0 := by cases hk0; rfl
  have k1 := h1
  have lt1 : ∀ x ∈ p1, x.block < W.heap.size := by obtain ⟨m, hm⟩ := k1; exact DataW.trod_lt m _ _ _ hm
  obtain ⟨a1, hk1, ho1⟩ := Rd.arg rd30 h1 hsz (j := 1) rfl rfl
  obtain ⟨A1, n1, c1, rfl⟩ := okWide_slice Tryz.underlying30 (hval 1 30 v1 rfl rfl)
  obtain ⟨hn1, hl1, hm1, hS1⟩ := slice_rep2 hk1
  have k2 := h2
  have lt2 : ∀ x ∈ p2, x.block < W.heap.size := by obtain ⟨m, hm⟩ := k2; exact DataW.trod_lt m _ _ _ hm
  obtain ⟨a2, hk2, ho2⟩ := Rd.arg rd3 h2 hsz (j := 2) rfl rfl
  obtain ⟨b2, rfl⟩ := okWide_int Tryz.underlying3 (hval 2 3 v2 rfl rfl)
  obtain rfl : b2 = a2 := by cases hk2; rfl
  have k3 := h3
  have lt3 : ∀ x ∈ p3, x.block < W.heap.size := by obtain ⟨m, hm⟩ := k3; exact DataW.trod_lt m _ _ _ hm
  obtain ⟨a3, hk3, ho3⟩ := Rd.arg rd3 h3 hsz (j := 3) rfl rfl
  obtain ⟨b3, rfl⟩ := okWide_int Tryz.underlying3 (hval 3 3 v3 rfl rfl)
  obtain rfl : b3 = a3 := by cases hk3; rfl
  clear hA0 hval0 hsz0 hsz
  refine (Go.CE.Nil.law_calls W b0 A1 n1 c1 b2 b3 hG1 hG3).mono fun e W' hq => ?_
  obtain ⟨he, bel⟩ := hq
  subst he
  exact ⟨_, rfl, _, _, _, [], _, [], hW', trodAll_mk1 (shut_bool Tryz.underlying4 _), (trodAll_cons_mk (Below.trod laidOut (by kernel_rfl) (of_decide_eq_true (by kernel_rfl)) k0 bel lt0) (trodAll_cons_mk (Below.trod laidOut (by kernel_rfl) (of_decide_eq_true (by kernel_rfl)) k1 bel lt1) (trodAll_cons_mk (Below.trod laidOut (by kernel_rfl) (of_decide_eq_true (by kernel_rfl)) k2 bel lt2) (trodAll_cons_mk (Below.trod laidOut (by kernel_rfl) (of_decide_eq_true (by kernel_rfl)) k3 bel lt3) trodAll_mk0)))), rfl, bel.frame _, fun h => by cases h⟩
theorem and_mk {a b : Bool} (h1 : a = true) (h2 : b = true) : (a && b) = true := by rw [h1, h2]; rfl
set_option maxHeartbeats 400000000 in
theorem closed : joinedFacts Tryz.prog 7 Tryz.f7 Rows.replicaNilSpec Rows.replicaNilRow = true := by
  unfold joinedFacts
  repeat' (with_reducible refine and_mk ?_ ?_)
  all_goals as_aux_lemma => kernel_rfl
theorem over : Rows.replicaNilRow.holds Tryz.pinned (OpenSpec.ofChange Rows.replicaNilSpec) :=
  OpenClaim.holds_of_wide 7 Tryz.f7 rfl rfl rfl rfl rfl rfl rfl ⟨rfl, rfl, rfl, rfl, rfl⟩ rfl rfl rfl rfl rfl (by kernel_rfl) Tryz.func7 closed
    (of_decide_eq_true (by kernel_rfl)) (by unfold Func.isWrapper; first | (rw [if_pos (by decide +kernel)]; kernel_rfl) | (rw [if_neg (by decide +kernel)]; exact ⟨rfl, rfl⟩))
    (fun os started H enc _ => lifted os started H enc)
theorem proved : Rows.ReplicaNilSaid := over
theorem carded : Rows.ReplicaNilCardSaid :=
  Claim7.holds_tied_plain_at .later [] [.data, .data] true (true, "cd94e2086b56147431af471398003894c21664250035a6e65772c29a5cca9b67") true
    proved (fun _ h => by cases h) (by kernel_rfl) (fun _ h => by cases h) replicaNil_row_tie rfl ⟨rfl, rfl⟩ (by kernel_rfl) rfl
    (fun f fn hf hfn => by
      obtain rfl : f = 7 := Option.some.inj ((show Tryz.prog.funcNamed "jurat/juratlaw25.ReplicaNil" = some 7 by kernel_rfl).symm.trans hf) |>.symm
      obtain rfl : fn = Tryz.f7 := (Option.some.inj (Tryz.func7.symm.trans hfn)).symm
      exact ⟨by kernel_rfl, fun j t ht => by
        rw [Tryz.params7] at ht
        have hm : t ∈ [3, 30, 3, 3] := by simpa using Array.mem_of_getElem? ht
        have hall : ([3, 30, 3, 3].all fun u => !Tryz.prog.wantsStandIn u) = true := by kernel_rfl
        exact (show Tryz.prog.wantsStandIn t = false by simpa using List.all_eq_true.1 hall t hm)⟩)
    (by kernel_rfl)
#print axioms carded
end Go.Proofs.YtnlpmnegjgjiiaaGreatDoor.replicaNil
namespace Go.Proofs.YtnlpmnegjgjiiaaGreatDoor
/-- The row, under a short name, for the claim. -/
theorem replicaNil_holds : Rows.ReplicaNilCardSaid := replicaNil.carded
end Go.Proofs.YtnlpmnegjgjiiaaGreatDoor
