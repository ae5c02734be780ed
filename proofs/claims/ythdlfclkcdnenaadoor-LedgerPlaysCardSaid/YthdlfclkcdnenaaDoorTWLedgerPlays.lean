/- The law LedgerPlays returns true for every input, and changes none of it: the row, out of the law's walk and its plain law. No condition but the row's own. -/
import Derived.Test.YthdlfclkcdnenaaDoorRows
import Derived.Test.YthdlfclkcdnenaaDoorTPPlays
import Derived.Test.YthdlfclkcdnenaaDoorTLp
import Derived.Test.YthdlfclkcdnenaaDoorTUPlays
import Derived.WalkKit
import Derived.ProofKit
import Derived.OpenShut
import Derived.ShutString
import Derived.ChangeOld
import Derived.Below
import Derived.SizedLaws
import Derived.Carry
import Derived.LaidMore
import Derived.Stop.Joined
import Derived.SevenTiedAt
import Derived.MakeChecks
import Derived.Test.YthdlfclkcdnenaaDoorCards
import Derived.Test.YthdlfclkcdnenaaDoorTie
namespace Go.Proofs.YthdlfclkcdnenaaDoor.ledgerPlays
open Go.ChangeShapes Go.WideShapes Go.ChangeAt Go.RowKit Go.WG
set_option linter.unusedVariables false
theorem own : ownKnob Tryd.prog.godebug = none := by kernel_rfl
theorem laidOut : laidOutB Tryd.prog = true := by kernel_rfl
theorem g0 : Tryd.prog.globalNamed "jurat/juratref02.first" = some 0 := by kernel_rfl
theorem t0 : (Tryd.prog.globals[0]?).map (·.type) = some 102 := by kernel_rfl
theorem g2 : Tryd.prog.globalNamed "jurat/juratref02.constants" = some 2 := by kernel_rfl
theorem t2 : (Tryd.prog.globals[2]?).map (·.type) = some 114 := by kernel_rfl
theorem g3 : Tryd.prog.globalNamed "jurat/sha.k" = some 3 := by kernel_rfl
theorem t3 : (Tryd.prog.globals[3]?).map (·.type) = some 114 := by kernel_rfl
theorem g1 : Tryd.prog.globalNamed "jurat/sha.begin" = some 1 := by kernel_rfl
theorem t1 : (Tryd.prog.globals[1]?).map (·.type) = some 102 := by kernel_rfl
theorem door_met (os : Os) (args : Array Value) : laidMetH Tryd.prog Rows.ledgerPlaysRow.laid ((World.doorLaid Tryd.prog 400 os).forCall (fun _ _ => 0) ⟨#[], args, []⟩).memory :=
  laidMetH_of_parts3 (fuel := 8) (laidMet_of_run' 8 (by kernel_rfl) (by kernel_rfl)) (by kernel_rfl) (by kernel_rfl)
set_option maxRecDepth 100000 in
theorem lifted (os : Os) (started : os.Started) (H : Type) (enc : TypeId × Value → H) :
    ReturnsInHanded {} Tryd.checked os 13 .any (fun w args => (Rows.ledgerPlaysSpec.pre enc Tryd.prog Tryd.f13 [] false w args ∧ laidMetH Tryd.prog Rows.ledgerPlaysRow.laid w) ∧ sizedMet enc Tryd.prog Tryd.f13 (OpenSpec.ofChange Rows.ledgerPlaysSpec) false w args) (Rows.ledgerPlaysSpec.post enc Tryd.prog Tryd.f13 false true false false) := by
  refine returnsInHanded_of_change_and (C := Tryd.checked) (X := fun w _ => laidMetH Tryd.prog Rows.ledgerPlaysRow.laid w) (fun _ _ _ hh h => h.of_heap hh) own started (by kernel_rfl) Tryd.func13
    (ChangeSpec.witness_shaped (enc := enc) (C := Tryd.checked) (os := os) (X := fun w _ => laidMetH Tryd.prog Rows.ledgerPlaysRow.laid w) false (World.doorLaid Tryd.prog 400 os) #[.slice none 0 0] 8 rfl (World.shaped_of_RefB (by kernel_rfl) (by kernel_rfl)) (by kernel_rfl) (by kernel_rfl) (by kernel_rfl) (door_met os _)) ?_
  intro W base args ds gs before hval0 hW hcnd hsz0 hL _
  rw [MakeChecks.laidMetH_plain _ _ _ (by kernel_rfl)] at hL
  obtain ⟨ps_, hLV, _, _⟩ := hL
  obtain ⟨gg0, tt0, cs0g, fu0, pp0, qq0, hg0, ht0, hv0, hd0, hLV, _⟩ := hLV
  obtain rfl := Option.some.inj (g0.symm.trans hg0)
  obtain rfl := Option.some.inj (t0.symm.trans ht0)
  have hG0 : CH.le (CH.row 0 0 (glob0.map (Value.int .u32))) (whole W) := laid_glob (vals := glob0) g0 Tryd.underlying102 Tryd.underlying101 (by kernel_rfl) rfl hv0 hd0
  obtain ⟨gg2, tt2, cs2g, fu2, pp2, qq2, hg2, ht2, hv2, hd2, hLV, _⟩ := hLV
  obtain rfl := Option.some.inj (g2.symm.trans hg2)
  obtain rfl := Option.some.inj (t2.symm.trans ht2)
  have hG2 : CH.le (CH.row 2 0 (glob2.map (Value.int .u32))) (whole W) := laid_glob (vals := glob2) g2 Tryd.underlying114 Tryd.underlying101 (by kernel_rfl) rfl hv2 hd2
  obtain ⟨gg3, tt3, cs3g, fu3, pp3, qq3, hg3, ht3, hv3, hd3, hLV, _⟩ := hLV
  obtain rfl := Option.some.inj (g3.symm.trans hg3)
  obtain rfl := Option.some.inj (t3.symm.trans ht3)
  have hG3 : CH.le (CH.row 3 0 (glob3.map (Value.int .u32))) (whole W) := laid_glob (vals := glob3) g3 Tryd.underlying114 Tryd.underlying101 (by kernel_rfl) rfl hv3 hd3
  obtain ⟨gg1, tt1, cs1g, fu1, pp1, qq1, hg1, ht1, hv1, hd1, hLV, _⟩ := hLV
  obtain rfl := Option.some.inj (g1.symm.trans hg1)
  obtain rfl := Option.some.inj (t1.symm.trans ht1)
  have hG1 : CH.le (CH.row 1 0 (glob1.map (Value.int .u32))) (whole W) := laid_glob (vals := glob1) g1 Tryd.underlying102 Tryd.underlying101 (by kernel_rfl) rfl hv1 hd1
  have hsz : (DataW.weightsEach Tryd.prog (Tryd.f13.params.toList ++ Rows.ledgerPlaysSpec.plain.varTypes Tryd.prog) (ds ++ gs)).all (· ≤ reachBytes) = true := hsz0
  have hval : ∀ (j : Nat) t v, Tryd.f13.params[j]? = some t → args[j]? = some v → Value.okWide Tryd.prog W .any base t v := hval0
  have hW' := hW
  obtain ⟨p, q, hA0, hV, rfl, hfz, hnd⟩ := hW
  have hA : DataW.TrodAll enc Tryd.prog W 0 (fun _ => true) true Tryd.f13.params.toList args.toList ds p := hA0
  rw [Tryd.params13] at hA hval hsz
  obtain ⟨v0, vs0, d0, ds0, p0, q0, hargs, rfl, rfl, h0, r0⟩ := trodAll_cons hA
  obtain ⟨rfl, rfl, rfl⟩ := trodAll_nil r0
  obtain rfl : args = #[v0] := by cases args; simp_all
  obtain ⟨rfl, rfl⟩ := trodVars_none hV
  have k0 := h0
  have lt0 : ∀ x ∈ p0, x.block < W.heap.size := by obtain ⟨m, hm⟩ := k0; exact DataW.trod_lt m _ _ _ hm
  obtain ⟨a0, hk0, ho0⟩ := Rd.arg rd63 h0 hsz (j := 0) rfl rfl
  obtain ⟨A0, n0, c0, rfl⟩ := okWide_slice Tryd.underlying63 (hval 0 63 v0 rfl rfl)
  obtain ⟨hn0, hl0, hm0, hS0⟩ := slice_rep2 hk0
  clear hA0 hval0 hsz0 hsz
  obtain ⟨k_, hk_⟩ := Pure.LedgerPlays a0 ho0
  refine (juratlaw09_LedgerPlays.calls k_ W (whole W) A0 c0 n0 a0 (whole_pre W) hn0 hl0 hm0 hS0 hG0 hG1 hG2 hG3 true hk_).mono fun e W' hq => ?_
  obtain ⟨he, hC⟩ := hq
  have bel : Below W.heap.size W W' := hC.below
  subst he
  exact ⟨_, rfl, _, _, _, [], _, [], hW', trodAll_mk1 (shut_bool Tryd.underlying4 _), (trodAll_cons_mk (Below.trod laidOut (by kernel_rfl) (of_decide_eq_true (by kernel_rfl)) k0 bel lt0) trodAll_mk0), rfl, bel.frame _, fun h => by cases h⟩
theorem over : Rows.ledgerPlaysRow.holds Tryd.pinned (OpenSpec.ofChange Rows.ledgerPlaysSpec) :=
  OpenClaim.holds_of_wide 13 Tryd.f13 rfl rfl rfl rfl rfl rfl rfl ⟨rfl, rfl, rfl, rfl, rfl⟩ rfl rfl rfl rfl rfl (by kernel_rfl) Tryd.func13 (by kernel_rfl)
    (of_decide_eq_true (by kernel_rfl)) (by unfold Func.isWrapper; first | (rw [if_pos (by decide +kernel)]; kernel_rfl) | (rw [if_neg (by decide +kernel)]; exact ⟨rfl, rfl⟩))
    (fun os started H enc _ => lifted os started H enc)
theorem proved : Rows.LedgerPlaysSaid := over
theorem carded : Rows.LedgerPlaysCardSaid :=
  Claim7.holds_tied_plain_at .later [] [.data, .data, .data, .data] true (true, "c92a12add0dfd28e4bd25d7f01d48e3e9090b4f7da87768a99996404527764f5") false
    proved (fun _ h => by cases h) (by kernel_rfl) (fun _ h => by cases h) ledgerPlays_row_tie rfl ⟨rfl, rfl⟩ (by kernel_rfl) rfl
    (fun f fn hf hfn => by
      obtain rfl : f = 13 := Option.some.inj ((show Tryd.prog.funcNamed "jurat/juratlaw09.LedgerPlays" = some 13 by kernel_rfl).symm.trans hf) |>.symm
      obtain rfl : fn = Tryd.f13 := (Option.some.inj (Tryd.func13.symm.trans hfn)).symm
      exact ⟨by kernel_rfl, fun j t ht => by
        rw [Tryd.params13] at ht
        have hm : t ∈ [63] := by simpa using Array.mem_of_getElem? ht
        have hall : ([63].all fun u => !Tryd.prog.wantsStandIn u) = true := by kernel_rfl
        exact (show Tryd.prog.wantsStandIn t = false by simpa using List.all_eq_true.1 hall t hm)⟩)
    (by kernel_rfl)
#print axioms carded
end Go.Proofs.YthdlfclkcdnenaaDoor.ledgerPlays
namespace Go.Proofs.YthdlfclkcdnenaaDoor
/-- The row, under a short name, for the claim. -/
theorem ledgerPlays_holds : Rows.LedgerPlaysCardSaid := ledgerPlays.carded
end Go.Proofs.YthdlfclkcdnenaaDoor
