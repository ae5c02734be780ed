/- The law LedgerIncludes, as a plain function: true for every input. -/
import Derived.Test.YthdlfclkcdnenaaDoorUi
import Derived.Test.YthdlfclkcdnenaaDoorPIncludes
import Derived.Test.YthdlfclkcdnenaaDoorGr
set_option linter.unusedSimpArgs false
set_option linter.unusedVariables false
namespace Go.Proofs.YthdlfclkcdnenaaDoor.Pure
open Go.WG Go.Proofs.YthdlfclkcdnenaaDoor
theorem LedgerIncludes (a0 : List (List Int)) (a1 : Int) (a2 : Int) (h0 : ok49 a0) (h1 : (Lit.int .i64 a1).wf = true) (h2 : (Lit.int .i64 a2).wf = true) : ∃ k, juratlaw09_LedgerIncludes.f k a0 a1 a2 = some true := by
  rcases made_f a0 (fun b hb => reach28 (h0.2 b hb).1) with ⟨hlen, hs, hM⟩ | ⟨L', hM⟩
  · by_cases he : a0.length = 0
    · obtain ⟨K1, hM⟩ := hM
      obtain ⟨K2, hA⟩ := awake9_ev
      refine ⟨K1 + K2, ?_⟩
      generalize hkk : K1 + K2 = k
      have b1 := hM k (by omega)
      have b2 := hA k (by omega)
      simp only at b1 b2
      have g1 : decide ((a0.length : Int) = 0) = true := decide_eq_true (by omega)
      simp only [juratlaw09_LedgerIncludes.f, b1, Option.bind_some, if_true, g1, b2]
    · obtain ⟨j, hj, ej⟩ := pickI a2 (n := a0.length) (by omega) (by omega)
      have en : wi64 (1 + (j : Int)) = ((j + 1 : Nat) : Int) := by rw [wi64_id (by omega) (by omega)]; omega
      obtain ⟨i, hi, ei⟩ := pickI a1 (n := j + 1) (by omega) (by omega)
      have hw1 := wu64_pos (n := a0.length) (by omega) (by omega)
      have hw2 := wu64_pos (n := j + 1) (by omega) (by omega)
      have hH := head_f a0 (j + 1) (by omega) (by omega) hs
      have hI := linclude_f a0 i (j + 1) hi (by omega) (by omega) hs
      have hlt : i < a0.length := by omega
      have hmem : a0.getD i [] ∈ a0 := by rw [List.getD_eq_getElem?_getD, List.getElem?_eq_getElem hlt, Option.getD_some]; exact List.getElem_mem hlt
      have hLf := leaf_f (a0.getD i []) (by have := hs _ hmem; omega)
      have hll : ((a0.map leafD).take (j + 1)).length = j + 1 := by rw [List.length_take, List.length_map]; omega
      have hleaf : ((a0.map leafD).take (j + 1)).getD i [] = leafD (a0.getD i []) := by
        rw [Heap.getD_take _ _ _ hi, List.getD_eq_getElem?_getD, List.getElem?_map, List.getD_eq_getElem?_getD, List.getElem?_eq_getElem hlt]; rfl
      have hlead := incF_leads _ ((a0.map leafD).take (j + 1)) i (Nat.le_refl _) (by omega)
      have hpath := incF_path _ ((a0.map leafD).take (j + 1)) i (Nat.le_refl _) (by omega)
      rw [hleaf] at hlead
      have hInc := included_f (leafD (a0.getD i [])) i (j + 1) (incD ((a0.map leafD).take (j + 1)) i) (rootD ((a0.map leafD).take (j + 1))) hi (by omega) (incF_all _ _ _ (hs.all.take _)) (by have := incF_len ((a0.map leafD).take (j + 1)).length ((a0.map leafD).take (j + 1)) i; unfold incD; omega) (leafD_len _ (by have := hs _ hmem; omega))
      have htrue : decide ((incD ((a0.map leafD).take (j + 1)) i).length = (pathN i (j + 1)).length ∧ foldUp (pathN i (j + 1)) (incD ((a0.map leafD).take (j + 1)) i) (leafD (a0.getD i [])) = rootD ((a0.map leafD).take (j + 1))) = true := by
        refine decide_eq_true ⟨?_, ?_⟩
        · rw [hll] at hpath; unfold incD; rw [hll]; exact hpath
        · rw [hll] at hlead; unfold incD; rw [hll]; exact hlead
      rw [htrue] at hInc
      obtain ⟨K1, hM⟩ := hM
      obtain ⟨K2, hA⟩ := awake9_ev
      obtain ⟨K3, hH⟩ := hH
      obtain ⟨K4, hI⟩ := hI
      obtain ⟨K5, hLf⟩ := hLf
      obtain ⟨K6, hInc⟩ := hInc
      refine ⟨K1 + K2 + K3 + K4 + K5 + K6, ?_⟩
      generalize hkk : K1 + K2 + K3 + K4 + K5 + K6 = k
      have b1 := hM k (by omega)
      have b2 := hA k (by omega)
      have b3 := hH k (by omega)
      have b4 := hI k (by omega)
      have b5 := hLf k (by omega)
      have b6 := hInc k (by omega)
      simp only at b1 b2 b3 b4 b5 b6
      have g1 : decide ((a0.length : Int) = 0) = false := decide_eq_false (by omega)
      have g2 : 0 ≤ (i : Int) ∧ (i : Int) < (a0.length : Int) := by omega
      simp only [juratlaw09_LedgerIncludes.f, b1, Option.bind_some, if_true, g1, Bool.false_eq_true, if_false, if_pos hw1, ej, en, if_pos hw2, ei, b3, b4, if_pos g2, Int.toNat_natCast, own9_f k _ (show (a0.getD i []).length ≤ 140737488355328 by have := hs _ hmem; omega), b5, b6, b2]
  · obtain ⟨K1, hM⟩ := hM
    obtain ⟨K2, hA⟩ := awake9_ev
    refine ⟨K1 + K2, ?_⟩
    generalize hkk : K1 + K2 = k
    have b1 := hM k (by omega)
    have b2 := hA k (by omega)
    simp only at b1 b2
    simp only [juratlaw09_LedgerIncludes.f, b1, Option.bind_some, Bool.false_eq_true, if_false, if_true, b2]
end Go.Proofs.YthdlfclkcdnenaaDoor.Pure
