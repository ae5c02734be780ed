/- The law LedgerOwn, as a plain function: true for every input. -/
import Derived.Test.YthdlfclkcdnenaaDoorUs
import Derived.Test.YthdlfclkcdnenaaDoorPOwn
import Derived.Test.YthdlfclkcdnenaaDoorGr
set_option linter.unusedSimpArgs false
set_option linter.unusedVariables false
namespace Go.Proofs.YthdlfclkcdnenaaDoor.Pure
open Go.WG Go.Proofs.YthdlfclkcdnenaaDoor
theorem append_own_f (L : List (List Int)) (b : List Int) (hL : L.length < 4096) (hb : b.length ≤ 4096) : Ev (fun k => ledger_Ledger_Append_own.f k (ledgerOf L) b) ((L.length : Int), 0, ledgerOf (L ++ [b]), b) := by
  refine Ev.iteF (by omega) ?_
  have h2' : ¬ (L.length : Int) ≥ 4096 := by omega
  have g1 : b.length * 1 ≤ 140737488355328 := by omega
  have g2 : ((ledgerOf L).leaves.length + 1) * 24 ≤ 140737488355328 := by show (L.length + 1) * 24 ≤ _; omega
  have g3 : ((ledgerOf L).digests.sums.length + 1) * 32 ≤ 140737488355328 := by show ((L.map leafD).length + 1) * 32 ≤ _; rw [List.length_map]; omega
  have e1 : wi64 (((L ++ [b]).length : Int) - 1) = (L.length : Int) := by rw [List.length_append, List.length_singleton, wi64_id (by omega) (by omega)]; omega
  have e2 : (⟨⟨(ledgerOf L).digests.sums ++ [leafD b]⟩, (ledgerOf L).leaves ++ [b]⟩ : TLedger) = ledgerOf (L ++ [b]) := by simp [ledgerOf]
  refine Ev.congr (Ev.bind (g := fun k r181 => if ((ledgerOf L).digests.sums.length + 1) * 32 ≤ 140737488355328 then ((ledger_Ledger_Size.f k (⟨(⟨(ledgerOf L).digests.sums ++ [r181]⟩ : Tdigests), (ledgerOf L).leaves ++ [b]⟩ : TLedger)).bind fun r219 => some (wi64 (r219 - 1), (0 : Int), (⟨(⟨(ledgerOf L).digests.sums ++ [r181]⟩ : Tdigests), (ledgerOf L).leaves ++ [b]⟩ : TLedger), b)) else none) (leaf_f b (by omega)) (Ev.iteT g3 ((Ev.pure _).congr fun k => ?_))) fun k => ?_
  · rw [e2, size_f, Option.bind_some, e1]
  · simp only [size_f, Option.bind_some, if_neg h2', if_pos g1, if_pos g2]
theorem own_l1 : ∀ (m j : Nat) (x : List Int), x.length - j = m → j ≤ x.length → x.length ≤ 1000000 → Ev (fun k => juratlaw09_LedgerOwn.l1 k x (j : Int)) () := by
  intro m
  induction m with
  | zero =>
    intro j x hm hj hb
    refine Ev.succ ((Ev.pure _).congr fun k => ?_)
    have : ¬ (j : Int) < (x.length : Int) := by omega
    simp only [juratlaw09_LedgerOwn.l1, if_neg this]
  | succ m ih =>
    intro j x hm hj hb
    have h1 : (j : Int) < (x.length : Int) := by omega
    have h2 : 0 ≤ (j : Int) ∧ (j : Int) < (x.length : Int) := by omega
    refine Ev.succ ((ih (j + 1) (x.set j (bitsOp .xor .u8 (x.getD j 0) 255)) (by rw [List.length_set]; omega) (by rw [List.length_set]; omega) (by rw [List.length_set]; exact hb)).congr fun k => ?_)
    simp only [juratlaw09_LedgerOwn.l1, if_pos h1, if_pos h2, Int.toNat_natCast, wi64_succ (show j < 9223372036854775807 by omega)]
theorem own_l2 : ∀ (m j : Nat) (x : List Int), x.length - j = m → j ≤ x.length → x.length ≤ 1000000 → Ev (fun k => juratlaw09_LedgerOwn.l2 k x (j : Int)) () := by
  intro m
  induction m with
  | zero =>
    intro j x hm hj hb
    refine Ev.succ ((Ev.pure _).congr fun k => ?_)
    have : ¬ (j : Int) < (x.length : Int) := by omega
    simp only [juratlaw09_LedgerOwn.l2, if_neg this]
  | succ m ih =>
    intro j x hm hj hb
    have h1 : (j : Int) < (x.length : Int) := by omega
    have h2 : 0 ≤ (j : Int) ∧ (j : Int) < (x.length : Int) := by omega
    refine Ev.succ ((ih (j + 1) (x.set j (bitsOp .xor .u8 (x.getD j 0) 255)) (by rw [List.length_set]; omega) (by rw [List.length_set]; omega) (by rw [List.length_set]; exact hb)).congr fun k => ?_)
    simp only [juratlaw09_LedgerOwn.l2, if_pos h1, if_pos h2, Int.toNat_natCast, wi64_succ (show j < 9223372036854775807 by omega)]
theorem own_l3 : ∀ (m j : Nat) (x : List (List Int)), x.length - j = m → j ≤ x.length → x.length ≤ 1000000 → Ev (fun k => juratlaw09_LedgerOwn.l3 k x (j : Int)) () := by
  intro m
  induction m with
  | zero =>
    intro j x hm hj hb
    refine Ev.succ ((Ev.pure _).congr fun k => ?_)
    have : ¬ (j : Int) < (x.length : Int) := by omega
    simp only [juratlaw09_LedgerOwn.l3, if_neg this]
  | succ m ih =>
    intro j x hm hj hb
    have h1 : (j : Int) < (x.length : Int) := by omega
    have h2 : 0 ≤ (j : Int) ∧ (j : Int) < (x.length : Int) := by omega
    refine Ev.succ ((ih (j + 1) (x.set j (List.replicate 32 (0 : Int))) (by rw [List.length_set]; omega) (by rw [List.length_set]; omega) (by rw [List.length_set]; exact hb)).congr fun k => ?_)
    simp only [juratlaw09_LedgerOwn.l3, if_pos h1, if_pos h2, Int.toNat_natCast, wi64_succ (show j < 9223372036854775807 by omega)]
theorem LedgerOwn (a0 : List (List Int)) (a1 : Int) (h0 : ok49 a0) (h1 : (Lit.int .i64 a1).wf = true) : ∃ k, juratlaw09_LedgerOwn.f k a0 a1 = some true := by
  rcases made_f a0 (fun b hb => reach28 (h0.2 b hb).1) with ⟨hlen, hs, hM⟩ | ⟨L', hM⟩
  · by_cases he : a0.length = 0
    · obtain ⟨K1, hM⟩ := hM
      obtain ⟨K2, hA⟩ := awake9_ev
      refine ⟨K1 + K2, ?_⟩
      generalize hkk : K1 + K2 = k
      have b1 := hM k (by omega)
      have b2 := hA k (by omega)
      simp only at b1 b2
      have g1 : decide ((a0.length : Int) = 0) = true := decide_eq_true (by omega)
      simp only [juratlaw09_LedgerOwn.f, b1, Option.bind_some, if_true, g1, b2]
    · obtain ⟨i, hi, ei⟩ := pickI a1 (n := a0.length) (by omega) (by omega)
      have hw := wu64_pos (n := a0.length) (by omega) (by omega)
      have hmem : a0.getD i [] ∈ a0 := by rw [List.getD_eq_getElem?_getD, List.getElem?_eq_getElem hi, Option.getD_some]; exact List.getElem_mem hi
      have hbl := hs _ hmem
      generalize hb : a0.getD i [] = b at *
      have hap := append_own_f a0 b (by omega) hbl
      have hs2 : AllS (a0 ++ [b]) := fun x hx => by
        rcases List.mem_append.1 hx with h | h
        · exact hs x h
        · rw [List.mem_singleton.1 h]; exact hbl
      have hl2 : (a0 ++ [b]).length = a0.length + 1 := by rw [List.length_append, List.length_singleton]
      have hH := head_f (a0 ++ [b]) (a0.length + 1) (by omega) (by omega) hs2
      have hI := linclude_f (a0 ++ [b]) i (a0.length + 1) (by omega) (by omega) (by omega) hs2
      have hll : (((a0 ++ [b]).map leafD).take (a0.length + 1)).length = a0.length + 1 := by rw [List.length_take, List.length_map]; omega
      have hlf := fun k => lleaf_f k (a0 ++ [b]) a0.length (by omega) hs2
      have hgl : (a0 ++ [b]).getD a0.length [] = b := by simp [List.getD_eq_getElem?_getD]
      have hleaf : (((a0 ++ [b]).map leafD).take (a0.length + 1)).getD i [] = leafD b := by
        rw [Heap.getD_take _ _ _ (by omega), List.getD_eq_getElem?_getD, List.getElem?_map, List.getElem?_append_left hi, ← hb, List.getD_eq_getElem?_getD, List.getElem?_eq_getElem hi]; rfl
      have hlead := incF_leads _ (((a0 ++ [b]).map leafD).take (a0.length + 1)) i (Nat.le_refl _) (by omega)
      have hpath := incF_path _ (((a0 ++ [b]).map leafD).take (a0.length + 1)) i (Nat.le_refl _) (by omega)
      rw [hleaf] at hlead
      have hil : (incD (((a0 ++ [b]).map leafD).take (a0.length + 1)) i).length ≤ 1000 := by
        have := incF_len (((a0 ++ [b]).map leafD).take (a0.length + 1)).length (((a0 ++ [b]).map leafD).take (a0.length + 1)) i
        rw [hll] at this; unfold incD; rw [hll]; omega
      have hInc := included_f (leafD b) i (a0.length + 1) (incD (((a0 ++ [b]).map leafD).take (a0.length + 1)) i) (rootD (((a0 ++ [b]).map leafD).take (a0.length + 1))) (by omega) (by omega) (incF_all _ _ _ (hs2.all.take _)) (by omega) (leafD_len _ (by omega))
      have htrue : decide ((incD (((a0 ++ [b]).map leafD).take (a0.length + 1)) i).length = (pathN i (a0.length + 1)).length ∧ foldUp (pathN i (a0.length + 1)) (incD (((a0 ++ [b]).map leafD).take (a0.length + 1)) i) (leafD b) = rootD (((a0 ++ [b]).map leafD).take (a0.length + 1))) = true := by
        refine decide_eq_true ⟨?_, ?_⟩
        · rw [hll] at hpath; unfold incD; rw [hll]; exact hpath
        · rw [hll] at hlead; unfold incD; rw [hll]; exact hlead
      rw [htrue] at hInc
      have hLf := leaf_f b (by omega)
      have hsm := same1_f b b (by omega)
      rw [decide_eq_true rfl] at hsm
      have q1 := own_l1 b.length 0 b rfl (Nat.zero_le _) (by omega)
      have q2 := own_l2 b.length 0 b rfl (Nat.zero_le _) (by omega)
      have q3 := own_l3 _ 0 (incD (((a0 ++ [b]).map leafD).take (a0.length + 1)) i) rfl (Nat.zero_le _) (by omega)
      obtain ⟨K1, hM⟩ := hM
      obtain ⟨K2, hA⟩ := awake9_ev
      obtain ⟨K3, hap⟩ := hap
      obtain ⟨K4, hH⟩ := hH
      obtain ⟨K5, hI⟩ := hI
      obtain ⟨K6, hInc⟩ := hInc
      obtain ⟨K7, hLf⟩ := hLf
      obtain ⟨K8, hsm⟩ := hsm
      obtain ⟨K9, q1⟩ := q1
      obtain ⟨K10, q2⟩ := q2
      obtain ⟨K11, q3⟩ := q3
      refine ⟨K1 + K2 + K3 + K4 + K5 + K6 + K7 + K8 + K9 + K10 + K11, ?_⟩
      generalize hkk : K1 + K2 + K3 + K4 + K5 + K6 + K7 + K8 + K9 + K10 + K11 = k
      have b1 := hM k (by omega)
      have b2 := hA k (by omega)
      have b3 := hap k (by omega)
      have b4 := hH k (by omega)
      have b5 := hI k (by omega)
      have b6 := hInc k (by omega)
      have b7 := hLf k (by omega)
      have b8 := hsm k (by omega)
      have b9 := q1 k (by omega)
      have b10 := q2 k (by omega)
      have b11 := q3 k (by omega)
      simp only at b1 b2 b3 b4 b5 b6 b7 b8 b9 b10 b11
      rw [show ((0 : Nat) : Int) = 0 from rfl] at b9 b10 b11
      have g1 : decide ((a0.length : Int) = 0) = false := decide_eq_false (by omega)
      have g2 : 0 ≤ (i : Int) ∧ (i : Int) < (a0.length : Int) := by omega
      have b12 := hlf k
      rw [hgl] at b12
      simp only [juratlaw09_LedgerOwn.f, b1, Option.bind_some, if_true, g1, Bool.false_eq_true, if_false, if_pos hw, ei, if_pos g2, Int.toNat_natCast, hb, own9_f k b (by omega), b3, size_f, hl2, b4, b9, b12, b10, b5, b11, b8, b7, b6, b2]
  · obtain ⟨K1, hM⟩ := hM
    obtain ⟨K2, hA⟩ := awake9_ev
    refine ⟨K1 + K2, ?_⟩
    generalize hkk : K1 + K2 = k
    have b1 := hM k (by omega)
    have b2 := hA k (by omega)
    simp only at b1 b2
    simp only [juratlaw09_LedgerOwn.f, b1, Option.bind_some, Bool.false_eq_true, if_false, if_true, b2]
end Go.Proofs.YthdlfclkcdnenaaDoor.Pure
