/- Plain laws of ledgers: what is appended; the document's example. -/
import Derived.Test.YthdlfclkcdnenaaDoorTUb
import Derived.Test.YthdlfclkcdnenaaDoorTGh
set_option linter.unusedSimpArgs false
set_option linter.unusedVariables false
namespace Go.Proofs.YthdlfclkcdnenaaDoor.Pure
open Go.WG Go.Proofs.YthdlfclkcdnenaaDoor
/-- A ledger of these leaves. -/
noncomputable def ledgerOf (L : List (List Int)) : TLedger := ⟨⟨L.map leafD⟩, L⟩
theorem ledgerOf_nil (k : Nat) : ledger_New.f k = some (ledgerOf []) := rfl
theorem size_f (k : Nat) (L : List (List Int)) : ledger_Ledger_Size.f k (ledgerOf L) = some (L.length : Int) := rfl
theorem append_f (L : List (List Int)) (b : List Int) (hL : L.length ≤ 4096) : Ev (fun k => ledger_Ledger_Append.f k (ledgerOf L) b) (if b.length > 4096 then (0, 42, ledgerOf L) else if L.length ≥ 4096 then (0, 90, ledgerOf L) else ((L.length : Int), 0, ledgerOf (L ++ [b]))) := by
  by_cases h1 : b.length > 4096
  · rw [if_pos h1]
    exact Ev.iteT (by omega) (Ev.pure _)
  · rw [if_neg h1]
    refine Ev.iteF (by omega) ?_
    by_cases h2 : L.length ≥ 4096
    · rw [if_pos h2]
      refine (Ev.pure _).congr fun k => ?_
      have h2' : (L.length : Int) ≥ 4096 := by omega
      simp only [size_f, Option.bind_some, if_pos h2']
    · rw [if_neg h2]
      have h2' : ¬ (L.length : Int) ≥ 4096 := by omega
      have g1 : b.length * 1 ≤ 140737488355328 := by omega
      have g2 : ((ledgerOf L).leaves.length + 1) * 24 ≤ 140737488355328 := by show (L.length + 1) * 24 ≤ _; omega
      have g3 : ((ledgerOf L).digests.sums.length + 1) * 32 ≤ 140737488355328 := by show ((L.map leafD).length + 1) * 32 ≤ _; rw [List.length_map]; omega
      have e1 : wi64 (((L ++ [b]).length : Int) - 1) = (L.length : Int) := by rw [List.length_append, List.length_singleton, wi64_id (by omega) (by omega)]; omega
      have e2 : (⟨⟨(ledgerOf L).digests.sums ++ [leafD b]⟩, (ledgerOf L).leaves ++ [b]⟩ : TLedger) = ledgerOf (L ++ [b]) := by simp [ledgerOf]
      refine Ev.congr (Ev.bind (g := fun k r181 => if ((ledgerOf L).digests.sums.length + 1) * 32 ≤ 140737488355328 then ((ledger_Ledger_Size.f k (⟨(⟨(ledgerOf L).digests.sums ++ [r181]⟩ : Tdigests), (ledgerOf L).leaves ++ [b]⟩ : TLedger)).bind fun r219 => some (wi64 (r219 - 1), (0 : Int), (⟨(⟨(ledgerOf L).digests.sums ++ [r181]⟩ : Tdigests), (ledgerOf L).leaves ++ [b]⟩ : TLedger))) else none) (leaf_f b (by omega)) (Ev.iteT g3 ((Ev.pure _).congr fun k => ?_))) fun k => ?_
      · rw [e2, size_f, Option.bind_some, e1]
      · simp only [size_f, Option.bind_some, if_neg h2', if_pos g1, if_pos g2]
theorem first_f (k : Nat) (S : List (List Int)) (n : Nat) (hn : n ≤ S.length) : ledger_digests_first.f k ⟨S⟩ (n : Int) = some (S.take n, true) := by
  have h1 : ¬ (n : Int) < 0 := by omega
  have h2 : decide ((n : Int) > (S.length : Int)) = false := decide_eq_false (by omega)
  simp only [ledger_digests_first.f, if_neg h1, h2, Option.bind_some, Bool.false_eq_true, if_false, Int.toNat_natCast]
  exact if_pos ⟨by decide, by omega, by omega, trivial⟩
theorem part_f (k : Nat) (L : List (List Int)) (n : Nat) (hn : n ≤ L.length) : ledger_Ledger_part.f k (ledgerOf L) (n : Int) = some ((L.map leafD).take n, 0) := by
  have := first_f k (L.map leafD) n (by simpa using hn)
  show (ledger_digests_first.f k ⟨L.map leafD⟩ (n : Int)).bind _ = _
  rw [this]
  rfl
/-- A root of one digest is it. -/
theorem root_one (d : List Int) : Ev (fun k => proof_Root.f k [d]) d := by
  refine ⟨3, fun k hk => ?_⟩
  obtain ⟨m, rfl⟩ : ∃ m, k = m + 3 := ⟨k - 3, by omega⟩
  rfl
theorem awake9_ev : Ev (fun k => juratlaw09_awake.f k) true := by
  have h1 := append_f [] [97] (by simp)
  have h2 := append_f [[97]] [98] (by simp)
  rw [if_neg (by simp), if_neg (by simp)] at h1 h2
  have h3 := root_one (leafD [97])
  have h4 := leaf_f [97] (by simp)
  have hh : Ev (fun k => ledger_Ledger_Head.f k (ledgerOf [[97], [98]]) 1) (⟨1, leafD [97]⟩, 0) := by
    refine Ev.congr (Ev.bind (g := fun _ r36 => some ((⟨1, r36⟩ : THead), (0 : Int))) h3 (Ev.pure _)) fun k => ?_
    have := part_f k [[97], [98]] 1 (by simp)
    simp only [ledger_Ledger_Head.f]
    rw [show (1 : Int) = ((1 : Nat) : Int) from rfl, this]
    rfl
  have hfin : Ev (fun k => (proof_Leaf.f k [97]).bind fun r311 => some (decide (leafD [97] = r311))) true := Ev.bind (g := fun _ r311 => some (decide (leafD [97] = r311))) h4 (by simpa using Ev.pure true)
  obtain ⟨K1, h1⟩ := h1
  obtain ⟨K2, h2⟩ := h2
  obtain ⟨K3, hh⟩ := hh
  obtain ⟨K4, hfin⟩ := hfin
  refine ⟨K1 + K2 + K3 + K4, fun k hk => ?_⟩
  have a1 := h1 k (by omega)
  have a2 := h2 k (by omega)
  have a3 := hh k (by omega)
  have a4 := hfin k (by omega)
  simp only at a1 a2 a3 a4
  simp only [juratlaw09_awake.f, ledgerOf_nil, Option.bind_some, a1]
  simp only [List.nil_append, a2, Option.bind_some, List.singleton_append, a3, size_f, a4]
  rfl
end Go.Proofs.YthdlfclkcdnenaaDoor.Pure
