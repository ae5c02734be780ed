/- The law LedgerPlays, as a plain function: true for every input. -/
import Derived.Test.YthdlfclkcdnenaaDoorTUq
import Derived.Test.YthdlfclkcdnenaaDoorTUs
import Derived.Test.YthdlfclkcdnenaaDoorTPPlays
import Derived.Test.YthdlfclkcdnenaaDoorTGr
set_option linter.unusedSimpArgs false
set_option linter.unusedVariables false
namespace Go.Proofs.YthdlfclkcdnenaaDoor.Pure
open Go.WG Go.Proofs.YthdlfclkcdnenaaDoor
/-- The document's ledger. -/
noncomputable def refOf (L : List (List Int)) : TLedger_ := ⟨L, L.map leafD⟩
/-- Leaves that may stand there. -/
def AllL (L : List (List Int)) : Prop := ∀ b ∈ L, b.length ≤ 4096 ∧ AllB b
theorem AllL.s {L : List (List Int)} (h : AllL L) : AllS L := fun b hb => (h b hb).1
theorem AllL.e {L : List (List Int)} (h : AllL L) : AllE (L.map leafD) := fun d hd => by
  obtain ⟨b, hb, rfl⟩ := List.mem_map.1 hd
  have := h b hb
  exact ⟨leafD_len b (by omega), leafD_B b (by omega) this.2⟩
theorem append_ref (L : List (List Int)) (b : List Int) (hL : L.length ≤ 4096) (hb : AllB b) : Ev (fun k => juratref09_Ledger_Append.f k (refOf L) b) (if b.length > 4096 then (0, 42, refOf L) else if L.length ≥ 4096 then (0, 90, refOf L) else ((L.length : Int), 0, refOf (L ++ [b]))) := by
  by_cases h1 : b.length > 4096
  · rw [if_pos h1]
    exact Ev.iteT (by omega) (Ev.pure _)
  · rw [if_neg h1]
    refine Ev.iteF (by omega) ?_
    by_cases h2 : L.length ≥ 4096
    · rw [if_pos h2]
      exact Ev.iteT (by show (L.length : Int) ≥ 4096; omega) (Ev.pure _)
    · rw [if_neg h2]
      refine Ev.iteF (by show ¬ (L.length : Int) ≥ 4096; omega) ?_
      refine Ev.iteT (by omega) ?_
      refine Ev.iteT (by show (L.length + 1) * 24 ≤ _; omega) ?_
      refine Ev.bind (leaf_ref b (by omega) hb) ?_
      refine Ev.iteT (by show ((L.map leafD).length + 1) * 32 ≤ _; rw [List.length_map]; omega) ?_
      refine (Ev.pure _).congr fun k => ?_
      have e : wi64 (((L ++ [b]).length : Int) - 1) = (L.length : Int) := by
        rw [List.length_append, List.length_singleton, wi64_id (by omega) (by omega)]; omega
      show some (wi64 (((L ++ [b]).length : Int) - 1), (0 : Int), (⟨L ++ [b], L.map leafD ++ [leafD b]⟩ : TLedger_)) = _
      rw [e]
      unfold refOf
      rw [List.map_append]
      rfl
theorem first_bad (k : Nat) (S : List (List Int)) (n : Int) (hn : n < 0 ∨ (S.length : Int) < n) : ledger_digests_first.f k ⟨S⟩ n = some ([], false) := by
  have hg : (if n < 0 then (some true) else (some (decide (n > (S.length : Int))))) = some true := by
    by_cases h : n < 0
    · rw [if_pos h]
    · rw [if_neg h, decide_eq_true (by omega)]
  simp only [ledger_digests_first.f, hg, Option.bind_some, if_true]
theorem part_bad (k : Nat) (L : List (List Int)) (n : Int) (hn : n < 0 ∨ (L.length : Int) < n) : ledger_Ledger_part.f k (ledgerOf L) n = some ([], 1) := by
  have := first_bad k (L.map leafD) n (by rw [List.length_map]; exact hn)
  simp only [ledger_Ledger_part.f, ledgerOf, this, Option.bind_some, Bool.false_eq_true, if_false]
theorem far_bad (L : List (List Int)) (n : Int) (hn : n < 0 ∨ (L.length : Int) < n) : (if n < 0 then (some true) else (some (decide (n > (L.length : Int))))) = some true := by
  by_cases h : n < 0
  · rw [if_pos h]
  · rw [if_neg h, decide_eq_true (by omega)]
theorem near_ok (L : List (List Int)) (n : Int) (hn : ¬ (n < 0 ∨ (L.length : Int) < n)) : (if n < 0 then (some true) else (some (decide (n > (L.length : Int))))) = some false := by
  rw [if_neg (by omega), decide_eq_false (by omega)]
theorem rLeaf (k : Nat) (L : List (List Int)) (i : Int) : juratref09_Ledger_Leaf.f k (refOf L) i = (if i < 0 then some true else some (decide (i ≥ (L.length : Int)))).bind fun g => if g = true then some ([], 1, refOf L) else (if 0 ≤ i ∧ i < (L.length : Int) then some (L.getD i.toNat [], 0, refOf L) else none) := rfl
theorem rHead (k : Nat) (L : List (List Int)) (n : Int) : juratref09_Ledger_Head.f k (refOf L) n = (if n < 0 then some true else some (decide (n > (L.length : Int)))).bind fun g => if g = true then some ((⟨0, List.replicate 32 0⟩ : THead), 1) else (if 0 ≤ n ∧ n ≤ ((L.map leafD).length : Int) then (juratref08_Root.f k ((L.map leafD).take n.toNat)).bind fun r => some ((⟨n, r⟩ : THead), 0) else none) := rfl
theorem rInc (k : Nat) (L : List (List Int)) (i n : Int) : juratref09_Ledger_Include.f k (refOf L) i n = (if n < 0 then some true else some (decide (n > (L.length : Int)))).bind fun g => if g = true then some ([], 1) else (if 0 ≤ n ∧ n ≤ ((L.map leafD).length : Int) then (juratref08_Include.f k ((L.map leafD).take n.toNat) i).bind fun r => some (r.1, r.2) else none) := rfl
theorem rCon (k : Nat) (L : List (List Int)) (i n : Int) : juratref09_Ledger_Consist.f k (refOf L) i n = (if n < 0 then some true else some (decide (n > (L.length : Int)))).bind fun g => if g = true then some ([], 1) else (if 0 ≤ n ∧ n ≤ ((L.map leafD).length : Int) then (juratref08_Consist.f k ((L.map leafD).take n.toNat) i).bind fun r => some (r.1, r.2) else none) := rfl
theorem leaf_both (L : List (List Int)) (i : Int) (hL : AllL L) : ∃ r : List Int × Int, r.1.length ≤ 4096 ∧ Ev (fun k => ledger_Ledger_Leaf.f k (ledgerOf L) i) r ∧ Ev (fun k => juratref09_Ledger_Leaf.f k (refOf L) i) (r.1, r.2, refOf L) := by
  by_cases hi : i < 0 ∨ (L.length : Int) ≤ i
  · have hg : (if i < 0 then (some true) else (some (decide (i ≥ (L.length : Int))))) = some true := by
      by_cases h : i < 0
      · rw [if_pos h]
      · rw [if_neg h, decide_eq_true (by omega)]
    refine ⟨([], 1), by simp, (Ev.pure _).congr fun k => ?_, (Ev.pure _).congr fun k => ?_⟩
    · show (if i < 0 then some true else some (decide (i ≥ (L.length : Int)))).bind _ = _
      rw [hg]; rfl
    · rw [rLeaf, hg]; rfl
  · obtain ⟨j, rfl⟩ : ∃ j : Nat, i = (j : Int) := ⟨i.toNat, by omega⟩
    have hj : j < L.length := by omega
    have hg : (if (j : Int) < 0 then (some true) else (some (decide ((j : Int) ≥ (L.length : Int))))) = some false := by
      rw [if_neg (by omega), decide_eq_false (by omega)]
    have g2 : 0 ≤ (j : Int) ∧ (j : Int) < (L.length : Int) := by omega
    have hm : L.getD j [] ∈ L := by rw [List.getD_eq_getElem?_getD, List.getElem?_eq_getElem hj, Option.getD_some]; exact List.getElem_mem hj
    refine ⟨(L.getD j [], 0), (hL _ hm).1, (Ev.pure _).congr fun k => lleaf_f k L j hj hL.s, (Ev.pure _).congr fun k => ?_⟩
    rw [rLeaf, hg]; simp only [Option.bind_some, Bool.false_eq_true, if_false, if_pos g2, Int.toNat_natCast]
theorem head_both (L : List (List Int)) (n : Int) (hl : L.length ≤ 256) (hL : AllL L) : ∃ r : THead × Int, Ev (fun k => ledger_Ledger_Head.f k (ledgerOf L) n) r ∧ Ev (fun k => juratref09_Ledger_Head.f k (refOf L) n) r := by
  by_cases hn : n < 0 ∨ (L.length : Int) < n
  · refine ⟨(⟨0, List.replicate 32 0⟩, 1), (Ev.pure _).congr fun k => ?_, (Ev.pure _).congr fun k => ?_⟩
    · simp only [ledger_Ledger_Head.f, part_bad k L n hn, Option.bind_some]
      rfl
    · rw [rHead, far_bad L n hn]; rfl
  · have hg := near_ok L n hn
    obtain ⟨j, rfl⟩ : ∃ j : Nat, n = (j : Int) := ⟨n.toNat, by omega⟩
    have g2 : 0 ≤ (j : Int) ∧ (j : Int) ≤ ((L.map leafD).length : Int) := by rw [List.length_map]; omega
    have hr := (root_ref _ ((L.map leafD).take j) (Nat.le_refl _) (by rw [List.length_take, List.length_map]; omega) (hL.e.take j)).2
    refine ⟨_, head_f L j (by omega) (by omega) hL.s, ?_⟩
    refine Ev.congr (Ev.bind (g := fun _ r42 => some ((⟨(j : Int), r42⟩ : THead), (0 : Int))) hr (Ev.pure _)) fun k => ?_
    rw [rHead, hg]; simp only [Option.bind_some, Bool.false_eq_true, if_false, if_pos g2, Int.toNat_natCast]
theorem linclude_both (L : List (List Int)) (i n : Int) (hl : L.length ≤ 256) (hL : AllL L) : ∃ r : List (List Int) × Int, r.1.length ≤ 1000 ∧ Ev (fun k => ledger_Ledger_Include.f k (ledgerOf L) i n) r ∧ Ev (fun k => juratref09_Ledger_Include.f k (refOf L) i n) r := by
  by_cases hn : n < 0 ∨ (L.length : Int) < n
  · refine ⟨([], 1), by simp, (Ev.pure _).congr fun k => ?_, (Ev.pure _).congr fun k => ?_⟩
    · simp only [ledger_Ledger_Include.f, part_bad k L n hn, Option.bind_some]
      rfl
    · rw [rInc, far_bad L n hn]; rfl
  · have hg := near_ok L n hn
    obtain ⟨j, rfl⟩ : ∃ j : Nat, n = (j : Int) := ⟨n.toNat, by omega⟩
    have g2 : 0 ≤ (j : Int) ∧ (j : Int) ≤ ((L.map leafD).length : Int) := by rw [List.length_map]; omega
    obtain ⟨r, h0, h1, h2⟩ := include_both ((L.map leafD).take j) i (by rw [List.length_take, List.length_map]; omega) (hL.e.take j)
    refine ⟨r, h0, Ev.congr (Ev.bind (g := fun _ (r : List (List Int) × Int) => some (r.1, r.2)) h1 (Ev.pure _)) fun k => ?_, Ev.congr (Ev.bind (g := fun _ (r : List (List Int) × Int) => some (r.1, r.2)) h2 (Ev.pure _)) fun k => ?_⟩
    · simp only [ledger_Ledger_Include.f, part_f k L j (by omega), Option.bind_some, if_true]
    · rw [rInc, hg]; simp only [Option.bind_some, Bool.false_eq_true, if_false, if_pos g2, Int.toNat_natCast]
theorem lconsist_both (L : List (List Int)) (i n : Int) (hl : L.length ≤ 256) (hL : AllL L) : ∃ r : List (List Int) × Int, r.1.length ≤ 1000 ∧ Ev (fun k => ledger_Ledger_Consist.f k (ledgerOf L) i n) r ∧ Ev (fun k => juratref09_Ledger_Consist.f k (refOf L) i n) r := by
  by_cases hn : n < 0 ∨ (L.length : Int) < n
  · refine ⟨([], 1), by simp, (Ev.pure _).congr fun k => ?_, (Ev.pure _).congr fun k => ?_⟩
    · simp only [ledger_Ledger_Consist.f, part_bad k L n hn, Option.bind_some]
      rfl
    · rw [rCon, far_bad L n hn]; rfl
  · have hg := near_ok L n hn
    obtain ⟨j, rfl⟩ : ∃ j : Nat, n = (j : Int) := ⟨n.toNat, by omega⟩
    have g2 : 0 ≤ (j : Int) ∧ (j : Int) ≤ ((L.map leafD).length : Int) := by rw [List.length_map]; omega
    obtain ⟨r, h0, h1, h2⟩ := consist_both ((L.map leafD).take j) i (by rw [List.length_take, List.length_map]; omega) (hL.e.take j)
    refine ⟨r, h0, Ev.congr (Ev.bind (g := fun _ (r : List (List Int) × Int) => some (r.1, r.2)) h1 (Ev.pure _)) fun k => ?_, Ev.congr (Ev.bind (g := fun _ (r : List (List Int) × Int) => some (r.1, r.2)) h2 (Ev.pure _)) fun k => ?_⟩
    · simp only [ledger_Ledger_Consist.f, part_f k L j (by omega), Option.bind_some, if_true]
    · rw [rCon, hg]; simp only [Option.bind_some, Bool.false_eq_true, if_false, if_pos g2, Int.toNat_natCast]
/-- One call, either way. -/
theorem ask_both (c : TAsk) (L : List (List Int)) (hl : L.length ≤ 60) (hL : AllL L) (hc : ok68 c) (hlen : c.Leaf.length ≤ 5000) : ∃ M, M.length ≤ L.length + 1 ∧ AllL M ∧
    Ev (fun k => if c.Kind = 0 then ((juratlaw09_own.f k c.Leaf).bind fun r7536 => (ledger_Ledger_Append.f k (ledgerOf L) r7536).bind fun ⟨r7560, r7561, r7562⟩ => (juratref09_Ledger_Append.f k (refOf L) c.Leaf).bind fun ⟨r7594, r7595, r7596⟩ => some ((decide (r7560 = r7594)) && (decide (r7561 = r7595)), r7562, r7596)) else (if c.Kind = 1 then ((ledger_Ledger_Leaf.f k (ledgerOf L) c.I).bind fun ⟨r7642, r7643⟩ => (juratref09_Ledger_Leaf.f k (refOf L) c.I).bind fun ⟨r7669, r7670, r7671⟩ => (juratref01_Same.f k r7642 r7669).bind fun r7704 => some (r7704 && (decide (r7643 = r7670)), ledgerOf L, r7671)) else (if c.Kind = 2 then ((ledger_Ledger_Head.f k (ledgerOf L) c.N).bind fun ⟨r7738, r7739⟩ => (juratref09_Ledger_Head.f k (refOf L) c.N).bind fun ⟨r7761, r7762⟩ => some ((decide (r7738.Size = r7761.Size ∧ r7738.Root = r7761.Root)) && (decide (r7739 = r7762)), ledgerOf L, refOf L)) else (if c.Kind = 3 then ((ledger_Ledger_Include.f k (ledgerOf L) c.I c.N).bind fun ⟨r7800, r7801⟩ => (juratref09_Ledger_Include.f k (refOf L) c.I c.N).bind fun ⟨r7821, r7822⟩ => (juratref05_Same.f k r7800 r7821).bind fun r7849 => some (r7849 && (decide (r7801 = r7822)), ledgerOf L, refOf L)) else ((ledger_Ledger_Consist.f k (ledgerOf L) c.I c.N).bind fun ⟨r7877, r7878⟩ => (juratref09_Ledger_Consist.f k (refOf L) c.I c.N).bind fun ⟨r7898, r7899⟩ => (juratref05_Same.f k r7877 r7898).bind fun r7926 => some (r7926 && (decide (r7878 = r7899)), ledgerOf L, refOf L)))))) (true, ledgerOf M, refOf M) := by
  have hB : AllB c.Leaf := okB28 hc.2.2.2
  by_cases k0 : c.Kind = 0
  · have h1 := append_f L c.Leaf (by omega)
    have h2 := append_ref L c.Leaf (by omega) hB
    by_cases hlong : c.Leaf.length > 4096
    · rw [if_pos hlong] at h1 h2
      refine ⟨L, by omega, hL, Ev.iteT k0 ?_⟩
      simp only [own9_f _ c.Leaf (by omega : c.Leaf.length ≤ 140737488355328), Option.bind_some]
      refine Ev.bind h1 ?_
      refine Ev.bind h2 ?_
      exact Ev.pure _
    · rw [if_neg hlong, if_neg (by omega)] at h1 h2
      refine ⟨L ++ [c.Leaf], by simp, fun b hb => ?_, Ev.iteT k0 ?_⟩
      · rcases List.mem_append.1 hb with h | h
        · exact hL b h
        · rw [List.mem_singleton.1 h]; exact ⟨by omega, hB⟩
      simp only [own9_f _ c.Leaf (by omega : c.Leaf.length ≤ 140737488355328), Option.bind_some]
      refine Ev.bind h1 ?_
      refine Ev.bind h2 ?_
      simp only [decide_true, Bool.and_true]
      exact Ev.pure _
  · refine ⟨L, by omega, hL, Ev.iteF k0 ?_⟩
    by_cases k1 : c.Kind = 1
    · refine Ev.iteT k1 ?_
      obtain ⟨r, h0, h1, h2⟩ := leaf_both L c.I hL
      have e := same1_f r.1 r.1 (by omega)
      rw [decide_eq_true rfl] at e
      refine Ev.bind h1 ?_
      refine Ev.bind h2 ?_
      refine Ev.bind e ?_
      simp only [decide_true, Bool.and_true]
      exact Ev.pure _
    · refine Ev.iteF k1 ?_
      by_cases k2 : c.Kind = 2
      · refine Ev.iteT k2 ?_
        obtain ⟨r, h1, h2⟩ := head_both L c.N (by omega) hL
        refine Ev.bind h1 ?_
        refine Ev.bind h2 ?_
        simp only [decide_true, Bool.and_true, and_self]
        exact Ev.pure _
      · refine Ev.iteF k2 ?_
        by_cases k3 : c.Kind = 3
        · refine Ev.iteT k3 ?_
          obtain ⟨r, h0, h1, h2⟩ := linclude_both L c.I c.N (by omega) hL
          have e := same5_f r.1 r.1 (by omega)
          rw [decide_eq_true rfl] at e
          refine Ev.bind h1 ?_
          refine Ev.bind h2 ?_
          refine Ev.bind e ?_
          simp only [decide_true, Bool.and_true]
          exact Ev.pure _
        · refine Ev.iteF k3 ?_
          obtain ⟨r, h0, h1, h2⟩ := lconsist_both L c.I c.N (by omega) hL
          have e := same5_f r.1 r.1 (by omega)
          rw [decide_eq_true rfl] at e
          refine Ev.bind h1 ?_
          refine Ev.bind h2 ?_
          refine Ev.bind e ?_
          simp only [decide_true, Bool.and_true]
          exact Ev.pure _
theorem plays_l1 (a0 : List TAsk) (hb : a0.length ≤ 60) (ha : ∀ c ∈ a0, ok68 c) : ∀ (m j : Nat) (L : List (List Int)), a0.length - j = m → j ≤ a0.length → L.length ≤ j → AllL L →
    (∃ M, Ev (fun k => juratlaw09_LedgerPlays.l1 k a0 (j : Int) (ledgerOf L) (refOf L)) (Sum.inl (ledgerOf M, refOf M))) ∨ Ev (fun k => juratlaw09_LedgerPlays.l1 k a0 (j : Int) (ledgerOf L) (refOf L)) (Sum.inr true) := by
  intro m
  induction m with
  | zero =>
    intro j L hm hj hl hL
    refine .inl ⟨L, Ev.succ ((Ev.pure _).congr fun k => ?_)⟩
    have : ¬ (j : Int) < (a0.length : Int) := by omega
    simp only [juratlaw09_LedgerPlays.l1, if_neg this]
  | succ m ih =>
    intro j L hm hj hl hL
    have hlt : j < a0.length := by omega
    have h1 : (j : Int) < (a0.length : Int) := by omega
    have h2 : 0 ≤ (j : Int) ∧ (j : Int) < (a0.length : Int) := by omega
    have hok := ha (a0.getD j TAsk.z) (by rw [List.getD_eq_getElem?_getD, List.getElem?_eq_getElem hlt, Option.getD_some]; exact List.getElem_mem hlt)
    by_cases hlong : (((a0.getD j TAsk.z).Leaf).length : Int) > 5000
    · refine .inr (Ev.succ (Ev.congr (Ev.bind (g := fun _ r => some (Sum.inr r)) awake9_ev (Ev.pure _)) fun k => ?_))
      simp only [juratlaw09_LedgerPlays.l1, if_pos h1, if_pos h2, Int.toNat_natCast, if_pos hlong]
    · obtain ⟨M, hM, hML, h⟩ := ask_both (a0.getD j TAsk.z) L (by omega) hL hok (by omega)
      have step : ∀ r, Ev (fun k => juratlaw09_LedgerPlays.l1 k a0 ((j + 1 : Nat) : Int) (ledgerOf M) (refOf M)) r → Ev (fun k => juratlaw09_LedgerPlays.l1 k a0 (j : Int) (ledgerOf L) (refOf L)) r := fun r hr => by
        refine Ev.succ ?_
        simp only [juratlaw09_LedgerPlays.l1, if_pos h1, if_pos h2, Int.toNat_natCast, if_neg hlong, wi64_succ (show j < 9223372036854775807 by omega)]
        refine Ev.bind h ?_
        have e : (decide ((M.length : Int) = (((refOf M).L).length : Int))) = true := decide_eq_true rfl
        simp only [if_true, size_f, Option.bind_some, e, Bool.not_true, Bool.false_eq_true, if_false]
        exact hr
      rcases ih (j + 1) M (by omega) (by omega) (by omega) hML with ⟨X, q⟩ | q
      · exact .inl ⟨X, step _ q⟩
      · exact .inr (step _ q)
theorem LedgerPlays (a0 : List TAsk) (h0 : ok63 a0) : ∃ k, juratlaw09_LedgerPlays.f k a0 = some true := by
  have aw : Ev (fun k => (juratlaw09_awake.f k).bind fun r => some r) true := Ev.bind awake9_ev (Ev.pure _)
  have : Ev (fun k => juratlaw09_LedgerPlays.f k a0) true := by
    unfold juratlaw09_LedgerPlays.f
    by_cases hb : (a0.length : Int) > 60
    · exact Ev.iteT hb aw
    · refine Ev.iteF hb ?_
      simp only [ledgerOf_nil, Option.bind_some]
      rcases plays_l1 a0 (by omega) h0.2 _ 0 [] rfl (Nat.zero_le _) (Nat.le_refl _) (fun b hb => by cases hb) with ⟨M, q⟩ | q
      · refine Ev.bind q ?_
        exact aw
      · refine Ev.bind q ?_
        exact Ev.pure _
  exact this.one
end Go.Proofs.YthdlfclkcdnenaaDoor.Pure
