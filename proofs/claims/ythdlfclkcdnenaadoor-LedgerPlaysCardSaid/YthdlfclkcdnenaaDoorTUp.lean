/- Plain laws of proofs: the document's roots and proofs are the program's. -/
import Derived.Test.YthdlfclkcdnenaaDoorTUo
import Derived.Test.YthdlfclkcdnenaaDoorTUe
set_option linter.unusedSimpArgs false
set_option linter.unusedVariables false
namespace Go.Proofs.YthdlfclkcdnenaaDoor.Pure
open Go.WG Go.Proofs.YthdlfclkcdnenaaDoor
def AllE (l : List (List Int)) : Prop := ∀ d ∈ l, d.length = 32 ∧ AllB d
theorem AllE.d {l : List (List Int)} (h : AllE l) : AllD l := fun d hd => (h d hd).1
theorem AllE.take {l : List (List Int)} (h : AllE l) (n : Nat) : AllE (l.take n) := fun d hd => h d (List.mem_of_mem_take hd)
theorem AllE.drop {l : List (List Int)} (h : AllE l) (n : Nat) : AllE (l.drop n) := fun d hd => h d (List.mem_of_mem_drop hd)
theorem AllE.getD {l : List (List Int)} (h : AllE l) {i : Nat} (hi : i < l.length) : (l.getD i []).length = 32 ∧ AllB (l.getD i []) := by
  rw [List.getD_eq_getElem?_getD, List.getElem?_eq_getElem hi, Option.getD_some]; exact h _ (List.getElem_mem hi)
theorem split_l1 (n : Nat) (h : 2 ≤ n) (h2 : n < 9223372036854775808) : ∀ (m a : Nat), Nat.log2 (n - 1) - a = m → a ≤ Nat.log2 (n - 1) → Ev (fun k => juratref08_split.l1 k (n : Int) ((2 ^ a : Nat) : Int)) ((sp n : Nat) : Int) := by
  have e1 : (wi64 ((n : Int) - 1)).tdiv 2 = (((n - 1) / 2 : Nat) : Int) := by
    rw [wi64_id (by omega) (by omega), Int.tdiv_eq_ediv_of_nonneg (by omega)]; omega
  have e2 : wi64 ((wi64 ((n : Int) - 1)).tdiv 2) = (((n - 1) / 2 : Nat) : Int) := by rw [e1, wi64_id (by omega) (by omega)]
  have hlo : 2 ^ Nat.log2 (n - 1) ≤ n - 1 := Nat.log2_self_le (by omega)
  have hhi : n - 1 < 2 ^ (Nat.log2 (n - 1) + 1) := Nat.lt_log2_self
  rw [Nat.pow_succ] at hhi
  intro m
  induction m with
  | zero =>
    intro a hm ha
    obtain rfl : a = Nat.log2 (n - 1) := by omega
    have : ¬ ((2 ^ Nat.log2 (n - 1) : Nat) : Int) ≤ (((n - 1) / 2 : Nat) : Int) := by omega
    refine Ev.succ ((Ev.pure _).congr fun k => ?_)
    simp only [juratref08_split.l1, e2, if_neg this]
    rfl
  | succ m ih =>
    intro a hm ha
    have hle : 2 ^ (a + 1) ≤ 2 ^ Nat.log2 (n - 1) := Nat.pow_le_pow_right (by omega) (by omega)
    have hs : 2 ^ (a + 1) = 2 * 2 ^ a := by rw [Nat.pow_succ, Nat.mul_comm]
    have h1 : ((2 ^ a : Nat) : Int) ≤ (((n - 1) / 2 : Nat) : Int) := by omega
    have e3 : wi64 (2 * ((2 ^ a : Nat) : Int)) = ((2 ^ (a + 1) : Nat) : Int) := by
      rw [wi64_id (by omega) (by omega), hs]; omega
    refine Ev.succ ((ih (a + 1) (by omega) (by omega)).congr fun k => ?_)
    simp only [juratref08_split.l1, e2, if_pos h1, e3]
theorem split_ref (n : Nat) (h : 2 ≤ n) (h2 : n < 9223372036854775808) : Ev (fun k => juratref08_split.f k (n : Int)) ((sp n : Nat) : Int) := by
  have := split_l1 n h h2 _ 0 rfl (Nat.zero_le _)
  exact Ev.bind (g := fun _ x => some x) this (Ev.pure _)
theorem root_ref : ∀ (n : Nat) (l : List (List Int)), l.length ≤ n → n ≤ 1000000 → AllE l → AllB (rootD l) ∧ Ev (fun k => juratref08_Root.f k l) (rootD l) := by
  intro n
  induction n with
  | zero =>
    intro l h hn hE
    obtain rfl : l = [] := List.length_eq_zero_iff.1 (by omega)
    rw [rootD_nil]
    have h0 : (([] : List (List Int)).length : Int) = 0 := rfl
    refine ⟨shaD_B [] (by simp) AllB.nil, Ev.succ ?_⟩
    simp only [juratref08_Root.f, if_pos h0]
    refine Ev.bind (sum_ref [] (by simp) AllB.nil) ?_
    exact Ev.pure _
  | succ n ih =>
    intro l h hn hE
    by_cases hl : l.length ≤ n
    · exact ih l hl (by omega) hE
    · by_cases h1 : l.length = 1
      · have hd := hE.getD (i := 0) (by omega)
        obtain ⟨d, rfl⟩ := List.length_eq_one_iff.1 h1
        rw [rootD_one]
        refine ⟨hd.2, Ev.succ ((Ev.pure _).congr fun k => ?_)⟩
        simp [juratref08_Root.f]
      · have hs := sp_facts (n := l.length) (by omega)
        have g0 : ¬ (l.length : Int) = 0 := by omega
        have g1 : ¬ (l.length : Int) = 1 := by omega
        have g2 : 0 ≤ ((sp l.length : Nat) : Int) ∧ ((sp l.length : Nat) : Int) ≤ (l.length : Int) := by omega
        have g3 : 0 ≤ ((sp l.length : Nat) : Int) ∧ ((sp l.length : Nat) : Int) ≤ (l.length : Int) ∧ (l.length : Int) ≤ (l.length : Int) := by omega
        obtain ⟨bl, hL⟩ := ih (l.take (sp l.length)) (by rw [List.length_take]; omega) (by omega) (hE.take _)
        obtain ⟨br, hR⟩ := ih (l.drop (sp l.length)) (by rw [List.length_drop]; omega) (by omega) (hE.drop _)
        have ll := rootD_len _ _ rfl (hE.d.take (sp l.length))
        have lr := rootD_len _ _ rfl (hE.d.drop (sp l.length))
        rw [rootD_two (by omega)]
        refine ⟨nodeD_B _ _ ll lr bl br, Ev.succ ?_⟩
        simp only [juratref08_Root.f, if_neg g0, if_neg g1]
        refine Ev.bind (split_ref l.length (by omega) (by omega)) ?_
        simp only [if_pos g2, if_pos g3, Int.toNat_natCast]
        refine Ev.bind hL ?_
        refine Ev.bind hR ?_
        refine Ev.bind (node_ref _ _ ll lr bl br) ?_
        exact Ev.pure _
theorem include_ref : ∀ (n : Nat) (l : List (List Int)) (i : Nat), l.length ≤ n → i < l.length → n ≤ 1000000 → AllE l → Ev (fun k => juratref08_include.f k l (i : Int)) (incF n l i) := by
  intro n
  induction n with
  | zero => intro l i h hi; omega
  | succ n ih =>
    intro l i h hi hn hE
    unfold incF
    by_cases h1 : l.length ≤ 1
    · have g1 : (l.length : Int) = 1 := by omega
      rw [if_pos h1]
      refine Ev.succ ((Ev.pure _).congr fun k => ?_)
      simp only [juratref08_include.f, if_pos g1]
    · have hs := sp_facts (n := l.length) (by omega)
      have g1 : ¬ (l.length : Int) = 1 := by omega
      have g2 : 0 ≤ ((sp l.length : Nat) : Int) ∧ ((sp l.length : Nat) : Int) ≤ (l.length : Int) := by omega
      have g3 : 0 ≤ ((sp l.length : Nat) : Int) ∧ ((sp l.length : Nat) : Int) ≤ (l.length : Int) ∧ (l.length : Int) ≤ (l.length : Int) := by omega
      rw [if_neg h1]
      by_cases hk : i < sp l.length
      · rw [if_pos hk]
        have g4 : (i : Int) < ((sp l.length : Nat) : Int) := by omega
        have hp := incF_len n (l.take (sp l.length)) i
        refine Ev.succ ?_
        simp only [juratref08_include.f, if_neg g1]
        refine Ev.bind (split_ref l.length (by omega) (by omega)) ?_
        simp only [if_pos g4, if_pos g2, if_pos g3, Int.toNat_natCast]
        refine Ev.bind (ih (l.take (sp l.length)) i (by rw [List.length_take]; omega) (by rw [List.length_take]; omega) (by omega) (hE.take _)) ?_
        refine Ev.bind (root_ref _ (l.drop (sp l.length)) (Nat.le_refl _) (by rw [List.length_drop]; omega) (hE.drop _)).2 ?_
        exact Ev.iteT (by omega) (Ev.pure _)
      · rw [if_neg hk]
        have g4 : ¬ (i : Int) < ((sp l.length : Nat) : Int) := by omega
        have hp := incF_len n (l.drop (sp l.length)) (i - sp l.length)
        have e1 : wi64 ((i : Int) - ((sp l.length : Nat) : Int)) = ((i - sp l.length : Nat) : Int) := by rw [wi64_id (by omega) (by omega)]; omega
        refine Ev.succ ?_
        simp only [juratref08_include.f, if_neg g1]
        refine Ev.bind (split_ref l.length (by omega) (by omega)) ?_
        simp only [if_neg g4, if_pos g2, if_pos g3, Int.toNat_natCast, e1]
        refine Ev.bind (ih (l.drop (sp l.length)) (i - sp l.length) (by rw [List.length_drop]; omega) (by rw [List.length_drop]; omega) (by omega) (hE.drop _)) ?_
        refine Ev.bind (root_ref _ (l.take (sp l.length)) (Nat.le_refl _) (by rw [List.length_take]; omega) (hE.take _)).2 ?_
        exact Ev.iteT (by omega) (Ev.pure _)
theorem part_ref : ∀ (n : Nat) (l : List (List Int)) (m : Nat) (w : Bool), l.length ≤ n → 0 < m → m ≤ l.length → n ≤ 1000000 → AllE l → Ev (fun k => juratref08_part.f k l (m : Int) w) (partF n l m w) := by
  intro n
  induction n with
  | zero => intro l m w h hi; omega
  | succ n ih =>
    intro l m w h h0 hm hn hE
    unfold partF
    by_cases h1 : l.length ≤ m
    · have g1 : (m : Int) = (l.length : Int) := by omega
      rw [if_pos h1]
      refine Ev.succ ?_
      simp only [juratref08_part.f, if_pos g1]
      by_cases hw : w = true
      · simp only [if_pos hw]; exact Ev.pure _
      · simp only [if_neg hw]
        refine Ev.bind (root_ref _ l (Nat.le_refl _) (by omega) hE).2 ?_
        exact Ev.pure _
    · have hs := sp_facts (n := l.length) (by omega)
      have g1 : ¬ (m : Int) = (l.length : Int) := by omega
      have g2 : 0 ≤ ((sp l.length : Nat) : Int) ∧ ((sp l.length : Nat) : Int) ≤ (l.length : Int) := by omega
      have g3 : 0 ≤ ((sp l.length : Nat) : Int) ∧ ((sp l.length : Nat) : Int) ≤ (l.length : Int) ∧ (l.length : Int) ≤ (l.length : Int) := by omega
      rw [if_neg h1]
      by_cases hk : m ≤ sp l.length
      · rw [if_pos hk]
        have g4 : (m : Int) ≤ ((sp l.length : Nat) : Int) := by omega
        have hp := partF_len n (l.take (sp l.length)) m w
        refine Ev.succ ?_
        simp only [juratref08_part.f, if_neg g1]
        refine Ev.bind (split_ref l.length (by omega) (by omega)) ?_
        simp only [if_pos g4, if_pos g2, if_pos g3, Int.toNat_natCast]
        refine Ev.bind (ih (l.take (sp l.length)) m w (by rw [List.length_take]; omega) h0 (by rw [List.length_take]; omega) (by omega) (hE.take _)) ?_
        refine Ev.bind (root_ref _ (l.drop (sp l.length)) (Nat.le_refl _) (by rw [List.length_drop]; omega) (hE.drop _)).2 ?_
        exact Ev.iteT (by omega) (Ev.pure _)
      · rw [if_neg hk]
        have g4 : ¬ (m : Int) ≤ ((sp l.length : Nat) : Int) := by omega
        have hp := partF_len n (l.drop (sp l.length)) (m - sp l.length) false
        have e1 : wi64 ((m : Int) - ((sp l.length : Nat) : Int)) = ((m - sp l.length : Nat) : Int) := by rw [wi64_id (by omega) (by omega)]; omega
        refine Ev.succ ?_
        simp only [juratref08_part.f, if_neg g1]
        refine Ev.bind (split_ref l.length (by omega) (by omega)) ?_
        simp only [if_neg g4, if_pos g2, if_pos g3, Int.toNat_natCast, e1]
        refine Ev.bind (ih (l.drop (sp l.length)) (m - sp l.length) false (by rw [List.length_drop]; omega) (by omega) (by rw [List.length_drop]; omega) (by omega) (hE.drop _)) ?_
        refine Ev.bind (root_ref _ (l.take (sp l.length)) (Nat.le_refl _) (by rw [List.length_take]; omega) (hE.take _)).2 ?_
        exact Ev.iteT (by omega) (Ev.pure _)
theorem Include_ref (l : List (List Int)) (i : Nat) (hi : i < l.length) (hl : l.length ≤ 1000000) (hE : AllE l) : Ev (fun k => juratref08_Include.f k l (i : Int)) (incD l i, 0) := by
  have h := include_ref l.length l i (Nat.le_refl _) hi hl hE
  have g1 : ¬ (i : Int) < 0 := by omega
  have g2 : decide ((i : Int) ≥ (l.length : Int)) = false := decide_eq_false (by omega)
  refine Ev.congr (Ev.bind (g := fun _ r => some (r, (0 : Int))) h (Ev.pure _)) fun k => ?_
  simp only [juratref08_Include.f, if_neg g1, g2, Option.bind_some, Bool.false_eq_true, if_false]
theorem Include_bad (k : Nat) (l : List (List Int)) (i : Int) (hi : i < 0 ∨ (l.length : Int) ≤ i) : juratref08_Include.f k l i = some ([], 1) := by
  have hg : (if i < 0 then (some true) else (some (decide (i ≥ (l.length : Int))))) = some true := by
    by_cases h : i < 0
    · rw [if_pos h]
    · rw [if_neg h, decide_eq_true (by omega)]
  simp only [juratref08_Include.f, hg, Option.bind_some, if_true]
theorem Consist_ref (l : List (List Int)) (m : Nat) (hm : m ≤ l.length) (hl : l.length ≤ 1000000) (hE : AllE l) : Ev (fun k => juratref08_Consist.f k l (m : Int)) (conD l m, 0) := by
  have g1 : ¬ (m : Int) < 0 := by omega
  have g2 : decide ((m : Int) > (l.length : Int)) = false := decide_eq_false (by omega)
  unfold conD
  by_cases h0 : m = 0
  · rw [if_pos h0]
    have g3 : (m : Int) = 0 := by omega
    refine (Ev.pure _).congr fun k => ?_
    simp only [juratref08_Consist.f, if_neg g1, g2, Option.bind_some, Bool.false_eq_true, if_false, if_pos g3, if_true]
  · rw [if_neg h0]
    have g3 : ¬ (m : Int) = 0 := by omega
    by_cases hw : m = l.length
    · have g4 : decide ((m : Int) = (l.length : Int)) = true := decide_eq_true (by omega)
      have e : partF l.length l m true = [] := by
        obtain ⟨n, hn⟩ : ∃ n, l.length = n + 1 := ⟨l.length - 1, by omega⟩
        rw [hn]; unfold partF
        rw [if_pos (by omega), if_pos rfl]
      rw [e]
      refine (Ev.pure _).congr fun k => ?_
      simp only [juratref08_Consist.f, if_neg g1, g2, Option.bind_some, Bool.false_eq_true, if_false, if_neg g3, g4, if_true]
    · have g4 : decide ((m : Int) = (l.length : Int)) = false := decide_eq_false (by omega)
      have h := part_ref l.length l m true (Nat.le_refl _) (by omega) hm hl hE
      refine Ev.congr (Ev.bind (g := fun _ r => some (r, (0 : Int))) h (Ev.pure _)) fun k => ?_
      simp only [juratref08_Consist.f, if_neg g1, g2, Option.bind_some, Bool.false_eq_true, if_false, if_neg g3, g4]
theorem Consist_bad (k : Nat) (l : List (List Int)) (m : Int) (hm : m < 0 ∨ (l.length : Int) < m) : juratref08_Consist.f k l m = some ([], 1) := by
  have hg : (if m < 0 then (some true) else (some (decide (m > (l.length : Int))))) = some true := by
    by_cases h : m < 0
    · rw [if_pos h]
    · rw [if_neg h, decide_eq_true (by omega)]
  simp only [juratref08_Consist.f, hg, Option.bind_some, if_true]
end Go.Proofs.YthdlfclkcdnenaaDoor.Pure
