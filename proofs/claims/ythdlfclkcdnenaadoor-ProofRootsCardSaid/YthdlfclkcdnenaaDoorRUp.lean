/- Plain laws of proofs: the document's roots and proofs are the program's. -/
import Derived.Test.YthdlfclkcdnenaaDoorRUo
import Derived.Test.YthdlfclkcdnenaaDoorRUe
set_option linter.unusedSimpArgs false
set_option linter.unusedVariables false
namespace Go.Proofs.YthdlfclkcdnenaaDoor.Pure
open Go.WG Go.Proofs.YthdlfclkcdnenaaDoor
def AllE (l : List (List Int)) : Prop := ∀ d ∈ l, d.length = 32 ∧ AllB d
theorem AllE.d {l : List (List Int)} (h : AllE l) : AllD l := fun d hd => (h d hd).1
theorem AllE.take {l : List (List Int)} (h : AllE l) (n : Nat) : AllE (l.take n) := fun d hd => h d (List.mem_of_mem_take hd)
theorem AllE.drop {l : List (List Int)} (h : AllE l) (n : Nat) : AllE (l.drop n) := fun d hd => h d (List.mem_of_mem_drop hd)
theorem AllE.getD {l : List (List Int)} (h : AllE l) {i : Nat} (hi : i < l.length) : (l.getD i []).length = 32 ∧ AllB (l.getD i []) := by
  rw [List.getD_eq_getElem?_getD, List.getElem?_eq_getElem hi, Option.getD_some]; exact h _ (List.getElem_mem hi)
theorem split_l1 (n : Nat) (h : 2 ≤ n) (h2 : n < 9223372036854775808) : ∀ (m a : Nat), Nat.log2 (n - 1) - a = m → a ≤ Nat.log2 (n - 1) → Ev (fun k => juratref08_split.l1 k (n : Int) ((2 ^ a : Nat) : Int)) ((sp n : Nat) : Int) := by
  have e1 : (wi64 ((n : Int) - 1)).tdiv 2 = (((n - 1) / 2 : Nat) : Int) := by
    rw [wi64_id (by omega) (by omega), Int.tdiv_eq_ediv_of_nonneg (by omega)]; omega
  have e2 : wi64 ((wi64 ((n : Int) - 1)).tdiv 2) = (((n - 1) / 2 : Nat) : Int) := by rw [e1, wi64_id (by omega) (by omega)]
  have hlo : 2 ^ Nat.log2 (n - 1) ≤ n - 1 := Nat.log2_self_le (by omega)
  have hhi : n - 1 < 2 ^ (Nat.log2 (n - 1) + 1) := Nat.lt_log2_self
  rw [Nat.pow_succ] at hhi
  intro m
  induction m with
  | zero =>
    intro a hm ha
    obtain rfl : a = Nat.log2 (n - 1) := by omega
    have : ¬ ((2 ^ Nat.log2 (n - 1) : Nat) : Int) ≤ (((n - 1) / 2 : Nat) : Int) := by omega
    refine Ev.succ ((Ev.pure _).congr fun k => ?_)
    simp only [juratref08_split.l1, e2, if_neg this]
    rfl
  | succ m ih =>
    intro a hm ha
    have hle : 2 ^ (a + 1) ≤ 2 ^ Nat.log2 (n - 1) := Nat.pow_le_pow_right (by omega) (by omega)
    have hs : 2 ^ (a + 1) = 2 * 2 ^ a := by rw [Nat.pow_succ, Nat.mul_comm]
    have h1 : ((2 ^ a : Nat) : Int) ≤ (((n - 1) / 2 : Nat) : Int) := by omega
    have e3 : wi64 (2 * ((2 ^ a : Nat) : Int)) = ((2 ^ (a + 1) : Nat) : Int) := by
      rw [wi64_id (by omega) (by omega), hs]; omega
    refine Ev.succ ((ih (a + 1) (by omega) (by omega)).congr fun k => ?_)
    simp only [juratref08_split.l1, e2, if_pos h1, e3]
theorem split_ref (n : Nat) (h : 2 ≤ n) (h2 : n < 9223372036854775808) : Ev (fun k => juratref08_split.f k (n : Int)) ((sp n : Nat) : Int) := by
  have := split_l1 n h h2 _ 0 rfl (Nat.zero_le _)
  exact Ev.bind (g := fun _ x => some x) this (Ev.pure _)
theorem root_ref : ∀ (n : Nat) (l : List (List Int)), l.length ≤ n → n ≤ 1000000 → AllE l → AllB (rootD l) ∧ Ev (fun k => juratref08_Root.f k l) (rootD l) := by
  intro n
  induction n with
  | zero =>
    intro l h hn hE
    obtain rfl : l = [] := List.length_eq_zero_iff.1 (by omega)
    rw [rootD_nil]
    have h0 : (([] : List (List Int)).length : Int) = 0 := rfl
    refine ⟨shaD_B [] (by simp) AllB.nil, Ev.succ ?_⟩
    simp only [juratref08_Root.f, if_pos h0]
    refine Ev.bind (sum_ref [] (by simp) AllB.nil) ?_
    exact Ev.pure _
  | succ n ih =>
    intro l h hn hE
    by_cases hl : l.length ≤ n
    · exact ih l hl (by omega) hE
    · by_cases h1 : l.length = 1
      · have hd := hE.getD (i := 0) (by omega)
        obtain ⟨d, rfl⟩ := List.length_eq_one_iff.1 h1
        rw [rootD_one]
        refine ⟨hd.2, Ev.succ ((Ev.pure _).congr fun k => ?_)⟩
        simp [juratref08_Root.f]
      · have hs := sp_facts (n := l.length) (by omega)
        have g0 : ¬ (l.length : Int) = 0 := by omega
        have g1 : ¬ (l.length : Int) = 1 := by omega
        have g2 : 0 ≤ ((sp l.length : Nat) : Int) ∧ ((sp l.length : Nat) : Int) ≤ (l.length : Int) := by omega
        have g3 : 0 ≤ ((sp l.length : Nat) : Int) ∧ ((sp l.length : Nat) : Int) ≤ (l.length : Int) ∧ (l.length : Int) ≤ (l.length : Int) := by omega
        obtain ⟨bl, hL⟩ := ih (l.take (sp l.length)) (by rw [List.length_take]; omega) (by omega) (hE.take _)
        obtain ⟨br, hR⟩ := ih (l.drop (sp l.length)) (by rw [List.length_drop]; omega) (by omega) (hE.drop _)
        have ll := rootD_len _ _ rfl (hE.d.take (sp l.length))
        have lr := rootD_len _ _ rfl (hE.d.drop (sp l.length))
        rw [rootD_two (by omega)]
        refine ⟨nodeD_B _ _ ll lr bl br, Ev.succ ?_⟩
        simp only [juratref08_Root.f, if_neg g0, if_neg g1]
        refine Ev.bind (split_ref l.length (by omega) (by omega)) ?_
        simp only [if_pos g2, if_pos g3, Int.toNat_natCast]
        refine Ev.bind hL ?_
        refine Ev.bind hR ?_
        refine Ev.bind (node_ref _ _ ll lr bl br) ?_
        exact Ev.pure _
end Go.Proofs.YthdlfclkcdnenaaDoor.Pure
