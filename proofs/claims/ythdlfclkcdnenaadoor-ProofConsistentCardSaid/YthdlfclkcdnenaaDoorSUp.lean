/- Plain laws of proofs: the document's roots and proofs are the program's. -/
import Derived.Test.YthdlfclkcdnenaaDoorSUo
import Derived.Test.YthdlfclkcdnenaaDoorSUk
set_option linter.unusedSimpArgs false
set_option linter.unusedVariables false
namespace Go.Proofs.YthdlfclkcdnenaaDoor.Pure
open Go.WG Go.Proofs.YthdlfclkcdnenaaDoor
def AllE (l : List (List Int)) : Prop := ∀ d ∈ l, d.length = 32 ∧ AllB d
theorem AllE.d {l : List (List Int)} (h : AllE l) : AllD l := fun d hd => (h d hd).1
theorem AllE.take {l : List (List Int)} (h : AllE l) (n : Nat) : AllE (l.take n) := fun d hd => h d (List.mem_of_mem_take hd)
theorem AllE.drop {l : List (List Int)} (h : AllE l) (n : Nat) : AllE (l.drop n) := fun d hd => h d (List.mem_of_mem_drop hd)
theorem AllE.getD {l : List (List Int)} (h : AllE l) {i : Nat} (hi : i < l.length) : (l.getD i []).length = 32 ∧ AllB (l.getD i []) := by
  rw [List.getD_eq_getElem?_getD, List.getElem?_eq_getElem hi, Option.getD_some]; exact h _ (List.getElem_mem hi)
theorem split_l1 (n : Nat) (h : 2 ≤ n) (h2 : n < 9223372036854775808) : ∀ (m a : Nat), Nat.log2 (n - 1) - a = m → a ≤ Nat.log2 (n - 1) → Ev (fun k => juratref08_split.l1 k (n : Int) ((2 ^ a : Nat) : Int)) ((sp n : Nat) : Int) := by
  have e1 : (wi64 ((n : Int) - 1)).tdiv 2 = (((n - 1) / 2 : Nat) : Int) := by
    rw [wi64_id (by omega) (by omega), Int.tdiv_eq_ediv_of_nonneg (by omega)]; omega
  have e2 : wi64 ((wi64 ((n : Int) - 1)).tdiv 2) = (((n - 1) / 2 : Nat) : Int) := by rw [e1, wi64_id (by omega) (by omega)]
  have hlo : 2 ^ Nat.log2 (n - 1) ≤ n - 1 := Nat.log2_self_le (by omega)
  have hhi : n - 1 < 2 ^ (Nat.log2 (n - 1) + 1) := Nat.lt_log2_self
  rw [Nat.pow_succ] at hhi
  intro m
  induction m with
  | zero =>
    intro a hm ha
    obtain rfl : a = Nat.log2 (n - 1) := by omega
    have : ¬ ((2 ^ Nat.log2 (n - 1) : Nat) : Int) ≤ (((n - 1) / 2 : Nat) : Int) := by omega
    refine Ev.succ ((Ev.pure _).congr fun k => ?_)
    simp only [juratref08_split.l1, e2, if_neg this]
    rfl
  | succ m ih =>
    intro a hm ha
    have hle : 2 ^ (a + 1) ≤ 2 ^ Nat.log2 (n - 1) := Nat.pow_le_pow_right (by omega) (by omega)
    have hs : 2 ^ (a + 1) = 2 * 2 ^ a := by rw [Nat.pow_succ, Nat.mul_comm]
    have h1 : ((2 ^ a : Nat) : Int) ≤ (((n - 1) / 2 : Nat) : Int) := by omega
    have e3 : wi64 (2 * ((2 ^ a : Nat) : Int)) = ((2 ^ (a + 1) : Nat) : Int) := by
      rw [wi64_id (by omega) (by omega), hs]; omega
    refine Ev.succ ((ih (a + 1) (by omega) (by omega)).congr fun k => ?_)
    simp only [juratref08_split.l1, e2, if_pos h1, e3]
theorem split_ref (n : Nat) (h : 2 ≤ n) (h2 : n < 9223372036854775808) : Ev (fun k => juratref08_split.f k (n : Int)) ((sp n : Nat) : Int) := by
  have := split_l1 n h h2 _ 0 rfl (Nat.zero_le _)
  exact Ev.bind (g := fun _ x => some x) this (Ev.pure _)
theorem root_ref : ∀ (n : Nat) (l : List (List Int)), l.length ≤ n → n ≤ 1000000 → AllE l → AllB (rootD l) ∧ Ev (fun k => juratref08_Root.f k l) (rootD l) := by
  intro n
  induction n with
  | zero =>
    intro l h hn hE
    obtain rfl : l = [] := List.length_eq_zero_iff.1 (by omega)
    rw [rootD_nil]
    have h0 : (([] : List (List Int)).length : Int) = 0 := rfl
    refine ⟨shaD_B [] (by simp) AllB.nil, Ev.succ ?_⟩
    simp only [juratref08_Root.f, if_pos h0]
    refine Ev.bind (sum_ref [] (by simp) AllB.nil) ?_
    exact Ev.pure _
  | succ n ih =>
    intro l h hn hE
    by_cases hl : l.length ≤ n
    · exact ih l hl (by omega) hE
    · by_cases h1 : l.length = 1
      · have hd := hE.getD (i := 0) (by omega)
        obtain ⟨d, rfl⟩ := List.length_eq_one_iff.1 h1
        rw [rootD_one]
        refine ⟨hd.2, Ev.succ ((Ev.pure _).congr fun k => ?_)⟩
        simp [juratref08_Root.f]
      · have hs := sp_facts (n := l.length) (by omega)
        have g0 : ¬ (l.length : Int) = 0 := by omega
        have g1 : ¬ (l.length : Int) = 1 := by omega
        have g2 : 0 ≤ ((sp l.length : Nat) : Int) ∧ ((sp l.length : Nat) : Int) ≤ (l.length : Int) := by omega
        have g3 : 0 ≤ ((sp l.length : Nat) : Int) ∧ ((sp l.length : Nat) : Int) ≤ (l.length : Int) ∧ (l.length : Int) ≤ (l.length : Int) := by omega
        obtain ⟨bl, hL⟩ := ih (l.take (sp l.length)) (by rw [List.length_take]; omega) (by omega) (hE.take _)
        obtain ⟨br, hR⟩ := ih (l.drop (sp l.length)) (by rw [List.length_drop]; omega) (by omega) (hE.drop _)
        have ll := rootD_len _ _ rfl (hE.d.take (sp l.length))
        have lr := rootD_len _ _ rfl (hE.d.drop (sp l.length))
        rw [rootD_two (by omega)]
        refine ⟨nodeD_B _ _ ll lr bl br, Ev.succ ?_⟩
        simp only [juratref08_Root.f, if_neg g0, if_neg g1]
        refine Ev.bind (split_ref l.length (by omega) (by omega)) ?_
        simp only [if_pos g2, if_pos g3, Int.toNat_natCast]
        refine Ev.bind hL ?_
        refine Ev.bind hR ?_
        refine Ev.bind (node_ref _ _ ll lr bl br) ?_
        exact Ev.pure _
theorem include_ref : ∀ (n : Nat) (l : List (List Int)) (i : Nat), l.length ≤ n → i < l.length → n ≤ 1000000 → AllE l → Ev (fun k => juratref08_include.f k l (i : Int)) (incF n l i) := by
  intro n
  induction n with
  | zero => intro l i h hi; omega
  | succ n ih =>
    intro l i h hi hn hE
    unfold incF
    by_cases h1 : l.length ≤ 1
    · have g1 : (l.length : Int) = 1 := by omega
      rw [if_pos h1]
      refine Ev.succ ((Ev.pure _).congr fun k => ?_)
      simp only [juratref08_include.f, if_pos g1]
    · have hs := sp_facts (n := l.length) (by omega)
      have g1 : ¬ (l.length : Int) = 1 := by omega
      have g2 : 0 ≤ ((sp l.length : Nat) : Int) ∧ ((sp l.length : Nat) : Int) ≤ (l.length : Int) := by omega
      have g3 : 0 ≤ ((sp l.length : Nat) : Int) ∧ ((sp l.length : Nat) : Int) ≤ (l.length : Int) ∧ (l.length : Int) ≤ (l.length : Int) := by omega
      rw [if_neg h1]
      by_cases hk : i < sp l.length
      · rw [if_pos hk]
        have g4 : (i : Int) < ((sp l.length : Nat) : Int) := by omega
        have hp := incF_len n (l.take (sp l.length)) i
        refine Ev.succ ?_
        simp only [juratref08_include.f, if_neg g1]
        refine Ev.bind (split_ref l.length (by omega) (by omega)) ?_
        simp only [if_pos g4, if_pos g2, if_pos g3, Int.toNat_natCast]
        refine Ev.bind (ih (l.take (sp l.length)) i (by rw [List.length_take]; omega) (by rw [List.length_take]; omega) (by omega) (hE.take _)) ?_
        refine Ev.bind (root_ref _ (l.drop (sp l.length)) (Nat.le_refl _) (by rw [List.length_drop]; omega) (hE.drop _)).2 ?_
        exact Ev.iteT (by omega) (Ev.pure _)
      · rw [if_neg hk]
        have g4 : ¬ (i : Int) < ((sp l.length : Nat) : Int) := by omega
        have hp := incF_len n (l.drop (sp l.length)) (i - sp l.length)
        have e1 : wi64 ((i : Int) - ((sp l.length : Nat) : Int)) = ((i - sp l.length : Nat) : Int) := by rw [wi64_id (by omega) (by omega)]; omega
        refine Ev.succ ?_
        simp only [juratref08_include.f, if_neg g1]
        refine Ev.bind (split_ref l.length (by omega) (by omega)) ?_
        simp only [if_neg g4, if_pos g2, if_pos g3, Int.toNat_natCast, e1]
        refine Ev.bind (ih (l.drop (sp l.length)) (i - sp l.length) (by rw [List.length_drop]; omega) (by rw [List.length_drop]; omega) (by omega) (hE.drop _)) ?_
        refine Ev.bind (root_ref _ (l.take (sp l.length)) (Nat.le_refl _) (by rw [List.length_take]; omega) (hE.take _)).2 ?_
        exact Ev.iteT (by omega) (Ev.pure _)
theorem part_ref : ∀ (n : Nat) (l : List (List Int)) (m : Nat) (w : Bool), l.length ≤ n → 0 < m → m ≤ l.length → n ≤ 1000000 → AllE l → Ev (fun k => juratref08_part.f k l (m : Int) w) (partF n l m w) := by
  intro n
  induction n with
  | zero => intro l m w h hi; omega
  | succ n ih =>
    intro l m w h h0 hm hn hE
    unfold partF
    by_cases h1 : l.length ≤ m
    · have g1 : (m : Int) = (l.length : Int) := by omega
      rw [if_pos h1]
      refine Ev.succ ?_
      simp only [juratref08_part.f, if_pos g1]
      by_cases hw : w = true
      · simp only [if_pos hw]; exact Ev.pure _
      · simp only [if_neg hw]
        refine Ev.bind (root_ref _ l (Nat.le_refl _) (by omega) hE).2 ?_
        exact Ev.pure _
    · have hs := sp_facts (n := l.length) (by omega)
      have g1 : ¬ (m : Int) = (l.length : Int) := by omega
      have g2 : 0 ≤ ((sp l.length : Nat) : Int) ∧ ((sp l.length : Nat) : Int) ≤ (l.length : Int) := by omega
      have g3 : 0 ≤ ((sp l.length : Nat) : Int) ∧ ((sp l.length : Nat) : Int) ≤ (l.length : Int) ∧ (l.length : Int) ≤ (l.length : Int) := by omega
      rw [if_neg h1]
      by_cases hk : m ≤ sp l.length
      · rw [if_pos hk]
        have g4 : (m : Int) ≤ ((sp l.length : Nat) : Int) := by omega
        have hp := partF_len n (l.take (sp l.length)) m w
        refine Ev.succ ?_
        simp only [juratref08_part.f, if_neg g1]
        refine Ev.bind (split_ref l.length (by omega) (by omega)) ?_
        simp only [if_pos g4, if_pos g2, if_pos g3, Int.toNat_natCast]
        refine Ev.bind (ih (l.take (sp l.length)) m w (by rw [List.length_take]; omega) h0 (by rw [List.length_take]; omega) (by omega) (hE.take _)) ?_
        refine Ev.bind (root_ref _ (l.drop (sp l.length)) (Nat.le_refl _) (by rw [List.length_drop]; omega) (hE.drop _)).2 ?_
        exact Ev.iteT (by omega) (Ev.pure _)
      · rw [if_neg hk]
        have g4 : ¬ (m : Int) ≤ ((sp l.length : Nat) : Int) := by omega
        have hp := partF_len n (l.drop (sp l.length)) (m - sp l.length) false
        have e1 : wi64 ((m : Int) - ((sp l.length : Nat) : Int)) = ((m - sp l.length : Nat) : Int) := by rw [wi64_id (by omega) (by omega)]; omega
        refine Ev.succ ?_
        simp only [juratref08_part.f, if_neg g1]
        refine Ev.bind (split_ref l.length (by omega) (by omega)) ?_
        simp only [if_neg g4, if_pos g2, if_pos g3, Int.toNat_natCast, e1]
        refine Ev.bind (ih (l.drop (sp l.length)) (m - sp l.length) false (by rw [List.length_drop]; omega) (by omega) (by rw [List.length_drop]; omega) (by omega) (hE.drop _)) ?_
        refine Ev.bind (root_ref _ (l.take (sp l.length)) (Nat.le_refl _) (by rw [List.length_take]; omega) (hE.take _)).2 ?_
        exact Ev.iteT (by omega) (Ev.pure _)
theorem Include_ref (l : List (List Int)) (i : Nat) (hi : i < l.length) (hl : l.length ≤ 1000000) (hE : AllE l) : Ev (fun k => juratref08_Include.f k l (i : Int)) (incD l i, 0) := by
  have h := include_ref l.length l i (Nat.le_refl _) hi hl hE
  have g1 : ¬ (i : Int) < 0 := by omega
  have g2 : decide ((i : Int) ≥ (l.length : Int)) = false := decide_eq_false (by omega)
  refine Ev.congr (Ev.bind (g := fun _ r => some (r, (0 : Int))) h (Ev.pure _)) fun k => ?_
  simp only [juratref08_Include.f, if_neg g1, g2, Option.bind_some, Bool.false_eq_true, if_false]
theorem Include_bad (k : Nat) (l : List (List Int)) (i : Int) (hi : i < 0 ∨ (l.length : Int) ≤ i) : juratref08_Include.f k l i = some ([], 1) := by
  have hg : (if i < 0 then (some true) else (some (decide (i ≥ (l.length : Int))))) = some true := by
    by_cases h : i < 0
    · rw [if_pos h]
    · rw [if_neg h, decide_eq_true (by omega)]
  simp only [juratref08_Include.f, hg, Option.bind_some, if_true]
theorem Consist_ref (l : List (List Int)) (m : Nat) (hm : m ≤ l.length) (hl : l.length ≤ 1000000) (hE : AllE l) : Ev (fun k => juratref08_Consist.f k l (m : Int)) (conD l m, 0) := by
  have g1 : ¬ (m : Int) < 0 := by omega
  have g2 : decide ((m : Int) > (l.length : Int)) = false := decide_eq_false (by omega)
  unfold conD
  by_cases h0 : m = 0
  · rw [if_pos h0]
    have g3 : (m : Int) = 0 := by omega
    refine (Ev.pure _).congr fun k => ?_
    simp only [juratref08_Consist.f, if_neg g1, g2, Option.bind_some, Bool.false_eq_true, if_false, if_pos g3, if_true]
  · rw [if_neg h0]
    have g3 : ¬ (m : Int) = 0 := by omega
    by_cases hw : m = l.length
    · have g4 : decide ((m : Int) = (l.length : Int)) = true := decide_eq_true (by omega)
      have e : partF l.length l m true = [] := by
        obtain ⟨n, hn⟩ : ∃ n, l.length = n + 1 := ⟨l.length - 1, by omega⟩
        rw [hn]; unfold partF
        rw [if_pos (by omega), if_pos rfl]
      rw [e]
      refine (Ev.pure _).congr fun k => ?_
      simp only [juratref08_Consist.f, if_neg g1, g2, Option.bind_some, Bool.false_eq_true, if_false, if_neg g3, g4, if_true]
    · have g4 : decide ((m : Int) = (l.length : Int)) = false := decide_eq_false (by omega)
      have h := part_ref l.length l m true (Nat.le_refl _) (by omega) hm hl hE
      refine Ev.congr (Ev.bind (g := fun _ r => some (r, (0 : Int))) h (Ev.pure _)) fun k => ?_
      simp only [juratref08_Consist.f, if_neg g1, g2, Option.bind_some, Bool.false_eq_true, if_false, if_neg g3, g4]
theorem Consist_bad (k : Nat) (l : List (List Int)) (m : Int) (hm : m < 0 ∨ (l.length : Int) < m) : juratref08_Consist.f k l m = some ([], 1) := by
  have hg : (if m < 0 then (some true) else (some (decide (m > (l.length : Int))))) = some true := by
    by_cases h : m < 0
    · rw [if_pos h]
    · rw [if_neg h, decide_eq_true (by omega)]
  simp only [juratref08_Consist.f, hg, Option.bind_some, if_true]
theorem snoc_of (P : List (List Int)) (h : 0 < P.length) : P = P.take (P.length - 1) ++ [P.getD (P.length - 1) []] := by
  have e := List.take_append_drop (P.length - 1) P
  have : P.drop (P.length - 1) = [P.getD (P.length - 1) []] := by
    rw [List.getD_eq_getElem?_getD, List.getElem?_eq_getElem (by omega), Option.getD_some, List.drop_eq_getElem_cons (by omega), List.drop_eq_nil_of_le (by omega)]
  rw [this] at e
  exact e.symm
theorem rep32 : (List.replicate 32 (0 : Int)).length = 32 ∧ AllB (List.replicate 32 (0 : Int)) := ⟨List.length_replicate .., AllB.rep 32⟩
theorem lead_ref (x : List Int) (hx : x.length = 32) (hxB : AllB x) : ∀ (c i n : Nat) (P : List (List Int)), P.length = c → i < n → n < 9223372036854775808 → c ≤ 1000000 → AllE P →
    ∃ r b, r.length = 32 ∧ AllB r ∧ Ev (fun k => juratref08_lead.f k x (i : Int) (n : Int) P) (r, b) ∧ (b = true ↔ P.length = (pathN i n).length) ∧ (b = true → r = foldUp (pathN i n) P x) := by
  intro c
  induction c with
  | zero =>
    intro i n P hc hi hn hb hE
    obtain rfl : P = [] := List.length_eq_zero_iff.1 hc
    by_cases h1 : n = 1
    · subst h1
      refine ⟨x, true, hx, hxB, Ev.succ ((Ev.pure _).congr fun k => ?_), by rw [pathN_one]; simp, fun _ => by rw [pathN_one]; simp [foldUp]⟩
      simp [juratref08_lead.f]
    · have g1 : ¬ (n : Int) = 1 := by omega
      have g2 : (([] : List (List Int)).length : Int) = 0 := rfl
      have hne : (pathN i n).length ≠ 0 := by
        by_cases hk : i < sp n
        · rw [pathN_left (by omega) hk]; simp
        · rw [pathN_right (by omega) (by omega) hi]; simp
      refine ⟨_, false, rep32.1, rep32.2, Ev.succ ((Ev.pure _).congr fun k => ?_), ⟨fun h => (by cases h), fun h => absurd h.symm hne⟩, fun h => by cases h⟩
      simp only [juratref08_lead.f, if_neg g1, if_pos g2]
  | succ c ih =>
    intro i n P hc hi hn hb hE
    have g3 : ¬ (P.length : Int) = 0 := by omega
    by_cases h1 : n = 1
    · subst h1
      refine ⟨x, false, hx, hxB, Ev.succ ((Ev.pure _).congr fun k => ?_), by rw [pathN_one]; simp; intro h; rw [h] at hc; simp at hc, fun h => by cases h⟩
      have : decide ((P.length : Int) = 0) = false := decide_eq_false g3
      have g1 : ((1 : Nat) : Int) = 1 := rfl
      simp only [juratref08_lead.f, if_pos g1, this]
    · have hs := sp_facts (n := n) (by omega)
      have g1 : ¬ (n : Int) = 1 := by omega
      have e1 : wi64 ((P.length : Int) - 1) = ((P.length - 1 : Nat) : Int) := by rw [wi64_id (by omega) (by omega)]; omega
      have g4 : 0 ≤ ((P.length - 1 : Nat) : Int) ∧ ((P.length - 1 : Nat) : Int) < (P.length : Int) := by omega
      have g5 : 0 ≤ ((P.length - 1 : Nat) : Int) ∧ ((P.length - 1 : Nat) : Int) ≤ (P.length : Int) := by omega
      have hlast := hE.getD (i := P.length - 1) (by omega)
      have hP := snoc_of P (by omega)
      have hlen : (P.take (P.length - 1)).length = c := by rw [List.length_take]; omega
      by_cases hk : i < sp n
      · have g6 : (i : Int) < ((sp n : Nat) : Int) := by omega
        obtain ⟨r, b, hr, hB, h, hb1, hb2⟩ := ih i (sp n) (P.take (P.length - 1)) hlen hk (by omega) (by omega) (hE.take _)
        rw [pathN_left (by omega) hk]
        refine ⟨nodeD r (P.getD (P.length - 1) []), b, nodeD_len _ _ hr hlast.1, nodeD_B _ _ hr hlast.1 hB hlast.2, Ev.succ ?_, ?_, ?_⟩
        · simp only [juratref08_lead.f, if_neg g1, if_neg g3, e1]
          refine Ev.bind (split_ref n (by omega) hn) ?_
          simp only [if_pos g4, if_pos g5, if_pos g6, Int.toNat_natCast]
          refine Ev.bind h ?_
          refine Ev.bind (node_ref _ _ hr hlast.1 hB hlast.2) ?_
          exact Ev.pure _
        · rw [hb1, List.length_append, List.length_singleton]; omega
        · intro hbt
          have hl := hb1.1 hbt
          rw [hP, foldUp_snoc _ _ _ _ _ hl.symm, ← hP, if_neg (by simp), ← hb2 hbt]
      · have g6 : ¬ (i : Int) < ((sp n : Nat) : Int) := by omega
        have e2 : wi64 ((i : Int) - ((sp n : Nat) : Int)) = ((i - sp n : Nat) : Int) := by rw [wi64_id (by omega) (by omega)]; omega
        have e3 : wi64 ((n : Int) - ((sp n : Nat) : Int)) = ((n - sp n : Nat) : Int) := by rw [wi64_id (by omega) (by omega)]; omega
        obtain ⟨r, b, hr, hB, h, hb1, hb2⟩ := ih (i - sp n) (n - sp n) (P.take (P.length - 1)) hlen (by omega) (by omega) (by omega) (hE.take _)
        rw [pathN_right (by omega) (by omega) hi]
        refine ⟨nodeD (P.getD (P.length - 1) []) r, b, nodeD_len _ _ hlast.1 hr, nodeD_B _ _ hlast.1 hr hlast.2 hB, Ev.succ ?_, ?_, ?_⟩
        · simp only [juratref08_lead.f, if_neg g1, if_neg g3, e1]
          refine Ev.bind (split_ref n (by omega) hn) ?_
          simp only [if_pos g4, if_pos g5, if_neg g6, Int.toNat_natCast, e2, e3]
          refine Ev.bind h ?_
          refine Ev.bind (node_ref _ _ hlast.1 hr hlast.2 hB) ?_
          exact Ev.pure _
        · rw [hb1, List.length_append, List.length_singleton]; omega
        · intro hbt
          have hl := hb1.1 hbt
          rw [hP, foldUp_snoc _ _ _ _ _ hl.symm, ← hP, if_pos rfl, ← hb2 hbt]
theorem Included_ref (x : List Int) (i n : Nat) (P : List (List Int)) (root : List Int) (hi : i < n) (hn : n < 9223372036854775808) (hE : AllE P) (hb : P.length ≤ 1000000) (hx : x.length = 32) (hxB : AllB x) :
    Ev (fun k => juratref08_Included.f k x (i : Int) (n : Int) P root) (decide (P.length = (pathN i n).length ∧ foldUp (pathN i n) P x = root)) := by
  obtain ⟨r, b, hr, hB, h, hb1, hb2⟩ := lead_ref x hx hxB P.length i n P rfl hi hn hb hE
  have g1 : ¬ (decide ((i : Int) < 0) || decide ((i : Int) ≥ (n : Int))) = true := by simp; omega
  refine Ev.iteF g1 (Ev.bind h ?_)
  cases b with
  | true =>
    have e := hb2 rfl
    have l := hb1.1 rfl
    refine (Ev.pure _).congr fun k => ?_
    simp only [if_true, Option.bind_some, e, l, true_and]
  | false =>
    have l : ¬ P.length = (pathN i n).length := fun h => by have := hb1.2 h; cases this
    refine (Ev.pure _).congr fun k => ?_
    simp [l]
theorem Included_bad (k : Nat) (x : List Int) (i n : Int) (P : List (List Int)) (root : List Int) (h : i < 0 ∨ n ≤ i) : juratref08_Included.f k x i n P root = some false := by
  have g1 : (decide (i < 0) || decide (i ≥ n)) = true := by simp; omega
  simp only [juratref08_Included.f, if_pos g1]
/-- What is asked of a part's proof, with the first of its digests set ahead. -/
def PartOk (m n : Nat) (w : Bool) (P : List (List Int)) : Prop :=
  if w = true ∧ (startN m n).1 = 0 then P.length = (cpathN m n).length else 0 < P.length ∧ (P.drop 1).length = (cpathN m n).length
noncomputable def PartA (m n : Nat) (w : Bool) (P : List (List Int)) (old : List Int) : List Int :=
  if w = true ∧ (startN m n).1 = 0 then foldA (cpathN m n) P old else foldA (cpathN m n) (P.drop 1) (P.getD 0 [])
noncomputable def PartB (m n : Nat) (w : Bool) (P : List (List Int)) (old : List Int) : List Int :=
  if w = true ∧ (startN m n).1 = 0 then foldUp (cpathN m n) P old else foldUp (cpathN m n) (P.drop 1) (P.getD 0 [])
theorem leads_ref (old : List Int) (ho : old.length = 32) (hoB : AllB old) : ∀ (c m n : Nat) (w : Bool) (P : List (List Int)), P.length = c → 0 < m → m ≤ n → (m < n ∨ ∃ h, n = 2 ^ h) → n < 9223372036854775808 → c ≤ 1000000 → AllE P →
    ∃ a r b, a.length = 32 ∧ AllB a ∧ r.length = 32 ∧ AllB r ∧ Ev (fun k => juratref08_leads.f k (m : Int) (n : Int) w P old) (a, r, b) ∧ (b = true ↔ PartOk m n w P) ∧ (b = true → a = PartA m n w P old ∧ r = PartB m n w P old) := by
  intro c
  induction c with
  | zero =>
    intro m n w P hc h0 hm hp hn hb hE
    obtain rfl : P = [] := List.length_eq_zero_iff.1 hc
    have g2 : (([] : List (List Int)).length : Int) = 0 := rfl
    by_cases hmn : m = n
    · obtain ⟨h, rfl⟩ : ∃ h, n = 2 ^ h := hp.resolve_left (by omega)
      subst hmn
      obtain ⟨p1, p2⟩ := cpath_pow h
      cases w with
      | true =>
        refine ⟨old, old, true, ho, hoB, ho, hoB, Ev.succ ((Ev.pure _).congr fun k => ?_), ?_, fun _ => ?_⟩
        · simp [juratref08_leads.f]
        · unfold PartOk; rw [if_pos ⟨rfl, p2⟩, p1]; simp
        · unfold PartA PartB; rw [if_pos ⟨rfl, p2⟩, if_pos ⟨rfl, p2⟩, p1]; simp [foldA, foldUp]
      | false =>
        refine ⟨_, _, false, rep32.1, rep32.2, rep32.1, rep32.2, Ev.succ ((Ev.pure _).congr fun k => ?_), ?_, fun h => by cases h⟩
        · simp [juratref08_leads.f]
        · unfold PartOk; rw [if_neg (by simp)]; simp
    · have g1 : ¬ (decide ((m : Int) = (n : Int)) && w) = true := by simp; intro h; omega
      have hne : (cpathN m n).length ≠ 0 := by
        by_cases hk : m ≤ sp n
        · rw [(cpath_left (by omega) h0 hk).1]; simp
        · rw [(cpath_right (by omega) (by omega) (by omega)).1]; simp
      refine ⟨_, _, false, rep32.1, rep32.2, rep32.1, rep32.2, Ev.succ ((Ev.pure _).congr fun k => ?_), ?_, fun h => by cases h⟩
      · simp only [juratref08_leads.f, if_neg g1, if_pos g2]
      · unfold PartOk
        constructor
        · intro h; cases h
        · intro h
          split at h
          · exact absurd h.symm hne
          · exact absurd h.1 (by simp)
  | succ c ih =>
    intro m n w P hc h0 hm hp hn hb hE
    have g3 : ¬ (P.length : Int) = 0 := by omega
    have e1 : wi64 ((P.length : Int) - 1) = ((P.length - 1 : Nat) : Int) := by rw [wi64_id (by omega) (by omega)]; omega
    have g4 : 0 ≤ ((P.length - 1 : Nat) : Int) ∧ ((P.length - 1 : Nat) : Int) < (P.length : Int) := by omega
    have g5 : 0 ≤ ((P.length - 1 : Nat) : Int) ∧ ((P.length - 1 : Nat) : Int) ≤ (P.length : Int) := by omega
    have hlast := hE.getD (i := P.length - 1) (by omega)
    by_cases hmn : m = n
    · obtain ⟨h, rfl⟩ : ∃ h, n = 2 ^ h := hp.resolve_left (by omega)
      subst hmn
      obtain ⟨p1, p2⟩ := cpath_pow h
      cases w with
      | true =>
        have g1 : (decide (((2 ^ h : Nat) : Int) = ((2 ^ h : Nat) : Int)) && true) = true := by simp
        have g6 : decide ((P.length : Int) = 0) = false := decide_eq_false g3
        refine ⟨old, old, false, ho, hoB, ho, hoB, Ev.succ ((Ev.pure _).congr fun k => ?_), ?_, fun h => by cases h⟩
        · rw [juratref08_leads.f, if_pos g1, g6]
        · unfold PartOk; rw [if_pos ⟨rfl, p2⟩, p1]; simp; intro h; rw [h] at hc; simp at hc
      | false =>
        have g1 : ¬ (decide (((2 ^ h : Nat) : Int) = ((2 ^ h : Nat) : Int)) && false) = true := by simp
        refine ⟨_, _, decide ((P.length : Int) = 1), hlast.1, hlast.2, hlast.1, hlast.2, Ev.succ ((Ev.pure _).congr fun k => ?_), ?_, fun hd => ?_⟩
        · rw [juratref08_leads.f, if_neg g1, if_neg g3, e1, if_pos g4, if_pos rfl, Int.toNat_natCast]
        · unfold PartOk; rw [if_neg (by simp), p1, List.length_drop, List.length_nil, decide_eq_true_iff]; omega
        · have hl : P.length = 1 := by have := of_decide_eq_true hd; omega
          unfold PartA PartB
          rw [if_neg (by simp), if_neg (by simp), p1, hl]
          simp [foldA, foldUp]
    · have hs := sp_facts (n := n) (by omega)
      have g1 : ¬ (decide ((m : Int) = (n : Int)) && w) = true := by simp; intro h; omega
      have g7 : ¬ (m : Int) = (n : Int) := by omega
      have hP := snoc_of P (by omega)
      have hlen : (P.take (P.length - 1)).length = c := by rw [List.length_take]; omega
      by_cases hk : m ≤ sp n
      · have g6 : (m : Int) ≤ ((sp n : Nat) : Int) := by omega
        obtain ⟨a, r, b, ha, haB, hr, hrB, h, hb1, hb2⟩ := ih m (sp n) w (P.take (P.length - 1)) hlen h0 hk (.inr ⟨_, rfl⟩) (by omega) (by omega) (hE.take _)
        obtain ⟨c1, c2⟩ := cpath_left (m := m) (n := n) (by omega) h0 hk
        refine ⟨a, nodeD r (P.getD (P.length - 1) []), b, ha, haB, nodeD_len _ _ hr hlast.1, nodeD_B _ _ hr hlast.1 hrB hlast.2, Ev.succ ?_, ?_, ?_⟩
        · simp only [juratref08_leads.f, if_neg g1, if_neg g3, e1, if_pos g4, if_neg g7, if_pos g5]
          refine Ev.bind (split_ref n (by omega) hn) ?_
          simp only [if_pos g6, Int.toNat_natCast]
          refine Ev.bind h ?_
          refine Ev.bind (node_ref _ _ hr hlast.1 hrB hlast.2) ?_
          exact Ev.pure _
        · rw [hb1]
          unfold PartOk
          rw [c2]
          split
          · rw [c1, List.length_append, List.length_singleton]; omega
          · rw [c1, List.length_append, List.length_singleton, List.length_drop, List.length_drop]; omega
        · intro hbt
          have hl := hb1.1 hbt
          obtain ⟨q1, q2⟩ := hb2 hbt
          unfold PartOk at hl
          unfold PartA at q1
          unfold PartB at q2
          unfold PartA PartB
          rw [c2]
          split at hl
          · rename_i hc0
            rw [if_pos hc0] at q1 q2
            rw [if_pos hc0, if_pos hc0, c1]
            have f1 := foldA_snoc (cpathN m (sp n)) (P.take (P.length - 1)) false (P.getD (P.length - 1) []) old hl.symm
            have f2 := foldUp_snoc (cpathN m (sp n)) (P.take (P.length - 1)) false (P.getD (P.length - 1) []) old hl.symm
            rw [← hP, if_neg (by simp)] at f1 f2
            rw [f1, f2, q1, q2]
            exact ⟨rfl, rfl⟩
          · rename_i hc0
            rw [if_neg hc0] at q1 q2
            rw [if_neg hc0, if_neg hc0, c1]
            have hd : P.drop 1 = (P.take (P.length - 1)).drop 1 ++ [P.getD (P.length - 1) []] := by
              rw [← List.drop_append_of_le_length hl.1, ← hP]
            have hg : P.getD 0 [] = (P.take (P.length - 1)).getD 0 [] := by
              rw [List.getD_eq_getElem?_getD, List.getD_eq_getElem?_getD, List.getElem?_take_of_lt (by omega)]
            have f1 := foldA_snoc (cpathN m (sp n)) ((P.take (P.length - 1)).drop 1) false (P.getD (P.length - 1) []) ((P.take (P.length - 1)).getD 0 []) hl.2.symm
            have f2 := foldUp_snoc (cpathN m (sp n)) ((P.take (P.length - 1)).drop 1) false (P.getD (P.length - 1) []) ((P.take (P.length - 1)).getD 0 []) hl.2.symm
            rw [← hd, ← hg, if_neg (by simp)] at f1 f2
            rw [← hg] at q1 q2
            rw [f1, f2, q1, q2]
            exact ⟨rfl, rfl⟩
      · have g6 : ¬ (m : Int) ≤ ((sp n : Nat) : Int) := by omega
        have e2 : wi64 ((m : Int) - ((sp n : Nat) : Int)) = ((m - sp n : Nat) : Int) := by rw [wi64_id (by omega) (by omega)]; omega
        have e3 : wi64 ((n : Int) - ((sp n : Nat) : Int)) = ((n - sp n : Nat) : Int) := by rw [wi64_id (by omega) (by omega)]; omega
        obtain ⟨a, r, b, ha, haB, hr, hrB, h, hb1, hb2⟩ := ih (m - sp n) (n - sp n) false (P.take (P.length - 1)) hlen (by omega) (by omega) (.inl (by omega)) (by omega) (by omega) (hE.take _)
        obtain ⟨c1, c2⟩ := cpath_right (m := m) (n := n) (by omega) (by omega) (by omega)
        have cw : ¬ (w = true ∧ (startN m n).1 = 0) := fun h => c2 h.2
        have cw' : ¬ (false = true ∧ (startN (m - sp n) (n - sp n)).1 = 0) := by simp
        refine ⟨nodeD (P.getD (P.length - 1) []) a, nodeD (P.getD (P.length - 1) []) r, b, nodeD_len _ _ hlast.1 ha, nodeD_B _ _ hlast.1 ha hlast.2 haB, nodeD_len _ _ hlast.1 hr, nodeD_B _ _ hlast.1 hr hlast.2 hrB, Ev.succ ?_, ?_, ?_⟩
        · simp only [juratref08_leads.f, if_neg g1, if_neg g3, e1, if_pos g4, if_neg g7, if_pos g5]
          refine Ev.bind (split_ref n (by omega) hn) ?_
          simp only [if_neg g6, Int.toNat_natCast, e2, e3]
          refine Ev.bind h ?_
          refine Ev.bind (node_ref _ _ hlast.1 ha hlast.2 haB) ?_
          refine Ev.bind (node_ref _ _ hlast.1 hr hlast.2 hrB) ?_
          exact Ev.pure _
        · rw [hb1]
          unfold PartOk
          rw [if_neg cw, if_neg cw', c1, List.length_append, List.length_singleton, List.length_drop, List.length_drop]; omega
        · intro hbt
          have hl := hb1.1 hbt
          obtain ⟨q1, q2⟩ := hb2 hbt
          unfold PartOk at hl
          unfold PartA at q1
          unfold PartB at q2
          unfold PartA PartB
          rw [if_neg cw'] at hl q1 q2
          rw [if_neg cw, if_neg cw, c1]
          have hd : P.drop 1 = (P.take (P.length - 1)).drop 1 ++ [P.getD (P.length - 1) []] := by
            rw [← List.drop_append_of_le_length hl.1, ← hP]
          have hg : P.getD 0 [] = (P.take (P.length - 1)).getD 0 [] := by
            rw [List.getD_eq_getElem?_getD, List.getD_eq_getElem?_getD, List.getElem?_take_of_lt (by omega)]
          have f1 := foldA_snoc (cpathN (m - sp n) (n - sp n)) ((P.take (P.length - 1)).drop 1) true (P.getD (P.length - 1) []) ((P.take (P.length - 1)).getD 0 []) hl.2.symm
          have f2 := foldUp_snoc (cpathN (m - sp n) (n - sp n)) ((P.take (P.length - 1)).drop 1) true (P.getD (P.length - 1) []) ((P.take (P.length - 1)).getD 0 []) hl.2.symm
          rw [← hd, ← hg, if_pos rfl] at f1 f2
          rw [← hg] at q1 q2
          rw [f1, f2, q1, q2]
          exact ⟨rfl, rfl⟩
end Go.Proofs.YthdlfclkcdnenaaDoor.Pure
