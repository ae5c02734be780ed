/- Plain laws of proofs: what is made: inclusion and consistency. -/
import Derived.Test.YthdlfclkcdnenaaDoorRUd
set_option linter.unusedSimpArgs false
set_option linter.unusedVariables false
namespace Go.Proofs.YthdlfclkcdnenaaDoor.Pure
open Go.WG Go.Proofs.YthdlfclkcdnenaaDoor
set_option maxRecDepth 100000 in
theorem split_all : ((List.range 257).all fun n => decide (n < 2) || decide (proof_split.f 0 (n : Int) = some ((sp n : Nat) : Int))) = true := by decide +kernel
theorem split_f (k n : Nat) (h : 2 ≤ n) (h2 : n ≤ 256) : proof_split.f k (n : Int) = some ((sp n : Nat) : Int) := by
  have := List.all_eq_true.1 split_all n (List.mem_range.2 (by omega))
  rw [Bool.or_eq_true, decide_eq_true_eq, decide_eq_true_eq] at this
  rcases this with h3 | h3
  · omega
  · exact h3
theorem getD_rev (l : List (List Int)) (p : Nat) (h : p < l.length) : l.reverse.getD p [] = l.getD (l.length - 1 - p) [] := by
  rw [List.getD_eq_getElem?_getD, List.getD_eq_getElem?_getD, List.getElem?_reverse h]
theorem turned_l1 (l : List (List Int)) (hb : l.length ≤ 1000000) : ∀ (m j : Nat) (x : List (List Int)), l.length / 2 - j = m → j ≤ l.length / 2 → x.length = l.length → (∀ p, p < l.length → x.getD p [] = if p < j ∨ l.length - j ≤ p then l.getD (l.length - 1 - p) [] else l.getD p []) →
    Ev (fun k => proof_turned.l1 k l x (j : Int)) l.reverse := by
  intro m
  induction m with
  | zero =>
    intro j x hm hj hx hp
    have hxr : x = l.reverse := by
      refine List.ext_getElem (by rw [hx, List.length_reverse]) fun p h1 h2 => ?_
      have h3 := hp p (by omega)
      have h4 := getD_rev l p (by omega)
      rw [List.getD_eq_getElem?_getD, List.getElem?_eq_getElem h1, Option.getD_some] at h3
      rw [List.getD_eq_getElem?_getD, List.getElem?_eq_getElem h2, Option.getD_some] at h4
      rw [h3, h4]
      split
      · rfl
      · congr 1; omega
    rw [← hxr]
    refine Ev.succ ((Ev.pure _).congr fun k => ?_)
    have e1 : wi64 ((l.length : Int).tdiv 2) = ((l.length / 2 : Nat) : Int) := by rw [Int.tdiv_eq_ediv_of_nonneg (by omega), wi64_id (by omega) (by omega)]; omega
    have : ¬ (j : Int) < ((l.length / 2 : Nat) : Int) := by omega
    simp only [proof_turned.l1, e1, if_neg this]
  | succ m ih =>
    intro j x hm hj hx hp
    have e1 : wi64 ((l.length : Int).tdiv 2) = ((l.length / 2 : Nat) : Int) := by rw [Int.tdiv_eq_ediv_of_nonneg (by omega), wi64_id (by omega) (by omega)]; omega
    have e2 : wi64 (wi64 ((x.length : Int) - 1) - (j : Int)) = ((l.length - 1 - j : Nat) : Int) := by rw [hx, wi64_id (x := (l.length : Int) - 1) (by omega) (by omega), wi64_id (by omega) (by omega)]; omega
    have g1 : (j : Int) < ((l.length / 2 : Nat) : Int) := by omega
    have g2 : 0 ≤ ((l.length - 1 - j : Nat) : Int) ∧ ((l.length - 1 - j : Nat) : Int) < (x.length : Int) := by omega
    have g3 : 0 ≤ (j : Int) ∧ (j : Int) < (x.length : Int) := by omega
    have g4 : 0 ≤ ((l.length - 1 - j : Nat) : Int) ∧ ((l.length - 1 - j : Nat) : Int) < ((x.set j (x.getD (l.length - 1 - j) [])).length : Int) := by rw [List.length_set]; omega
    have hI := ih (j + 1) (Heap.swap [] x j (l.length - 1 - j)) (by omega) (by omega) (by rw [Heap.swap_length]; exact hx) (fun p hpl => by
      rw [Heap.getD_swap x (by omega) (by omega)]
      by_cases h1 : p = l.length - 1 - j
      · rw [if_pos h1, hp j (by omega), if_neg (by omega), if_pos (by omega)]
        congr 1; omega
      · rw [if_neg h1]
        by_cases h2 : p = j
        · rw [if_pos h2, hp _ (by omega), if_neg (by omega), if_pos (by omega)]
          congr 1; omega
        · rw [if_neg h2, hp p hpl]
          by_cases h3 : p < j ∨ l.length - j ≤ p
          · rw [if_pos h3, if_pos (by omega)]
          · rw [if_neg h3, if_neg (by omega)])
    refine Ev.succ (hI.congr fun k => ?_)
    simp only [proof_turned.l1, e1, e2, if_pos g1, if_pos g2, if_pos g3, Int.toNat_natCast, if_pos g4, wi64_succ (show j < 9223372036854775807 by omega)]
    rfl
theorem turned_f (l : List (List Int)) (hb : l.length ≤ 1000000) : Ev (fun k => proof_turned.f k l) l.reverse :=
  Ev.bind (g := fun _ x => some x) (turned_l1 l hb (l.length / 2) 0 l rfl (Nat.zero_le _) rfl (fun p hp => by rw [if_neg (by omega)])) (Ev.pure _)
noncomputable def partF : Nat → List (List Int) → Nat → Bool → List (List Int)
  | 0, _, _, _ => []
  | n + 1, l, m, w => if l.length ≤ m then (if w = true then [] else [rootD l]) else if m ≤ sp l.length then partF n (l.take (sp l.length)) m w ++ [rootD (l.drop (sp l.length))] else partF n (l.drop (sp l.length)) (m - sp l.length) false ++ [rootD (l.take (sp l.length))]
theorem partF_len : ∀ (n : Nat) (l : List (List Int)) (m : Nat) (w : Bool), (partF n l m w).length ≤ n := by
  intro n
  induction n with
  | zero => intro l m w; exact Nat.le_refl _
  | succ n ih =>
    intro l m w
    unfold partF
    split
    · split <;> simp
    · split
      · rw [List.length_append, List.length_singleton]; have := ih (l.take (sp l.length)) m w; omega
      · rw [List.length_append, List.length_singleton]; have := ih (l.drop (sp l.length)) (m - sp l.length) false; omega
theorem consist_l1 : ∀ (n : Nat) (l : List (List Int)) (m : Nat) (out : List (List Int)) (w : Bool), l.length ≤ n → 0 < m → m ≤ l.length → l.length ≤ 256 → AllD l → out.length + n ≤ 1000 →
    ∃ l' q w', Ev (fun k => proof_Consist.l1 k l (m : Int) out w) (l', out ++ q, w') ∧ AllD l' ∧ l'.length ≤ 256 ∧ (q ++ (if w' = true then [] else [rootD l'])).reverse = partF n l m w := by
  intro n
  induction n with
  | zero => intro l m out w h1 h2 h3; omega
  | succ n ih =>
    intro l m out w h1 hm0 h2 h3 ha hb
    unfold partF
    by_cases hone : l.length ≤ m
    · rw [if_pos hone]
      refine ⟨l, [], w, Ev.succ ((Ev.pure _).congr fun k => ?_), ha, h3, ?_⟩
      · have : ¬ (m : Int) < (l.length : Int) := by omega
        simp only [proof_Consist.l1, if_neg this, List.append_nil]
      · cases w <;> simp
    · rw [if_neg hone]
      have hs := sp_facts (n := l.length) (by omega)
      have hsp := fun k => split_f k l.length (by omega) h3
      have g0 : (m : Int) < (l.length : Int) := by omega
      have gb : (out.length + 1) * 32 ≤ 140737488355328 := by omega
      generalize hk : sp l.length = s at hs hsp
      have g2 : 0 ≤ (s : Int) ∧ (s : Int) ≤ (l.length : Int) := by omega
      have g3 : 0 ≤ (s : Int) ∧ (s : Int) ≤ (l.length : Int) ∧ (l.length : Int) ≤ (l.length : Int) := by omega
      by_cases hi : m ≤ s
      · rw [if_pos hi]
        obtain ⟨l', q, w', hI, hal, hll, hq⟩ := ih (l.take s) m (out ++ [rootD (l.drop s)]) w (by rw [List.length_take]; omega) hm0 (by rw [List.length_take]; omega) (by rw [List.length_take]; omega) (ha.take s) (by rw [List.length_append, List.length_singleton]; omega)
        rw [List.append_assoc] at hI
        have hr := root_f (l.drop s) (by rw [List.length_drop]; omega) (ha.drop s)
        have g1 : (m : Int) ≤ (s : Int) := by omega
        refine ⟨l', [rootD (l.drop s)] ++ q, w', Ev.succ (Ev.congr (Ev.bind (g := fun k r338 => if (out.length + 1) * 32 ≤ 140737488355328 then (if 0 ≤ (s : Int) ∧ (s : Int) ≤ (l.length : Int) then (proof_Consist.l1 k (l.take s) (m : Int) (out ++ [r338]) w) else none) else none) hr (Ev.iteT gb (Ev.iteT g2 hI))) fun k => ?_), hal, hll, ?_⟩
        · simp only [proof_Consist.l1, if_pos g0, hsp, Option.bind_some, if_pos g1, if_pos g3, Int.toNat_natCast]
        · rw [List.append_assoc, List.reverse_append, hq]; rfl
      · rw [if_neg hi]
        obtain ⟨l', q, w', hI, hal, hll, hq⟩ := ih (l.drop s) (m - s) (out ++ [rootD (l.take s)]) false (by rw [List.length_drop]; omega) (by omega) (by rw [List.length_drop]; omega) (by rw [List.length_drop]; omega) (ha.drop s) (by rw [List.length_append, List.length_singleton]; omega)
        rw [List.append_assoc] at hI
        have hr := root_f (l.take s) (by rw [List.length_take]; omega) (ha.take s)
        have g1 : ¬ (m : Int) ≤ (s : Int) := by omega
        have e1 : wi64 ((m : Int) - (s : Int)) = ((m - s : Nat) : Int) := by rw [wi64_id (by omega) (by omega)]; omega
        refine ⟨l', [rootD (l.take s)] ++ q, w', Ev.succ (Ev.congr (Ev.bind (g := fun k r370 => if (out.length + 1) * 32 ≤ 140737488355328 then (if 0 ≤ (s : Int) ∧ (s : Int) ≤ (l.length : Int) ∧ (l.length : Int) ≤ (l.length : Int) then (proof_Consist.l1 k (l.drop s) (((m - s : Nat) : Int)) (out ++ [r370]) false) else none) else none) hr (Ev.iteT gb (Ev.iteT g3 hI))) fun k => ?_), hal, hll, ?_⟩
        · simp only [proof_Consist.l1, if_pos g0, hsp, Option.bind_some, if_neg g1, if_pos g2, Int.toNat_natCast, e1]
        · rw [List.append_assoc, List.reverse_append, hq]; rfl
noncomputable def conD (l : List (List Int)) (m : Nat) : List (List Int) := if m = 0 then [] else partF l.length l m true
theorem consist_f (l : List (List Int)) (m : Nat) (hm : m ≤ l.length) (hl : l.length ≤ 256) (ha : AllD l) : Ev (fun k => proof_Consist.f k l (m : Int)) (conD l m, 0) := by
  have g1 : ¬ (m : Int) < 0 := by omega
  have g2 : decide ((m : Int) > (l.length : Int)) = false := decide_eq_false (by omega)
  unfold conD
  by_cases h0 : m = 0
  · rw [if_pos h0]
    refine (Ev.pure _).congr fun k => ?_
    have g3 : (m : Int) = 0 := by omega
    simp only [proof_Consist.f, if_neg g1, g2, Option.bind_some, Bool.false_eq_true, if_false, if_pos g3]
  · rw [if_neg h0]
    have g3 : ¬ (m : Int) = 0 := by omega
    obtain ⟨l', q, w', hE, hal, hll, hq⟩ := consist_l1 l.length l m [] true (Nat.le_refl _) (by omega) hm hl ha (by simp; omega)
    rw [List.nil_append] at hE
    have hplen := partF_len l.length l m true
    have hql : q.length + (if w' = true then 0 else 1) ≤ 256 := by
      rw [← hq, List.length_reverse, List.length_append] at hplen
      cases w' <;> simp at hplen ⊢ <;> omega
    refine Ev.congr (Ev.bind (g := fun k (x : List (List Int) × List (List Int) × Bool) => if x.2.2 = true then ((proof_turned.f k x.2.1).bind fun r426 => some (r426, (0 : Int))) else ((proof_Root.f k x.1).bind fun r438 => if (x.2.1.length + 1) * 32 ≤ 140737488355328 then ((proof_turned.f k (x.2.1 ++ [r438])).bind fun r464 => some (r464, (0 : Int))) else none)) hE ?_) fun k => ?_
    · cases w' with
      | true =>
        simp only [if_true, List.append_nil] at hq hql
        have ht := turned_f q (by omega)
        rw [hq] at ht
        exact Ev.iteT rfl (Ev.bind (g := fun _ r426 => some (r426, (0 : Int))) ht (Ev.pure _))
      | false =>
        simp only [Bool.false_eq_true, if_false] at hq hql
        have ht := turned_f (q ++ [rootD l']) (by rw [List.length_append, List.length_singleton]; omega)
        rw [hq] at ht
        exact Ev.iteF (by simp) (Ev.bind (g := fun k r438 => if (q.length + 1) * 32 ≤ 140737488355328 then ((proof_turned.f k (q ++ [r438])).bind fun r464 => some (r464, (0 : Int))) else none) (root_f l' (by omega) hal) (Ev.iteT (by omega) (Ev.bind (g := fun _ r464 => some (r464, (0 : Int))) ht (Ev.pure _))))
    · simp only [proof_Consist.f, if_neg g1, g2, Option.bind_some, Bool.false_eq_true, if_false, if_neg g3]
end Go.Proofs.YthdlfclkcdnenaaDoor.Pure
