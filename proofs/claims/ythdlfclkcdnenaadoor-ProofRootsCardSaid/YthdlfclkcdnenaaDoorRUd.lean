/- Plain laws of proofs: roots of lists. -/
import Derived.Test.YthdlfclkcdnenaaDoorRUb
set_option linter.unusedSimpArgs false
set_option linter.unusedVariables false
namespace Go.Proofs.YthdlfclkcdnenaaDoor.Pure
open Go.WG Go.Proofs.YthdlfclkcdnenaaDoor
theorem and64 (m n : Int) : bitsOp .and .i64 m n = wi64 ((BitVec.ofInt 64 m &&& BitVec.ofInt 64 n).toNat : Int) := rfl
theorem and_one {n : Nat} (h : n < 9223372036854775808) : bitsOp .and .i64 (n : Int) 1 = ((n % 2 : Nat) : Int) := by
  have e1 : (BitVec.ofInt 64 (n : Int)) = BitVec.ofNat 64 n := BitVec.ofInt_natCast ..
  have e2 : (BitVec.ofInt 64 (1 : Int)) = BitVec.ofNat 64 1 := BitVec.ofInt_natCast 64 1
  have e3 : (BitVec.ofNat 64 n &&& BitVec.ofNat 64 1).toNat = n % 2 := by
    rw [BitVec.toNat_and, BitVec.toNat_ofNat, BitVec.toNat_ofNat, Nat.mod_eq_of_lt (show n < 2 ^ 64 by omega), Nat.mod_eq_of_lt (show 1 < 2 ^ 64 by decide), Nat.and_one_is_mod]
  rw [and64, e1, e2, e3]
  exact wi64_id (by omega) (by omega)
theorem shr_one (n : Nat) : shrOp .i64 (n : Int) 1 = ((n / 2 : Nat) : Int) := by
  unfold shrOp
  rw [show (2 : Int) ^ (min (1 : Int).toNat (IntKind.bits .i64)) = 2 from by decide, Int.fdiv_eq_ediv_of_nonneg _ (by omega)]
  omega
/-- All are digests. -/
def AllD (l : List (List Int)) : Prop := ∀ d ∈ l, d.length = 32
theorem AllD.take {l : List (List Int)} (h : AllD l) (n : Nat) : AllD (l.take n) := fun d hd => h d (List.mem_of_mem_take hd)
theorem AllD.drop {l : List (List Int)} (h : AllD l) (n : Nat) : AllD (l.drop n) := fun d hd => h d (List.mem_of_mem_drop hd)
theorem AllD.append {l m : List (List Int)} (h : AllD l) (k : AllD m) : AllD (l ++ m) := fun d hd => (List.mem_append.1 hd).elim (h d) (k d)
theorem AllD.one {d : List Int} (h : d.length = 32) : AllD [d] := fun x hx => by rw [List.mem_singleton.1 hx]; exact h
/-- The greatest power of two below n; up to n. -/
def sp (n : Nat) : Nat := 2 ^ Nat.log2 (n - 1)
def up2 (n : Nat) : Nat := 2 ^ Nat.log2 n
theorem up2_facts {n : Nat} (h : 0 < n) : 0 < up2 n ∧ up2 n ≤ n ∧ n < 2 * up2 n := by
  refine ⟨Nat.two_pow_pos _, Nat.log2_self_le (by omega), ?_⟩
  have := Nat.lt_log2_self (n := n)
  rw [Nat.pow_succ] at this
  unfold up2; omega
theorem sp_facts {n : Nat} (h : 2 ≤ n) : 0 < sp n ∧ sp n < n ∧ n ≤ 2 * sp n := by
  have := up2_facts (n := n - 1) (by omega)
  unfold sp; unfold up2 at this; omega
theorem log2_unique {n a : Nat} (h1 : 2 ^ a ≤ n) (h2 : n < 2 ^ (a + 1)) : Nat.log2 n = a := by
  have hn : n ≠ 0 := by have := Nat.two_pow_pos a; omega
  have h3 : 2 ^ Nat.log2 n ≤ n := Nat.log2_self_le hn
  have h4 : n < 2 ^ (Nat.log2 n + 1) := Nat.lt_log2_self
  have a1 : a < Nat.log2 n + 1 := (Nat.pow_lt_pow_iff_right (by decide : 1 < 2)).1 (Nat.lt_of_le_of_lt h1 h4)
  have a2 : Nat.log2 n < a + 1 := (Nat.pow_lt_pow_iff_right (by decide : 1 < 2)).1 (Nat.lt_of_le_of_lt h3 h2)
  omega
theorem up2_double {j : Nat} (h : 0 < j) : up2 (2 * j) = 2 * up2 j := by
  have := up2_facts h
  have e : Nat.log2 (2 * j) = Nat.log2 j + 1 := log2_unique (by rw [Nat.pow_succ]; unfold up2 at this; omega) (by rw [Nat.pow_succ, Nat.pow_succ]; unfold up2 at this; omega)
  unfold up2
  rw [e, Nat.pow_succ]; omega
theorem up2_odd {j : Nat} (h : 0 < j) : up2 (2 * j + 1) = 2 * up2 j := by
  have := up2_facts h
  have e : Nat.log2 (2 * j + 1) = Nat.log2 j + 1 := log2_unique (by rw [Nat.pow_succ]; unfold up2 at this; omega) (by rw [Nat.pow_succ, Nat.pow_succ]; unfold up2 at this; omega)
  unfold up2
  rw [e, Nat.pow_succ]; omega
theorem sp_double {j : Nat} (h : 2 ≤ j) : sp (2 * j) = 2 * sp j := by
  have e : 2 * j - 1 = 2 * (j - 1) + 1 := by omega
  show up2 (2 * j - 1) = 2 * up2 (j - 1)
  rw [e, up2_odd (by omega)]
/-- Roots of lists. -/
noncomputable def rootF : Nat → List (List Int) → List Int
  | 0, _ => []
  | n + 1, l => if l.length = 0 then shaD [] else if l.length = 1 then l.getD 0 [] else nodeD (rootF n (l.take (sp l.length))) (rootF n (l.drop (sp l.length)))
theorem rootF_fuel : ∀ (n m : Nat) (l : List (List Int)), l.length < n → l.length < m → rootF n l = rootF m l := by
  intro n
  induction n with
  | zero => intro m l h; omega
  | succ n ih =>
    intro m l h1 h2
    cases m with
    | zero => omega
    | succ m =>
      unfold rootF
      by_cases h0 : l.length = 0
      · rw [if_pos h0, if_pos h0]
      · rw [if_neg h0, if_neg h0]
        by_cases hone : l.length = 1
        · rw [if_pos hone, if_pos hone]
        · rw [if_neg hone, if_neg hone]
          have := sp_facts (n := l.length) (by omega)
          rw [ih m (l.take (sp l.length)) (by rw [List.length_take]; omega) (by rw [List.length_take]; omega), ih m (l.drop (sp l.length)) (by rw [List.length_drop]; omega) (by rw [List.length_drop]; omega)]
noncomputable def rootD (l : List (List Int)) : List Int := rootF (l.length + 1) l
theorem rootD_nil : rootD [] = shaD [] := rfl
theorem rootD_one (d : List Int) : rootD [d] = d := rfl
theorem rootD_two {l : List (List Int)} (h : 2 ≤ l.length) : rootD l = nodeD (rootD (l.take (sp l.length))) (rootD (l.drop (sp l.length))) := by
  have := sp_facts h
  show rootF (l.length + 1) l = _
  unfold rootF
  rw [if_neg (by omega), if_neg (by omega)]
  congr 1
  · exact rootF_fuel _ _ _ (by rw [List.length_take]; omega) (by omega)
  · exact rootF_fuel _ _ _ (by rw [List.length_drop]; omega) (by omega)
theorem rootD_len : ∀ (n : Nat) (l : List (List Int)), l.length = n → AllD l → (rootD l).length = 32 := by
  intro n
  induction n using Nat.strongRecOn with
  | ind n ih =>
    intro l hl ha
    by_cases h0 : l.length = 0
    · rw [List.length_eq_zero_iff.1 h0, rootD_nil]; exact shaD_len (by simp)
    · by_cases h1 : l.length = 1
      · obtain ⟨d, rfl⟩ := List.length_eq_one_iff.1 h1
        exact ha d (by simp)
      · have := sp_facts (n := l.length) (by omega)
        rw [rootD_two (by omega)]
        exact nodeD_len _ _ (ih _ (by rw [← hl]; exact this.2.1) _ (by rw [List.length_take]; omega) (ha.take _)) (ih (l.length - sp l.length) (by omega) _ (by rw [List.length_drop]) (ha.drop _))
/-- Pairs joined. -/
noncomputable def pairUp : List (List Int) → List (List Int)
  | a :: b :: r => nodeD a b :: pairUp r
  | _ => []
theorem pairUp_len : ∀ (n : Nat) (l : List (List Int)), l.length = 2 * n → (pairUp l).length = n
  | 0, l, h => by rw [List.length_eq_zero_iff.1 (by omega : l.length = 0)]; rfl
  | n + 1, [], h => by simp at h
  | n + 1, [a], h => by simp at h; omega
  | n + 1, a :: b :: r, h => by
    simp only [List.length_cons] at h
    rw [pairUp, List.length_cons, pairUp_len n r (by omega)]
theorem pairUp_all : ∀ (n : Nat) (l : List (List Int)), l.length = 2 * n → AllD l → AllD (pairUp l)
  | 0, l, h, _ => by rw [List.length_eq_zero_iff.1 (by omega : l.length = 0)]; intro d hd; exact absurd hd (by simp [pairUp])
  | n + 1, [], h, _ => by simp at h
  | n + 1, [a], h, _ => by simp at h; omega
  | n + 1, a :: b :: r, h, ha => by
    simp only [List.length_cons] at h
    intro d hd
    rw [pairUp] at hd
    rcases List.mem_cons.1 hd with rfl | hd
    · exact nodeD_len a b (ha a (by simp)) (ha b (by simp))
    · exact pairUp_all n r (by omega) (fun x hx => ha x (by simp [hx])) d hd
theorem pairUp_take : ∀ (s : Nat) (l : List (List Int)), pairUp (l.take (2 * s)) = (pairUp l).take s
  | 0, l => by simp [pairUp]
  | s + 1, [] => by simp [pairUp]
  | s + 1, [a] => by
    rw [show 2 * (s + 1) = 2 * s + 1 + 1 from by omega]
    simp [pairUp]
  | s + 1, a :: b :: r => by
    rw [show 2 * (s + 1) = 2 * s + 1 + 1 from by omega, List.take_succ_cons, List.take_succ_cons, pairUp, pairUp, List.take_succ_cons, pairUp_take s r]
theorem pairUp_drop : ∀ (s : Nat) (l : List (List Int)), pairUp (l.drop (2 * s)) = (pairUp l).drop s
  | 0, l => by simp
  | s + 1, [] => by simp [pairUp]
  | s + 1, [a] => by
    rw [show 2 * (s + 1) = 2 * s + 1 + 1 from by omega]
    simp [pairUp]
  | s + 1, a :: b :: r => by
    rw [show 2 * (s + 1) = 2 * s + 1 + 1 from by omega, List.drop_succ_cons, List.drop_succ_cons, pairUp, List.drop_succ_cons, pairUp_drop s r]
theorem pairUp_append : ∀ (n : Nat) (l m : List (List Int)), l.length = 2 * n → pairUp (l ++ m) = pairUp l ++ pairUp m
  | 0, l, m, h => by rw [List.length_eq_zero_iff.1 (by omega : l.length = 0)]; rfl
  | n + 1, [], m, h => by simp at h
  | n + 1, [a], m, h => by simp at h; omega
  | n + 1, a :: b :: r, m, h => by
    simp only [List.length_cons] at h
    show nodeD a b :: pairUp (r ++ m) = nodeD a b :: (pairUp r ++ pairUp m)
    rw [pairUp_append n r m (by omega)]
theorem root_pair : ∀ (j : Nat) (l : List (List Int)), 0 < j → l.length = 2 * j → rootD (pairUp l) = rootD l := by
  intro j
  induction j using Nat.strongRecOn with
  | ind j ih =>
    intro l hj hl
    have hp := pairUp_len j l hl
    by_cases h1 : j = 1
    · subst h1
      match l, hl with
      | [a, b], _ => rfl
    · have hf := sp_facts (n := j) (by omega)
      have hd := sp_double (j := j) (by omega)
      rw [rootD_two (l := l) (by omega), rootD_two (l := pairUp l) (by omega), hp, hl, hd, ← pairUp_take, ← pairUp_drop]
      rw [ih (sp j) hf.2.1 (l.take (2 * sp j)) hf.1 (by rw [List.length_take]; omega), ih (j - sp j) (by omega) (l.drop (2 * sp j)) (by omega) (by rw [List.length_drop]; omega)]
/-- The roots of a list's whole parts, the greatest first. -/
noncomputable def stkF : Nat → List (List Int) → List (List Int)
  | 0, _ => []
  | n + 1, l => if l.length = 0 then [] else rootD (l.take (up2 l.length)) :: stkF n (l.drop (up2 l.length))
theorem stkF_fuel : ∀ (n m : Nat) (l : List (List Int)), l.length < n → l.length < m → stkF n l = stkF m l := by
  intro n
  induction n with
  | zero => intro m l h; omega
  | succ n ih =>
    intro m l h1 h2
    cases m with
    | zero => omega
    | succ m =>
      unfold stkF
      by_cases h0 : l.length = 0
      · rw [if_pos h0, if_pos h0]
      · rw [if_neg h0, if_neg h0]
        have := up2_facts (n := l.length) (by omega)
        rw [ih m (l.drop (up2 l.length)) (by rw [List.length_drop]; omega) (by rw [List.length_drop]; omega)]
noncomputable def stkD (l : List (List Int)) : List (List Int) := stkF (l.length + 1) l
theorem stkD_nil : stkD [] = [] := rfl
theorem stkD_pos {l : List (List Int)} (h : 0 < l.length) : stkD l = rootD (l.take (up2 l.length)) :: stkD (l.drop (up2 l.length)) := by
  have := up2_facts h
  show stkF (l.length + 1) l = _
  unfold stkF
  rw [if_neg (by omega)]
  congr 1
  exact stkF_fuel _ _ _ (by rw [List.length_drop]; omega) (by omega)
theorem stk_len : ∀ (n : Nat) (l : List (List Int)), l.length = n → (stkD l).length ≤ l.length ∧ (0 < l.length → 0 < (stkD l).length) := by
  intro n
  induction n using Nat.strongRecOn with
  | ind n ih =>
    intro l hl
    by_cases h0 : l.length = 0
    · rw [List.length_eq_zero_iff.1 h0, stkD_nil]; simp
    · have hf := up2_facts (n := l.length) (by omega)
      have h2 := ih (l.length - up2 l.length) (by omega) (l.drop (up2 l.length)) (by rw [List.length_drop])
      rw [stkD_pos (by omega), List.length_cons]
      rw [List.length_drop] at h2
      omega
theorem stk_all : ∀ (n : Nat) (l : List (List Int)), l.length = n → AllD l → AllD (stkD l) := by
  intro n
  induction n using Nat.strongRecOn with
  | ind n ih =>
    intro l hl ha
    by_cases h0 : l.length = 0
    · rw [List.length_eq_zero_iff.1 h0, stkD_nil]; intro d hd; exact absurd hd (by simp)
    · have hf := up2_facts (n := l.length) (by omega)
      rw [stkD_pos (by omega)]
      intro d hd
      rcases List.mem_cons.1 hd with rfl | hd
      · exact rootD_len _ _ rfl (ha.take _)
      · exact ih (l.length - up2 l.length) (by omega) _ (by rw [List.length_drop]) (ha.drop _) d hd
theorem stk_pair : ∀ (j : Nat) (l : List (List Int)), l.length = 2 * j → stkD (pairUp l) = stkD l := by
  intro j
  induction j using Nat.strongRecOn with
  | ind j ih =>
    intro l hl
    have hp := pairUp_len j l hl
    by_cases h0 : j = 0
    · subst h0; rw [List.length_eq_zero_iff.1 (by omega : l.length = 0)]; rfl
    · have hf := up2_facts (n := j) (by omega)
      have hd := up2_double (j := j) (by omega)
      rw [stkD_pos (l := l) (by omega), stkD_pos (l := pairUp l) (by omega), hp, hl, hd, ← pairUp_take, ← pairUp_drop]
      rw [root_pair (up2 j) (l.take (2 * up2 j)) hf.1 (by rw [List.length_take]; omega), ih (j - up2 j) (by omega) (l.drop (2 * up2 j)) (by rw [List.length_drop]; omega)]
theorem stk_snoc : ∀ (j : Nat) (l : List (List Int)) (d : List Int), l.length = 2 * j → stkD (l ++ [d]) = stkD l ++ [d] := by
  intro j
  induction j using Nat.strongRecOn with
  | ind j ih =>
    intro l d hl
    by_cases h0 : j = 0
    · subst h0; rw [List.length_eq_zero_iff.1 (by omega : l.length = 0)]; rfl
    · have hf := up2_facts (n := j) (by omega)
      have hd := up2_double (j := j) (by omega)
      have ho := up2_odd (j := j) (by omega)
      have e : (l ++ [d]).length = 2 * j + 1 := by rw [List.length_append, List.length_singleton, hl]
      rw [stkD_pos (l := l) (by omega), stkD_pos (l := l ++ [d]) (by omega), e, ho, hl, hd, List.take_append_of_le_length (by omega), List.drop_append_of_le_length (by omega), ih (j - up2 j) (by omega) (l.drop (2 * up2 j)) d (by rw [List.length_drop]; omega)]
      rfl
/-- A stack's root. -/
noncomputable def foldR : List (List Int) → List Int
  | [] => []
  | [d] => d
  | d :: r => nodeD d (foldR r)
theorem foldR_cons {d : List Int} {r : List (List Int)} (h : r ≠ []) : foldR (d :: r) = nodeD d (foldR r) := by
  cases r with
  | nil => exact absurd rfl h
  | cons a r => rfl
theorem fold_stk : ∀ (n : Nat) (l : List (List Int)), l.length = n → 0 < n → foldR (stkD l) = rootD l := by
  intro n
  induction n using Nat.strongRecOn with
  | ind n ih =>
    intro l hl hn
    have hf := up2_facts (n := l.length) (by omega)
    rw [stkD_pos (by omega)]
    by_cases he : up2 l.length = l.length
    · rw [he, List.take_of_length_le (Nat.le_refl _), List.drop_eq_nil_of_le (Nat.le_refl _), stkD_nil]
      rfl
    · have hlt : up2 l.length < l.length := by omega
      have h2 : 2 ≤ l.length := by omega
      have hs : sp l.length = up2 l.length := by
        show 2 ^ Nat.log2 (l.length - 1) = 2 ^ Nat.log2 l.length
        congr 1
        refine log2_unique ?_ ?_
        · show up2 l.length ≤ _; omega
        · rw [Nat.pow_succ]; show _ < up2 l.length * 2; omega
      have hne : stkD (l.drop (up2 l.length)) ≠ [] := fun e => by
        have := (stk_len _ (l.drop (up2 l.length)) rfl).2 (by rw [List.length_drop]; omega)
        rw [e] at this; simp at this
      rw [foldR_cons hne, ih (l.length - up2 l.length) (by omega) _ (by rw [List.length_drop]) (by omega), rootD_two h2, hs]
theorem root_l2 : ∀ (n : Nat) (l : List (List Int)) (d : List Int), l.length = n → n ≤ 1000000000 → AllD l → d.length = 32 →
    ∃ P x, Ev (fun k => proof_Root.l2 k (stkD l) (n : Int) d) (P, x) ∧ P ++ [x] = stkD (l ++ [d]) := by
  intro n
  induction n using Nat.strongRecOn with
  | ind n ih =>
    intro l d hl hn ha hd
    have hand := and_one (show n < 9223372036854775808 by omega)
    have hshr := shr_one n
    by_cases hpar : n % 2 = 1
    · obtain ⟨j, rfl⟩ : ∃ j, n = 2 * j + 1 := ⟨n / 2, by omega⟩
      have hsplit : l = l.take (2 * j) ++ [l.getD (2 * j) []] := by
        have h1 : l.drop (2 * j) = [l.getD (2 * j) []] := by
          have hlt : 2 * j < l.length := by omega
          rw [List.getD_eq_getElem?_getD, List.getElem?_eq_getElem hlt, Option.getD_some, List.drop_eq_getElem_cons hlt, List.drop_eq_nil_of_le (by omega)]
        rw [← h1, List.take_append_drop]
      generalize hy : l.getD (2 * j) [] = y at hsplit
      generalize hl' : l.take (2 * j) = l' at hsplit
      have hll : l'.length = 2 * j := by rw [← hl', List.length_take]; omega
      have hyl : y.length = 32 := ha y (by rw [hsplit]; simp)
      have hal : AllD l' := by rw [← hl']; exact ha.take _
      have hst : stkD l = stkD l' ++ [y] := by rw [hsplit]; exact stk_snoc j l' y hll
      have hnode := node_f y d hyl hd
      obtain ⟨P, x, hE, hP⟩ := ih j (by omega) (pairUp l') (nodeD y d) (pairUp_len j l' hll) (by omega) (pairUp_all j l' hll hal) (nodeD_len y d hyl hd)
      rw [stk_pair j l' hll] at hE
      refine ⟨P, x, ?_, ?_⟩
      · have hlen := (stk_len _ l' rfl).1
        have e1 : wi64 (((stkD l' ++ [y]).length : Int) - 1) = ((stkD l').length : Int) := by rw [List.length_append, List.length_singleton, wi64_id (by omega) (by omega)]; omega
        have g1 : 0 ≤ ((stkD l').length : Int) ∧ ((stkD l').length : Int) < ((stkD l' ++ [y]).length : Int) := by rw [List.length_append, List.length_singleton]; omega
        have g2 : 0 ≤ ((stkD l').length : Int) ∧ ((stkD l').length : Int) ≤ ((stkD l' ++ [y]).length : Int) := by rw [List.length_append, List.length_singleton]; omega
        have e2 : (stkD l' ++ [y]).getD (stkD l').length [] = y := by simp [List.getD_eq_getElem?_getD]
        have e3 : (stkD l' ++ [y]).take (stkD l').length = stkD l' := by simp
        have hp1 : ((2 * j + 1) % 2 : Nat) = 1 := hpar
        have hp2 : ((2 * j + 1) / 2 : Nat) = j := by omega
        rw [hp1] at hand
        rw [hp2] at hshr
        rw [hst]
        refine Ev.succ (Ev.congr (Ev.bind (g := fun k r1653 => proof_Root.l2 k (stkD l') (j : Int) r1653) hnode hE) fun k => ?_)
        simp only [proof_Root.l2, hand, hshr, e1, if_pos g1, if_pos g2, Int.toNat_natCast, e2, e3]
        rfl
      · rw [hP, ← stk_pair (j + 1) (l ++ [d]) (by rw [List.length_append, List.length_singleton]; omega)]
        conv => rhs; rw [hsplit]
        rw [List.append_assoc, pairUp_append j l' _ hll]
        rfl
    · have h0 : n % 2 = 0 := by omega
      refine ⟨stkD l, d, Ev.succ ((Ev.pure _).congr fun k => ?_), ?_⟩
      · rw [h0] at hand
        simp only [proof_Root.l2, hand]
        rfl
      · exact (stk_snoc (n / 2) l d (by omega)).symm
theorem root_l1 (l : List (List Int)) (hb : l.length ≤ 1000000000) (ha : AllD l) : ∀ (m j : Nat), l.length - j = m → j ≤ l.length → Ev (fun k => proof_Root.l1 k l (stkD (l.take j)) (j : Int)) (stkD l) := by
  intro m
  induction m with
  | zero =>
    intro j hm hj
    rw [List.take_of_length_le (by omega)]
    refine Ev.succ ((Ev.pure _).congr fun k => ?_)
    have : ¬ (j : Int) < (l.length : Int) := by omega
    simp only [proof_Root.l1, if_neg this]
  | succ m ih =>
    intro j hm hj
    have hlt : j < l.length := by omega
    have h1 : (j : Int) < (l.length : Int) := by omega
    have h2 : 0 ≤ (j : Int) ∧ (j : Int) < (l.length : Int) := by omega
    have hg : l.getD j [] = l[j] := by rw [List.getD_eq_getElem?_getD, List.getElem?_eq_getElem hlt, Option.getD_some]
    have htk : l.take (j + 1) = l.take j ++ [l.getD j []] := by rw [List.take_succ_eq_append_getElem hlt, hg]
    obtain ⟨P, x, hE, hP⟩ := root_l2 j (l.take j) (l.getD j []) (by rw [List.length_take]; omega) (by omega) (ha.take j) (ha _ (by rw [hg]; exact List.getElem_mem hlt))
    have hI := ih (j + 1) (by omega) (by omega)
    rw [htk, ← hP] at hI
    have hlen : P.length + 1 ≤ j + 1 := by
      have := (stk_len _ (l.take j ++ [l.getD j []]) rfl).1
      rw [← hP, List.length_append, List.length_append, List.length_singleton, List.length_singleton, List.length_take] at this
      omega
    have h3 : (P.length + 1) * 32 ≤ 140737488355328 := by omega
    refine Ev.succ (Ev.congr (Ev.bind (g := fun k (y : List (List Int) × List Int) => if (y.1.length + 1) * 32 ≤ 140737488355328 then (proof_Root.l1 k l (y.1 ++ [y.2]) (wi64 ((j : Int) + 1))) else none) hE (Ev.iteT h3 (hI.congr fun k => ?_))) fun k => ?_)
    · simp only [wi64_succ (show j < 9223372036854775807 by omega)]
    · simp only [proof_Root.l1, if_pos h1, if_pos h2, Int.toNat_natCast]
theorem foldR_len : ∀ (S : List (List Int)), S ≠ [] → AllD S → (foldR S).length = 32
  | [], h, _ => absurd rfl h
  | [d], _, ha => ha d (by simp)
  | d :: a :: r, _, ha => nodeD_len _ _ (ha d (by simp)) (foldR_len (a :: r) (by simp) (fun x hx => ha x (by simp at hx ⊢; exact .inr hx)))
theorem root_l3' (S : List (List Int)) (hb : S.length ≤ 1000000000) (hS : AllD S) (hne : 0 < S.length) : ∀ (m j : Nat), S.length - 1 - j = m → j + 1 ≤ S.length → Ev (fun k => proof_Root.l3 k S (j : Int) (foldR (S.drop (S.length - 1 - j)))) (foldR S) := by
  intro m
  induction m with
  | zero =>
    intro j hm hj
    rw [hm, List.drop_zero]
    refine Ev.succ ((Ev.pure _).congr fun k => ?_)
    have e1 : wi64 ((S.length : Int) - 1) = ((S.length - 1 : Nat) : Int) := by rw [wi64_id (by omega) (by omega)]; omega
    have : ¬ (j : Int) < ((S.length - 1 : Nat) : Int) := by omega
    simp only [proof_Root.l3, e1, if_neg this]
  | succ m ih =>
    intro j hm hj
    have e1 : wi64 ((S.length : Int) - 1) = ((S.length - 1 : Nat) : Int) := by rw [wi64_id (by omega) (by omega)]; omega
    have e2 : wi64 (wi64 (((S.length - 1 : Nat) : Int) - 1) - (j : Int)) = ((S.length - 1 - (j + 1) : Nat) : Int) := by
      rw [wi64_id (x := ((S.length - 1 : Nat) : Int) - 1) (by omega) (by omega), wi64_id (by omega) (by omega)]; omega
    have g1 : (j : Int) < ((S.length - 1 : Nat) : Int) := by omega
    have g2 : 0 ≤ ((S.length - 1 - (j + 1) : Nat) : Int) ∧ ((S.length - 1 - (j + 1) : Nat) : Int) < (S.length : Int) := by omega
    generalize hp : S.length - 1 - (j + 1) = p at e2 g2
    have hpl : p < S.length := by omega
    have hd : S.drop p = S.getD p [] :: S.drop (p + 1) := by
      rw [List.getD_eq_getElem?_getD, List.getElem?_eq_getElem hpl, Option.getD_some]
      exact List.drop_eq_getElem_cons hpl
    have hne2 : S.drop (p + 1) ≠ [] := fun e => by
      have := congrArg List.length e
      rw [List.length_drop] at this
      simp at this; omega
    have hpj : S.length - 1 - j = p + 1 := by omega
    have hnode := node_f (S.getD p []) (foldR (S.drop (p + 1))) (hS _ (by rw [List.getD_eq_getElem?_getD, List.getElem?_eq_getElem hpl, Option.getD_some]; exact List.getElem_mem hpl)) (foldR_len _ hne2 (hS.drop _))
    have hI := ih (j + 1) (by omega) (by omega)
    rw [hp, hd, foldR_cons hne2] at hI
    rw [hpj]
    refine Ev.succ (Ev.congr (Ev.bind (g := fun k r1916 => proof_Root.l3 k S (wi64 ((j : Int) + 1)) r1916) hnode (hI.congr fun k => ?_)) fun k => ?_)
    · simp only [wi64_succ (show j < 9223372036854775807 by omega)]
    · simp only [proof_Root.l3, e1, e2, if_pos g1, if_pos g2, Int.toNat_natCast]
theorem root_f (l : List (List Int)) (hb : l.length ≤ 1000000000) (ha : AllD l) : Ev (fun k => proof_Root.f k l) (rootD l) := by
  by_cases h0 : l.length = 0
  · rw [List.length_eq_zero_iff.1 h0, rootD_nil]
    exact Ev.iteT rfl (Ev.bind (g := fun _ x => some x) (shaSum_f [] (by simp)) (Ev.pure _))
  · have h1 := root_l1 l hb ha l.length 0 rfl (Nat.zero_le _)
    rw [List.take_zero, stkD_nil] at h1
    have hsl := stk_len _ l rfl
    have hpos := hsl.2 (by omega)
    have h3 := root_l3' (stkD l) (by omega) (stk_all _ l rfl ha) hpos ((stkD l).length - 1) 0 (by omega) (by omega)
    rw [fold_stk _ l rfl (by omega), Nat.sub_zero] at h3
    have hlast : (stkD l).drop ((stkD l).length - 1) = [(stkD l).getD ((stkD l).length - 1) []] := by
      have hlt : (stkD l).length - 1 < (stkD l).length := by omega
      rw [List.getD_eq_getElem?_getD, List.getElem?_eq_getElem hlt, Option.getD_some, List.drop_eq_getElem_cons hlt, List.drop_eq_nil_of_le (by omega)]
    rw [hlast] at h3
    have e1 : wi64 (((stkD l).length : Int) - 1) = (((stkD l).length - 1 : Nat) : Int) := by rw [wi64_id (by omega) (by omega)]; omega
    have g1 : 0 ≤ (((stkD l).length - 1 : Nat) : Int) ∧ (((stkD l).length - 1 : Nat) : Int) < ((stkD l).length : Int) := by omega
    refine Ev.iteF (by omega) (Ev.bind (g := fun k x850 => if 0 ≤ (wi64 ((x850.length : Int) - 1)) ∧ (wi64 ((x850.length : Int) - 1)) < (x850.length : Int) then ((proof_Root.l3 k x850 0 (x850.getD (wi64 ((x850.length : Int) - 1)).toNat [])).bind fun x1811 => some x1811) else none) h1 ?_)
    simp only [e1, Int.toNat_natCast]
    exact Ev.iteT g1 (Ev.bind (g := fun _ x => some x) h3 (Ev.pure _))
end Go.Proofs.YthdlfclkcdnenaaDoor.Pure
