/- Plain laws: what holds from some fuel on; heaps in lists; sorted lists. -/
import Derived.Test.YtnlpmnegjgjiiaaGreatDoorLj
namespace Go.WG
/-- From some fuel on it answers r. -/
def Ev {α : Type} (f : Nat → Option α) (r : α) : Prop := ∃ K, ∀ k, K ≤ k → f k = some r
theorem Ev.one {α : Type} {f : Nat → Option α} {r : α} (h : Ev f r) : ∃ k, f k = some r := by
  obtain ⟨K, h⟩ := h
  exact ⟨K, h K (Nat.le_refl _)⟩
theorem Ev.pure {α : Type} (r : α) : Ev (fun _ => some r) r := ⟨0, fun _ _ => rfl⟩
theorem Ev.bind {α β : Type} {f : Nat → Option α} {g : Nat → α → Option β} {a : α} {r : β} (h : Ev f a) (k : Ev (fun n => g n a) r) : Ev (fun n => (f n).bind (g n)) r := by
  obtain ⟨K, h⟩ := h
  obtain ⟨K', k⟩ := k
  exact ⟨K + K', fun n hn => by show (f n).bind (g n) = some r; rw [h n (by omega)]; exact k n (by omega)⟩
theorem Ev.succ {α : Type} {f : Nat → Option α} {r : α} (h : Ev (fun k => f (k + 1)) r) : Ev f r := by
  obtain ⟨K, h⟩ := h
  refine ⟨K + 1, fun n hn => ?_⟩
  obtain ⟨m, rfl⟩ : ∃ m, n = m + 1 := ⟨n - 1, by omega⟩
  exact h m (by omega)
theorem Ev.congr {α : Type} {f g : Nat → Option α} {r : α} (h : Ev f r) (e : ∀ k, g k = f k) : Ev g r := by
  obtain ⟨K, h⟩ := h
  exact ⟨K, fun n hn => by rw [e]; exact h n hn⟩
theorem Ev.iteT {α : Type} {c : Prop} [Decidable c] {f g : Nat → Option α} {r : α} (hc : c) (h : Ev f r) : Ev (fun k => if c then f k else g k) r := by
  simpa only [if_pos hc] using h
theorem Ev.iteF {α : Type} {c : Prop} [Decidable c] {f g : Nat → Option α} {r : α} (hc : ¬ c) (h : Ev g r) : Ev (fun k => if c then f k else g k) r := by
  simpa only [if_neg hc] using h
theorem Ev.unique {α : Type} {f : Nat → Option α} {r s : α} (h : Ev f r) (k : Ev f s) : r = s := by
  obtain ⟨K, h⟩ := h
  obtain ⟨K', k⟩ := k
  have h1 := h (K + K') (by omega)
  rw [k (K + K') (by omega)] at h1
  injection h1 with h1
  exact h1.symm
/-- A loop over 0 .. n: what holds of its state at each index; it may end ahead. -/
theorem Ev.loop {σ ρ : Type} {n : Nat} {F : Nat → Nat → σ → Option ρ} {r : ρ} (Inv : Nat → σ → Prop)
    (hs : ∀ j s, j < n → Inv j s → Ev (fun k => F (k + 1) j s) r ∨ ∃ s', Inv (j + 1) s' ∧ (Ev (fun k => F k (j + 1) s') r → Ev (fun k => F (k + 1) j s) r))
    (he : ∀ s, Inv n s → Ev (fun k => F (k + 1) n s) r) : ∀ s, Inv 0 s → Ev (fun k => F k 0 s) r := by
  have key : ∀ m j s, n - j = m → j ≤ n → Inv j s → Ev (fun k => F k j s) r := by
    intro m
    induction m with
    | zero =>
      intro j s hm hj hI
      obtain rfl : j = n := by omega
      exact Ev.succ (f := fun k => F k j s) (he s hI)
    | succ m ih =>
      intro j s hm hj hI
      rcases hs j s (by omega) hI with h | ⟨s', hI', h⟩
      · exact Ev.succ (f := fun k => F k j s) h
      · exact Ev.succ (f := fun k => F k j s) (h (ih (j + 1) s' (by omega) (by omega) hI'))
  exact fun s hI => key n 0 s rfl (Nat.zero_le _) hI
theorem wi64_n {j : Nat} (h : j < 9223372036854775808) : wi64 (j : Int) = (j : Int) := wi64_id (by omega) (by omega)
theorem wi64_j {j : Nat} (h : j < 9223372036854775807) : wi64 ((j : Int) + 1) = ((j + 1 : Nat) : Int) := by
  rw [wi64_id (by omega) (by omega)]
  omega
theorem take_succ {α : Type} {l : List α} {j : Nat} (d : α) (h : j < l.length) : l.take (j + 1) = l.take j ++ [l.getD j d] := by
  rw [List.take_add_one, List.getElem?_eq_getElem h, List.getD_eq_getElem?_getD, List.getElem?_eq_getElem h]
  rfl
theorem wf64 {x : Int} (h : (Lit.int .i64 x).wf = true) : -9223372036854775808 ≤ x ∧ x < 9223372036854775808 := by
  simp [Lit.wf, IntKind.min, IntKind.max, IntKind.bits, IntKind.signed] at h
  omega
theorem wf8 {x : Int} (h : (Lit.int .u8 x).wf = true) : 0 ≤ x ∧ x < 256 := by
  simp [Lit.wf, IntKind.min, IntKind.max, IntKind.bits, IntKind.signed] at h
  omega
/-! ### heaps -/
namespace Heap
section
variable {α : Type} (lt : α → α → Bool) (d : α)
/-- A strict order, all that differ compare. -/
structure Ord : Prop where
  asymm : ∀ a b, lt a b = true → lt b a = false
  trans : ∀ a b c, lt b a = false → lt c b = false → lt c a = false
def swap (l : List α) (i j : Nat) : List α := (l.set i (l.getD j d)).set j (l.getD i d)
def down : Nat → Nat → Nat → List α → Nat × List α
  | 0, _, i, l => (i, l)
  | f + 1, n, i, l =>
    if 2 * i + 1 ≥ n then (i, l)
    else
      let j := if 2 * i + 2 < n ∧ lt (l.getD (2 * i + 2) d) (l.getD (2 * i + 1) d) = true then 2 * i + 2 else 2 * i + 1
      if lt (l.getD j d) (l.getD i d) = true then down f n j (swap d l i j) else (i, l)
def up : Nat → Nat → List α → List α
  | 0, _, l => l
  | f + 1, j, l =>
    if j = 0 then l
    else if lt (l.getD j d) (l.getD ((j - 1) / 2) d) = true then up f ((j - 1) / 2) (swap d l ((j - 1) / 2) j) else l
/-- Parents from i0 on, but x, are ahead of their children below n. -/
def Ok (i0 n : Nat) (x : Option Nat) (l : List α) : Prop := ∀ p c, i0 ≤ p → x ≠ some p → (c = 2 * p + 1 ∨ c = 2 * p + 2) → c < n → lt (l.getD c d) (l.getD p d) = false
end
section
variable {α : Type} {lt : α → α → Bool} {d : α}
theorem getD_swap (l : List α) {i j : Nat} (hi : i < l.length) (hj : j < l.length) (k : Nat) : (swap d l i j).getD k d = if k = j then l.getD i d else if k = i then l.getD j d else l.getD k d := by
  unfold swap
  simp only [List.getD_eq_getElem?_getD, List.getElem?_set, List.length_set]
  by_cases h1 : k = j
  · subst h1; simp [hj]
  · rw [if_neg (Ne.symm h1), if_neg h1]
    by_cases h2 : k = i
    · subst h2; simp [hi]
    · rw [if_neg (Ne.symm h2), if_neg h2]
theorem swap_length (l : List α) (i j : Nat) : (swap d l i j).length = l.length := by simp [swap]
theorem swap_perm (l : List α) {i j : Nat} (hi : i < l.length) (hj : j < l.length) : (swap d l i j).Perm l := by
  unfold swap
  rw [List.getD_eq_getElem?_getD, List.getD_eq_getElem?_getD, List.getElem?_eq_getElem hi, List.getElem?_eq_getElem hj]
  exact List.set_set_perm hi hj
theorem down_spec (ho : Ord lt) (i0 n : Nat) : ∀ (f i : Nat) (l : List α), n ≤ l.length → i0 ≤ i → n ≤ f + i → Ok lt d i0 n (some i) l → (∀ q c, i0 ≤ q → (i = 2 * q + 1 ∨ i = 2 * q + 2) → (c = 2 * i + 1 ∨ c = 2 * i + 2) → c < n → lt (l.getD c d) (l.getD q d) = false) →
    (down lt d f n i l).2.Perm l ∧ Ok lt d i0 n none (down lt d f n i l).2 ∧ (∀ k, n ≤ k → (down lt d f n i l).2.getD k d = l.getD k d) := by
  intro f
  induction f with
  | zero =>
    intro i l hn hi hf hA hB
    refine ⟨.refl _, fun p c hp _ hc hcn => ?_, fun _ _ => rfl⟩
    exact hA p c hp (by intro e; injection e with e; omega) hc hcn
  | succ f ih =>
    intro i l hn hi hf hA hB
    unfold down
    split
    · refine ⟨.refl _, fun p c hp _ hc hcn => ?_, fun _ _ => rfl⟩
      exact hA p c hp (by intro e; injection e with e; omega) hc hcn
    · rename_i hge
      simp only
      generalize hj : (if 2 * i + 2 < n ∧ lt (l.getD (2 * i + 2) d) (l.getD (2 * i + 1) d) = true then 2 * i + 2 else 2 * i + 1) = j
      have hjc : (j = 2 * i + 1 ∨ j = 2 * i + 2) ∧ j < n := by
        split at hj <;> omega
      have hmin : ∀ c, (c = 2 * i + 1 ∨ c = 2 * i + 2) → c < n → lt (l.getD c d) (l.getD j d) = false := by
        intro c hc hcn
        have hirr : ∀ a, lt a a = false := fun a => by
          cases h : lt a a with
          | false => rfl
          | true => have := ho.asymm a a h; rw [h] at this; exact this
        split at hj
        · rename_i h
          subst hj
          rcases hc with rfl | rfl
          · exact ho.asymm _ _ h.2
          · exact hirr _
        · rename_i h
          subst hj
          rcases hc with rfl | rfl
          · exact hirr _
          · cases hlt : lt (l.getD (2 * i + 2) d) (l.getD (2 * i + 1) d) with
            | false => rfl
            | true => exact absurd ⟨hcn, hlt⟩ h
      split
      · rename_i hlt
        have hil : i < l.length := by omega
        have hjl : j < l.length := by omega
        have hji : j ≠ i := by omega
        obtain ⟨h1, h2, h3⟩ := ih j (swap d l i j) (by rw [swap_length]; exact hn) (by omega) (by omega)
          (fun p c hp hpj hc hcn => by
            have hpj' : p ≠ j := fun e => hpj (by rw [e])
            rw [getD_swap l hil hjl, getD_swap l hil hjl]
            rw [if_neg hpj']
            by_cases hpi : p = i
            · subst hpi
              rw [if_pos rfl]
              by_cases hcj : c = j
              · rw [if_pos hcj]; exact ho.asymm _ _ hlt
              · rw [if_neg hcj, if_neg (by omega)]; exact hmin c hc hcn
            · rw [if_neg hpi]
              have hcj : c ≠ j := by omega
              rw [if_neg hcj]
              by_cases hci : c = i
              · rw [if_pos hci]
                exact hB p j hp (by omega) hjc.1 hjc.2
              · rw [if_neg hci]
                exact hA p c hp (by intro e; injection e with e; exact hpi e.symm) hc hcn)
          (fun q c hq hjq hc hcn => by
            have hqi : q = i := by omega
            subst hqi
            rw [getD_swap l hil hjl, getD_swap l hil hjl, if_neg (by omega), if_neg (by omega), if_neg (by omega), if_pos rfl]
            exact hA j c (by omega) (by intro e; injection e with e; omega) hc hcn)
        refine ⟨h1.trans (swap_perm l hil hjl), h2, fun k hk => ?_⟩
        rw [h3 k hk, getD_swap l hil hjl, if_neg (by omega), if_neg (by omega)]
      · rename_i hlt
        refine ⟨.refl _, fun p c hp _ hc hcn => ?_, fun _ _ => rfl⟩
        by_cases hpi : p = i
        · subst hpi
          have := hmin c hc hcn
          refine ho.trans _ _ _ ?_ this
          simpa using hlt
        · exact hA p c hp (by intro e; injection e with e; exact hpi e.symm) hc hcn
/-- The first one of a heap is ahead of all. -/
theorem Ok.min (ho : Ord lt) {n : Nat} {l : List α} (h : Ok lt d 0 n none l) : ∀ c, c < n → lt (l.getD c d) (l.getD 0 d) = false := by
  intro c
  induction c using Nat.strongRecOn with
  | ind c ih =>
    intro hc
    by_cases h0 : c = 0
    · subst h0
      cases hl : lt (l.getD 0 d) (l.getD 0 d) with
      | false => rfl
      | true => have := ho.asymm _ _ hl; rw [hl] at this; exact this
    · have h1 := ih ((c - 1) / 2) (by omega) (by omega)
      have h2 := h ((c - 1) / 2) c (Nat.zero_le _) (by simp) (by omega) hc
      exact ho.trans _ _ _ h1 h2
def pop (lt : α → α → Bool) (d : α) (l : List α) : α × List α :=
  let l2 := (down lt d (l.length - 1) (l.length - 1) 0 (swap d l 0 (l.length - 1))).2
  (l2.getD (l.length - 1) d, l2.take (l.length - 1))
theorem down_length (f n : Nat) : ∀ (i : Nat) (l : List α), (down lt d f n i l).2.length = l.length := by
  induction f with
  | zero => intro i l; rfl
  | succ f ih =>
    intro i l
    unfold down
    split
    · rfl
    · simp only
      generalize (if 2 * i + 2 < n ∧ lt (l.getD (2 * i + 2) d) (l.getD (2 * i + 1) d) = true then 2 * i + 2 else 2 * i + 1) = j
      split
      · rw [ih, swap_length]
      · rfl
theorem getD_take (l : List α) (n k : Nat) (h : k < n) : (l.take n).getD k d = l.getD k d := by
  rw [List.getD_eq_getElem?_getD, List.getD_eq_getElem?_getD, List.getElem?_take, if_pos h]
theorem pop_spec (ho : Ord lt) {l : List α} (hl : l ≠ []) (h : Ok lt d 0 l.length none l) :
    (pop lt d l).1 = l.getD 0 d ∧ l.Perm ((pop lt d l).1 :: (pop lt d l).2) ∧ Ok lt d 0 (pop lt d l).2.length none (pop lt d l).2 ∧ (∀ x ∈ l, lt x (pop lt d l).1 = false) := by
  have hlen : 0 < l.length := List.length_pos_iff.2 hl
  have h0 : (0 : Nat) < l.length := hlen
  have hn : l.length - 1 < l.length := by omega
  obtain ⟨h1, h2, h3⟩ := down_spec ho 0 (l.length - 1) (l.length - 1) 0 (swap d l 0 (l.length - 1)) (by rw [swap_length]; omega) (Nat.le_refl _) (by omega)
    (fun p c hp hp0 hc hcn => by
      have hp0' : p ≠ 0 := fun e => hp0 (by rw [e])
      rw [getD_swap l h0 hn, getD_swap l h0 hn, if_neg (by omega), if_neg (by omega), if_neg (by omega), if_neg hp0']
      exact h p c hp (by simp) hc (by omega))
    (fun q c hq hq0 => by omega)
  have hlen2 := down_length (lt := lt) (d := d) (l.length - 1) (l.length - 1) 0 (swap d l 0 (l.length - 1))
  rw [swap_length] at hlen2
  have hlast : (pop lt d l).1 = l.getD 0 d := by
    show (down lt d (l.length - 1) (l.length - 1) 0 (swap d l 0 (l.length - 1))).2.getD (l.length - 1) d = _
    rw [h3 _ (Nat.le_refl _), getD_swap l h0 hn, if_pos rfl]
  have hsplit : (down lt d (l.length - 1) (l.length - 1) 0 (swap d l 0 (l.length - 1))).2 = (pop lt d l).2 ++ [(pop lt d l).1] := by
    show _ = (List.take (l.length - 1) _) ++ [List.getD (down lt d (l.length - 1) (l.length - 1) 0 (swap d l 0 (l.length - 1))).2 (l.length - 1) d]
    generalize (down lt d (l.length - 1) (l.length - 1) 0 (swap d l 0 (l.length - 1))).2 = m at hlen2
    have hm : l.length - 1 < m.length := by omega
    rw [List.getD_eq_getElem?_getD, List.getElem?_eq_getElem hm, Option.getD_some, ← List.take_succ_eq_append_getElem hm, List.take_of_length_le (by omega)]
  refine ⟨hlast, ?_, ?_, ?_⟩
  · refine ((swap_perm l h0 hn).symm.trans h1.symm).trans ?_
    rw [hsplit]
    exact List.perm_append_comm
  · have hl2 : (pop lt d l).2.length = l.length - 1 := by
      show (List.take (l.length - 1) _).length = _
      rw [List.length_take, hlen2]; omega
    rw [hl2]
    intro p c hp hx hc hcn
    show lt ((List.take (l.length - 1) _).getD c d) ((List.take (l.length - 1) _).getD p d) = false
    rw [getD_take _ _ _ hcn, getD_take _ _ _ (by omega)]
    exact h2 p c hp hx hc hcn
  · intro x hx
    rw [hlast]
    obtain ⟨i, hi, rfl⟩ := List.getElem_of_mem hx
    have := h.min ho i hi
    rwa [List.getD_eq_getElem?_getD, List.getElem?_eq_getElem hi, Option.getD_some] at this
end
end Heap
/-! ### sorted lists -/
namespace Heap
section
variable {α : Type} (lt : α → α → Bool)
def ins (x : α) : List α → List α
  | [] => [x]
  | y :: r => if lt y x = true then y :: ins x r else x :: y :: r
def isort : List α → List α
  | [] => []
  | x :: r => ins lt x (isort r)
end
section
variable {α : Type} {lt : α → α → Bool}
theorem ins_perm (x : α) (l : List α) : (ins lt x l).Perm (x :: l) := by
  induction l with
  | nil => exact .refl _
  | cons y r ih =>
    unfold ins
    split
    · exact (ih.cons y).trans (.swap x y r)
    · exact .refl _
theorem isort_perm (l : List α) : (isort lt l).Perm l := by
  induction l with
  | nil => exact .refl _
  | cons x r ih => exact (ins_perm x _).trans (ih.cons x)
theorem ins_sorted (ho : Ord lt) (x : α) (l : List α) (h : l.Pairwise fun a b => lt b a = false) : (ins lt x l).Pairwise fun a b => lt b a = false := by
  induction l with
  | nil => exact List.pairwise_singleton _ _
  | cons y r ih =>
    obtain ⟨h1, h2⟩ := List.pairwise_cons.1 h
    unfold ins
    split
    · rename_i hlt
      refine List.pairwise_cons.2 ⟨fun z hz => ?_, ih h2⟩
      rcases List.mem_cons.1 ((ins_perm x r).mem_iff.1 hz) with rfl | hz
      · exact ho.asymm _ _ hlt
      · exact h1 z hz
    · rename_i hlt
      refine List.pairwise_cons.2 ⟨fun z hz => ?_, h⟩
      rcases List.mem_cons.1 hz with rfl | hz
      · simpa using hlt
      · exact ho.trans x y z (by simpa using hlt) (h1 z hz)
theorem isort_sorted (ho : Ord lt) (l : List α) : (isort lt l).Pairwise fun a b => lt b a = false := by
  induction l with
  | nil => exact .nil
  | cons x r ih => exact ins_sorted ho x _ ih
/-- Sorted, and the same elements: the same list. -/
theorem sorted_unique (ht : ∀ a b, lt a b = false → lt b a = false → a = b) : ∀ {l m : List α}, l.Perm m → (l.Pairwise fun a b => lt b a = false) → (m.Pairwise fun a b => lt b a = false) → l = m
  | [], m, hp, _, _ => hp.nil_eq
  | a :: l, [], hp, _, _ => absurd hp.symm.nil_eq (by simp)
  | a :: l, b :: m, hp, h1, h2 => by
    obtain ⟨h1a, h1b⟩ := List.pairwise_cons.1 h1
    obtain ⟨h2a, h2b⟩ := List.pairwise_cons.1 h2
    have hab : a = b := by
      rcases List.mem_cons.1 (hp.mem_iff.1 (List.mem_cons_self ..)) with h | h
      · exact h
      · rcases List.mem_cons.1 (hp.mem_iff.2 (List.mem_cons_self ..)) with h' | h'
        · exact h'.symm
        · exact ht a b (h2a a h) (h1a b h')
    subst hab
    rw [sorted_unique ht hp.cons_inv h1b h2b]
/-- A heap's first one, where the rest is known sorted. -/
theorem pop_sorted (ht : ∀ a b, lt a b = false → lt b a = false → a = b) (hirr : ∀ a, lt a a = false) {x s : α} {rest S l : List α} (hp : l.Perm (x :: rest)) (hm : ∀ y ∈ l, lt y x = false) (hs : l.Perm (s :: S)) (hS : (s :: S).Pairwise fun a b => lt b a = false) : x = s ∧ rest.Perm S := by
  have hx : x ∈ s :: S := hs.mem_iff.1 (hp.mem_iff.2 (List.mem_cons_self ..))
  have h1 : lt s x = false := hm s (hs.mem_iff.2 (List.mem_cons_self ..))
  have h2 : lt x s = false := by
    rcases List.mem_cons.1 hx with rfl | hx
    · exact hirr _
    · exact (List.pairwise_cons.1 hS).1 x hx
  have he := ht x s h2 h1
  subst he
  exact ⟨rfl, (hp.symm.trans hs).cons_inv⟩
end
end Heap
end Go.WG
