/- Plain laws of heaps: an element that rises; an element that is set right. -/
import Derived.Test.YtnoocbdpkddpbaaLk
set_option linter.unusedSimpArgs false
set_option linter.unusedVariables false
namespace Go.WG.Heap
section
variable {α : Type} {lt : α → α → Bool} {d : α}
/-- All pairs are right but, maybe, the one above j; what is below j is right to what is above it. -/
def UpOk (lt : α → α → Bool) (d : α) (n j : Nat) (l : List α) : Prop :=
  (∀ p c, (c = 2 * p + 1 ∨ c = 2 * p + 2) → c < n → c ≠ j → lt (l.getD c d) (l.getD p d) = false) ∧
  (∀ q c, (j = 2 * q + 1 ∨ j = 2 * q + 2) → (c = 2 * j + 1 ∨ c = 2 * j + 2) → c < n → lt (l.getD c d) (l.getD q d) = false)
theorem up_length (f : Nat) : ∀ (j : Nat) (l : List α), (up lt d f j l).length = l.length := by
  induction f with
  | zero => intro j l; rfl
  | succ f ih =>
    intro j l
    unfold up
    split
    · rfl
    · split
      · rw [ih, swap_length]
      · rfl
theorem up_spec (ho : Ord lt) (n : Nat) : ∀ (f j : Nat) (l : List α), n ≤ l.length → j < n → j ≤ f → UpOk lt d n j l →
    (up lt d f j l).Perm l ∧ Ok lt d 0 n none (up lt d f j l) ∧ (∀ k, n ≤ k → (up lt d f j l).getD k d = l.getD k d) := by
  intro f
  induction f with
  | zero =>
    intro j l hn hj hf h
    refine ⟨.refl _, fun p c _ _ hc hcn => ?_, fun _ _ => rfl⟩
    exact h.1 p c hc hcn (by omega)
  | succ f ih =>
    intro j l hn hj hf h
    unfold up
    split
    · rename_i h0
      refine ⟨.refl _, fun p c _ _ hc hcn => ?_, fun _ _ => rfl⟩
      exact h.1 p c hc hcn (by omega)
    · rename_i h0
      generalize hp : (j - 1) / 2 = p
      have hjp : j = 2 * p + 1 ∨ j = 2 * p + 2 := by omega
      split
      · rename_i hlt
        have hpl : p < l.length := by omega
        have hjl : j < l.length := by omega
        obtain ⟨h1, h2, h3⟩ := ih p (swap d l p j) (by rw [swap_length]; exact hn) (by omega) (by omega) ⟨fun q c hc hcn hcp => by
            rw [getD_swap l hpl hjl, getD_swap l hpl hjl]
            by_cases hcj : c = j
            · rw [if_pos hcj]
              have hq : q = p := by omega
              rw [if_neg (by omega), if_pos hq]
              exact ho.asymm _ _ hlt
            · rw [if_neg hcj, if_neg hcp]
              by_cases hqj : q = j
              · rw [if_pos hqj]
                exact h.2 p c hjp (by omega) hcn
              · rw [if_neg hqj]
                by_cases hqp : q = p
                · rw [if_pos hqp]
                  have a1 := h.1 p c (by omega) hcn hcj
                  exact ho.trans _ _ _ (ho.asymm _ _ hlt) a1
                · rw [if_neg hqp]
                  exact h.1 q c hc hcn hcj,
          fun q c hpq hc hcn => by
            rw [getD_swap l hpl hjl, getD_swap l hpl hjl]
            rw [if_neg (show q ≠ j by omega), if_neg (show q ≠ p by omega)]
            have a2 := h.1 q p hpq (by omega) (by omega)
            by_cases hcj : c = j
            · rw [if_pos hcj]; exact a2
            · rw [if_neg hcj, if_neg (by omega)]
              exact ho.trans _ _ _ a2 (h.1 p c hc hcn hcj)⟩
        refine ⟨h1.trans (swap_perm l hpl hjl), h2, fun k hk => ?_⟩
        rw [h3 k hk, getD_swap l hpl hjl, if_neg (by omega), if_neg (by omega)]
      · rename_i hlt
        refine ⟨.refl _, fun q c _ _ hc hcn => ?_, fun _ _ => rfl⟩
        by_cases hcj : c = j
        · have hq : q = p := by omega
          rw [hcj, hq]
          simpa using hlt
        · exact h.1 q c hc hcn hcj
/-- All pairs are right but those of i; what is below i is right to what is above it. -/
def FixOk (lt : α → α → Bool) (d : α) (n i : Nat) (l : List α) : Prop :=
  (∀ p c, (c = 2 * p + 1 ∨ c = 2 * p + 2) → c < n → c ≠ i → p ≠ i → lt (l.getD c d) (l.getD p d) = false) ∧
  (∀ q c, (i = 2 * q + 1 ∨ i = 2 * q + 2) → (c = 2 * i + 1 ∨ c = 2 * i + 2) → c < n → lt (l.getD c d) (l.getD q d) = false)
def fix (lt : α → α → Bool) (d : α) (n i : Nat) (l : List α) : List α :=
  if (down lt d (n - i) n i l).1 > i then (down lt d (n - i) n i l).2 else up lt d i i (down lt d (n - i) n i l).2
theorem down_ge : ∀ (f n i : Nat) (l : List α), i ≤ (down lt d f n i l).1 := by
  intro f
  induction f with
  | zero => intro n i l; exact Nat.le_refl _
  | succ f ih =>
    intro n i l
    unfold down
    split
    · exact Nat.le_refl _
    · simp only
      generalize hj : (if 2 * i + 2 < n ∧ lt (l.getD (2 * i + 2) d) (l.getD (2 * i + 1) d) = true then 2 * i + 2 else 2 * i + 1) = j
      split
      · have := ih n j (swap d l i j)
        split at hj <;> omega
      · exact Nat.le_refl _
theorem down_stays (ho : Ord lt) (f n i : Nat) (l : List α) (h : ∀ c, (c = 2 * i + 1 ∨ c = 2 * i + 2) → c < n → lt (l.getD c d) (l.getD i d) = false) : down lt d f n i l = (i, l) := by
  cases f with
  | zero => rfl
  | succ f =>
    unfold down
    split
    · rfl
    · simp only
      generalize hj : (if 2 * i + 2 < n ∧ lt (l.getD (2 * i + 2) d) (l.getD (2 * i + 1) d) = true then 2 * i + 2 else 2 * i + 1) = j
      have hjc : (j = 2 * i + 1 ∨ j = 2 * i + 2) ∧ j < n := by
        split at hj <;> omega
      rw [if_neg (by rw [h j hjc.1 hjc.2]; simp)]
theorem down_same : ∀ (f n i : Nat) (l : List α), (down lt d f n i l).1 = i → (down lt d f n i l).2 = l := by
  intro f
  cases f with
  | zero => intro n i l _; rfl
  | succ f =>
    intro n i l
    unfold down
    split
    · intro _; rfl
    · simp only
      generalize hj : (if 2 * i + 2 < n ∧ lt (l.getD (2 * i + 2) d) (l.getD (2 * i + 1) d) = true then 2 * i + 2 else 2 * i + 1) = j
      split
      · intro h
        have := down_ge (lt := lt) (d := d) f n j (swap d l i j)
        split at hj <;> omega
      · intro _; rfl
theorem fix_spec (ho : Ord lt) (n i : Nat) (l : List α) (hn : n ≤ l.length) (hi : i < n) (h : FixOk lt d n i l) :
    (fix lt d n i l).Perm l ∧ Ok lt d 0 n none (fix lt d n i l) ∧ (∀ k, n ≤ k → (fix lt d n i l).getD k d = l.getD k d) := by
  by_cases hu : ∃ q, (i = 2 * q + 1 ∨ i = 2 * q + 2) ∧ lt (l.getD i d) (l.getD q d) = true
  · obtain ⟨q, hq, hlt⟩ := hu
    have hch : ∀ c, (c = 2 * i + 1 ∨ c = 2 * i + 2) → c < n → lt (l.getD c d) (l.getD i d) = false := fun c hc hcn => by
      cases hb : lt (l.getD c d) (l.getD i d) with
      | false => rfl
      | true =>
        have := ho.trans _ _ _ (h.2 q c hq hc hcn) (ho.asymm _ _ hb)
        rw [hlt] at this
        exact this
    have hs := down_stays ho (n - i) n i l hch
    unfold fix
    rw [hs]
    simp only [gt_iff_lt, Nat.lt_irrefl, if_false]
    refine up_spec ho n i i l hn hi (Nat.le_refl _) ⟨fun p c hc hcn hci => ?_, h.2⟩
    by_cases hp : p = i
    · subst hp; exact hch c hc hcn
    · exact h.1 p c hc hcn hci hp
  · have hup : ∀ q, (i = 2 * q + 1 ∨ i = 2 * q + 2) → lt (l.getD i d) (l.getD q d) = false := fun q hq => by
      cases hb : lt (l.getD i d) (l.getD q d) with
      | false => rfl
      | true => exact absurd ⟨q, hq, hb⟩ hu
    have hd := down_spec ho 0 n (n - i) i l hn (Nat.zero_le _) (by omega) (fun p c _ hpi hc hcn => by
        have hpi' : p ≠ i := fun e => hpi (by rw [e])
        by_cases hci : c = i
        · subst hci; exact hup p hc
        · exact h.1 p c hc hcn hci hpi') (fun q c _ hq hc hcn => h.2 q c hq hc hcn)
    unfold fix
    split
    · exact hd
    · rename_i hgt
      have he : (down lt d (n - i) n i l).1 = i := by
        have := down_ge (lt := lt) (d := d) (n - i) n i l
        omega
      have hl := down_same _ _ _ _ he
      rw [hl] at hd ⊢
      exact up_spec ho n i i l hn hi (Nat.le_refl _) ⟨fun p c hc hcn hci => hd.2.1 p c (Nat.zero_le _) (by simp) hc hcn, h.2⟩
theorem Ok.fixOk {n i : Nat} {l l' : List α} (ho : Ord lt) (h : Ok lt d 0 n none l) (hi : i < n) (he : ∀ k, k < n → k ≠ i → l'.getD k d = l.getD k d) : FixOk lt d n i l' :=
  ⟨fun p c hc hcn hci hpi => by rw [he c hcn hci, he p (by omega) hpi]; exact h p c (Nat.zero_le _) (by simp) hc hcn,
   fun q c hq hc hcn => by
     rw [he c hcn (by omega), he q (by omega) (by omega)]
     exact ho.trans _ _ _ (h q i (Nat.zero_le _) (by simp) hq hi) (h i c (Nat.zero_le _) (by simp) hc hcn)⟩
end
end Go.WG.Heap
