/- Plain laws of agendas: the places; the queue's heap. -/
import Derived.Test.YtnoocbdpkddpbaaUa
import Derived.Test.YtnoocbdpkddpbaaGd
set_option linter.unusedSimpArgs false
set_option linter.unusedVariables false
namespace Go.WG
section
variable {α β : Type} [DecidableEq α]
theorem mget_cons (q : α × β) (l : List (α × β)) (k : α) : mget (q :: l) k = if q.1 = k then some q.2 else mget l k := by
  unfold mget
  rw [List.find?_cons]
  by_cases h : q.1 = k <;> simp [h]
theorem mget_append (l m : List (α × β)) (k : α) : mget (l ++ m) k = (mget l k).or (mget m k) := by
  induction l with
  | nil => simp [mget]
  | cons q l ih =>
    rw [List.cons_append, mget_cons, mget_cons, ih]
    split <;> simp
theorem mget_mset (l : List (α × β)) (k k' : α) (v : β) : mget (mset l k v) k' = if k' = k then some v else mget l k' := by
  unfold mset
  by_cases hs : (mget l k).isSome = true
  · rw [if_pos hs]
    have h : ∀ m : List (α × β), mget (m.map fun q => if q.1 = k then (k, v) else q) k' = if k' = k then (mget m k).map (fun _ => v) else mget m k' := by
      intro m
      induction m with
      | nil => simp [mget]
      | cons q m ih =>
        rw [List.map_cons, mget_cons, mget_cons, mget_cons, ih]
        by_cases h1 : q.1 = k
        · rw [if_pos h1]
          by_cases h2 : k' = k
          · subst h2; simp [h1]
          · have h3 : ¬ k = k' := fun e => h2 e.symm
            simp only [if_neg h3, if_neg h2, h1]
        · rw [if_neg h1]
          by_cases h2 : k' = k
          · subst h2; simp [h1]
          · simp only [if_neg h2]
    rw [h]
    by_cases h2 : k' = k
    · obtain ⟨x, hx⟩ := Option.isSome_iff_exists.1 hs
      simp [h2, hx]
    · simp [h2]
  · rw [if_neg hs, mget_append, mget_cons]
    have hn : mget l k = none := by
      cases h : mget l k with
      | none => rfl
      | some x => rw [h] at hs; exact absurd rfl hs
    by_cases h2 : k' = k
    · subst h2; simp [hn]
    · have h3 : ¬ k = k' := fun e => h2 e.symm
      simp only [if_neg h3, if_neg h2]
      simp [mget]
theorem mget_mdel (l : List (α × β)) (k k' : α) : mget (mdel l k) k' = if k' = k then none else mget l k' := by
  unfold mdel
  induction l with
  | nil => simp [mget]
  | cons q l ih =>
    rw [List.filter_cons]
    by_cases h : q.1 = k
    · rw [if_neg (by simp [h]), ih, mget_cons]
      by_cases h2 : k' = k
      · simp [h2]
      · have h3 : ¬ q.1 = k' := fun e => h2 (e.symm.trans h)
        simp only [if_neg h2, if_neg h3]
    · rw [if_pos (by simp [h]), mget_cons, mget_cons, ih]
      by_cases h2 : k' = k
      · subst h2; simp [h]
      · simp only [if_neg h2]
end
end Go.WG
namespace Go.Proofs.Ytnoocbdpkddpbaa.Pure
open Go.WG Go.Proofs.Ytnoocbdpkddpbaa
theorem wi64_succ {j : Nat} (h : j < 9223372036854775807) : wi64 ((j : Int) + 1) = ((j + 1 : Nat) : Int) := by
  rw [wi64_id (by omega) (by omega)]
  omega
def ltE (a b : TEntry) : Bool := decide (a.At < b.At ∨ (a.At = b.At ∧ a.ID < b.ID))
theorem ltE_ord : Heap.Ord ltE where
  asymm := fun a b h => by
    simp only [ltE, decide_eq_true_eq] at h
    simp only [ltE, decide_eq_false_iff_not]
    omega
  trans := fun a b c h k => by
    simp only [ltE, decide_eq_false_iff_not] at *
    omega
theorem ltE_eq (a b : TEntry) (h : ltE a b = false) (k : ltE b a = false) : a = b := by
  simp only [ltE, decide_eq_false_iff_not] at h k
  obtain ⟨u, i⟩ := a
  obtain ⟨v, j⟩ := b
  simp only at h k
  have h1 : u = v := by omega
  have h2 : i = j := by omega
  rw [h1, h2]
theorem ltE_irr (a : TEntry) : ltE a a = false := by simp [ltE]
theorem lessAB (a b : TEntry) : (if a.At = b.At then some (decide (a.ID < b.ID)) else some (decide (a.At < b.At))) = some (ltE a b) := by
  by_cases he : a.At = b.At
  · rw [if_pos he]; simp [ltE, he]
  · rw [if_neg he]; simp [ltE, he]
theorem less_f (k : Nat) (q : Tqueue) (i j : Nat) (hi : i < q.l.length) (hj : j < q.l.length) : agenda_queue_Less.f k q (i : Int) (j : Int) = some (ltE (q.l.getD i TEntry.z) (q.l.getD j TEntry.z)) := by
  have h1 : 0 ≤ (i : Int) ∧ (i : Int) < (q.l.length : Int) := by omega
  have h2 : 0 ≤ (j : Int) ∧ (j : Int) < (q.l.length : Int) := by omega
  simp only [agenda_queue_Less.f, if_pos h1, if_pos h2, Int.toNat_natCast]
  exact lessAB _ _
/-- Each one's place is where it stands, and no other place is told. -/
def PlaceOk (l : List TEntry) (p : List (Int × Int)) : Prop := ∀ id t, mget p id = some t ↔ ∃ n : Nat, t = (n : Int) ∧ n < l.length ∧ (l.getD n TEntry.z).ID = id
theorem PlaceOk.inj {l : List TEntry} {p : List (Int × Int)} (h : PlaceOk l p) {i j : Nat} (hi : i < l.length) (hj : j < l.length) (he : (l.getD i TEntry.z).ID = (l.getD j TEntry.z).ID) : i = j := by
  have h1 := (h (l.getD i TEntry.z).ID i).2 ⟨i, rfl, hi, rfl⟩
  have h2 := (h (l.getD i TEntry.z).ID j).2 ⟨j, rfl, hj, he.symm⟩
  rw [h1] at h2
  injection h2 with h2
  omega
theorem PlaceOk.nodup {l : List TEntry} {p : List (Int × Int)} (h : PlaceOk l p) : (l.map (·.ID)).Nodup := by
  rw [List.Nodup, List.pairwise_iff_getElem]
  intro i j hi hj hij he
  rw [List.length_map] at hi hj
  have := h.inj hi hj (by simpa [List.getD_eq_getElem?_getD, hi, hj] using he)
  omega
theorem PlaceOk.none {l : List TEntry} {p : List (Int × Int)} (h : PlaceOk l p) (id : Int) : mget p id = none ↔ ∀ x ∈ l, x.ID ≠ id := by
  constructor
  · intro hn x hx he
    obtain ⟨i, hi, rfl⟩ := List.getElem_of_mem hx
    have := (h id i).2 ⟨i, rfl, hi, by simpa [List.getD_eq_getElem?_getD, hi] using he⟩
    rw [hn] at this
    exact absurd this (by simp)
  · intro ha
    cases hm : mget p id with
    | none => rfl
    | some t =>
      obtain ⟨n, _, hn, he⟩ := (h id t).1 hm
      exact absurd he (ha _ (by rw [List.getD_eq_getElem?_getD, List.getElem?_eq_getElem hn, Option.getD_some]; exact List.getElem_mem hn))
theorem PlaceOk.swap {l : List TEntry} {p p' : List (Int × Int)} (h : PlaceOk l p) {i j : Nat} (hi : i < l.length) (hj : j < l.length)
    (hp : ∀ id, mget p' id = if id = (l.getD i TEntry.z).ID then some (j : Int) else if id = (l.getD j TEntry.z).ID then some (i : Int) else mget p id) : PlaceOk (Heap.swap TEntry.z l i j) p' := by
  intro id t
  rw [hp, Heap.swap_length]
  by_cases h1 : id = (l.getD i TEntry.z).ID
  · rw [if_pos h1]
    constructor
    · intro e
      injection e with e
      refine ⟨j, e.symm, hj, ?_⟩
      rw [Heap.getD_swap l hi hj, if_pos rfl, h1]
    · rintro ⟨n, rfl, hn, he⟩
      rw [Heap.getD_swap l hi hj] at he
      congr 1
      split at he
      · omega
      · rename_i hnj
        split at he
        · rename_i hni
          have := h.inj hj hi (he.trans h1)
          omega
        · rename_i hni
          have := h.inj hn hi (he.trans h1)
          omega
  · rw [if_neg h1]
    by_cases h2 : id = (l.getD j TEntry.z).ID
    · rw [if_pos h2]
      have hij : i ≠ j := fun e => h1 (by rw [e]; exact h2)
      constructor
      · intro e
        injection e with e
        refine ⟨i, e.symm, hi, ?_⟩
        rw [Heap.getD_swap l hi hj, if_neg hij, if_pos rfl, h2]
      · rintro ⟨n, rfl, hn, he⟩
        rw [Heap.getD_swap l hi hj] at he
        congr 1
        split at he
        · exact absurd he.symm h1
        · split at he
          · omega
          · have := h.inj hn hj (he.trans h2)
            omega
    · rw [if_neg h2, h id t]
      constructor
      · rintro ⟨n, rfl, hn, he⟩
        refine ⟨n, rfl, hn, ?_⟩
        rw [Heap.getD_swap l hi hj, if_neg (fun e => h2 (by rw [← e]; exact he.symm)), if_neg (fun e => h1 (by rw [← e]; exact he.symm)), he]
      · rintro ⟨n, rfl, hn, he⟩
        refine ⟨n, rfl, hn, ?_⟩
        rw [Heap.getD_swap l hi hj] at he
        split at he
        · exact absurd he.symm h1
        · split at he
          · exact absurd he.symm h2
          · exact he
theorem swap_f (q : Tqueue) (hp : PlaceOk q.l q.place) (i j : Nat) (hi : i < q.l.length) (hj : j < q.l.length) :
    ∃ q' : Tqueue, (∀ k, agenda_queue_Swap.f k q (i : Int) (j : Int) = some q') ∧ q'.l = Heap.swap TEntry.z q.l i j ∧ PlaceOk q'.l q'.place := by
  have h1 : 0 ≤ (i : Int) ∧ (i : Int) < (q.l.length : Int) := by omega
  have h2 : 0 ≤ (j : Int) ∧ (j : Int) < (q.l.length : Int) := by omega
  have h3 : ∃ u v, agenda_queue_Swap.f 0 q (i : Int) (j : Int) = some ⟨Heap.swap TEntry.z q.l i j, mset (mset (mset (mset q.place ((Heap.swap TEntry.z q.l i j).getD i TEntry.z).ID u) ((Heap.swap TEntry.z q.l i j).getD i TEntry.z).ID (i : Int)) ((Heap.swap TEntry.z q.l i j).getD j TEntry.z).ID v) ((Heap.swap TEntry.z q.l i j).getD j TEntry.z).ID (j : Int)⟩ := by
    refine ⟨?_, ?_, ?_⟩
    rotate_left 2
    simp only [agenda_queue_Swap.f, Int.toNat_natCast, List.length_set, if_pos h1, if_pos h2]
    rfl
  obtain ⟨u, v, h3⟩ := h3
  refine ⟨_, fun k => h3, ?_⟩
  · refine ⟨rfl, hp.swap hi hj fun id => ?_⟩
    show mget (mset _ _ _) id = _
    rw [Heap.getD_swap q.l hi hj, Heap.getD_swap q.l hi hj, if_pos rfl]
    simp only [mget_mset, if_true]
    by_cases e : id = (q.l.getD i TEntry.z).ID
    · simp only [if_pos e]
    · by_cases hij : i = j
      · subst hij
        simp only [if_true, if_neg e]
      · by_cases e2 : id = (q.l.getD j TEntry.z).ID
        · simp only [if_neg hij, if_neg e, if_pos e2]
        · simp only [if_neg hij, if_neg e, if_neg e2]
end Go.Proofs.Ytnoocbdpkddpbaa.Pure
