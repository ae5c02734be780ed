/- Plain laws: what holds from some fuel on; heaps in lists; sorted lists. -/
import Derived.Test.YtobdpbnadjkhiaaGreatTLj
namespace Go.WG
/-- From some fuel on it answers r. -/
def Ev {α : Type} (f : Nat → Option α) (r : α) : Prop := ∃ K, ∀ k, K ≤ k → f k = some r
theorem Ev.one {α : Type} {f : Nat → Option α} {r : α} (h : Ev f r) : ∃ k, f k = some r := by
  obtain ⟨K, h⟩ := h
  exact ⟨K, h K (Nat.le_refl _)⟩
theorem Ev.pure {α : Type} (r : α) : Ev (fun _ => some r) r := ⟨0, fun _ _ => rfl⟩
theorem Ev.bind {α β : Type} {f : Nat → Option α} {g : Nat → α → Option β} {a : α} {r : β} (h : Ev f a) (k : Ev (fun n => g n a) r) : Ev (fun n => (f n).bind (g n)) r := by
  obtain ⟨K, h⟩ := h
  obtain ⟨K', k⟩ := k
  exact ⟨K + K', fun n hn => by show (f n).bind (g n) = some r; rw [h n (by omega)]; exact k n (by omega)⟩
theorem Ev.succ {α : Type} {f : Nat → Option α} {r : α} (h : Ev (fun k => f (k + 1)) r) : Ev f r := by
  obtain ⟨K, h⟩ := h
  refine ⟨K + 1, fun n hn => ?_⟩
  obtain ⟨m, rfl⟩ : ∃ m, n = m + 1 := ⟨n - 1, by omega⟩
  exact h m (by omega)
theorem Ev.congr {α : Type} {f g : Nat → Option α} {r : α} (h : Ev f r) (e : ∀ k, g k = f k) : Ev g r := by
  obtain ⟨K, h⟩ := h
  exact ⟨K, fun n hn => by rw [e]; exact h n hn⟩
theorem Ev.iteT {α : Type} {c : Prop} [Decidable c] {f g : Nat → Option α} {r : α} (hc : c) (h : Ev f r) : Ev (fun k => if c then f k else g k) r := by
  simpa only [if_pos hc] using h
theorem Ev.iteF {α : Type} {c : Prop} [Decidable c] {f g : Nat → Option α} {r : α} (hc : ¬ c) (h : Ev g r) : Ev (fun k => if c then f k else g k) r := by
  simpa only [if_neg hc] using h
/-- A loop over 0 .. n: what holds of its state at each index; it may end ahead. -/
theorem Ev.loop {σ ρ : Type} {n : Nat} {F : Nat → Nat → σ → Option ρ} {r : ρ} (Inv : Nat → σ → Prop)
    (hs : ∀ j s, j < n → Inv j s → Ev (fun k => F (k + 1) j s) r ∨ ∃ s', Inv (j + 1) s' ∧ (Ev (fun k => F k (j + 1) s') r → Ev (fun k => F (k + 1) j s) r))
    (he : ∀ s, Inv n s → Ev (fun k => F (k + 1) n s) r) : ∀ s, Inv 0 s → Ev (fun k => F k 0 s) r := by
  have key : ∀ m j s, n - j = m → j ≤ n → Inv j s → Ev (fun k => F k j s) r := by
    intro m
    induction m with
    | zero =>
      intro j s hm hj hI
      obtain rfl : j = n := by omega
      exact Ev.succ (f := fun k => F k j s) (he s hI)
    | succ m ih =>
      intro j s hm hj hI
      rcases hs j s (by omega) hI with h | ⟨s', hI', h⟩
      · exact Ev.succ (f := fun k => F k j s) h
      · exact Ev.succ (f := fun k => F k j s) (h (ih (j + 1) s' (by omega) (by omega) hI'))
  exact fun s hI => key n 0 s rfl (Nat.zero_le _) hI
theorem wi64_j {j : Nat} (h : j < 9223372036854775807) : wi64 ((j : Int) + 1) = ((j + 1 : Nat) : Int) := by
  rw [wi64_id (by omega) (by omega)]
  omega
theorem take_succ {α : Type} {l : List α} {j : Nat} (d : α) (h : j < l.length) : l.take (j + 1) = l.take j ++ [l.getD j d] := by
  rw [List.take_add_one, List.getElem?_eq_getElem h, List.getD_eq_getElem?_getD, List.getElem?_eq_getElem h]
  rfl
theorem wf8 {x : Int} (h : (Lit.int .u8 x).wf = true) : 0 ≤ x ∧ x < 256 := by
  simp [Lit.wf, IntKind.min, IntKind.max, IntKind.bits, IntKind.signed] at h
  omega
namespace Heap
section
variable {α : Type} (lt : α → α → Bool) (d : α)
/-- A strict order, all that differ compare. -/
structure Ord : Prop where
  asymm : ∀ a b, lt a b = true → lt b a = false
  trans : ∀ a b c, lt b a = false → lt c b = false → lt c a = false
def swap (l : List α) (i j : Nat) : List α := (l.set i (l.getD j d)).set j (l.getD i d)
def down : Nat → Nat → Nat → List α → Nat × List α
  | 0, _, i, l => (i, l)
  | f + 1, n, i, l =>
    if 2 * i + 1 ≥ n then (i, l)
    else
      let j := if 2 * i + 2 < n ∧ lt (l.getD (2 * i + 2) d) (l.getD (2 * i + 1) d) = true then 2 * i + 2 else 2 * i + 1
      if lt (l.getD j d) (l.getD i d) = true then down f n j (swap d l i j) else (i, l)
def up : Nat → Nat → List α → List α
  | 0, _, l => l
  | f + 1, j, l =>
    if j = 0 then l
    else if lt (l.getD j d) (l.getD ((j - 1) / 2) d) = true then up f ((j - 1) / 2) (swap d l ((j - 1) / 2) j) else l
/-- Parents from i0 on, but x, are ahead of their children below n. -/
def Ok (i0 n : Nat) (x : Option Nat) (l : List α) : Prop := ∀ p c, i0 ≤ p → x ≠ some p → (c = 2 * p + 1 ∨ c = 2 * p + 2) → c < n → lt (l.getD c d) (l.getD p d) = false
end
section
variable {α : Type} {lt : α → α → Bool} {d : α}
/-- The first one of a heap is ahead of all. -/
theorem Ok.min (ho : Ord lt) {n : Nat} {l : List α} (h : Ok lt d 0 n none l) : ∀ c, c < n → lt (l.getD c d) (l.getD 0 d) = false := by
  intro c
  induction c using Nat.strongRecOn with
  | ind c ih =>
    intro hc
    by_cases h0 : c = 0
    · subst h0
      cases hl : lt (l.getD 0 d) (l.getD 0 d) with
      | false => rfl
      | true => have := ho.asymm _ _ hl; rw [hl] at this; exact this
    · have h1 := ih ((c - 1) / 2) (by omega) (by omega)
      have h2 := h ((c - 1) / 2) c (Nat.zero_le _) (by simp) (by omega) hc
      exact ho.trans _ _ _ h1 h2
end
end Heap
namespace Heap
section
variable {α : Type} (lt : α → α → Bool)
end
section
variable {α : Type} {lt : α → α → Bool}
end
end Heap
end Go.WG
