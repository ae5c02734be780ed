/- Kinds of values, rows that are read, rows of the call's own. -/
import Derived.Test.YtnlpmnegjgjiiaaGreatDoorLb
import Derived.Laws.Sem
import Derived.Laws.Rows
import Derived.Laws.Append
namespace Go.WG
open Go.RowKit

structure Kd (α : Type) where
  sz : Nat
  rep : CH → α → List Value → Prop
  len : ∀ {F : CH} {x : α} {cs : List Value}, rep F x cs → cs.length = sz
  one : ∀ {F : CH} {x : α} {cs : List Value}, rep F x cs → ∀ u ∈ cs, u.oneCell' = true
  mono : ∀ {F F' : CH} {x : α} {cs : List Value}, CH.le F F' → rep F x cs → rep F' x cs
namespace Kd
def scalar {α : Type} (enc : α → Value) (h1 : ∀ x, (enc x).oneCell' = true) : Kd α where
  sz := 1
  rep := fun _ x cs => cs = [enc x]
  len := fun h => by rw [h]; rfl
  one := fun h u hu => by rw [h] at hu; rw [List.mem_singleton.1 hu]; exact h1 _
  mono := fun _ h => h
def int (k : IntKind) : Kd Int := scalar (Value.int k) (fun _ => rfl)
def bool : Kd Bool := scalar Value.bool (fun _ => rfl)
def str : Kd ByteArray := scalar Value.string (fun _ => rfl)
def arr {α : Type} (n : Nat) (enc : α → Value) (h1 : ∀ x, (enc x).oneCell' = true) : Kd (List α) where
  sz := n
  rep := fun _ x cs => cs = x.map enc ∧ x.length = n
  len := fun h => by rw [h.1, List.length_map, h.2]
  one := fun h u hu => by
    rw [h.1] at hu
    obtain ⟨y, _, rfl⟩ := List.mem_map.1 hu
    exact h1 y
  mono := fun _ h => h
def arrI (n : Nat) (k : IntKind) : Kd (List Int) := arr n (Value.int k) (fun _ => rfl)
def pair {α β : Type} (a : Kd α) (b : Kd β) : Kd (α × β) where
  sz := a.sz + b.sz
  rep := fun F x cs => ∃ c1 c2, cs = c1 ++ c2 ∧ a.rep F x.1 c1 ∧ b.rep F x.2 c2
  len := fun ⟨c1, c2, e, h1, h2⟩ => by rw [e, List.length_append, a.len h1, b.len h2]
  one := fun ⟨c1, c2, e, h1, h2⟩ u hu => by
    rw [e] at hu
    rcases List.mem_append.1 hu with hu | hu
    · exact a.one h1 u hu
    · exact b.one h2 u hu
  mono := fun hl ⟨c1, c2, e, h1, h2⟩ => ⟨c1, c2, e, a.mono hl h1, b.mono hl h2⟩
def iso {α β : Type} (d : Kd α) (f : β → α) : Kd β where
  sz := d.sz
  rep := fun F x cs => d.rep F (f x) cs
  len := d.len
  one := d.one
  mono := d.mono
def unit : Kd Unit where
  sz := 0
  rep := fun _ _ cs => cs = []
  len := fun h => by rw [h]; rfl
  one := fun h u hu => by rw [h] at hu; simp at hu
  mono := fun _ h => h
end Kd

/-- The elements of a slice: their cells lie in h, what they lead to is frozen. -/
def Sl {α : Type} (K : Kd α) (F h : CH) (A : Option Addr) (xs : List α) : Prop :=
  0 < xs.length → ∃ b off, A = some ⟨b, off, none⟩ ∧ ∀ j x, xs[j]? = some x → ∃ cs, K.rep F x cs ∧ ∀ i u, cs[i]? = some u → h b (off + j * K.sz + i) = some (.v u)
section
variable {α : Type} {K : Kd α} {F F' h h' : CH} {A : Option Addr} {xs : List α}
theorem Sl.nil (K : Kd α) (F h : CH) (A : Option Addr) : Sl K F h A [] := fun hp => by simp at hp
theorem Sl.mono (k : Sl K F h A xs) (hF : CH.le F F') (hh : CH.le h h') : Sl K F' h' A xs := fun hp => by
  obtain ⟨b, off, e, hx⟩ := k hp
  refine ⟨b, off, e, fun j x hj => ?_⟩
  obtain ⟨cs, hr, hc⟩ := hx j x hj
  exact ⟨cs, K.mono hF hr, fun i u hu => hh _ _ _ (hc i u hu)⟩
theorem Sl.get (k : Sl K F h A xs) (j : Nat) (x : α) (hj : xs[j]? = some x) : ∃ b off cs, A = some ⟨b, off, none⟩ ∧ K.rep F x cs ∧ ∀ i u, cs[i]? = some u → h b (off + j * K.sz + i) = some (.v u) := by
  have hp : 0 < xs.length := by have := (List.getElem?_eq_some_iff.1 hj).1; omega
  obtain ⟨b, off, e, hx⟩ := k hp
  obtain ⟨cs, hr, hc⟩ := hx j x hj
  exact ⟨b, off, cs, e, hr, hc⟩
theorem Sl.take (k : Sl K F h A xs) (n : Nat) : Sl K F h A (xs.take n) := fun hp => by
  have hp' : 0 < xs.length := by rw [List.length_take] at hp; omega
  obtain ⟨b, off, e, hx⟩ := k hp'
  refine ⟨b, off, e, fun j x hj => hx j x ?_⟩
  rw [List.getElem?_take] at hj
  split at hj
  · exact hj
  · cases hj
theorem Sl.drop (k : Sl K F h A xs) (n c : Nat) (hc : xs.length ≤ c) : Sl K F h (if c = n then A else A.map (·.add (n * K.sz))) (xs.drop n) := fun hp => by
  rw [List.length_drop] at hp
  obtain ⟨b, off, rfl, hx⟩ := k (by omega)
  rw [if_neg (by omega)]
  refine ⟨b, off + n * K.sz, ?_, fun j x hj => ?_⟩
  · simp only [Option.map_some, Addr.add]
    split
    · rename_i h0; rw [h0, Nat.add_zero]
    · rfl
  · rw [List.getElem?_drop] at hj
    obtain ⟨cs, hr, hcc⟩ := hx (n + j) x hj
    refine ⟨cs, hr, fun i u hu => ?_⟩
    rw [show off + n * K.sz + j * K.sz + i = off + (n + j) * K.sz + i from by rw [Nat.add_mul]; omega]
    exact hcc i u hu
end
namespace Kd
def slice {α : Type} (K : Kd α) : Kd (List α) where
  sz := 1
  rep := fun F xs cs => ∃ A c, cs = [.slice A xs.length c] ∧ xs.length ≤ c ∧ c ≤ maxLen ∧ Sl K F F A xs
  len := fun ⟨_, _, e, _⟩ => by rw [e]; rfl
  one := fun ⟨_, _, e, _⟩ u hu => by rw [e] at hu; rw [List.mem_singleton.1 hu]; rfl
  mono := fun hl ⟨A, c, e, hc, hm, hs⟩ => ⟨A, c, e, hc, hm, hs.mono hl hl⟩
end Kd

/-- The cells of a row hold these elements, one behind the other. -/
def Els {α : Type} (K : Kd α) (F : CH) (xs : List α) (cs : List Value) : Prop :=
  xs.length * K.sz ≤ cs.length ∧ ∀ j x, xs[j]? = some x → K.rep F x ((cs.drop (j * K.sz)).take K.sz)
/-- A row of the call's own: it may be written and appended to. -/
def Row {α : Type} (K : Kd α) (F p : CH) (v : Value) (xs : List α) : Prop :=
  (v = .slice none 0 0 ∧ xs = [] ∧ p = CH.emp) ∨
  ∃ g off cap cur, v = .slice (some ⟨g, off, none⟩) xs.length cap ∧ xs.length ≤ cap ∧ cap ≤ maxLen ∧ p = CH.row g off cur ∧ cur.length = cap * K.sz ∧ (∀ u ∈ cur, u.oneCell' = true) ∧ Els K F xs cur
section
variable {α : Type} {K : Kd α} {F F' p : CH} {v : Value} {xs : List α}
theorem Els.mono {cs : List Value} (h : Els K F xs cs) (hl : CH.le F F') : Els K F' xs cs := ⟨h.1, fun j x hj => K.mono hl (h.2 j x hj)⟩
theorem Els.take {cs : List Value} (h : Els K F xs cs) (n : Nat) : Els K F (xs.take n) cs := by
  refine ⟨Nat.le_trans (Nat.mul_le_mul_right _ (by rw [List.length_take]; omega)) h.1, fun j x hj => h.2 j x ?_⟩
  rw [List.getElem?_take] at hj
  split at hj
  · exact hj
  · cases hj
theorem Els.drop {cs : List Value} (h : Els K F xs cs) (n : Nat) : Els K F (xs.drop n) (cs.drop (n * K.sz)) := by
  refine ⟨by rw [List.length_drop, List.length_drop, Nat.sub_mul]; have := h.1; omega, fun j x hj => ?_⟩
  rw [List.getElem?_drop] at hj
  have := h.2 (n + j) x hj
  rwa [Nat.add_mul, ← List.drop_drop] at this
theorem Els.append {ys : List α} {cs ds more : List Value} (h : Els K F xs cs) (hc : cs.length = xs.length * K.sz) (k : Els K F ys ds) : Els K F (xs ++ ys) (cs ++ ds ++ more) := by
  refine ⟨by rw [List.length_append, Nat.add_mul, List.length_append, List.length_append, hc]; have := k.1; omega, fun j x hj => ?_⟩
  by_cases hlt : j < xs.length
  · rw [List.getElem?_append_left hlt] at hj
    have h1 := h.2 j x hj
    have hle : j * K.sz + K.sz ≤ cs.length := by rw [hc, ← Nat.succ_mul]; exact Nat.mul_le_mul_right _ hlt
    rw [List.append_assoc, List.drop_append_of_le_length (by omega), List.take_append_of_le_length (by rw [List.length_drop]; omega)]
    exact h1
  · rw [List.getElem?_append_right (by omega)] at hj
    have h1 := k.2 _ x hj
    have hjl := (List.getElem?_eq_some_iff.1 hj).1
    have he : j * K.sz = cs.length + (j - xs.length) * K.sz := by rw [hc, ← Nat.add_mul]; congr 1; omega
    have hle : (j - xs.length) * K.sz + K.sz ≤ ds.length := Nat.le_trans (by rw [← Nat.succ_mul]; exact Nat.mul_le_mul_right _ hjl) k.1
    rw [List.append_assoc, he, ← List.drop_drop, List.drop_left, List.drop_append_of_le_length (by omega), List.take_append_of_le_length (by rw [List.length_drop]; omega)]
    exact h1
theorem Els.cut {cs : List Value} (h : Els K F xs cs) : Els K F xs (cs.take (xs.length * K.sz)) := by
  refine ⟨by rw [List.length_take]; have := h.1; omega, fun j x hj => ?_⟩
  have hjl := (List.getElem?_eq_some_iff.1 hj).1
  have h1 := h.2 j x hj
  have hle : j * K.sz + K.sz ≤ xs.length * K.sz := by rw [← Nat.succ_mul]; exact Nat.mul_le_mul_right _ hjl
  rwa [List.drop_take, List.take_take, Nat.min_eq_left (by omega)]
/-- One element written. -/
theorem Els.set {cs es : List Value} (h : Els K F xs cs) (j : Nat) (y : α) (hy : K.rep F y es) (hj : j < xs.length) : Els K F (xs.set j y) (cs.take (j * K.sz) ++ es ++ cs.drop (j * K.sz + K.sz)) := by
  have hes := K.len hy
  have hle : j * K.sz + K.sz ≤ cs.length := Nat.le_trans (by rw [← Nat.succ_mul]; exact Nat.mul_le_mul_right _ hj) h.1
  refine ⟨by rw [List.length_set, List.length_append, List.length_append, List.length_take, List.length_drop, hes]; have := h.1; omega, fun i x hi => ?_⟩
  by_cases hij : i = j
  · subst hij
    rw [List.getElem?_set_self hj] at hi
    injection hi with hi
    subst hi
    rw [List.append_assoc, List.drop_append_of_le_length (by rw [List.length_take]; omega), List.drop_eq_nil_of_le (by rw [List.length_take]; omega), List.nil_append, List.take_append_of_le_length (by omega), List.take_of_length_le (by omega)]
    exact hy
  · rw [List.getElem?_set_ne (Ne.symm hij)] at hi
    have hil := (List.getElem?_eq_some_iff.1 hi).1
    have h1 := h.2 i x hi
    suffices hs : ((cs.take (j * K.sz) ++ es ++ cs.drop (j * K.sz + K.sz)).drop (i * K.sz)).take K.sz = (cs.drop (i * K.sz)).take K.sz by rw [hs]; exact h1
    rcases Nat.lt_or_ge i j with hlt | hge
    · have hle2 : i * K.sz + K.sz ≤ j * K.sz := by rw [← Nat.succ_mul]; exact Nat.mul_le_mul_right _ hlt
      rw [List.append_assoc, List.drop_append_of_le_length (by rw [List.length_take]; omega), List.take_append_of_le_length (by rw [List.length_drop, List.length_take]; omega), List.drop_take, List.take_take, Nat.min_eq_left (by omega)]
    · have hgt : j < i := by omega
      have hle2 : j * K.sz + K.sz ≤ i * K.sz := by rw [← Nat.succ_mul]; exact Nat.mul_le_mul_right _ hgt
      have hl : (cs.take (j * K.sz) ++ es).length = j * K.sz + K.sz := by rw [List.length_append, List.length_take, hes]; omega
      rw [List.drop_append, List.drop_eq_nil_of_le (by rw [hl]; exact hle2), List.nil_append, hl, List.drop_drop]
      congr 2
      omega
theorem Row.mono (h : Row K F p v xs) (hl : CH.le F F') : Row K F' p v xs := by
  rcases h with h | ⟨g, off, cap, cur, h1, h2, h3, h4, h5, h6, h7⟩
  · exact .inl h
  · exact .inr ⟨g, off, cap, cur, h1, h2, h3, h4, h5, h6, h7.mono hl⟩
theorem Row.nil (K : Kd α) (F : CH) : Row K F CH.emp (.slice none 0 0) [] := .inl ⟨rfl, rfl, rfl⟩
/-- The slice's value laid open. -/
theorem Row.open_ (h : Row K F p v xs) : ∃ A c, v = .slice A xs.length c ∧ xs.length ≤ c ∧ c ≤ maxLen ∧ Sl K F p A xs := by
  rcases h with ⟨rfl, rfl, rfl⟩ | ⟨g, off, cap, cur, h1, h2, h3, rfl, h5, h6, h7⟩
  · exact ⟨none, 0, rfl, Nat.le_refl _, by simp [maxLen], Sl.nil _ _ _ _⟩
  · refine ⟨_, cap, h1, h2, h3, fun _ => ⟨g, off, rfl, fun j x hj => ⟨_, h7.2 j x hj, fun i u hu => ?_⟩⟩⟩
    rw [List.getElem?_take] at hu
    split at hu
    · rw [List.getElem?_drop] at hu
      rw [Nat.add_assoc]
      exact CH.row_get hu
    · cases hu
/-- Frozen: it is only read from here on. -/
theorem Row.freeze (h : Row K F p v xs) (hd : CH.dis F p) : (Kd.slice K).rep (CH.join F p) xs [v] := by
  obtain ⟨A, c, rfl, h2, h3, h4⟩ := h.open_
  exact ⟨A, c, rfl, h2, h3, h4.mono (CH.le_joinL _ _) (CH.le_joinR hd)⟩
end
end Go.WG
