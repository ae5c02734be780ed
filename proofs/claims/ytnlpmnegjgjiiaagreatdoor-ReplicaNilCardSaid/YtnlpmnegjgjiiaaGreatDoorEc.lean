/- The relation between a closed run's values and memory and the model's. -/
import Derived.Test.YtnlpmnegjgjiiaaGreatDoorEb
import Derived.Deep.AppendSrc
import Derived.Deep.MidRow
import Derived.Deep.Upon
namespace Go.CE
open Go Go.RowKit
set_option linter.all false
/-- Where an object stands: its block, its first cell, and how many cells its room has. -/
structure Loc where
  b : Nat
  f : Nat
  e : Nat
abbrev Rh := Nat → Option Loc
def Rh.le (a b : Rh) : Prop := ∀ r L, a r = some L → b r = some L
theorem Rh.le_refl (a : Rh) : Rh.le a a := fun _ _ h => h
theorem Rh.le_trans {a b c : Rh} (h : Rh.le a b) (k : Rh.le b c) : Rh.le a c := fun r L q => k r L (h r L q)
/-- One cell? -/
def one : V → Bool
  | .u => false
  | .a _ => false
  | .t _ => false
  | .z => false
  | _ => true
def bytesL (d : ByteArray) : List Nat := d.data.toList.map UInt8.toNat
/-- A value of the model's that a closed run's value tells. -/
inductive Rv (ρ : Rh) (X : Nat → Value) : V → Value → Prop
  | u (x : Value) : Rv ρ X .u x
  | z : Rv ρ X .z undef
  | w (x : Value) (h : x.oneCell' = true) : Rv ρ X .w x
  | b (t : Bool) : Rv ρ X (.b t) (.bool t)
  | i (k : IntKind) (n : Int) : Rv ρ X (.i k n) (.int k n)
  | s (d : ByteArray) : Rv ρ X (.s (bytesL d)) (.string d)
  | p (r o : Nat) (L : Loc) (h : ρ r = some L) : Rv ρ X (.p r o) (.pointer (some ⟨L.b, L.f + o, none⟩))
  | g (r o : Nat) : Rv ρ X (.g r o) (.pointer (some ⟨r, o, none⟩))
  | pn : Rv ρ X .pn (.pointer none)
  | lc (r o n c z : Nat) (L : Loc) (a : Addr) (h : ρ r = some L) (hn : n ≤ c) (hm : c ≤ maxLen) (ha : c ≠ 0 → a = ⟨L.b, L.f + o, none⟩) : Rv ρ X (.l r o n (some c) z) (.slice (some a) n c)
  | lo (r o n c z : Nat) (L : Loc) (a : Addr) (h : ρ r = some L) (hn : n ≤ c) (hm : c ≤ maxLen) (he : o + c * z = L.e) (ha : c ≠ 0 → a = ⟨L.b, L.f + o, none⟩) : Rv ρ X (.l r o n none z) (.slice (some a) n c)
  | ln : Rv ρ X .ln (.slice none 0 0)
  | m (r : Nat) (L : Loc) (h : ρ r = some L) : Rv ρ X (.m r) (.map (some L.b))
  | mn : Rv ρ X .mn (.map none)
  | f (k : Nat) (fs cs : List V) (xs ys : List Value) (h1 : fs.length = xs.length) (h2 : cs.length = ys.length) (h3 : ∀ (i : Nat) v x, fs[i]? = some v → xs[i]? = some x → Rv ρ X v x) (h4 : ∀ (i : Nat) v x, cs[i]? = some v → ys[i]? = some x → Rv ρ X v x) : Rv ρ X (.f k fs cs) (.func (.func k) xs.toArray ys.toArray)
  | fn : Rv ρ X .fn .nilFunc
  | n (t : Nat) (v : V) (x : Value) (h : Rv ρ X v x) : Rv ρ X (.n t v) (.iface t x)
  | nn : Rv ρ X .nn .nilIface
  | a (l : List V) (xs : List Value) (h1 : l.length = xs.length) (h2 : ∀ (i : Nat) v x, l[i]? = some v → xs[i]? = some x → Rv ρ X v x) (h3 : ∀ v ∈ l, one v = true) : Rv ρ X (.a l) (.agg xs.toArray)
  | t (l : List V) (xs : List Value) (h1 : l.length = xs.length) (h2 : ∀ (i : Nat) v x, l[i]? = some v → xs[i]? = some x → Rv ρ X v x) : Rv ρ X (.t l) (.tuple xs.toArray)
  | x (j : Nat) (h : (X j).oneCell' = true) : Rv ρ X (.x j) (X j)
  | q (k : IntKind) (n : Int) : Rv ρ X (.q k) (.int k n)
theorem Rv.mono {ρ ρ' : Rh} {X : Nat → Value} (hl : Rh.le ρ ρ') {v : V} {x : Value} (h : Rv ρ X v x) : Rv ρ' X v x := by
  induction h with
  | u x => exact .u x
  | z => exact .z
  | w x h => exact .w x h
  | b t => exact .b t
  | i k n => exact .i k n
  | s d => exact .s d
  | p r o L h => exact .p r o L (hl _ _ h)
  | g r o => exact .g r o
  | pn => exact .pn
  | lc r o n c z L a h hn hm ha => exact .lc r o n c z L a (hl _ _ h) hn hm ha
  | lo r o n c z L a h hn hm he ha => exact .lo r o n c z L a (hl _ _ h) hn hm he ha
  | ln => exact .ln
  | m r L h => exact .m r L (hl _ _ h)
  | mn => exact .mn
  | f k fs cs xs ys h1 h2 h3 h4 ih3 ih4 => exact .f k fs cs xs ys h1 h2 ih3 ih4
  | fn => exact .fn
  | n t v x h ih => exact .n t v x ih
  | nn => exact .nn
  | a l xs h1 h2 h3 ih => exact .a l xs h1 ih h3
  | t l xs h1 h2 ih => exact .t l xs h1 ih
  | x j h => exact .x j h
  | q k n => exact .q k n
/-- Lists of values. -/
structure RL (ρ : Rh) (X : Nat → Value) (l : List V) (xs : List Value) : Prop where
  len : l.length = xs.length
  at_ : ∀ (i : Nat) v x, l[i]? = some v → xs[i]? = some x → Rv ρ X v x
/-- Cells. -/
structure Cs (ρ : Rh) (X : Nat → Value) (l : List V) (xs : List Value) : Prop extends RL ρ X l xs where
  one : ∀ v ∈ l, one v = true
section
variable {ρ ρ' : Rh} {X : Nat → Value} {l l' : List V} {xs ys : List Value} {v : V} {x : Value}
theorem RL.mono (hl : Rh.le ρ ρ') (h : RL ρ X l xs) : RL ρ' X l xs := ⟨h.len, fun i v x h1 h2 => (h.at_ i v x h1 h2).mono hl⟩
theorem Cs.mono (hl : Rh.le ρ ρ') (h : Cs ρ X l xs) : Cs ρ' X l xs := ⟨h.toRL.mono hl, h.one⟩
theorem RL.nil : RL ρ X [] [] := ⟨rfl, fun i v x h => by simp at h⟩
theorem RL.cons (h : Rv ρ X v x) (k : RL ρ X l xs) : RL ρ X (v :: l) (x :: xs) := ⟨by simp [k.len], fun i u y h1 h2 => by
  cases i with
  | zero => simp at h1 h2; subst h1; subst h2; exact h
  | succ i => exact k.at_ i u y (by simpa using h1) (by simpa using h2)⟩
theorem RL.get (h : RL ρ X l xs) {i : Nat} (hv : l[i]? = some v) : ∃ x, xs[i]? = some x ∧ Rv ρ X v x := by
  have hi : i < xs.length := by rw [← h.len]; exact (List.getElem?_eq_some_iff.1 hv).1
  exact ⟨xs[i], List.getElem?_eq_getElem hi, h.at_ i _ _ hv (List.getElem?_eq_getElem hi)⟩
theorem RL.append {m : List V} {ys : List Value} (h : RL ρ X l xs) (k : RL ρ X m ys) : RL ρ X (l ++ m) (xs ++ ys) := ⟨by simp [h.len, k.len], fun i v x h1 h2 => by
  by_cases hi : i < l.length
  · rw [List.getElem?_append_left hi] at h1
    rw [List.getElem?_append_left (by rw [← h.len]; exact hi)] at h2
    exact h.at_ i v x h1 h2
  · rw [List.getElem?_append_right (by omega)] at h1
    rw [List.getElem?_append_right (by rw [← h.len]; omega), ← h.len] at h2
    exact k.at_ _ v x h1 h2⟩
theorem RL.take (h : RL ρ X l xs) (n : Nat) : RL ρ X (l.take n) (xs.take n) := ⟨by simp [h.len], fun i v x h1 h2 => by
  rw [List.getElem?_take] at h1 h2
  split at h1
  · rename_i hi
    rw [if_pos hi] at h2
    exact h.at_ i v x h1 h2
  · cases h1⟩
theorem RL.drop (h : RL ρ X l xs) (n : Nat) : RL ρ X (l.drop n) (xs.drop n) := ⟨by simp [h.len], fun i v x h1 h2 => by
  rw [List.getElem?_drop] at h1 h2
  exact h.at_ _ v x h1 h2⟩
theorem RL.map {α : Type} {f : α → V} {g : α → Value} (as : List α) (h : ∀ a ∈ as, Rv ρ X (f a) (g a)) : RL ρ X (as.map f) (as.map g) := by
  induction as with
  | nil => exact .nil
  | cons a as ih => exact .cons (h a List.mem_cons_self) (ih fun b hb => h b (List.mem_cons_of_mem _ hb))
theorem Cs.nil : Cs ρ X [] [] := ⟨.nil, fun v h => by cases h⟩
theorem Cs.append {m : List V} {ys : List Value} (h : Cs ρ X l xs) (k : Cs ρ X m ys) : Cs ρ X (l ++ m) (xs ++ ys) :=
  ⟨h.toRL.append k.toRL, fun v hv => (List.mem_append.1 hv).elim (h.one v) (k.one v)⟩
theorem Cs.take (h : Cs ρ X l xs) (n : Nat) : Cs ρ X (l.take n) (xs.take n) := ⟨h.toRL.take n, fun v hv => h.one v (List.mem_of_mem_take hv)⟩
theorem Cs.drop (h : Cs ρ X l xs) (n : Nat) : Cs ρ X (l.drop n) (xs.drop n) := ⟨h.toRL.drop n, fun v hv => h.one v (List.mem_of_mem_drop hv)⟩
theorem Cs.flat (h : Cs ρ X l xs) (n : Nat) : Cs ρ X (List.replicate n l).flatten (List.replicate n xs).flatten := by
  induction n with
  | zero => exact .nil
  | succ n ih => exact h.append ih
theorem oneCell (h : Rv ρ X v x) (h1 : one v = true) : x.oneCell' = true := by
  cases h <;> first | rfl | (cases h1; done) | assumption
theorem Cs.cell1 (h : Cs ρ X l xs) : ∀ x ∈ xs, x.oneCell' = true := fun x hx => by
  obtain ⟨i, hi, rfl⟩ := List.getElem_of_mem hx
  have hi' : i < l.length := by rw [h.len]; exact hi
  exact oneCell (h.at_ i _ _ (List.getElem?_eq_getElem hi') (List.getElem?_eq_getElem hi)) (h.one _ (List.getElem_mem hi'))
theorem cellsR (h : Rv ρ X v x) (hc : cells v = some l) : Cs ρ X l x.cells.toList := by
  have k1 : ∀ {v : V} {x : Value}, Rv ρ X v x → one v = true → x.cells = #[x] → Cs ρ X [v] x.cells.toList := fun {v x} h h1 hx => by
    rw [hx]
    exact ⟨.cons h .nil, fun u hu => by rw [List.mem_singleton.1 hu]; exact h1⟩
  have k2 : ∀ {x : Value}, x.oneCell' = true → x.cells = #[x] := fun {x} h => by
    cases x <;> first | rfl | cases h
  cases h with
  | u x => cases hc
  | z => cases hc
  | t l xs h1 h2 => cases hc
  | a l xs h1 h2 h3 => cases hc; exact ⟨⟨h1, h2⟩, h3⟩
  | w x h => cases hc; exact k1 (.w x h) rfl (k2 h)
  | b t => cases hc; exact k1 (.b t) rfl rfl
  | i k n => cases hc; exact k1 (.i k n) rfl rfl
  | s d => cases hc; exact k1 (.s d) rfl rfl
  | p r o L h => cases hc; exact k1 (.p r o L h) rfl rfl
  | g r o => cases hc; exact k1 (.g r o) rfl rfl
  | pn => cases hc; exact k1 .pn rfl rfl
  | lc r o n c z L a h hn hm ha => cases hc; exact k1 (.lc r o n c z L a h hn hm ha) rfl rfl
  | lo r o n c z L a h hn hm he ha => cases hc; exact k1 (.lo r o n c z L a h hn hm he ha) rfl rfl
  | ln => cases hc; exact k1 .ln rfl rfl
  | m r L h => cases hc; exact k1 (.m r L h) rfl rfl
  | mn => cases hc; exact k1 .mn rfl rfl
  | f k fs cs xs ys h1 h2 h3 h4 => cases hc; exact k1 (.f k fs cs xs ys h1 h2 h3 h4) rfl rfl
  | fn => cases hc; exact k1 .fn rfl rfl
  | n t v x h => cases hc; exact k1 (.n t v x h) rfl rfl
  | nn => cases hc; exact k1 .nn rfl rfl
  | x j h => cases hc; exact k1 (.x j h) rfl (k2 h)
  | q k n => cases hc; exact k1 (.q k n) rfl rfl
/-! Inversions. -/
theorem Rv.arg {j : Nat} (h : Rv ρ X (.x j) x) : x = X j := by cases h; rfl
theorem Rv.some_ {k : IntKind} (h : Rv ρ X (.q k) x) : ∃ n, x = .int k n := by cases h; exact ⟨_, rfl⟩
theorem Rv.int {k : IntKind} {n : Int} (h : Rv ρ X (.i k n) x) : x = .int k n := by cases h; rfl
theorem Rv.bool {t : Bool} (h : Rv ρ X (.b t) x) : x = .bool t := by cases h; rfl
theorem Rv.str {l : List Nat} (h : Rv ρ X (.s l) x) : ∃ d, x = .string d ∧ l = bytesL d := by cases h; exact ⟨_, rfl, rfl⟩
theorem Rv.ptr {r o : Nat} (h : Rv ρ X (.p r o) x) : ∃ L, ρ r = some L ∧ x = .pointer (some ⟨L.b, L.f + o, none⟩) := by cases h; exact ⟨_, ‹_›, rfl⟩
theorem Rv.glb {r o : Nat} (h : Rv ρ X (.g r o) x) : x = .pointer (some ⟨r, o, none⟩) := by cases h; rfl
theorem Rv.agg {l : List V} (h : Rv ρ X (.a l) x) : ∃ xs, x = .agg xs.toArray ∧ Cs ρ X l xs := by cases h; exact ⟨_, rfl, ⟨‹_›, ‹_›⟩, ‹_›⟩
theorem Rv.tup {l : List V} (h : Rv ρ X (.t l) x) : ∃ xs, x = .tuple xs.toArray ∧ RL ρ X l xs := by cases h; exact ⟨_, rfl, ‹_›, ‹_›⟩
theorem Rv.slc {r o n z : Nat} {c : Option Nat} (h : Rv ρ X (.l r o n c z) x) : ∃ L a C, ρ r = some L ∧ x = .slice (some a) n C ∧ n ≤ C ∧ (C ≠ 0 → a = ⟨L.b, L.f + o, none⟩) ∧ (∀ c', c = some c' → C = c') ∧ (c = none → o + C * z = L.e) ∧ C ≤ maxLen := by
  cases h with
  | lc r o n c z L a h hn hm ha => exact ⟨L, a, c, h, rfl, hn, ha, fun c' e => (Option.some.inj e), fun e => (by cases e), hm⟩
  | lo r o n c z L a h hn hm he ha => exact ⟨L, a, c, h, rfl, hn, ha, fun c' e => (by cases e), fun _ => he, hm⟩
theorem Rv.slc_mk {r o n z C : Nat} {c : Option Nat} {L : Loc} {a : Addr} (h : ρ r = some L) (hn : n ≤ C) (hm : C ≤ maxLen) (ha : C ≠ 0 → a = ⟨L.b, L.f + o, none⟩) (h1 : ∀ c', c = some c' → C = c') (h2 : c = none → o + C * z = L.e) : Rv ρ X (.l r o n c z) (.slice (some a) n C) := by
  cases c with
  | none => exact .lo r o n C z L a h hn hm (h2 rfl) ha
  | some c' => obtain rfl := h1 c' rfl; exact .lc r o n C z L a h hn hm ha
theorem Rv.lnil (h : Rv ρ X .ln x) : x = .slice none 0 0 := by cases h; rfl
theorem Rv.map_ {r : Nat} (h : Rv ρ X (.m r) x) : ∃ L, ρ r = some L ∧ x = .map (some L.b) := by cases h; exact ⟨_, ‹_›, rfl⟩
theorem Rv.mnil (h : Rv ρ X .mn x) : x = .map none := by cases h; rfl
theorem Rv.ifc {t : Nat} (h : Rv ρ X (.n t v) x) : ∃ y, x = .iface t y ∧ Rv ρ X v y := by cases h; exact ⟨_, rfl, ‹_›⟩
theorem Rv.inil (h : Rv ρ X .nn x) : x = .nilIface := by cases h; rfl
theorem Rv.fnc {k : Nat} {fs cs : List V} (h : Rv ρ X (.f k fs cs) x) : ∃ xs ys, x = .func (.func k) xs.toArray ys.toArray ∧ RL ρ X fs xs ∧ RL ρ X cs ys := by cases h; exact ⟨_, _, rfl, ⟨‹_›, ‹_›⟩, ⟨‹_›, ‹_›⟩⟩
theorem Rv.fnil (h : Rv ρ X .fn x) : x = .nilFunc := by cases h; rfl
theorem Rv.pnil (h : Rv ρ X .pn x) : x = .pointer none := by cases h; rfl
theorem Rv.und (h : Rv ρ X .z x) : x = undef := by cases h; rfl
theorem Rv.agg_mk (h : Cs ρ X l xs) : Rv ρ X (.a l) (.agg xs.toArray) := .a l xs h.len h.at_ h.one
theorem Rv.tup_mk (h : RL ρ X l xs) : Rv ρ X (.t l) (.tuple xs.toArray) := .t l xs h.len h.at_
theorem Rv.int_of {k : IntKind} {n : Int} (hv : v = .i k n) (h : Rv ρ X v x) : x = .int k n := by subst hv; exact h.int
/-! Constants. -/
theorem ofV1_R (x : Value) : Rv ρ X (ofV1 x) x := by
  unfold ofV1
  split
  · exact .b _
  · exact .i _ _
  · exact .s _
  · exact .pn
  · exact .ln
  · exact .mn
  · exact .fn
  · exact .nn
  · exact .u _
theorem ofV1_one (x : Value) (h : isU (ofV1 x) = false) : one (ofV1 x) = true := by
  unfold ofV1 at h ⊢
  split <;> first | rfl | (exfalso; revert h; simp [isU])
theorem ofV_R (x : Value) : Rv ρ X (ofV x) x := by
  unfold ofV
  split
  · rename_i cs
    cases h : mpo ofV2 cs.toList with
    | none => exact .u _
    | some l =>
      obtain ⟨h1, h2⟩ := mpo_some h
      have : Cs ρ X l cs.toList := by
        refine ⟨⟨h1, fun i v y hv hy => ?_⟩, fun v hv => ?_⟩
        · obtain ⟨v', h3, h4⟩ := h2 i y hy
          rw [hv] at h3
          cases h3
          obtain ⟨_, h5⟩ := condn_some.1 h4
          cases h5
          exact ofV1_R y
        · obtain ⟨i, hi, rfl⟩ := List.getElem_of_mem hv
          obtain ⟨v', h3, h4⟩ := h2 i _ (List.getElem?_eq_getElem (by rw [← h1]; exact hi))
          rw [List.getElem?_eq_getElem hi] at h3
          cases h3
          obtain ⟨h5, h6⟩ := condn_some.1 h4
          injection h6 with h6
          rw [← h6]
          exact ofV1_one _ h5
      exact (show Rv ρ X (.a l) (.agg cs) from by simpa using Rv.agg_mk this)
  · exact ofV1_R _
end
/-! Memory. -/
theorem heap_size_setCells (b : Nat) : ∀ (vs : List Value) (o : Nat) (w : World), (w.setCells b o vs).heap.size = w.heap.size
  | [], _, _ => rfl
  | v :: r, o, w => by rw [World.setCells, heap_size_setCells b r]; simp [World.setCell]
theorem tape_setCells (b : Nat) : ∀ (vs : List Value) (o : Nat) (w : World), (w.setCells b o vs).tape = w.tape
  | [], _, _ => rfl
  | v :: r, o, w => by rw [World.setCells, tape_setCells b r]; rfl
/-- Is it there? -/
def live : Option Ob → Prop
  | some (.c _ _) => True
  | some (.m _ _) => True
  | _ => False
/-- An entry of a map. -/
structure REn (ρ : Rh) (X : Nat → Value) (h : Nat × V × V) (e : MapEntry) : Prop where
  born : h.1 = e.born
  key : Rv ρ X h.2.1 e.key
  val : Rv ρ X h.2.2 e.val
def Ents (ρ : Rh) (X : Nat → Value) (l : En) (es : List MapEntry) : Prop := l.length = es.length ∧ ∀ (i : Nat) (h : Nat × V × V) (e : MapEntry), (l : List (Nat × V × V))[i]? = some h → es[i]? = some e → REn ρ X h e
/-- What stands at a place. -/
def Ok (ρ : Rh) (X : Nat → Value) (w : World) (L : Loc) : Option Ob → Prop
  | some (.c l ex) => (∃ xs, Cs ρ X l xs ∧ w.rangeAt L.b L.f xs) ∧ w.there L.b L.f L.e ∧ l.length ≤ L.e ∧ (ex = true → l.length = L.e)
  | some (.m l ck) => (∃ es, w.heap[L.b]? = some (.map es ck) ∧ Ents ρ X l es.toList) ∧ L.f = 0 ∧ L.e = 1
  | some .dead => True
  | none => False
/-- Memory: B is the first block of the run's own; w0 is the world at its beginning. -/
structure Wd (X : Nat → Value) (B : Nat) (w0 : World) (ρ : Rh) (M : Mem) (w : World) : Prop where
  low : Below B w0 w
  size : B ≤ w.heap.size
  free : ∀ r, M.nx ≤ r → M.T.get r = none
  obj : ∀ r L, ρ r = some L → r < M.nx ∧ B ≤ L.b ∧ L.b < w.heap.size ∧ Ok ρ X w L (M.T.get r)
  apart : ∀ r r' L L', r ≠ r' → ρ r = some L → ρ r' = some L' → live (M.T.get r) → live (M.T.get r') → L.b ≠ L'.b ∨ L.f + L.e ≤ L'.f ∨ L'.f + L'.e ≤ L.f
/-- What a run leaves of what was: numbers keep their places; what has none is as it was. -/
structure Post (X : Nat → Value) (B : Nat) (w0 : World) (ρ : Rh) (M : Mem) (ρ' : Rh) (M' : Mem) (w' : World) : Prop where
  le : Rh.le ρ ρ'
  nx : M.nx ≤ M'.nx
  keep : ∀ r, r < M.nx → ρ r = none → M'.T.get r = M.T.get r ∧ ρ' r = none
  wd : Wd X B w0 ρ' M' w'
section
variable {X : Nat → Value} {B : Nat} {w0 w w' : World} {ρ ρ' : Rh} {M M' : Mem}
theorem Post.refl (h : Wd X B w0 ρ M w) : Post X B w0 ρ M ρ M w := ⟨Rh.le_refl _, Nat.le_refl _, fun r _ h => ⟨rfl, h⟩, h⟩
theorem Post.trans {ρ1 : Rh} {M1 : Mem} {w1 : World} (h : Post X B w0 ρ M ρ1 M1 w1) (k : Post X B w0 ρ1 M1 ρ' M' w') : Post X B w0 ρ M ρ' M' w' :=
  ⟨Rh.le_trans h.le k.le, Nat.le_trans h.nx k.nx, fun r hr hn => by
    obtain ⟨h1, h2⟩ := h.keep r hr hn
    obtain ⟨h3, h4⟩ := k.keep r (Nat.lt_of_lt_of_le hr h.nx) h2
    exact ⟨h3.trans h1, h4⟩, k.wd⟩
theorem Wd.isThere (h : Wd X B w0 ρ M w) {r : Nat} {L : Loc} (hr : ρ r = some L) : M.T.get r ≠ none := by
  intro e
  have := (h.obj r L hr).2.2.2
  rw [e] at this
  exact this
theorem objAt_some {r : Nat} {q : List V × Bool} (h : objAt M r = some q) : M.T.get r = some (.c q.1 q.2) := by
  obtain ⟨o, h1, h2⟩ := ob_some.1 h
  rw [h1]
  cases o with
  | c l e => cases h2; rfl
  | m l c => cases h2
  | dead => cases h2
theorem mapAt_some {r : Nat} {q : En × Nat} (h : mapAt M r = some q) : M.T.get r = some (.m q.1 q.2) := by
  obtain ⟨o, h1, h2⟩ := ob_some.1 h
  rw [h1]
  cases o with
  | c l e => cases h2
  | m l c => cases h2; rfl
  | dead => cases h2
/-- An object's cells. -/
theorem Wd.cells (h : Wd X B w0 ρ M w) {r : Nat} {L : Loc} {q : List V × Bool} (hr : ρ r = some L) (ho : objAt M r = some q) : ∃ xs, Cs ρ X q.1 xs ∧ w.rangeAt L.b L.f xs ∧ w.there L.b L.f L.e ∧ q.1.length ≤ L.e ∧ (q.2 = true → q.1.length = L.e) := by
  have := (h.obj r L hr).2.2.2
  rw [objAt_some ho] at this
  obtain ⟨⟨xs, h1, h2⟩, h3, h4, h5⟩ := this
  exact ⟨xs, h1, h2, h3, h4, h5⟩
theorem World.rangeAt.drop {b f : Nat} {xs : List Value} (h : w.rangeAt b f xs) (o : Nat) : w.rangeAt b (f + o) (xs.drop o) := fun j v hv => by
  rw [List.getElem?_drop] at hv
  have := h _ v hv
  rwa [show f + (o + j) = f + o + j by omega] at this
theorem World.rangeAt.take {b f : Nat} {xs : List Value} (h : w.rangeAt b f xs) (n : Nat) : w.rangeAt b f (xs.take n) := fun j v hv => by
  rw [List.getElem?_take] at hv
  split at hv
  · exact h _ v hv
  · cases hv
/-- Cells read. -/
theorem Wd.read (h : Wd X B w0 ρ M w) {r o n : Nat} {L : Loc} {l : List V} (hr : ρ r = some L) (ho : cellsAt M r o n = some l) : ∃ xs, Cs ρ X l xs ∧ w.rangeAt L.b (L.f + o) xs ∧ xs.length = n := by
  obtain ⟨q, h1, h2⟩ := ob_some.1 ho
  obtain ⟨xs, k1, k2, _⟩ := h.cells hr h1
  rw [drp_eq] at h2
  obtain ⟨rfl, h4⟩ := tk_some h2
  refine ⟨(xs.drop o).take n, (k1.drop o).take n, World.rangeAt.take (World.rangeAt.drop k2 o) n, ?_⟩
  rw [List.length_take, ← (k1.drop o).len]
  omega
theorem Ok.mono (hl : Rh.le ρ ρ') {L : Loc} {o : Option Ob} (h : Ok ρ X w L o) : Ok ρ' X w L o := by
  cases o with
  | none => exact h
  | some o =>
    cases o with
    | c l ex =>
      obtain ⟨⟨xs, h1, h2⟩, h3⟩ := h
      exact ⟨⟨xs, h1.mono hl, h2⟩, h3⟩
    | m l ck =>
      obtain ⟨⟨es, h1, h2, h4⟩, h3⟩ := h
      exact ⟨⟨es, h1, h2, fun i p e hp he => ⟨(h4 i p e hp he).born, (h4 i p e hp he).key.mono hl, (h4 i p e hp he).val.mono hl⟩⟩, h3⟩
    | dead => trivial
theorem Ok.alloc {L : Loc} {o : Option Ob} (h : Ok ρ X w L o) (x : Obj) : Ok ρ X (w.alloc x) L o := by
  cases o with
  | none => exact h
  | some o =>
    cases o with
    | c l ex =>
      obtain ⟨⟨xs, h1, h2⟩, h3, h4⟩ := h
      exact ⟨⟨xs, h1, World.rangeAt_alloc h2 x⟩, World.there_alloc h3 x, h4⟩
    | m l ck =>
      obtain ⟨⟨es, h1, h2⟩, h3⟩ := h
      refine ⟨⟨es, ?_, h2⟩, h3⟩
      rw [Below.heap_alloc w x L.b (by
        rcases Nat.lt_or_ge L.b w.heap.size with hl | hl
        · exact hl
        · rw [Array.getElem?_eq_none hl] at h1; cases h1)]
      exact h1
    | dead => trivial
theorem Ok.drew {L : Loc} {o : Option Ob} (h : Ok ρ X w L o) : Ok ρ X w.drew L o := by
  cases o with
  | none => exact h
  | some o =>
    cases o with
    | c l ex =>
      obtain ⟨⟨xs, h1, h2⟩, h3, h4⟩ := h
      exact ⟨⟨xs, h1, (World.rangeAt_drew _ _ _ _).2 h2⟩, (World.there_drew _ _ _ _).2 h3, h4⟩
    | m l ck => exact h
    | dead => trivial
theorem Wd.alloc (h : Wd X B w0 ρ M w) (x : Obj) : Wd X B w0 ρ M (w.alloc x) :=
  ⟨h.low.alloc h.size x, by have := h.size; show B ≤ (w.heap.push x).size; rw [Array.size_push]; omega, h.free, fun r L hr => by
    obtain ⟨h1, h2, h3, h4⟩ := h.obj r L hr
    exact ⟨h1, h2, by show L.b < (w.heap.push x).size; rw [Array.size_push]; omega, h4.alloc x⟩, h.apart⟩
theorem Wd.drew (h : Wd X B w0 ρ M w) : Wd X B w0 ρ M w.drew :=
  ⟨h.low.drew, h.size, h.free, fun r L hr => by
    obtain ⟨h1, h2, h3, h4⟩ := h.obj r L hr
    exact ⟨h1, h2, h3, h4.drew⟩, h.apart⟩
/-- A number that has no place yet gets one, in a block that no other object stands in. -/
def Rh.put (ρ : Rh) (r : Nat) (L : Loc) : Rh := fun q => if q = r then some L else ρ q
theorem Rh.put_same (ρ : Rh) (r : Nat) (L : Loc) : Rh.put ρ r L r = some L := by unfold Rh.put; rw [if_pos rfl]
theorem Rh.put_ne {ρ : Rh} {r q : Nat} {L : Loc} (h : q ≠ r) : Rh.put ρ r L q = ρ q := by unfold Rh.put; rw [if_neg h]
theorem Rh.le_put {r : Nat} {L : Loc} (h : ρ r = none) : Rh.le ρ (Rh.put ρ r L) := fun q K hq => by
  rw [Rh.put_ne (fun e => by subst e; rw [h] at hq; cases hq)]
  exact hq
theorem Wd.noPl (h : Wd X B w0 ρ M w) {r : Nat} (hr : M.nx ≤ r) : ρ r = .none := by
  cases e : ρ r with
  | none => rfl
  | some L => have := (h.obj r L e).1; omega
/-- New objects in the closed run's memory alone. -/
theorem Wd.more (h : Wd X B w0 ρ M w) {M1 : Mem} (hn : M.nx ≤ M1.nx) (hT : ∀ r, r < M.nx → M1.T.get r = M.T.get r) (hF : ∀ r, M1.nx ≤ r → M1.T.get r = none) : Wd X B w0 ρ M1 w :=
  ⟨h.low, h.size, hF, fun r L hr => by
    obtain ⟨h1, h2, h3, h4⟩ := h.obj r L hr
    exact ⟨by omega, h2, h3, by rw [hT r h1]; exact h4⟩, fun r r' L L' hne hr hr' hl hl' => by
    rw [hT r (h.obj r L hr).1] at hl
    rw [hT r' (h.obj r' L' hr').1] at hl'
    exact h.apart r r' L L' hne hr hr' hl hl'⟩
theorem free_set {b : Ob} (h : ∀ r, M.nx ≤ r → M.T.get r = .none) : ∀ r, M.nx + 1 ≤ r → (M.T.set M.nx b).get r = .none := fun r hr => by
  rw [Tr.get_set, if_neg (by omega)]
  exact h r (by omega)
/-- A number of the closed run's memory gets its place. -/
theorem Wd.place (h : Wd X B w0 ρ M w) {r : Nat} {L : Loc} (hr : ρ r = none) (hrn : r < M.nx) (hB : B ≤ L.b) (hs : L.b < w.heap.size) (hok : Ok (Rh.put ρ r L) X w L (M.T.get r))
    (hap : ∀ r' L', ρ r' = some L' → live (M.T.get r') → L.b ≠ L'.b ∨ L.f + L.e ≤ L'.f ∨ L'.f + L'.e ≤ L.f) : Wd X B w0 (Rh.put ρ r L) M w :=
  ⟨h.low, h.size, h.free, fun q K hq => by
    by_cases e : q = r
    · subst e
      rw [Rh.put_same] at hq
      cases hq
      exact ⟨hrn, hB, hs, hok⟩
    · rw [Rh.put_ne e] at hq
      obtain ⟨h1, h2, h3, h4⟩ := h.obj q K hq
      exact ⟨h1, h2, h3, h4.mono (Rh.le_put hr)⟩, fun q q' K K' hne hq hq' hl hl' => by
    by_cases e : q = r
    · subst e
      rw [Rh.put_same] at hq
      cases hq
      rw [Rh.put_ne (Ne.symm hne)] at hq'
      exact hap q' K' hq' hl'
    · rw [Rh.put_ne e] at hq
      by_cases e' : q' = r
      · subst e'
        rw [Rh.put_same] at hq'
        cases hq'
        rcases hap q K hq hl with h1 | h1 | h1
        · exact .inl (Ne.symm h1)
        · exact .inr (.inr h1)
        · exact .inr (.inl h1)
      · rw [Rh.put_ne e'] at hq'
        exact h.apart q q' K K' hne hq hq' hl hl'⟩
/-- Stored into an object's cells. -/
theorem Wd.store (h : Wd X B w0 ρ M w) {r o : Nat} {L : Loc} {l : List V} {ex : Bool} {cs l' : List V} {xs : List Value} (hr : ρ r = some L) (ho : M.T.get r = some (.c l ex)) (hx : Cs ρ X cs xs) (hp : put o cs l = some l') :
    w.there L.b (L.f + o) xs.length ∧ Wd X B w0 ρ ⟨M.T.set r (.c l' ex), M.nx⟩ (w.setCells L.b (L.f + o) xs) := by
  obtain ⟨hp1, rfl⟩ := put_some hp
  obtain ⟨h1, h2, h3, h4⟩ := h.obj r L hr
  rw [ho] at h4
  obtain ⟨⟨ys, k1, k2⟩, k3, k4, k5⟩ := h4
  have hlen := hx.len
  have hth : w.there L.b (L.f + o) xs.length := fun j hj => by
    have := k3 (o + j) (by omega)
    rwa [show L.f + (o + j) = L.f + o + j by omega] at this
  refine ⟨hth, ?_, ?_, fun q hq => ?_, fun q K hq => ?_, fun q q' K K' hne hq hq' hl hl' => ?_⟩
  · exact h.low.trans ⟨World.os_setCells _ _ _ _, tape_setCells _ _ _ _, World.output_setCells _ _ _ _, by rw [heap_size_setCells]; exact Nat.le_refl _, fun k hk => World.heap_setCells_other _ _ _ _ (Nat.lt_of_lt_of_le hk h.size) (by omega)⟩
  · rw [heap_size_setCells]; exact h.size
  · have hq2 : M.nx ≤ q := hq
    show (M.T.set r _).get q = none
    rw [Tr.get_set, if_neg (by omega)]
    exact h.free q hq2
  · obtain ⟨g1, g2, g3, g4⟩ := h.obj q K hq
    refine ⟨g1, g2, by rw [heap_size_setCells]; exact g3, ?_⟩
    show Ok ρ X _ K ((M.T.set r _).get q)
    rw [Tr.get_set]
    by_cases e : r = q
    · subst e
      rw [if_pos rfl]
      rw [hr] at hq
      cases hq
      have hl : (List.take o l ++ cs ++ List.drop (o + cs.length) l).length = l.length := by simp; omega
      refine ⟨⟨ys.take o ++ xs ++ ys.drop (o + xs.length), ?_, ?_⟩, World.there_setCells k3 _ _ _, by rw [hl]; exact k4, fun e => by rw [hl]; exact k5 e⟩
      · rw [← hlen]
        exact ((k1.take o).append hx).append (k1.drop _)
      · have hyl := k1.len
        intro j v hv
        by_cases hj : j < o
        · rw [List.append_assoc, List.getElem?_append_left (by simp; omega)] at hv
          have hv' : ys[j]? = some v := by
            rw [List.getElem?_take, if_pos hj] at hv
            exact hv
          exact World.rangeAt_setCells_apart (World.rangeAt.take k2 o) _ _ _ (by right; left; simp; omega) j v (by rw [List.getElem?_take, if_pos hj]; exact hv')
        · by_cases hj2 : j < o + xs.length
          · rw [List.getElem?_append_left (by simp; omega), List.getElem?_append_right (by simp; omega)] at hv
            have hs := World.rangeAt_setCells_same w L.b (L.f + o) xs hth (j - o) v (by
              rw [← hv]; congr 1; simp; omega)
            rwa [show L.f + o + (j - o) = L.f + j by omega] at hs
          · rw [List.getElem?_append_right (by simp; omega)] at hv
            have hv' : ys[j]? = some v := by
              rw [List.getElem?_drop] at hv
              rw [← hv]; congr 1; simp; omega
            have := World.rangeAt_setCells_apart (World.rangeAt.drop k2 (o + xs.length)) L.b (L.f + o) xs (by right; right; omega) (j - (o + xs.length)) v (by
              rw [List.getElem?_drop, ← hv']; congr 1; omega)
            rwa [show L.f + (o + xs.length) + (j - (o + xs.length)) = L.f + j by omega] at this
    · rw [if_neg e]
      cases hob : M.T.get q with
      | none => rw [hob] at g4; exact g4
      | some ob =>
        rw [hob] at g4
        have hap := h.apart r q L K e hr hq (by rw [ho]; trivial)
        rw [hob] at hap
        cases ob with
        | c l2 ex2 =>
          obtain ⟨⟨zs, m1, m2⟩, m3, m4, m5⟩ := g4
          refine ⟨⟨zs, m1, World.rangeAt_setCells_apart m2 _ _ _ ?_⟩, World.there_setCells m3 _ _ _, m4, m5⟩
          have := m1.len
          rcases hap trivial with a1 | a1 | a1
          · exact .inl (Ne.symm a1)
          · right; right; omega
          · right; left; omega
        | m l2 ck =>
          obtain ⟨⟨es, m1, m2⟩, m3, m4⟩ := g4
          refine ⟨⟨es, ?_, m2⟩, m3, m4⟩
          rcases Decidable.em (L.b = K.b) with a0 | a0
          · -- a map's block has no cells
            have hcs : xs.length = 0 := by
              rcases Nat.eq_zero_or_pos xs.length with a1 | a1
              · exact a1
              · have := (hth 0 a1).1
                rw [a0] at this
                unfold World.cell? at this
                rw [show ((⟨K.b, L.f + o + 0, Option.none⟩ : Addr)).block = K.b from rfl, m1] at this
                simp at this
            have : xs = [] := List.eq_nil_of_length_eq_zero hcs
            subst this
            exact m1
          · rw [World.heap_setCells_other _ _ _ _ g3 (Ne.symm a0)]
            exact m1
        | dead => trivial
  · have lv : ∀ q, live ((M.T.set r (.c (List.take o l ++ cs ++ List.drop (o + cs.length) l) ex)).get q) → live (M.T.get q) := fun q hq => by
      rw [Tr.get_set] at hq
      split at hq
      · rename_i e
        subst e
        rw [ho]
        trivial
      · exact hq
    exact h.apart q q' K K' hne hq hq' (lv q hl) (lv q' hl')
end
end Go.CE
