/- Values and memory of a closed run, and the run itself: an interpreter of the model's code over objects by number. -/
import Derived.Test.YtnlpmnegjgjiiaaGreatDoorLa
namespace Go.CE
open Go
set_option linter.all false
/-- A value of a closed run. u: not known at all. z: undefined, for sure. w: one cell, not known. q: a number, not known. p r o: cell o of object r; g: of a global. l r o n c z: a slice at cell o of object r, n elements of z cells, room c (none: to the object's room's end). x: a law's argument that nobody looks into. -/
inductive V where
  | u
  | b (x : Bool)
  | i (k : IntKind) (n : Int)
  | s (l : List Nat)
  | p (r o : Nat)
  | g (r o : Nat)
  | pn
  | l (r o n : Nat) (c : Option Nat) (z : Nat)
  | ln
  | m (r : Nat)
  | mn
  | f (f : Nat) (first cap : List V)
  | fn
  | n (t : Nat) (v : V)
  | nn
  | a (l : List V)
  | t (l : List V)
  | x (j : Nat)
  | z
  | w
  | q (k : IntKind)
/-- An object: cells (ex: its room ends with them), or a map. -/
inductive Ob where
  | c (l : List V) (ex : Bool)
  | m (l : List (Nat × V × V)) (clock : Nat)
  | dead

/-- In one step. -/
noncomputable def cond.{w} {α : Sort w} (c : Bool) (x y : α) : α := Bool.rec (motive := fun _ => α) y x c
@[simp] theorem cond_true.{w} {α : Sort w} (x y : α) : cond true x y = x := rfl
@[simp] theorem cond_false.{w} {α : Sort w} (x y : α) : cond false x y = y := rfl
/-! Lists by their recursors: the kernel runs them. -/
section
universe u v
variable {α : Type u} {β : Type v}
noncomputable def nth (l : List α) : Nat → Option α := List.rec (fun _ => none) (fun h _ g k => Nat.rec (some h) (fun m _ => g m) k) l
noncomputable def drp (o : Nat) : List α → List α := Nat.rec (fun l => l) (fun _ g l => List.rec [] (fun _ t _ => g t) l) o
noncomputable def tk (n : Nat) : List α → Option (List α) := Nat.rec (fun _ => some []) (fun _ g l => List.rec none (fun h t _ => Option.rec none (fun r => some (h :: r)) (g t)) l) n
noncomputable def app (a b : List α) : List α := List.rec b (fun h _ g => h :: g) a
/-- cs in the place of the first ones. -/
noncomputable def over (cs : List α) : List α → Option (List α) := List.rec (fun l => some l) (fun c _ g l => List.rec none (fun _ t _ => Option.rec none (fun r => some (c :: r)) (g t)) l) cs
noncomputable def put (o : Nat) (cs : List α) : List α → Option (List α) := Nat.rec (fun l => over cs l) (fun _ g l => List.rec none (fun h t _ => Option.rec none (fun r => some (h :: r)) (g t)) l) o
noncomputable def len (l : List α) : Nat := List.rec 0 (fun _ _ g => Nat.succ g) l
noncomputable def mp (f : α → β) (l : List α) : List β := List.rec [] (fun h _ g => f h :: g) l
noncomputable def look (l : List (Nat × α)) (t : Nat) : Option α := List.rec none (fun p _ g => Bool.rec (motive := fun _ => Option α) g (some p.2) (Nat.beq p.1 t)) l
noncomputable def rem (t : Nat) (l : List (Nat × α)) : List (Nat × α) := List.rec [] (fun p r g => Bool.rec (motive := fun _ => List (Nat × α)) (p :: g) r (Nat.beq p.1 t)) l
/-- To the front. -/
noncomputable def upd (t : Nat) (v : α) (l : List (Nat × α)) : List (Nat × α) := (t, v) :: rem t l
noncomputable def ob {α β : Type} (q : Option α) (f : α → Option β) : Option β := Option.rec none f q
/-- The first answer, or the second where there is none. -/
noncomputable def oe {α β : Type} (q : Option α) (d : β) (f : α → β) : β := Option.rec d f q
noncomputable def mpo {α β : Type} (f : α → Option β) (l : List α) : Option (List β) := List.rec (some []) (fun h _ g => ob (f h) fun x => ob g fun r => some (x :: r)) l
end
/-- Objects by number. -/
inductive Tr (α : Type) | e | n (l : Tr α) (v : Option α) (r : Tr α)
namespace Tr
variable {α : Type}
noncomputable def getN (v : Option α) (gl gr : Nat → Option α) (k : Nat) : Option α :=
  cond (Nat.beq k 0) v (cond (Nat.beq (Nat.land k 1) 1) (gl (Nat.shiftRight k 1)) (gr (Nat.pred (Nat.shiftRight k 1))))
noncomputable def get (t : Tr α) : Nat → Option α := Tr.rec (fun _ => none) (fun _ v _ gl gr => getN v gl gr) t
noncomputable def sngS (g : Nat → α → Tr α) (k : Nat) (v : α) : Tr α :=
  cond (Nat.beq k 0) (.n .e (some v) .e) (cond (Nat.beq (Nat.land k 1) 1) (.n (g (Nat.shiftRight k 1) v) none .e) (.n .e none (g (Nat.pred (Nat.shiftRight k 1)) v)))
noncomputable def sng (f : Nat) : Nat → α → Tr α := Nat.rec (fun _ v => .n .e (some v) .e) (fun _ g => sngS g) f
noncomputable def setN (l : Tr α) (w : Option α) (r : Tr α) (sl sr : Nat → α → Tr α) (k : Nat) (v : α) : Tr α :=
  cond (Nat.beq k 0) (.n l (some v) r) (cond (Nat.beq (Nat.land k 1) 1) (.n (sl (Nat.shiftRight k 1) v) w r) (.n l w (sr (Nat.pred (Nat.shiftRight k 1)) v)))
noncomputable def set (t : Tr α) : Nat → α → Tr α := Tr.rec (fun k v => sng k k v) (fun l w r sl sr => setN l w r sl sr) t
end Tr
/-- Memory: objects, and the number of the next one. -/
structure Mem where
  T : Tr Ob
  nx : Nat
/-- Slots: those that outlive a region (each in its place), and those of this region. -/
structure Sl where
  E : List (Nat × V)
  L : List (Nat × V)

/-! What a value is: each by V's recursor. -/
noncomputable def intOf (v : V) : Option (IntKind × Int) := V.rec (motive_1 := fun _ => Option (IntKind × Int)) (motive_2 := fun _ => PUnit) (none) (fun _ => none) (fun k n => some (k, n)) (fun _ => none) (fun _ _ => none) (fun _ _ => none) (none) (fun _ _ _ _ _ => none) (none) (fun _ => none) (none) (fun _ _ _ _ _ => none) (none) (fun _ _ _ => none) (none) (fun _ _ => none) (fun _ _ => none) (fun _ => none) (none) (none) (fun _ => none) ⟨⟩ (fun _ _ _ _ => ⟨⟩) v
noncomputable def boolOf (v : V) : Option Bool := V.rec (motive_1 := fun _ => Option Bool) (motive_2 := fun _ => PUnit) (none) (fun t => some t) (fun _ _ => none) (fun _ => none) (fun _ _ => none) (fun _ _ => none) (none) (fun _ _ _ _ _ => none) (none) (fun _ => none) (none) (fun _ _ _ _ _ => none) (none) (fun _ _ _ => none) (none) (fun _ _ => none) (fun _ _ => none) (fun _ => none) (none) (none) (fun _ => none) ⟨⟩ (fun _ _ _ _ => ⟨⟩) v
noncomputable def strOf (v : V) : Option (List Nat) := V.rec (motive_1 := fun _ => Option (List Nat)) (motive_2 := fun _ => PUnit) (none) (fun _ => none) (fun _ _ => none) (fun l => some l) (fun _ _ => none) (fun _ _ => none) (none) (fun _ _ _ _ _ => none) (none) (fun _ => none) (none) (fun _ _ _ _ _ => none) (none) (fun _ _ _ => none) (none) (fun _ _ => none) (fun _ _ => none) (fun _ => none) (none) (none) (fun _ => none) ⟨⟩ (fun _ _ _ _ => ⟨⟩) v
noncomputable def ptrOf (v : V) : Option (Nat × Nat) := V.rec (motive_1 := fun _ => Option (Nat × Nat)) (motive_2 := fun _ => PUnit) (none) (fun _ => none) (fun _ _ => none) (fun _ => none) (fun r o => some (r, o)) (fun _ _ => none) (none) (fun _ _ _ _ _ => none) (none) (fun _ => none) (none) (fun _ _ _ _ _ => none) (none) (fun _ _ _ => none) (none) (fun _ _ => none) (fun _ _ => none) (fun _ => none) (none) (none) (fun _ => none) ⟨⟩ (fun _ _ _ _ => ⟨⟩) v
noncomputable def glbOf (v : V) : Option (Nat × Nat) := V.rec (motive_1 := fun _ => Option (Nat × Nat)) (motive_2 := fun _ => PUnit) (none) (fun _ => none) (fun _ _ => none) (fun _ => none) (fun _ _ => none) (fun r o => some (r, o)) (none) (fun _ _ _ _ _ => none) (none) (fun _ => none) (none) (fun _ _ _ _ _ => none) (none) (fun _ _ _ => none) (none) (fun _ _ => none) (fun _ _ => none) (fun _ => none) (none) (none) (fun _ => none) ⟨⟩ (fun _ _ _ _ => ⟨⟩) v
noncomputable def aggOf (v : V) : Option (List V) := V.rec (motive_1 := fun _ => Option (List V)) (motive_2 := fun _ => PUnit) (none) (fun _ => none) (fun _ _ => none) (fun _ => none) (fun _ _ => none) (fun _ _ => none) (none) (fun _ _ _ _ _ => none) (none) (fun _ => none) (none) (fun _ _ _ _ _ => none) (none) (fun _ _ _ => none) (none) (fun l _ => some l) (fun _ _ => none) (fun _ => none) (none) (none) (fun _ => none) ⟨⟩ (fun _ _ _ _ => ⟨⟩) v
noncomputable def tupOf (v : V) : Option (List V) := V.rec (motive_1 := fun _ => Option (List V)) (motive_2 := fun _ => PUnit) (none) (fun _ => none) (fun _ _ => none) (fun _ => none) (fun _ _ => none) (fun _ _ => none) (none) (fun _ _ _ _ _ => none) (none) (fun _ => none) (none) (fun _ _ _ _ _ => none) (none) (fun _ _ _ => none) (none) (fun _ _ => none) (fun l _ => some l) (fun _ => none) (none) (none) (fun _ => none) ⟨⟩ (fun _ _ _ _ => ⟨⟩) v
noncomputable def mapOf (v : V) : Option Nat := V.rec (motive_1 := fun _ => Option Nat) (motive_2 := fun _ => PUnit) (none) (fun _ => none) (fun _ _ => none) (fun _ => none) (fun _ _ => none) (fun _ _ => none) (none) (fun _ _ _ _ _ => none) (none) (fun r => some r) (none) (fun _ _ _ _ _ => none) (none) (fun _ _ _ => none) (none) (fun _ _ => none) (fun _ _ => none) (fun _ => none) (none) (none) (fun _ => none) ⟨⟩ (fun _ _ _ _ => ⟨⟩) v
structure SlV where
  r : Nat
  o : Nat
  n : Nat
  c : Option Nat
  z : Nat
structure FnV where
  f : Nat
  a : List V
  c : List V
noncomputable def slcOf (v : V) : Option SlV := V.rec (motive_1 := fun _ => Option SlV) (motive_2 := fun _ => PUnit) (none) (fun _ => none) (fun _ _ => none) (fun _ => none) (fun _ _ => none) (fun _ _ => none) (none) (fun r o n c z => some ⟨r, o, n, c, z⟩) (none) (fun _ => none) (none) (fun _ _ _ _ _ => none) (none) (fun _ _ _ => none) (none) (fun _ _ => none) (fun _ _ => none) (fun _ => none) (none) (none) (fun _ => none) ⟨⟩ (fun _ _ _ _ => ⟨⟩) v
noncomputable def fncOf (v : V) : Option FnV := V.rec (motive_1 := fun _ => Option FnV) (motive_2 := fun _ => PUnit) (none) (fun _ => none) (fun _ _ => none) (fun _ => none) (fun _ _ => none) (fun _ _ => none) (none) (fun _ _ _ _ _ => none) (none) (fun _ => none) (none) (fun f a c _ _ => some ⟨f, a, c⟩) (none) (fun _ _ _ => none) (none) (fun _ _ => none) (fun _ _ => none) (fun _ => none) (none) (none) (fun _ => none) ⟨⟩ (fun _ _ _ _ => ⟨⟩) v
noncomputable def ifcOf (v : V) : Option (Nat × V) := V.rec (motive_1 := fun _ => Option (Nat × V)) (motive_2 := fun _ => PUnit) (none) (fun _ => none) (fun _ _ => none) (fun _ => none) (fun _ _ => none) (fun _ _ => none) (none) (fun _ _ _ _ _ => none) (none) (fun _ => none) (none) (fun _ _ _ _ _ => none) (none) (fun t v _ => some (t, v)) (none) (fun _ _ => none) (fun _ _ => none) (fun _ => none) (none) (none) (fun _ => none) ⟨⟩ (fun _ _ _ _ => ⟨⟩) v
noncomputable def isU (v : V) : Bool := V.rec (motive_1 := fun _ => Bool) (motive_2 := fun _ => PUnit) (true) (fun _ => false) (fun _ _ => false) (fun _ => false) (fun _ _ => false) (fun _ _ => false) (false) (fun _ _ _ _ _ => false) (false) (fun _ => false) (false) (fun _ _ _ _ _ => false) (false) (fun _ _ _ => false) (false) (fun _ _ => false) (fun _ _ => false) (fun _ => false) (false) (false) (fun _ => false) ⟨⟩ (fun _ _ _ _ => ⟨⟩) v
noncomputable def isZ (v : V) : Bool := V.rec (motive_1 := fun _ => Bool) (motive_2 := fun _ => PUnit) (false) (fun _ => false) (fun _ _ => false) (fun _ => false) (fun _ _ => false) (fun _ _ => false) (false) (fun _ _ _ _ _ => false) (false) (fun _ => false) (false) (fun _ _ _ _ _ => false) (false) (fun _ _ _ => false) (false) (fun _ _ => false) (fun _ _ => false) (fun _ => false) (true) (false) (fun _ => false) ⟨⟩ (fun _ _ _ _ => ⟨⟩) v
noncomputable def isPn (v : V) : Bool := V.rec (motive_1 := fun _ => Bool) (motive_2 := fun _ => PUnit) (false) (fun _ => false) (fun _ _ => false) (fun _ => false) (fun _ _ => false) (fun _ _ => false) (true) (fun _ _ _ _ _ => false) (false) (fun _ => false) (false) (fun _ _ _ _ _ => false) (false) (fun _ _ _ => false) (false) (fun _ _ => false) (fun _ _ => false) (fun _ => false) (false) (false) (fun _ => false) ⟨⟩ (fun _ _ _ _ => ⟨⟩) v
noncomputable def isFn (v : V) : Bool := V.rec (motive_1 := fun _ => Bool) (motive_2 := fun _ => PUnit) (false) (fun _ => false) (fun _ _ => false) (fun _ => false) (fun _ _ => false) (fun _ _ => false) (false) (fun _ _ _ _ _ => false) (false) (fun _ => false) (false) (fun _ _ _ _ _ => false) (true) (fun _ _ _ => false) (false) (fun _ _ => false) (fun _ _ => false) (fun _ => false) (false) (false) (fun _ => false) ⟨⟩ (fun _ _ _ _ => ⟨⟩) v
/-- Is it told what it is? -/
noncomputable def kn (v : V) : Bool := V.rec (motive_1 := fun _ => Bool) (motive_2 := fun _ => PUnit) (false) (fun _ => true) (fun _ _ => true) (fun _ => true) (fun _ _ => true) (fun _ _ => true) (true) (fun _ _ _ _ _ => true) (true) (fun _ => true) (true) (fun _ _ _ _ _ => true) (true) (fun _ _ _ => true) (true) (fun _ _ => true) (fun _ _ => false) (fun _ => false) (false) (false) (fun _ => false) ⟨⟩ (fun _ _ _ _ => ⟨⟩) v
noncomputable def isA1 (v : V) : Bool := V.rec (motive_1 := fun _ => Bool) (motive_2 := fun _ => PUnit) (false) (fun _ => false) (fun _ _ => false) (fun _ => false) (fun _ _ => false) (fun _ _ => false) (false) (fun _ _ _ _ _ => false) (false) (fun _ => false) (false) (fun _ _ _ _ _ => false) (false) (fun _ _ _ => false) (false) (fun _ _ => true) (fun _ _ => false) (fun _ => false) (false) (false) (fun _ => false) ⟨⟩ (fun _ _ _ _ => ⟨⟩) v
noncomputable def isLn (v : V) : Bool := V.rec (motive_1 := fun _ => Bool) (motive_2 := fun _ => PUnit) (false) (fun _ => false) (fun _ _ => false) (fun _ => false) (fun _ _ => false) (fun _ _ => false) (false) (fun _ _ _ _ _ => false) (true) (fun _ => false) (false) (fun _ _ _ _ _ => false) (false) (fun _ _ _ => false) (false) (fun _ _ => false) (fun _ _ => false) (fun _ => false) (false) (false) (fun _ => false) ⟨⟩ (fun _ _ _ _ => ⟨⟩) v
noncomputable def isMn (v : V) : Bool := V.rec (motive_1 := fun _ => Bool) (motive_2 := fun _ => PUnit) (false) (fun _ => false) (fun _ _ => false) (fun _ => false) (fun _ _ => false) (fun _ _ => false) (false) (fun _ _ _ _ _ => false) (false) (fun _ => false) (true) (fun _ _ _ _ _ => false) (false) (fun _ _ _ => false) (false) (fun _ _ => false) (fun _ _ => false) (fun _ => false) (false) (false) (fun _ => false) ⟨⟩ (fun _ _ _ _ => ⟨⟩) v
noncomputable def isNn (v : V) : Bool := V.rec (motive_1 := fun _ => Bool) (motive_2 := fun _ => PUnit) (false) (fun _ => false) (fun _ _ => false) (fun _ => false) (fun _ _ => false) (fun _ _ => false) (false) (fun _ _ _ _ _ => false) (false) (fun _ => false) (false) (fun _ _ _ _ _ => false) (false) (fun _ _ _ => false) (true) (fun _ _ => false) (fun _ _ => false) (fun _ => false) (false) (false) (fun _ => false) ⟨⟩ (fun _ _ _ _ => ⟨⟩) v
/-- Not nil, where a pointer, a function or an interface may be. -/
noncomputable def isOn (v : V) : Bool := V.rec (motive_1 := fun _ => Bool) (motive_2 := fun _ => PUnit) (false) (fun _ => false) (fun _ _ => false) (fun _ => false) (fun _ _ => true) (fun _ _ => true) (false) (fun _ _ _ _ _ => false) (false) (fun _ => false) (false) (fun _ _ _ _ _ => true) (false) (fun _ _ _ => true) (false) (fun _ _ => false) (fun _ _ => false) (fun _ => false) (false) (false) (fun _ => false) ⟨⟩ (fun _ _ _ _ => ⟨⟩) v
/-- A pointer: nil (some none), of an object, of a global. -/
noncomputable def argOf (v : V) : Option Nat := V.rec (motive_1 := fun _ => Option Nat) (motive_2 := fun _ => PUnit) (none) (fun _ => none) (fun _ _ => none) (fun _ => none) (fun _ _ => none) (fun _ _ => none) (none) (fun _ _ _ _ _ => none) (none) (fun _ => none) (none) (fun _ _ _ _ _ => none) (none) (fun _ _ _ => none) (none) (fun _ _ => none) (fun _ _ => none) (fun j => some j) (none) (none) (fun _ => none) ⟨⟩ (fun _ _ _ _ => ⟨⟩) v
noncomputable def kindQ (v : V) : Option IntKind := V.rec (motive_1 := fun _ => Option IntKind) (motive_2 := fun _ => PUnit) (none) (fun _ => none) (fun k _ => some k) (fun _ => none) (fun _ _ => none) (fun _ _ => none) (none) (fun _ _ _ _ _ => none) (none) (fun _ => none) (none) (fun _ _ _ _ _ => none) (none) (fun _ _ _ => none) (none) (fun _ _ => none) (fun _ _ => none) (fun _ => none) (none) (none) (fun k => some k) ⟨⟩ (fun _ _ _ _ => ⟨⟩) v
noncomputable def kindOf (v : V) : Nat := V.rec (motive_1 := fun _ => Nat) (motive_2 := fun _ => PUnit) (0) (fun _ => 1) (fun _ _ => 2) (fun _ => 3) (fun _ _ => 4) (fun _ _ => 5) (6) (fun _ _ _ _ _ => 7) (8) (fun _ => 9) (10) (fun _ _ _ _ _ => 11) (12) (fun _ _ _ => 13) (14) (fun _ _ => 15) (fun _ _ => 16) (fun _ => 17) (18) (19) (fun _ => 20) ⟨⟩ (fun _ _ _ _ => ⟨⟩) v
/-- The cells of a value. -/
noncomputable def cells (v : V) : Option (List V) := V.rec (motive_1 := fun _ => Option (List V)) (motive_2 := fun _ => PUnit) (none) (fun x0 => some [.b x0]) (fun x0 x1 => some [.i x0 x1]) (fun x0 => some [.s x0]) (fun x0 x1 => some [.p x0 x1]) (fun x0 x1 => some [.g x0 x1]) (some [.pn ]) (fun x0 x1 x2 x3 x4 => some [.l x0 x1 x2 x3 x4]) (some [.ln ]) (fun x0 => some [.m x0]) (some [.mn ]) (fun x0 x1 x2 _ _ => some [.f x0 x1 x2]) (some [.fn ]) (fun x0 x1 _ => some [.n x0 x1]) (some [.nn ]) (fun l _ => some l) (fun _ _ => none) (fun x0 => some [.x x0]) (none) (some [.w ]) (fun x0 => some [.q x0]) ⟨⟩ (fun _ _ _ _ => ⟨⟩) v

/-! Numbers. -/
noncomputable def mkI (k : IntKind) (n : Int) : V := Int.rec (fun m => .i k (.ofNat m)) (fun m => .i k (.negSucc m)) n
noncomputable def kbits (k : IntKind) : Nat := IntKind.rec 8 16 32 64 8 16 32 64 k
noncomputable def kmod (k : IntKind) : Nat := IntKind.rec 256 65536 4294967296 18446744073709551616 256 65536 4294967296 18446744073709551616 k
/-- Up to here a kind's numbers that aren't below 0 go. -/
noncomputable def klim (k : IntKind) : Nat := IntKind.rec 128 32768 2147483648 9223372036854775808 256 65536 4294967296 18446744073709551616 k
noncomputable def knum (k : IntKind) : Nat := IntKind.rec 0 1 2 3 4 5 6 7 k
/-- The least number of a kind, below 0. -/
noncomputable def klow (k : IntKind) : Nat := IntKind.rec 128 32768 2147483648 9223372036854775808 0 0 0 0 k
noncomputable def natK (k : IntKind) (n : Nat) : V := cond (Nat.blt n (klim k)) (.i k (.ofNat n)) (mkI k (k.wrap (.ofNat n)))
noncomputable def intK (k : IntKind) (n : Int) : V := Int.rec (natK k) (fun m => cond (Nat.blt m (klow k)) (.i k (.negSucc m)) (mkI k (k.wrap (.negSucc m)))) n
noncomputable def nat2 (f : Nat → Nat → Option V) (x y : Int) : Option V := Int.rec (fun a => Int.rec (f a) (fun _ => none) y) (fun _ => none) x
noncomputable def ltI (x y : Int) : Bool := Int.rec (fun a => Int.rec (fun b => Nat.blt a b) (fun _ => false) y) (fun a => Int.rec (fun _ => true) (fun b => Nat.blt b a) y) x
noncomputable def eqI (x y : Int) : Bool := Int.rec (fun a => Int.rec (fun b => Nat.beq a b) (fun _ => false) y) (fun a => Int.rec (fun _ => false) (fun b => Nat.beq a b) y) x
noncomputable def sub2 (k : IntKind) (x y : Int) : Option V := Int.rec (fun a => Int.rec (fun b => cond (Nat.ble b a) (some (natK k (Nat.sub a b))) (some (intK k (x - y)))) (fun _ => some (intK k (x - y))) y) (fun _ => some (intK k (x - y))) x
noncomputable def add2 (k : IntKind) (x y : Int) : Option V := Int.rec (fun a => Int.rec (fun b => some (natK k (Nat.add a b))) (fun _ => some (intK k (x + y))) y) (fun _ => some (intK k (x + y))) x
abbrev Bin := IntKind → Int → Int → Option V
noncomputable def bAdd : Bin := add2
noncomputable def bSub : Bin := sub2
noncomputable def bMul : Bin := fun k x y => some (intK k (x * y))
noncomputable def bQuo : Bin := fun k x y => cond (eqI y 0) none (some (intK k (x.tdiv y)))
noncomputable def bRem : Bin := fun k x y => cond (eqI y 0) none (some (mkI k (x.tmod y)))
noncomputable def bAnd : Bin := fun k x y => nat2 (fun a b => some (intK k (.ofNat (Nat.land (Nat.mod a (kmod k)) (Nat.mod b (kmod k)))))) x y
noncomputable def bOr : Bin := fun k x y => nat2 (fun a b => some (intK k (.ofNat (Nat.lor (Nat.mod a (kmod k)) (Nat.mod b (kmod k)))))) x y
noncomputable def bXor : Bin := fun k x y => nat2 (fun a b => some (intK k (.ofNat (Nat.xor (Nat.mod a (kmod k)) (Nat.mod b (kmod k)))))) x y
noncomputable def bNone : Bin := fun _ _ _ => none
noncomputable def bShl : Bin := fun k x y => nat2 (fun a b => some (natK k (Nat.mul a (Nat.pow 2 (Nat.min b (kbits k)))))) x y
noncomputable def bShr : Bin := fun k x y => nat2 (fun a b => some (.i k (.ofNat (Nat.shiftRight a (Nat.min b (kbits k)))))) x y
noncomputable def bEql : Bin := fun _ x y => some (.b (eqI x y))
noncomputable def bNeq : Bin := fun _ x y => some (.b (not (eqI x y)))
noncomputable def bLss : Bin := fun _ x y => some (.b (ltI x y))
noncomputable def bLeq : Bin := fun _ x y => some (.b (not (ltI y x)))
noncomputable def bGtr : Bin := fun _ x y => some (.b (ltI y x))
noncomputable def bGeq : Bin := fun _ x y => some (.b (not (ltI x y)))
noncomputable def binI (op : BinOp) : Bin := BinOp.rec bAdd bSub bMul bQuo bRem bAnd bOr bXor bShl bShr bNone bEql bNeq bLss bLeq bGtr bGeq op
/-- Are two kinds needed to be one? -/
noncomputable def isShift (op : BinOp) : Bool := BinOp.rec false false false false false false false false true true false false false false false false false op
noncomputable def isEq (op : BinOp) : Nat := BinOp.rec 0 0 0 0 0 0 0 0 0 0 0 1 2 0 0 0 0 op

/-! Types. -/
noncomputable def sz (P : Program) (t : Nat) : Option Nat := ob (P.info? t) fun i => some i.size
def aggD : TypeDesc → Bool
  | .struct _ => true
  | .array _ _ => true
  | _ => false
def fieldsD : TypeDesc → Option (List Field)
  | .struct fs => some fs.toList
  | _ => none
def arrD : TypeDesc → Option (Nat × Nat)
  | .array n e => some (n, e)
  | _ => none
def elemD : TypeDesc → Option Nat
  | .slice e => some e
  | _ => none
def ptrD : TypeDesc → Option Nat
  | .pointer e => some e
  | _ => none
def mapD : TypeDesc → Option (Nat × Nat)
  | .map k e => some (k, e)
  | _ => none
def ifcD : TypeDesc → Bool
  | .interface _ => true
  | _ => false
def intD : TypeDesc → Option IntKind
  | .int k => some k
  | _ => none
def strD : TypeDesc → Bool
  | .string => true
  | _ => false
def boolD : TypeDesc → Bool
  | .bool => true
  | _ => false
noncomputable def isA (P : Program) (t : Nat) : Option Bool := ob (P.underlying t) fun d => some (aggD d)
noncomputable def fieldOf (P : Program) (t f : Nat) : Option Field := ob (P.underlying t) fun d => ob (fieldsD d) fun fs => nth fs f
noncomputable def arrOf (P : Program) (t : Nat) : Option (Nat × Nat) := ob (P.underlying t) arrD
noncomputable def elemOf (P : Program) (t : Nat) : Option Nat := ob (P.underlying t) elemD
/-- A slice type's element, and its cells. -/
noncomputable def elz (P : Program) (t : Nat) : Option (Nat × Nat) := ob (elemOf P t) fun e => ob (sz P e) fun z => some (e, z)
/-- An array type's length, its element's cells, and its element. -/
noncomputable def arz (P : Program) (t : Nat) : Option (Nat × Nat × Nat) := ob (arrOf P t) fun q => ob (sz P q.2) fun z => some (q.1, z, q.2)
/-- A constant of the text. -/
def ofV1 : Value → V
  | .bool b => .b b
  | .int k n => .i k n
  | .string d => .s (d.data.toList.map UInt8.toNat)
  | .pointer none => .pn
  | .slice none 0 0 => .ln
  | .map none => .mn
  | .nilFunc => .fn
  | .nilIface => .nn
  | _ => .u
noncomputable def ofV2 (v : Value) : Option V := cond (isU (ofV1 v)) none (some (ofV1 v))
noncomputable def ofV : Value → V
  | .agg cs => oe (mpo ofV2 cs.toList) .u .a
  | v => ofV1 v
noncomputable def zeroV (P : Program) (t : Nat) : Option V := ob (P.info? t) fun i => ob i.zero fun v => some (ofV v)
/-- The cells of a variable's first value. -/
noncomputable def zeroC (P : Program) (t : Nat) : Option (List V) := ob (zeroV P t) cells
noncomputable def hd (l : List V) : V := List.rec .u (fun h _ _ => h) l
noncomputable def partV (P : Program) (t o : Nat) (l : List V) : Option V := ob (isA P t) fun a => cond a (ob (sz P t) fun n => ob (tk n (drp o l)) fun l => some (.a l)) (nth l o)
/-- What a call comes to. -/
inductive Cr
  | ok (v : V) (M : Mem)
  | bad (why : List (String × Nat))
abbrev CallF := Nat → List V → Mem → Cr
structure Cfg where
  P : Program
  G : Nat → List V
  H : Nat → Nat
  /-- Functions that a contract tells. -/
  X : Nat → Option (List V → Mem → Cr)
  /-- Functions whose text was checked. -/
  U : Nat
  /-- The kinds of the law's arguments that are numbers, and how they compare with constants. -/
  K : Nat → Option IntKind
  Fa : Nat → Nat → Int → Option Bool
  /-- The order in which a drawn region's operations are run. -/
  O : Nat → Nat → List (Nat × Nat)
noncomputable def rdT (t : Nat) (σ : Sl) : V := oe (look σ.L t) (oe (look σ.E t) .u fun v => v) fun v => v
noncomputable def rdC (v : Value) (_ : Sl) : V := ofV v
def rdG (g : Nat) (_ : Sl) : V := .g g 0
def rdF (f : Nat) (_ : Sl) : V := .f f [] []
noncomputable def rd (x : Operand) : Sl → V := Operand.rec rdT rdC rdG rdF x
noncomputable def rds (l : List Operand) (σ : Sl) : List V := mp (fun x => rd x σ) l
noncomputable def obC (q : Ob) : Option (List V × Bool) := Ob.rec (fun l e => some (l, e)) (fun _ _ => none) none q
noncomputable def objAt (M : Mem) (r : Nat) : Option (List V × Bool) := ob (M.T.get r) obC
noncomputable def cellsAt (M : Mem) (r o n : Nat) : Option (List V) := ob (objAt M r) fun q => tk n (drp o q.1)
noncomputable def natI (n : Int) : Option Nat := Int.rec (fun m => some m) (fun _ => none) n
noncomputable def natOf (v : V) : Option Nat := ob (intOf v) fun q => natI q.2
/-- What an operation comes to: a value; a new object, and a value in which its number is to be set; or all of it. -/
inductive Out
  | v (x : V)
  | n (b : Ob) (x : V)
  | c (q : Cr)
noncomputable def no : Out := .c (.bad [])
noncomputable def lt (q : Option V) : Out := oe q no .v
noncomputable def lc (q : Option Cr) : Out := .c (oe q (.bad []) fun q => q)
noncomputable def mkO (q : Option (Ob × V)) : Out := oe q no fun q => .n q.1 q.2
noncomputable def placesF (P : Program) (fs : List Field) : Option (List (Nat × Nat)) := mpo (fun f => ob (sz P f.type) fun s => some (f.offset, s)) fs
noncomputable def places (P : Program) (t : Nat) : Option (Nat → Option (Nat × Nat)) :=
  ob (P.underlying t) fun d => oe (fieldsD d) (ob (arrD d) fun q => ob (sz P q.2) fun z => some fun i => some (Nat.mul i z, z)) fun fs => ob (placesF P fs) fun l => some (nth l)
noncomputable def fill (fs : Nat → Option (Nat × Nat)) (ps : List (Nat × Operand)) (σ : Sl) (z : List V) : Option (List V) :=
  List.rec (motive := fun _ => List V → Option (List V)) (fun z => some z) (fun p _ g z => ob (fs p.1) fun q => ob (cells (rd p.2 σ)) fun cs => cond (Nat.beq (len cs) q.2) (ob (put q.1 cs z) g) none) ps z
noncomputable def rep (n : Nat) (l : List V) : List V := Nat.rec [] (fun _ g => app l g) n
noncomputable def loadV (C : Cfg) (t : Nat) (a : V) (M : Mem) : Option V :=
  oe (ptrOf a) (ob (glbOf a) fun q => partV C.P t q.2 (C.G q.1)) (fun q => ob (objAt M q.1) fun l => partV C.P t q.2 l.1)
noncomputable def writeO (r o : Nat) (cs : List V) (M : Mem) : Option Mem := ob (objAt M r) fun q => ob (put o cs q.1) fun l => some ⟨M.T.set r (.c l q.2), M.nx⟩
noncomputable def okM (v : V) (q : Option Mem) : Out := .c (oe q (.bad []) fun M => .ok v M)
noncomputable def storeV (C : Cfg) (t : Nat) (a x : V) (M : Mem) : Out := okM .z (ob (sz C.P t) fun n => ob (cells x) fun cs => cond (Nat.beq (len cs) n) (ob (ptrOf a) fun q => writeO q.1 q.2 cs M) none)
noncomputable def eqB (a b : Bool) : Bool := cond a b (not b)
noncomputable def eqL (a : List Nat) : List Nat → Bool := List.rec (fun b => List.rec true (fun _ _ _ => false) b) (fun h _ g b => List.rec false (fun k r _ => cond (Nat.beq h k) (g r) false) b) a
/-- The number of a new object, set. -/
noncomputable def ao (q : Nat) (v : V) : V := V.rec (motive_1 := fun _ => V) (motive_2 := fun _ => PUnit) (.u) (fun x0 => .b x0) (fun x0 x1 => .i x0 x1) (fun x0 => .s x0) (fun x0 x1 => .p q x1) (fun x0 x1 => .g x0 x1) (.pn) (fun x0 x1 x2 x3 x4 => .l q x1 x2 x3 x4) (.ln) (fun x0 => .m q) (.mn) (fun x0 x1 x2 _ _ => .f x0 x1 x2) (.fn) (fun x0 x1 _ => .n x0 x1) (.nn) (fun x0 _ => .a x0) (fun x0 _ => .t x0) (fun x0 => .x x0) (.z) (.w) (fun x0 => .q x0) ⟨⟩ (fun _ _ _ _ => ⟨⟩) v

noncomputable def fin (M : Mem) (q : Out) : Cr := Out.rec (fun v => .ok v M) (fun b x => .ok (ao M.nx x) ⟨M.T.set M.nx b, Nat.succ M.nx⟩) (fun q => q) q
/-- It counts as doing something. -/
noncomputable def hv (M : Mem) (q : Out) : Out := .c (fin M q)

/-! Equality, by the type. -/
/-- Two nil ones, or one that is and one that isn't. -/
noncomputable def eqNil (nil it : V → Bool) (a b : V) : Option Bool := cond (nil a) (cond (nil b) (some true) (cond (it b) (some false) none)) (cond (nil b) (cond (it a) (some false) none) none)
noncomputable def isP (v : V) : Bool := oe (ptrOf v) (oe (glbOf v) false fun _ => true) fun _ => true
noncomputable def isL (v : V) : Bool := oe (slcOf v) false fun _ => true
noncomputable def isM (v : V) : Bool := oe (mapOf v) false fun _ => true
noncomputable def isI (v : V) : Bool := oe (ifcOf v) false fun _ => true
noncomputable def isF (v : V) : Bool := oe (fncOf v) false fun _ => true
noncomputable def eqB2 (a b : V) : Option Bool := ob (boolOf a) fun x => ob (boolOf b) fun y => some (eqB x y)
noncomputable def eqI2 (a b : V) : Option Bool := ob (intOf a) fun x => ob (intOf b) fun y => cond (Nat.beq (knum x.1) (knum y.1)) (some (eqI x.2 y.2)) none
noncomputable def eqS2 (a b : V) : Option Bool := ob (strOf a) fun x => ob (strOf b) fun y => some (eqL x y)
def funD : TypeDesc → Bool
  | .func _ _ _ => true
  | _ => false
abbrev EqT := Nat → V → V → Option Bool
noncomputable def eqFs (P : Program) (g : EqT) (fs : List Field) (x y : List V) : Option Bool :=
  List.rec (some true) (fun f _ r => cond (decide (f.name = "_")) none (ob (partV P f.type f.offset x) fun a => ob (partV P f.type f.offset y) fun b => ob (g f.type a b) fun t => cond t r (some false))) fs
noncomputable def eqEs (P : Program) (g : EqT) (e z : Nat) (x y : List V) (n : Nat) : Nat → Option Bool :=
  Nat.rec (fun _ => some true) (fun _ r i => ob (partV P e (Nat.mul i z) x) fun a => ob (partV P e (Nat.mul i z) y) fun b => ob (g e a b) fun t => cond t (r (Nat.succ i)) (some false)) n
/-- Bools, numbers, strings. -/
noncomputable def eqK (d : TypeDesc) (a b : V) : Option Bool := cond (boolD d) (eqB2 a b) (cond (strD d) (eqS2 a b) (oe (intD d) none fun _ => eqI2 a b))
noncomputable def eqD (P : Program) (g : EqT) (t : Nat) (d : TypeDesc) (a b : V) : Option Bool :=
  cond (boolD d) (eqB2 a b) <| cond (strD d) (eqS2 a b) <| oe (intD d)
    (oe (ptrD d)
      (cond (ifcD d) (eqNil isNn isI a b) <| oe (elemD d)
        (oe (mapD d)
          (cond (funD d) (eqNil isFn isF a b) <| oe (fieldsD d)
            (oe (arrD d) none fun q => ob (sz P q.2) fun z => ob (aggOf a) fun x => ob (aggOf b) fun y => eqEs P g q.2 z x y q.1 0)
            fun fs => cond (P.stoodInHeld t) none (ob (aggOf a) fun x => ob (aggOf b) fun y => eqFs P g fs x y))
          fun _ => eqNil isMn isM a b)
        fun _ => eqNil isLn isL a b)
      fun e => oe (eqNil isPn isP a b) (ob (sz P e) fun z => cond (Nat.beq z 0) none (ob (ptrOf a) fun p => ob (ptrOf b) fun q => cond (Nat.beq p.1 q.1) (some (Nat.beq p.2 q.2)) none)) some)
    fun _ => eqI2 a b
noncomputable def eqT (P : Program) (n : Nat) : EqT := Nat.rec (fun _ _ _ => none) (fun _ g t a b => ob (P.underlying t) fun d => eqD P g t d a b) n
/-- c: one of the two is a constant. -/
noncomputable def eqG (P : Program) (t : Nat) (c : Bool) (a b : V) : Option Bool := ob (P.underlying t) fun d =>
  cond (ifcD d) (cond (isNn a) (cond (isNn b) (cond c (some true) none) (cond (isI b) (some false) none)) (cond (isNn b) (cond (isI a) (some false) none) none))
    (cond (aggD d) (cond (P.eqGuardType P.depth t) none (ob (aggOf a) fun _ => ob (aggOf b) fun _ => eqT P 9 t a b)) (cond (isNn a) none (cond (isA1 a) none (eqT P 9 t a b))))
noncomputable def addS (a b : List Nat) : Option V := cond (Nat.ble (Nat.add (len a) (len b)) 1099511627776) (some (.s (app a b))) none
noncomputable def ltL (a : List Nat) : List Nat → Bool := List.rec (fun b => List.rec false (fun _ _ _ => true) b) (fun h _ g b => List.rec false (fun k r _ => cond (Nat.blt h k) true (cond (Nat.beq h k) (g r) false)) b) a
abbrev BinS := List Nat → List Nat → Option V
noncomputable def sNo : BinS := fun _ _ => none
noncomputable def sAdd : BinS := addS
noncomputable def sEql : BinS := fun a b => some (.b (eqL a b))
noncomputable def sNeq : BinS := fun a b => some (.b (not (eqL a b)))
noncomputable def sLss : BinS := fun a b => some (.b (ltL a b))
noncomputable def sLeq : BinS := fun a b => some (.b (not (ltL b a)))
noncomputable def sGtr : BinS := fun a b => some (.b (ltL b a))
noncomputable def sGeq : BinS := fun a b => some (.b (not (ltL a b)))
noncomputable def binS (op : BinOp) : BinS := BinOp.rec sAdd sNo sNo sNo sNo sNo sNo sNo sNo sNo sNo sEql sNeq sLss sLeq sGtr sGeq op
noncomputable def isC (x : Operand) : Bool := Operand.rec (fun _ => false) (fun _ => true) (fun _ => false) (fun _ => false) x
noncomputable def or2 (a b : Bool) : Bool := cond a true b
/-! Numbers that are not known. -/
noncomputable def kindS (C : Cfg) (v : V) : Option IntKind := oe (argOf v) (kindQ v) fun j => C.K j
noncomputable def cmpN (op : BinOp) : Nat := BinOp.rec 6 6 6 6 6 6 6 6 6 6 6 4 5 0 1 2 3 op
noncomputable def symA (op : BinOp) (y : Option (IntKind × Int)) : Bool := BinOp.rec true true true (oe y false fun y => not (eqI y.2 0)) (oe y false fun y => not (eqI y.2 0)) false false false false false false false false false false false false op
noncomputable def symV (C : Cfg) (op : BinOp) (a b : V) : Option V :=
  ob (kindS C a) fun k => ob (kindS C b) fun k' => cond (Nat.beq (knum k) (knum k'))
    (cond (symA op (intOf b)) (some (.q k)) (cond (Nat.ble (cmpN op) 5) (ob (argOf a) fun j => ob (intOf b) fun y => ob (C.Fa (cmpN op) j y.2) fun t => some (.b t)) none)) none
noncomputable def isX (v : V) : Bool := oe (argOf v) (Nat.beq (kindOf v) 20) fun _ => true
noncomputable def binV (C : Cfg) (op : BinOp) (t : Nat) (c : Bool) (a b : V) : Option V :=
  cond (or2 (isX a) (isX b)) (symV C op a b) (oe (intOf a) (oe (strOf a) (cond (Nat.beq (isEq op) 0) none (ob (eqG C.P t c a b) fun r => some (.b (cond (Nat.beq (isEq op) 1) r (not r))))) fun x => ob (strOf b) fun y => binS op x y)
    fun x => ob (intOf b) fun y => cond (or2 (isShift op) (Nat.beq (knum x.1) (knum y.1))) (binI op x.1 x.2 y.2) none)
noncomputable def uNeg (v : V) : Option V := ob (intOf v) fun q => some (intK q.1 (0 - q.2))
noncomputable def uNot (v : V) : Option V := ob (boolOf v) fun t => some (.b (not t))
noncomputable def uNo (_ : V) : Option V := none
noncomputable def unV (op : UnOp) : V → Option V := UnOp.rec uNeg uNo uNot uNo op

/-! Conversions. -/
noncomputable def byteOf (v : V) : Option Nat := ob (intOf v) fun q => cond (Nat.beq (knum q.1) 4) (ob (natI q.2) fun n => cond (Nat.blt n 256) (some n) none) none
noncomputable def bytesOf (l : List V) : Option (List Nat) := mpo byteOf l
noncomputable def byteV (b : Nat) : V := .i .u8 (.ofNat b)
noncomputable def bytesV (l : List Nat) : List V := mp byteV l
/-- Is the type a slice of bytes? -/
noncomputable def isBs (P : Program) (t : Nat) : Bool := oe (elemOf P t) false fun e => oe (P.underlying e) false fun d => oe (intD d) false fun k => Nat.beq (knum k) 4
/-- A slice's or a string's bytes, as a string. -/
noncomputable def convS (P : Program) (s : Nat) (x : V) (M : Mem) : Option V :=
  oe (strOf x) (cond (isBs P s) (cond (isLn x) (some (.s [])) (ob (slcOf x) fun q => ob (cellsAt M q.r q.o q.n) fun l => ob (bytesOf l) fun b => some (.s b))) none) fun _ => cond (oe (P.underlying s) false fun _ => true) (some x) none
noncomputable def convI (k : IntKind) (x : V) : Option V := ob (intOf x) fun q => some (intK k q.2)
noncomputable def convB (P : Program) (s d : Nat) (x : V) : Option (Ob × V) := cond (isBs P d) (cond (oe (P.underlying s) false strD) (ob (strOf x) fun l => cond (Nat.ble (len l) 1099511627776) (some (.c (bytesV l) false, .l 0 0 (len l) none 1)) none) none) none
noncomputable def convV (C : Cfg) (s d : Nat) (x : V) (M : Mem) : Out :=
  oe (C.P.underlying d) no fun dd => cond (strD dd) (lt (convS C.P s x M)) (oe (intD dd) (hv M (mkO (convB C.P s d x))) fun k => lt (cond (oe (C.P.underlying s) false fun _ => true) (convI k x) none))

/-! Maps: entries as they came, each with its stamp. -/
abbrev En := List (Nat × V × V)
noncomputable def obM (q : Ob) : Option (En × Nat) := Ob.rec (fun _ _ => none) (fun l c => some (l, c)) none q
noncomputable def mapAt (M : Mem) (r : Nat) : Option (En × Nat) := ob (M.T.get r) obM
/-- none: it can't be told; some none: it isn't there; else its place, its stamp, and what stands there. -/
noncomputable def findK (d : TypeDesc) (k : V) (l : En) : Nat → Option (Option (Nat × Nat × V)) :=
  List.rec (fun _ => some none) (fun h _ g i => ob (eqK d k h.2.1) fun t => cond t (some (some (i, h.1, h.2.2))) (g (Nat.succ i))) l
noncomputable def setI (v : V) (l : En) : Nat → En := List.rec (fun _ => []) (fun h r g i => Nat.rec ((h.1, h.2.1, v) :: r) (fun m _ => h :: g m) i) l
noncomputable def delI (l : En) : Nat → En := List.rec (fun _ => []) (fun h r g i => Nat.rec r (fun m _ => h :: g m) i) l
noncomputable def findS (s : Nat) (l : En) : Nat → Option Nat := List.rec (fun _ => none) (fun h _ g i => cond (Nat.beq h.1 s) (some i) (g (Nat.succ i))) l
noncomputable def putM (r : Nat) (l : En) (c : Nat) (M : Mem) : Mem := ⟨M.T.set r (.m l c), M.nx⟩
/-- A map type: its key's description, and its element. -/
noncomputable def keyK (d : TypeDesc) : Bool := cond (boolD d) true (cond (strD d) true (oe (intD d) false fun _ => true))
noncomputable def mapz (P : Program) (t : Nat) : Option (TypeDesc × Nat) := ob (P.underlying t) fun d => ob (mapD d) fun q => ob (P.underlying q.1) fun k => cond (keyK k) (some (k, q.2)) none
noncomputable def lookupV (C : Cfg) (t : Nat) (x k : V) (ok : Bool) (M : Mem) : Option V :=
  ob (mapz C.P t) fun q => ob (cond (isMn x) (some none) (ob (mapOf x) fun r => ob (mapAt M r) fun p => findK q.1 k p.1 0)) fun f =>
    oe f (ob (zeroV C.P q.2) fun z => some (cond ok (.t [z, .b false]) z)) fun e => some (cond ok (.t [e.2.2, .b true]) e.2.2)
noncomputable def mapSet (C : Cfg) (t : Nat) (m k v : V) (M : Mem) : Out := okM .z (ob (mapz C.P t) fun q => ob (mapOf m) fun r => ob (mapAt M r) fun p => ob (findK q.1 k p.1 0) fun f =>
  oe f (some (putM r (app p.1 [(p.2, k, v)]) (Nat.succ p.2) M)) fun e => some (putM r (setI v p.1 e.1) p.2 M))
noncomputable def mapEnt (C : Cfg) (t : Nat) (m k : V) (M : Mem) : Out := lc (ob (mapz C.P t) fun q => ob (mapOf m) fun r => ob (mapAt M r) fun p => ob (findK q.1 k p.1 0) fun f =>
  oe f (ob (zeroV C.P q.2) fun z => some (.ok (.t [z, .i .i64 (.ofNat p.2)]) (putM r (app p.1 [(p.2, k, z)]) (Nat.succ p.2) M))) fun e => some (.ok (.t [e.2.2, .i .i64 (.ofNat e.2.1)]) M))
noncomputable def entSet (m s v : V) (M : Mem) : Out := okM .z (ob (mapOf m) fun r => ob (mapAt M r) fun p => ob (natOf s) fun s => ob (findS s p.1 0) fun i => some (putM r (setI v p.1 i) p.2 M))
noncomputable def delV (C : Cfg) (t : Nat) (m k : V) (M : Mem) : Out := okM (.t []) (ob (mapz C.P t) fun q => cond (isMn m) (some M) (ob (mapOf m) fun r => ob (mapAt M r) fun p => ob (findK q.1 k p.1 0) fun f =>
  oe f (some M) fun e => some (putM r (delI p.1 e.1) p.2 M)))
/-- A concrete type alone. -/
noncomputable def assertV (C : Cfg) (x : V) (d : Nat) (ok : Bool) : Option V := cond (oe (C.P.underlying d) true ifcD) none
  (cond (isNn x) (cond ok (ob (zeroV C.P d) fun z => some (.t [z, .b false])) none) (ob (ifcOf x) fun q => cond (Nat.beq q.1 d) (some (cond ok (.t [q.2, .b true]) q.2)) (cond ok (ob (zeroV C.P d) fun z => some (.t [z, .b false])) none)))
noncomputable def findMt (nm : String) (l : List Method) : Option Method := List.rec none (fun h _ g => cond (decide (h.name = nm)) (some h) g) l
/-- The function of a method that stands in its own type's row, and whether it wants an address. -/
noncomputable def methOf (P : Program) (t : Nat) (nm : String) : Option (Nat × Bool) := ob (P.info? t) fun i => ob (findMt nm i.methods.toList) fun m => cond m.path.isEmpty m.func none
noncomputable def fnOf (f : Fn) : Option Nat := Fn.rec (fun f => some f) (fun _ => none) (fun _ _ => none) (fun _ _ _ _ => none) (fun _ => none) f
noncomputable def moveP (a : V) (k : Nat) : Option V := oe (ptrOf a) (ob (glbOf a) fun q => some (.g q.1 (Nat.add q.2 k))) fun q => some (.p q.1 (Nat.add q.2 k))

/-! Slices. -/
/-- A bound: none: it isn't there; some none: it is no number. -/
noncomputable def bnd (q : Option Operand) (σ : Sl) : Option (Option Nat) := oe q none fun x => some (natOf (rd x σ))
noncomputable def dfl (q : Option (Option Nat)) (d : Nat) : Option Nat := oe q (some d) fun x => x
noncomputable def le3 (a b c d : Nat) : Bool := cond (Nat.ble a b) (cond (Nat.ble b c) (Nat.ble c d) false) false
/-- Is there a high bound, where there is a greatest one? -/
noncomputable def hiOk (hi mx : Option (Option Nat)) : Bool := oe mx true fun _ => oe hi false fun _ => true
noncomputable def sliceL (z : Nat) (s : SlV) (lo : Nat) (hi mx : Option (Option Nat)) : Option V :=
  ob (dfl hi s.n) fun hi => oe s.c
    (oe mx (cond (le3 lo hi s.n s.n) (some (.l s.r (Nat.add s.o (Nat.mul lo z)) (Nat.sub hi lo) none z)) none)
      fun m => ob m fun m => cond (le3 lo hi m s.n) (some (.l s.r (Nat.add s.o (Nat.mul lo z)) (Nat.sub hi lo) (some (Nat.sub m lo)) z)) none)
    fun c => ob (dfl mx c) fun m => cond (le3 lo hi m c) (some (.l s.r (Nat.add s.o (Nat.mul lo z)) (Nat.sub hi lo) (some (Nat.sub m lo)) z)) none
noncomputable def sliceA (q : Nat × Nat × Nat) (p : Nat × Nat) (lo : Nat) (hi mx : Option (Option Nat)) : Option V :=
  ob (dfl hi q.1) fun hi => ob (dfl mx q.1) fun m => cond (le3 lo hi m q.1) (cond (Nat.ble q.1 1099511627776) (some (.l p.1 (Nat.add p.2 (Nat.mul lo q.2.1)) (Nat.sub hi lo) (some (Nat.sub m lo)) q.2.1)) none) none
noncomputable def sliceS (l : List Nat) (lo : Nat) (hi : Option (Option Nat)) : Option V := ob (dfl hi (len l)) fun hi => cond (Nat.ble lo hi) (cond (Nat.ble hi (len l)) (ob (tk (Nat.sub hi lo) (drp lo l)) fun l => some (.s l)) none) none
noncomputable def sliceV (C : Cfg) (t : Nat) (x : V) (lo hi mx : Option (Option Nat)) : Option V :=
  ob (C.P.underlying t) fun d => cond (hiOk hi mx) (ob (dfl lo 0) fun lo =>
    oe (elz C.P t)
      (oe (arz C.P t) (cond (strD d) (ob (strOf x) fun l => oe mx (sliceS l lo hi) fun _ => none) none) fun q => ob (ptrOf x) fun p => sliceA q p lo hi mx)
      fun e => cond (isLn x) (ob (dfl hi 0) fun hi => ob (dfl mx 0) fun m => cond (le3 lo hi m 0) (some .ln) none) (ob (slcOf x) fun s => cond (Nat.beq s.z e.2) (sliceL e.2 s lo hi mx) none)) none
/-- The cells behind a slice or a string. -/
noncomputable def srcV (z : Nat) (x : V) (n : Nat) (M : Mem) : Option (List V) :=
  oe (strOf x) (ob (slcOf x) fun s => cond (Nat.beq s.z z) (cellsAt M s.r s.o (Nat.mul n z)) none) fun l => cond (Nat.beq z 1) (ob (tk n l) fun l => some (bytesV l)) none
noncomputable def lenV (x : V) : Option Nat := oe (strOf x) (cond (isLn x) (some 0) (ob (slcOf x) fun s => some s.n)) fun l => some (len l)
noncomputable def lenD (x : V) : Option Nat := cond (isLn x) (some 0) (ob (slcOf x) fun s => some s.n)
noncomputable def newL (l : List V) (n z : Nat) : Out := .n (.c l false) (.l 0 0 n none z)
/-- The new row is no greater than what a memory bears. -/
noncomputable def fits (P : Program) (e n : Nat) : Bool := oe (P.info? e) false fun i => oe i.zero false fun z => cond (Nat.beq z.cells.size i.size) (cond (Nat.beq i.bytes 0) false (Nat.ble (Nat.mul (Nat.add (Nat.mul 2 n) 1024) i.bytes) 281474976710656)) false
noncomputable def appendS (z : Nat) (s : SlV) (ys : List V) (n : Nat) (M : Mem) (q : List V × Bool) : Out :=
  oe s.c
    (oe (put (Nat.add s.o (Nat.mul s.n z)) ys q.1)
      (cond (Nat.beq (Nat.add s.o (Nat.mul s.n z)) (len q.1)) (.c (.ok (.l M.nx 0 (Nat.add s.n n) none z) ⟨(M.T.set s.r .dead).set M.nx (.c (app (drp s.o q.1) ys) false), Nat.succ M.nx⟩)) no)
      fun l => .c (.ok (.l s.r s.o (Nat.add s.n n) none z) ⟨M.T.set s.r (.c l q.2), M.nx⟩))
    fun c => cond (Nat.ble (Nat.add s.n n) c) (oe (put (Nat.add s.o (Nat.mul s.n z)) ys q.1) no fun l => .c (.ok (.l s.r s.o (Nat.add s.n n) (some c) z) ⟨M.T.set s.r (.c l q.2), M.nx⟩))
      (oe (tk (Nat.mul s.n z) (drp s.o q.1)) no fun xs => newL (app xs ys) (Nat.add s.n n) z)
/-- Is the type one whose values append takes? -/
noncomputable def srcT (P : Program) (t : Nat) : Bool := oe (P.underlying t) false fun d => cond (strD d) true (oe (elemD d) false fun _ => true)
noncomputable def appendV (P : Program) (ts : List Nat) (a b : V) (M : Mem) : Out :=
  oe (nth ts 0) no fun t => oe (nth ts 1) no fun t' => cond (srcT P t') (oe (elz P t) no fun e => oe (lenV b) no fun n => cond (Nat.beq e.2 0) no <|
    cond (Nat.beq n 0) (cond (or2 (isLn a) (isL a)) (.v a) no) (oe (srcV e.2 b n M) no fun ys =>
      cond (isLn a) (cond (fits P e.1 n) (newL ys n e.2) no)
        (oe (slcOf a) no fun s => cond (Nat.beq s.z e.2) (cond (fits P e.1 (Nat.add s.n n)) (oe (objAt M s.r) no (appendS e.2 s ys n M)) no) no))) no
noncomputable def copyV (P : Program) (ts : List Nat) (a b : V) (M : Mem) : Out :=
  oe (nth ts 0) no fun t => oe (elz P t) no fun e => oe (lenD a) no fun n => oe (lenV b) no fun m => cond (Nat.beq (Nat.min m n) 0) (.c (.ok (.i .i64 (.ofNat 0)) M))
    (okM (.i .i64 (.ofNat (Nat.min m n))) (ob (srcV e.2 b (Nat.min m n) M) fun ys => ob (slcOf a) fun s => cond (Nat.beq s.z e.2) (writeO s.r s.o ys M) none))

/-! What is built in. -/
abbrev Bi := Program → List Nat → List V → Mem → Out
noncomputable def hd2 (l : List V) : V := hd (drp 1 l)
noncomputable def two (l : List V) (f : V → V → Out) : Out := oe (nth l 0) no fun a => oe (nth l 1) no fun b => f a b
noncomputable def biAppend : Bi := fun P ts l M => hv M (two l fun a b => appendV P ts a b M)
noncomputable def biCopy : Bi := fun P ts l M => two l fun a b => copyV P ts a b M
noncomputable def lenW (P : Program) (t : Nat) (x : V) (M : Mem) : Option Nat := ob (P.underlying t) fun d =>
  cond (strD d) (ob (strOf x) fun l => some (len l)) (oe (elemD d) (oe (arrD d) (ob (mapD d) fun _ => cond (isMn x) (some 0) (ob (mapOf x) fun r => ob (mapAt M r) fun p => some (len p.1))) fun q => some q.1) fun _ => cond (isLn x) (some 0) (ob (slcOf x) fun s => some s.n))
noncomputable def biLen : Bi := fun P ts l M => lt (ob (nth ts 0) fun t => ob (nth l 0) fun x => ob (lenW P t x M) fun n => some (.i .i64 (.ofNat n)))
noncomputable def biCap : Bi := fun P ts l _ => lt (ob (nth ts 0) fun t => ob (elemOf P t) fun _ => ob (nth l 0) fun x => cond (isLn x) (some (.i .i64 (.ofNat 0))) (ob (slcOf x) fun s => ob s.c fun c => some (.i .i64 (.ofNat c))))
noncomputable def pickQ (a b : V) : Option V := ob (kindQ a) fun k => ob (kindQ b) fun k' => cond (Nat.beq (knum k) (knum k')) (some (.q k)) none
noncomputable def pickV (f : Int → Int → Bool) (a b : V) : Option V := oe (intOf a) (pickQ a b) fun x => oe (intOf b) (pickQ a b) fun y => cond (Nat.beq (knum x.1) (knum y.1)) (some (cond (f x.2 y.2) b a)) none
noncomputable def foldV (f : V → V → Option V) (l : List V) : V → Option V := List.rec (motive := fun _ => V → Option V) (fun a => some a) (fun h _ g a => ob (f a h) g) l
noncomputable def mm (f : Int → Int → Bool) (l : List V) : Out := lt (List.rec none (fun a r _ => foldV (pickV f) r a) l)
noncomputable def biMax : Bi := fun _ _ l _ => mm (fun x y => ltI x y) l
noncomputable def biMin : Bi := fun _ _ l _ => mm (fun x y => ltI y x) l
noncomputable def biNo : Bi := fun _ _ _ _ => no
noncomputable def biDel : Bi := fun _ _ _ _ => no
/-- A slice's cells made zero. -/
noncomputable def clearV (P : Program) (ts : List Nat) (a : V) (M : Mem) : Option Cr :=
  ob (nth ts 0) fun t => ob (elz P t) fun e => ob (lenD a) fun n => cond (Nat.beq n 0) (some (.ok (.t []) M))
    (ob (zeroC P e.1) fun z => ob (slcOf a) fun s => cond (Nat.beq s.z e.2) (cond (Nat.beq (len z) e.2) (ob (writeO s.r s.o (rep n z) M) fun M => some (.ok (.t []) M)) none) none)
noncomputable def biClear : Bi := fun P ts l M => lc (ob (nth l 0) fun a => clearV P ts a M)
noncomputable def biOf (b : Builtin) : Bi := Builtin.rec biAppend biCap biClear biNo biNo biCopy biNo biNo biLen biNo biMax biMin biNo biNo biNo biNo biNo biNo biNo biNo biNo biNo biNo biNo biNo biNo b
/-- What a method of its own row is given. -/
noncomputable def recvV (C : Cfg) (t : Nat) (x : V) (ptr : Bool) (M : Mem) : Option V :=
  ob (C.P.underlying t) fun d => oe (ptrD d) (cond ptr none (some x)) fun e => cond ptr (some x) (oe (ptrOf x) none fun q => ob (objAt M q.1) fun l => partV C.P e q.2 l.1)
abbrev Cf := CallF → Cfg → Sl → List V → List Nat → Mem → Out
noncomputable def cVal (f : Operand) : Cf := fun cl _ σ as _ M => oe (fncOf (rd f σ)) no fun f => FnV.rec (motive := fun _ => Out) (fun k a c => .c (cl k (app a (app as c)) M)) f
noncomputable def cInv (x : Operand) (nm : String) : Cf := fun cl C σ as _ M => oe (ifcOf (rd x σ)) no fun q => oe (methOf C.P q.1 nm) no fun m => oe (recvV C q.1 q.2 m.2 M) no fun r => .c (cl m.1 (r :: as) M)
noncomputable def cBi (b : Builtin) : Cf := fun _ C _ as ts M => biOf b C.P ts as M
noncomputable def callee (c : Callee) : Cf := Callee.rec cVal cInv cBi c
/-! One operation. -/
abbrev Ex := CallF → Cfg → Sl → Mem → Out
noncomputable def x_move (x : Operand) : Ex := fun cl C σ M => lt (some (rd x σ))
noncomputable def x_assign (x : Operand) : Ex := fun cl C σ M => lt (some (rd x σ))
noncomputable def x_pick (c : Operand) (a : Operand) (b : Operand) : Ex := fun cl C σ M => lt (ob (boolOf (rd c σ)) fun t => some (cond t (rd a σ) (rd b σ)))
noncomputable def x_alloc (t : Nat) : Ex := fun cl C σ M => mkO (ob (zeroC C.P t) fun l => some (.c l true, .p 0 0))
noncomputable def x_box (t : Nat) (x : Operand) : Ex := fun cl C σ M => mkO (ob (cells (rd x σ)) fun l => some (.c l true, .p 0 0))
noncomputable def x_build (t : Nat) (ps : Array (Nat × Operand)) : Ex := fun cl C σ M => lt (ob (zeroC C.P t) fun z => ob (places C.P t) fun pl => ob (fill pl ps.toList σ z) fun l => some (.a l))
noncomputable def x_buildSlice (t : Nat) (n : Nat) (ps : Array (Nat × Operand)) : Ex := fun cl C σ M => mkO (ob (elz C.P t) fun e => ob (zeroC C.P e.1) fun z => cond (Nat.beq (len z) e.2) (cond (Nat.ble (Nat.mul n e.2) 16777216) (cond (Nat.ble n 16777216) (ob (fill (fun i => some (Nat.mul i e.2, e.2)) ps.toList σ (rep n z)) fun l => some (.c l true, .l 0 0 n (some n) e.2)) none) none) none)
noncomputable def x_insert (t : Nat) (m : Operand) (k : Operand) (v : Operand) : Ex := fun cl C σ M => no
noncomputable def x_load (t : Nat) (a : Operand) : Ex := fun cl C σ M => lt (loadV C t (rd a σ) M)
noncomputable def x_store (t : Nat) (a : Operand) (x : Operand) : Ex := fun cl C σ M => storeV C t (rd a σ) (rd x σ) M
noncomputable def x_ready (g : Nat) : Ex := fun cl C σ M => no
noncomputable def x_waits (g : Nat) : Ex := fun cl C σ M => no
noncomputable def x_nilCheck (x : Operand) : Ex := fun cl C σ M => lt (cond (isOn (rd x σ)) (some (rd x σ)) none)
noncomputable def x_binOp (op : BinOp) (t : Nat) (x : Operand) (y : Operand) (u : Nat) : Ex := fun cl C σ M => lt (binV C op t (or2 (isC x) (isC y)) (rd x σ) (rd y σ))
noncomputable def x_unOp (op : UnOp) (t : Nat) (x : Operand) : Ex := fun cl C σ M => lt (unV op (rd x σ))
noncomputable def x_convert (s : Nat) (d : Nat) (x : Operand) : Ex := fun cl C σ M => convV C s d (rd x σ) M
noncomputable def x_sliceToArrayPointer (d : Nat) (x : Operand) : Ex := fun cl C σ M => no
noncomputable def x_makeInterface (t : Nat) (x : Operand) : Ex := fun cl C σ M => lt (cond (oe (C.P.underlying t) true ifcD) none (some (.n t (rd x σ))))
noncomputable def x_makeFunc (fn : Fn) (fs : Array Operand) (cs : Array Operand) : Ex := fun cl C σ M => lt (ob (fnOf fn) fun f => some (.f f (rds fs.toList σ) (rds cs.toList σ)))
noncomputable def x_makeMap (t : Nat) (r : Option Operand) : Ex := fun cl C σ M => mkO (cond (oe r true fun x => oe (C.P.underlying t) false fun d => oe (mapD d) false fun _ => oe (intOf (rd x σ)) false fun _ => true) (some (.m [] 0, .m 0)) none)
noncomputable def x_makeChan (t : Nat) (s : Operand) : Ex := fun cl C σ M => no
noncomputable def x_makeSlice (t : Nat) (n : Operand) (c : Operand) : Ex := fun cl C σ M => mkO (ob (elz C.P t) fun e => ob (zeroC C.P e.1) fun z => cond (Nat.beq (len z) e.2) (ob (natOf (rd n σ)) fun n => ob (natOf (rd c σ)) fun c => cond (Nat.ble n c) (cond (fits C.P e.1 c) (some (.c (rep c z) true, .l 0 0 n (some c) e.2)) none) none) none)
noncomputable def x_slice (t : Nat) (x : Operand) (lo : Option Operand) (hi : Option Operand) (mx : Option Operand) : Ex := fun cl C σ M => lt (sliceV C t (rd x σ) (bnd lo σ) (bnd hi σ) (bnd mx σ))
noncomputable def x_fieldAddr (t : Nat) (x : Operand) (f : Nat) : Ex := fun cl C σ M => lt (ob (fieldOf C.P t f) fun q => ob (sz C.P q.type) fun z => cond (Nat.beq z 0) none (moveP (rd x σ) q.offset))
noncomputable def x_field (t : Nat) (x : Operand) (f : Nat) : Ex := fun cl C σ M => lt (ob (fieldOf C.P t f) fun q => ob (aggOf (rd x σ)) fun l => partV C.P q.type q.offset l)
noncomputable def x_indexAddr (t : Nat) (x : Operand) (i : Operand) : Ex := fun cl C σ M => lt (ob (natOf (rd i σ)) fun i => oe (elz C.P t) (ob (arz C.P t) fun q => cond (Nat.blt i q.1) (moveP (rd x σ) (Nat.mul i q.2.1)) none) fun e => ob (slcOf (rd x σ)) fun s => cond (Nat.beq s.z e.2) (cond (Nat.blt i s.n) (some (.p s.r (Nat.add s.o (Nat.mul i s.z)))) none) none)
noncomputable def x_index (t : Nat) (x : Operand) (i : Operand) : Ex := fun cl C σ M => lt (ob (natOf (rd i σ)) fun i => oe (arz C.P t) (ob (C.P.underlying t) fun d => cond (strD d) (ob (strOf (rd x σ)) fun l => ob (nth l i) fun b => some (byteV b)) none) fun q => ob (aggOf (rd x σ)) fun l => cond (Nat.blt i q.1) (partV C.P q.2.2 (Nat.mul i q.2.1) l) none)
noncomputable def x_lookup (t : Nat) (x : Operand) (i : Operand) (ok : Bool) : Ex := fun cl C σ M => lt (lookupV C t (rd x σ) (rd i σ) ok M)
noncomputable def x_mapUpdate (t : Nat) (m : Operand) (k : Operand) (v : Operand) : Ex := fun cl C σ M => mapSet C t (rd m σ) (rd k σ) (rd v σ) M
noncomputable def x_mapEntry (t : Nat) (m : Operand) (k : Operand) : Ex := fun cl C σ M => mapEnt C t (rd m σ) (rd k σ) M
noncomputable def x_entryStore (t : Nat) (m : Operand) (s : Operand) (v : Operand) : Ex := fun cl C σ M => entSet (rd m σ) (rd s σ) (rd v σ) M
noncomputable def x_range (t : Nat) (x : Operand) : Ex := fun cl C σ M => no
noncomputable def x_next (it : Operand) (st : Bool) : Ex := fun cl C σ M => no
noncomputable def x_entry (it : Operand) : Ex := fun cl C σ M => no
noncomputable def x_typeAssert (x : Operand) (s : Nat) (d : Nat) (ok : Bool) : Ex := fun cl C σ M => lt (assertV C (rd x σ) d ok)
noncomputable def x_extract (x : Operand) (i : Nat) : Ex := fun cl C σ M => lt (ob (tupOf (rd x σ)) fun l => nth l i)
noncomputable def x_call (c : Call) : Ex := fun cl C σ M => callee c.callee cl C σ (rds c.args.toList σ) c.argTypes.toList M
noncomputable def x_go (c : Call) : Ex := fun cl C σ M => no
noncomputable def x_defer (c : Call) : Ex := fun cl C σ M => no
noncomputable def x_panic (x : Operand) : Ex := fun cl C σ M => no
noncomputable def x_send (c : Operand) (x : Operand) : Ex := fun cl C σ M => no
noncomputable def x_recv (t : Nat) (c : Operand) (ok : Bool) : Ex := fun cl C σ M => no
noncomputable def x_select (cs : Array SelectCase) (b : Bool) : Ex := fun cl C σ M => no
noncomputable def exO (o : Op) : Ex := Op.rec x_move x_assign x_pick x_alloc x_box x_build x_buildSlice x_insert x_load x_store x_ready x_waits x_nilCheck x_binOp x_unOp x_convert x_sliceToArrayPointer x_makeInterface x_makeFunc x_makeMap x_makeChan x_makeSlice x_slice x_fieldAddr x_field x_indexAddr x_index x_lookup x_mapUpdate x_mapEntry x_entryStore x_range x_next x_entry x_typeAssert x_extract x_call x_go x_defer x_panic x_send x_recv x_select o

noncomputable def exOp (o : Op) (cl : CallF) (C : Cfg) (σ : Sl) (M : Mem) : Cr := fin M (exO o cl C σ M)

/-! Are two values the same? -/
noncomputable def all2 {α β : Type} (g : α → β → Bool) (l : List α) : List β → Bool := List.rec (fun b => List.rec true (fun _ _ _ => false) b) (fun h _ r b => List.rec false (fun k t _ => cond (g h k) (r t) false) b) l
noncomputable def sameO (a b : Option Nat) : Bool := oe a (oe b true fun _ => false) fun x => oe b false fun y => Nat.beq x y
noncomputable def same1 (g : V → V → Bool) (a b : V) : Bool :=
  oe (intOf a) (oe (boolOf a) (oe (ptrOf a) (oe (slcOf a) (oe (aggOf a) (oe (tupOf a) (oe (strOf a) (oe (mapOf a) (oe (ifcOf a) (oe (glbOf a)
    (oe (fncOf a) (oe (argOf a) (oe (kindQ a)
      (cond (Nat.beq (kindOf a) (kindOf b)) (Nat.beq (Nat.land (Nat.shiftRight 808257 (kindOf a)) 1) 1) false)
      fun k => oe (kindQ b) false fun k' => cond (Nat.beq (kindOf b) 20) (Nat.beq (knum k) (knum k')) false)
      fun j => oe (argOf b) false fun j' => Nat.beq j j')
      fun x => oe (fncOf b) false fun y => cond (Nat.beq x.f y.f) (cond (all2 g x.a y.a) (all2 g x.c y.c) false) false)
    fun x => oe (glbOf b) false fun y => cond (Nat.beq x.1 y.1) (Nat.beq x.2 y.2) false)
    fun x => oe (ifcOf b) false fun y => cond (Nat.beq x.1 y.1) (g x.2 y.2) false)
    fun x => oe (mapOf b) false fun y => Nat.beq x y)
    fun x => oe (strOf b) false fun y => eqL x y)
    fun x => oe (tupOf b) false fun y => all2 g x y)
    fun x => oe (aggOf b) false fun y => all2 g x y)
    fun x => oe (slcOf b) false fun y => cond (Nat.beq x.r y.r) (cond (Nat.beq x.o y.o) (cond (Nat.beq x.n y.n) (cond (Nat.beq x.z y.z) (sameO x.c y.c) false) false) false) false)
    fun x => oe (ptrOf b) false fun y => cond (Nat.beq x.1 y.1) (Nat.beq x.2 y.2) false)
    fun x => oe (boolOf b) false fun y => eqB x y)
    fun x => oe (intOf b) false fun y => cond (Nat.beq (knum x.1) (knum y.1)) (eqI x.2 y.2) false
noncomputable def same (n : Nat) : V → V → Bool := Nat.rec (fun _ _ => false) (fun _ g => same1 g) n
noncomputable def sameB (a b : Ob) : Bool := Ob.rec (fun l e => Ob.rec (fun l' e' => cond (eqB e e') (all2 (same 4) l l') false) (fun _ _ => false) false b) (fun _ _ => false) false a
noncomputable def sameQ (a b : Out) : Bool := Out.rec (fun x => Out.rec (fun y => same 4 x y) (fun _ _ => false) (fun _ => false) b) (fun o x => Out.rec (fun _ => false) (fun p y => cond (sameB o p) (same 4 x y) false) (fun _ => false) b) (fun _ => false) a

/-! Code. -/
inductive Res
  | n (σ : Sl) (M : Mem)
  | e (id : Nat) (σ : Sl) (M : Mem)
  | r (σ : Sl) (M : Mem)
  | bad (why : List (String × Nat))
noncomputable def put1 (h : Nat) (σ : Sl) (d : Option Nat) (v : V) : Sl :=
  oe d σ fun d => cond (Nat.beq (Nat.land (Nat.shiftRight h d) 1) 1) ⟨upd d v σ.E, σ.L⟩ ⟨σ.E, (d, v) :: σ.L⟩
/-- Is it wanted? -/
noncomputable def guardOk (ops : List Oper) (σ : Sl) (o : Oper) : Option Bool :=
  oe o.guard (some true) fun q => ob (nth ops q.1) fun p => ob p.dst fun d => oe (boolOf (rdT d σ)) (cond (isZ (rdT d σ)) (some false) none) fun x => some (eqB x q.2)
structure Fx where
  cl : CallF
  C : Cfg
  h : Nat
  f : Nat
/-- One operation, with what F says in its place. -/
noncomputable def exF (F : Fx) (o : Op) (σ : Sl) (M : Mem) : Out := Fx.rec (motive := fun _ => Out) (fun cl C _ _ => exO o cl C σ M) F
noncomputable def exOpF (F : Fx) (o : Op) (σ : Sl) (M : Mem) : Cr := fin M (exF F o σ M)
noncomputable def step1 (F : Fx) (o : Oper) (g : Sl → Mem → Res) (σ : Sl) (M : Mem) : Res := Cr.rec (fun v M => g (put1 F.h σ o.dst v) M) (fun w => .bad ((o.pos, oe o.dst 0 fun d => d) :: w)) (exOpF F o.op σ M)
noncomputable def stepG (F : Fx) (ops : List Oper) (o : Oper) (g : Sl → Mem → Res) (σ : Sl) (M : Mem) : Res :=
  oe (guardOk ops σ o) (.bad [("guard", 0)]) fun t => cond t (step1 F o g σ M) (g (put1 F.h σ o.dst .z) M)
noncomputable def regionR (F : Fx) (ops : List Oper) (σ : Sl) (M : Mem) : Res := List.rec (motive := fun _ => Sl → Mem → Res) Res.n (fun o _ g => stepG F ops o g) ops ⟨σ.E, []⟩ M
/-! A region that draws its order. Each operation comes with those that come ahead of it for sure (a bit mask). What has been read is read again behind each operation that does something. -/
abbrev Pend := List (Nat × Nat × Oper × Out)
abbrev Gd := Pend → Sl → Mem → Res
/-- Those that need not come ahead of it, each with the same answer still. -/
noncomputable def again (F : Fx) (σ : Sl) (M : Mem) (m : Nat) (l : Pend) : Option Pend :=
  List.rec (some []) (fun p _ g => cond (Nat.beq (Nat.land (Nat.shiftRight m p.1) 1) 1) g (cond (sameQ p.2.2.2 (exF F p.2.2.1.op σ M)) (ob g fun r => some (p :: r)) none)) l
noncomputable def heavyD (F : Fx) (o : Oper) (m : Nat) (g : Gd) (l : Pend) (σ : Sl) (q : Cr) : Res :=
  Cr.rec (fun v M => oe (again F (put1 F.h σ o.dst v) M m l) (.bad [("again", 0)]) fun l => g l (put1 F.h σ o.dst v) M) (fun w => .bad ((o.pos, oe o.dst 0 fun d => d) :: w)) q
noncomputable def lightD (F : Fx) (i : Nat) (o : Oper) (m : Nat) (g : Gd) (l : Pend) (σ : Sl) (M : Mem) (q : Out) : Res :=
  Out.rec (fun v => g ((i, 0, o, .v v) :: l) (put1 F.h σ o.dst v) M) (fun b x => g ((i, M.nx, o, .n b x) :: l) (put1 F.h σ o.dst (ao M.nx x)) ⟨M.T.set M.nx b, Nat.succ M.nx⟩) (fun q => heavyD F o m g l σ q) q
noncomputable def stepD (F : Fx) (ops : List Oper) (i m : Nat) (o : Oper) (g : Gd) (l : Pend) (σ : Sl) (M : Mem) : Res :=
  oe (guardOk ops σ o) (.bad [("guard", 1)]) fun t => cond t (lightD F i o m g l σ M (exF F o.op σ M)) (g l (put1 F.h σ o.dst .z) M)
noncomputable def regionD (F : Fx) (ops : List Oper) (ord : List (Nat × Nat)) (σ : Sl) (M : Mem) : Res :=
  List.rec (motive := fun _ => Gd) (fun _ => Res.n) (fun i _ g => fun l σ M => oe (nth ops i.1) (.bad [("order", 0)]) fun o => stepD F ops i.1 i.2 o g l σ M) ord [] ⟨σ.E, []⟩ M
abbrev Rn := (Code → Sl → Mem → Res) → Fx → Sl → Mem → Res
noncomputable def c_skip : Rn := fun _ _ σ M => .n σ M
noncomputable def regionO (F : Fx) (id : Nat) (ops : List Oper) (ord : List (Nat × Nat)) : Sl → Mem → Res := List.rec (fun _ _ => .bad [("no order", id), ("of", F.f)]) (fun _ _ _ => regionD F ops ord) ord
noncomputable def c_region (id : Nat) (ops : Array Oper) (d : Bool) : Rn := fun _ F σ M => cond d (regionO F id ops.toList (F.C.O F.f id) σ M) (regionR F ops.toList σ M)
noncomputable def c_seq (_ _ : Code) (x y : Rn) : Rn := fun a F σ M => Res.rec (fun σ M => y a F σ M) Res.e Res.r Res.bad (x a F σ M)
noncomputable def c_cond (c : Operand) (_ _ : Code) (x y : Rn) : Rn := fun a F σ M => oe (boolOf (rd c σ)) (.bad [("cond", 0)]) fun t => cond t (x a F σ M) (y a F σ M)
noncomputable def c_block (id : Nat) (_ : Code) (x : Rn) : Rn := fun a F σ M => Res.rec Res.n (fun i σ M => cond (Nat.beq i id) (.n σ M) (.e i σ M)) Res.r Res.bad (x a F σ M)
noncomputable def c_loop (c : Code) (x : Rn) : Rn := fun a F σ M => Res.rec (fun σ M => a (.loop c) σ M) Res.e Res.r Res.bad (x a F σ M)
noncomputable def c_rangeFunc (_ : Operand) (_ : Array Nat) (_ _ : Code) (_ _ : Rn) : Rn := fun _ _ _ _ => .bad [("rangeFunc", 0)]
noncomputable def c_exit (id : Nat) : Rn := fun _ _ σ M => .e id σ M
noncomputable def c_scope (_ : Code) (x : Rn) : Rn := x
noncomputable def c_label (_ : Nat) : Rn := fun _ _ σ M => .n σ M
noncomputable def c_goto (_ : Nat) : Rn := fun _ _ _ _ => .bad [("goto", 0)]
noncomputable def c_ret : Rn := fun _ _ σ M => .r σ M
noncomputable def c_refuse (_ : String) : Rn := fun _ _ _ _ => .bad [("refuse", 0)]
noncomputable def runC (c : Code) : Rn := Code.rec c_skip c_region c_seq c_cond c_block c_loop c_rangeFunc c_exit c_scope c_label c_goto c_ret c_refuse c
noncomputable def rT (t : Nat) (_ : Cfg) (σ : Sl) (_ : Mem) : Option V := some (rdT t σ)
noncomputable def rCell (a t : Nat) (C : Cfg) (σ : Sl) (M : Mem) : Option V := loadV C t (rdT a σ) M
noncomputable def resT (q : ResultVar) : Cfg → Sl → Mem → Option V := ResultVar.rec rT rCell q
noncomputable def resL (C : Cfg) (rs : List ResultVar) (σ : Sl) (M : Mem) : Option (List V) := mpo (fun h => resT h C σ M) rs
noncomputable def resV (C : Cfg) (rs : List ResultVar) (σ : Sl) (M : Mem) : Cr := oe (resL C rs σ M) (.bad [("result", 0)]) fun l => .ok (cond (Nat.beq (len l) 1) (hd l) (.t l)) M
noncomputable def ends (C : Cfg) (rs : List ResultVar) (q : Res) : Cr := Res.rec (resV C rs) (fun _ _ _ => .bad [("exit", 0)]) (resV C rs) Cr.bad q
noncomputable def slots (l : List V) : List (Nat × V) := (List.rec (motive := fun _ => Nat → List (Nat × V)) (fun _ => []) (fun h _ g k => (k, h) :: g (Nat.succ k)) l) 0
structure Go_ where
  c : Fx → Code → Sl → Mem → Res
  f : Cfg → CallF
/-- The slots that outlive a region, the first n among them. -/
noncomputable def hintN (h n : Nat) : Nat := Nat.lor h (Nat.pred (Nat.pow 2 n))
noncomputable def callN (C : Cfg) (g : Go_) (f : Nat) (as : List V) (M : Mem) : Cr :=
  cond (Nat.beq (Nat.land (Nat.shiftRight C.U f) 1) 1)
    (oe (nth C.P.funcs.toList f) (.bad [("no function", 0)]) fun fn => oe (C.X f)
      (oe fn.body (.bad [(fn.name, 0)]) fun c => cond (Nat.ble (len as) fn.ntmps) (ends C fn.results.toList (g.c ⟨g.f C, C, hintN (C.H f) (len as), f⟩ c ⟨slots as, []⟩ M)) (.bad [(fn.name, 1)]))
      fun e => e as M) (.bad [("unchecked", f)])
/-- With so much fuel. -/
noncomputable def fuel (k : Nat) : Go_ := Nat.rec ⟨fun _ _ _ _ => .bad [("fuel", 0)], fun _ _ _ _ => .bad [("fuel", 0)]⟩ (fun _ g => ⟨fun F c => runC c (g.c F) F, fun C => callN C g⟩) k
noncomputable def run (C : Cfg) (k f : Nat) (as : List V) (M : Mem) : Cr := (fuel k).f C f as M
end Go.CE
