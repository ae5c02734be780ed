/- Arrays: as values, in variables, as slices; structs with arrays built; texts' bytes; the rest of a row. Nothing is assumed. -/
import Derived.Test.YtaajcpjhcckecaaTLn
import Derived.Scope
namespace Go.WG
open Go Go.RowKit
set_option linter.unusedVariables false
set_option linter.unusedSimpArgs false
section
variable {P : Program} {env : Env} {ty t : TypeId} {x y : Operand} {w : World} {k : IntKind}
end
section
variable {P : Program} {w0 w : World} {F0 F : CH} {D : Nat → Nat → Prop} {ps ps1 ps2 : List CH}
theorem Own.le {h h' : CH} (k : Own h w) (hl : CH.le h' h) : Own h' w := fun g o v hv => k g o v (hl g o v hv)
end
section
variable {P : Program} {env : Env} {ty t : TypeId} {w : World}
/-- Parts, put one after the other into cells. -/
inductive Fills (place : Nat → Option (Nat × Nat)) : List (Nat × Value) → List Value → List Value → Prop
  | nil {a : List Value} : Fills place [] a a
  | cons {i off n : Nat} {v : Value} {us a b c : List Value} {rest : List (Nat × Value)} (hv : v.cells = us.toArray) (hp : place i = some (off, n)) (hn : us.length = n) (ha : off + n ≤ a.length) (e : a.take off ++ us ++ a.drop (off + n) = b) (h : Fills place rest b c) : Fills place ((i, v) :: rest) a c
theorem Fills.run {place : Nat → Option (Nat × Nat)} {vs : List (Nat × Value)} {a c : List Value} (h : Fills place vs a c) : Instr.fill place a.toArray vs = some c.toArray := by
  induction h with
  | nil => rfl
  | cons hv hp hn ha e _ ih =>
    subst hn
    rw [fill_cons place _ _ _ _ _ _ hv hp ha, e]
    exact ih
end
end Go.WG
namespace Go.WG
open Go Go.RowKit
section
variable {P : Program} {w0 w : World} {F0 F : CH} {D : Nat → Nat → Prop} {ps1 ps2 : List CH}
end
end Go.WG
namespace Go.WG
end Go.WG
namespace Go.WG
end Go.WG
namespace Go.WG
open Go Go.RowKit
end Go.WG
namespace Go.WG
end Go.WG
namespace Go.WG
open Go Go.RowKit
section
variable {P : Program} {N : Nat} {Q : Exit → Env → World → Prop} {env : Env} {w : World}
end
end Go.WG
namespace Go.WG
end Go.WG
namespace Go.WG
open Go Go.RowKit
section
variable {P : Program} {N : Nat} {ops : Array Oper} {Ms : List (List Nat × CH)} {R : Env → World → Prop} {env : Env} {w : World} {fuel : Nat} {listed : Array Bool}
end
end Go.WG
