/- Arrays: as values, in variables, as slices; structs with arrays built; texts' bytes; the rest of a row. Nothing is assumed. -/
import Derived.Test.YtaajcpjhcckecaaTLn
import Derived.Scope
namespace Go.WG
open Go Go.RowKit
set_option linter.unusedVariables false
set_option linter.unusedSimpArgs false
section
variable {P : Program} {env : Env} {ty t : TypeId} {x y : Operand} {w : World} {k : IntKind}
/-- A part of a struct's cells, only read. -/
theorem CH.le_part {g off o : Nat} {cs us : List Value} (h : (cs.drop o).take us.length = us) : CH.le (CH.row g (off + o) us) (CH.row g off cs) := fun b x v hv => by
  obtain ⟨rfl, j, u, rfl, hj, rfl⟩ := CH.row_some hv
  rw [Nat.add_assoc]
  refine CH.row_get ?_
  have hlt := (List.getElem?_eq_some_iff.1 hj).1
  rw [← h, List.getElem?_take, if_pos hlt, List.getElem?_drop] at hj
  exact hj
end
section
variable {P : Program} {w0 w : World} {F0 F : CH} {D : Nat → Nat → Prop} {ps ps1 ps2 : List CH}
/-- The rest of a row of one's own. -/
theorem Row.tail {α : Type} {K : Kd α} {p : CH} {A : Option Addr} {n c : Nat} {xs : List α} (h : Row K F p (.slice A n c) xs) (lo : Nat) (hlo : lo ≤ n) :
    ∃ A' c' m p', Value.slice (if c = lo then A else A.map (·.add (lo * K.sz))) (n - lo) (c - lo) = .slice A' m c' ∧ m = (xs.drop lo).length ∧ Row K F p' (.slice A' m c') (xs.drop lo) ∧ CH.le p' p := by
  rcases h with ⟨h1, rfl, rfl⟩ | ⟨g, off, cap, cur, h1, h2, h3, rfl, h5, h6, h7⟩
  · injection h1 with e1 e2 e3
    subst e1 e2 e3
    have : lo = 0 := by omega
    subst this
    exact ⟨none, 0, 0, CH.emp, by simp, rfl, Row.nil _ _, CH.le_refl _⟩
  · injection h1 with e1 e2 e3
    subst e1 e2 e3
    by_cases hc : c = lo
    · have hd : xs.drop lo = [] := List.drop_eq_nil_of_le (by omega)
      refine ⟨_, _, _, CH.row g off [], rfl, by rw [hd, List.length_nil]; omega, ?_, by rw [CH.row_nil]; intro a b v hv; cases hv⟩
      rw [if_pos hc]
      refine .inr ⟨g, off, c - lo, [], by rw [hd, List.length_nil]; congr 1; omega, by rw [hd, List.length_nil]; omega, by omega, rfl, by rw [show c - lo = 0 by omega]; simp, by simp, ?_⟩
      rw [hd]; exact Els.nil K F []
    · refine ⟨_, _, _, CH.row g (off + lo * K.sz) (cur.drop (lo * K.sz)), rfl, by rw [List.length_drop], ?_, ?_⟩
      · rw [if_neg hc]
        refine .inr ⟨g, off + lo * K.sz, c - lo, cur.drop (lo * K.sz), ?_, by rw [List.length_drop]; omega, by omega, rfl, by rw [List.length_drop, h5, Nat.sub_mul], fun u hu => h6 u (List.mem_of_mem_drop hu), h7.drop lo⟩
        rw [List.length_drop]
        simp only [Option.map_some, Addr.add]
        congr 2
        split
        · rename_i h0; rw [h0, Nat.add_zero]
        · rfl
      · refine CH.le_part ?_
        rw [List.take_of_length_le (Nat.le_refl _)]
theorem Own.le {h h' : CH} (k : Own h w) (hl : CH.le h' h) : Own h' w := fun g o v hv => k g o v (hl g o v hv)
end
section
variable {P : Program} {env : Env} {ty t : TypeId} {w : World}
/-- Parts, put one after the other into cells. -/
inductive Fills (place : Nat → Option (Nat × Nat)) : List (Nat × Value) → List Value → List Value → Prop
  | nil {a : List Value} : Fills place [] a a
  | cons {i off n : Nat} {v : Value} {us a b c : List Value} {rest : List (Nat × Value)} (hv : v.cells = us.toArray) (hp : place i = some (off, n)) (hn : us.length = n) (ha : off + n ≤ a.length) (e : a.take off ++ us ++ a.drop (off + n) = b) (h : Fills place rest b c) : Fills place ((i, v) :: rest) a c
theorem Fills.run {place : Nat → Option (Nat × Nat)} {vs : List (Nat × Value)} {a c : List Value} (h : Fills place vs a c) : Instr.fill place a.toArray vs = some c.toArray := by
  induction h with
  | nil => rfl
  | cons hv hp hn ha e _ ih =>
    subst hn
    rw [fill_cons place _ _ _ _ _ _ hv hp ha, e]
    exact ih
end
end Go.WG
namespace Go.WG
open Go Go.RowKit
section
variable {P : Program} {w0 w : World} {F0 F : CH} {D : Nat → Nat → Prop} {ps1 ps2 : List CH}
end
end Go.WG
namespace Go.WG
end Go.WG
namespace Go.WG
end Go.WG
namespace Go.WG
open Go Go.RowKit
end Go.WG
namespace Go.WG
end Go.WG
namespace Go.WG
open Go Go.RowKit
section
variable {P : Program} {N : Nat} {Q : Exit → Env → World → Prop} {env : Env} {w : World}
end
end Go.WG
namespace Go.WG
end Go.WG
namespace Go.WG
open Go Go.RowKit
section
variable {P : Program} {N : Nat} {ops : Array Oper} {Ms : List (List Nat × CH)} {R : Env → World → Prop} {env : Env} {w : World} {fuel : Nat} {listed : Array Bool}
end
end Go.WG
