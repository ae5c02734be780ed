/- Arrays: as values, in variables, as slices; structs with arrays built; texts' bytes; the rest of a row. Nothing is assumed. -/
import Derived.Test.YtaajcpjhcckecaaTLn
import Derived.Scope
namespace Go.WG
open Go Go.RowKit
set_option linter.unusedVariables false
set_option linter.unusedSimpArgs false
section
variable {P : Program} {env : Env} {ty t : TypeId} {x y : Operand} {w : World} {k : IntKind}
end
section
variable {P : Program} {w0 w : World} {F0 F : CH} {D : Nat → Nat → Prop} {ps ps1 ps2 : List CH}
theorem Own.le {h h' : CH} (k : Own h w) (hl : CH.le h' h) : Own h' w := fun g o v hv => k g o v (hl g o v hv)
theorem Ctx.shrink (ps1 ps2 : List CH) {p p' : CH} (hl : CH.le p' p) (h : Ctx w0 F0 D w F (ps1 ++ p :: ps2)) : Ctx w0 F0 D w F (ps1 ++ p' :: ps2) := by
  obtain ⟨hp1, hp2, hc⟩ := List.pairwise_append.1 h.pair
  have hsub : ∀ q, q ∈ ps1 ++ p' :: ps2 → q = p' ∨ q ∈ ps1 ++ p :: ps2 := fun q hq => by
    rcases List.mem_append.1 hq with hq | hq
    · exact .inr (List.mem_append.2 (.inl hq))
    · rcases List.mem_cons.1 hq with rfl | hq
      · exact .inl rfl
      · exact .inr (List.mem_append.2 (.inr (List.mem_cons_of_mem _ hq)))
  have hpo := h.own p (by simp)
  refine ⟨h.mod, h.le, h.fro, h.dom, fun q hq => ?_, List.pairwise_append.2 ⟨hp1, List.pairwise_cons.2 ⟨fun q hq => CH.dis_le ((List.pairwise_cons.1 hp2).1 q hq) hl, (List.pairwise_cons.1 hp2).2⟩, fun q hq r hr => ?_⟩⟩
  · rcases hsub q hq with rfl | hq
    · exact ⟨hpo.1.le hl, CH.dis_symm (CH.dis_le (CH.dis_symm hpo.2.1) hl), fun g o hne => hpo.2.2 g o (by
        intro hn
        cases hv : q g o with
        | none => exact hne hv
        | some v => have := hl g o v hv; rw [hn] at this; cases this)⟩
    · exact h.own q hq
  · rcases List.mem_cons.1 hr with rfl | hr
    · exact CH.dis_symm (CH.dis_le (CH.dis_symm (hc q hq p (List.mem_cons_self ..))) hl)
    · exact hc q hq r (List.mem_cons_of_mem _ hr)
end
section
variable {P : Program} {env : Env} {ty t : TypeId} {w : World}
/-- Parts, put one after the other into cells. -/
inductive Fills (place : Nat → Option (Nat × Nat)) : List (Nat × Value) → List Value → List Value → Prop
  | nil {a : List Value} : Fills place [] a a
  | cons {i off n : Nat} {v : Value} {us a b c : List Value} {rest : List (Nat × Value)} (hv : v.cells = us.toArray) (hp : place i = some (off, n)) (hn : us.length = n) (ha : off + n ≤ a.length) (e : a.take off ++ us ++ a.drop (off + n) = b) (h : Fills place rest b c) : Fills place ((i, v) :: rest) a c
theorem Fills.run {place : Nat → Option (Nat × Nat)} {vs : List (Nat × Value)} {a c : List Value} (h : Fills place vs a c) : Instr.fill place a.toArray vs = some c.toArray := by
  induction h with
  | nil => rfl
  | cons hv hp hn ha e _ ih =>
    subst hn
    rw [fill_cons place _ _ _ _ _ _ hv hp ha, e]
    exact ih
end
end Go.WG
namespace Go.WG
open Go Go.RowKit
section
variable {P : Program} {w0 w : World} {F0 F : CH} {D : Nat → Nat → Prop} {ps1 ps2 : List CH}
end
end Go.WG
namespace Go.WG
end Go.WG
namespace Go.WG
end Go.WG
namespace Go.WG
open Go Go.RowKit
end Go.WG
namespace Go.WG
end Go.WG
namespace Go.WG
open Go Go.RowKit
section
variable {P : Program} {N : Nat} {Q : Exit → Env → World → Prop} {env : Env} {w : World}
end
end Go.WG
namespace Go.WG
end Go.WG
namespace Go.WG
open Go Go.RowKit
section
variable {P : Program} {N : Nat} {ops : Array Oper} {Ms : List (List Nat × CH)} {R : Env → World → Prop} {env : Env} {w : World} {fuel : Nat} {listed : Array Bool}
end
end Go.WG
