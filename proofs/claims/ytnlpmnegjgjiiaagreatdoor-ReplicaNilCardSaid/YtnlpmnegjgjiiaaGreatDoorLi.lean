/- Slices cut. -/
import Derived.Test.YtnlpmnegjgjiiaaGreatDoorLh
namespace Go.WG
open Go.RowKit
section
variable {P : Program} {env : Env} {w w' : World} {ty t u : TypeId} {x y : Operand} {v : Value}
theorem OB.mk {z : Operand} {k : IntKind} {i : Int} {d : Nat} (h : ev env z = .int k i) (h0 : 0 ≤ i) : OB env (some z) d i.toNat := ⟨k, by rw [Int.toNat_of_nonneg h0]; exact h⟩
theorem map_add0 (A : Option Addr) : A.map (·.add 0) = A := by cases A <;> rfl
/-- The first ones. -/
theorem Yl.sliceHi {A : Option Addr} {n c sz : Nat} {e : TypeId} {z : Operand} {k : IntKind} {hi : Int} (hx : ev env x = .slice A n c) (ht : P.underlying t = some (.slice e)) (hs : (P.info? e).map (·.size) = some sz)
    (hz : ev env z = .int k hi) (h : 0 ≤ hi ∧ hi ≤ (c : Int)) : Yl P env (.slice t x none (some z) none) ty w (.slice A hi.toNat c) w :=
  Yl.slice 0 hi.toNat c hx ht hs rfl (OB.mk hz h.1) rfl (fun h => by cases h) (Nat.zero_le _) (by omega) (Nat.le_refl _) (by simp [map_add0])
theorem Yl.sliceHi0 {A : Option Addr} {n c sz : Nat} {e : TypeId} {z z0 : Operand} {k k0 : IntKind} {hi : Int} (hx : ev env x = .slice A n c) (ht : P.underlying t = some (.slice e)) (hs : (P.info? e).map (·.size) = some sz)
    (hz0 : ev env z0 = .int k0 0) (hz : ev env z = .int k hi) (h : 0 ≤ hi ∧ hi ≤ (c : Int)) : Yl P env (.slice t x (some z0) (some z) none) ty w (.slice A hi.toNat c) w :=
  Yl.slice 0 hi.toNat c hx ht hs rfl (OB.mk hz h.1) ⟨k0, hz0⟩ (fun h => by cases h) (Nat.zero_le _) (by omega) (Nat.le_refl _) (by simp [map_add0])
theorem Yl.sliceAll {A : Option Addr} {n c sz : Nat} {e : TypeId} (hx : ev env x = .slice A n c) (ht : P.underlying t = some (.slice e)) (hs : (P.info? e).map (·.size) = some sz) (hn : n ≤ c) : Yl P env (.slice t x none none none) ty w (.slice A n c) w :=
  Yl.slice 0 n c hx ht hs rfl rfl rfl (fun h => by cases h) (Nat.zero_le _) hn (Nat.le_refl _) (by simp [map_add0])
end
section
variable {α : Type} {K : Kd α} {F h : CH} {A : Option Addr} {n c : Nat} {xs : List α}
theorem Sl.cut (k : Sl K F h A xs) (hm : c ≤ maxLen) (lo hi mx : Nat) (h1 : lo ≤ hi) (h2 : hi ≤ xs.length) (h3 : hi ≤ mx) (h4 : mx ≤ c) :
    ∃ A' c' n', Value.slice (if mx = lo then A else A.map (·.add (lo * K.sz))) (hi - lo) (mx - lo) = .slice A' n' c' ∧ n' = ((xs.take hi).drop lo).length ∧ ((xs.take hi).drop lo).length ≤ c' ∧ c' ≤ maxLen ∧ Sl K F h A' ((xs.take hi).drop lo) := by
  have hlen : ((xs.take hi).drop lo).length = hi - lo := by rw [List.length_drop, List.length_take]; omega
  refine ⟨_, _, _, rfl, hlen.symm, by omega, by omega, ?_⟩
  exact (k.take hi).drop lo mx (by rw [List.length_take]; omega)
end
end Go.WG
namespace Go.WG
theorem slice_rep' {α : Type} {K : Kd α} {F : CH} {xs : List α} (A : Option Addr) (c n : Nat) (hn : n = xs.length) (h1 : xs.length ≤ c) (h2 : c ≤ maxLen) (h3 : Sl K F F A xs) : (Kd.slice K).rep F xs [.slice A n c] := by
  subst hn
  exact ⟨A, c, rfl, h1, h2, h3⟩
end Go.WG
namespace Go.WG
open Go.RowKit
theorem ev_lit0 {P : Program} {w0 w : World} {F0 F : CH} {D : Nat → Nat → Prop} {ps : List CH} (e : TypeId) {α : Type} (K : Kd α) {t : TypeId} {z : Value} {by_ : Nat} (C : Ctx w0 F0 D w F ps) (ht : P.underlying t = some (.slice e)) (hi : TI P e z K.sz by_) :
    ∃ A c n p w', n = ([] : List α).length ∧ (∀ (env : Env) (ty : TypeId), Yl P env (.buildSlice t 0 #[]) ty w (.slice A n c) w') ∧ Ctx w0 F0 D w' F (p :: ps) ∧ Row K F p (.slice A n c) ([] : List α) := by
  obtain ⟨i, hinf, hz0, hz1, hz2⟩ := hi.get
  refine ⟨some ⟨w.heap.size, 0, none⟩, 0, 0, _, w.alloc (.cells #[] e), rfl, fun env ty => ?_, C.alloc _ e, ?_⟩
  · show (execOp (ev env) _).run P w = _
    simp [execOp, Instr.buildSlice, run_underlying ht, sizeOf, typeInfo, hinf, Instr.fill, newRow, show Array.range 0 = #[] from Array.eq_empty_of_size_eq_zero (by simp)]
  · exact Row.fresh [] _ w.heap.size 0 (by simp) (Nat.le_refl _) (by simp [maxLen]) (by simp) (Els.nil _ _ _)
end Go.WG
