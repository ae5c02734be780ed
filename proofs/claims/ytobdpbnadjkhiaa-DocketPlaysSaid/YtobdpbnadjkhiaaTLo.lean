/- Arrays: as values, in variables, as slices; structs with arrays built; texts' bytes; the rest of a row. Nothing is assumed. -/
import Derived.Test.YtobdpbnadjkhiaaTLn
import Derived.Scope
namespace Go.WG
open Go Go.RowKit
set_option linter.unusedVariables false
set_option linter.unusedSimpArgs false
section
variable {P : Program} {env : Env} {ty t : TypeId} {x y : Operand} {w : World} {k : IntKind}
theorem Yl.indexAgg {k' : IntKind} {a : List Int} {n : Nat} {e : TypeId} {i : Int} (hx : ev env x = .agg (a.map (Value.int k')).toArray) (hy : ev env y = .int k i) (ht : P.underlying t = some (.array n e)) (he : P.underlying e = some (.int k')) (hs : (P.info? e).map (·.size) = some 1) (hl : a.length = n) (h : 0 ≤ i ∧ i < (a.length : Int)) :
  Yl P env (.index t x y) ty w (.int k' (a.getD i.toNat 0)) w := by
 obtain ⟨inf, hi, hsz⟩ := Option.map_eq_some_iff.1 hs
 have hlt : i.toNat < a.length := by omega
 have h2 : 0 ≤ i ∧ i < (n : Int) := by omega
 have hp : PartE P e (a.map (Value.int k')) (i.toNat * 1) (.int k' (a.getD i.toNat 0)) := PartE.one he rfl (by simp [hlt])
 show (execOp (ev env) _).run P w = _
 simp only [execOp, hx, hy, Instr.index, asIntOf, Sem.run_bind, Sem.run_pure, Result.andThen_ok, run_underlying ht, sizeOf, typeInfo, hi, hsz, h2, and_self, if_true, Nat.mul_one]
 have := hp w
 rw [Nat.mul_one] at this
 simp [h2, hi, hsz, this]
theorem Yl.loadAr {k' : IntKind} {d : TypeDesc} {g off o : Nat} {cs pre post : List Value} {a : List Int} {i : Int} (hx : ev env x = .pointer (some ⟨g, off + o + i.toNat * 1, none⟩)) (hu : P.underlying t = some d) (hd : aggD d = false) (hs : Sub (CH.row g off cs) w) (hc : cs = pre ++ (a.map (Value.int k') ++ post)) (ho : pre.length = o) (h : 0 ≤ i ∧ i < (a.length : Int)) :
  Yl P env (.load t x) ty w (.int k' (a.getD i.toNat 0)) w := by
 have hlt : i.toNat < a.length := by omega
 refine Yl.loadV (g := g) (off := off) (o := o + i.toNat * 1) (cs := cs) (by rw [hx, Nat.add_assoc]) hu hd hs ?_
 subst hc; subst ho
 rw [Nat.mul_one, List.getElem?_append_right (by omega), Nat.add_sub_cancel_left, List.getElem?_append_left (by simpa using hlt)]
 simp [hlt]
/-- A part of a struct's cells, only read. -/
theorem CH.le_part {g off o : Nat} {cs us : List Value} (h : (cs.drop o).take us.length = us) : CH.le (CH.row g (off + o) us) (CH.row g off cs) := fun b x v hv => by
 obtain ⟨rfl, j, u, rfl, hj, rfl⟩ := CH.row_some hv
 rw [Nat.add_assoc]
 refine CH.row_get ?_
 have hlt := (List.getElem?_eq_some_iff.1 hj).1
 rw [← h, List.getElem?_take, if_pos hlt, List.getElem?_drop] at hj
 exact hj
end
section
variable {P : Program} {w0 w : World} {F0 F : CH} {D : Nat → Nat → Prop} {ps ps1 ps2 : List CH}
/-- The rest of a row of one's own. -/
theorem Row.tail {α : Type} {K : Kd α} {p : CH} {A : Option Addr} {n c : Nat} {xs : List α} (h : Row K F p (.slice A n c) xs) (lo : Nat) (hlo : lo ≤ n) :
  ∃ A' c' m p', Value.slice (if c = lo then A else A.map (·.add (lo * K.sz))) (n - lo) (c - lo) = .slice A' m c' ∧ m = (xs.drop lo).length ∧ Row K F p' (.slice A' m c') (xs.drop lo) ∧ CH.le p' p := by
 rcases h with ⟨h1, rfl, rfl⟩ | ⟨g, off, cap, cur, h1, h2, h3, rfl, h5, h6, h7⟩
 ·injection h1 with e1 e2 e3
  subst e1 e2 e3
  have : lo = 0 := by omega
  subst this
  exact ⟨none, 0, 0, CH.emp, by simp, rfl, Row.nil _ _, CH.le_refl _⟩
 ·injection h1 with e1 e2 e3
  subst e1 e2 e3
  by_cases hc : c = lo
  ·have hd : xs.drop lo = [] := List.drop_eq_nil_of_le (by omega)
   refine ⟨_, _, _, CH.row g off [], rfl, by rw [hd, List.length_nil]; omega, ?_, by rw [CH.row_nil]; intro a b v hv; cases hv⟩
   rw [if_pos hc]
   refine .inr ⟨g, off, c - lo, [], by rw [hd, List.length_nil]; congr 1; omega, by rw [hd, List.length_nil]; omega, by omega, rfl, by rw [show c - lo = 0 by omega]; simp, by simp, ?_⟩
   rw [hd]; exact Els.nil K F []
  ·refine ⟨_, _, _, CH.row g (off + lo * K.sz) (cur.drop (lo * K.sz)), rfl, by rw [List.length_drop], ?_, ?_⟩
   ·rw [if_neg hc]
    refine .inr ⟨g, off + lo * K.sz, c - lo, cur.drop (lo * K.sz), ?_, by rw [List.length_drop]; omega, by omega, rfl, by rw [List.length_drop, h5, Nat.sub_mul], fun u hu => h6 u (List.mem_of_mem_drop hu), h7.drop lo⟩
    rw [List.length_drop]
    simp only [Option.map_some, Addr.add]
    congr 2
    split
    ·rename_i h0; rw [h0, Nat.add_zero]
    ·rfl
   ·refine CH.le_part ?_
    rw [List.take_of_length_le (Nat.le_refl _)]
theorem Own.le {h h' : CH} (k : Own h w) (hl : CH.le h' h) : Own h' w := fun g o v hv => k g o v (hl g o v hv)
end
section
variable {P : Program} {env : Env} {ty t : TypeId} {w : World}
theorem Yl.buildArr {n sz : Nat} {e : TypeId} {z : Value} {xs : List (Nat × Operand)} {vs : List (Nat × Value)} {cs : Array Value} (ht : P.underlying t = some (.array n e)) (hs : (P.info? e).map (·.size) = some sz) (hz : (P.info? t).map (·.zero) = some (some z))
  (hx : xs.map (fun p => (p.1, ev env p.2)) = vs) (hf : Instr.fill (fun i => some (i * sz, sz)) z.cells vs = some cs) : Yl P env (.build t xs.toArray) ty w (.agg cs) w := by
 obtain ⟨inf, hi, hz'⟩ := Option.map_eq_some_iff.1 hz
 obtain ⟨inf2, hi2, hsz⟩ := Option.map_eq_some_iff.1 hs
 show (execOp (ev env) _).run P w = _
 have hx2 : List.map (fun (p : Nat × Operand) => (p.fst, ev env p.snd)) xs = vs := hx
 simp [execOp, Instr.build, zeroValue, typeInfo, hi, hz', run_underlying ht, sizeOf, hi2, hsz, hx2, hf]
/-- Parts, put one after the other into cells. -/
inductive Fills (place : Nat → Option (Nat × Nat)) : List (Nat × Value) → List Value → List Value → Prop
 | nil {a : List Value} : Fills place [] a a
 | cons {i off n : Nat} {v : Value} {us a b c : List Value} {rest : List (Nat × Value)} (hv : v.cells = us.toArray) (hp : place i = some (off, n)) (hn : us.length = n) (ha : off + n ≤ a.length) (e : a.take off ++ us ++ a.drop (off + n) = b) (h : Fills place rest b c) : Fills place ((i, v) :: rest) a c
theorem Fills.run {place : Nat → Option (Nat × Nat)} {vs : List (Nat × Value)} {a c : List Value} (h : Fills place vs a c) : Instr.fill place a.toArray vs = some c.toArray := by
 induction h with
 | nil => rfl
 | cons hv hp hn ha e _ ih =>
  subst hn
  rw [fill_cons place _ _ _ _ _ _ hv hp ha, e]
  exact ih
end
end Go.WG
namespace Go.WG
open Go Go.RowKit
section
variable {P : Program} {w0 w : World} {F0 F : CH} {D : Nat → Nat → Prop} {ps1 ps2 : List CH}
end
end Go.WG
namespace Go.WG
theorem one_ints (k : IntKind) (a : List Int) : ∀ u ∈ a.map (Value.int k), u.oneCell' = true := fun u hu => by
 obtain ⟨y, _, rfl⟩ := List.mem_map.1 hu
 rfl
theorem ones_append {a b : List Value} (ha : ∀ u ∈ a, u.oneCell' = true) (hb : ∀ u ∈ b, u.oneCell' = true) : ∀ u ∈ a ++ b, u.oneCell' = true := fun u hu => by
 rcases List.mem_append.1 hu with h | h
 ·exact ha u h
 ·exact hb u h
end Go.WG
namespace Go.WG
theorem sz_of {x : Option Nat} {n m : Nat} (h : x = some n) (e : m = n) : x = some m := by rw [e]; exact h
theorem take_all {α : Type} (us : List α) : (us.drop 0).take us.length = us := by rw [List.drop_zero, List.take_length]
end Go.WG
namespace Go.WG
open Go Go.RowKit
theorem reps_ints (k : IntKind) : ∀ xs : List Int, Reps (Kd.int k) CH.emp xs (xs.map (Value.int k))
 | [] => .nil
 | x :: xs => .cons (show (Kd.int k).rep CH.emp x (Value.int k x).cells.toList from rfl) (reps_ints k xs)
theorem flat_ints (k : IntKind) : ∀ xs : List Int, (xs.map (Value.int k)).flatMap (·.cells.toList) = xs.map (Value.int k)
 | [] => rfl
 | x :: xs => by rw [List.map_cons, List.flatMap_cons, flat_ints k xs]; rfl
theorem fill_ints (k : IntKind) (xs : List Int) (z : Value) (a : List Value) (hz : z.cells = a.toArray) (hl : a.length = xs.length) : Instr.fill (fun i => some (i * 1, 1)) z.cells (mkParts 0 (xs.map (Value.int k))) = some (xs.map (Value.int k)).toArray := by
 have := fill_row (reps_ints k xs) 0 a (by simp [Kd.int, Kd.scalar, hl])
 rw [hz]
 simp only [Kd.int, Kd.scalar] at this
 rw [this, flat_ints, List.length_map]
 simp [hl]
end Go.WG
namespace Go.WG
theorem Fills.seg {place : Nat → Option (Nat × Nat)} {i off n : Nat} {v : Value} {us a b c pre z post : List Value} {rest : List (Nat × Value)} (hv : v.cells = us.toArray) (hp : place i = some (off, n)) (hn : us.length = n) (ha : a = pre ++ (z ++ post)) (hb : b = pre ++ (us ++ post)) (ho : pre.length = off) (hz : z.length = n) (h : Fills place rest b c) : Fills place ((i, v) :: rest) a c := by
 subst ha hb ho
 refine .cons hv hp hn (by simp only [List.length_append]; omega) ?_ h
 rw [List.take_left, ← List.append_assoc, List.drop_append, List.drop_eq_nil_of_le (by rw [List.length_append]; omega), List.nil_append, List.length_append, hz, Nat.sub_self, List.drop_zero, List.append_assoc]
end Go.WG
namespace Go.WG
open Go Go.RowKit
section
variable {P : Program} {N : Nat} {Q : Exit → Env → World → Prop} {env : Env} {w : World}
end
end Go.WG
namespace Go.WG
end Go.WG
namespace Go.WG
open Go Go.RowKit
section
variable {P : Program} {N : Nat} {ops : Array Oper} {Ms : List (List Nat × CH)} {R : Env → World → Prop} {env : Env} {w : World} {fuel : Nat} {listed : Array Bool}
theorem WA.up1N (i : Nat) {o : Oper} {L : Array Bool} (hr : Region.ready .any ops listed = [i]) (hi : ops[i]? = some o) (hd : dstOk N o = true) (hw : Region.wanted o (yieldedE ops env) = false) (hl : listed.setIfInBounds i true = L) (hs : SLc Ms i listed w) (h : WA P N ops Ms R fuel L (putE env o.dst undef) w) :
  WA P N ops Ms R (fuel + 1) listed env w := fun hcl a ha => by
 refine ⟨fun h => (by rw [hr] at h; cases h), fun j hj => ?_⟩
 have hji : j = i := by
  have h2 : j ∈ [i] := hr ▸ hj
  exact List.mem_singleton.1 h2
 subst hji
 obtain ⟨_, oj, hoj, hall⟩ := mem_ready.1 hj
 rw [hi] at hoj
 injection hoj with hoj
 subst hoj
 subst hl
 unfold wpOp
 simp only [hi]
 rw [ha.yielded ops, if_neg (by rw [hw]; simp)]
 exact ⟨hs, h (hcl.set hi hall) _ (ha.put' hd undef)⟩
theorem WA.up1Off (i : Nat) {dst : Option Nat} {op : Op} {ty : TypeId} {pos : String} {aft : Array Edge} {j : Nat} {b : Bool} {x : Nat} {L : Array Bool} (hr : Region.ready .any ops listed = [i]) (hi : ops[i]? = some ⟨dst, op, ty, pos, aft, some (j, b)⟩) (hj : (ops[j]?).bind (·.dst) = some x) (hx : env x = .bool (!b)) (hd : dstOk N ⟨dst, op, ty, pos, aft, some (j, b)⟩ = true) (hl : listed.setIfInBounds i true = L) (hs : SLc Ms i listed w) (h : WA P N ops Ms R fuel L (putE env dst undef) w) :
  WA P N ops Ms R (fuel + 1) listed env w := WA.up1N i hr hi hd (by unfold Region.wanted yieldedE; simp only [hj, hx]; cases b <;> simp) hl hs h
end
end Go.WG
