/- Equality of structs, arrays of numbers, texts and bools, as the program's operations yield it. Nothing is assumed. -/
import Derived.Test.YtnlpmnegjgjiiaaGreatDoorLm
import Derived.Laws.StructEq
import Derived.ChangeKeysEq
namespace Go.WG
open Go Go.RowKit
set_option linter.unusedVariables false
set_option linter.unusedSimpArgs false
section
variable {P : Program}
/-- two values of a type are compared: the answer, from a depth on -/
def EqV (P : Program) (n : Nat) (t : TypeId) (x y : Value) (b : Bool) : Prop := ∀ (d : Nat) (w : World), (Op.equalIn (d + n) t x y).run P w = .ok b w
def EqFs (P : Program) (n : Nat) (xs ys : List Value) (fs : List Field) (b : Bool) : Prop := ∀ (d : Nat) (w : World), (Op.eqFields (d + n) xs.toArray ys.toArray fs).run P w = .ok b w
def PartE (P : Program) (t : TypeId) (xs : List Value) (off : Nat) (v : Value) : Prop := ∀ w : World, (part t xs.toArray off).run P w = .ok v w
theorem EqV.le {n m : Nat} {t : TypeId} {x y : Value} {b : Bool} (h : EqV P n t x y b) (hn : n ≤ m) : EqV P m t x y b := fun d w => by
  obtain ⟨k, rfl⟩ := Nat.exists_eq_add_of_le hn
  have := h (d + k) w
  rwa [show d + k + n = d + (n + k) by omega] at this
theorem EqV.int {t : TypeId} {k : IntKind} {a b : Int} (h : P.underlying t = some (.int k)) : EqV P 1 t (.int k a) (.int k b) (decide (a = b)) := fun d w => by rw [run_equalIn_int w d t k k a b h]; rfl
theorem EqV.bool {t : TypeId} {a b : Bool} (h : P.underlying t = some .bool) : EqV P 1 t (.bool a) (.bool b) (decide (a = b)) := fun d w => by rw [run_equalIn_bool' w d t a b h]; cases a <;> cases b <;> rfl
theorem ba_eq (a b : ByteArray) : (a.toList == b.toList) = decide (a = b) := by
  have h : (a.toList = b.toList) ↔ a = b := by
    constructor
    · intro h
      rw [ByteArray.toList_eq, ByteArray.toList_eq] at h
      obtain ⟨⟨x⟩⟩ := a
      obtain ⟨⟨y⟩⟩ := b
      simp only at h
      rw [h]
    · intro h; rw [h]
  by_cases e : a = b
  · simp [e]
  · have e2 : ¬ a.toList = b.toList := fun z => e (h.1 z)
    simp [e, e2]
theorem EqV.str {t : TypeId} {a b : ByteArray} (h : P.underlying t = some .string) : EqV P 1 t (.string a) (.string b) (decide (a = b)) := fun d w => by rw [run_equalIn_string w d t a b h, ba_eq]
theorem EqFs.nil {n : Nat} {xs ys : List Value} : EqFs P n xs ys [] true := fun d w => by simp [Op.eqFields]
theorem EqFs.cons {n : Nat} {xs ys : List Value} {f : Field} {fs : List Field} {a b : Value} {p q : Prop} [Decidable p] [Decidable q] (hn : f.name ≠ "_") (hx : PartE P f.type xs f.offset a) (hy : PartE P f.type ys f.offset b) (he : EqV P n f.type a b (decide p)) (h : EqFs P n xs ys fs (decide q)) :
    EqFs P n xs ys (f :: fs) (decide (p ∧ q)) := fun d w => by
  simp only [Op.eqFields, if_pos hn, Sem.run_bind, hx w, hy w, he d w, Result.andThen_ok]
  by_cases hp : p
  · simp only [hp, decide_true, Bool.not_true, Bool.false_eq_true, if_false, h d w, true_and]
  · simp only [hp, decide_false, Bool.not_false, if_true, Sem.run_pure, false_and]
theorem EqFs.one {n : Nat} {xs ys : List Value} {f : Field} {a b : Value} {p : Prop} [Decidable p] (hn : f.name ≠ "_") (hx : PartE P f.type xs f.offset a) (hy : PartE P f.type ys f.offset b) (he : EqV P n f.type a b (decide p)) :
    EqFs P n xs ys [f] (decide p) := fun d w => by
  have := EqFs.cons (q := True) hn hx hy he (fs := []) (by simpa using EqFs.nil) d w
  simpa using this
theorem PartE.one {t : TypeId} {xs : List Value} {off : Nat} {v : Value} {d : TypeDesc} (hu : P.underlying t = some d) (hd : aggD d = false) (hc : xs[off]? = some v) : PartE P t xs off v := fun w => by
  cases d <;> simp [aggD] at hd <;> simp [part, isAgg, run_underlying hu, hc]
theorem PartE.agg {t : TypeId} {xs ds : List Value} {off : Nat} {d : TypeDesc} (hu : P.underlying t = some d) (hd : aggD d = true) (hs : (P.info? t).map (·.size) = some ds.length) (hc : (xs.drop off).take ds.length = ds) : PartE P t xs off (.agg ds.toArray) := fun w => by
  obtain ⟨inf, hi, hsz⟩ := Option.map_eq_some_iff.1 hs
  cases d <;> simp [aggD] at hd <;> simp [part, isAgg, run_underlying hu, sizeOf, typeInfo, hi, hsz, hc]
theorem EqV.struct {n : Nat} {t : TypeId} {fs : Array Field} {xs ys : List Value} {b : Bool} (ht : P.underlying t = some (.struct fs)) (hp : P.stoodInHeld t = false) (h : EqFs P n xs ys fs.toList b) : EqV P (n + 1) t (.agg xs.toArray) (.agg ys.toArray) b := fun d w => by
  have hf : P.fieldsOf t = fs := by simp [Program.fieldsOf, ht]
  rw [← Nat.add_assoc, run_equalIn_struct w (d + n) t _ _ (by rw [hf]; exact ht) hp, hf]
  exact h d w
theorem eqItems_ints {e : TypeId} {k : IntKind} (he : P.underlying e = some (.int k)) : ∀ (m j : Nat) (d : Nat) (xs ys : List Int) (w : World), j + m = xs.length → xs.length = ys.length →
    (Op.eqItems (d + 1) e 1 (xs.map (Value.int k)).toArray (ys.map (Value.int k)).toArray (List.range' j m)).run P w = .ok (decide (xs.drop j = ys.drop j)) w
  | 0, j, d, xs, ys, w, hj, hl => by
    rw [List.drop_eq_nil_of_le (by omega), List.drop_eq_nil_of_le (by omega)]
    simp [Op.eqItems]
  | m + 1, j, d, xs, ys, w, hj, hl => by
    have hx : j < xs.length := by omega
    have hy : j < ys.length := by omega
    have px : PartE P e (xs.map (Value.int k)) (j * 1) (.int k xs[j]) := PartE.one he rfl (by simp [hx])
    have py : PartE P e (ys.map (Value.int k)) (j * 1) (.int k ys[j]) := PartE.one he rfl (by simp [hy])
    simp only [List.range'_succ, Op.eqItems, Sem.run_bind, px w, py w, EqV.int he d w, Result.andThen_ok]
    rw [List.drop_eq_getElem_cons hx, List.drop_eq_getElem_cons hy]
    by_cases hp : xs[j] = ys[j]
    · simp only [hp, decide_true, Bool.not_true, Bool.false_eq_true, if_false, List.cons.injEq, true_and]
      exact eqItems_ints he m (j + 1) d xs ys w (by omega) hl
    · simp only [hp, decide_false, Bool.not_false, if_true, Sem.run_pure, List.cons.injEq, false_and]
theorem EqV.arrI {n : Nat} {t e : TypeId} {k : IntKind} {x y : List Int} (ht : P.underlying t = some (.array n e)) (he : P.underlying e = some (.int k)) (hs : (P.info? e).map (·.size) = some 1) (hx : x.length = n) (hy : y.length = n) :
    EqV P 2 t (.agg (x.map (Value.int k)).toArray) (.agg (y.map (Value.int k)).toArray) (decide (x = y)) := fun d w => by
  obtain ⟨inf, hi, hsz⟩ := Option.map_eq_some_iff.1 hs
  have hc : P.cellsOf e = 1 := by simp [Program.cellsOf, hi, hsz]
  rw [show d + 2 = (d + 1) + 1 from rfl, run_equalIn_array w (d + 1) _ _ ht hi, hc, List.range_eq_range', eqItems_ints he n 0 d x y w (by omega) (by omega)]
  simp
end
section
variable {P : Program} {env : Env} {ty t t' : TypeId} {x y : Operand} {w : World}
theorem Yl.aeql {n : Nat} {xs ys : List Value} {b : Bool} (hx : ev env x = .agg xs.toArray) (hy : ev env y = .agg ys.toArray) (hg : P.eqGuardType P.depth t = false) (he : EqV P n t (.agg xs.toArray) (.agg ys.toArray) b) (hn : n ≤ 10000) :
    Yl P env (.binOp .eql t x y t') ty w (.bool b) w := by
  obtain ⟨k, hk⟩ := Nat.exists_eq_add_of_le hn
  have h1 := he k w
  rw [Nat.add_comm, ← hk] at h1
  show (execOp (ev env) _).run P w = _
  simp only [execOp, hx, hy, Sem.run_bind, run_eqGuard_agg w .eql t x y _ _ hg, Result.andThen_ok, run_eql_struct, h1, Sem.run_pure]
theorem Yl.aneq {n : Nat} {xs ys : List Value} {b c : Bool} (hx : ev env x = .agg xs.toArray) (hy : ev env y = .agg ys.toArray) (hg : P.eqGuardType P.depth t = false) (he : EqV P n t (.agg xs.toArray) (.agg ys.toArray) b) (hn : n ≤ 10000) (hc : (!b) = c) :
    Yl P env (.binOp .neq t x y t') ty w (.bool c) w := by
  obtain ⟨k, hk⟩ := Nat.exists_eq_add_of_le hn
  have h1 := he k w
  rw [Nat.add_comm, ← hk] at h1
  subst hc
  show (execOp (ev env) _).run P w = _
  simp only [execOp, hx, hy, Sem.run_bind, run_eqGuard_agg w .neq t x y _ _ hg, Result.andThen_ok, run_neq_struct, h1, Sem.run_pure]
theorem Yl.beqD {p q : Bool} (hx : ev env x = .bool p) (hy : ev env y = .bool q) (h : P.underlying t = some .bool) : Yl P env (.binOp .eql t x y t') ty w (.bool (decide (p = q))) w := Yl.beql hx hy fun w => by rw [run_equal_bool w t p q h]; cases p <;> cases q <;> rfl
theorem Yl.bneD {p q : Bool} (hx : ev env x = .bool p) (hy : ev env y = .bool q) (h : P.underlying t = some .bool) : Yl P env (.binOp .neq t x y t') ty w (.bool (!decide (p = q))) w := Yl.bneq hx hy fun w => by rw [run_equal_bool w t p q h]; cases p <;> cases q <;> rfl
theorem Yl.seqD {p q : ByteArray} (hx : ev env x = .string p) (hy : ev env y = .string q) : Yl P env (.binOp .eql t x y t') ty w (.bool (decide (p = q))) w := by
  show (execOp (ev env) _).run P w = _
  have hg : (eqGuard .eql t x y (.string p) (.string q)).run P w = .ok () w := rfl
  simp [execOp, hx, hy, hg, binOp_string_eql, ba_eq]
theorem Yl.sneD {p q : ByteArray} (hx : ev env x = .string p) (hy : ev env y = .string q) : Yl P env (.binOp .neq t x y t') ty w (.bool (!decide (p = q))) w := by
  show (execOp (ev env) _).run P w = _
  have hg : (eqGuard .neq t x y (.string p) (.string q)).run P w = .ok () w := rfl
  simp [execOp, hx, hy, hg, binOp_string_neq, ba_eq]
end
end Go.WG
