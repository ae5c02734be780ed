/- Maps in memory: as lists of pairs, in the order of their making. -/
import Derived.Test.YthdlfclkcdnenaaDoorTLk
namespace Go.WG
open Go.RowKit
set_option linter.unusedVariables false
set_option linter.unusedSimpArgs false
section
variable {α β : Type} [DecidableEq α]
end
structure KeyEnc {α : Type} [DecidableEq α] (d : TypeDesc) (ek : α → Value) : Prop where
  now : ∀ a b, Instr.sameNow d (ek a) (ek b) = some (decide (a = b))
  bits : ∀ a, Instr.sameBits 10000 (ek a) (ek a) = true
/-- The entries of a map are those of a list. -/
structure MEnt {α β : Type} (ek : α → Value) (ev : β → Value) (es : Array MapEntry) (clock : Nat) (l : List (α × β)) : Prop where
  ent : es.toList.map (fun e => (e.key, e.val)) = l.map (fun q => (ek q.1, ev q.2))
  born : ∀ e ∈ es.toList, e.born < clock
  uniq : (es.toList.map (·.born)).Nodup
  keys : (l.map (·.1)).Nodup
section
variable {α β : Type} [DecidableEq α] {ek : α → Value} {ev : β → Value} {es : Array MapEntry} {clock : Nat} {l : List (α × β)} {d : TypeDesc} {P : Program} {w : World}
end
section
variable {P : Program} {w0 w : World} {F0 F : CH} {D : Nat → Nat → Prop} {ps ps1 ps2 : List CH}
end
end Go.WG
namespace Go.WG
section
variable {P : Program} {env : Env} {w w' : World} {ty t t' e : TypeId} {x y : Operand} {a b : Addr} {v : Value}
theorem run_ptrEq {n : Nat} {p q : Option Addr} (hn : p = none ∨ q = none) (hu : P.underlying t = some (.pointer e)) : (Op.equalIn (n + 1) t (.pointer p) (.pointer q)).run P w = .ok (decide (p = q)) w := by
  unfold Op.equalIn
  rcases hn with rfl | rfl
  · cases q <;> simp [run_underlying hu]
  · cases p <;> simp [run_underlying hu]
theorem run_ptrGuard {op : BinOp} {p q : Option Addr} (_hu : P.underlying t = some (.pointer e)) : (eqGuard op t x y (.pointer p) (.pointer q)).run P w = .ok () w := by
  unfold eqGuard
  cases op <;> rfl
theorem Yl.ptrG {op : BinOp} {p q : Option Addr} {r : Bool} (ho : op = .eql ∨ op = .neq) (hx : ev env x = .pointer p) (hy : ev env y = .pointer q) (hn : p = none ∨ q = none) (hu : P.underlying t = some (.pointer e)) (hr : (if op = .eql then decide (p = q) else !decide (p = q)) = r) : Yl P env (.binOp op t x y t') ty w (.bool r) w := by
  show (execOp (ev env) _).run P w = _
  subst hr
  have h1 : (Op.equal t (.pointer p) (.pointer q)).run P w = .ok (decide (p = q)) w := run_ptrEq (n := 9999) hn hu
  have h2 := run_ptrGuard (P := P) (w := w) (op := op) (x := x) (y := y) (p := p) (q := q) hu
  rcases ho with rfl | rfl
  · simp [execOp, hx, hy, h2, binOp, h1]
  · simp [execOp, hx, hy, h2, binOp, h1]
theorem Yl.ptrEqSN (hx : ev env x = .pointer (some a)) (hy : ev env y = .pointer none) (hu : P.underlying t = some (.pointer e)) : Yl P env (.binOp .eql t x y t') ty w (.bool false) w := Yl.ptrG (.inl rfl) hx hy (.inr rfl) hu (by simp)
end
section
variable {P : Program} {w0 w : World} {F0 F : CH} {D : Nat → Nat → Prop} {ps : List CH}
theorem ev_box (e : TypeId) (v : Value) (cs : List Value) (C : Ctx w0 F0 D w F ps) (hc : v.cells = cs.toArray) :
    ∃ g w', (∀ (env : Env) (ty : TypeId) (x : Operand), ev env x = v → Yl P env (.box e x) ty w (.pointer (some ⟨g, 0, none⟩)) w') ∧ Ctx w0 F0 D w' F (CH.row g 0 cs :: ps) := by
  refine ⟨w.heap.size, w.alloc (.cells cs.toArray e), fun env ty x hx => ?_, by simpa using C.alloc cs.toArray e⟩
  show (execOp (ev env) _).run P w = _
  simp [execOp, hx, Instr.box, newVar, newRow, hc]
end
section
variable {P : Program} {ops : Array Oper} {Q : Exit → Env → World → Prop} {env : Env} {w w' : World} {rest : List Oper} {op : Op} {ty : TypeId} {pos : String} {aft : Array Edge} {v : Value} {N : Nat} {Ms : List (List Nat × CH)} {R : Env → World → Prop} {fuel : Nat} {listed : Array Bool}
end
end Go.WG
namespace Go.WG
/-- What a function's results are, in slots or in memory. -/
inductive RE (P : Program) (env : Env) (w : World) : List ResultVar → List Value → Prop
  | nil : RE P env w [] []
  | tmp {t : Nat} {v : Value} {rs : List ResultVar} {vs : List Value} (h : env t = v) (k : RE P env w rs vs) : RE P env w (.tmp t :: rs) (v :: vs)
  | cell {a : Nat} {t : TypeId} {ad : Addr} {v : Value} {rs : List ResultVar} {vs : List Value} (h : env a = .pointer (some ad)) (hl : (loadVar t ad).run P w = .ok v w) (k : RE P env w rs vs) : RE P env w (.cell a t :: rs) (v :: vs)
def resF (env : Env) : ResultVar → Sem Value
  | .tmp t => pure (env t)
  | .cell x t => do loadVar t (← asAddr (env x))
theorem RE.run {P : Program} {env : Env} {w : World} {rs : List ResultVar} {vs : List Value} (h : RE P env w rs vs) : (rs.mapM (resF env)).run P w = .ok vs w := by
  induction h with
  | nil => rfl
  | tmp h k ih => simp [List.mapM_cons, resF, h, ih]
  | cell h hl k ih => simp [List.mapM_cons, resF, h, asAddr, hl, ih]
theorem run_results {P : Program} {fn : Func} {N : Nat} {env : Env} {w : World} {rs : List ResultVar} {vs : List Value} (hr : fn.results = rs.toArray) (h : RE P env w rs vs) (a : Act) (ha : Frm N env a) :
    (results fn a.tmps).run P w = .ok (if h : vs.toArray.size = 1 then vs.toArray[0] else .tuple vs.toArray) w := by
  have hf : (fun (r : ResultVar) => match r with
      | .tmp t => (pure (a.tmps.getD t undef) : Sem Value)
      | .cell x t => do loadVar t (← asAddr (a.tmps.getD x undef))) = resF env := by
    funext r
    cases r <;> simp only [resF, ha.get]
  unfold results
  rw [hr, Array.mapM_eq_mapM_toList]
  erw [hf]
  simp [h.run]
theorem resET {P : Program} {fn : Func} {env : Env} {w : World} {rs : List ResultVar} {vs : List Value} (hr : fn.results = rs.toArray) (h : RE P env w rs vs) (hl : Nat.beq vs.length 1 = false) : resE fn env w P (.tuple vs.toArray) := fun a ha => by
  have h2 : ¬ vs.length = 1 := fun e => by rw [e] at hl; cases hl
  rw [run_results hr h a ha, dif_neg (by simpa using h2)]
theorem resEC {P : Program} {fn : Func} {env : Env} {w : World} {rs : List ResultVar} {v : Value} (hr : fn.results = rs.toArray) (h : RE P env w rs [v]) : resE fn env w P v := fun a ha => by
  rw [run_results hr h a ha]
  rfl
end Go.WG
namespace Go.WG
theorem run_loadVA2 {P : Program} {w : World} {t : TypeId} {d : TypeDesc} {g off o : Nat} {cs us : List Value} (hu : P.underlying t = some d) (hd : aggD d = true) (hsz : (P.info? t).map (·.size) = some us.length) (hs : Sub (CH.row g off cs) w) (hc : (cs.drop o).take us.length = us) : (loadVar t ⟨g, off + o, none⟩).run P w = .ok (.agg us.toArray) w :=
  run_loadVar_agg hu hd _ us hsz fun j v hj => by
    rw [add_of, Nat.add_assoc]
    refine hs.cell (CH.row_get ?_)
    rw [← hc, List.getElem?_take] at hj
    split at hj
    · rwa [List.getElem?_drop] at hj
    · cases hj
end Go.WG
namespace Go.WG
section
variable {P : Program} {ops : Array Oper} {env : Env} {w w' : World} {op : Op} {ty : TypeId} {pos : String} {aft : Array Edge} {v : Value} {N : Nat} {Ms : List (List Nat × CH)} {R : Env → World → Prop} {fuel : Nat} {listed : Array Bool} {i j x d : Nat} {b : Bool} {L : Array Bool} {dst : Option Nat}
theorem Up.valG (hi : ops[i]? = some ⟨some d, op, ty, pos, aft, some (j, b)⟩) (hj : (ops[j]?).bind (·.dst) = some x) (hx : env x = .bool b) (hd : Nat.blt d N = true) (hl : listed.setIfInBounds i true = L)
    (hy : Yl P env op ty w v w') (hs : SLc Ms i listed w') (h : WA P N ops Ms R fuel L (upd env d v) w') : Up P N ops Ms R fuel listed env w i :=
  Up.on hi hj hx (by simpa [dstOk] using hd) (.inl ⟨v, w', by rw [execOp_bare]; exact hy, hs, hl ▸ h⟩)
theorem Up.callG (hi : ops[i]? = some ⟨dst, op, ty, pos, aft, some (j, b)⟩) (hj : (ops[j]?).bind (·.dst) = some x) (hx : env x = .bool b) (hd : dstOk N ⟨dst, op, ty, pos, aft, none⟩ = true) (hl : listed.setIfInBounds i true = L)
    {f : FuncId} {args : Array Value} (he : Yenter P env op ty w f args) {R' : Ending → World → Prop} (hc : Calls P f args w R')
    (h : ∀ e w', R' e w' → ∃ v, e = .returned v ∧ SLc Ms i listed w' ∧ WA P N ops Ms R fuel L (putE env dst v) w') : Up P N ops Ms R fuel listed env w i :=
  Up.on hi hj hx hd (.inr (.inr ⟨f, args, w, by rw [execOp_bare]; exact he, hc.mono (hl ▸ h)⟩))
end
end Go.WG
