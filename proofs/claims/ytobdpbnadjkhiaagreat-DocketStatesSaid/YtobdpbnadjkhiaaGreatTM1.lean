/- A calculus over environments: what a piece of code of the model does to the slots and the world, slot by slot, without the frame's array. -/
import Derived.WalkKit
import Derived.Orders
import Derived.OrdersHeld
import Derived.Deep.Quiet
import Derived.Deep.LoopGhost
import Derived.Laws.Sem
import Derived.Laws.Rows
import Derived.Laws.Append
import Derived.Deep.Draws
import Derived.Laws.MakeOwn
namespace Go.WG
open Go.RowKit
abbrev Env := Nat → Value
def upd (env : Env) (d : Nat) (v : Value) : Env := fun t => cond (Nat.beq t d) v (env t)
def ev (env : Env) : Operand → Value
 | .tmp t => env t
 | .const v => v
 | .global g => .pointer (some ⟨g, 0, none⟩)
 | .func f => .func (.func f) #[] #[]
def zW (env : Env) (dst : Option Nat) (v : Value) : Env :=
 match dst with
 | some d => upd env d v
 | none => env
structure Frm (N : Nat) (env : Env) (a : Act) : Prop where
 size : a.tmps.size = N
 get : ∀ t, a.tmps.getD t undef = env t
 defers : a.defers = []
theorem Frm.eval {N : Nat} {env : Env} {a : Act} (h : Frm N env a) : a.eval = ev env := by
 funext x
 cases x with
 | tmp t => exact h.get t
 | const v => rfl
 | global g => rfl
 | func f => rfl
def yP (N : Nat) (o : Oper) : Bool :=
 match o.dst with
 | some d => decide (d < N)
 | none => true
theorem Frm.put {N : Nat} {env : Env} {a : Act} (h : Frm N env a) {o : Oper} (ho : yP N o = true) (v : Value) : Frm N (zW env o.dst v) (a.put o.dst v) := by
 unfold yP at ho
 unfold zW Act.put
 cases hd : o.dst with
 | none => exact h
 | some d =>
  rw [hd] at ho
  have hlt : d < N := of_decide_eq_true ho
  refine ⟨by simp [h.size], fun t => ?_, h.defers⟩
  unfold upd
  by_cases ht : t = d
  ·subst ht
   have : Nat.beq t t = true := Nat.beq_refl t
   show (a.tmps.setIfInBounds t v).getD t undef = cond (Nat.beq t t) v (env t)
   rw [this]
   simp [h.size, hlt]
  ·have : Nat.beq t d = false := by
    rw [Bool.eq_false_iff]
    intro hb
    exact ht (Nat.eq_of_beq_eq_true hb)
   show (a.tmps.setIfInBounds d v).getD t undef = cond (Nat.beq t d) v (env t)
   rw [this, _root_.cond_false, ← h.get t]
   simp [Array.getD_eq_getD_getElem?, Array.getElem?_setIfInBounds_ne (Ne.symm ht)]
def lift (N : Nat) (Q : Exit → Env → World → Prop) : Exit → Act → World → Prop := fun e a w => ∃ env, Frm N env a ∧ Q e env w
def W (P : Program) (N : Nat) (c : Code) (Q : Exit → Env → World → Prop) (env : Env) (w : World) : Prop :=
 ∀ a, Frm N env a → c.wp P (lift N Q) a w
def C0 (next : Env → World → Prop) (Q : Exit → Env → World → Prop) : Exit → Env → World → Prop
 | .normal, env, w => next env w
 | e, env, w => Q e env w
def A7 (id : Nat) (Q : Exit → Env → World → Prop) : Exit → Env → World → Prop
 | .exit id', env, w => cond (Nat.beq id' id) (Q .normal env w) (Q (.exit id') env w)
 | e, env, w => Q e env w
section
variable {P : Program} {N : Nat} {Q : Exit → Env → World → Prop} {env : Env} {w : World}
theorem W.mono {c : Code} {Q' : Exit → Env → World → Prop} (h : W P N c Q env w) (hq : ∀ e env w, Q e env w → Q' e env w) : W P N c Q' env w :=
 fun a ha => Go.wp_mono (h a ha) fun _ _ _ ⟨env', hf, hQ⟩ => ⟨env', hf, hq _ _ _ hQ⟩
theorem W.seq {x y : Code} (h : W P N x (C0 (W P N y Q) Q) env w) : W P N (.seq x y) Q env w := fun a ha =>
 wp_seq (Go.wp_mono (h a ha) fun e a' w' ⟨env', hf, hQ⟩ => by
  cases e with
  | normal => exact hQ a' hf
  | _ => exact ⟨env', hf, hQ⟩)
theorem W.skip (h : Q .normal env w) : W P N .skip Q env w := fun _ ha => wp_skip ⟨env, ha, h⟩
theorem W.label {l : Nat} (h : Q .normal env w) : W P N (.label l) Q env w := fun _ ha => wp_label ⟨env, ha, h⟩
theorem W.exit {id : Nat} (h : Q (.exit id) env w) : W P N (.exit id) Q env w := fun _ ha => wp_exit ⟨env, ha, h⟩
theorem W.goto {l : Nat} (h : Q (.goto l) env w) : W P N (.goto l) Q env w := fun _ ha => wp_goto ⟨env, ha, h⟩
theorem W.ret (h : Q .ret env w) : W P N .ret Q env w := fun _ ha => wp_ret ⟨env, ha, h⟩
theorem W.cond {c : Operand} {x y : Code} (t : Bool) (hc : ev env c = .bool t) (h : W P N (if t then x else y) Q env w) : W P N (.cond c x y) Q env w := fun a ha =>
 wp_cond (t := t) (by rw [ha.eval]; exact hc) (by cases t <;> exact h a ha)
theorem W.uI {c : Operand} {x y : Code} (hc : ev env c = .bool true) (h : W P N x Q env w) : W P N (.cond c x y) Q env w := W.cond true hc h
theorem W.uD {c : Operand} {x y : Code} (hc : ev env c = .bool false) (h : W P N y Q env w) : W P N (.cond c x y) Q env w := W.cond false hc h
theorem W.block {id : Nat} {c : Code} (h : W P N c (A7 id Q) env w) : W P N (.block id c) Q env w := fun a ha =>
 wp_block (Go.wp_mono (h a ha) fun e a' w' ⟨env', hf, hQ⟩ => by
  cases e with
  | exit id' =>
   simp only [A7] at hQ
   simp only [Exit.inBlock]
   by_cases hid : id' = id
   ·subst hid
    rw [if_pos rfl]
    rw [Nat.beq_refl, _root_.cond_true] at hQ
    exact ⟨env', hf, hQ⟩
   ·rw [if_neg hid]
    have : Nat.beq id' id = false := by
     rw [Bool.eq_false_iff]
     intro hb
     exact hid (Nat.eq_of_beq_eq_true hb)
    rw [this, _root_.cond_false] at hQ
    exact ⟨env', hf, hQ⟩
  | _ => exact ⟨env', hf, hQ⟩)
theorem W.loop {c : Code} (I : Nat → Env → World → Prop) (g₀ : Nat) (h₀ : I g₀ env w)
  (round : ∀ g env w, I g env w → W P N c (C0 (fun env' w' => ∃ g', g' < g ∧ I g' env' w') Q) env w) : W P N (.loop c) Q env w := fun a ha =>
 wp_loop_ghost (fun g a w => ∃ env, Frm N env a ∧ I g env w) g₀ ⟨env, ha, h₀⟩ fun g a w ⟨env, hf, hI⟩ =>
  Go.wp_mono (round g env w hI a hf) fun e a' w' ⟨env', hf', hQ⟩ => by
   cases e with
   | normal =>
    obtain ⟨g', hlt, hI'⟩ := hQ
    exact ⟨g', hlt, env', hf', hI'⟩
   | _ => exact ⟨env', hf', hQ⟩
def uE (ops : Array Oper) (env : Env) (j : Nat) : Option Bool :=
 match (ops[j]?).bind (·.dst) with
 | some d => (match env d with | .bool b => some b | _ => none)
 | none => none
theorem Frm.yielded {a : Act} (ha : Frm N env a) (ops : Array Oper) : Go.yielded ops a.tmps = uE ops env := by
 funext j
 unfold Go.yielded uE
 cases (ops[j]?).bind (·.dst) with
 | none => rfl
 | some d =>
  have h := ha.get d
  rw [Array.getD_eq_getD_getElem?] at h
  simp only [Option.bind_some]
  cases hd : a.tmps[d]? with
  | none =>
   rw [hd] at h
   simp only [Option.getD_none] at h
   rw [← h]
   rfl
  | some x =>
   rw [hd] at h
   simp only [Option.getD_some] at h
   rw [← h]
   cases x <;> rfl
def BL (P : Program) (o : Oper) (env : Env) (w : World) (next : Env → World → Prop) : Prop :=
 (∃ v w', (execOp (ev env) o).run P w = .ok (.value v) w' ∧ next (zW env o.dst v) w') ∨
 (∃ w', (execOp (ev env) o).run P w = .ok .skip w' ∧ next (zW env o.dst undef) w') ∨
 (∃ f args w', (execOp (ev env) o).run P w = .ok (.enter f args) w' ∧ Calls P f args w' fun e w'' => ∃ v, e = .returned v ∧ next (zW env o.dst v) w'')
theorem BL.wp {o : Oper} {next : Env → World → Prop} (hok : yP N o = true) (h : BL P o env w next) {a : Act} (ha : Frm N env a) {K : Act → World → Prop} {R : Exit → Act → World → Prop}
  (hK : ∀ env' a' w', Frm N env' a' → next env' w' → K a' w') : o.wp P a w K R := by
 unfold Oper.wp
 rw [ha.eval]
 rcases h with ⟨v, w', hr, hn⟩ | ⟨w', hr, hn⟩ | ⟨f, args, w', hr, hn⟩
 ·rw [hr]
  exact hK _ _ _ (ha.put hok v) hn
 ·rw [hr]
  exact hK _ _ _ (ha.put hok undef) hn
 ·rw [hr]
  refine Calls.mono hn fun e w'' ⟨v, he, hv⟩ => ?_
  subst he
  exact hK _ _ _ (ha.put hok v) hv
def WL (P : Program) (ops : Array Oper) (Q : Exit → Env → World → Prop) : List Oper → Env → World → Prop
 | [], env, w => Q .normal env w
 | o :: rest, env, w => if Region.wanted o (uE ops env) = true then BL P o env w (WL P ops Q rest) else WL P ops Q rest (zW env o.dst undef) w
theorem WL.wp {ops : Array Oper} : ∀ (l : List Oper), l.all (yP N) = true → ∀ (env : Env) (w : World), WL P ops Q l env w → ∀ a, Frm N env a → wpList P ops (lift N Q) l a w := by
 intro l
 induction l with
 | nil => exact fun _ env w h a ha => ⟨env, ha, h⟩
 | cons o rest ih =>
  intro hall env w h a ha
  rw [List.all_cons, Bool.and_eq_true] at hall
  unfold wpList
  unfold WL at h
  rw [ha.yielded ops]
  split
  ·rename_i hw
   rw [if_pos hw] at h
   exact .inl (BL.wp hall.1 h ha fun env' a' w' hf hn => ih hall.2 env' w' hn a' hf)
  ·rename_i hw
   rw [if_neg hw] at h
   exact ih hall.2 _ _ h _ (ha.put hall.1 undef)
theorem W.region {id : Nat} {l : List Oper} (hok : l.all (yP N) = true) (h : WL P l.toArray Q l env w) : W P N (.region id l.toArray false) Q env w :=
 fun a ha => wp_region_lit (WL.wp l hok env w h a ha)
def H3 (P : Program) (o : Oper) (env : Env) (C : World → Prop) (v : Value) : Prop :=
 ∀ w, C w → (execOp (ev env) o).run P w = .ok (.value v) w ∨ (∃ f args, (execOp (ev env) o).run P w = .ok (.enter f args) w ∧ Calls P f args w fun e w'' => e = .returned v ∧ C w'')
def WQ (P : Program) (ops : Array Oper) (C : World → Prop) (Q : Env → Prop) : List Oper → Env → Prop
 | [], env => Q env
 | o :: rest, env => if Region.wanted o (uE ops env) = true then ∃ v, H3 P o env C v ∧ WQ P ops C Q rest (zW env o.dst v) else WQ P ops C Q rest (zW env o.dst undef)
theorem WQ.wp {ops : Array Oper} {C : World → Prop} {Q : Env → Prop} {Q' : Act → Prop} (hQ : ∀ env a, Frm N env a → Q env → Q' a) : ∀ (l : List Oper), l.all (yP N) = true → ∀ (env : Env), WQ P ops C Q l env → ∀ a, Frm N env a → wpQuiet P ops C Q' l a := by
 intro l
 induction l with
 | nil => exact fun _ env h a ha => hQ env a ha h
 | cons o rest ih =>
  intro hall env h a ha
  rw [List.all_cons, Bool.and_eq_true] at hall
  unfold wpQuiet
  unfold WQ at h
  rw [ha.yielded ops]
  split
  ·rename_i hw
   rw [if_pos hw] at h
   obtain ⟨v, hv, hr⟩ := h
   refine ⟨v, fun w hC => ?_, ih hall.2 _ hr _ (ha.put hall.1 v)⟩
   unfold Oper.quietAt
   rw [ha.eval]
   rcases hv w hC with h1 | ⟨f, args, h1, h2⟩
   ·rw [h1]
    exact ⟨rfl, rfl⟩
   ·rw [h1]
    exact ⟨rfl, h2⟩
  ·rename_i hw
   rw [if_neg hw] at h
   exact ih hall.2 _ h _ (ha.put hall.1 undef)
theorem W.tY {id : Nat} {l : List Oper} (hm : P.follows .mixedOrders = true) (hB : Region.lexB .any l.toArray = true) (hok : l.all (yP N) = true)
  (h : WQ P l.toArray (fun w' => ∃ n, w' = w.drewN n) (fun env' => ∀ n, Q .normal env' (w.drewN n)) l env) : W P N (.region id l.toArray true) Q env w :=
 fun a ha => wp_region_quiet_lit hm hB (WQ.wp (fun env' _ hf hq _ ⟨n, hn⟩ => ⟨env', hf, hn ▸ hq n⟩) l hok env h a ha)
def Jg (args : Array Value) : Env := fun t => args.getD t undef
def Fk (fn : Func) (env : Env) (w : World) (P : Program) (v : Value) : Prop := ∀ a, Frm fn.ntmps env a → (results fn a.tmps).run P w = .ok v w
def H0 (P : Program) (fn : Func) (R : Ending → World → Prop) : Exit → Env → World → Prop
 | .normal, env, w | .ret, env, w => ∃ v, Fk fn env w P v ∧ R (.returned v) w
 | _, _, _ => False
theorem Calls.ofW {f : FuncId} {fn : Func} {c : Code} {args : Array Value} {R : Ending → World → Prop} (hf : P.funcs[f]? = some fn) (hb : fn.body = some c) (hn : args.size ≤ fn.ntmps)
  (h : W P fn.ntmps c (H0 P fn R) (Jg args) w) : Calls P f args w R := by
 refine calls_of_wp hf hb (Go.wp_mono (h _ ⟨by simp; omega, fun t => ?_, rfl⟩) fun e a w' ⟨env', hfr, hQ⟩ => ?_)
 ·unfold Jg
  rw [Array.getD_eq_getD_getElem?, Array.getD_eq_getD_getElem?, Array.getElem?_append]
  split
  ·rfl
  ·rename_i hge
   rw [Array.getElem?_eq_none (xs := args) (by omega)]
   rw [Array.getElem?_replicate]
   split <;> rfl
 ·cases e with
  | normal =>
   obtain ⟨v, hv, hR⟩ := hQ
   exact ⟨hfr.defers, v, hv a hfr, hR⟩
  | ret =>
   obtain ⟨v, hv, hR⟩ := hQ
   exact ⟨hfr.defers, v, hv a hfr, hR⟩
  | exit id => exact hQ.elim
  | goto l => exact hQ.elim
  | panic ch => exact hQ.elim
  | outgrown => exact hQ.elim
theorem DU {fn : Func} (h : fn.results = #[]) : Fk fn env w P (.tuple #[]) := fun _ _ => results_none h _ _ _
theorem sE {fn : Func} {t : Nat} (h : fn.results = #[.tmp t]) {v : Value} (hv : env t = v) : Fk fn env w P v := fun a ha => by
 rw [results_tmp h, ha.get, hv]
theorem yI {fn : Func} {t u : Nat} (h : fn.results = #[.tmp t, .tmp u]) {v v' : Value} (hv : env t = v) (hv' : env u = v') : Fk fn env w P (.tuple #[v, v']) := fun a ha => by
 rw [results_tmp2 h, ha.get, ha.get, hv, hv']
end
end Go.WG
namespace Go.WG
open Go.RowKit
inductive Cell where
 | v (x : Value)
 | m (es : Array MapEntry) (clock : Nat)
abbrev CH := Nat → Nat → Option Cell
namespace CH
def le (a b : CH) : Prop := ∀ g o v, a g o = some v → b g o = some v
def dis (a b : CH) : Prop := ∀ g o, a g o = none ∨ b g o = none
def join (a b : CH) : CH := fun g o => match a g o with | some v => some v | none => b g o
def emp : CH := fun _ _ => none
def row (g off : Nat) (cs : List Value) : CH := fun b o => if b = g ∧ off ≤ o then (cs[o - off]?).map Cell.v else none
def mp (g : Nat) (es : Array MapEntry) (clock : Nat) : CH := fun b o => if b = g ∧ o = 0 then some (.m es clock) else none
theorem HV (g : Nat) (es : Array MapEntry) (clock : Nat) : mp g es clock g 0 = some (.m es clock) := by unfold mp; rw [if_pos ⟨rfl, rfl⟩]
theorem EP {g b o : Nat} {es : Array MapEntry} {clock : Nat} {c : Cell} (h : mp g es clock b o = some c) : b = g ∧ o = 0 ∧ c = .m es clock := by
 unfold mp at h
 split at h
 ·rename_i hc
  injection h with h
  exact ⟨hc.1, hc.2, h.symm⟩
 ·cases h
theorem le_refl (a : CH) : le a a := fun _ _ _ h => h
theorem le_trans {a b c : CH} (h : le a b) (k : le b c) : le a c := fun g o v hv => k g o v (h g o v hv)
theorem BI (a b : CH) : le a (join a b) := fun g o v h => by unfold join; rw [h]
theorem BH {a b : CH} (hd : dis a b) : le b (join a b) := fun g o v h => by
 unfold join
 rcases hd g o with h0 | h0
 ·rw [h0]; exact h
 ·rw [h0] at h; cases h
theorem xK {a b : CH} (h : dis a b) : dis b a := fun g o => (h g o).symm
theorem join_none {a b : CH} {g o : Nat} (h : join a b g o ≠ none) : a g o ≠ none ∨ b g o ≠ none := by
 unfold join at h
 cases ha : a g o with
 | some u => exact .inl (by simp)
 | none => rw [ha] at h; exact .inr h
theorem Cg {a b c : CH} (h : dis a c) (k : dis b c) : dis (join a b) c := fun g o => by
 rcases h g o with h0 | h0
 ·rcases k g o with k0 | k0
  ·left; unfold join; rw [h0]; exact k0
  ·exact .inr k0
 ·exact .inr h0
theorem GN (a : CH) : dis emp a := fun _ _ => .inl rfl
theorem Dp (a : CH) : dis a emp := fun _ _ => .inr rfl
theorem EU {g off : Nat} {cs : List Value} (k : Nat) : row g off cs g (off + k) = (cs[k]?).map Cell.v := by
 unfold row
 rw [if_pos ⟨rfl, by omega⟩, Nat.add_sub_cancel_left]
theorem yU {g off : Nat} {cs : List Value} {k : Nat} {v : Value} (h : cs[k]? = some v) : row g off cs g (off + k) = some (.v v) := by rw [EU, h]; rfl
theorem Ch {g off b o : Nat} {cs : List Value} {c : Cell} (h : row g off cs b o = some c) : b = g ∧ ∃ k v, o = off + k ∧ cs[k]? = some v ∧ c = .v v := by
 unfold row at h
 split at h
 ·rename_i hc
  obtain ⟨v, hv, rfl⟩ := Option.map_eq_some_iff.1 h
  exact ⟨hc.1, o - off, v, by omega, hv, rfl⟩
 ·cases h
theorem FR {g off b o : Nat} {cs : List Value} (h : row g off cs b o ≠ none) : b = g ∧ off ≤ o ∧ o < off + cs.length := by
 cases hv : row g off cs b o with
 | none => exact absurd hv h
 | some v =>
  obtain ⟨rfl, k, u, rfl, hk, _⟩ := Ch hv
  have := (List.getElem?_eq_some_iff.1 hk).1
  exact ⟨rfl, by omega, by omega⟩
theorem IY (g off : Nat) : row g off [] = emp := by
 funext b o
 unfold row emp
 split <;> simp
theorem BY (g off : Nat) (a b : List Value) : row g off (a ++ b) = join (row g off a) (row g (off + a.length) b) := by
 funext c o
 unfold join
 by_cases hc : c = g ∧ off ≤ o
 ·obtain ⟨rfl, hle⟩ := hc
  by_cases hl : o - off < a.length
  ·have h1 : row c off a c o = some (.v a[o - off]) := by unfold row; rw [if_pos ⟨rfl, hle⟩]; simp [hl]
   rw [h1]
   unfold row
   rw [if_pos ⟨rfl, hle⟩, List.getElem?_append_left hl]
   simp [hl]
  ·have h1 : row c off a c o = none := by unfold row; rw [if_pos ⟨rfl, hle⟩]; simp; omega
   rw [h1]
   unfold row
   rw [if_pos ⟨rfl, hle⟩, if_pos ⟨rfl, by omega⟩, List.getElem?_append_right (by omega)]
   simp only
   congr 2
   omega
 ·have h1 : row g off a c o = none := by unfold row; rw [if_neg hc]
  rw [h1]
  unfold row
  rw [if_neg hc, if_neg (by rintro ⟨h2, h3⟩; exact hc ⟨h2, by omega⟩)]
theorem Ce (g off : Nat) (a b : List Value) : dis (row g off a) (row g (off + a.length) b) := fun c o => by
 by_cases h : row g off a c o = none
 ·exact .inl h
 ·obtain ⟨rfl, h1, h2⟩ := FR h
  right
  unfold row
  rw [if_neg (by omega)]
end CH
def look (w : World) (g o : Nat) : Option Cell :=
 match w.heap[g]? with
 | some (.cells c _ _) => (c[o]?).map Cell.v
 | some (.map es cl) => if o = 0 then some (.m es cl) else none
 | _ => none
theorem Bx {w : World} {g o : Nat} {x : Value} : look w g o = some (.v x) ↔ w.cell? ⟨g, o, none⟩ = some x := by
 unfold look World.cell?
 cases w.heap[g]? with
 | none => simp
 | some b =>
  cases b with
  | cells c _ _ => simp
  | map es cl => simp only; split <;> simp
  | _ => simp
theorem Jx {w : World} {g o : Nat} {es : Array MapEntry} {cl : Nat} (h : look w g o = some (.m es cl)) : w.heap[g]? = some (.map es cl) ∧ o = 0 := by
 unfold look at h
 cases hb : w.heap[g]? with
 | none => rw [hb] at h; cases h
 | some b =>
  rw [hb] at h
  cases b with
  | cells c _ _ => simp at h
  | map es' cl' =>
   simp only at h
   split at h
   ·rename_i h0
    injection h with h
    injection h with h1 h2
    subst h1; subst h2
    exact ⟨rfl, h0⟩
   ·cases h
  | _ => simp at h
theorem Ai {w w' : World} {g : Nat} (h : w'.heap[g]? = w.heap[g]?) (o : Nat) : look w' g o = look w g o := by unfold look; rw [h]
theorem E5 {w : World} {g o : Nat} {c : Cell} (h : look w g o = some c) : g < w.heap.size := by
 unfold look at h
 cases hb : w.heap[g]? with
 | none => rw [hb] at h; cases h
 | some b => exact (Array.getElem?_eq_some_iff.1 hb).1
def Sub (h : CH) (w : World) : Prop := ∀ g o v, h g o = some v → look w g o = some v
def Own (h : CH) (w : World) : Prop := ∀ g o v, h g o = some v → look w g o = some v ∧ w.frozen? ⟨g, o, none⟩ = false
theorem Sub.cell {h : CH} {w : World} (k : Sub h w) {g o : Nat} {v : Value} (hv : h g o = some (.v v)) : w.cell? ⟨g, o, none⟩ = some v := Bx.1 (k g o _ hv)
theorem Own.sub {h : CH} {w : World} (k : Own h w) : Sub h w := fun g o v hv => (k g o v hv).1
theorem Sub.mono {h h' : CH} {w : World} (k : Sub h w) (hl : CH.le h' h) : Sub h' w := fun g o v hv => k g o v (hl g o v hv)
theorem Sub.lt {h : CH} {w : World} (k : Sub h w) {g o : Nat} (hn : h g o ≠ none) : g < w.heap.size := by
 cases hv : h g o with
 | none => exact absurd hv hn
 | some v => exact E5 (k g o v hv)
structure Mod (D : Nat → Nat → Prop) (w w' : World) : Prop where
 os : w'.os = w.os
 tape : w'.tape = w.tape
 output : w'.output = w.output
 size : w.heap.size ≤ w'.heap.size
 block : ∀ g, g < w.heap.size → (∀ o, ¬ D g o) → w'.heap[g]? = w.heap[g]?
 cell : ∀ g o, g < w.heap.size → ¬ D g o → look w' g o = look w g o
 froz : ∀ g o, g < w.heap.size → w'.frozen? ⟨g, o, none⟩ = w.frozen? ⟨g, o, none⟩
theorem Mod.refl (D : Nat → Nat → Prop) (w : World) : Mod D w w := ⟨rfl, rfl, rfl, Nat.le_refl _, fun _ _ _ => rfl, fun _ _ _ _ => rfl, fun _ _ _ => rfl⟩
theorem Mod.trans {D D' : Nat → Nat → Prop} {a b c : World} (h : Mod D a b) (k : Mod D' b c) (hD : ∀ g o, g < a.heap.size → D' g o → D g o) : Mod D a c :=
 ⟨k.os.trans h.os, k.tape.trans h.tape, k.output.trans h.output, Nat.le_trans h.size k.size,
  fun g hg hn => (k.block g (Nat.lt_of_lt_of_le hg h.size) (fun o ho => hn o (hD g o hg ho))).trans (h.block g hg hn),
  fun g o hg hn => (k.cell g o (Nat.lt_of_lt_of_le hg h.size) (fun ho => hn (hD g o hg ho))).trans (h.cell g o hg hn),
  fun g o hg => (k.froz g o (Nat.lt_of_lt_of_le hg h.size)).trans (h.froz g o hg)⟩
theorem Mod.Hy {D : Nat → Nat → Prop} {w w' : World} (h : Below w.heap.size w w') : Mod D w w' :=
 ⟨h.os, h.tape, h.output, h.size, fun g hg _ => h.block g hg, fun g o hg _ => Ai (h.block g hg) o, fun g o hg => h.frozen (p := ⟨g, o, none⟩) hg⟩
theorem Mod.below {w w' : World} {D : Nat → Nat → Prop} (h : Mod D w w') (hD : ∀ g o, ¬ D g o) : Below w.heap.size w w' := ⟨h.os, h.tape, h.output, h.size, fun g hg => h.block g hg (hD g)⟩
theorem Mod.alloc (D : Nat → Nat → Prop) (w : World) (o : Obj) : Mod D w (w.alloc o) := Mod.Hy ((Below.refl _ _).alloc (Nat.le_refl _) o)
theorem Mod.drewN (D : Nat → Nat → Prop) (w : World) (n : Nat) : Mod D w (w.drewN n) := ⟨rfl, rfl, rfl, Nat.le_refl _, fun _ _ _ => rfl, fun _ _ _ _ => rfl, fun _ _ _ => rfl⟩
theorem BB (w : World) (a : Addr) (v : Value) (b : Addr) : (w.setCell a v).frozen? b = w.frozen? b := by
 unfold World.frozen? World.setCell
 simp only [Array.getElem?_modify]
 by_cases h : a.block = b.block
 ·rw [if_pos h]
  cases hb : w.heap[b.block]? with
  | none => rfl
  | some o => cases o <;> rfl
 ·rw [if_neg h]
theorem BX (w : World) (g o : Nat) (v : Value) (b x : Nat) (hn : ¬ (b = g ∧ x = o)) : look (w.setCell ⟨g, o, none⟩ v) b x = look w b x := by
 by_cases hb : b = g
 ·subst hb
  unfold look World.setCell
  simp only [Array.getElem?_modify, if_true]
  cases hb : w.heap[b]? with
  | none => rfl
  | some q =>
   cases q with
   | cells c e f =>
    simp only [Option.map_some, Option.isSome_none, Bool.false_eq_true, if_false]
    rw [Array.getElem?_setIfInBounds_ne (by intro e; exact hn ⟨rfl, e.symm⟩)]
   | _ => rfl
 ·exact Ai (Below.heap_setCell _ _ _ _ (by intro e; exact hb e)) x
theorem CE (w : World) (g o : Nat) (v u : Value) (h : look w g o = some (.v u)) : look (w.setCell ⟨g, o, none⟩ v) g o = some (.v v) :=
 Bx.2 (World.cell?_setCell_same _ _ _ (Bx.1 h))
theorem Mod.setCell (D : Nat → Nat → Prop) (w : World) (g o : Nat) (v : Value) (hD : D g o) : Mod D w (w.setCell ⟨g, o, none⟩ v) :=
 ⟨rfl, rfl, rfl, by simp [World.setCell], fun b hb hn => Below.heap_setCell _ _ _ _ (by rintro rfl; exact hn o hD),
  fun b x hb hn => BX w g o v b x (by
   rintro ⟨rfl, rfl⟩
   exact hn hD), fun b x _ => BB w _ _ _⟩
theorem Sub.mod {h : CH} {D : Nat → Nat → Prop} {w w' : World} (k : Sub h w) (m : Mod D w w') (hd : ∀ g o, h g o ≠ none → ¬ D g o) : Sub h w' := fun g o v hv => by
 have hne : h g o ≠ none := by rw [hv]; simp
 rw [m.cell g o (k.lt hne) (hd g o hne)]
 exact k g o v hv
theorem Own.mod {h : CH} {D : Nat → Nat → Prop} {w w' : World} (k : Own h w) (m : Mod D w w') (hd : ∀ g o, h g o ≠ none → ¬ D g o) : Own h w' := fun g o v hv => by
 have hne : h g o ≠ none := by rw [hv]; simp
 rw [m.cell g o (k.sub.lt hne) (hd g o hne), m.froz g o (k.sub.lt hne)]
 exact k g o v hv
def sR (ps : List CH) : Nat → Nat → Prop := fun g o => ∃ p ∈ ps, p g o ≠ none
structure Pre (w : World) (F : CH) (ps : List CH) : Prop where
 fro : Sub F w
 own : ∀ p ∈ ps, Own p w ∧ CH.dis F p
 pair : ps.Pairwise CH.dis
structure Ctx (w0 : World) (F0 : CH) (D : Nat → Nat → Prop) (w : World) (F : CH) (ps : List CH) : Prop where
 mod : Mod D w0 w
 le : CH.le F0 F
 fro : Sub F w
 dom : ∀ g o, F g o ≠ none → F0 g o ≠ none ∨ D g o ∨ w0.heap.size ≤ g
 own : ∀ p ∈ ps, Own p w ∧ CH.dis F p ∧ ∀ g o, p g o ≠ none → D g o ∨ w0.heap.size ≤ g
 pair : ps.Pairwise CH.dis
section
variable {w0 w w' : World} {F0 F F' : CH} {D : Nat → Nat → Prop} {ps ps1 ps2 qs qs' rest : List CH} {p : CH}
theorem Ctx.start (h : Pre w F ps) : Ctx w F (sR ps) w F ps :=
 ⟨Mod.refl _ _, CH.le_refl _, h.fro, fun _ _ hn => .inl hn, fun p hp => ⟨(h.own p hp).1, (h.own p hp).2, fun _ _ hn => .inl ⟨p, hp, hn⟩⟩, h.pair⟩
theorem Ctx.pre (h : Ctx w0 F0 D w F (qs ++ rest)) : Pre w F qs :=
 ⟨h.fro, fun p hp => ⟨(h.own p (List.mem_append_left _ hp)).1, (h.own p (List.mem_append_left _ hp)).2.1⟩, (List.pairwise_append.1 h.pair).1⟩
theorem Ctx.tX (h : Ctx w0 F0 D w F ps) : Pre w F [] := ⟨h.fro, fun p hp => by simp at hp, .nil⟩
theorem Ctx.call (h : Ctx w0 F0 D w F (qs ++ rest)) (k : Ctx w F (sR qs) w' F' qs') : Ctx w0 F0 D w' F' (qs' ++ rest) := by
 obtain ⟨hpq, hpr, hcross⟩ := List.pairwise_append.1 h.pair
 have hq : ∀ g o, sR qs g o → D g o ∨ w0.heap.size ≤ g := fun g o ⟨q, hq, hn⟩ => (h.own q (List.mem_append_left _ hq)).2.2 g o hn
 have hrest : ∀ r ∈ rest, ∀ g o, r g o ≠ none → ¬ sR qs g o := fun r hr g o hn ⟨q, hq, hqn⟩ => by
  rcases hcross q hq r hr g o with h0 | h0
  ·exact hqn h0
  ·exact hn h0
 refine ⟨h.mod.trans k.mod (fun g o hg hd => (hq g o hd).resolve_right (by omega)), CH.le_trans h.le k.le, k.fro, fun g o hn => ?_, fun p hp => ?_, ?_⟩
 ·rcases k.dom g o hn with h1 | h1 | h1
  ·exact h.dom g o h1
  ·rcases hq g o h1 with h2 | h2
   ·exact .inr (.inl h2)
   ·exact .inr (.inr h2)
  ·exact .inr (.inr (Nat.le_trans h.mod.size h1))
 ·rcases List.mem_append.1 hp with hp | hp
  ·obtain ⟨h1, h2, h3⟩ := k.own p hp
   refine ⟨h1, h2, fun g o hn => ?_⟩
   rcases h3 g o hn with h4 | h4
   ·exact hq g o h4
   ·exact .inr (Nat.le_trans h.mod.size h4)
  ·obtain ⟨h1, h2, h3⟩ := h.own p (List.mem_append_right _ hp)
   refine ⟨h1.mod k.mod (hrest p hp), fun g o => ?_, h3⟩
   by_cases hn : p g o = none
   ·exact .inr hn
   ·left
    by_cases hF : F' g o = none
    ·exact hF
    ·exfalso
     rcases k.dom g o hF with h4 | h4 | h4
     ·rcases h2 g o with h5 | h5
      ·exact h4 h5
      ·exact hn h5
     ·exact hrest p hp g o hn h4
     ·have := h1.sub.lt hn
      omega
 ·refine List.pairwise_append.2 ⟨k.pair, hpr, fun q hq' r hr g o => ?_⟩
  by_cases hn : r g o = none
  ·exact .inr hn
  ·left
   by_cases hqn : q g o = none
   ·exact hqn
   ·exfalso
    rcases (k.own q hq').2.2 g o hqn with h4 | h4
    ·exact hrest r hr g o hn h4
    ·have := (h.own r (List.mem_append_right _ hr)).1.sub.lt hn
     omega
theorem Ctx.wS (h : Ctx w0 F0 D w F ps) (k : Ctx w F (sR []) w' F' qs') : Ctx w0 F0 D w' F' (qs' ++ ps) := Ctx.call (qs := []) h k
theorem Ctx.perm (h : Ctx w0 F0 D w F ps) (hp : ps.Perm qs) : Ctx w0 F0 D w F qs :=
 ⟨h.mod, h.le, h.fro, h.dom, fun p hq => h.own p (hp.mem_iff.2 hq), (hp.pairwise_iff (fun h => CH.xK h)).1 h.pair⟩
theorem Ctx.alloc (h : Ctx w0 F0 D w F ps) (cs : Array Value) (e : TypeId) : Ctx w0 F0 D (w.alloc (.cells cs e)) F (CH.row w.heap.size 0 cs.toList :: ps) := by
 have k : Ctx w F (sR []) (w.alloc (.cells cs e)) F [CH.row w.heap.size 0 cs.toList] := by
  refine ⟨Mod.alloc _ _ _, CH.le_refl _, h.fro.mod (Mod.alloc (fun _ _ => False) _ _) (fun _ _ _ => id), fun g o hn => .inl hn, fun p hp => ?_, List.pairwise_singleton _ _⟩
  obtain rfl := List.mem_singleton.1 hp
  refine ⟨fun g o v hv => ?_, fun g o => ?_, fun g o hn => .inr (by obtain ⟨rfl, _⟩ := CH.FR hn; exact Nat.le_refl _)⟩
  ·obtain ⟨rfl, k, u, rfl, hk, rfl⟩ := CH.Ch hv
   have hh : (w.alloc (.cells cs e)).heap[w.heap.size]? = some (.cells cs e (0, 0)) := heap_alloc_new w _
   constructor
   ·refine Bx.2 ?_
    rw [cell_of_row _ _ _ cs e (0, 0) hh]
    simpa using hk
   ·unfold World.frozen?
    rw [hh]
    simp
  ·by_cases hn : CH.row w.heap.size 0 cs.toList g o = none
   ·exact .inr hn
   ·obtain ⟨rfl, _⟩ := CH.FR hn
    left
    by_cases hF : F w.heap.size o = none
    ·exact hF
    ·have := h.fro.lt hF
     omega
 exact h.wS k
theorem Ctx.drewN (h : Ctx w0 F0 D w F ps) (n : Nat) : Ctx w0 F0 D (w.drewN n) F ps :=
 ⟨h.mod.trans (Mod.drewN D w n) (fun _ _ _ h => h), h.le, h.fro, h.dom, h.own, h.pair⟩
theorem Ctx.J6 (h : Ctx w0 F0 D w F (ps1 ++ p :: ps2)) {g o : Nat} {u v : Cell} (m : Mod (fun b x => b = g ∧ x = o) w w') (hp : p g o = some u) (p' : CH) (hp1 : p' g o = some v) (hnew : look w' g o = some v ∧ w'.frozen? ⟨g, o, none⟩ = false) (hp2 : ∀ b x, ¬ (b = g ∧ x = o) → p' b x = p b x) :
  Ctx w0 F0 D w' F (ps1 ++ p' :: ps2) := by
 have hm : p ∈ ps1 ++ p :: ps2 := by simp
 obtain ⟨ho, hdF, hdom⟩ := h.own p hm
 have hne : p g o ≠ none := by rw [hp]; simp
 have hD := hdom g o hne
 have hnone : ∀ b x, p' b x ≠ none → p b x ≠ none := fun b x hn => by
  by_cases hb : b = g ∧ x = o
  ·obtain ⟨rfl, rfl⟩ := hb; exact hne
  ·rwa [hp2 b x hb] at hn
 refine ⟨h.mod.trans m (fun b x hb hx => by obtain ⟨rfl, rfl⟩ := hx; exact hD.resolve_right (by omega)), h.le, h.fro.mod m (fun b x hn hx => ?_), h.dom, fun q hq => ?_, ?_⟩
 ·obtain ⟨rfl, rfl⟩ := hx
  rcases hdF b x with h0 | h0
  ·exact hn h0
  ·exact hne h0
 ·rcases List.mem_append.1 hq with hq | hq
  ·obtain ⟨h1, h2, h3⟩ := h.own q (List.mem_append_left _ hq)
   refine ⟨h1.mod m (fun b x hn hx => ?_), h2, h3⟩
   obtain ⟨rfl, rfl⟩ := hx
   rcases (List.pairwise_append.1 h.pair).2.2 q hq p (by simp) b x with h0 | h0
   ·exact hn h0
   ·exact hne h0
  ·rcases List.mem_cons.1 hq with rfl | hq
   ·refine ⟨fun b x y hy => ?_, fun b x => ?_, fun b x hn => hdom b x (hnone b x hn)⟩
    ·by_cases hb : b = g ∧ x = o
     ·obtain ⟨rfl, rfl⟩ := hb
      rw [hp1] at hy
      injection hy with hy
      subst hy
      exact hnew
     ·rw [hp2 b x hb] at hy
      obtain ⟨h1, h2⟩ := ho b x y hy
      have hlt := E5 h1
      rw [m.cell b x hlt hb, m.froz b x hlt]
      exact ⟨h1, h2⟩
    ·rcases hdF b x with h0 | h0
     ·exact .inl h0
     ·right
      by_cases hn : q b x = none
      ·exact hn
      ·exact absurd h0 (hnone b x hn)
   ·obtain ⟨h1, h2, h3⟩ := h.own q (List.mem_append_right _ (List.mem_cons_of_mem _ hq))
    refine ⟨h1.mod m (fun b x hn hx => ?_), h2, h3⟩
    obtain ⟨rfl, rfl⟩ := hx
    rcases (List.pairwise_cons.1 (List.pairwise_append.1 h.pair).2.1).1 q hq b x with h0 | h0
    ·exact hne h0
    ·exact hn h0
 ·obtain ⟨hp1', hp2', hc⟩ := List.pairwise_append.1 h.pair
  have hd : ∀ q, CH.dis p q → CH.dis p' q := fun q hd b x => by
   rcases hd b x with h0 | h0
   ·left
    by_cases hn : p' b x = none
    ·exact hn
    ·exact absurd h0 (hnone b x hn)
   ·exact .inr h0
  refine List.pairwise_append.2 ⟨hp1', List.pairwise_cons.2 ⟨fun q hq => hd q ((List.pairwise_cons.1 hp2').1 q hq), (List.pairwise_cons.1 hp2').2⟩, fun q hq r hr => ?_⟩
  rcases List.mem_cons.1 hr with rfl | hr
  ·exact CH.xK (hd q (CH.xK (hc q hq p (by simp))))
  ·exact hc q hq r (List.mem_cons_of_mem _ hr)
theorem Ctx.set (h : Ctx w0 F0 D w F (ps1 ++ p :: ps2)) {g o : Nat} {u v : Value} (hp : p g o = some (.v u)) (p' : CH) (hp1 : p' g o = some (.v v)) (hp2 : ∀ b x, ¬ (b = g ∧ x = o) → p' b x = p b x) :
  Ctx w0 F0 D (w.setCell ⟨g, o, none⟩ v) F (ps1 ++ p' :: ps2) := by
 have ho := (h.own p (by simp)).1 g o _ hp
 exact h.J6 (Mod.setCell _ _ _ _ _ ⟨rfl, rfl⟩) hp p' hp1 ⟨CE _ _ _ _ _ ho.1, by rw [BB]; exact ho.2⟩ hp2
theorem Ctx.setRow {g off : Nat} {cs : List Value} (ps1 ps2 : List CH) (k : Nat) (v : Value) (hk : k < cs.length) (h : Ctx w0 F0 D w F (ps1 ++ CH.row g off cs :: ps2)) :
  Ctx w0 F0 D (w.setCell ⟨g, off + k, none⟩ v) F (ps1 ++ CH.row g off (cs.set k v) :: ps2) := by
 refine h.set (u := cs[k]) (by rw [CH.EU]; simp [hk]) _ (by rw [CH.EU]; simp [hk]) fun b x hn => ?_
 unfold CH.row
 split
 ·rename_i hc
  obtain ⟨rfl, hle⟩ := hc
  rw [List.getElem?_set_ne (by intro e; exact hn ⟨rfl, by omega⟩)]
 ·rfl
theorem Ctx.freeze (ps1 ps2 : List CH) (h : Ctx w0 F0 D w F (ps1 ++ p :: ps2)) : Ctx w0 F0 D w (CH.join F p) (ps1 ++ ps2) := by
 have hm : p ∈ ps1 ++ p :: ps2 := by simp
 obtain ⟨ho, hdF, hdom⟩ := h.own p hm
 obtain ⟨hp1, hp2, hc⟩ := List.pairwise_append.1 h.pair
 have hin : ∀ q ∈ ps1 ++ ps2, q ∈ ps1 ++ p :: ps2 ∧ CH.dis p q := fun q hq => by
  rcases List.mem_append.1 hq with hq | hq
  ·exact ⟨List.mem_append_left _ hq, CH.xK (hc q hq p (by simp))⟩
  ·exact ⟨List.mem_append_right _ (List.mem_cons_of_mem _ hq), (List.pairwise_cons.1 hp2).1 q hq⟩
 refine ⟨h.mod, CH.le_trans h.le (CH.BI _ _), fun g o v hv => ?_, fun g o hn => ?_, fun q hq => ?_, List.pairwise_append.2 ⟨hp1, (List.pairwise_cons.1 hp2).2, fun q hq r hr => hc q hq r (List.mem_cons_of_mem _ hr)⟩⟩
 ·unfold CH.join at hv
  cases hF : F g o with
  | some u => rw [hF] at hv; exact h.fro g o v (by rw [hF]; exact hv)
  | none => rw [hF] at hv; exact (ho g o v hv).1
 ·rcases CH.join_none hn with h1 | h1
  ·exact h.dom g o h1
  ·rcases hdom g o h1 with h2 | h2
   ·exact .inr (.inl h2)
   ·exact .inr (.inr h2)
 ·obtain ⟨hq', hd⟩ := hin q hq
  obtain ⟨h1, h2, h3⟩ := h.own q hq'
  exact ⟨h1, CH.Cg h2 hd, h3⟩
theorem Ctx.Jp (ps1 ps2 : List CH) (h : Ctx w0 F0 D w F (ps1 ++ p :: ps2)) : CH.dis F p := (h.own p (by simp)).2.1
theorem Ctx.EZ (ps1 ps2 : List CH) (h : Ctx w0 F0 D w F (ps1 ++ p :: ps2)) : Sub p w := (h.own p (by simp)).1.sub
theorem Ctx.JH (ps1 ps2 : List CH) (h : Ctx w0 F0 D w F (ps1 ++ p :: ps2)) : Own p w := (h.own p (by simp)).1
theorem Ctx.drop (ps1 ps2 : List CH) (h : Ctx w0 F0 D w F (ps1 ++ p :: ps2)) : Ctx w0 F0 D w F (ps1 ++ ps2) := by
 obtain ⟨hp1, hp2, hc⟩ := List.pairwise_append.1 h.pair
 refine ⟨h.mod, h.le, h.fro, h.dom, fun q hq => h.own q ?_, List.pairwise_append.2 ⟨hp1, (List.pairwise_cons.1 hp2).2, fun q hq r hr => hc q hq r (List.mem_cons_of_mem _ hr)⟩⟩
 rcases List.mem_append.1 hq with hq | hq
 ·exact List.mem_append_left _ hq
 ·exact List.mem_append_right _ (List.mem_cons_of_mem _ hq)
theorem Ctx.split (ps1 ps2 : List CH) {a b : CH} (hab : CH.dis a b) (h : Ctx w0 F0 D w F (ps1 ++ CH.join a b :: ps2)) : Ctx w0 F0 D w F (ps1 ++ a :: b :: ps2) := by
 obtain ⟨ho, hdF, hdom⟩ := h.own (CH.join a b) (by simp)
 obtain ⟨hp1, hp2, hc⟩ := List.pairwise_append.1 h.pair
 have ha : ∀ g o, a g o ≠ none → CH.join a b g o ≠ none := fun g o hn => by
  unfold CH.join
  cases hv : a g o with
  | none => exact absurd hv hn
  | some v => simp
 have hb : ∀ g o, b g o ≠ none → CH.join a b g o ≠ none := fun g o hn => by
  cases hv : b g o with
  | none => exact absurd hv hn
  | some v => rw [CH.BH hab g o v hv]; simp
 have hd : ∀ q, CH.dis (CH.join a b) q → CH.dis a q ∧ CH.dis b q := fun q hq => ⟨fun g o => by
   rcases hq g o with h0 | h0
   ·left; by_cases hn : a g o = none
    ·exact hn
    ·exact absurd h0 (ha g o hn)
   ·exact .inr h0, fun g o => by
   rcases hq g o with h0 | h0
   ·left; by_cases hn : b g o = none
    ·exact hn
    ·exact absurd h0 (hb g o hn)
   ·exact .inr h0⟩
 have hF := hd F (CH.xK hdF)
 refine ⟨h.mod, h.le, h.fro, h.dom, fun q hq => ?_, List.pairwise_append.2 ⟨hp1, List.pairwise_cons.2 ⟨fun q hq => ?_, List.pairwise_cons.2 ⟨fun q hq => (hd q ((List.pairwise_cons.1 hp2).1 q hq)).2, (List.pairwise_cons.1 hp2).2⟩⟩, fun q hq r hr => ?_⟩⟩
 ·rcases List.mem_append.1 hq with hq | hq
  ·exact h.own q (List.mem_append_left _ hq)
  ·rcases List.mem_cons.1 hq with rfl | hq
   ·exact ⟨fun g o v hv => ho g o v (CH.BI _ _ g o v hv), CH.xK hF.1, fun g o hn => hdom g o (ha g o hn)⟩
   ·rcases List.mem_cons.1 hq with rfl | hq
    ·exact ⟨fun g o v hv => ho g o v (CH.BH hab g o v hv), CH.xK hF.2, fun g o hn => hdom g o (hb g o hn)⟩
    ·exact h.own q (List.mem_append_right _ (List.mem_cons_of_mem _ hq))
 ·rcases List.mem_cons.1 hq with rfl | hq
  ·exact hab
  ·exact (hd q ((List.pairwise_cons.1 hp2).1 q hq)).1
 ·have hqd := hd q (CH.xK (hc q hq (CH.join a b) (by simp)))
  rcases List.mem_cons.1 hr with rfl | hr
  ·exact CH.xK hqd.1
  ·rcases List.mem_cons.1 hr with rfl | hr
   ·exact CH.xK hqd.2
   ·exact hc q hq r (List.mem_cons_of_mem _ hr)
theorem Ctx.join (ps1 ps2 : List CH) {a b : CH} (h : Ctx w0 F0 D w F (ps1 ++ a :: b :: ps2)) : Ctx w0 F0 D w F (ps1 ++ CH.join a b :: ps2) := by
 obtain ⟨hoa, hFa, hda⟩ := h.own a (by simp)
 obtain ⟨hob, hFb, hdb⟩ := h.own b (by simp)
 obtain ⟨hp1, hp2, hc⟩ := List.pairwise_append.1 h.pair
 obtain ⟨ha2, hp3⟩ := List.pairwise_cons.1 hp2
 obtain ⟨hb2, hp4⟩ := List.pairwise_cons.1 hp3
 refine ⟨h.mod, h.le, h.fro, h.dom, fun q hq => ?_, List.pairwise_append.2 ⟨hp1, List.pairwise_cons.2 ⟨fun q hq => CH.Cg (ha2 q (List.mem_cons_of_mem _ hq)) (hb2 q hq), hp4⟩, fun q hq r hr => ?_⟩⟩
 ·rcases List.mem_append.1 hq with hq | hq
  ·exact h.own q (List.mem_append_left _ hq)
  ·rcases List.mem_cons.1 hq with rfl | hq
   ·refine ⟨fun g o v hv => ?_, CH.xK (CH.Cg (CH.xK hFa) (CH.xK hFb)), fun g o hn => (CH.join_none hn).elim (hda g o) (hdb g o)⟩
    unfold CH.join at hv
    cases hF : a g o with
    | some u => rw [hF] at hv; exact hoa g o v (by rw [hF]; exact hv)
    | none => rw [hF] at hv; exact hob g o v hv
   ·exact h.own q (List.mem_append_right _ (List.mem_cons_of_mem _ (List.mem_cons_of_mem _ hq)))
 ·rcases List.mem_cons.1 hr with rfl | hr
  ·exact CH.xK (CH.Cg (CH.xK (hc q hq a (by simp))) (CH.xK (hc q hq b (by simp))))
  ·exact hc q hq r (List.mem_cons_of_mem _ (List.mem_cons_of_mem _ hr))
theorem Ctx.emp (h : Ctx w0 F0 D w F ps) : Ctx w0 F0 D w F (CH.emp :: ps) :=
 ⟨h.mod, h.le, h.fro, h.dom, fun q hq => by
  rcases List.mem_cons.1 hq with rfl | hq
  ·exact ⟨fun _ _ _ hv => (by cases hv), CH.Dp _, fun g o hn => absurd rfl hn⟩
  ·exact h.own q hq, List.pairwise_cons.2 ⟨fun q _ => CH.GN q, h.pair⟩⟩
theorem Ctx.below (h : Ctx w0 F0 (sR []) w F ps) : Below w0.heap.size w0 w := h.mod.below (fun _ _ ⟨_, hp, _⟩ => by simp at hp)
end
end Go.WG
namespace Go.WG
open Go.RowKit
structure Kd (α : Type) where
 sz : Nat
 rep : CH → α → List Value → Prop
 len : ∀ {F : CH} {x : α} {cs : List Value}, rep F x cs → cs.length = sz
 one : ∀ {F : CH} {x : α} {cs : List Value}, rep F x cs → ∀ u ∈ cs, u.oneCell' = true
 mono : ∀ {F F' : CH} {x : α} {cs : List Value}, CH.le F F' → rep F x cs → rep F' x cs
namespace Kd
def scalar {α : Type} (enc : α → Value) (h1 : ∀ x, (enc x).oneCell' = true) : Kd α where
 sz := 1
 rep := fun _ x cs => cs = [enc x]
 len := fun h => by rw [h]; rfl
 one := fun h u hu => by rw [h] at hu; rw [List.mem_singleton.1 hu]; exact h1 _
 mono := fun _ h => h
def int (k : IntKind) : Kd Int := scalar (Value.int k) (fun _ => rfl)
def bool : Kd Bool := scalar Value.bool (fun _ => rfl)
def arr {α : Type} (n : Nat) (enc : α → Value) (h1 : ∀ x, (enc x).oneCell' = true) : Kd (List α) where
 sz := n
 rep := fun _ x cs => cs = x.map enc ∧ x.length = n
 len := fun h => by rw [h.1, List.length_map, h.2]
 one := fun h u hu => by
  rw [h.1] at hu
  obtain ⟨y, _, rfl⟩ := List.mem_map.1 hu
  exact h1 y
 mono := fun _ h => h
def Eb (n : Nat) (k : IntKind) : Kd (List Int) := arr n (Value.int k) (fun _ => rfl)
def pair {α β : Type} (a : Kd α) (b : Kd β) : Kd (α × β) where
 sz := a.sz + b.sz
 rep := fun F x cs => ∃ c1 c2, cs = c1 ++ c2 ∧ a.rep F x.1 c1 ∧ b.rep F x.2 c2
 len := fun ⟨c1, c2, e, h1, h2⟩ => by rw [e, List.length_append, a.len h1, b.len h2]
 one := fun ⟨c1, c2, e, h1, h2⟩ u hu => by
  rw [e] at hu
  rcases List.mem_append.1 hu with hu | hu
  ·exact a.one h1 u hu
  ·exact b.one h2 u hu
 mono := fun hl ⟨c1, c2, e, h1, h2⟩ => ⟨c1, c2, e, a.mono hl h1, b.mono hl h2⟩
def iso {α β : Type} (d : Kd α) (f : β → α) : Kd β where
 sz := d.sz
 rep := fun F x cs => d.rep F (f x) cs
 len := d.len
 one := d.one
 mono := d.mono
end Kd
def Sl {α : Type} (K : Kd α) (F h : CH) (A : Option Addr) (xs : List α) : Prop :=
 0 < xs.length → ∃ b off, A = some ⟨b, off, none⟩ ∧ ∀ j x, xs[j]? = some x → ∃ cs, K.rep F x cs ∧ ∀ i u, cs[i]? = some u → h b (off + j * K.sz + i) = some (.v u)
section
variable {α : Type} {K : Kd α} {F F' h h' : CH} {A : Option Addr} {xs : List α}
theorem Sl.nil (K : Kd α) (F h : CH) (A : Option Addr) : Sl K F h A [] := fun hp => by simp at hp
theorem Sl.mono (k : Sl K F h A xs) (hF : CH.le F F') (hh : CH.le h h') : Sl K F' h' A xs := fun hp => by
 obtain ⟨b, off, e, hx⟩ := k hp
 refine ⟨b, off, e, fun j x hj => ?_⟩
 obtain ⟨cs, hr, hc⟩ := hx j x hj
 exact ⟨cs, K.mono hF hr, fun i u hu => hh _ _ _ (hc i u hu)⟩
theorem Sl.get (k : Sl K F h A xs) (j : Nat) (x : α) (hj : xs[j]? = some x) : ∃ b off cs, A = some ⟨b, off, none⟩ ∧ K.rep F x cs ∧ ∀ i u, cs[i]? = some u → h b (off + j * K.sz + i) = some (.v u) := by
 have hp : 0 < xs.length := by have := (List.getElem?_eq_some_iff.1 hj).1; omega
 obtain ⟨b, off, e, hx⟩ := k hp
 obtain ⟨cs, hr, hc⟩ := hx j x hj
 exact ⟨b, off, cs, e, hr, hc⟩
theorem Sl.take (k : Sl K F h A xs) (n : Nat) : Sl K F h A (xs.take n) := fun hp => by
 have hp' : 0 < xs.length := by rw [List.length_take] at hp; omega
 obtain ⟨b, off, e, hx⟩ := k hp'
 refine ⟨b, off, e, fun j x hj => hx j x ?_⟩
 rw [List.getElem?_take] at hj
 split at hj
 ·exact hj
 ·cases hj
theorem Sl.drop (k : Sl K F h A xs) (n c : Nat) (hc : xs.length ≤ c) : Sl K F h (if c = n then A else A.map (·.add (n * K.sz))) (xs.drop n) := fun hp => by
 rw [List.length_drop] at hp
 obtain ⟨b, off, rfl, hx⟩ := k (by omega)
 rw [if_neg (by omega)]
 refine ⟨b, off + n * K.sz, ?_, fun j x hj => ?_⟩
 ·simp only [Option.map_some, Addr.add]
  split
  ·rename_i h0; rw [h0, Nat.add_zero]
  ·rfl
 ·rw [List.getElem?_drop] at hj
  obtain ⟨cs, hr, hcc⟩ := hx (n + j) x hj
  refine ⟨cs, hr, fun i u hu => ?_⟩
  rw [show off + n * K.sz + j * K.sz + i = off + (n + j) * K.sz + i from by rw [Nat.add_mul]; omega]
  exact hcc i u hu
end
namespace Kd
def slice {α : Type} (K : Kd α) : Kd (List α) where
 sz := 1
 rep := fun F xs cs => ∃ A c, cs = [.slice A xs.length c] ∧ xs.length ≤ c ∧ c ≤ maxLen ∧ Sl K F F A xs
 len := fun ⟨_, _, e, _⟩ => by rw [e]; rfl
 one := fun ⟨_, _, e, _⟩ u hu => by rw [e] at hu; rw [List.mem_singleton.1 hu]; rfl
 mono := fun hl ⟨A, c, e, hc, hm, hs⟩ => ⟨A, c, e, hc, hm, hs.mono hl hl⟩
end Kd
def Els {α : Type} (K : Kd α) (F : CH) (xs : List α) (cs : List Value) : Prop :=
 xs.length * K.sz ≤ cs.length ∧ ∀ j x, xs[j]? = some x → K.rep F x ((cs.drop (j * K.sz)).take K.sz)
def Row {α : Type} (K : Kd α) (F p : CH) (v : Value) (xs : List α) : Prop :=
 (v = .slice none 0 0 ∧ xs = [] ∧ p = CH.emp) ∨
 ∃ g off cap cur, v = .slice (some ⟨g, off, none⟩) xs.length cap ∧ xs.length ≤ cap ∧ cap ≤ maxLen ∧ p = CH.row g off cur ∧ cur.length = cap * K.sz ∧ (∀ u ∈ cur, u.oneCell' = true) ∧ Els K F xs cur
section
variable {α : Type} {K : Kd α} {F F' p : CH} {v : Value} {xs : List α}
theorem Els.mono {cs : List Value} (h : Els K F xs cs) (hl : CH.le F F') : Els K F' xs cs := ⟨h.1, fun j x hj => K.mono hl (h.2 j x hj)⟩
theorem Els.take {cs : List Value} (h : Els K F xs cs) (n : Nat) : Els K F (xs.take n) cs := by
 refine ⟨Nat.le_trans (Nat.mul_le_mul_right _ (by rw [List.length_take]; omega)) h.1, fun j x hj => h.2 j x ?_⟩
 rw [List.getElem?_take] at hj
 split at hj
 ·exact hj
 ·cases hj
theorem Els.drop {cs : List Value} (h : Els K F xs cs) (n : Nat) : Els K F (xs.drop n) (cs.drop (n * K.sz)) := by
 refine ⟨by rw [List.length_drop, List.length_drop, Nat.sub_mul]; have := h.1; omega, fun j x hj => ?_⟩
 rw [List.getElem?_drop] at hj
 have := h.2 (n + j) x hj
 rwa [Nat.add_mul, ← List.drop_drop] at this
theorem Els.append {ys : List α} {cs ds more : List Value} (h : Els K F xs cs) (hc : cs.length = xs.length * K.sz) (k : Els K F ys ds) : Els K F (xs ++ ys) (cs ++ ds ++ more) := by
 refine ⟨by rw [List.length_append, Nat.add_mul, List.length_append, List.length_append, hc]; have := k.1; omega, fun j x hj => ?_⟩
 by_cases hlt : j < xs.length
 ·rw [List.getElem?_append_left hlt] at hj
  have h1 := h.2 j x hj
  have hle : j * K.sz + K.sz ≤ cs.length := by rw [hc, ← Nat.succ_mul]; exact Nat.mul_le_mul_right _ hlt
  rw [List.append_assoc, List.drop_append_of_le_length (by omega), List.take_append_of_le_length (by rw [List.length_drop]; omega)]
  exact h1
 ·rw [List.getElem?_append_right (by omega)] at hj
  have h1 := k.2 _ x hj
  have hjl := (List.getElem?_eq_some_iff.1 hj).1
  have he : j * K.sz = cs.length + (j - xs.length) * K.sz := by rw [hc, ← Nat.add_mul]; congr 1; omega
  have hle : (j - xs.length) * K.sz + K.sz ≤ ds.length := Nat.le_trans (by rw [← Nat.succ_mul]; exact Nat.mul_le_mul_right _ hjl) k.1
  rw [List.append_assoc, he, ← List.drop_drop, List.drop_left, List.drop_append_of_le_length (by omega), List.take_append_of_le_length (by rw [List.length_drop]; omega)]
  exact h1
theorem Els.cut {cs : List Value} (h : Els K F xs cs) : Els K F xs (cs.take (xs.length * K.sz)) := by
 refine ⟨by rw [List.length_take]; have := h.1; omega, fun j x hj => ?_⟩
 have hjl := (List.getElem?_eq_some_iff.1 hj).1
 have h1 := h.2 j x hj
 have hle : j * K.sz + K.sz ≤ xs.length * K.sz := by rw [← Nat.succ_mul]; exact Nat.mul_le_mul_right _ hjl
 rwa [List.drop_take, List.take_take, Nat.min_eq_left (by omega)]
theorem Els.set {cs es : List Value} (h : Els K F xs cs) (j : Nat) (y : α) (hy : K.rep F y es) (hj : j < xs.length) : Els K F (xs.set j y) (cs.take (j * K.sz) ++ es ++ cs.drop (j * K.sz + K.sz)) := by
 have hes := K.len hy
 have hle : j * K.sz + K.sz ≤ cs.length := Nat.le_trans (by rw [← Nat.succ_mul]; exact Nat.mul_le_mul_right _ hj) h.1
 refine ⟨by rw [List.length_set, List.length_append, List.length_append, List.length_take, List.length_drop, hes]; have := h.1; omega, fun i x hi => ?_⟩
 by_cases hij : i = j
 ·subst hij
  rw [List.getElem?_set_self hj] at hi
  injection hi with hi
  subst hi
  rw [List.append_assoc, List.drop_append_of_le_length (by rw [List.length_take]; omega), List.drop_eq_nil_of_le (by rw [List.length_take]; omega), List.nil_append, List.take_append_of_le_length (by omega), List.take_of_length_le (by omega)]
  exact hy
 ·rw [List.getElem?_set_ne (Ne.symm hij)] at hi
  have hil := (List.getElem?_eq_some_iff.1 hi).1
  have h1 := h.2 i x hi
  suffices hs : ((cs.take (j * K.sz) ++ es ++ cs.drop (j * K.sz + K.sz)).drop (i * K.sz)).take K.sz = (cs.drop (i * K.sz)).take K.sz by rw [hs]; exact h1
  rcases Nat.lt_or_ge i j with hlt | hge
  ·have hle2 : i * K.sz + K.sz ≤ j * K.sz := by rw [← Nat.succ_mul]; exact Nat.mul_le_mul_right _ hlt
   rw [List.append_assoc, List.drop_append_of_le_length (by rw [List.length_take]; omega), List.take_append_of_le_length (by rw [List.length_drop, List.length_take]; omega), List.drop_take, List.take_take, Nat.min_eq_left (by omega)]
  ·have hgt : j < i := by omega
   have hle2 : j * K.sz + K.sz ≤ i * K.sz := by rw [← Nat.succ_mul]; exact Nat.mul_le_mul_right _ hgt
   have hl : (cs.take (j * K.sz) ++ es).length = j * K.sz + K.sz := by rw [List.length_append, List.length_take, hes]; omega
   rw [List.drop_append, List.drop_eq_nil_of_le (by rw [hl]; exact hle2), List.nil_append, hl, List.drop_drop]
   congr 2
   omega
theorem Row.mono (h : Row K F p v xs) (hl : CH.le F F') : Row K F' p v xs := by
 rcases h with h | ⟨g, off, cap, cur, h1, h2, h3, h4, h5, h6, h7⟩
 ·exact .inl h
 ·exact .inr ⟨g, off, cap, cur, h1, h2, h3, h4, h5, h6, h7.mono hl⟩
theorem Row.nil (K : Kd α) (F : CH) : Row K F CH.emp (.slice none 0 0) [] := .inl ⟨rfl, rfl, rfl⟩
theorem Row.open_ (h : Row K F p v xs) : ∃ A c, v = .slice A xs.length c ∧ xs.length ≤ c ∧ c ≤ maxLen ∧ Sl K F p A xs := by
 rcases h with ⟨rfl, rfl, rfl⟩ | ⟨g, off, cap, cur, h1, h2, h3, rfl, h5, h6, h7⟩
 ·exact ⟨none, 0, rfl, Nat.le_refl _, by simp [maxLen], Sl.nil _ _ _ _⟩
 ·refine ⟨_, cap, h1, h2, h3, fun _ => ⟨g, off, rfl, fun j x hj => ⟨_, h7.2 j x hj, fun i u hu => ?_⟩⟩⟩
  rw [List.getElem?_take] at hu
  split at hu
  ·rw [List.getElem?_drop] at hu
   rw [Nat.add_assoc]
   exact CH.yU hu
  ·cases hu
theorem Row.freeze (h : Row K F p v xs) (hd : CH.dis F p) : (Kd.slice K).rep (CH.join F p) xs [v] := by
 obtain ⟨A, c, rfl, h2, h3, h4⟩ := h.open_
 exact ⟨A, c, rfl, h2, h3, h4.mono (CH.BI _ _) (CH.BH hd)⟩
end
end Go.WG
namespace Go.WG
open Go.RowKit
def Yl (P : Program) (env : Env) (op : Op) (ty : TypeId) (w : World) (v : Value) (w' : World) : Prop :=
 (execOp (ev env) ⟨none, op, ty, "", #[], none⟩).run P w = .ok (.value v) w'
def BR (P : Program) (env : Env) (op : Op) (ty : TypeId) (w w' : World) : Prop :=
 (execOp (ev env) ⟨none, op, ty, "", #[], none⟩).run P w = .ok .skip w'
def vD (P : Program) (env : Env) (op : Op) (ty : TypeId) (w : World) (f : FuncId) (args : Array Value) : Prop :=
 (execOp (ev env) ⟨none, op, ty, "", #[], none⟩).run P w = .ok (.enter f args) w
theorem uM (ρ : Operand → Value) (d : Option Nat) (op : Op) (ty : TypeId) (pos : String) (aft : Array Edge) (g : Option (Nat × Bool)) :
  execOp ρ ⟨d, op, ty, pos, aft, g⟩ = execOp ρ ⟨none, op, ty, "", #[], none⟩ := by cases op <;> rfl
section steps
variable {P : Program} {ops : Array Oper} {Q : Exit → Env → World → Prop} {env : Env} {w w' : World} {rest : List Oper} {op : Op} {ty : TypeId} {pos : String} {aft : Array Edge} {v : Value} {d : Nat} {dst : Option Nat}
theorem vR (o : Oper) (h : o.guard = none) (y : Nat → Option Bool) : Region.wanted o y = true := by unfold Region.wanted; rw [h]
theorem WL.done (h : Q .normal env w) : WL P ops Q [] env w := h
theorem WL.val (h : Yl P env op ty w v w') (k : WL P ops Q rest (upd env d v) w') : WL P ops Q (⟨some d, op, ty, pos, aft, none⟩ :: rest) env w := by
 unfold WL
 rw [if_pos (vR _ rfl _)]
 exact .inl ⟨v, w', by rw [uM]; exact h, k⟩
theorem WL.skip (h : BR P env op ty w w') (k : WL P ops Q rest env w') : WL P ops Q (⟨none, op, ty, pos, aft, none⟩ :: rest) env w := by
 unfold WL
 rw [if_pos (vR _ rfl _)]
 exact .inr (.inl ⟨w', by rw [uM]; exact h, k⟩)
theorem WL.call {f : FuncId} {args : Array Value} (h : vD P env op ty w f args) {R : Ending → World → Prop} (hc : Calls P f args w R)
  (k : ∀ e w', R e w' → ∃ v, e = .returned v ∧ WL P ops Q rest (zW env dst v) w') : WL P ops Q (⟨dst, op, ty, pos, aft, none⟩ :: rest) env w := by
 unfold WL
 rw [if_pos (vR _ rfl _)]
 exact .inr (.inr ⟨f, args, w, by rw [uM]; exact h, hc.mono k⟩)
theorem WL.on {j : Nat} {b : Bool} {x : Nat} (hj : (ops[j]?).bind (·.dst) = some x) (hx : env x = .bool b) (k : WL P ops Q (⟨dst, op, ty, pos, aft, none⟩ :: rest) env w) :
  WL P ops Q (⟨dst, op, ty, pos, aft, some (j, b)⟩ :: rest) env w := by
 unfold WL at *
 rw [if_pos (vR _ rfl _)] at k
 have hw : Region.wanted ⟨dst, op, ty, pos, aft, some (j, b)⟩ (uE ops env) = true := by
  unfold Region.wanted uE
  simp only [hj, hx]
  simp
 rw [if_pos hw]
 unfold BL at *
 rw [uM] at k
 rw [uM]
 exact k
theorem WL.off {j : Nat} {b : Bool} {x : Nat} (hj : (ops[j]?).bind (·.dst) = some x) (hx : env x = .bool (!b)) (k : WL P ops Q rest (zW env dst undef) w) :
  WL P ops Q (⟨dst, op, ty, pos, aft, some (j, b)⟩ :: rest) env w := by
 unfold WL
 have hw : Region.wanted ⟨dst, op, ty, pos, aft, some (j, b)⟩ (uE ops env) = false := by
  unfold Region.wanted uE
  simp only [hj, hx]
  cases b <;> simp
 rw [hw]
 exact k
theorem WL.Ga {j : Nat} {b : Bool} {x : Nat} (hj : (ops[j]?).bind (·.dst) = some x) (hx : env x = undef) (k : WL P ops Q rest (zW env dst undef) w) :
  WL P ops Q (⟨dst, op, ty, pos, aft, some (j, b)⟩ :: rest) env w := by
 unfold WL
 have hw : Region.wanted ⟨dst, op, ty, pos, aft, some (j, b)⟩ (uE ops env) = false := by
  unfold Region.wanted uE
  simp only [hj, hx]
  cases b <;> rfl
 rw [hw]
 exact k
theorem WL.cut {l : List Oper} (M : Env → World → Prop) (h : WL P ops (C0 M fun _ _ _ => False) l env w) (k : ∀ env w, M env w → Q .normal env w) : WL P ops Q l env w := by
 induction l generalizing env w with
 | nil => exact k _ _ h
 | cons o rest ih =>
  unfold WL at h ⊢
  split
  ·rename_i hw
   rw [if_pos hw] at h
   rcases h with ⟨v, w', h1, h2⟩ | ⟨w', h1, h2⟩ | ⟨f, args, w', h1, h2⟩
   ·exact .inl ⟨v, w', h1, ih h2⟩
   ·exact .inr (.inl ⟨w', h1, ih h2⟩)
   ·exact .inr (.inr ⟨f, args, w', h1, h2.mono fun e w'' ⟨v, he, hv⟩ => ⟨v, he, ih hv⟩⟩)
  ·rename_i hw
   rw [if_neg hw] at h
   exact ih h
theorem WQ.done {C : World → Prop} {Q : Env → Prop} (h : Q env) : WQ P ops C Q [] env := h
theorem WQ.val {C : World → Prop} {Q : Env → Prop} (h : ∀ w, C w → Yl P env op ty w v w) (k : WQ P ops C Q rest (upd env d v)) : WQ P ops C Q (⟨some d, op, ty, pos, aft, none⟩ :: rest) env := by
 unfold WQ
 rw [if_pos (vR _ rfl _)]
 exact ⟨v, fun w hw => .inl (by rw [uM]; exact h w hw), k⟩
theorem WQ.call {C : World → Prop} {Q : Env → Prop} {f : FuncId} {args : Array Value} (h : ∀ w, C w → vD P env op ty w f args) (hc : ∀ w, C w → Calls P f args w fun e w'' => e = .returned v ∧ C w'')
  (k : WQ P ops C Q rest (upd env d v)) : WQ P ops C Q (⟨some d, op, ty, pos, aft, none⟩ :: rest) env := by
 unfold WQ
 rw [if_pos (vR _ rfl _)]
 exact ⟨v, fun w hw => .inr ⟨f, args, by rw [uM]; exact h w hw, hc w hw⟩, k⟩
theorem WQ.on {C : World → Prop} {Q : Env → Prop} {j : Nat} {b : Bool} {x : Nat} (hj : (ops[j]?).bind (·.dst) = some x) (hx : env x = .bool b) (k : WQ P ops C Q (⟨dst, op, ty, pos, aft, none⟩ :: rest) env) :
  WQ P ops C Q (⟨dst, op, ty, pos, aft, some (j, b)⟩ :: rest) env := by
 unfold WQ at *
 rw [if_pos (vR _ rfl _)] at k
 have hw : Region.wanted ⟨dst, op, ty, pos, aft, some (j, b)⟩ (uE ops env) = true := by
  unfold Region.wanted uE
  simp only [hj, hx]
  simp
 rw [if_pos hw]
 unfold H3 at *
 rw [uM] at k
 rw [uM]
 exact k
theorem WQ.off {C : World → Prop} {Q : Env → Prop} {j : Nat} {b : Bool} {x : Nat} (hj : (ops[j]?).bind (·.dst) = some x) (hx : env x = .bool (!b)) (k : WQ P ops C Q rest (zW env dst undef)) :
  WQ P ops C Q (⟨dst, op, ty, pos, aft, some (j, b)⟩ :: rest) env := by
 unfold WQ
 have hw : Region.wanted ⟨dst, op, ty, pos, aft, some (j, b)⟩ (uE ops env) = false := by
  unfold Region.wanted uE
  simp only [hj, hx]
  cases b <;> simp
 rw [hw]
 exact k
theorem WQ.Ga {C : World → Prop} {Q : Env → Prop} {j : Nat} {b : Bool} {x : Nat} (hj : (ops[j]?).bind (·.dst) = some x) (hx : env x = undef) (k : WQ P ops C Q rest (zW env dst undef)) :
  WQ P ops C Q (⟨dst, op, ty, pos, aft, some (j, b)⟩ :: rest) env := by
 unfold WQ
 have hw : Region.wanted ⟨dst, op, ty, pos, aft, some (j, b)⟩ (uE ops env) = false := by
  unfold Region.wanted uE
  simp only [hj, hx]
  cases b <;> rfl
 rw [hw]
 exact k
theorem WQ.cut {C : World → Prop} {Q : Env → Prop} {l : List Oper} (M : Env → Prop) (h : WQ P ops C M l env) (k : ∀ env, M env → Q env) : WQ P ops C Q l env := by
 induction l generalizing env with
 | nil => exact k _ h
 | cons o rest ih =>
  unfold WQ at h ⊢
  split
  ·rename_i hw
   rw [if_pos hw] at h
   obtain ⟨v, h1, h2⟩ := h
   exact ⟨v, h1, ih h2⟩
  ·rename_i hw
   rw [if_neg hw] at h
   exact ih h
end steps
section yields
variable {P : Program} {env : Env} {w w' : World} {ty t t' : TypeId} {x y c a b : Operand} {v : Value} {k : IntKind} {m n r : Int}
theorem Yl.move (h : ev env x = v) : Yl P env (.move x) ty w v w := by subst h; rfl
theorem Yl.assign (h : ev env x = v) : Yl P env (.assign x) ty w v w := by subst h; rfl
theorem Yl.Jf (hc : ev env c = .bool true) (h : ev env a = v) : Yl P env (.pick c a b) ty w v w := by
 subst h
 show (execOp (ev env) _).run P w = _
 simp [execOp, hc, asBool]
theorem Yl.Jh (hc : ev env c = .bool false) (h : ev env b = v) : Yl P env (.pick c a b) ty w v w := by
 subst h
 show (execOp (ev env) _).run P w = _
 simp [execOp, hc, asBool]
theorem Yl.bin {op : BinOp} {u : Value} (hx : ev env x = .int k m) (hy : ev env y = .int k n) (h : (binOp op t (.int k m) (.int k n)).run P w = .ok u w) : Yl P env (.binOp op t x y t') ty w u w := by
 show (execOp (ev env) _).run P w = _
 have hg : (eqGuard op t x y (.int k m) (.int k n)).run P w = .ok () w := by
  unfold eqGuard
  cases op <;> rfl
 simp [execOp, hx, hy, hg, h]
theorem Yl.add (hx : ev env x = .int k m) (hy : ev env y = .int k n) (hr : k.wrap (m + n) = r) : Yl P env (.binOp .add t x y t') ty w (.int k r) w :=
 Yl.bin hx hy (by subst hr; simp [binOp, Op.intArith])
theorem Yl.sub (hx : ev env x = .int k m) (hy : ev env y = .int k n) (hr : k.wrap (m - n) = r) : Yl P env (.binOp .sub t x y t') ty w (.int k r) w :=
 Yl.bin hx hy (by subst hr; simp [binOp, Op.intArith])
theorem Yl.mul (hx : ev env x = .int k m) (hy : ev env y = .int k n) (hr : k.wrap (m * n) = r) : Yl P env (.binOp .mul t x y t') ty w (.int k r) w :=
 Yl.bin hx hy (by subst hr; simp [binOp, Op.intArith])
theorem Yl.quo (hx : ev env x = .int k m) (hy : ev env y = .int k n) (hn : n ≠ 0) (hr : k.wrap (m.tdiv n) = r) : Yl P env (.binOp .quo t x y t') ty w (.int k r) w :=
 Yl.bin hx hy (by subst hr; simp [binOp, Op.intDiv, hn])
theorem Yl.lss {q : Bool} (hx : ev env x = .int k m) (hy : ev env y = .int k n) (hr : decide (m < n) = q) : Yl P env (.binOp .lss t x y t') ty w (.bool q) w :=
 Yl.bin hx hy (by subst hr; simp [binOp, Op.intCmp])
theorem Yl.leq {q : Bool} (hx : ev env x = .int k m) (hy : ev env y = .int k n) (hr : decide (m ≤ n) = q) : Yl P env (.binOp .leq t x y t') ty w (.bool q) w :=
 Yl.bin hx hy (by subst hr; simp [binOp, Op.intCmp])
theorem Yl.gtr {q : Bool} (hx : ev env x = .int k m) (hy : ev env y = .int k n) (hr : decide (m > n) = q) : Yl P env (.binOp .gtr t x y t') ty w (.bool q) w :=
 Yl.bin hx hy (by subst hr; simp [binOp, Op.intCmp])
theorem Yl.geq {q : Bool} (hx : ev env x = .int k m) (hy : ev env y = .int k n) (hr : decide (m ≥ n) = q) : Yl P env (.binOp .geq t x y t') ty w (.bool q) w :=
 Yl.bin hx hy (by subst hr; simp [binOp, Op.intCmp])
theorem I6 (m n : Int) : (m == n) = decide (m = n) := rfl
theorem IZ (m n : Int) : (m != n) = !decide (m = n) := rfl
theorem Yl.eql {q : Bool} (hx : ev env x = .int k m) (hy : ev env y = .int k n) (hr : decide (m = n) = q) : Yl P env (.binOp .eql t x y t') ty w (.bool q) w :=
 Yl.bin hx hy (by subst hr; simp [binOp, Op.intCmp, I6])
theorem Yl.neq {q : Bool} (hx : ev env x = .int k m) (hy : ev env y = .int k n) (hr : (!decide (m = n)) = q) : Yl P env (.binOp .neq t x y t') ty w (.bool q) w :=
 Yl.bin hx hy (by subst hr; simp [binOp, Op.intCmp, IZ])
def AL (op : BinOp) (k : IntKind) (m n : Int) : Int :=
 match op with
 | .and => k.wrap (BitVec.ofInt k.bits m &&& BitVec.ofInt k.bits n).toNat
 | .or => k.wrap (BitVec.ofInt k.bits m ||| BitVec.ofInt k.bits n).toNat
 | .xor => k.wrap (BitVec.ofInt k.bits m ^^^ BitVec.ofInt k.bits n).toNat
 | _ => k.wrap (BitVec.ofInt k.bits m &&& ~~~ BitVec.ofInt k.bits n).toNat
theorem Yl.and (hx : ev env x = .int k m) (hy : ev env y = .int k n) (hr : AL .and k m n = r) : Yl P env (.binOp .and t x y t') ty w (.int k r) w :=
 Yl.bin hx hy (by subst hr; simp [binOp, Op.intBits, AL])
theorem Yl.or (hx : ev env x = .int k m) (hy : ev env y = .int k n) (hr : AL .or k m n = r) : Yl P env (.binOp .or t x y t') ty w (.int k r) w :=
 Yl.bin hx hy (by subst hr; simp [binOp, Op.intBits, AL])
theorem Yl.xor (hx : ev env x = .int k m) (hy : ev env y = .int k n) (hr : AL .xor k m n = r) : Yl P env (.binOp .xor t x y t') ty w (.int k r) w :=
 Yl.bin hx hy (by subst hr; simp [binOp, Op.intBits, AL])
def vP (k : IntKind) (m n : Int) : Int := k.wrap (m * 2 ^ (min n.toNat k.bits))
def AH (k : IntKind) (m n : Int) : Int := m.fdiv (2 ^ (min n.toNat k.bits))
theorem Yl.shl {k' : IntKind} (hx : ev env x = .int k m) (hy : ev env y = .int k' n) (h0 : 0 ≤ n) (hr : vP k m n = r) : Yl P env (.binOp .shl t x y t') ty w (.int k r) w := by
 subst hr
 show (execOp (ev env) _).run P w = _
 have hg : (eqGuard .shl t x y (.int k m) (.int k' n)).run P w = .ok () w := rfl
 have hn : ¬ n < 0 := by omega
 simp [execOp, hx, hy, hg, binOp, Op.shift, hn, vP]
theorem Yl.shr {k' : IntKind} (hx : ev env x = .int k m) (hy : ev env y = .int k' n) (h0 : 0 ≤ n) (hr : AH k m n = r) : Yl P env (.binOp .shr t x y t') ty w (.int k r) w := by
 subst hr
 show (execOp (ev env) _).run P w = _
 have hg : (eqGuard .shr t x y (.int k m) (.int k' n)).run P w = .ok () w := rfl
 have hn : ¬ n < 0 := by omega
 simp [execOp, hx, hy, hg, binOp, Op.shift, hn, AH]
theorem Yl.not {p q : Bool} (hx : ev env x = .bool p) (hr : (!p) = q) : Yl P env (.unOp .not t x) ty w (.bool q) w := by
 subst hr
 show (execOp (ev env) _).run P w = _
 simp [execOp, hx, Op.unary]
theorem Yl.KY {p q s : Bool} (hx : ev env x = .bool p) (hy : ev env y = .bool q) (h : ∀ w : World, (Op.equal t (.bool p) (.bool q)).run P w = .ok s w) : Yl P env (.binOp .eql t x y t') ty w (.bool s) w := by
 show (execOp (ev env) _).run P w = _
 have hg : (eqGuard .eql t x y (.bool p) (.bool q)).run P w = .ok () w := rfl
 simp [execOp, hx, hy, hg, binOp, h]
theorem Yl.K7 {p q s : Bool} (hx : ev env x = .bool p) (hy : ev env y = .bool q) (h : ∀ w : World, (Op.equal t (.bool p) (.bool q)).run P w = .ok (!s) w) : Yl P env (.binOp .neq t x y t') ty w (.bool s) w := by
 show (execOp (ev env) _).run P w = _
 have hg : (eqGuard .neq t x y (.bool p) (.bool q)).run P w = .ok () w := rfl
 simp [execOp, hx, hy, hg, binOp, h]
theorem Yl.conv {k' : IntKind} (hx : ev env x = .int k m) {u : TypeDesc} (hs : P.underlying t = some u) (hd : P.underlying t' = some (.int k')) (hr : k'.wrap m = r) : Yl P env (.convert t t' x) ty w (.int k' r) w := by
 subst hr
 show (execOp (ev env) _).run P w = _
 simp [execOp, hx, convert, run_underlying hs, run_underlying hd, Conv.intToInt]
theorem Yl.len {A : Option Addr} {l q : Nat} {e : TypeId} (hx : ev env x = .slice A l q) (ht : P.underlying t = some (.slice e)) : Yl P env (.call { callee := .builtin .len, args := #[x], argTypes := #[t] }) ty w (.int .i64 (l : Int)) w := by
 show (execOp (ev env) _).run P w = _
 simp [execOp, resolve, invoke, builtin, Builtin.len_, hx, run_underlying ht, goInt]
theorem Yl.extract {vs : Array Value} {i : Nat} (hx : ev env x = .tuple vs) (hi : vs[i]? = some v) : Yl P env (.extract x i) ty w v w := by
 show (execOp (ev env) _).run P w = _
 simp [execOp, hx, Instr.extract, hi]
theorem Yl.nilCheck {ad : Addr} (hx : ev env x = .pointer (some ad)) : Yl P env (.nilCheck x) ty w (.pointer (some ad)) w := by
 show (execOp (ev env) _).run P w = _
 simp [execOp, hx]
theorem Yl.indexAddr {ad : Addr} {l q sz : Nat} {e : TypeId} {i : Int} (hx : ev env x = .slice (some ad) l q) (hy : ev env y = .int k i) (ht : P.underlying t = some (.slice e)) (hs : (P.info? e).map (·.size) = some sz) (h0 : 0 ≤ i) (h1 : i < (l : Int)) :
  Yl P env (.indexAddr t x y) ty w (.pointer (some (ad.add (i.toNat * sz)))) w := by
 obtain ⟨inf, hi, rfl⟩ := Option.map_eq_some_iff.1 hs
 show (execOp (ev env) _).run P w = _
 simp [execOp, hx, hy, Instr.indexAt, asIntOf, run_underlying ht, sizeOf, typeInfo, hi, h0, h1]
theorem vL (b off n : Nat) : (⟨b, off, none⟩ : Addr).add n = ⟨b, off + n, none⟩ := by
 unfold Addr.add
 split
 ·rename_i h; rw [h, Nat.add_zero]
 ·rfl
theorem Yl.HI {ad : Addr} {l sz : Nat} {e : TypeId} {i : Int} (hx : ev env x = .pointer (some ad)) (hy : ev env y = .int k i) (ht : P.underlying t = some (.array l e)) (hs : (P.info? e).map (·.size) = some sz) (h0 : 0 ≤ i) (h1 : i < (l : Int)) :
  Yl P env (.indexAddr t x y) ty w (.pointer (some (ad.add (i.toNat * sz)))) w := by
 obtain ⟨inf, hi, rfl⟩ := Option.map_eq_some_iff.1 hs
 show (execOp (ev env) _).run P w = _
 simp [execOp, hx, hy, Instr.indexAt, Instr.sureAddr, asIntOf, run_underlying ht, sizeOf, typeInfo, hi, h0, h1]
def Ax : TypeDesc → Bool
 | .struct _ => true
 | .array _ _ => true
 | _ => false
theorem run_loadCells (a : Addr) (cs : List Value) (h : ∀ j u, cs[j]? = some u → w.cell? (a.add j) = some u) : (loadCells a cs.length).run P w = .ok cs.toArray w := by
 have := run_firstCells_some (P := P) w 1 cs.length a cs.length cs.length cs (by omega) h
 simpa [Builtin.firstCells] using this
theorem Bu {d : TypeDesc} (hu : P.underlying t = some d) (hd : Ax d = true) (a : Addr) (cs : List Value) (hs : (P.info? t).map (·.size) = some cs.length)
  (h : ∀ j u, cs[j]? = some u → w.cell? (a.add j) = some u) : (loadVar t a).run P w = .ok (.agg cs.toArray) w := by
 obtain ⟨inf, hi, hsz⟩ := Option.map_eq_some_iff.1 hs
 have hl := run_loadCells (P := P) a cs h
 rw [← hsz] at hl
 cases d <;> simp [Ax] at hd <;> simp [loadVar, isAgg, run_underlying hu, sizeOf, typeInfo, hi, hl]
theorem Bv {d : TypeDesc} (hu : P.underlying t = some d) (hd : Ax d = false) (a : Addr) (h : w.cell? a = some v) : (loadVar t a).run P w = .ok v w := by
 cases d <;> simp [Ax] at hd <;> simp [loadVar, isAgg, run_underlying hu, h]
theorem Yl.load {d : TypeDesc} {ad : Addr} (hx : ev env x = .pointer (some ad)) (hu : P.underlying t = some d) (hd : Ax d = false) (h : w.cell? ad = some v) : Yl P env (.load t x) ty w v w := by
 show (execOp (ev env) _).run P w = _
 have := Bv (P := P) hu hd ad h
 simp [execOp, hx, Instr.loadAt, Instr.sureAddr, this]
theorem Yl.wC {d : TypeDesc} {ad : Addr} {cs : List Value} (hx : ev env x = .pointer (some ad)) (hu : P.underlying t = some d) (hd : Ax d = true) (hs : (P.info? t).map (·.size) = some cs.length)
  (h : ∀ j u, cs[j]? = some u → w.cell? (ad.add j) = some u) : Yl P env (.load t x) ty w (.agg cs.toArray) w := by
 show (execOp (ev env) _).run P w = _
 have := Bu (P := P) hu hd ad cs hs h
 simp [execOp, hx, Instr.loadAt, Instr.sureAddr, this]
theorem vD.fn {f : FuncId} {fn : Func} {as : Array Operand} {ts : Array TypeId} {args : Array Value} (hf : P.funcs[f]? = some fn) (hn : (fn.name == "runtime.NumGoroutine") = false) (hb : fn.body.isSome = true) (ha : as.map (ev env) = args) :
  vD P env (.call { callee := .value (.func f), args := as, argTypes := ts }) ty w f args := by
 subst ha
 show (execOp (ev env) _).run P w = _
 have hb' : ¬ fn.body = none := by cases h : fn.body <;> simp_all
 have hn' : ¬ fn.name = "runtime.NumGoroutine" := by simpa using hn
 simp [execOp, resolve, ev, Deferred.ofValue, invoke, callFunc, hf, hn', hb']
end yields
end Go.WG
namespace Go.WG
section
variable {P : Program} {N : Nat} {Q : Exit → Env → World → Prop} {next : Env → World → Prop} {env : Env} {w : World}
theorem rF (h : next env w) : C0 next Q .normal env w := h
theorem rM {id : Nat} (h : Q (.exit id) env w) : C0 next Q (.exit id) env w := h
theorem rS (h : Q .ret env w) : C0 next Q .ret env w := h
theorem tH {id : Nat} (h : Q .normal env w) : A7 id Q .normal env w := h
theorem uX {id : Nat} (h : Q .ret env w) : A7 id Q .ret env w := h
theorem sL {id : Nat} (h : Q .normal env w) : A7 id Q (.exit id) env w := by
 show cond (Nat.beq id id) (Q .normal env w) (Q (.exit id) env w)
 rw [Nat.beq_refl]
 exact h
theorem H5 {id id' : Nat} (hn : Nat.beq id' id = false) (h : Q (.exit id') env w) : A7 id Q (.exit id') env w := by
 show cond (Nat.beq id' id) (Q .normal env w) (Q (.exit id') env w)
 rw [hn]
 exact h
theorem rH {fn : Func} {R : Ending → World → Prop} {v : Value} (hr : Fk fn env w P v) (h : R (.returned v) w) : H0 P fn R .ret env w := ⟨v, hr, h⟩
theorem B2 {fn : Func} {R : Ending → World → Prop} {v : Value} (hr : Fk fn env w P v) (h : R (.returned v) w) : H0 P fn R .normal env w := ⟨v, hr, h⟩
theorem rT {α : Type} {c : Prop} [Decidable c] {x y : Option α} {r : α} (h : (if c then x else y) = some r) : (c ∧ x = some r) ∨ (¬ c ∧ y = some r) := by
 split at h
 ·exact .inl ⟨‹_›, h⟩
 ·exact .inr ⟨‹_›, h⟩
theorem rV {α : Type} {c : Prop} [Decidable c] {x : Option α} {r : α} (h : (if c then x else none) = some r) : c ∧ x = some r := by
 split at h
 ·exact ⟨‹_›, h⟩
 ·cases h
theorem rE {α β : Type} {a : Option α} {f : α → Option β} {r : β} (h : a.bind f = some r) : ∃ x, a = some x ∧ f x = some r := Option.bind_eq_some_iff.1 h
theorem getD_some {α : Type} {xs : List α} {d : α} {j : Nat} (h : j < xs.length) : xs[j]? = some (xs.getD j d) := by simp [h]
inductive Evs (env : Env) : List Operand → List Value → Prop
 | nil : Evs env [] []
 | cons {x : Operand} {v : Value} {xs : List Operand} {vs : List Value} (h : ev env x = v) (t : Evs env xs vs) : Evs env (x :: xs) (v :: vs)
theorem Aq {xs : List Operand} {vs : List Value} (h : Evs env xs vs) : xs.toArray.map (ev env) = vs.toArray := by
 have : xs.map (ev env) = vs := by
  induction h with
  | nil => rfl
  | cons h _ ih => rw [List.map_cons, h, ih]
 simp [this]
end
def wi8 (x : Int) : Int := IntKind.i8.wrap x
def KZ (x : Int) : Int := IntKind.i16.wrap x
def K6 (x : Int) : Int := IntKind.i32.wrap x
def rB (x : Int) : Int := IntKind.i64.wrap x
def wu8 (x : Int) : Int := IntKind.u8.wrap x
def K9 (x : Int) : Int := IntKind.u16.wrap x
def KT (x : Int) : Int := IntKind.u32.wrap x
def wR (x : Int) : Int := IntKind.u64.wrap x
theorem tI {x : Int} (h0 : -9223372036854775808 ≤ x) (h1 : x < 9223372036854775808) : rB x = x := by
 unfold rB IntKind.wrap
 simp [IntKind.bits, IntKind.signed]
 omega
theorem CG (x : Int) : wR x = x % 18446744073709551616 := by unfold wR IntKind.wrap; simp [IntKind.bits, IntKind.signed]
theorem F9 (x : Int) : wu8 x = x % 256 := by unfold wu8 IntKind.wrap; simp [IntKind.bits, IntKind.signed]
section
variable {P : Program} {env : Env} {w : World} {ty t : TypeId} {x y : Operand} {v : Value} {k : IntKind}
theorem Yl.rW {A : Option Addr} {b off l q sz : Nat} {e : TypeId} {i : Int} (hx : ev env x = .slice A l q) (hy : ev env y = .int k i) (hA : A = some ⟨b, off, none⟩) (ht : P.underlying t = some (.slice e)) (hs : (P.info? e).map (·.size) = some sz) (h : 0 ≤ i ∧ i < (l : Int)) :
  Yl P env (.indexAddr t x y) ty w (.pointer (some ⟨b, off + i.toNat * sz, none⟩)) w := by
 subst hA
 have := Yl.indexAddr (P := P) (w := w) (ty := ty) hx hy ht hs h.1 h.2
 rwa [vL] at this
theorem Yl.Dl {b off l sz : Nat} {e : TypeId} {i : Int} (hx : ev env x = .pointer (some ⟨b, off, none⟩)) (hy : ev env y = .int k i) (ht : P.underlying t = some (.array l e)) (hs : (P.info? e).map (·.size) = some sz) (h : 0 ≤ i ∧ i < (l : Int)) :
  Yl P env (.indexAddr t x y) ty w (.pointer (some ⟨b, off + i.toNat * sz, none⟩)) w := by
 have := Yl.HI (P := P) (w := w) (ty := ty) hx hy ht hs h.1 h.2
 rwa [vL] at this
theorem Yl.fieldAddr {b off : Nat} {fs : Array Field} {f : Field} {i sz : Nat} (hx : ev env x = .pointer (some ⟨b, off, none⟩)) (ht : P.underlying t = some (.struct fs)) (hf : fs[i]? = some f) (hs : (P.info? f.type).map (·.size) = some (sz + 1)) :
  Yl P env (.fieldAddr t x i) ty w (.pointer (some ⟨b, off + f.offset, none⟩)) w := by
 obtain ⟨inf, hi, hsz⟩ := Option.map_eq_some_iff.1 hs
 show (execOp (ev env) _).run P w = _
 simp [execOp, hx, Instr.fieldAt, Instr.sureAddr, run_underlying ht, hf, fieldPlace, typeInfo, sizeOf, hi, hsz, vL]
theorem Yl.Jn {cs : List Value} {fs : Array Field} {f : Field} {d : TypeDesc} {i : Nat} (hx : ev env x = .agg cs.toArray) (ht : P.underlying t = some (.struct fs)) (hf : fs[i]? = some f) (hu : P.underlying f.type = some d) (hd : Ax d = false) (hc : cs[f.offset]? = some v) :
  Yl P env (.field t x i) ty w v w := by
 show (execOp (ev env) _).run P w = _
 cases d <;> simp [Ax] at hd <;> simp [execOp, hx, Instr.field, run_underlying ht, hf, asAgg, part, isAgg, run_underlying hu, hc]
end
end Go.WG
namespace Go.WG
open Go.RowKit
section
variable {P : Program} {N : Nat} {Q : Exit → Env → World → Prop} {env : Env} {w w' : World}
theorem W.vG {c : Code} (M : Env → World → Prop) (h : W P N c (C0 M Q) env w) (k : ∀ env w, M env w → Q .normal env w) : W P N c Q env w :=
 W.mono h fun e env' w' hq => by cases e <;> first | exact k _ _ hq | exact hq
end
def vS {α β γ : Type} (o : Sum α β) (f : α → γ) (g : β → γ) : γ :=
 match o with
 | .inl a => f a
 | .inr b => g b
theorem wI {α β γ : Type} {a : α} {f : α → Option γ} {g : β → Option γ} {r : γ} (h : vS (Sum.inl a) f g = some r) : f a = some r := h
theorem wB {α β γ : Type} {b : β} {f : α → Option γ} {g : β → Option γ} {r : γ} (h : vS (Sum.inr b) f g = some r) : g b = some r := h
theorem yX {w w' : World} (h : ∃ n, w' = w.drewN n) (m : Nat) : ∃ n, w'.drewN m = w.drewN n := by
 obtain ⟨n, rfl⟩ := h
 exact ⟨n + m, by rw [World.drewN_drewN]⟩
section
variable {α : Type} {K : Kd α} {F p : CH} {A : Option Addr} {n c : Nat} {xs : List α} {v : Value}
theorem Row.sl (h : Row K F p (.slice A n c) xs) : Sl K F p A xs := by
 obtain ⟨A', c', e, _, _, hs⟩ := h.open_
 injection e with e1 _ _
 rw [e1]
 exact hs
theorem Row.rP (h : Row K F p (.slice A n c) xs) : xs.length ≤ c ∧ c ≤ maxLen ∧ n = xs.length := by
 obtain ⟨A', c', e, h1, h2, _⟩ := h.open_
 injection e with _ e2 e3
 rw [e3]
 exact ⟨h1, h2, e2⟩
end
section
variable {w0 w w' : World} {F0 F : CH} {D : Nat → Nat → Prop}
theorem Ctx.swap (ps1 ps2 : List CH) {a b : CH} (h : Ctx w0 F0 D w F (ps1 ++ a :: b :: ps2)) : Ctx w0 F0 D w F (ps1 ++ b :: a :: ps2) :=
 h.perm (List.Perm.append_left _ (List.Perm.swap _ _ _))
end
end Go.WG
namespace Go.WG
theorem wP {p : Prop} [Decidable p] (h : p) : (!decide p) = false := by rw [decide_eq_true h]; rfl
theorem wQ {p : Prop} [Decidable p] (h : ¬ p) : (!decide p) = true := by rw [decide_eq_false h]; rfl
end Go.WG
namespace Go.WG
theorem zP {b : Bool} (h : b = true) : (!b) = false := by rw [h]; rfl
theorem zO {b : Bool} (h : ¬ b = true) : (!b) = true := by rw [Bool.eq_false_iff.2 h]; rfl
end Go.WG
namespace Go.WG
open Go.RowKit
def TI (P : Program) (e : TypeId) (z : Value) (sz by_ : Nat) : Prop := (P.info? e).map (fun i => (i.zero, i.size, i.bytes)) = some (some z, sz, by_)
section
variable {P : Program} {e : TypeId} {z : Value} {sz by_ : Nat}
theorem TI.get (h : TI P e z sz by_) : ∃ i, P.info? e = some i ∧ i.zero = some z ∧ i.size = sz ∧ i.bytes = by_ := by
 obtain ⟨i, hi, he⟩ := Option.map_eq_some_iff.1 h
 simp only [Prod.mk.injEq] at he
 exact ⟨i, hi, he⟩
end
theorem Fq (off : Nat) : ∀ (us : List Value) (i : Nat) (a : List Value), off + i + us.length ≤ a.length →
  (us.zipIdx i).foldl (fun (cs : Array Value) (x : Value × Nat) => cs.setIfInBounds (off + x.2) x.1) a.toArray = (a.take (off + i) ++ us ++ a.drop (off + i + us.length)).toArray
 | [], i, a, h => by simp
 | u :: us, i, a, h => by
  have hk : off + i < a.length := by rw [List.length_cons] at h; omega
  rw [List.zipIdx_cons, List.foldl_cons]
  have e0 : a.toArray.setIfInBounds (off + i) u = (a.set (off + i) u).toArray := by simp
  simp only [e0]
  rw [Fq off us (i + 1) (a.set (off + i) u) (by rw [List.length_set]; rw [List.length_cons] at h; omega)]
  congr 1
  rw [← Nat.add_assoc, List.take_set, List.drop_set_of_lt (by omega), List.length_cons, List.take_succ_eq_append_getElem hk, List.set_append_right _ _ (by rw [List.length_take]; omega)]
  have : off + i - (a.take (off + i)).length = 0 := by rw [List.length_take]; omega
  rw [this]
  simp [Nat.add_comm 1 us.length, Nat.add_assoc]
theorem Hg (off : Nat) (us a : List Value) (h : off + us.length ≤ a.length) :
  us.toArray.zipIdx.foldl (fun (cs : Array Value) (x : Value × Nat) => cs.setIfInBounds (off + x.2) x.1) a.toArray = (a.take off ++ us ++ a.drop (off + us.length)).toArray := by
 have := Fq off us 0 a (by simpa using h)
 rw [← Array.foldl_toList]
 simpa using this
theorem CR (place : Nat → Option (Nat × Nat)) (i off : Nat) (v : Value) (rest : List (Nat × Value)) (us a : List Value) (hv : v.cells = us.toArray) (hp : place i = some (off, us.length)) (h : off + us.length ≤ a.length) :
  Instr.fill place a.toArray ((i, v) :: rest) = Instr.fill place (a.take off ++ us ++ a.drop (off + us.length)).toArray rest := by
 have hn : ¬ (off + us.length > a.length) := by omega
 simp only [Instr.fill, hp, hv, List.size_toArray]
 rw [if_neg (by simp; omega)]
 congr 1
 exact Hg off us a h
theorem EA (n : Nat) : ∀ (r c : Nat), c ≤ n + (n + 768) / 4 → Builtin.growBy n r c ≤ n + (n + 768) / 4
 | 0, c, h => h
 | r + 1, c, h => by
  unfold Builtin.growBy
  split
  ·exact h
  ·exact EA n r _ (by omega)
theorem BV {n c b : Nat} (hc : c < n) (h : (n + n / 4 + 192) * b ≤ 281474976710656) : ¬ (281474976710656 < Builtin.nextslicecap n c * b) := by
 have hle : Builtin.nextslicecap n c ≤ n + n / 4 + 192 := by
  unfold Builtin.nextslicecap
  split
  ·omega
  ·split
   ·omega
   ·have := EA n 4 c (by omega)
    omega
 have h2 := Nat.mul_le_mul_right b hle
 omega
theorem run_append_grow {P : Program} (w : World) (t ty e : TypeId) (i : TypeInfo) (z : Value) (ht : P.underlying t = some (.slice e)) (hi : P.info? e = some i) (hz : i.zero = some z) (A B : Option Addr) (n c m cb : Nat) (hroom : ¬ n + m ≤ c) (hlen : n + m ≤ 9223372036854775807)
  (hcap : ¬ (281474976710656 < Builtin.nextslicecap (n + m) c * i.bytes)) (old new : Array Value) (ho : (Builtin.firstCells i.size n (.slice A n c)).run P w.drew = .ok old w.drew) (hn : (Builtin.firstCells i.size m (.slice B m cb)).run P w.drew = .ok new w.drew) :
  (Builtin.append_ #[t, t] ty #[.slice A n c, .slice B m cb]).run P w = .ok (.slice (some ⟨w.heap.size, 0, none⟩) (n + m) (grownCap w (n + m) c e)) (w.drew.alloc (.cells (old ++ new ++ Builtin.zeroCells z.cells (grownCap w (n + m) c e - (n + m))) e)) := by
 have h63 : ¬ ((9223372036854775807 : Int) < (n : Int) + (m : Int)) := by omega
 simp [Builtin.append_, run_underlying ht, sizeOf, typeInfo, hi, Builtin.lenOf, hroom, hcap, zeroValue, hz, ho, hn, newRow, grownCap, Question.forced, IntKind.max, IntKind.bits, IntKind.signed, h63]
section
variable {P : Program} {w0 w : World} {F0 F : CH} {D : Nat → Nat → Prop} {ps ps1 ps2 : List CH}
theorem AK (g base : Nat) : ∀ (vs : List Value) (i : Nat) (w : World) (off k : Nat) (cs : List Value), Ctx w0 F0 D w F (ps1 ++ CH.row g off cs :: ps2) → base + i = off + k → k + vs.length ≤ cs.length → (∀ u ∈ vs, u.oneCell' = true) →
  ∃ w', (storeCells ⟨g, base, none⟩ vs i).run P w = .ok () w' ∧ Ctx w0 F0 D w' F (ps1 ++ CH.row g off (cs.take k ++ vs ++ cs.drop (k + vs.length)) :: ps2)
 | [], i, w, off, k, cs, C, hb, hk, _ => ⟨w, rfl, by simpa using C⟩
 | v :: vs, i, w, off, k, cs, C, hb, hk, h1 => by
  have hk' : k < cs.length := by rw [List.length_cons] at hk; omega
  have ho := Ctx.JH ps1 ps2 C g (off + k) (.v cs[k]) (by rw [CH.EU]; simp [hk'])
  have hoc := Bx.1 ho.1
  have C1 := Ctx.setRow ps1 ps2 k v hk' C
  have hv : v.oneCell' = true := h1 v (by simp)
  obtain ⟨w', hr, C2⟩ := AK g base vs (i + 1) (w.setCell ⟨g, off + k, none⟩ v) off (k + 1) (cs.set k v) C1 (by omega) (by rw [List.length_set]; rw [List.length_cons] at hk; omega) (fun u hu => h1 u (by simp [hu]))
  refine ⟨w', ?_, ?_⟩
  ·have hst : (store ((⟨g, base, none⟩ : Addr).add i) v).run P w = .ok () (w.setCell ⟨g, off + k, none⟩ v) := by
    rw [vL, hb, run_store P w _ v _ hv]
    simp [hoc, ho.2]
   simp [storeCells, hst, hr]
  ·have he : (cs.set k v).take (k + 1) ++ vs ++ (cs.set k v).drop (k + 1 + vs.length) = cs.take k ++ (v :: vs) ++ cs.drop (k + (v :: vs).length) := by
    rw [List.take_set, List.drop_set_of_lt (by omega), List.length_cons, List.take_succ_eq_append_getElem hk', List.set_append_right _ _ (by rw [List.length_take]; omega)]
    have : k - (cs.take k).length = 0 := by rw [List.length_take]; omega
    rw [this]
    simp [Nat.add_comm 1 vs.length, Nat.add_assoc]
   rw [he] at C2
   exact C2
theorem Row.fresh {α : Type} {K : Kd α} (xs : List α) (cs : List Value) (g cap : Nat) (hc : cs.length = cap * K.sz) (hn : xs.length ≤ cap) (hm : cap ≤ maxLen) (h1 : ∀ u ∈ cs, u.oneCell' = true) (he : Els K F xs cs) :
  Row K F (CH.row g 0 cs) (.slice (some ⟨g, 0, none⟩) xs.length cap) xs := .inr ⟨g, 0, cap, cs, rfl, hn, hm, rfl, hc, h1, he⟩
theorem Els.one {α : Type} {K : Kd α} {x : α} {cs : List Value} (h : K.rep F x cs) : Els K F [x] cs := by
 have hl := K.len h
 refine ⟨by simp [hl], fun j y hj => ?_⟩
 cases j with
 | zero =>
  simp at hj
  subst hj
  rw [Nat.zero_mul, List.drop_zero, List.take_of_length_le (by omega)]
  exact h
 | succ j => simp at hj
theorem Els.nil {α : Type} (K : Kd α) (F : CH) (cs : List Value) : Els K F [] cs := ⟨by simp, fun j y hj => by simp at hj⟩
theorem Els.cons {α : Type} {K : Kd α} {x : α} {xs : List α} {cs ds : List Value} (h : K.rep F x cs) (k : Els K F xs ds) : Els K F (x :: xs) (cs ++ ds) := by
 have := Els.append (xs := [x]) (ys := xs) (more := []) (Els.one h) (by simp [K.len h]) k
 simpa using this
theorem Ix (e : TypeId) {α : Type} (K : Kd α) {t : TypeId} {z : Value} {by_ : Nat} (C : Ctx w0 F0 D w F ps) (ht : P.underlying t = some (.slice e)) (hi : TI P e z K.sz by_) (hs : 0 < K.sz ∧ K.sz ≤ 16777216) (y : α) (v : Value) (hy : K.rep F y v.cells.toList) :
  ∃ A c p w', (∀ (env : Env) (x : Operand) (ty : TypeId), ev env x = v → Yl P env (.buildSlice t 1 #[(0, x)]) ty w (.slice A [y].length c) w') ∧ Ctx w0 F0 D w' F (p :: ps) ∧ Row K F p (.slice A [y].length c) [y] := by
 obtain ⟨i, hinf, hz0, hz1, hz2⟩ := hi.get
 have hl : v.cells.size = K.sz := by have := K.len hy; simpa using this
 refine ⟨some ⟨w.heap.size, 0, none⟩, 1, _, w.alloc (.cells v.cells e), fun env x ty hx => ?_, C.alloc v.cells e, ?_⟩
 ·show (execOp (ev env) _).run P w = _
  have hfill : Instr.fill (fun i => some (i * K.sz, K.sz)) ((Array.range K.sz).map (fun q => z.cells[q % z.cells.size]!)) [(0, v)] = some v.cells := by
   have ha : (Array.range K.sz).map (fun q => z.cells[q % z.cells.size]!) = ((Array.range K.sz).map (fun q => z.cells[q % z.cells.size]!)).toList.toArray := by simp only [Array.toArray_toList]
   have hal : ((Array.range K.sz).map (fun q => z.cells[q % z.cells.size]!)).toList.length = K.sz := by simp
   have hll : v.cells.toList.length = K.sz := by simpa using hl
   rw [ha, CR _ 0 0 v [] v.cells.toList _ (by simp) (by simp [hl]) (by omega)]
   simp only [Instr.fill]
   congr 1
   rw [List.take_zero, List.nil_append, List.drop_eq_nil_of_le (by omega), List.append_nil]
  have hne : ¬ (16777216 < K.sz) := by omega
  have hne2 : ¬ K.sz = 0 := by omega
  simp [execOp, hx, Instr.buildSlice, run_underlying ht, sizeOf, zeroValue, typeInfo, hinf, hz0, hz1, hne, hne2, hfill, newRow]
 ·exact Row.fresh [y] v.cells.toList w.heap.size 1 (by simpa using hl) (by simp) (by simp [maxLen]) (K.one hy) (Els.one hy)
def wF {β : Type} : Nat → List β → List (Nat × β)
 | _, [] => []
 | i, x :: xs => (i, x) :: wF (i + 1) xs
theorem CZ {β γ : Type} (f : β → γ) : ∀ (xs : List β) (i : Nat), (wF i xs).map (fun p => (p.1, f p.2)) = wF i (xs.map f)
 | [], _ => rfl
 | x :: xs, i => by simp [wF, CZ f xs (i + 1)]
theorem Jo {env : Env} {xs : List Operand} {vs : List Value} (h : Evs env xs vs) (i : Nat) : (wF i xs).map (fun p => (p.1, ev env p.2)) = wF i vs := by
 rw [CZ]
 congr 1
 induction h with
 | nil => rfl
 | cons h _ ih => rw [List.map_cons, h, ih]
inductive Dj {α : Type} (K : Kd α) (F : CH) : List α → List Value → Prop
 | nil : Dj K F [] []
 | cons {y : α} {v : Value} {ys : List α} {vs : List Value} (h : K.rep F y v.cells.toList) (t : Dj K F ys vs) : Dj K F (y :: ys) (v :: vs)
theorem Dj.len {α : Type} {K : Kd α} {ys : List α} {vs : List Value} (h : Dj K F ys vs) : ys.length = vs.length := by
 induction h with
 | nil => rfl
 | cons _ _ ih => simp [ih]
theorem Dj.els {α : Type} {K : Kd α} {ys : List α} {vs : List Value} (h : Dj K F ys vs) : Els K F ys (vs.flatMap (·.cells.toList)) ∧ (vs.flatMap (·.cells.toList)).length = ys.length * K.sz ∧ ∀ u ∈ vs.flatMap (·.cells.toList), u.oneCell' = true := by
 induction h with
 | nil => exact ⟨Els.nil _ _ _, by simp, fun u hu => by simp at hu⟩
 | cons h _ ih =>
  refine ⟨by rw [List.flatMap_cons]; exact Els.cons h ih.1, by rw [List.flatMap_cons, List.length_append, K.len h, ih.2.1, List.length_cons, Nat.add_mul, Nat.one_mul, Nat.add_comm], fun u hu => ?_⟩
  rw [List.flatMap_cons] at hu
  rcases List.mem_append.1 hu with hu | hu
  ·exact K.one h u hu
  ·exact ih.2.2 u hu
theorem DJ {α : Type} {K : Kd α} : ∀ {ys : List α} {vs : List Value}, Dj K F ys vs → ∀ (i : Nat) (a : List Value), (i + vs.length) * K.sz ≤ a.length →
  Instr.fill (fun i => some (i * K.sz, K.sz)) a.toArray (wF i vs) = some (a.take (i * K.sz) ++ vs.flatMap (·.cells.toList) ++ a.drop ((i + vs.length) * K.sz)).toArray := by
 intro ys vs h
 induction h with
 | nil => intro i a _; simp [wF, Instr.fill]
 | @cons y v ys vs h t ih =>
  intro i a ha
  have hl : v.cells.toList.length = K.sz := K.len h
  rw [List.length_cons] at ha
  have hle : i * K.sz + K.sz ≤ a.length := Nat.le_trans (by rw [← Nat.succ_mul]; exact Nat.mul_le_mul_right _ (by omega)) ha
  simp only [wF]
  rw [CR _ i (i * K.sz) v _ v.cells.toList a (by simp) (by simp [hl]) (by omega)]
  have hle2 : (i + 1 + vs.length) * K.sz ≤ a.length := by rw [show i + 1 + vs.length = i + (vs.length + 1) from by omega]; exact ha
  rw [ih (i + 1) _ (by simp only [List.length_append, List.length_take, List.length_drop, hl]; omega)]
  congr 2
  have e1 : (i + 1) * K.sz = i * K.sz + K.sz := Nat.succ_mul _ _
  have hlt : (a.take (i * K.sz) ++ v.cells.toList).length = (i + 1) * K.sz := by rw [List.length_append, List.length_take, hl, e1]; omega
  rw [← hlt, List.take_left, List.flatMap_cons, List.length_cons]
  have hge : (a.take (i * K.sz) ++ v.cells.toList).length ≤ (i + 1 + vs.length) * K.sz := by rw [hlt]; exact Nat.mul_le_mul_right _ (by omega)
  rw [List.drop_append, List.drop_eq_nil_of_le hge, List.nil_append, hlt, List.drop_drop, ← List.append_assoc, hl]
  congr 2
  rw [e1, show i + (vs.length + 1) = i + 1 + vs.length from by omega]
  have : (i + 1) * K.sz ≤ (i + 1 + vs.length) * K.sz := Nat.mul_le_mul_right _ (by omega)
  rw [e1] at this
  omega
theorem JG (e : TypeId) {α : Type} (K : Kd α) {t : TypeId} {z : Value} {by_ : Nat} (C : Ctx w0 F0 D w F ps) (ht : P.underlying t = some (.slice e)) (hi : TI P e z K.sz by_) (hs : 0 < K.sz) (ys : List α) (vs : List Value) (hy : Dj K F ys vs) (n : Nat) (hn : n = vs.length) (hpos : 0 < n) (hsm : n * K.sz ≤ 16777216) :
  ∃ A c p w', (∀ (env : Env) (xs : List Operand) (ty : TypeId), Evs env xs vs → Yl P env (.buildSlice t n (wF 0 xs).toArray) ty w (.slice A ys.length c) w') ∧ Ctx w0 F0 D w' F (p :: ps) ∧ Row K F p (.slice A ys.length c) ys := by
 obtain ⟨i, hinf, hz0, hz1, hz2⟩ := hi.get
 obtain ⟨h1, h2, h3⟩ := hy.els
 have hl := hy.len
 subst hn
 refine ⟨some ⟨w.heap.size, 0, none⟩, ys.length, _, w.alloc (.cells (vs.flatMap (·.cells.toList)).toArray e), fun env xs ty hx => ?_, C.alloc _ e, ?_⟩
 ·show (execOp (ev env) _).run P w = _
  have ha : (Array.range (vs.length * K.sz)).map (fun q => z.cells[q % z.cells.size]!) = ((Array.range (vs.length * K.sz)).map (fun q => z.cells[q % z.cells.size]!)).toList.toArray := by simp only [Array.toArray_toList]
  have hal : ((Array.range (vs.length * K.sz)).map (fun q => z.cells[q % z.cells.size]!)).toList.length = vs.length * K.sz := by simp
  have hfill : Instr.fill (fun i => some (i * K.sz, K.sz)) ((Array.range (vs.length * K.sz)).map (fun q => z.cells[q % z.cells.size]!)) (wF 0 vs) = some (vs.flatMap (·.cells.toList)).toArray := by
   rw [ha, DJ hy 0 _ (by rw [hal, Nat.zero_add]; exact Nat.le_refl _)]
   congr 2
   rw [Nat.zero_mul, List.take_zero, List.nil_append, List.drop_eq_nil_of_le (by rw [hal, Nat.zero_add]; exact Nat.le_refl _), List.append_nil]
  have hne : ¬ (16777216 < vs.length * K.sz) := by omega
  have hne2 : ¬ vs.length * K.sz = 0 := by have := Nat.mul_pos hpos hs; omega
  have hp := Jo hx 0
  have hparts : ((wF 0 xs).toArray.map fun (p : Nat × Operand) => (p.1, ev env p.2)) = (wF 0 vs).toArray := by rw [List.map_toArray, hp]
  simp [execOp, hp, Instr.buildSlice, run_underlying ht, sizeOf, zeroValue, typeInfo, hinf, hz0, hz1, hne, hne2, hfill, newRow, hl]
 ·exact Row.fresh ys _ w.heap.size ys.length (by simpa using h2) (Nat.le_refl _) (by simp only [maxLen]; have : vs.length * 1 ≤ vs.length * K.sz := Nat.mul_le_mul_left _ hs; omega) (by simpa using h3) (by simpa using h1)
theorem Io (e : TypeId) {α : Type} (K : Kd α) {t : TypeId} {z : Value} {by_ : Nat} (C : Ctx w0 F0 D w F ps) (ht : P.underlying t = some (.slice e)) (hi : TI P e z K.sz by_) (d : α) (hz : K.rep F d z.cells.toList) (hby : 0 < by_) (n : Int) (hn : 0 ≤ n ∧ n * by_ ≤ 140737488355328) :
  ∃ A c p w', (∀ (env : Env) (x y : Operand) (k k' : IntKind) (ty : TypeId), ev env x = .int k n → ev env y = .int k' n → Yl P env (.makeSlice t x y) ty w (.slice A (List.replicate n.toNat d).length c) w') ∧ Ctx w0 F0 D w' F (p :: ps) ∧ Row K F p (.slice A (List.replicate n.toNat d).length c) (List.replicate n.toNat d) := by
 obtain ⟨i, hinf, hz0, hz1, hz2⟩ := hi.get
 have hlen : z.cells.toList.length = K.sz := K.len hz
 have hnb : n ≤ 140737488355328 := by
  have : n * 1 ≤ n * by_ := Int.mul_le_mul_of_nonneg_left (by omega) hn.1
  omega
 have hcs : ∀ m, (madeCells z.cells (m * K.sz)).toList = (List.replicate m z.cells.toList).flatten := fun m => by
  apply List.ext_getElem?
  intro q
  by_cases hq : q < m * K.sz
  ·have h0 : 0 < K.sz := by
    rcases Nat.eq_zero_or_pos K.sz with h | h
    ·rw [h, Nat.mul_zero] at hq; omega
    ·exact h
   have hmod : q % K.sz < K.sz := Nat.mod_lt _ h0
   have hsz : z.cells.size = K.sz := by simpa using hlen
   have e1 : (madeCells z.cells (m * K.sz)).toList[q]? = some z.cells[q % K.sz]! := by
    simp [madeCells, hq, hsz]
   rw [e1]
   have e2 : ((List.replicate m z.cells.toList).flatten)[q]? = z.cells.toList[q % K.sz]? := by
    rw [← hlen]
    rw [← hlen] at hq h0
    clear e1 hmod
    induction m generalizing q with
    | zero => rw [Nat.zero_mul] at hq; omega
    | succ m ih =>
     rw [List.replicate_succ, List.flatten_cons]
     by_cases hlt : q < z.cells.toList.length
     ·rw [List.getElem?_append_left hlt, Nat.mod_eq_of_lt hlt]
     ·have e3 : (m + 1) * z.cells.toList.length = m * z.cells.toList.length + z.cells.toList.length := Nat.succ_mul _ _
      rw [List.getElem?_append_right (by omega), ih (q - z.cells.toList.length) (by omega)]
      congr 1
      exact (Nat.mod_eq_sub_mod (by omega)).symm
   rw [e2, List.getElem?_eq_getElem (by omega)]
   congr 1
   simp [hsz, hmod]
  ·rw [List.getElem?_eq_none (by simp [madeCells]; omega), List.getElem?_eq_none (by simp [hlen]; omega)]
 have hels : ∀ m, Els K F (List.replicate m d) ((List.replicate m z.cells.toList).flatten) := fun m => by
  induction m with
  | zero => exact Els.nil _ _ _
  | succ m ih => rw [List.replicate_succ, List.replicate_succ, List.flatten_cons]; exact Els.cons hz ih
 refine ⟨some ⟨w.heap.size, 0, none⟩, n.toNat, _, w.alloc (.cells (madeCells z.cells (n.toNat * i.size)) e), fun env x y k k' ty hx hy => ?_, C.alloc _ e, ?_⟩
 ·show (execOp (ev env) _).run P w = _
  have := run_make (P := P) w t e i z ht hinf hz0 k k' n n hn.1 (by omega) (by rw [hz2, Int.mul_comm]; omega) (by omega)
  simp [execOp, hx, hy, this]
 ·rw [hz1, hcs]
  exact Row.fresh (List.replicate n.toNat d) _ w.heap.size n.toNat (by simp [hlen]) (by simp) (by simp only [maxLen]; omega) (fun u hu => by
   simp only [List.mem_flatten] at hu
   obtain ⟨l, hl, hu⟩ := hu
   rw [(List.mem_replicate.1 hl).2] at hu
   exact K.one hz u hu) (hels _)
theorem G6 (e : TypeId) {α : Type} (K : Kd α) {p h : CH} {A B : Option Addr} {c cb : Nat} {xs ys : List α} {t : TypeId} {z : Value} {by_ : Nat} (ps1 ps2 : List CH) (C : Ctx w0 F0 D w F (ps1 ++ p :: ps2)) (hR : Row K F p (.slice A xs.length c) xs)
  (hS : Sl K F h B ys) (hsub : Sub h w) (ht : P.underlying t = some (.slice e)) (hi : TI P e z K.sz by_) (hz : z.cells.size = K.sz) (hz1 : ∀ u ∈ z.cells.toList, u.oneCell' = true) (hs : 0 < K.sz) (hby : 0 < by_) (hlim : (xs.length + ys.length + (xs.length + ys.length) / 4 + 192) * by_ ≤ 281474976710656) :
  ∃ A' c' p' w', (∀ (env : Env) (s x : Operand) (ty : TypeId), ev env s = .slice A xs.length c → ev env x = .slice B ys.length cb → Yl P env (.call { callee := .builtin .append, args := #[s, x], argTypes := #[t, t] }) ty w (.slice A' (xs ++ ys).length c') w') ∧
   Ctx w0 F0 D w' F (ps1 ++ p' :: ps2) ∧ Row K F p' (.slice A' (xs ++ ys).length c') (xs ++ ys) := by
 obtain ⟨i, hinf, hz0, hi1, hi2⟩ := hi.get
 have hlen : xs.length + ys.length ≤ 281474976710656 := Nat.le_trans (by omega) (Nat.le_trans (Nat.le_mul_of_pos_right _ hby) hlim)
 -- the cells that come
 have hnew : ∃ cs : List Value, cs.length = ys.length * K.sz ∧ Els K F ys cs ∧ (∀ u ∈ cs, u.oneCell' = true) ∧ ∀ cap, (Builtin.firstCells K.sz ys.length (.slice B ys.length cap)).run P w = .ok cs.toArray w ∧ (Builtin.firstCells K.sz ys.length (.slice B ys.length cap)).run P w.drew = .ok cs.toArray w.drew := by
  by_cases hp : 0 < ys.length
  ·obtain ⟨b, off, rfl, hx⟩ := hS hp
   have hg : ∀ (zs : List α) (k : Nat), (∀ j x, zs[j]? = some x → ys[k + j]? = some x) → ∃ cs : List Value, cs.length = zs.length * K.sz ∧ Els K F zs cs ∧ (∀ u ∈ cs, u.oneCell' = true) ∧ ∀ j u, cs[j]? = some u → h b (off + k * K.sz + j) = some (.v u) := by
    intro zs
    induction zs with
    | nil => intro k _; exact ⟨[], by simp, Els.nil _ _ _, by simp, by simp⟩
    | cons x zs ih =>
     intro k hk
     obtain ⟨cs, hr, hc⟩ := hx k x (by simpa using hk 0 x (by simp))
     obtain ⟨ds, h1, h2, h3, h4⟩ := ih (k + 1) (fun j y hj => by have := hk (j + 1) y (by simpa using hj); rwa [show k + (j + 1) = k + 1 + j from by omega] at this)
     have hl := K.len hr
     refine ⟨cs ++ ds, by rw [List.length_append, hl, h1, List.length_cons, Nat.add_mul, Nat.one_mul, Nat.add_comm], Els.cons hr h2, fun u hu => ?_, fun j u hu => ?_⟩
     ·rcases List.mem_append.1 hu with hu | hu
      ·exact K.one hr u hu
      ·exact h3 u hu
     ·rw [List.getElem?_append] at hu
      split at hu
      ·exact hc j u hu
      ·rename_i hge
       have := h4 _ u hu
       rwa [Nat.add_mul, Nat.one_mul, hl, show off + (k * K.sz + K.sz) + (j - K.sz) = off + k * K.sz + j from by omega] at this
   obtain ⟨cs, h1, h2, h3, h4⟩ := hg ys 0 (fun j x hj => by rwa [Nat.zero_add])
   have hcell : ∀ j u, cs[j]? = some u → w.cell? ((⟨b, off, none⟩ : Addr).add j) = some u := fun j u hu => by
    rw [vL]
    have := h4 j u hu
    rw [Nat.zero_mul, Nat.add_zero] at this
    exact hsub.cell this
   exact ⟨cs, h1, h2, h3, fun cap => ⟨run_firstCells_some w K.sz ys.length _ _ cap cs h1 hcell, run_firstCells_some w.drew K.sz ys.length _ _ cap cs h1 hcell⟩⟩
  ·have h0 : ys = [] := List.eq_nil_of_length_eq_zero (by omega)
   subst h0
   refine ⟨[], by simp, Els.nil _ _ _, by simp, fun cap => ?_⟩
   cases B with
   | none => exact ⟨rfl, rfl⟩
   | some a => exact ⟨run_firstCells_some w K.sz 0 a 0 cap [] (by simp) (by simp), run_firstCells_some w.drew K.sz 0 a 0 cap [] (by simp) (by simp)⟩
 obtain ⟨cs, hcl, hce, hc1, hcr⟩ := hnew
 -- room, or a new row
 have grow : ∀ (old : List Value), old.length = xs.length * K.sz → Els K F xs old → (∀ u ∈ old, u.oneCell' = true) → ¬ (xs.length + ys.length ≤ c) → (Builtin.firstCells K.sz xs.length (.slice A xs.length c)).run P w.drew = .ok old.toArray w.drew → (Builtin.firstCells K.sz ys.length (.slice B ys.length cb)).run P w.drew = .ok cs.toArray w.drew →
   ∃ A' c' p' w', (∀ (env : Env) (s x : Operand) (ty : TypeId), ev env s = .slice A xs.length c → ev env x = .slice B ys.length cb → Yl P env (.call { callee := .builtin .append, args := #[s, x], argTypes := #[t, t] }) ty w (.slice A' (xs ++ ys).length c') w') ∧
   Ctx w0 F0 D w' F (ps1 ++ p' :: ps2) ∧ Row K F p' (.slice A' (xs ++ ys).length c') (xs ++ ys) := by
  intro old hol hoe ho1 hroom hof hcf
  have hge := grownCap_ge w (xs.length + ys.length) c e
  have hcm := grownCap_le_maxLen w (xs.length + ys.length) c e (by simp only [maxLen]; omega)
  have hcells : (old.toArray ++ cs.toArray ++ Builtin.zeroCells z.cells (grownCap w (xs.length + ys.length) c e - (xs.length + ys.length))).toList = old ++ cs ++ (Builtin.zeroCells z.cells (grownCap w (xs.length + ys.length) c e - (xs.length + ys.length))).toList := by simp
  have C1 := ((Ctx.drop ps1 ps2 C).drewN 1).alloc (old.toArray ++ cs.toArray ++ Builtin.zeroCells z.cells (grownCap w (xs.length + ys.length) c e - (xs.length + ys.length))) e
  refine ⟨some ⟨w.heap.size, 0, none⟩, grownCap w (xs.length + ys.length) c e, _, _, fun env s x ty hs' hx' => ?_, C1.perm (List.perm_middle.symm), ?_⟩
  ·show (execOp (ev env) _).run P w = _
   have hsmall : ¬ ((9223372036854775807 : Int) < (xs.length : Int) + (ys.length : Int)) := by omega
   have hbig := BV (n := xs.length + ys.length) (c := c) (b := by_) (by omega) hlim
   have hzc : (Builtin.zeroCells z.cells (grownCap w (xs.length + ys.length) c e - (xs.length + ys.length))) = (Builtin.zeroCells z.cells (grownCap w (xs.length + ys.length) c e - (xs.length + ys.length))) := rfl
   have hrun := run_append_grow (P := P) w t ty e i z ht hinf hz0 A B xs.length c ys.length cb (by omega) (by omega) (by rw [hi2]; exact hbig) old.toArray cs.toArray (by rw [hi1]; exact hof) (by rw [hi1]; exact hcf)
   simp [execOp, resolve, invoke, builtin, hs', hx', hrun]
   rfl
  ·rw [hcells]
   refine Row.fresh (xs ++ ys) _ w.heap.size _ ?_ (by rw [List.length_append]; exact hge) hcm (fun u hu => ?_) (Els.append hoe hol hce)
   ·simp only [List.length_append, hol, hcl, Array.length_toList, Builtin.zeroCells, Array.size_map, Array.size_range, hz]
    rw [← Nat.add_mul, ← Nat.add_mul]
    congr 1
    omega
   ·rcases List.mem_append.1 hu with hu | hu
    ·rcases List.mem_append.1 hu with hu | hu
     ·exact ho1 u hu
     ·exact hc1 u hu
    ·simp only [Builtin.zeroCells, Array.toList_map, List.mem_map] at hu
     obtain ⟨q, _, rfl⟩ := hu
     have hlt : q % z.cells.size < z.cells.size := Nat.mod_lt _ (by omega)
     rw [getElem!_pos z.cells _ hlt]
     exact hz1 _ (by simp)
 rcases hR with ⟨hv, rfl, rfl⟩ | ⟨g, off, cap, cur, hv, h2, h3, rfl, h5, h6, h7⟩
 ·injection hv with hv1 _ hv3
  subst hv1; subst hv3
  by_cases hp : ys.length = 0
  ·have h0 : ys = [] := List.eq_nil_of_length_eq_zero hp
   subst h0
   refine ⟨none, 0, CH.emp, w, fun env s x ty hs' hx' => ?_, C, .inl ⟨rfl, rfl, rfl⟩⟩
   show (execOp (ev env) _).run P w = _
   have := (hcr cb).1
   have hcs0 : cs = [] := List.eq_nil_of_length_eq_zero (by simpa using hcl)
   rw [hcs0] at this
   simp [execOp, resolve, invoke, builtin, hs', hx', Builtin.append_, run_underlying ht, sizeOf, typeInfo, hinf, hi1, Builtin.lenOf]
   simp at this
   simp [this]
  ·exact grow [] (by simp) (Els.nil _ _ _) (by simp) (by simp only [List.length_nil, Nat.zero_add]; omega) rfl (hcr cb).2
 ·injection hv with hv1 _ hv3
  subst hv1; subst hv3
  by_cases hroom : xs.length + ys.length ≤ c
  ·have hk : xs.length * K.sz + cs.length ≤ cur.length := by rw [hcl, ← Nat.add_mul, h5]; exact Nat.mul_le_mul_right _ hroom
   obtain ⟨w', hst, C'⟩ := AK (P := P) g (off + xs.length * K.sz) cs 0 w off (xs.length * K.sz) cur C (by omega) hk hc1
   refine ⟨some ⟨g, off, none⟩, c, _, w', fun env s x ty hs' hx' => ?_, C', .inr ⟨g, off, c, _, rfl, by rw [List.length_append]; exact hroom, h3, rfl, ?_, fun u hu => ?_, ?_⟩⟩
   ·show (execOp (ev env) _).run P w = _
    simp [execOp, resolve, invoke, builtin, hs', hx', Builtin.append_, run_underlying ht, sizeOf, typeInfo, hinf, hi1, Builtin.lenOf, hroom, (hcr cb).1, vL, hst]
   ·simp only [List.length_append, List.length_take, List.length_drop]; omega
   ·rcases List.mem_append.1 hu with hu | hu
    ·rcases List.mem_append.1 hu with hu | hu
     ·exact h6 u (List.mem_of_mem_take hu)
     ·exact hc1 u hu
    ·exact h6 u (List.mem_of_mem_drop hu)
   ·exact Els.append h7.cut (by rw [List.length_take]; omega) hce
  ·have hp : 0 < xs.length ∨ xs.length = 0 := by omega
   have hof : (Builtin.firstCells K.sz xs.length (.slice (some ⟨g, off, none⟩) xs.length c)).run P w.drew = .ok (cur.take (xs.length * K.sz)).toArray w.drew := by
    refine run_firstCells_some w.drew K.sz xs.length _ _ c _ (by rw [List.length_take]; have := h7.1; omega) fun j u hu => ?_
    rw [vL]
    rw [List.getElem?_take] at hu
    split at hu
    ·exact (Ctx.EZ ps1 ps2 C).cell (CH.yU hu)
    ·cases hu
   exact grow _ (by rw [List.length_take]; have := h7.1; omega) h7.cut (fun u hu => h6 u (List.mem_of_mem_take hu)) hroom hof (hcr cb).2
theorem GR (cur us : List Value) (a sz o : Nat) (h : a + sz ≤ cur.length) (ho : o + us.length ≤ sz) :
  cur.take a ++ (((cur.drop a).take sz).take o ++ us ++ ((cur.drop a).take sz).drop (o + us.length)) ++ cur.drop (a + sz) = cur.take (a + o) ++ us ++ cur.drop (a + o + us.length) := by
 apply List.ext_getElem?
 intro i
 simp only [List.getElem?_append, List.length_append, List.length_take, List.length_drop, List.getElem?_take, List.getElem?_drop]
 repeat' split
 all_goals first
  | omega
  | rfl
  | (congr 1; omega)
theorem zD {α : Type} (K : Kd α) {p : CH} {A : Option Addr} {n c b off : Nat} {xs : List α} {t : TypeId} (ps1 ps2 : List CH) (C : Ctx w0 F0 D w F (ps1 ++ p :: ps2)) (hR : Row K F p (.slice A n c) xs) (hA : A = some ⟨b, off, none⟩) (j o : Nat) (hj : j < xs.length) (d : α) (v : Value) (us : List Value) (hv : v.cells = us.toArray)
  (hu1 : ∀ u ∈ us, u.oneCell' = true) (ho : o + us.length ≤ K.sz) (hs : (P.info? t).map (·.size) = some us.length) (y : α) (hy : ∀ cs, K.rep F (xs.getD j d) cs → K.rep F y (cs.take o ++ us ++ cs.drop (o + us.length))) (ad : Addr) (had : ad = ⟨b, off + j * K.sz + o, none⟩) :
  ∃ p' w', (∀ (env : Env) (a x : Operand) (ty : TypeId), ev env a = .pointer (some ad) → ev env x = v → BR P env (.store t a x) ty w w') ∧ Ctx w0 F0 D w' F (ps1 ++ p' :: ps2) ∧ Row K F p' (.slice A n c) (xs.set j y) := by
 obtain ⟨inf, hinf, hsz⟩ := Option.map_eq_some_iff.1 hs
 subst had
 rcases hR with ⟨_, rfl, _⟩ | ⟨g, Ga, cap, cur, hv1, h2, h3, rfl, h5, h6, h7⟩
 ·simp at hj
 ·injection hv1 with e1 e2 e3
  subst e2; subst e3
  rw [hA] at e1
  injection e1 with e1
  injection e1 with e1 e4
  subst e1; subst e4
  have hle : j * K.sz + K.sz ≤ cur.length := by rw [h5, ← Nat.succ_mul]; exact Nat.mul_le_mul_right _ (by omega)
  obtain ⟨w', hst, C'⟩ := AK (P := P) b (off + j * K.sz + o) us 0 w off (j * K.sz + o) cur C (by omega) (by omega) hu1
  refine ⟨_, w', fun env a x ty ha hx => ?_, C', .inr ⟨b, off, c, _, by rw [hA, List.length_set], by rw [List.length_set]; exact h2, h3, rfl, ?_, fun u hu => ?_, ?_⟩⟩
  ·show (execOp (ev env) _).run P w = _
   simp [execOp, ha, hx, Instr.storeAt, Instr.sureAddr, storeVar, hv, sizeOf, typeInfo, hinf, hsz, hst]
  ·simp only [List.length_append, List.length_take, List.length_drop]; omega
  ·rcases List.mem_append.1 hu with hu | hu
   ·rcases List.mem_append.1 hu with hu | hu
    ·exact h6 u (List.mem_of_mem_take hu)
    ·exact hu1 u hu
   ·exact h6 u (List.mem_of_mem_drop hu)
  ·have hold : xs[j]? = some (xs.getD j d) := getD_some hj
   have := Els.set h7 j y (hy _ (h7.2 j _ hold)) hj
   rwa [GR cur us (j * K.sz) K.sz o hle ho] at this
end
section
variable {P : Program} {env : Env} {w : World} {ty t : TypeId}
theorem Yl.build {fs : Array Field} {z : Value} {places : List (Nat × Nat)} {xs : List (Nat × Operand)} {vs : List (Nat × Value)} {cs : Array Value} (ht : P.underlying t = some (.struct fs)) (hz : (P.info? t).map (·.zero) = some (some z))
  (hpl : fs.toList.map (fun f => (P.info? f.type).map (fun i => (f.offset, i.size))) = places.map some) (hx : xs.map (fun p => (p.1, ev env p.2)) = vs) (hf : Instr.fill (fun i => places[i]?) z.cells vs = some cs) :
  Yl P env (.build t xs.toArray) ty w (.agg cs) w := by
 obtain ⟨inf, hi, hz'⟩ := Option.map_eq_some_iff.1 hz
 have hm : ∀ (l : List Field) (pl : List (Nat × Nat)), l.map (fun f => (P.info? f.type).map (fun i => (f.offset, i.size))) = pl.map some → (l.mapM (m := Sem) fun f => Prod.mk f.offset <$> sizeOf f.type).run P w = .ok pl w := by
  intro l
  induction l with
  | nil => intro pl h; cases pl <;> simp_all
  | cons f l ih =>
   intro pl h
   cases pl with
   | nil => simp at h
   | cons q pl =>
    simp only [List.map_cons, List.cons.injEq] at h
    obtain ⟨inf', hi', he⟩ := Option.map_eq_some_iff.1 h.1
    have hf : (sizeOf f.type).run P w = .ok inf'.size w := by simp [sizeOf, typeInfo, hi']
    have h2 := ih pl h.2
    rw [List.mapM_cons]
    simp [hf, h2, ← he]
 have hmA : (fs.mapM (m := Sem) fun f => Prod.mk f.offset <$> sizeOf f.type).run P w = .ok places.toArray w := by
  have h2 := hm fs.toList places hpl
  rw [Array.mapM_eq_mapM_toList]
  simp [h2]
 show (execOp (ev env) _).run P w = _
 have hx2 : List.map (fun (p : Nat × Operand) => (p.fst, ev env p.snd)) xs = vs := hx
 simp [execOp, Instr.build, zeroValue, typeInfo, hi, hz', run_underlying ht, hmA, hx2, hf]
end
end Go.WG
namespace Go.WG
inductive BEv (env : Env) : List (Nat × Operand) → List (Nat × Value) → Prop
 | nil : BEv env [] []
 | cons {i : Nat} {x : Operand} {v : Value} {xs : List (Nat × Operand)} {vs : List (Nat × Value)} (h : ev env x = v) (t : BEv env xs vs) : BEv env ((i, x) :: xs) ((i, v) :: vs)
theorem uV {env : Env} {xs : List (Nat × Operand)} {vs : List (Nat × Value)} (h : BEv env xs vs) : xs.map (fun p => (p.1, ev env p.2)) = vs := by
 induction h with
 | nil => rfl
 | cons h _ ih => rw [List.map_cons, ih, h]
theorem Ah {α : Type} {K : Kd α} {F : CH} {x y : α} {cs us : List Value} (h : K.rep F x cs) (hy : K.rep F y us) : K.rep F y (cs.take 0 ++ us ++ cs.drop (0 + us.length)) := by
 have h1 := K.len h
 have h2 := K.len hy
 rw [List.take_zero, List.nil_append, List.drop_eq_nil_of_le (by omega), List.append_nil]
 exact hy
end Go.WG
namespace Go.WG
open Go.RowKit
theorem CH.HT {a b c : CH} (h : CH.dis b c) (hl : CH.le a b) : CH.dis a c := fun g o => by
 rcases h g o with h0 | h0
 ·left
  cases hv : a g o with
  | none => rfl
  | some v => rw [hl g o v hv] at h0; cases h0
 ·exact .inr h0
section
variable {w0 w w' : World} {F0 F G G' : CH} {D D' : Nat → Nat → Prop} {ps qs qs' rest : List CH}
theorem Ctx.Ea (k : Ctx w G D w' G' qs) (hl : CH.le F G) : Ctx w F D w' F qs :=
 ⟨k.mod, CH.le_refl _, k.fro.mono (CH.le_trans hl k.le), fun _ _ hn => .inl hn, fun p hp => ⟨(k.own p hp).1, CH.HT (k.own p hp).2.1 (CH.le_trans hl k.le), (k.own p hp).2.2⟩, k.pair⟩
theorem Ctx.lower (h : Ctx w0 F0 D w F ps) (h0 : CH.le F0 G) (hl : CH.le G F) : Ctx w0 F0 D w G ps :=
 ⟨h.mod, h0, h.fro.mono hl, fun g o hn => h.dom g o (fun h1 => by
  cases hv : G g o with
  | none => exact hn hv
  | some v => rw [hl g o v hv] at h1; cases h1), fun p hp => ⟨(h.own p hp).1, CH.HT (h.own p hp).2.1 hl, (h.own p hp).2.2⟩, h.pair⟩
theorem Ctx.J8 (h : Ctx w0 F0 D w F (qs ++ rest)) (hl : CH.le F G) (k : Ctx w G (sR qs) w' G' qs') : Ctx w0 F0 D w' F (qs' ++ rest) := h.call (k.Ea hl)
end
section
variable {P : Program} {w0 w : World} {F0 F : CH} {D : Nat → Nat → Prop} {ps ps1 ps2 : List CH}
theorem sU {e : TypeId} {z : Value} (cs : List Value) (C : Ctx w0 F0 D w F ps) (hz : (P.info? e).map (·.zero) = some (some z)) (hc : z.cells = cs.toArray) :
  ∃ g w', (∀ (env : Env) (ty : TypeId), Yl P env (.alloc e) ty w (.pointer (some ⟨g, 0, none⟩)) w') ∧ Ctx w0 F0 D w' F (CH.row g 0 cs :: ps) := by
 obtain ⟨inf, hi, hz'⟩ := Option.map_eq_some_iff.1 hz
 refine ⟨w.heap.size, w.alloc (.cells cs.toArray e), fun env ty => ?_, by simpa using C.alloc cs.toArray e⟩
 show (execOp (ev env) _).run P w = _
 simp [execOp, Instr.alloc, zeroValue, typeInfo, hi, hz', newVar, newRow, hc]
theorem ER {t : TypeId} {g off o : Nat} (cs a us b vs : List Value) (v : Value) (C : Ctx w0 F0 D w F (ps1 ++ CH.row g off cs :: ps2)) (hcs : cs = a ++ us ++ b) (ho : a.length = o) (hl : us.length = vs.length) (hv : v.cells = vs.toArray) (h1 : ∀ u ∈ vs, u.oneCell' = true) (hs : (P.info? t).map (·.size) = some vs.length) :
  ∃ w', (∀ (env : Env) (x y : Operand) (ty : TypeId), ev env x = .pointer (some ⟨g, off + o, none⟩) → ev env y = v → BR P env (.store t x y) ty w w') ∧ Ctx w0 F0 D w' F (ps1 ++ CH.row g off (a ++ vs ++ b) :: ps2) := by
 obtain ⟨inf, hinf, hsz⟩ := Option.map_eq_some_iff.1 hs
 subst hcs
 obtain ⟨w', hst, C'⟩ := AK (P := P) g (off + o) vs 0 w off o (a ++ us ++ b) C (by omega) (by simp only [List.length_append]; omega) h1
 refine ⟨w', fun env x y ty hx hy => ?_, ?_⟩
 ·show (execOp (ev env) _).run P w = _
  simp [execOp, hx, hy, Instr.storeAt, Instr.sureAddr, storeVar, hv, sizeOf, typeInfo, hinf, hsz, hst]
 ·have h1 : (a ++ us ++ b).take o = a := by rw [List.append_assoc, ← ho, List.take_left]
  have h2 : (a ++ us ++ b).drop (o + vs.length) = b := by
   have : o + vs.length = (a ++ us).length := by rw [List.length_append]; omega
   rw [this, List.drop_left]
  rw [h1, h2] at C'
  exact C'
end
section
variable {P : Program} {env : Env} {w w' : World} {ty t u : TypeId} {x y : Operand} {v : Value}
theorem Yl.Bw {A : Option Addr} {l q : Nat} {e : TypeId} {n : Int} (hx : ev env x = .slice A l q) (ht : P.underlying t = some (.slice e)) (hn : (l : Int) = n) : Yl P env (.call { callee := .builtin .len, args := #[x], argTypes := #[t] }) ty w (.int .i64 n) w := hn ▸ Yl.len hx ht
theorem Yl.Ad {d : TypeDesc} {g off o : Nat} {cs : List Value} (hx : ev env x = .pointer (some ⟨g, off + o, none⟩)) (hu : P.underlying t = some d) (hd : Ax d = false) (hs : Sub (CH.row g off cs) w) (hc : cs[o]? = some v) : Yl P env (.load t x) ty w v w :=
 Yl.load hx hu hd (hs.cell (CH.yU hc))
theorem Yl.xD {d : TypeDesc} {g off o : Nat} {cs us : List Value} (hx : ev env x = .pointer (some ⟨g, off + o, none⟩)) (hu : P.underlying t = some d) (hd : Ax d = true) (hsz : (P.info? t).map (·.size) = some us.length) (hs : Sub (CH.row g off cs) w) (hc : (cs.drop o).take us.length = us) : Yl P env (.load t x) ty w (.agg us.toArray) w :=
 Yl.wC hx hu hd hsz fun j v hj => by
  rw [vL, Nat.add_assoc]
  refine hs.cell (CH.yU ?_)
  rw [← hc, List.getElem?_take] at hj
  split at hj
  ·rwa [List.getElem?_drop] at hj
  ·cases hj
theorem Yl.E3 {d : TypeDesc} (hx : ev env x = v) (hu : P.underlying t = some d) (hd : (match d with | .interface _ => true | _ => false) = false) : Yl P env (.makeInterface t x) ty w (.iface t v) w := by
 show (execOp (ev env) _).run P w = _
 cases d <;> simp at hd <;> simp [execOp, hx, Instr.makeInterface, run_underlying hu]
theorem Yl.IV {d : TypeDesc} {xt : TypeId} (hx : ev env x = .iface t v) (hu : P.underlying t = some d) (hd : (match d with | .interface _ => true | _ => false) = false) : Yl P env (.typeAssert x xt t false) ty w v w := by
 show (execOp (ev env) _).run P w = _
 cases d <;> simp at hd <;> simp [execOp, hx, Instr.typeAssert, run_underlying hu]
theorem Fg {ts : Array TypeId} {a : Addr} {s m : ByteArray} : (Builtin.ssaWrapNilChk_ ts ty #[.pointer (some a), .string s, .string m]).run P w = .ok (.pointer (some a)) w := rfl
theorem GJ {name : String} {f : FuncId} {fn : Func} {as : Array Operand} {ts : Array TypeId} {recv : Value} (hx : ev env x = .iface t v) (hmeth : (method (P.types.size + Made.depth) t v name).run P w = .ok (f, recv) w)
  (hf : P.funcs[f]? = some fn) (hn : ¬ fn.name = "runtime.NumGoroutine") (hb : ¬ fn.body = none) :
  (execOp (ev env) ⟨none, .call { callee := .invoke x name, args := as, argTypes := ts }, ty, "", #[], none⟩).run P w = .ok (.enter f (#[recv] ++ as.map (ev env))) w := by
 have h0 : (#[Value.iface t v] ++ as.map (ev env))[0]? = some (.iface t v) := by
  rw [Array.getElem?_append_left (by simp)]
  rfl
 have h1 : (#[Value.iface t v] ++ as.map (ev env)).extract 1 (#[Value.iface t v] ++ as.map (ev env)).size = as.map (ev env) := by simp
 have h2 : (callMethod (.iface t v) name (as.map (ev env))).run P w = .ok (.enter f (#[recv] ++ as.map (ev env))) w := by
  simp [callMethod, hmeth, callFunc, hf, hn, hb]
 have h3 : (invoke (.fn (.method name) #[]) (#[Value.iface t v] ++ as.map (ev env))).run P w = .ok (.enter f (#[recv] ++ as.map (ev env))) w := by
  unfold invoke
  simp only [h0, h1, h2]
 simp only [execOp, resolve, hx]
 exact h3
theorem vD.inv {name : String} {f : FuncId} {fn : Func} {as : Array Operand} {ts : Array TypeId} {args : Array Value} (hx : ev env x = .iface t v)
  (hm : ((P.info? t).bind (fun i => i.methods.find? (·.name == name))).map (fun m => (m.path, m.func)) = some (#[], some (f, true))) (ht : P.underlying t = some (.pointer u))
  (hf : P.funcs[f]? = some fn) (hn : (fn.name == "runtime.NumGoroutine") = false) (hb : fn.body.isSome = true) (ha : as.map (ev env) = args) :
  vD P env (.call { callee := .invoke x name, args := as, argTypes := ts }) ty w f (#[v] ++ args) := by
 subst ha
 obtain ⟨m, hm1, hm2⟩ := Option.map_eq_some_iff.1 hm
 obtain ⟨i, hi, hm1⟩ := Option.bind_eq_some_iff.1 hm1
 injection hm2 with hp hfn
 show (execOp (ev env) _).run P w = _
 have hb' : ¬ fn.body = none := by cases h : fn.body <;> simp_all
 have hn' : ¬ fn.name = "runtime.NumGoroutine" := by simpa using hn
 have hmeth : ∀ k, (method (k + 1) t v name).run P w = .ok (f, v) w := fun k => by
  simp [method, typeInfo, hi, hm1, hp, hfn, follow, receiverAt, run_underlying ht, Place.get]
 exact GJ hx (hmeth _) hf hn' hb'
theorem vD.GY {name : String} {f : FuncId} {fn : Func} {as : Array Operand} {ts : Array TypeId} {args : Array Value} {ad : Addr} (hx : ev env x = .iface t (.pointer (some ad)))
  (hm : ((P.info? t).bind (fun i => i.methods.find? (·.name == name))).map (fun m => (m.path, m.func)) = some (#[], some (f, false))) (ht : P.underlying t = some (.pointer u)) (hl : (loadVar u ad).run P w = .ok v w)
  (hf : P.funcs[f]? = some fn) (hn : (fn.name == "runtime.NumGoroutine") = false) (hb : fn.body.isSome = true) (ha : as.map (ev env) = args) :
  vD P env (.call { callee := .invoke x name, args := as, argTypes := ts }) ty w f (#[v] ++ args) := by
 subst ha
 obtain ⟨m, hm1, hm2⟩ := Option.map_eq_some_iff.1 hm
 obtain ⟨i, hi, hm1⟩ := Option.bind_eq_some_iff.1 hm1
 injection hm2 with hp hfn
 show (execOp (ev env) _).run P w = _
 have hb' : ¬ fn.body = none := by cases h : fn.body <;> simp_all
 have hn' : ¬ fn.name = "runtime.NumGoroutine" := by simpa using hn
 have hmeth : ∀ k, (method (k + 1) t (.pointer (some ad)) name).run P w = .ok (f, v) w := fun k => by
  simp [method, typeInfo, hi, hm1, hp, hfn, follow, receiverAt, run_underlying ht, Place.get, Fg, strVal, asAddr, hl]
 exact GJ hx (hmeth _) hf hn' hb'
theorem Am {d : TypeDesc} {g off o : Nat} {cs : List Value} (hu : P.underlying t = some d) (hd : Ax d = false) (hs : Sub (CH.row g off cs) w) (hc : cs[o]? = some v) : (loadVar t ⟨g, off + o, none⟩).run P w = .ok v w :=
 Bv hu hd _ (hs.cell (CH.yU hc))
def OB (env : Env) (o : Option Operand) (d i : Nat) : Prop :=
 match o with
 | some z => ∃ k, ev env z = .int k (i : Int)
 | none => i = d
theorem yV {k : IntKind} {i y : Nat} {code : BoundsCode} (h : i ≤ y) : (Instr.sliceBound (.int k (i : Int)) y code).run P w = .ok i w := by
 simp [Instr.sliceBound, asIntOf, h]
theorem Dw {b : Bool} {n c lo hi mx : Nat} {l h m : Option Operand} (hm : OB env m c mx) (hh : OB env h n hi) (hl : OB env l 0 lo) (h0 : m.isSome = true → h.isSome = true) (h1 : lo ≤ hi) (h2 : hi ≤ mx) (h3 : mx ≤ c) :
  (Instr.sliceBounds b n c (l.map (ev env)) (h.map (ev env)) (m.map (ev env))).run P w = .ok (lo, hi, mx) w := by
 cases m with
 | none =>
  have hm' : mx = c := hm
  subst hm'
  cases h with
  | none =>
   have hh' : hi = n := hh
   subst hh'
   cases l with
   | none =>
    have hl' : lo = 0 := hl
    subst hl'
    simp [Instr.sliceBounds]
   | some z =>
    obtain ⟨k, hk⟩ := hl
    simp [Instr.sliceBounds, hk, yV h1]
  | some y =>
   obtain ⟨k2, hk2⟩ := hh
   cases l with
   | none =>
    have hl' : lo = 0 := hl
    subst hl'
    simp [Instr.sliceBounds, hk2, yV h2]
   | some z =>
    obtain ⟨k, hk⟩ := hl
    simp [Instr.sliceBounds, hk, hk2, yV h1, yV h2]
 | some x =>
  obtain ⟨k3, hk3⟩ := hm
  cases h with
  | none => simp at h0
  | some y =>
   obtain ⟨k2, hk2⟩ := hh
   cases l with
   | none =>
    have hl' : lo = 0 := hl
    subst hl'
    simp [Instr.sliceBounds, hk2, hk3, yV h2, yV h3]
   | some z =>
    obtain ⟨k, hk⟩ := hl
    simp [Instr.sliceBounds, hk, hk2, hk3, yV h1, yV h2, yV h3]
theorem Yl.slice {A : Option Addr} {n c sz : Nat} {e : TypeId} {l h m : Option Operand} (lo hi mx : Nat) (hx : ev env x = .slice A n c) (ht : P.underlying t = some (.slice e)) (hs : (P.info? e).map (·.size) = some sz)
  (hm : OB env m c mx) (hh : OB env h n hi) (hl : OB env l 0 lo) (h0 : m.isSome = true → h.isSome = true) (h1 : lo ≤ hi) (h2 : hi ≤ mx) (h3 : mx ≤ c) (hv : Value.slice (if mx = lo then A else A.map (·.add (lo * sz))) (hi - lo) (mx - lo) = v) : Yl P env (.slice t x l h m) ty w v w := by
 obtain ⟨inf, hi', rfl⟩ := Option.map_eq_some_iff.1 hs
 subst hv
 show (execOp (ev env) _).run P w = _
 have hb := Dw (P := P) (w := w) (b := true) hm hh hl h0 h1 h2 h3
 simp [execOp, hx, run_underlying ht, Instr.sliceAt, Instr.slice, hb, sizeOf, typeInfo, hi']
theorem Yl.FA {b off n sz : Nat} {e : TypeId} {l h m : Option Operand} (lo hi mx : Nat) (hx : ev env x = .pointer (some ⟨b, off, none⟩)) (ht : P.underlying t = some (.array n e)) (hs : (P.info? e).map (·.size) = some sz)
  (hm : OB env m n mx) (hh : OB env h n hi) (hl : OB env l 0 lo) (h0 : m.isSome = true → h.isSome = true) (h1 : lo ≤ hi) (h2 : hi ≤ mx) (h3 : mx ≤ n) (hv : Value.slice (some (if mx = lo then ⟨b, off, none⟩ else ⟨b, off + lo * sz, none⟩)) (hi - lo) (mx - lo) = v) : Yl P env (.slice t x l h m) ty w v w := by
 obtain ⟨inf, hi', rfl⟩ := Option.map_eq_some_iff.1 hs
 subst hv
 show (execOp (ev env) _).run P w = _
 have hb := Dw (P := P) (w := w) (b := false) hm hh hl h0 h1 h2 h3
 simp [execOp, hx, run_underlying ht, Instr.sliceAt, Instr.sureAddr, hb, sizeOf, typeInfo, hi', vL]
end
section
variable {P : Program} {w0 w : World} {F0 F : CH} {D : Nat → Nat → Prop} {ps ps1 ps2 : List CH}
theorem uO (e : TypeId) {α : Type} (K : Kd α) {t : TypeId} {z : Value} {by_ : Nat} (C : Ctx w0 F0 D w F ps) (ht : P.underlying t = some (.slice e)) (hi : TI P e z K.sz by_) (hs : 0 < K.sz ∧ K.sz ≤ 16777216) (y : α) (v : Value) (hy : K.rep F y v.cells.toList) :
  ∃ A c n p w', n = [y].length ∧ (∀ (env : Env) (x : Operand) (ty : TypeId), ev env x = v → Yl P env (.buildSlice t 1 #[(0, x)]) ty w (.slice A n c) w') ∧ Ctx w0 F0 D w' F (p :: ps) ∧ Row K F p (.slice A n c) [y] := by
 obtain ⟨A, c, p, w', h1, h2, h3⟩ := Ix (P := P) e K C ht hi hs y v hy
 exact ⟨A, c, _, p, w', rfl, h1, h2, h3⟩
theorem Cs (e : TypeId) {α : Type} (K : Kd α) {t : TypeId} {z : Value} {by_ : Nat} (C : Ctx w0 F0 D w F ps) (ht : P.underlying t = some (.slice e)) (hi : TI P e z K.sz by_) (hs : 0 < K.sz) (ys : List α) (vs : List Value) (hy : Dj K F ys vs) (n : Nat) (hn : n = vs.length) (hpos : 0 < n) (hsm : n * K.sz ≤ 16777216) :
  ∃ A c m p w', m = ys.length ∧ (∀ (env : Env) (xs : List Operand) (ty : TypeId), Evs env xs vs → Yl P env (.buildSlice t n (wF 0 xs).toArray) ty w (.slice A m c) w') ∧ Ctx w0 F0 D w' F (p :: ps) ∧ Row K F p (.slice A m c) ys := by
 obtain ⟨A, c, p, w', h1, h2, h3⟩ := JG (P := P) e K C ht hi hs ys vs hy n hn hpos hsm
 exact ⟨A, c, _, p, w', rfl, h1, h2, h3⟩
theorem Cn (e : TypeId) {α : Type} (K : Kd α) {t : TypeId} {z : Value} {by_ : Nat} (C : Ctx w0 F0 D w F ps) (ht : P.underlying t = some (.slice e)) (hi : TI P e z K.sz by_) (d : α) (hz : K.rep F d z.cells.toList) (hby : 0 < by_) (n : Int) (hn : 0 ≤ n ∧ n * by_ ≤ 140737488355328) :
  ∃ A c m p w', m = (List.replicate n.toNat d).length ∧ (∀ (env : Env) (x y : Operand) (k k' : IntKind) (ty : TypeId), ev env x = .int k n → ev env y = .int k' n → Yl P env (.makeSlice t x y) ty w (.slice A m c) w') ∧ Ctx w0 F0 D w' F (p :: ps) ∧ Row K F p (.slice A m c) (List.replicate n.toNat d) := by
 obtain ⟨A, c, p, w', h1, h2, h3⟩ := Io (P := P) e K C ht hi d hz hby n hn
 exact ⟨A, c, _, p, w', rfl, h1, h2, h3⟩
theorem sP (e : TypeId) {α : Type} (K : Kd α) {p h : CH} {A B : Option Addr} {c cb n m : Nat} {xs ys : List α} {t : TypeId} {z : Value} {by_ : Nat} (ps1 ps2 : List CH) (C : Ctx w0 F0 D w F (ps1 ++ p :: ps2)) (hR : Row K F p (.slice A n c) xs)
  (hm : m = ys.length) (hS : Sl K F h B ys) (hsub : Sub h w) (ht : P.underlying t = some (.slice e)) (hi : TI P e z K.sz by_) (hz : z.cells.size = K.sz) (hz1 : ∀ u ∈ z.cells.toList, u.oneCell' = true) (hs : 0 < K.sz) (hby : 0 < by_) (hlim : (xs.length + ys.length + (xs.length + ys.length) / 4 + 192) * by_ ≤ 281474976710656) :
  ∃ A' c' n' p' w', n' = (xs ++ ys).length ∧ (∀ (env : Env) (s x : Operand) (ty : TypeId), ev env s = .slice A n c → ev env x = .slice B m cb → Yl P env (.call { callee := .builtin .append, args := #[s, x], argTypes := #[t, t] }) ty w (.slice A' n' c') w') ∧
   Ctx w0 F0 D w' F (ps1 ++ p' :: ps2) ∧ Row K F p' (.slice A' n' c') (xs ++ ys) := by
 obtain ⟨_, _, hn⟩ := hR.rP
 subst hn; subst hm
 obtain ⟨A', c', p', w', h1, h2, h3⟩ := G6 (P := P) (cb := cb) e K ps1 ps2 C hR hS hsub ht hi hz hz1 hs hby hlim
 exact ⟨A', c', _, p', w', rfl, h1, h2, h3⟩
end
section
variable {α : Type} {K : Kd α} {F p : CH} {A : Option Addr} {n c : Nat} {xs : List α}
theorem Row.take (h : Row K F p (.slice A n c) xs) (m : Nat) (hm : m ≤ n) : m = (xs.take m).length ∧ Row K F p (.slice A m c) (xs.take m) := by
 obtain ⟨_, _, hn⟩ := h.rP
 subst hn
 have hl : m = (xs.take m).length := by rw [List.length_take]; omega
 refine ⟨hl, ?_⟩
 rcases h with ⟨h1, rfl, rfl⟩ | ⟨g, off, cap, cur, h1, h2, h3, h4, h5, h6, h7⟩
 ·have h0 : m = 0 := by simpa using hm
  subst h0
  injection h1 with h1 _ h3
  subst h1; subst h3
  exact .inl ⟨rfl, by simp, rfl⟩
 ·injection h1 with e1 e2 e3
  subst e1; subst e3
  exact .inr ⟨g, off, c, cur, by rw [← hl], by rw [← hl]; omega, h3, h4, h5, h6, h7.take m⟩
end
end Go.WG
namespace Go.WG
open Go.RowKit
def okW (md : Region.Mode) (ops : Array Oper) (i : Nat) (Wi : List Nat) : Bool :=
 Wi.all fun j => match ops[j]? with
  | some o => o.after.any fun e => Region.binds md e && Nat.blt e.on j && (Nat.beq e.on i || Wi.any (Nat.beq e.on))
  | none => false
def closed (md : Region.Mode) (ops : Array Oper) (listed : Array Bool) : Prop :=
 ∀ (m : Nat) (om : Oper), ops[m]? = some om → listed.getD m false = true → ∀ e ∈ om.after, Region.binds md e = true → listed.getD e.on false = true
theorem okW.spec {md : Region.Mode} {ops : Array Oper} {i : Nat} {Wi : List Nat} (h : okW md ops i Wi = true) {listed : Array Bool} (hc : closed md ops listed) :
  ∀ (j : Nat), j ∈ Wi → ∀ (oj : Oper), ops[j]? = some oj → (∀ e ∈ oj.after, Region.binds md e = true → listed.getD e.on false = true) → listed.getD i false = true := by
 intro j
 induction j using Nat.strongRecOn with
 | ind j ih =>
  intro hj oj hoj hall
  have h1 := List.all_eq_true.1 h j hj
  simp only [hoj] at h1
  obtain ⟨e, he, hb⟩ := Array.any_eq_true'.1 h1
  simp only [Bool.and_eq_true, Bool.or_eq_true, Nat.blt_eq, List.any_eq_true] at hb
  obtain ⟨⟨hb1, hlt⟩, hb2⟩ := hb
  have hl := hall e he hb1
  rcases hb2 with hb2 | ⟨k, hk, hb2⟩
  ·rw [← Nat.eq_of_beq_eq_true hb2]
   exact hl
  ·have hke := Nat.eq_of_beq_eq_true hb2
   subst hke
   cases ho : ops[e.on]? with
   | none =>
    have h2 := List.all_eq_true.1 h _ hk
    simp only [ho] at h2
    cases h2
   | some oe => exact ih e.on hlt hk oe ho (hc _ _ ho hl)
theorem closed.set {md : Region.Mode} {ops : Array Oper} {listed : Array Bool} (hc : closed md ops listed) {j : Nat} {oj : Oper} (hoj : ops[j]? = some oj) (hall : ∀ e ∈ oj.after, Region.binds md e = true → listed.getD e.on false = true) :
  closed md ops (listed.setIfInBounds j true) := fun m om hm hl e he hb => by
 rcases Decidable.em (j = m) with rfl | hne
 ·rw [hoj] at hm
  injection hm with hm
  subst hm
  exact getD_set_true (hall e he hb)
 ·rw [getD_set_ne false hne] at hl
  exact getD_set_true (hc m om hm hl e he hb)
section
variable {P : Program} {ops : Array Oper} {Q : Exit → Act → World → Prop} {md : Region.Mode} {S : Nat → Array Bool → World → Prop} {C : World → Prop}
def anyS (P : Program) (md : Region.Mode) (ops : Array Oper) (Q : Exit → Act → World → Prop) (S : Nat → Array Bool → World → Prop) : Nat → Array Bool → Act → World → Prop
 | 0, listed, a, w => Region.ready md ops listed = [] ∧ Q .normal a w
 | fuel + 1, listed, a, w =>
  (Region.ready md ops listed = [] → Q .normal a w) ∧
  ∀ i ∈ Region.ready md ops listed, wpOp P ops Q i (fun a' w' => S i listed w' ∧ anyS P md ops Q S fuel (listed.setIfInBounds i true) a' w') a w
theorem anyS.any : ∀ (fuel : Nat) (listed : Array Bool) (a : Act) (w : World), anyS P md ops Q S fuel listed a w → wpAny P md ops Q fuel listed a w
 | 0, _, _, _, h => h
 | fuel + 1, _, _, _, h => ⟨h.1, fun i hi => wpOp_mono (fun a' w' h' => anyS.any fuel _ a' w' h'.2) (h.2 i hi)⟩
theorem DL {listed : Array Bool} {j : Nat} (h0 : listed.getD j true = false) (h1 : listed.getD j false = true) : False := by
 rw [Array.getD_eq_getD_getElem?] at h0 h1
 cases hl : listed[j]? with
 | none => rw [hl] at h1; simp at h1
 | some b =>
  rw [hl] at h0 h1
  simp only [Option.getD_some] at h0 h1
  rw [h1] at h0
  cases h0
theorem anyS.first {i : Nat} {oi : Oper} {v : Value} {Wi X : List Nat} (hi : ops[i]? = some oi) (hsel : ∀ (j : Nat) (o : Oper) cs b, ops[j]? = some o → o.op ≠ .select cs b)
  (hQ : ∀ c a w, Q (.panic c) (a.put oi.dst v) w → Q (.panic c) a w) (hW : okW md ops i X = true) (hX : ∀ q ∈ Wi, q ∈ X) (hWo : ∀ q ∈ Wi, ∃ o, ops[q]? = some o)
  (hC : ∀ j L w, j ∉ Wi → (∀ q ∈ Wi, L.getD q false = true → False) → S j L w → C w) (hS1 : ∀ j L w, S j (L.setIfInBounds i true) w → S j L w) (hS2 : ∀ j L w, L.getD j true = false → S j L w → S i (L.setIfInBounds j true) w) :
  ∀ (fuel : Nat) (listed : Array Bool) (a : Act) (w : World), closed md ops listed →
   (∀ j oj, ops[j]? = some oj → j ≠ i → listed.getD j true = false → (∀ e ∈ oj.after, Region.binds md e = true → e.on ≠ i) → oi.apart ops oj = true) →
   i ∈ Region.ready md ops listed → YieldsIf P ops C oi v a → C w → S i listed w →
   anyS P md ops Q S fuel (listed.setIfInBounds i true) (a.put oi.dst v) w → anyS P md ops Q S (fuel + 1) listed a w := by
 intro fuel
 induction fuel with
 | zero =>
  intro listed a w hcl hfree hr hy hc hs H
  refine ⟨fun h => absurd hr (by rw [h]; simp), fun j hj => ?_⟩
  rcases Decidable.em (j = i) with rfl | hji
  ·exact hy.wpOp hi hc ⟨hs, H⟩
  ·have := ready_mono hj hji
   rw [H.1] at this
   simp at this
 | succ fuel ih =>
  intro listed a w hcl hfree hr hy hc hs H
  obtain ⟨hun, oi', hoi', hafter⟩ := mem_ready.1 hr
  refine ⟨fun h => absurd hr (by rw [h]; simp), fun j hj => ?_⟩
  rcases Decidable.em (j = i) with rfl | hji
  ·exact hy.wpOp hi hc ⟨hs, H⟩
  ·have h1 := H.2 j (ready_mono hj hji)
   obtain ⟨hjun, oj, hoj, hall⟩ := mem_ready.1 hj
   have hnot : ∀ e ∈ oj.after, Region.binds md e = true → e.on ≠ i := fun e he hb heq => by
    subst heq
    exact DL hun (hall e he hb)
   have hjW : j ∉ Wi := fun hm => DL hun (okW.spec hW hcl j (hX j hm) oj hoj hall)
   have hWl : ∀ q ∈ Wi, listed.getD q false = true → False := fun q hq hl => by
    obtain ⟨oq, hoq⟩ := hWo q hq
    exact DL hun (okW.spec hW hcl q (hX q hq) oq hoq (hcl q oq hoq hl))
   have h2 := wpOp_putIf hoj (hfree j oj hoj hji hjun hnot) (fun cs b => hsel i oi cs b hi) (fun cs b => hsel j oj cs b hoj) hQ hy h1
   refine wpOp_mono (fun a' w' h3 => ?_) h2
   obtain ⟨hy', hs', H'⟩ := h3
   rw [Array.setIfInBounds_comm _ _ (Ne.symm hji)] at H'
   have hsj : S j listed w' := hS1 _ _ _ hs'
   refine ⟨hsj, ih (listed.setIfInBounds j true) a' w' (hcl.set hoj hall) (fun k ok hk hki hkun hno => hfree k ok hk hki ?_ hno) (ready_mono hr (Ne.symm hji)) hy' (hC j _ w' hjW hWl hsj) (hS2 j _ w' hjun hsj) H'⟩
   rcases Decidable.em (j = k) with rfl | hjk
   ·exact hjun
   ·rwa [getD_set_ne true hjk] at hkun
end
def SLc (Ms : List (List Nat × CH)) (j : Nat) (L : Array Bool) (w : World) : Prop :=
 match Ms with
 | [] => True
 | (W, h) :: r => (cond (W.any fun q => Nat.beq q j || L.getD q false) True (Sub h w)) ∧ SLc r j L w
theorem SLc.iff {Ms : List (List Nat × CH)} {j : Nat} {L : Array Bool} {w : World} : SLc Ms j L w ↔ ∀ p ∈ Ms, (∀ q ∈ p.1, q ≠ j ∧ ¬ L.getD q false = true) → Sub p.2 w := by
 induction Ms with
 | nil => simp [SLc]
 | cons p r ih =>
  obtain ⟨W, h⟩ := p
  simp only [SLc, ih, List.mem_cons, forall_eq_or_imp]
  refine and_congr ?_ Iff.rfl
  cases hb : (W.any fun q => Nat.beq q j || L.getD q false) with
  | true =>
   simp only [_root_.cond_true, true_iff]
   intro hall
   obtain ⟨q, hq, hq2⟩ := List.any_eq_true.1 hb
   obtain ⟨h1, h2⟩ := hall q hq
   rw [Bool.or_eq_true] at hq2
   rcases hq2 with hq2 | hq2
   ·exact absurd (Nat.eq_of_beq_eq_true hq2) h1
   ·exact absurd hq2 h2
  | false =>
   simp only [_root_.cond_false]
   refine ⟨fun h _ => h, fun h => h fun q hq => ?_⟩
   have := List.any_eq_false.1 hb q hq
   simp only [Bool.or_eq_true, not_or] at this
   refine ⟨fun e => this.1 (by subst e; exact Nat.beq_refl _), this.2⟩
def Cof (Ms : List (List Nat × CH)) (k : Option Nat) : World → Prop := fun w =>
 match k with
 | none => True
 | some k => match Ms[k]? with
  | some p => Sub p.2 w
  | none => True
def Wof (Ms : List (List Nat × CH)) (k : Option Nat) : List Nat :=
 match k with
 | none => []
 | some k => match Ms[k]? with
  | some p => p.1
  | none => []
def Fb (Ms : List (List Nat × CH)) (i : Nat) : Bool := Ms.all fun p => p.1.all fun q => !Nat.beq q i
def nrm (Q : Act → World → Prop) : Exit → Act → World → Prop := fun e a w => e = .normal ∧ Q a w
def WA (P : Program) (N : Nat) (ops : Array Oper) (Ms : List (List Nat × CH)) (R : Env → World → Prop) (fuel : Nat) (listed : Array Bool) (env : Env) (w : World) : Prop :=
 closed .any ops listed → ∀ a, Frm N env a → anyS P .any ops (nrm fun a w => ∃ env, Frm N env a ∧ R env w) (SLc Ms) fuel listed a w
section
variable {P : Program} {N : Nat} {ops : Array Oper} {Ms : List (List Nat × CH)} {R : Env → World → Prop} {env : Env} {w w' : World} {fuel : Nat} {listed : Array Bool}
theorem Frm.La {a : Act} (ha : Frm N env a) {o : Oper} (ho : yP N o = true) (v : Value) : Frm N (zW env o.dst v) (a.put o.dst v) := ha.put ho v
def chk (N : Nat) (ops : Array Oper) (Wi X : List Nat) (listed : Array Bool) (i : Nat) : Bool :=
 Region.noSelect ops && Region.free .any ops listed i && (Region.ready .any ops listed).contains i && okW .any ops i X && Wi.all (fun q => Nat.blt q ops.size && X.any (Nat.beq q)) && ops.toList.all (yP N)
theorem WA.Jc (k : Option Nat) (X : List Nat) (i : Nat) {o : Oper} (hi : ops[i]? = some o) {v : Value} (hk : chk N ops (Wof Ms k) X listed i = true) (hq : Fb Ms i = true) (hc : Cof Ms k w) (hs : SLc Ms i listed w)
  (hy : (Region.wanted o (uE ops env) = true ∧ ∀ w, Cof Ms k w → (execOp (ev env) o).run P w = .ok (.value v) w) ∨ (Region.wanted o (uE ops env) = false ∧ v = undef))
  (h : WA P N ops Ms R fuel (listed.setIfInBounds i true) (zW env o.dst v) w) : WA P N ops Ms R (fuel + 1) listed env w := fun hcl a ha => by
 simp only [chk, Bool.and_eq_true] at hk
 obtain ⟨⟨⟨⟨⟨h1, h2⟩, h3⟩, h4⟩, h5⟩, h6⟩ := hk
 have hr : i ∈ Region.ready .any ops listed := by simpa using h3
 obtain ⟨hun, o', ho', hall⟩ := mem_ready.1 hr
 have hdst : yP N o = true := List.all_eq_true.1 h6 o (by simpa using Array.mem_of_getElem? hi)
 have hmem : ∀ p, (match k with | none => none | some k => Ms[k]?) = some p → p ∈ Ms := fun p hp => by
  cases k with
  | none => cases hp
  | some k => exact List.mem_of_getElem? hp
 refine anyS.first (C := Cof Ms k) (Wi := Wof Ms k) (X := X) hi (Region.noSelect_spec h1) (fun c a w hn => by obtain ⟨e, _⟩ := hn; cases e) h4 (fun q hq => ?_) (fun q hq => ?_) (fun j L w hj hL hS => ?_) (fun j L w hS => ?_) (fun j L w hjun hS => ?_) fuel listed a w hcl (Region.free_spec hi h2) hr ?_ hc hs (h (hcl.set hi (fun e he hb => by rw [hi] at ho'; injection ho' with ho'; subst ho'; exact hall e he hb)) _ (ha.put hdst v))
 ·have := List.all_eq_true.1 h5 q hq
  rw [Bool.and_eq_true] at this
  obtain ⟨x, hx, hqx⟩ := List.any_eq_true.1 this.2
  rw [Nat.eq_of_beq_eq_true hqx]
  exact hx
 ·have := List.all_eq_true.1 h5 q hq
  rw [Bool.and_eq_true, Nat.blt_eq] at this
  exact ⟨ops[q], Array.getElem?_eq_getElem this.1⟩
 ·unfold Cof
  cases k with
  | none => trivial
  | some k =>
   simp only
   cases hp : Ms[k]? with
   | none => trivial
   | some p =>
    have hW : Wof Ms (some k) = p.1 := by simp [Wof, hp]
    rw [hW] at hj hL
    exact SLc.iff.1 hS p (List.mem_of_getElem? hp) fun q hq => ⟨fun e => hj (e ▸ hq), fun hl => hL q hq hl⟩
 ·refine SLc.iff.2 fun p hp hall => SLc.iff.1 hS p hp fun q hq' => ⟨(hall q hq').1, fun hl => ?_⟩
  have hqi : i ≠ q := fun e => by
   have := List.all_eq_true.1 (List.all_eq_true.1 hq p hp) q hq'
   subst e
   simp at this
  rw [getD_set_ne false hqi] at hl
  exact (hall q hq').2 hl
 ·refine SLc.iff.2 fun p hp hall => SLc.iff.1 hS p hp fun q hq' => ?_
  have hqj : q ≠ j := fun e => by
   have h7 := (hall q hq').2
   subst e
   refine h7 ?_
   have hlt : q < L.size := by
    rcases Nat.lt_or_ge q L.size with h' | h'
    ·exact h'
    ·simp [Array.getElem?_eq_none h'] at hjun
   simp [hlt]
  refine ⟨hqj, fun hl => (hall q hq').2 ?_⟩
  rw [getD_set_ne false (Ne.symm hqj)]
  exact hl
 ·unfold YieldsIf
  rw [ha.yielded ops, ha.eval]
  exact hy
theorem WA.take (k : Option Nat) (X : List Nat) (i : Nat) {d : Nat} {op : Op} {ty : TypeId} {pos : String} {aft : Array Edge} {L : Array Bool} (hi : ops[i]? = some ⟨some d, op, ty, pos, aft, none⟩) {v : Value} (hk : chk N ops (Wof Ms k) X listed i = true) (hq : Fb Ms i = true) (hl : listed.setIfInBounds i true = L) (hc : Cof Ms k w) (hs : SLc Ms i listed w)
  (hy : ∀ w, Cof Ms k w → Yl P env op ty w v w) (h : WA P N ops Ms R fuel L (upd env d v) w) : WA P N ops Ms R (fuel + 1) listed env w :=
 WA.Jc k X i hi hk hq hc hs (.inl ⟨vR _ rfl _, fun w hw => by rw [uM]; exact hy w hw⟩) (hl ▸ h)
theorem WA.done (hr : Region.ready .any ops listed = []) (h : R env w) : WA P N ops Ms R fuel listed env w := fun _ a ha => by
 cases fuel with
 | zero => exact ⟨hr, rfl, env, ha, h⟩
 | succ fuel => exact ⟨fun _ => ⟨rfl, env, ha, h⟩, by rw [hr]; simp⟩
def Up (P : Program) (N : Nat) (ops : Array Oper) (Ms : List (List Nat × CH)) (R : Env → World → Prop) (fuel : Nat) (listed : Array Bool) (env : Env) (w : World) (i : Nat) : Prop :=
 ∃ o, ops[i]? = some o ∧ yP N o = true ∧ Region.wanted o (uE ops env) = true ∧ BL P o env w fun env' w' => SLc Ms i listed w' ∧ WA P N ops Ms R fuel (listed.setIfInBounds i true) env' w'
theorem WA.ups (rs : List Nat) (hr : Region.ready .any ops listed = rs) (hne : rs.isEmpty = false) (h : ∀ i ∈ rs, Up P N ops Ms R fuel listed env w i) : WA P N ops Ms R (fuel + 1) listed env w := fun hcl a ha => by
 refine ⟨fun h => (by rw [hr] at h; subst h; cases hne), fun j hj => ?_⟩
 obtain ⟨o, hi, hd, hw, hst⟩ := h j (hr ▸ hj)
 obtain ⟨_, oj, hoj, hall⟩ := mem_ready.1 hj
 rw [hi] at hoj
 injection hoj with hoj
 subst hoj
 unfold wpOp
 simp only [hi]
 rw [ha.yielded ops, if_pos hw]
 exact .inl (BL.wp hd hst ha fun env' a' w' hf hn => ⟨hn.1, hn.2 (hcl.set hi hall) a' hf⟩)
theorem WA.up1 (i : Nat) (hr : Region.ready .any ops listed = [i]) (h : Up P N ops Ms R fuel listed env w i) : WA P N ops Ms R (fuel + 1) listed env w :=
 WA.ups [i] hr rfl fun j hj => by rw [List.mem_singleton.1 hj]; exact h
theorem WA.up2 (i j : Nat) (hr : Region.ready .any ops listed = [i, j]) (h1 : Up P N ops Ms R fuel listed env w i) (h2 : Up P N ops Ms R fuel listed env w j) : WA P N ops Ms R (fuel + 1) listed env w :=
 WA.ups [i, j] hr rfl fun k hk => by
  rcases List.mem_cons.1 hk with rfl | hk
  ·exact h1
  ·rw [List.mem_singleton.1 hk]; exact h2
theorem Up.val {i : Nat} {d : Nat} {op : Op} {ty : TypeId} {pos : String} {aft : Array Edge} {L : Array Bool} (hi : ops[i]? = some ⟨some d, op, ty, pos, aft, none⟩) (hd : Nat.blt d N = true) (hl : listed.setIfInBounds i true = L) {v : Value}
  (hy : Yl P env op ty w v w') (hs : SLc Ms i listed w') (h : WA P N ops Ms R fuel L (upd env d v) w') : Up P N ops Ms R fuel listed env w i :=
 ⟨_, hi, by simpa [yP] using hd, vR _ rfl _, .inl ⟨v, w', by rw [uM]; exact hy, hs, hl ▸ h⟩⟩
theorem Up.skip {i : Nat} {op : Op} {ty : TypeId} {pos : String} {aft : Array Edge} {L : Array Bool} (hi : ops[i]? = some ⟨none, op, ty, pos, aft, none⟩) (hl : listed.setIfInBounds i true = L)
  (hy : BR P env op ty w w') (hs : SLc Ms i listed w') (h : WA P N ops Ms R fuel L env w') : Up P N ops Ms R fuel listed env w i :=
 ⟨_, hi, rfl, vR _ rfl _, .inr (.inl ⟨w', by rw [uM]; exact hy, hs, hl ▸ h⟩)⟩
theorem Up.call {i : Nat} {dst : Option Nat} {op : Op} {ty : TypeId} {pos : String} {aft : Array Edge} {L : Array Bool} (hi : ops[i]? = some ⟨dst, op, ty, pos, aft, none⟩) (hd : yP N ⟨dst, op, ty, pos, aft, none⟩ = true) (hl : listed.setIfInBounds i true = L)
  {f : FuncId} {args : Array Value} (he : vD P env op ty w f args) {R' : Ending → World → Prop} (hc : Calls P f args w R')
  (h : ∀ e w', R' e w' → ∃ v, e = .returned v ∧ SLc Ms i listed w' ∧ WA P N ops Ms R fuel L (zW env dst v) w') : Up P N ops Ms R fuel listed env w i :=
 ⟨_, hi, hd, vR _ rfl _, .inr (.inr ⟨f, args, w, by rw [uM]; exact he, hc.mono (hl ▸ h)⟩)⟩
theorem Up.on {i : Nat} {dst : Option Nat} {op : Op} {ty : TypeId} {pos : String} {aft : Array Edge} {j : Nat} {b : Bool} {x : Nat} (hi : ops[i]? = some ⟨dst, op, ty, pos, aft, some (j, b)⟩) (hj : (ops[j]?).bind (·.dst) = some x) (hx : env x = .bool b) (hd : yP N ⟨dst, op, ty, pos, aft, none⟩ = true)
  (h : BL P ⟨dst, op, ty, pos, aft, none⟩ env w fun env' w' => SLc Ms i listed w' ∧ WA P N ops Ms R fuel (listed.setIfInBounds i true) env' w') : Up P N ops Ms R fuel listed env w i :=
 ⟨_, hi, hd, by unfold Region.wanted uE; simp only [hj, hx]; simp, by unfold BL at *; rw [uM] at h; rw [uM]; exact h⟩
theorem WA.HN (M : Env → World → Prop) (L1 : Array Bool) (f1 : Nat) (h : (∀ env w, M env w → WA P N ops Ms R f1 L1 env w) → WA P N ops Ms R fuel listed env w) (k : ∀ env w, M env w → WA P N ops Ms R f1 L1 env w) : WA P N ops Ms R fuel listed env w := h k
theorem W.uF {id : Nat} {l : List Oper} {Q : Exit → Env → World → Prop} (Ms : List (List Nat × CH)) (hm : P.follows .mixedOrders = true)
  (h : WA P N l.toArray Ms (fun env w => Q .normal env w) l.length (Array.replicate l.length false) env w.drew) : W P N (.region id l.toArray true) Q env w := fun a ha => by
 have h0 : closed .any l.toArray (Array.replicate l.length false) := fun m om _ hl => by
  rw [Array.getD_eq_getD_getElem?, Array.getElem?_replicate] at hl
  split at hl <;> simp at hl
 refine Go.wp_mono (Q := nrm fun a w => ∃ env, Frm N env a ∧ Q .normal env w) ?_ fun e a w hq => ?_
 ·refine wp_region_any hm (anyS.any (S := SLc Ms) _ _ _ _ ?_)
  have := h h0 a ha
  simpa using this
 ·obtain ⟨rfl, env, hf, hq⟩ := hq
  exact ⟨env, hf, hq⟩
end
end Go.WG
namespace Go.WG
open Go.RowKit
section
variable {P : Program} {env : Env} {w w' : World} {ty t u : TypeId} {x y : Operand} {v : Value}
theorem OB.mk {z : Operand} {k : IntKind} {i : Int} {d : Nat} (h : ev env z = .int k i) (h0 : 0 ≤ i) : OB env (some z) d i.toNat := ⟨k, by rw [Int.toNat_of_nonneg h0]; exact h⟩
theorem HZ (A : Option Addr) : A.map (·.add 0) = A := by cases A <;> rfl
theorem Yl.GL {A : Option Addr} {n c sz : Nat} {e : TypeId} {z : Operand} {k : IntKind} {hi : Int} (hx : ev env x = .slice A n c) (ht : P.underlying t = some (.slice e)) (hs : (P.info? e).map (·.size) = some sz)
  (hz : ev env z = .int k hi) (h : 0 ≤ hi ∧ hi ≤ (c : Int)) : Yl P env (.slice t x none (some z) none) ty w (.slice A hi.toNat c) w :=
 Yl.slice 0 hi.toNat c hx ht hs rfl (OB.mk hz h.1) rfl (fun h => by cases h) (Nat.zero_le _) (by omega) (Nat.le_refl _) (by simp [HZ])
end
section
variable {α : Type} {K : Kd α} {F h : CH} {A : Option Addr} {n c : Nat} {xs : List α}
theorem Sl.cut (k : Sl K F h A xs) (hm : c ≤ maxLen) (lo hi mx : Nat) (h1 : lo ≤ hi) (h2 : hi ≤ xs.length) (h3 : hi ≤ mx) (h4 : mx ≤ c) :
  ∃ A' c' n', Value.slice (if mx = lo then A else A.map (·.add (lo * K.sz))) (hi - lo) (mx - lo) = .slice A' n' c' ∧ n' = ((xs.take hi).drop lo).length ∧ ((xs.take hi).drop lo).length ≤ c' ∧ c' ≤ maxLen ∧ Sl K F h A' ((xs.take hi).drop lo) := by
 have hlen : ((xs.take hi).drop lo).length = hi - lo := by rw [List.length_drop, List.length_take]; omega
 refine ⟨_, _, _, rfl, hlen.symm, by omega, by omega, ?_⟩
 exact (k.take hi).drop lo mx (by rw [List.length_take]; omega)
end
end Go.WG
namespace Go.WG
theorem wU {α : Type} {K : Kd α} {F : CH} {xs : List α} (A : Option Addr) (c n : Nat) (hn : n = xs.length) (h1 : xs.length ≤ c) (h2 : c ≤ maxLen) (h3 : Sl K F F A xs) : (Kd.slice K).rep F xs [.slice A n c] := by
 subst hn
 exact ⟨A, c, rfl, h1, h2, h3⟩
end Go.WG
namespace Go.WG
open Go.RowKit
theorem yC {P : Program} {w0 w : World} {F0 F : CH} {D : Nat → Nat → Prop} {ps : List CH} (e : TypeId) {α : Type} (K : Kd α) {t : TypeId} {z : Value} {by_ : Nat} (C : Ctx w0 F0 D w F ps) (ht : P.underlying t = some (.slice e)) (hi : TI P e z K.sz by_) :
  ∃ A c n p w', n = ([] : List α).length ∧ (∀ (env : Env) (ty : TypeId), Yl P env (.buildSlice t 0 #[]) ty w (.slice A n c) w') ∧ Ctx w0 F0 D w' F (p :: ps) ∧ Row K F p (.slice A n c) ([] : List α) := by
 obtain ⟨i, hinf, hz0, hz1, hz2⟩ := hi.get
 refine ⟨some ⟨w.heap.size, 0, none⟩, 0, 0, _, w.alloc (.cells #[] e), rfl, fun env ty => ?_, C.alloc _ e, ?_⟩
 ·show (execOp (ev env) _).run P w = _
  simp [execOp, Instr.buildSlice, run_underlying ht, sizeOf, typeInfo, hinf, Instr.fill, newRow, show Array.range 0 = #[] from Array.eq_empty_of_size_eq_zero (by simp)]
 ·exact Row.fresh [] _ w.heap.size 0 (by simp) (Nat.le_refl _) (by simp [maxLen]) (by simp) (Els.nil _ _ _)
end Go.WG
