/- A calculus over environments: what a piece of code of the model does to the slots and the world, slot by slot, without the frame's array. -/
import Derived.WalkKit
import Derived.Orders
import Derived.OrdersHeld
import Derived.Deep.Quiet
import Derived.Deep.LoopGhost
namespace Go.WG
open Go.RowKit

abbrev Env := Nat → Value
def upd (env : Env) (d : Nat) (v : Value) : Env := fun t => cond (Nat.beq t d) v (env t)
def ev (env : Env) : Operand → Value
  | .tmp t => env t
  | .const v => v
  | .global g => .pointer (some ⟨g, 0, none⟩)
  | .func f => .func (.func f) #[] #[]
def putE (env : Env) (dst : Option Nat) (v : Value) : Env :=
  match dst with
  | some d => upd env d v
  | none => env

/-- The frame's slots are those of the environment. -/
structure Frm (N : Nat) (env : Env) (a : Act) : Prop where
  size : a.tmps.size = N
  get : ∀ t, a.tmps.getD t undef = env t
  defers : a.defers = []

theorem Frm.eval {N : Nat} {env : Env} {a : Act} (h : Frm N env a) : a.eval = ev env := by
  funext x
  cases x with
  | tmp t => exact h.get t
  | const v => rfl
  | global g => rfl
  | func f => rfl

def dstOk (N : Nat) (o : Oper) : Bool :=
  match o.dst with
  | some d => decide (d < N)
  | none => true

theorem Frm.put {N : Nat} {env : Env} {a : Act} (h : Frm N env a) {o : Oper} (ho : dstOk N o = true) (v : Value) : Frm N (putE env o.dst v) (a.put o.dst v) := by
  unfold dstOk at ho
  unfold putE Act.put
  cases hd : o.dst with
  | none => exact h
  | some d =>
    rw [hd] at ho
    have hlt : d < N := of_decide_eq_true ho
    refine ⟨by simp [h.size], fun t => ?_, h.defers⟩
    unfold upd
    by_cases ht : t = d
    · subst ht
      have : Nat.beq t t = true := Nat.beq_refl t
      show (a.tmps.setIfInBounds t v).getD t undef = cond (Nat.beq t t) v (env t)
      rw [this]
      simp [h.size, hlt]
    · have : Nat.beq t d = false := by
        rw [Bool.eq_false_iff]
        intro hb
        exact ht (Nat.eq_of_beq_eq_true hb)
      show (a.tmps.setIfInBounds d v).getD t undef = cond (Nat.beq t d) v (env t)
      rw [this, _root_.cond_false, ← h.get t]
      simp [Array.getD_eq_getD_getElem?, Array.getElem?_setIfInBounds_ne (Ne.symm ht)]

def lift (N : Nat) (Q : Exit → Env → World → Prop) : Exit → Act → World → Prop := fun e a w => ∃ env, Frm N env a ∧ Q e env w

/-- From whatever frame has these slots the code is left in a way that satisfies Q. -/
def W (P : Program) (N : Nat) (c : Code) (Q : Exit → Env → World → Prop) (env : Env) (w : World) : Prop :=
  ∀ a, Frm N env a → c.wp P (lift N Q) a w

def thenE (next : Env → World → Prop) (Q : Exit → Env → World → Prop) : Exit → Env → World → Prop
  | .normal, env, w => next env w
  | e, env, w => Q e env w
def inBlockE (id : Nat) (Q : Exit → Env → World → Prop) : Exit → Env → World → Prop
  | .exit id', env, w => cond (Nat.beq id' id) (Q .normal env w) (Q (.exit id') env w)
  | e, env, w => Q e env w

section
variable {P : Program} {N : Nat} {Q : Exit → Env → World → Prop} {env : Env} {w : World}
theorem W.mono {c : Code} {Q' : Exit → Env → World → Prop} (h : W P N c Q env w) (hq : ∀ e env w, Q e env w → Q' e env w) : W P N c Q' env w :=
  fun a ha => Go.wp_mono (h a ha) fun _ _ _ ⟨env', hf, hQ⟩ => ⟨env', hf, hq _ _ _ hQ⟩
theorem W.seq {x y : Code} (h : W P N x (thenE (W P N y Q) Q) env w) : W P N (.seq x y) Q env w := fun a ha =>
  wp_seq (Go.wp_mono (h a ha) fun e a' w' ⟨env', hf, hQ⟩ => by
    cases e with
    | normal => exact hQ a' hf
    | _ => exact ⟨env', hf, hQ⟩)
theorem W.skip (h : Q .normal env w) : W P N .skip Q env w := fun _ ha => wp_skip ⟨env, ha, h⟩
theorem W.label {l : Nat} (h : Q .normal env w) : W P N (.label l) Q env w := fun _ ha => wp_label ⟨env, ha, h⟩
theorem W.exit {id : Nat} (h : Q (.exit id) env w) : W P N (.exit id) Q env w := fun _ ha => wp_exit ⟨env, ha, h⟩
theorem W.goto {l : Nat} (h : Q (.goto l) env w) : W P N (.goto l) Q env w := fun _ ha => wp_goto ⟨env, ha, h⟩
theorem W.ret (h : Q .ret env w) : W P N .ret Q env w := fun _ ha => wp_ret ⟨env, ha, h⟩
theorem W.cond {c : Operand} {x y : Code} (t : Bool) (hc : ev env c = .bool t) (h : W P N (if t then x else y) Q env w) : W P N (.cond c x y) Q env w := fun a ha =>
  wp_cond (t := t) (by rw [ha.eval]; exact hc) (by cases t <;> exact h a ha)
theorem W.condT {c : Operand} {x y : Code} (hc : ev env c = .bool true) (h : W P N x Q env w) : W P N (.cond c x y) Q env w := W.cond true hc h
theorem W.condF {c : Operand} {x y : Code} (hc : ev env c = .bool false) (h : W P N y Q env w) : W P N (.cond c x y) Q env w := W.cond false hc h
theorem W.block {id : Nat} {c : Code} (h : W P N c (inBlockE id Q) env w) : W P N (.block id c) Q env w := fun a ha =>
  wp_block (Go.wp_mono (h a ha) fun e a' w' ⟨env', hf, hQ⟩ => by
    cases e with
    | exit id' =>
      simp only [inBlockE] at hQ
      simp only [Exit.inBlock]
      by_cases hid : id' = id
      · subst hid
        rw [if_pos rfl]
        rw [Nat.beq_refl, _root_.cond_true] at hQ
        exact ⟨env', hf, hQ⟩
      · rw [if_neg hid]
        have : Nat.beq id' id = false := by
          rw [Bool.eq_false_iff]
          intro hb
          exact hid (Nat.eq_of_beq_eq_true hb)
        rw [this, _root_.cond_false] at hQ
        exact ⟨env', hf, hQ⟩
    | _ => exact ⟨env', hf, hQ⟩)
/-- A loop: g, which every round lowers, stands in no slot. -/
theorem W.loop {c : Code} (I : Nat → Env → World → Prop) (g₀ : Nat) (h₀ : I g₀ env w)
    (round : ∀ g env w, I g env w → W P N c (thenE (fun env' w' => ∃ g', g' < g ∧ I g' env' w') Q) env w) : W P N (.loop c) Q env w := fun a ha =>
  wp_loop_ghost (fun g a w => ∃ env, Frm N env a ∧ I g env w) g₀ ⟨env, ha, h₀⟩ fun g a w ⟨env, hf, hI⟩ =>
    Go.wp_mono (round g env w hI a hf) fun e a' w' ⟨env', hf', hQ⟩ => by
      cases e with
      | normal =>
        obtain ⟨g', hlt, hI'⟩ := hQ
        exact ⟨g', hlt, env', hf', hI'⟩
      | _ => exact ⟨env', hf', hQ⟩

/-- What an operation's guard has yielded. -/
def yieldedE (ops : Array Oper) (env : Env) (j : Nat) : Option Bool :=
  match (ops[j]?).bind (·.dst) with
  | some d => (match env d with | .bool b => some b | _ => none)
  | none => none
theorem Frm.yielded {a : Act} (ha : Frm N env a) (ops : Array Oper) : Go.yielded ops a.tmps = yieldedE ops env := by
  funext j
  unfold Go.yielded yieldedE
  cases (ops[j]?).bind (·.dst) with
  | none => rfl
  | some d =>
    have h := ha.get d
    rw [Array.getD_eq_getD_getElem?] at h
    simp only [Option.bind_some]
    cases hd : a.tmps[d]? with
    | none =>
      rw [hd] at h
      simp only [Option.getD_none] at h
      rw [← h]
      rfl
    | some x =>
      rw [hd] at h
      simp only [Option.getD_some] at h
      rw [← h]
      cases x <;> rfl

/-- What one operation that is carried out leads to. -/
def stepE (P : Program) (o : Oper) (env : Env) (w : World) (next : Env → World → Prop) : Prop :=
  (∃ v w', (execOp (ev env) o).run P w = .ok (.value v) w' ∧ next (putE env o.dst v) w') ∨
  (∃ w', (execOp (ev env) o).run P w = .ok .skip w' ∧ next (putE env o.dst undef) w') ∨
  (∃ f args w', (execOp (ev env) o).run P w = .ok (.enter f args) w' ∧ Calls P f args w' fun e w'' => ∃ v, e = .returned v ∧ next (putE env o.dst v) w'')
theorem stepE.wp {o : Oper} {next : Env → World → Prop} (hok : dstOk N o = true) (h : stepE P o env w next) {a : Act} (ha : Frm N env a) {K : Act → World → Prop} {R : Exit → Act → World → Prop}
    (hK : ∀ env' a' w', Frm N env' a' → next env' w' → K a' w') : o.wp P a w K R := by
  unfold Oper.wp
  rw [ha.eval]
  rcases h with ⟨v, w', hr, hn⟩ | ⟨w', hr, hn⟩ | ⟨f, args, w', hr, hn⟩
  · rw [hr]
    exact hK _ _ _ (ha.put hok v) hn
  · rw [hr]
    exact hK _ _ _ (ha.put hok undef) hn
  · rw [hr]
    refine Calls.mono hn fun e w'' ⟨v, he, hv⟩ => ?_
    subst he
    exact hK _ _ _ (ha.put hok v) hv

def WL (P : Program) (ops : Array Oper) (Q : Exit → Env → World → Prop) : List Oper → Env → World → Prop
  | [], env, w => Q .normal env w
  | o :: rest, env, w => if Region.wanted o (yieldedE ops env) = true then stepE P o env w (WL P ops Q rest) else WL P ops Q rest (putE env o.dst undef) w

theorem WL.wp {ops : Array Oper} : ∀ (l : List Oper), l.all (dstOk N) = true → ∀ (env : Env) (w : World), WL P ops Q l env w → ∀ a, Frm N env a → wpList P ops (lift N Q) l a w := by
  intro l
  induction l with
  | nil => exact fun _ env w h a ha => ⟨env, ha, h⟩
  | cons o rest ih =>
    intro hall env w h a ha
    rw [List.all_cons, Bool.and_eq_true] at hall
    unfold wpList
    unfold WL at h
    rw [ha.yielded ops]
    split
    · rename_i hw
      rw [if_pos hw] at h
      exact .inl (stepE.wp hall.1 h ha fun env' a' w' hf hn => ih hall.2 env' w' hn a' hf)
    · rename_i hw
      rw [if_neg hw] at h
      exact ih hall.2 _ _ h _ (ha.put hall.1 undef)

/-- A region in the text's own order. -/
theorem W.region {id : Nat} {l : List Oper} (hok : l.all (dstOk N) = true) (h : WL P l.toArray Q l env w) : W P N (.region id l.toArray false) Q env w :=
  fun a ha => wp_region_lit (WL.wp l hok env w h a ha)

/-! A region that draws its order and only reads (calls that only read let in). -/
def quietE (P : Program) (o : Oper) (env : Env) (C : World → Prop) (v : Value) : Prop :=
  ∀ w, C w → (execOp (ev env) o).run P w = .ok (.value v) w ∨ (∃ f args, (execOp (ev env) o).run P w = .ok (.enter f args) w ∧ Calls P f args w fun e w'' => e = .returned v ∧ C w'')
def WQ (P : Program) (ops : Array Oper) (C : World → Prop) (Q : Env → Prop) : List Oper → Env → Prop
  | [], env => Q env
  | o :: rest, env => if Region.wanted o (yieldedE ops env) = true then ∃ v, quietE P o env C v ∧ WQ P ops C Q rest (putE env o.dst v) else WQ P ops C Q rest (putE env o.dst undef)
theorem WQ.wp {ops : Array Oper} {C : World → Prop} {Q : Env → Prop} {Q' : Act → Prop} (hQ : ∀ env a, Frm N env a → Q env → Q' a) : ∀ (l : List Oper), l.all (dstOk N) = true → ∀ (env : Env), WQ P ops C Q l env → ∀ a, Frm N env a → wpQuiet P ops C Q' l a := by
  intro l
  induction l with
  | nil => exact fun _ env h a ha => hQ env a ha h
  | cons o rest ih =>
    intro hall env h a ha
    rw [List.all_cons, Bool.and_eq_true] at hall
    unfold wpQuiet
    unfold WQ at h
    rw [ha.yielded ops]
    split
    · rename_i hw
      rw [if_pos hw] at h
      obtain ⟨v, hv, hr⟩ := h
      refine ⟨v, fun w hC => ?_, ih hall.2 _ hr _ (ha.put hall.1 v)⟩
      unfold Oper.quietAt
      rw [ha.eval]
      rcases hv w hC with h1 | ⟨f, args, h1, h2⟩
      · rw [h1]
        exact ⟨rfl, rfl⟩
      · rw [h1]
        exact ⟨rfl, h2⟩
    · rename_i hw
      rw [if_neg hw] at h
      exact ih hall.2 _ h _ (ha.put hall.1 undef)
theorem W.region_quiet {id : Nat} {l : List Oper} (hm : P.follows .mixedOrders = true) (hB : Region.lexB .any l.toArray = true) (hok : l.all (dstOk N) = true)
    (h : WQ P l.toArray (fun w' => ∃ n, w' = w.drewN n) (fun env' => ∀ n, Q .normal env' (w.drewN n)) l env) : W P N (.region id l.toArray true) Q env w :=
  fun a ha => wp_region_quiet_lit hm hB (WQ.wp (fun env' _ hf hq _ ⟨n, hn⟩ => ⟨env', hf, hn ▸ hq n⟩) l hok env h a ha)

/-! A function's body. -/
def envOf (args : Array Value) : Env := fun t => args.getD t undef
def resE (fn : Func) (env : Env) (w : World) (P : Program) (v : Value) : Prop := ∀ a, Frm fn.ntmps env a → (results fn a.tmps).run P w = .ok v w
def postE (P : Program) (fn : Func) (R : Ending → World → Prop) : Exit → Env → World → Prop
  | .normal, env, w | .ret, env, w => ∃ v, resE fn env w P v ∧ R (.returned v) w
  | _, _, _ => False
theorem Calls.ofW {f : FuncId} {fn : Func} {c : Code} {args : Array Value} {R : Ending → World → Prop} (hf : P.funcs[f]? = some fn) (hb : fn.body = some c) (hn : args.size ≤ fn.ntmps)
    (h : W P fn.ntmps c (postE P fn R) (envOf args) w) : Calls P f args w R := by
  refine calls_of_wp hf hb (Go.wp_mono (h _ ⟨by simp; omega, fun t => ?_, rfl⟩) fun e a w' ⟨env', hfr, hQ⟩ => ?_)
  · unfold envOf
    rw [Array.getD_eq_getD_getElem?, Array.getD_eq_getD_getElem?, Array.getElem?_append]
    split
    · rfl
    · rename_i hge
      rw [Array.getElem?_eq_none (xs := args) (by omega)]
      rw [Array.getElem?_replicate]
      split <;> rfl
  · cases e with
    | normal =>
      obtain ⟨v, hv, hR⟩ := hQ
      exact ⟨hfr.defers, v, hv a hfr, hR⟩
    | ret =>
      obtain ⟨v, hv, hR⟩ := hQ
      exact ⟨hfr.defers, v, hv a hfr, hR⟩
    | exit id => exact hQ.elim
    | goto l => exact hQ.elim
    | panic ch => exact hQ.elim
    | outgrown => exact hQ.elim
theorem resE0 {fn : Func} (h : fn.results = #[]) : resE fn env w P (.tuple #[]) := fun _ _ => results_none h _ _ _
theorem resE1 {fn : Func} {t : Nat} (h : fn.results = #[.tmp t]) {v : Value} (hv : env t = v) : resE fn env w P v := fun a ha => by
  rw [results_tmp h, ha.get, hv]
theorem resE2 {fn : Func} {t u : Nat} (h : fn.results = #[.tmp t, .tmp u]) {v v' : Value} (hv : env t = v) (hv' : env u = v') : resE fn env w P (.tuple #[v, v']) := fun a ha => by
  rw [results_tmp2 h, ha.get, ha.get, hv, hv']
theorem resE3 {fn : Func} {t u s : Nat} (h : fn.results = #[.tmp t, .tmp u, .tmp s]) {v v' v'' : Value} (hv : env t = v) (hv' : env u = v') (hv'' : env s = v'') : resE fn env w P (.tuple #[v, v', v'']) := fun a ha => by
  have hr : (results fn a.tmps).run P w = .ok (.tuple #[a.tmps.getD t undef, a.tmps.getD u undef, a.tmps.getD s undef]) w := by simp [results, h]
  rw [hr, ha.get, ha.get, ha.get, hv, hv', hv'']
end
end Go.WG
