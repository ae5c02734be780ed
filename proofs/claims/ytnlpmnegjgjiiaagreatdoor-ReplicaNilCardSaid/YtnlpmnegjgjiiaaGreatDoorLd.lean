/- What one operation yields: an evidence for each kind of operation; and the steps of a region. -/
import Derived.Test.YtnlpmnegjgjiiaaGreatDoorLc
namespace Go.WG
open Go.RowKit

/-- The operation yields v in w, and leaves w'. -/
def Yl (P : Program) (env : Env) (op : Op) (ty : TypeId) (w : World) (v : Value) (w' : World) : Prop :=
  (execOp (ev env) ⟨none, op, ty, "", #[], none⟩).run P w = .ok (.value v) w'
def Yskip (P : Program) (env : Env) (op : Op) (ty : TypeId) (w w' : World) : Prop :=
  (execOp (ev env) ⟨none, op, ty, "", #[], none⟩).run P w = .ok .skip w'
def Yenter (P : Program) (env : Env) (op : Op) (ty : TypeId) (w : World) (f : FuncId) (args : Array Value) : Prop :=
  (execOp (ev env) ⟨none, op, ty, "", #[], none⟩).run P w = .ok (.enter f args) w
theorem execOp_bare (ρ : Operand → Value) (d : Option Nat) (op : Op) (ty : TypeId) (pos : String) (aft : Array Edge) (g : Option (Nat × Bool)) :
    execOp ρ ⟨d, op, ty, pos, aft, g⟩ = execOp ρ ⟨none, op, ty, "", #[], none⟩ := by cases op <;> rfl

section steps
variable {P : Program} {ops : Array Oper} {Q : Exit → Env → World → Prop} {env : Env} {w w' : World} {rest : List Oper} {op : Op} {ty : TypeId} {pos : String} {aft : Array Edge} {v : Value} {d : Nat} {dst : Option Nat}
theorem wanted_none (o : Oper) (h : o.guard = none) (y : Nat → Option Bool) : Region.wanted o y = true := by unfold Region.wanted; rw [h]
theorem WL.done (h : Q .normal env w) : WL P ops Q [] env w := h
theorem WL.val (h : Yl P env op ty w v w') (k : WL P ops Q rest (upd env d v) w') : WL P ops Q (⟨some d, op, ty, pos, aft, none⟩ :: rest) env w := by
  unfold WL
  rw [if_pos (wanted_none _ rfl _)]
  exact .inl ⟨v, w', by rw [execOp_bare]; exact h, k⟩
theorem WL.skip (h : Yskip P env op ty w w') (k : WL P ops Q rest env w') : WL P ops Q (⟨none, op, ty, pos, aft, none⟩ :: rest) env w := by
  unfold WL
  rw [if_pos (wanted_none _ rfl _)]
  exact .inr (.inl ⟨w', by rw [execOp_bare]; exact h, k⟩)
theorem WL.call {f : FuncId} {args : Array Value} (h : Yenter P env op ty w f args) {R : Ending → World → Prop} (hc : Calls P f args w R)
    (k : ∀ e w', R e w' → ∃ v, e = .returned v ∧ WL P ops Q rest (putE env dst v) w') : WL P ops Q (⟨dst, op, ty, pos, aft, none⟩ :: rest) env w := by
  unfold WL
  rw [if_pos (wanted_none _ rfl _)]
  exact .inr (.inr ⟨f, args, w, by rw [execOp_bare]; exact h, hc.mono k⟩)
/-- A guard that has yielded what it wants: the operation as if it had none. -/
theorem WL.on {j : Nat} {b : Bool} {x : Nat} (hj : (ops[j]?).bind (·.dst) = some x) (hx : env x = .bool b) (k : WL P ops Q (⟨dst, op, ty, pos, aft, none⟩ :: rest) env w) :
    WL P ops Q (⟨dst, op, ty, pos, aft, some (j, b)⟩ :: rest) env w := by
  unfold WL at *
  rw [if_pos (wanted_none _ rfl _)] at k
  have hw : Region.wanted ⟨dst, op, ty, pos, aft, some (j, b)⟩ (yieldedE ops env) = true := by
    unfold Region.wanted yieldedE
    simp only [hj, hx]
    simp
  rw [if_pos hw]
  unfold stepE at *
  rw [execOp_bare] at k
  rw [execOp_bare]
  exact k
theorem WL.off {j : Nat} {b : Bool} {x : Nat} (hj : (ops[j]?).bind (·.dst) = some x) (hx : env x = .bool (!b)) (k : WL P ops Q rest (putE env dst undef) w) :
    WL P ops Q (⟨dst, op, ty, pos, aft, some (j, b)⟩ :: rest) env w := by
  unfold WL
  have hw : Region.wanted ⟨dst, op, ty, pos, aft, some (j, b)⟩ (yieldedE ops env) = false := by
    unfold Region.wanted yieldedE
    simp only [hj, hx]
    cases b <;> simp
  rw [hw]
  exact k
/-- The guard itself did not run. -/
theorem WL.off' {j : Nat} {b : Bool} {x : Nat} (hj : (ops[j]?).bind (·.dst) = some x) (hx : env x = undef) (k : WL P ops Q rest (putE env dst undef) w) :
    WL P ops Q (⟨dst, op, ty, pos, aft, some (j, b)⟩ :: rest) env w := by
  unfold WL
  have hw : Region.wanted ⟨dst, op, ty, pos, aft, some (j, b)⟩ (yieldedE ops env) = false := by
    unfold Region.wanted yieldedE
    simp only [hj, hx]
    cases b <;> rfl
  rw [hw]
  exact k
theorem WL.cut {l : List Oper} (M : Env → World → Prop) (h : WL P ops (thenE M fun _ _ _ => False) l env w) (k : ∀ env w, M env w → Q .normal env w) : WL P ops Q l env w := by
  induction l generalizing env w with
  | nil => exact k _ _ h
  | cons o rest ih =>
    unfold WL at h ⊢
    split
    · rename_i hw
      rw [if_pos hw] at h
      rcases h with ⟨v, w', h1, h2⟩ | ⟨w', h1, h2⟩ | ⟨f, args, w', h1, h2⟩
      · exact .inl ⟨v, w', h1, ih h2⟩
      · exact .inr (.inl ⟨w', h1, ih h2⟩)
      · exact .inr (.inr ⟨f, args, w', h1, h2.mono fun e w'' ⟨v, he, hv⟩ => ⟨v, he, ih hv⟩⟩)
    · rename_i hw
      rw [if_neg hw] at h
      exact ih h
/-- The same in a region that draws its order and only reads. -/
theorem WQ.done {C : World → Prop} {Q : Env → Prop} (h : Q env) : WQ P ops C Q [] env := h
theorem WQ.val {C : World → Prop} {Q : Env → Prop} (h : ∀ w, C w → Yl P env op ty w v w) (k : WQ P ops C Q rest (upd env d v)) : WQ P ops C Q (⟨some d, op, ty, pos, aft, none⟩ :: rest) env := by
  unfold WQ
  rw [if_pos (wanted_none _ rfl _)]
  exact ⟨v, fun w hw => .inl (by rw [execOp_bare]; exact h w hw), k⟩
theorem WQ.call {C : World → Prop} {Q : Env → Prop} {f : FuncId} {args : Array Value} (h : ∀ w, C w → Yenter P env op ty w f args) (hc : ∀ w, C w → Calls P f args w fun e w'' => e = .returned v ∧ C w'')
    (k : WQ P ops C Q rest (upd env d v)) : WQ P ops C Q (⟨some d, op, ty, pos, aft, none⟩ :: rest) env := by
  unfold WQ
  rw [if_pos (wanted_none _ rfl _)]
  exact ⟨v, fun w hw => .inr ⟨f, args, by rw [execOp_bare]; exact h w hw, hc w hw⟩, k⟩
theorem WQ.on {C : World → Prop} {Q : Env → Prop} {j : Nat} {b : Bool} {x : Nat} (hj : (ops[j]?).bind (·.dst) = some x) (hx : env x = .bool b) (k : WQ P ops C Q (⟨dst, op, ty, pos, aft, none⟩ :: rest) env) :
    WQ P ops C Q (⟨dst, op, ty, pos, aft, some (j, b)⟩ :: rest) env := by
  unfold WQ at *
  rw [if_pos (wanted_none _ rfl _)] at k
  have hw : Region.wanted ⟨dst, op, ty, pos, aft, some (j, b)⟩ (yieldedE ops env) = true := by
    unfold Region.wanted yieldedE
    simp only [hj, hx]
    simp
  rw [if_pos hw]
  unfold quietE at *
  rw [execOp_bare] at k
  rw [execOp_bare]
  exact k
theorem WQ.off {C : World → Prop} {Q : Env → Prop} {j : Nat} {b : Bool} {x : Nat} (hj : (ops[j]?).bind (·.dst) = some x) (hx : env x = .bool (!b)) (k : WQ P ops C Q rest (putE env dst undef)) :
    WQ P ops C Q (⟨dst, op, ty, pos, aft, some (j, b)⟩ :: rest) env := by
  unfold WQ
  have hw : Region.wanted ⟨dst, op, ty, pos, aft, some (j, b)⟩ (yieldedE ops env) = false := by
    unfold Region.wanted yieldedE
    simp only [hj, hx]
    cases b <;> simp
  rw [hw]
  exact k
theorem WQ.off' {C : World → Prop} {Q : Env → Prop} {j : Nat} {b : Bool} {x : Nat} (hj : (ops[j]?).bind (·.dst) = some x) (hx : env x = undef) (k : WQ P ops C Q rest (putE env dst undef)) :
    WQ P ops C Q (⟨dst, op, ty, pos, aft, some (j, b)⟩ :: rest) env := by
  unfold WQ
  have hw : Region.wanted ⟨dst, op, ty, pos, aft, some (j, b)⟩ (yieldedE ops env) = false := by
    unfold Region.wanted yieldedE
    simp only [hj, hx]
    cases b <;> rfl
  rw [hw]
  exact k
theorem WQ.cut {C : World → Prop} {Q : Env → Prop} {l : List Oper} (M : Env → Prop) (h : WQ P ops C M l env) (k : ∀ env, M env → Q env) : WQ P ops C Q l env := by
  induction l generalizing env with
  | nil => exact k _ h
  | cons o rest ih =>
    unfold WQ at h ⊢
    split
    · rename_i hw
      rw [if_pos hw] at h
      obtain ⟨v, h1, h2⟩ := h
      exact ⟨v, h1, ih h2⟩
    · rename_i hw
      rw [if_neg hw] at h
      exact ih h
/-- A mid relation between two pieces of code. -/
theorem W.seqM {N : Nat} {x y : Code} (M : Env → World → Prop) (h : W P N x (thenE M Q) env w) (k : ∀ env w, M env w → W P N y Q env w) : W P N (.seq x y) Q env w :=
  W.seq (W.mono h fun e env' w' hq => by cases e <;> first | exact k _ _ hq | exact hq)
end steps

section yields
variable {P : Program} {env : Env} {w w' : World} {ty t t' : TypeId} {x y c a b : Operand} {v : Value} {k : IntKind} {m n r : Int}
theorem Yl.move (h : ev env x = v) : Yl P env (.move x) ty w v w := by subst h; rfl
theorem Yl.assign (h : ev env x = v) : Yl P env (.assign x) ty w v w := by subst h; rfl
theorem Yl.pickT (hc : ev env c = .bool true) (h : ev env a = v) : Yl P env (.pick c a b) ty w v w := by
  subst h
  show (execOp (ev env) _).run P w = _
  simp [execOp, hc, asBool]
theorem Yl.pickF (hc : ev env c = .bool false) (h : ev env b = v) : Yl P env (.pick c a b) ty w v w := by
  subst h
  show (execOp (ev env) _).run P w = _
  simp [execOp, hc, asBool]
theorem Yl.bin {op : BinOp} {u : Value} (hx : ev env x = .int k m) (hy : ev env y = .int k n) (h : (binOp op t (.int k m) (.int k n)).run P w = .ok u w) : Yl P env (.binOp op t x y t') ty w u w := by
  show (execOp (ev env) _).run P w = _
  have hg : (eqGuard op t x y (.int k m) (.int k n)).run P w = .ok () w := by
    unfold eqGuard
    cases op <;> rfl
  simp [execOp, hx, hy, hg, h]
theorem Yl.add (hx : ev env x = .int k m) (hy : ev env y = .int k n) (hr : k.wrap (m + n) = r) : Yl P env (.binOp .add t x y t') ty w (.int k r) w :=
  Yl.bin hx hy (by subst hr; simp [binOp, Op.intArith])
theorem Yl.sub (hx : ev env x = .int k m) (hy : ev env y = .int k n) (hr : k.wrap (m - n) = r) : Yl P env (.binOp .sub t x y t') ty w (.int k r) w :=
  Yl.bin hx hy (by subst hr; simp [binOp, Op.intArith])
theorem Yl.mul (hx : ev env x = .int k m) (hy : ev env y = .int k n) (hr : k.wrap (m * n) = r) : Yl P env (.binOp .mul t x y t') ty w (.int k r) w :=
  Yl.bin hx hy (by subst hr; simp [binOp, Op.intArith])
theorem Yl.quo (hx : ev env x = .int k m) (hy : ev env y = .int k n) (hn : n ≠ 0) (hr : k.wrap (m.tdiv n) = r) : Yl P env (.binOp .quo t x y t') ty w (.int k r) w :=
  Yl.bin hx hy (by subst hr; simp [binOp, Op.intDiv, hn])
theorem Yl.rem (hx : ev env x = .int k m) (hy : ev env y = .int k n) (hn : n ≠ 0) (hr : m.tmod n = r) : Yl P env (.binOp .rem t x y t') ty w (.int k r) w :=
  Yl.bin hx hy (by subst hr; simp [binOp, Op.intDiv, hn])
theorem Yl.lss {q : Bool} (hx : ev env x = .int k m) (hy : ev env y = .int k n) (hr : decide (m < n) = q) : Yl P env (.binOp .lss t x y t') ty w (.bool q) w :=
  Yl.bin hx hy (by subst hr; simp [binOp, Op.intCmp])
theorem Yl.leq {q : Bool} (hx : ev env x = .int k m) (hy : ev env y = .int k n) (hr : decide (m ≤ n) = q) : Yl P env (.binOp .leq t x y t') ty w (.bool q) w :=
  Yl.bin hx hy (by subst hr; simp [binOp, Op.intCmp])
theorem Yl.gtr {q : Bool} (hx : ev env x = .int k m) (hy : ev env y = .int k n) (hr : decide (m > n) = q) : Yl P env (.binOp .gtr t x y t') ty w (.bool q) w :=
  Yl.bin hx hy (by subst hr; simp [binOp, Op.intCmp])
theorem Yl.geq {q : Bool} (hx : ev env x = .int k m) (hy : ev env y = .int k n) (hr : decide (m ≥ n) = q) : Yl P env (.binOp .geq t x y t') ty w (.bool q) w :=
  Yl.bin hx hy (by subst hr; simp [binOp, Op.intCmp])
theorem beq_dec (m n : Int) : (m == n) = decide (m = n) := rfl
theorem bne_dec (m n : Int) : (m != n) = !decide (m = n) := rfl
theorem Yl.eql {q : Bool} (hx : ev env x = .int k m) (hy : ev env y = .int k n) (hr : decide (m = n) = q) : Yl P env (.binOp .eql t x y t') ty w (.bool q) w :=
  Yl.bin hx hy (by subst hr; simp [binOp, Op.intCmp, beq_dec])
theorem Yl.neq {q : Bool} (hx : ev env x = .int k m) (hy : ev env y = .int k n) (hr : (!decide (m = n)) = q) : Yl P env (.binOp .neq t x y t') ty w (.bool q) w :=
  Yl.bin hx hy (by subst hr; simp [binOp, Op.intCmp, bne_dec])
/-- bits: &, |, ^, &^ as the model has them -/
def bitsOp (op : BinOp) (k : IntKind) (m n : Int) : Int :=
  match op with
  | .and => k.wrap (BitVec.ofInt k.bits m &&& BitVec.ofInt k.bits n).toNat
  | .or => k.wrap (BitVec.ofInt k.bits m ||| BitVec.ofInt k.bits n).toNat
  | .xor => k.wrap (BitVec.ofInt k.bits m ^^^ BitVec.ofInt k.bits n).toNat
  | _ => k.wrap (BitVec.ofInt k.bits m &&& ~~~ BitVec.ofInt k.bits n).toNat
theorem Yl.and (hx : ev env x = .int k m) (hy : ev env y = .int k n) (hr : bitsOp .and k m n = r) : Yl P env (.binOp .and t x y t') ty w (.int k r) w :=
  Yl.bin hx hy (by subst hr; simp [binOp, Op.intBits, bitsOp])
theorem Yl.or (hx : ev env x = .int k m) (hy : ev env y = .int k n) (hr : bitsOp .or k m n = r) : Yl P env (.binOp .or t x y t') ty w (.int k r) w :=
  Yl.bin hx hy (by subst hr; simp [binOp, Op.intBits, bitsOp])
theorem Yl.xor (hx : ev env x = .int k m) (hy : ev env y = .int k n) (hr : bitsOp .xor k m n = r) : Yl P env (.binOp .xor t x y t') ty w (.int k r) w :=
  Yl.bin hx hy (by subst hr; simp [binOp, Op.intBits, bitsOp])
theorem Yl.andNot (hx : ev env x = .int k m) (hy : ev env y = .int k n) (hr : bitsOp .andNot k m n = r) : Yl P env (.binOp .andNot t x y t') ty w (.int k r) w :=
  Yl.bin hx hy (by subst hr; simp [binOp, Op.intBits, bitsOp])
def shlOp (k : IntKind) (m n : Int) : Int := k.wrap (m * 2 ^ (min n.toNat k.bits))
def shrOp (k : IntKind) (m n : Int) : Int := m.fdiv (2 ^ (min n.toNat k.bits))
theorem Yl.shl {k' : IntKind} (hx : ev env x = .int k m) (hy : ev env y = .int k' n) (h0 : 0 ≤ n) (hr : shlOp k m n = r) : Yl P env (.binOp .shl t x y t') ty w (.int k r) w := by
  subst hr
  show (execOp (ev env) _).run P w = _
  have hg : (eqGuard .shl t x y (.int k m) (.int k' n)).run P w = .ok () w := rfl
  have hn : ¬ n < 0 := by omega
  simp [execOp, hx, hy, hg, binOp, Op.shift, hn, shlOp]
theorem Yl.shr {k' : IntKind} (hx : ev env x = .int k m) (hy : ev env y = .int k' n) (h0 : 0 ≤ n) (hr : shrOp k m n = r) : Yl P env (.binOp .shr t x y t') ty w (.int k r) w := by
  subst hr
  show (execOp (ev env) _).run P w = _
  have hg : (eqGuard .shr t x y (.int k m) (.int k' n)).run P w = .ok () w := rfl
  have hn : ¬ n < 0 := by omega
  simp [execOp, hx, hy, hg, binOp, Op.shift, hn, shrOp]
theorem Yl.not {p q : Bool} (hx : ev env x = .bool p) (hr : (!p) = q) : Yl P env (.unOp .not t x) ty w (.bool q) w := by
  subst hr
  show (execOp (ev env) _).run P w = _
  simp [execOp, hx, Op.unary]
theorem Yl.neg (hx : ev env x = .int k m) (hr : k.wrap (0 - m) = r) : Yl P env (.unOp .neg t x) ty w (.int k r) w := by
  subst hr
  show (execOp (ev env) _).run P w = _
  simp [execOp, hx, Op.unary, Op.intArith]
def notOp (k : IntKind) (m : Int) : Int := bitsOp .xor k (if k.signed then -1 else k.max) m
theorem Yl.com (hx : ev env x = .int k m) (hr : notOp k m = r) : Yl P env (.unOp .xor t x) ty w (.int k r) w := by
  subst hr
  show (execOp (ev env) _).run P w = _
  simp [execOp, hx, Op.unary, Op.intBits, notOp, bitsOp]
theorem Yl.beql {p q s : Bool} (hx : ev env x = .bool p) (hy : ev env y = .bool q) (h : ∀ w : World, (Op.equal t (.bool p) (.bool q)).run P w = .ok s w) : Yl P env (.binOp .eql t x y t') ty w (.bool s) w := by
  show (execOp (ev env) _).run P w = _
  have hg : (eqGuard .eql t x y (.bool p) (.bool q)).run P w = .ok () w := rfl
  simp [execOp, hx, hy, hg, binOp, h]
theorem Yl.bneq {p q s : Bool} (hx : ev env x = .bool p) (hy : ev env y = .bool q) (h : ∀ w : World, (Op.equal t (.bool p) (.bool q)).run P w = .ok (!s) w) : Yl P env (.binOp .neq t x y t') ty w (.bool s) w := by
  show (execOp (ev env) _).run P w = _
  have hg : (eqGuard .neq t x y (.bool p) (.bool q)).run P w = .ok () w := rfl
  simp [execOp, hx, hy, hg, binOp, h]
/-- int to int -/
theorem Yl.conv {k' : IntKind} (hx : ev env x = .int k m) {u : TypeDesc} (hs : P.underlying t = some u) (hd : P.underlying t' = some (.int k')) (hr : k'.wrap m = r) : Yl P env (.convert t t' x) ty w (.int k' r) w := by
  subst hr
  show (execOp (ev env) _).run P w = _
  simp [execOp, hx, convert, run_underlying hs, run_underlying hd, Conv.intToInt]
theorem Yl.len {A : Option Addr} {l q : Nat} {e : TypeId} (hx : ev env x = .slice A l q) (ht : P.underlying t = some (.slice e)) : Yl P env (.call { callee := .builtin .len, args := #[x], argTypes := #[t] }) ty w (.int .i64 (l : Int)) w := by
  show (execOp (ev env) _).run P w = _
  simp [execOp, resolve, invoke, builtin, Builtin.len_, hx, run_underlying ht, goInt]
theorem Yl.lenStr {s : ByteArray} (hx : ev env x = .string s) (ht : P.underlying t = some .string) : Yl P env (.call { callee := .builtin .len, args := #[x], argTypes := #[t] }) ty w (.int .i64 (s.size : Int)) w := by
  show (execOp (ev env) _).run P w = _
  simp [execOp, resolve, invoke, builtin, Builtin.len_, hx, run_underlying ht, goInt]
theorem Yl.min2 (hx : ev env x = .int k m) (hy : ev env y = .int k n) (hr : (if n < m then n else m) = r) : Yl P env (.call { callee := .builtin .min, args := #[x, y], argTypes := #[t, t'] }) ty w (.int k r) w := by
  subst hr
  show (execOp (ev env) _).run P w = _
  simp [execOp, resolve, invoke, builtin, Builtin.min_, hx, hy, Builtin.min2]
theorem Yl.max2 (hx : ev env x = .int k m) (hy : ev env y = .int k n) (hr : (if n > m then n else m) = r) : Yl P env (.call { callee := .builtin .max, args := #[x, y], argTypes := #[t, t'] }) ty w (.int k r) w := by
  subst hr
  show (execOp (ev env) _).run P w = _
  simp [execOp, resolve, invoke, builtin, Builtin.max_, hx, hy, Builtin.max2]
theorem Yl.extract {vs : Array Value} {i : Nat} (hx : ev env x = .tuple vs) (hi : vs[i]? = some v) : Yl P env (.extract x i) ty w v w := by
  show (execOp (ev env) _).run P w = _
  simp [execOp, hx, Instr.extract, hi]
theorem Yl.nilCheck {ad : Addr} (hx : ev env x = .pointer (some ad)) : Yl P env (.nilCheck x) ty w (.pointer (some ad)) w := by
  show (execOp (ev env) _).run P w = _
  simp [execOp, hx]
/-! #### addresses -/
theorem Yl.indexAddr {ad : Addr} {l q sz : Nat} {e : TypeId} {i : Int} (hx : ev env x = .slice (some ad) l q) (hy : ev env y = .int k i) (ht : P.underlying t = some (.slice e)) (hs : (P.info? e).map (·.size) = some sz) (h0 : 0 ≤ i) (h1 : i < (l : Int)) :
    Yl P env (.indexAddr t x y) ty w (.pointer (some (ad.add (i.toNat * sz)))) w := by
  obtain ⟨inf, hi, rfl⟩ := Option.map_eq_some_iff.1 hs
  show (execOp (ev env) _).run P w = _
  simp [execOp, hx, hy, Instr.indexAt, asIntOf, run_underlying ht, sizeOf, typeInfo, hi, h0, h1]
theorem add_of (b off n : Nat) : (⟨b, off, none⟩ : Addr).add n = ⟨b, off + n, none⟩ := by
  unfold Addr.add
  split
  · rename_i h; rw [h, Nat.add_zero]
  · rfl
theorem Yl.indexArr {ad : Addr} {l sz : Nat} {e : TypeId} {i : Int} (hx : ev env x = .pointer (some ad)) (hy : ev env y = .int k i) (ht : P.underlying t = some (.array l e)) (hs : (P.info? e).map (·.size) = some sz) (h0 : 0 ≤ i) (h1 : i < (l : Int)) :
    Yl P env (.indexAddr t x y) ty w (.pointer (some (ad.add (i.toNat * sz)))) w := by
  obtain ⟨inf, hi, rfl⟩ := Option.map_eq_some_iff.1 hs
  show (execOp (ev env) _).run P w = _
  simp [execOp, hx, hy, Instr.indexAt, Instr.sureAddr, asIntOf, run_underlying ht, sizeOf, typeInfo, hi, h0, h1]
/-! #### loads -/
def aggD : TypeDesc → Bool
  | .struct _ => true
  | .array _ _ => true
  | _ => false
theorem run_loadCells (a : Addr) (cs : List Value) (h : ∀ j u, cs[j]? = some u → w.cell? (a.add j) = some u) : (loadCells a cs.length).run P w = .ok cs.toArray w := by
  have := run_firstCells_some (P := P) w 1 cs.length a cs.length cs.length cs (by omega) h
  simpa [Builtin.firstCells] using this
theorem run_loadVar_agg {d : TypeDesc} (hu : P.underlying t = some d) (hd : aggD d = true) (a : Addr) (cs : List Value) (hs : (P.info? t).map (·.size) = some cs.length)
    (h : ∀ j u, cs[j]? = some u → w.cell? (a.add j) = some u) : (loadVar t a).run P w = .ok (.agg cs.toArray) w := by
  obtain ⟨inf, hi, hsz⟩ := Option.map_eq_some_iff.1 hs
  have hl := run_loadCells (P := P) a cs h
  rw [← hsz] at hl
  cases d <;> simp [aggD] at hd <;> simp [loadVar, isAgg, run_underlying hu, sizeOf, typeInfo, hi, hl]
theorem run_loadVar_one {d : TypeDesc} (hu : P.underlying t = some d) (hd : aggD d = false) (a : Addr) (h : w.cell? a = some v) : (loadVar t a).run P w = .ok v w := by
  cases d <;> simp [aggD] at hd <;> simp [loadVar, isAgg, run_underlying hu, h]
theorem Yl.load {d : TypeDesc} {ad : Addr} (hx : ev env x = .pointer (some ad)) (hu : P.underlying t = some d) (hd : aggD d = false) (h : w.cell? ad = some v) : Yl P env (.load t x) ty w v w := by
  show (execOp (ev env) _).run P w = _
  have := run_loadVar_one (P := P) hu hd ad h
  simp [execOp, hx, Instr.loadAt, Instr.sureAddr, this]
theorem Yl.loadAgg {d : TypeDesc} {ad : Addr} {cs : List Value} (hx : ev env x = .pointer (some ad)) (hu : P.underlying t = some d) (hd : aggD d = true) (hs : (P.info? t).map (·.size) = some cs.length)
    (h : ∀ j u, cs[j]? = some u → w.cell? (ad.add j) = some u) : Yl P env (.load t x) ty w (.agg cs.toArray) w := by
  show (execOp (ev env) _).run P w = _
  have := run_loadVar_agg (P := P) hu hd ad cs hs h
  simp [execOp, hx, Instr.loadAt, Instr.sureAddr, this]
/-! #### calls -/
theorem Yenter.fn {f : FuncId} {fn : Func} {as : Array Operand} {ts : Array TypeId} {args : Array Value} (hf : P.funcs[f]? = some fn) (hn : (fn.name == "runtime.NumGoroutine") = false) (hb : fn.body.isSome = true) (ha : as.map (ev env) = args) :
    Yenter P env (.call { callee := .value (.func f), args := as, argTypes := ts }) ty w f args := by
  subst ha
  show (execOp (ev env) _).run P w = _
  have hb' : ¬ fn.body = none := by cases h : fn.body <;> simp_all
  have hn' : ¬ fn.name = "runtime.NumGoroutine" := by simpa using hn
  simp [execOp, resolve, ev, Deferred.ofValue, invoke, callFunc, hf, hn', hb']
end yields
end Go.WG
namespace Go.WG
/-! What a printed walk closes its ways with. -/
section
variable {P : Program} {N : Nat} {Q : Exit → Env → World → Prop} {next : Env → World → Prop} {env : Env} {w : World}
theorem thenE_n (h : next env w) : thenE next Q .normal env w := h
theorem thenE_x {id : Nat} (h : Q (.exit id) env w) : thenE next Q (.exit id) env w := h
theorem thenE_r (h : Q .ret env w) : thenE next Q .ret env w := h
theorem inB_n {id : Nat} (h : Q .normal env w) : inBlockE id Q .normal env w := h
theorem inB_r {id : Nat} (h : Q .ret env w) : inBlockE id Q .ret env w := h
theorem inB_here {id : Nat} (h : Q .normal env w) : inBlockE id Q (.exit id) env w := by
  show cond (Nat.beq id id) (Q .normal env w) (Q (.exit id) env w)
  rw [Nat.beq_refl]
  exact h
theorem inB_x {id id' : Nat} (hn : Nat.beq id' id = false) (h : Q (.exit id') env w) : inBlockE id Q (.exit id') env w := by
  show cond (Nat.beq id' id) (Q .normal env w) (Q (.exit id') env w)
  rw [hn]
  exact h
theorem post_r {fn : Func} {R : Ending → World → Prop} {v : Value} (hr : resE fn env w P v) (h : R (.returned v) w) : postE P fn R .ret env w := ⟨v, hr, h⟩
theorem post_n {fn : Func} {R : Ending → World → Prop} {v : Value} (hr : resE fn env w P v) (h : R (.returned v) w) : postE P fn R .normal env w := ⟨v, hr, h⟩
theorem iteE {α : Type} {c : Prop} [Decidable c] {x y : Option α} {r : α} (h : (if c then x else y) = some r) : (c ∧ x = some r) ∨ (¬ c ∧ y = some r) := by
  split at h
  · exact .inl ⟨‹_›, h⟩
  · exact .inr ⟨‹_›, h⟩
theorem guardE {α : Type} {c : Prop} [Decidable c] {x : Option α} {r : α} (h : (if c then x else none) = some r) : c ∧ x = some r := by
  split at h
  · exact ⟨‹_›, h⟩
  · cases h
theorem bindE {α β : Type} {a : Option α} {f : α → Option β} {r : β} (h : a.bind f = some r) : ∃ x, a = some x ∧ f x = some r := Option.bind_eq_some_iff.1 h
theorem getD_some {α : Type} {xs : List α} {d : α} {j : Nat} (h : j < xs.length) : xs[j]? = some (xs.getD j d) := by simp [h]
/-- Several values' evidence: a call's arguments. -/
inductive Evs (env : Env) : List Operand → List Value → Prop
  | nil : Evs env [] []
  | cons {x : Operand} {v : Value} {xs : List Operand} {vs : List Value} (h : ev env x = v) (t : Evs env xs vs) : Evs env (x :: xs) (v :: vs)
theorem argsE {xs : List Operand} {vs : List Value} (h : Evs env xs vs) : xs.toArray.map (ev env) = vs.toArray := by
  have : xs.map (ev env) = vs := by
    induction h with
    | nil => rfl
    | cons h _ ih => rw [List.map_cons, h, ih]
  simp [this]
end
/-! whole numbers, wrapped -/
def wi8 (x : Int) : Int := IntKind.i8.wrap x
def wi16 (x : Int) : Int := IntKind.i16.wrap x
def wi32 (x : Int) : Int := IntKind.i32.wrap x
def wi64 (x : Int) : Int := IntKind.i64.wrap x
def wu8 (x : Int) : Int := IntKind.u8.wrap x
def wu16 (x : Int) : Int := IntKind.u16.wrap x
def wu32 (x : Int) : Int := IntKind.u32.wrap x
def wu64 (x : Int) : Int := IntKind.u64.wrap x
theorem wi64_id {x : Int} (h0 : -9223372036854775808 ≤ x) (h1 : x < 9223372036854775808) : wi64 x = x := by
  unfold wi64 IntKind.wrap
  simp [IntKind.bits, IntKind.signed]
  omega
theorem wu64_eq (x : Int) : wu64 x = x % 18446744073709551616 := by unfold wu64 IntKind.wrap; simp [IntKind.bits, IntKind.signed]
theorem wu32_eq (x : Int) : wu32 x = x % 4294967296 := by unfold wu32 IntKind.wrap; simp [IntKind.bits, IntKind.signed]
theorem wu8_eq (x : Int) : wu8 x = x % 256 := by unfold wu8 IntKind.wrap; simp [IntKind.bits, IntKind.signed]
section
variable {P : Program} {env : Env} {w : World} {ty t : TypeId} {x y : Operand} {v : Value} {k : IntKind}
/-- An element's address, the slice's row known. -/
theorem Yl.elemAddr {A : Option Addr} {b off l q sz : Nat} {e : TypeId} {i : Int} (hx : ev env x = .slice A l q) (hy : ev env y = .int k i) (hA : A = some ⟨b, off, none⟩) (ht : P.underlying t = some (.slice e)) (hs : (P.info? e).map (·.size) = some sz) (h : 0 ≤ i ∧ i < (l : Int)) :
    Yl P env (.indexAddr t x y) ty w (.pointer (some ⟨b, off + i.toNat * sz, none⟩)) w := by
  subst hA
  have := Yl.indexAddr (P := P) (w := w) (ty := ty) hx hy ht hs h.1 h.2
  rwa [add_of] at this
theorem Yl.arrAddr {b off l sz : Nat} {e : TypeId} {i : Int} (hx : ev env x = .pointer (some ⟨b, off, none⟩)) (hy : ev env y = .int k i) (ht : P.underlying t = some (.array l e)) (hs : (P.info? e).map (·.size) = some sz) (h : 0 ≤ i ∧ i < (l : Int)) :
    Yl P env (.indexAddr t x y) ty w (.pointer (some ⟨b, off + i.toNat * sz, none⟩)) w := by
  have := Yl.indexArr (P := P) (w := w) (ty := ty) hx hy ht hs h.1 h.2
  rwa [add_of] at this
theorem Yl.fieldAddr {b off : Nat} {fs : Array Field} {f : Field} {i sz : Nat} (hx : ev env x = .pointer (some ⟨b, off, none⟩)) (ht : P.underlying t = some (.struct fs)) (hf : fs[i]? = some f) (hs : (P.info? f.type).map (·.size) = some (sz + 1)) :
    Yl P env (.fieldAddr t x i) ty w (.pointer (some ⟨b, off + f.offset, none⟩)) w := by
  obtain ⟨inf, hi, hsz⟩ := Option.map_eq_some_iff.1 hs
  show (execOp (ev env) _).run P w = _
  simp [execOp, hx, Instr.fieldAt, Instr.sureAddr, run_underlying ht, hf, fieldPlace, typeInfo, sizeOf, hi, hsz, add_of]
theorem Yl.field1 {cs : List Value} {fs : Array Field} {f : Field} {d : TypeDesc} {i : Nat} (hx : ev env x = .agg cs.toArray) (ht : P.underlying t = some (.struct fs)) (hf : fs[i]? = some f) (hu : P.underlying f.type = some d) (hd : aggD d = false) (hc : cs[f.offset]? = some v) :
    Yl P env (.field t x i) ty w v w := by
  show (execOp (ev env) _).run P w = _
  cases d <;> simp [aggD] at hd <;> simp [execOp, hx, Instr.field, run_underlying ht, hf, asAgg, part, isAgg, run_underlying hu, hc]
theorem Yl.fieldAgg {cs ds : List Value} {fs : Array Field} {f : Field} {d : TypeDesc} {i : Nat} (hx : ev env x = .agg cs.toArray) (ht : P.underlying t = some (.struct fs)) (hf : fs[i]? = some f) (hu : P.underlying f.type = some d) (hd : aggD d = true) (hs : (P.info? f.type).map (·.size) = some ds.length) (hc : (cs.drop f.offset).take ds.length = ds) :
    Yl P env (.field t x i) ty w (.agg ds.toArray) w := by
  obtain ⟨inf, hi, hsz⟩ := Option.map_eq_some_iff.1 hs
  show (execOp (ev env) _).run P w = _
  cases d <;> simp [aggD] at hd <;> simp [execOp, hx, Instr.field, run_underlying ht, hf, asAgg, part, isAgg, run_underlying hu, sizeOf, typeInfo, hi, hsz, hc]
end
end Go.WG
