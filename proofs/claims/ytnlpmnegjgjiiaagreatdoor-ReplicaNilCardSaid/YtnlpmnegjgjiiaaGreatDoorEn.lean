/- A region that draws its order: whatever order is drawn, it comes to what the closed run says. -/
import Derived.Test.YtnlpmnegjgjiiaaGreatDoorEm
import Derived.Test.YtnlpmnegjgjiiaaGreatDoorLs
namespace Go.CE
open Go Go.RowKit
set_option linter.all false
theorem hb_eq (h d : Nat) : hb h d = h.testBit d := by
  unfold hb
  rw [Nat.testBit_eq_decide_div_mod_eq]
  have e1 : Nat.shiftRight h d = h / 2 ^ d := by show h >>> d = _; rw [Nat.shiftRight_eq_div_pow]
  have e2 : Nat.land (Nat.shiftRight h d) 1 = h / 2 ^ d % 2 := by rw [e1]; show _ &&& 1 = _; exact Nat.and_one_is_mod _
  rw [e2, Bool.eq_iff_iff, nbeq, decide_eq_true_iff]
noncomputable def bit1 (s i : Nat) : Nat := Nat.lor s (Nat.pow 2 i)
theorem hb_bit1 (s i k : Nat) : hb (bit1 s i) k = (hb s k || decide (i = k)) := by
  rw [hb_eq, hb_eq]
  show (s ||| 2 ^ i).testBit k = _
  rw [Nat.testBit_or, Nat.testBit_two_pow]
theorem hb_sub {m s k : Nat} (h : Nat.beq (Nat.lor m s) s = true) (hk : hb m k = true) : hb s k = true := by
  have h := nbeq.1 h
  rw [hb_eq] at hk ⊢
  rw [← h]
  show (m ||| s).testBit k = true
  rw [Nat.testBit_or, hk]
  rfl
/-! What is asked of a region that draws its order: checked once, by the kernel. -/
noncomputable def allN {α : Type} (p : α → Bool) (l : List α) : Bool := List.rec true (fun h _ g => cond (p h) g false) l
noncomputable def anyN {α : Type} (p : α → Bool) (l : List α) : Bool := List.rec false (fun h _ g => cond (p h) true g) l
noncomputable def allI {α : Type} (p : Nat → α → Bool) (l : List α) : Nat → Bool := List.rec (fun _ => true) (fun h _ g i => cond (p i h) (g (Nat.succ i)) false) l
noncomputable def tmpsX (x : Operand) (l : List Nat) : List Nat := Operand.rec (fun t => t :: l) (fun _ => l) (fun _ => l) (fun _ => l) x
noncomputable def tmpsO (xs : List Operand) (l : List Nat) : List Nat := List.rec l (fun x _ g => tmpsX x g) xs
/-- The slots that an operation looks at. -/
noncomputable def uses (ops : List Oper) (o : Oper) : List Nat := tmpsO (opsOf o.op) (oe o.guard [] fun q => oe (nth ops q.1) [] fun p => oe p.dst [] fun d => [d])
noncomputable def mkAt (ord : List (Nat × Nat)) (k : Nat) : Nat := oe (look ord k) 0 fun m => m
noncomputable def dstIs (o : Oper) (t : Nat) : Bool := oe o.dst false fun d => Nat.beq d t
/-- May it do something? -/
noncomputable def cvH (P : Program) (d : Nat) : Bool := oe (P.underlying d) true fun dd => cond (strD dd) false (oe (intD dd) true fun _ => false)
noncomputable def biH (b : Builtin) : Bool := Builtin.rec true false true true true true true true false true false false true true true true true true true true true true true true true true b
noncomputable def clH (c : Call) : Bool := Callee.rec (fun _ => true) (fun _ _ => true) biH c.callee
noncomputable def heavy (P : Program) (o : Op) : Bool := Op.rec (fun _ => false) (fun _ => false) (fun _ _ _ => false) (fun _ => false) (fun _ _ => false) (fun _ _ => false) (fun _ _ _ => false) (fun _ _ _ _ => true) (fun _ _ => false) (fun _ _ _ => true) (fun _ => true) (fun _ => true) (fun _ => false)
  (fun _ _ _ _ _ => false) (fun _ _ _ => false) (fun _ d _ => cvH P d) (fun _ _ => true) (fun _ _ => false) (fun _ _ _ => false) (fun _ _ => false) (fun _ _ => true) (fun _ _ _ => false) (fun _ _ _ _ _ => false) (fun _ _ _ => false) (fun _ _ _ => false) (fun _ _ _ => false) (fun _ _ _ => false) (fun _ _ _ _ => false)
  (fun _ _ _ _ => true) (fun _ _ _ => true) (fun _ _ _ _ => true) (fun _ _ => true) (fun _ _ => true) (fun _ => true) (fun _ _ _ _ => false) (fun _ _ => false) clH (fun _ => true) (fun _ => true) (fun _ => true) (fun _ _ => true) (fun _ _ _ => true) (fun _ _ => true) o
noncomputable def staOp (N n : Nat) (ops : List Oper) (ord : List (Nat × Nat)) (i : Nat) (o : Oper) : Bool :=
  cond (allN (fun e => cond (Region.binds .any e) (Nat.blt e.on i) true) o.after.toList)
    (cond (oe o.dst true fun d => Nat.blt d N)
      (cond (Nat.blt (mkAt ord i) (Nat.pow 2 n))
        (cond (allI (fun k _ => cond (hb (mkAt ord i) k) (anyN (fun e => cond (Region.binds .any e) (or2 (Nat.beq e.on k) (hb (mkAt ord e.on) k)) false) o.after.toList) true) ops 0)
          (cond (allN (fun t => allI (fun k p => cond (dstIs p t) (hb (mkAt ord i) k) true) ops 0) (uses ops o))
            (oe o.dst true fun d => allI (fun k p => cond (dstIs p d) (Nat.beq i k) true) ops 0) false) false) false) false) false
noncomputable def ordOk (P : Program) (ops : List Oper) (mk : Nat → Nat) (ord : List (Nat × Nat)) : Nat → Nat → Bool :=
  List.rec (fun s _ => allI (fun k _ => hb s k) ops 0) (fun q _ g s hs => cond (Nat.beq q.2 (mk q.1)) (cond (hb s q.1) false (oe (nth ops q.1) false fun o =>
    cond (Nat.beq (Nat.lor q.2 s) s) (cond (Nat.beq (Nat.lor hs q.2) q.2) (g (bit1 s q.1) (cond (heavy P o.op) (bit1 hs q.1) hs)) false) false)) false) ord
noncomputable def drawOk (P : Program) (N : Nat) (ops : List Oper) (ord : List (Nat × Nat)) : Bool := cond (allI (staOp N (len ops) ops ord) ops 0) (ordOk P ops (mkAt ord) ord 0 0) false
section
variable {α : Type}
theorem allN_t {p : α → Bool} {l : List α} (h : allN p l = true) : ∀ x ∈ l, p x = true := by
  induction l with
  | nil => intro x hx; cases hx
  | cons a l ih =>
    obtain ⟨h1, h2⟩ := cond_t.1 (show cond (p a) (allN p l) false = true from h)
    intro x hx
    rcases List.mem_cons.1 hx with rfl | hx
    · exact h1
    · exact ih h2 x hx
theorem anyN_t {p : α → Bool} {l : List α} (h : anyN p l = true) : ∃ x ∈ l, p x = true := by
  induction l with
  | nil => cases h
  | cons a l ih =>
    have h' : cond (p a) true (anyN p l) = true := h
    cases ha : p a with
    | true => exact ⟨a, List.mem_cons_self, ha⟩
    | false =>
      rw [ha] at h'
      obtain ⟨x, h1, h2⟩ := ih h'
      exact ⟨x, List.mem_cons_of_mem _ h1, h2⟩
theorem allI_t {p : Nat → α → Bool} : ∀ {l : List α} {i : Nat}, allI p l i = true → ∀ (k : Nat) (x : α), l[k]? = some x → p (i + k) x = true := by
  intro l
  induction l with
  | nil => intro i h k x hx; simp at hx
  | cons a l ih =>
    intro i h k x hx
    obtain ⟨h1, h2⟩ := cond_t.1 (show cond (p i a) (allI p l (Nat.succ i)) false = true from h)
    cases k with
    | zero => simp at hx; subst hx; exact h1
    | succ k =>
      have := ih h2 k x (by simpa using hx)
      rwa [show i + (k + 1) = Nat.succ i + k by omega]
end
theorem tmpsO_mem {xs : List Operand} {l : List Nat} : (∀ t, Operand.tmp t ∈ xs → t ∈ tmpsO xs l) ∧ ∀ t ∈ l, t ∈ tmpsO xs l := by
  induction xs with
  | nil => exact ⟨fun t h => (by cases h), fun t h => h⟩
  | cons x xs ih =>
    have hc : ∀ t, t ∈ tmpsO xs l → t ∈ tmpsO (x :: xs) l := fun t ht => by
      show t ∈ tmpsX x (tmpsO xs l)
      cases x with
      | tmp t' => exact List.mem_cons_of_mem _ ht
      | _ => exact ht
    refine ⟨fun t ht => ?_, fun t ht => hc t (ih.2 t ht)⟩
    rcases List.mem_cons.1 ht with h | h
    · subst h
      exact List.mem_cons_self
    · exact hc t (ih.1 t h)
/-- The facts of the check. -/
structure Sta (P : Program) (N : Nat) (ops : Array Oper) (mk : Nat → Nat) : Prop where
  lt : ∀ i o, ops[i]? = some o → ∀ e ∈ o.after, Region.binds .any e = true → e.on < i
  dst : ∀ (i : Nat) (o : Oper), ops[i]? = some o → WG.dstOk N o = true
  msk : ∀ (i : Nat) (o : Oper) (k : Nat), ops[i]? = some o → hb (mk i) k = true → ∃ e ∈ o.after, Region.binds .any e = true ∧ (e.on = k ∨ hb (mk e.on) k = true)
  use : ∀ (i : Nat) (o : Oper) (t : Nat), ops[i]? = some o → t ∈ uses ops.toList o → ∀ (k : Nat) (p : Oper), ops[k]? = some p → p.dst = some t → hb (mk i) k = true
  one : ∀ (i k : Nat) (o p : Oper) (t : Nat), ops[i]? = some o → ops[k]? = some p → o.dst = some t → p.dst = some t → i = k
def OrdOk (P : Program) (ops : Array Oper) (mk : Nat → Nat) : List (Nat × Nat) → Nat → Nat → Prop
  | [], s, _ => ∀ k, k < ops.size → hb s k = true
  | q :: r, s, hs => q.2 = mk q.1 ∧ hb s q.1 = false ∧ ∃ o, ops[q.1]? = some o ∧ (∀ k, hb q.2 k = true → hb s k = true) ∧ (∀ k, hb hs k = true → hb q.2 k = true) ∧ OrdOk P ops mk r (bit1 s q.1) (cond (heavy P o.op) (bit1 hs q.1) hs)
theorem dstIs_t {o : Oper} {t : Nat} (h : o.dst = some t) : dstIs o t = true := by
  unfold dstIs
  rw [h]
  exact Nat.beq_refl t
theorem Sta.of {P : Program} {N : Nat} {ops : Array Oper} {ord : List (Nat × Nat)} (h : allI (staOp N (len ops.toList) ops.toList ord) ops.toList 0 = true) : Sta P N ops (mkAt ord) := by
  have hat : ∀ (i : Nat) (o : Oper), ops[i]? = some o → staOp N (len ops.toList) ops.toList ord i o = true := fun i o ho => by
    have := allI_t h i o (by simpa using ho)
    rwa [Nat.zero_add] at this
  refine ⟨fun i o ho e he hbe => ?_, fun i o ho => ?_, fun i o k ho hk => ?_, fun i o t ho ht k p hp hd => ?_, fun i k o p t ho hp hd hd' => ?_⟩
  · obtain ⟨h1, _⟩ := cond_t.1 (hat i o ho)
    have := allN_t h1 e (by simpa using he)
    rw [hbe, cond_true, Nat.blt_eq] at this
    exact this
  · obtain ⟨_, h1⟩ := cond_t.1 (hat i o ho)
    obtain ⟨h2, _⟩ := cond_t.1 h1
    unfold WG.dstOk
    cases hd : o.dst with
    | none => rfl
    | some d =>
      rw [hd] at h2
      have h3 : Nat.blt d N = true := h2
      rw [Nat.blt_eq] at h3
      simpa using h3
  · obtain ⟨_, h1⟩ := cond_t.1 (hat i o ho)
    obtain ⟨_, h2⟩ := cond_t.1 h1
    obtain ⟨h3, h4⟩ := cond_t.1 h2
    obtain ⟨h5, _⟩ := cond_t.1 h4
    rw [Nat.blt_eq] at h3
    have hkn : k < ops.size := by
      rcases Nat.lt_or_ge k ops.size with hlt | hge
      · exact hlt
      · exfalso
        have h6 : mkAt ord i < 2 ^ k := by
          have h7 : mkAt ord i < 2 ^ len ops.toList := h3
          rw [len_eq, Array.length_toList] at h7
          exact Nat.lt_of_lt_of_le h7 (Nat.pow_le_pow_right (by decide) hge)
        rw [hb_eq, Nat.testBit_lt_two_pow h6] at hk
        cases hk
    have h6 := allI_t h5 k ops[k] (by simp [hkn])
    rw [Nat.zero_add, hk, cond_true] at h6
    obtain ⟨e, he, h7⟩ := anyN_t h6
    obtain ⟨h8, h9⟩ := cond_t.1 h7
    rw [or2_eq, Bool.or_eq_true] at h9
    exact ⟨e, by simpa using he, h8, h9.imp nbeq.1 id⟩
  · obtain ⟨_, h1⟩ := cond_t.1 (hat i o ho)
    obtain ⟨_, h2⟩ := cond_t.1 h1
    obtain ⟨_, h3⟩ := cond_t.1 h2
    obtain ⟨_, h4⟩ := cond_t.1 h3
    obtain ⟨h5, _⟩ := cond_t.1 h4
    have h6 := allI_t (allN_t h5 t ht) k p (by simpa using hp)
    rw [Nat.zero_add, dstIs_t hd, cond_true] at h6
    exact h6
  · obtain ⟨_, h1⟩ := cond_t.1 (hat i o ho)
    obtain ⟨_, h2⟩ := cond_t.1 h1
    obtain ⟨_, h3⟩ := cond_t.1 h2
    obtain ⟨_, h4⟩ := cond_t.1 h3
    obtain ⟨_, h5⟩ := cond_t.1 h4
    rw [hd] at h5
    have h6 := allI_t (show allI (fun k p => cond (dstIs p t) (Nat.beq i k) true) ops.toList 0 = true from h5) k p (by simpa using hp)
    rw [Nat.zero_add, dstIs_t hd', cond_true] at h6
    exact nbeq.1 h6
theorem OrdOk.of {P : Program} {ops : Array Oper} {mk : Nat → Nat} : ∀ {ord : List (Nat × Nat)} {s hs : Nat}, ordOk P ops.toList mk ord s hs = true → OrdOk P ops mk ord s hs := by
  intro ord
  induction ord with
  | nil =>
    intro s hs h k hk
    have := allI_t (show allI (fun k _ => hb s k) ops.toList 0 = true from h) k ops[k] (by simp [hk])
    rwa [Nat.zero_add] at this
  | cons q r ih =>
    intro s hs h
    obtain ⟨h1, h2⟩ := cond_t.1 (show cond (Nat.beq q.2 (mk q.1)) (cond (hb s q.1) false (oe (nth ops.toList q.1) false fun o =>
      cond (Nat.beq (Nat.lor q.2 s) s) (cond (Nat.beq (Nat.lor hs q.2) q.2) (ordOk P ops.toList mk r (bit1 s q.1) (cond (heavy P o.op) (bit1 hs q.1) hs)) false) false)) false = true from h)
    cases hsq : hb s q.1 with
    | true => rw [hsq] at h2; cases h2
    | false =>
      rw [hsq] at h2
      obtain ⟨o, h3, h4⟩ := oe_t.1 (show oe (nth ops.toList q.1) false _ = true from h2)
      obtain ⟨h5, h6⟩ := cond_t.1 h4
      obtain ⟨h7, h8⟩ := cond_t.1 h6
      rw [nth_eq] at h3
      exact ⟨nbeq.1 h1, hsq, o, by simpa using h3, fun k hk => hb_sub h5 hk, fun k hk => hb_sub h7 hk, ih h8⟩
/-! Slots that are not there yet. -/
def mask (p : Nat → Bool) (l : List (Nat × V)) : List (Nat × V) := l.map fun q => (q.1, if p q.1 then .u else q.2)
theorem look_mask (p : Nat → Bool) (l : List (Nat × V)) (t : Nat) : look (mask p l) t = (look l t).map fun v => if p t then .u else v := by
  induction l with
  | nil => rfl
  | cons q l ih =>
    show look ((q.1, if p q.1 then .u else q.2) :: mask p l) t = _
    rw [look_cons, look_cons, ih]
    by_cases h : q.1 = t
    · subst h; simp
    · simp [h]
def Sl.mask (p : Nat → Bool) (σ : Sl) : Sl := ⟨CE.mask p σ.E, CE.mask p σ.L⟩
theorem rdT_mask (p : Nat → Bool) (σ : Sl) (t : Nat) : rdT t (σ.mask p) = if p t then .u else rdT t σ := by
  unfold rdT Sl.mask
  rw [look_mask, look_mask]
  cases look σ.L t with
  | some v => cases p t <;> rfl
  | none =>
    cases look σ.E t with
    | some v => cases p t <;> rfl
    | none => cases p t <;> rfl
section
variable {F : Fx} {ops : Array Oper} {mk : Nat → Nat} {X : Nat → Value} {B : Nat} {w0 w w1 : World} {ρ ρ' : Rh} {M M' : Mem} {σ σ' : Sl} {env : WG.Env} {v : V} {h : Nat} {N : Nat}
theorem heavy_of {P : Program} {C : Cfg} {cl : CallF} {o : Op} {v : V} (hP : C.P = P) (hx : exO o cl C σ M = .c (.ok v M')) : heavy P o = true := by
  have hlt : ∀ {q : Option V}, lt q = .c (.ok v M') → False := fun {q} h => by cases q <;> cases h
  have hmk : ∀ {q : Option (Ob × V)}, mkO q = .c (.ok v M') → False := fun {q} h => by cases q <;> cases h
  cases o with
  | store t a x => rfl
  | mapUpdate t m k v => rfl
  | mapEntry t m k => rfl
  | entryStore t m s v => rfl
  | convert s d x =>
    show cvH P d = true
    unfold cvH
    rw [← hP]
    have h' : oe (C.P.underlying d) no (fun dd => cond (strD dd) (lt (convS C.P s (rd x σ) M)) (oe (intD dd) (hv M (mkO (convB C.P s d (rd x σ)))) fun k => lt (cond (oe (C.P.underlying s) false fun _ => true) (convI k (rd x σ)) none))) = .c (.ok v M') := hx
    cases hd : C.P.underlying d with
    | none => rfl
    | some dd =>
      rw [hd] at h'
      have h2 : cond (strD dd) (lt (convS C.P s (rd x σ) M)) (oe (intD dd) (hv M (mkO (convB C.P s d (rd x σ)))) fun k => lt (cond (oe (C.P.underlying s) false fun _ => true) (convI k (rd x σ)) none)) = .c (.ok v M') := h'
      show cond (strD dd) false (oe (intD dd) true fun _ => false) = true
      cases hst : strD dd with
      | true => rw [hst] at h2; exact (hlt h2).elim
      | false =>
        rw [hst] at h2
        have h3 : oe (intD dd) (hv M (mkO (convB C.P s d (rd x σ)))) (fun k => lt (cond (oe (C.P.underlying s) false fun _ => true) (convI k (rd x σ)) none)) = .c (.ok v M') := h2
        show oe (intD dd) true (fun _ => false) = true
        cases hi : intD dd with
        | some k => rw [hi] at h3; exact (hlt h3).elim
        | none => rfl
  | call c =>
    obtain ⟨ca, as, ts⟩ := c
    cases ca with
    | value f => rfl
    | invoke x nm => rfl
    | builtin b =>
      cases b with
      | len => exact (hlt (show lt _ = .c (.ok v M') from hx)).elim
      | cap => exact (hlt (show lt _ = .c (.ok v M') from hx)).elim
      | max => exact (hlt (show lt _ = .c (.ok v M') from hx)).elim
      | min => exact (hlt (show lt _ = .c (.ok v M') from hx)).elim
      | _ => rfl
  | alloc t => exact (hmk (show mkO _ = .c (.ok v M') from hx)).elim
  | box t x => exact (hmk (show mkO _ = .c (.ok v M') from hx)).elim
  | buildSlice t n ps => exact (hmk (show mkO _ = .c (.ok v M') from hx)).elim
  | makeSlice t n c => exact (hmk (show mkO _ = .c (.ok v M') from hx)).elim
  | makeMap t r => exact (hmk (show mkO _ = .c (.ok v M') from hx)).elim
  | move x => cases hx
  | assign x => cases hx
  | pick c a b => exact (hlt (show lt _ = .c (.ok v M') from hx)).elim
  | build t ps => exact (hlt (show lt _ = .c (.ok v M') from hx)).elim
  | load t a => exact (hlt (show lt _ = .c (.ok v M') from hx)).elim
  | nilCheck x => exact (hlt (show lt _ = .c (.ok v M') from hx)).elim
  | binOp op t x y u' => exact (hlt (show lt _ = .c (.ok v M') from hx)).elim
  | unOp op t x => exact (hlt (show lt _ = .c (.ok v M') from hx)).elim
  | makeInterface t x => exact (hlt (show lt _ = .c (.ok v M') from hx)).elim
  | makeFunc fn fs cs => exact (hlt (show lt _ = .c (.ok v M') from hx)).elim
  | slice t x lo hi mx => exact (hlt (show lt _ = .c (.ok v M') from hx)).elim
  | fieldAddr t x f => exact (hlt (show lt _ = .c (.ok v M') from hx)).elim
  | field t x f => exact (hlt (show lt _ = .c (.ok v M') from hx)).elim
  | indexAddr t x i => exact (hlt (show lt _ = .c (.ok v M') from hx)).elim
  | index t x i => exact (hlt (show lt _ = .c (.ok v M') from hx)).elim
  | lookup t x i ok => exact (hlt (show lt _ = .c (.ok v M') from hx)).elim
  | typeAssert x s d ok => exact (hlt (show lt _ = .c (.ok v M') from hx)).elim
  | extract x i => exact (hlt (show lt _ = .c (.ok v M') from hx)).elim
  | _ => first | rfl | cases hx
/-- The rest of the closed run. -/
inductive Run (F : Fx) (ops : Array Oper) (σn : Sl) (Mn : Mem) : List (Nat × Nat) → Pend → Sl → Mem → Prop
  | nil (l : Pend) : Run F ops σn Mn [] l σn Mn
  | off (q : Nat × Nat) (r : List (Nat × Nat)) (l : Pend) (σ : Sl) (M : Mem) (o : Oper) (ho : ops[q.1]? = some o) (hg : guardOk ops.toList σ o = some false) (k : Run F ops σn Mn r l (put1 F.h σ o.dst .z) M) : Run F ops σn Mn (q :: r) l σ M
  | val (q : Nat × Nat) (r : List (Nat × Nat)) (l : Pend) (σ : Sl) (M : Mem) (o : Oper) (ho : ops[q.1]? = some o) (hg : guardOk ops.toList σ o = some true) (v : V) (hx : exO o.op F.cl F.C σ M = .v v) (k : Run F ops σn Mn r ((q.1, 0, o, .v v) :: l) (put1 F.h σ o.dst v) M) : Run F ops σn Mn (q :: r) l σ M
  | new (q : Nat × Nat) (r : List (Nat × Nat)) (l : Pend) (σ : Sl) (M : Mem) (o : Oper) (ho : ops[q.1]? = some o) (hg : guardOk ops.toList σ o = some true) (b : Ob) (x : V) (hx : exO o.op F.cl F.C σ M = .n b x) (k : Run F ops σn Mn r ((q.1, M.nx, o, .n b x) :: l) (put1 F.h σ o.dst (ao M.nx x)) ⟨M.T.set M.nx b, M.nx + 1⟩) : Run F ops σn Mn (q :: r) l σ M
  | does (q : Nat × Nat) (r : List (Nat × Nat)) (l : Pend) (σ : Sl) (M : Mem) (o : Oper) (ho : ops[q.1]? = some o) (hg : guardOk ops.toList σ o = some true) (v : V) (M1 : Mem) (hx : exO o.op F.cl F.C σ M = .c (.ok v M1)) (l' : Pend) (ha : again F (put1 F.h σ o.dst v) M1 q.2 l = some l') (k : Run F ops σn Mn r l' (put1 F.h σ o.dst v) M1) : Run F ops σn Mn (q :: r) l σ M
theorem Run.of : ∀ (ord : List (Nat × Nat)) (l : Pend) (σ : Sl) (M : Mem) (R : Res), (List.rec (motive := fun _ => Gd) (fun _ => Res.n) (fun i _ g => fun l σ M => oe (nth ops.toList i.1) (.bad [("order", 0)]) fun o => stepD F ops.toList i.1 i.2 o g l σ M) ord l σ M) = R → R.good → ∃ σn Mn, R = .n σn Mn ∧ Run F ops σn Mn ord l σ M := by
  intro ord
  induction ord with
  | nil => intro l σ M R hR _; exact ⟨σ, M, hR.symm, .nil l⟩
  | cons q r ih =>
    intro l σ M R hR hgood
    have hR' : oe (nth ops.toList q.1) (.bad [("order", 0)]) (fun o => stepD F ops.toList q.1 q.2 o (fun l σ M => List.rec (motive := fun _ => Gd) (fun _ => Res.n) (fun i _ g => fun l σ M => oe (nth ops.toList i.1) (.bad [("order", 0)]) fun o => stepD F ops.toList i.1 i.2 o g l σ M) r l σ M) l σ M) = R := hR
    cases ho : nth ops.toList q.1 with
    | none => rw [ho] at hR'; subst hR'; exact hgood.elim
    | some o =>
      rw [ho] at hR'
      have ho' : ops[q.1]? = some o := by rw [nth_eq] at ho; simpa using ho
      have h2 : stepD F ops.toList q.1 q.2 o (fun l σ M => List.rec (motive := fun _ => Gd) (fun _ => Res.n) (fun i _ g => fun l σ M => oe (nth ops.toList i.1) (.bad [("order", 0)]) fun o => stepD F ops.toList i.1 i.2 o g l σ M) r l σ M) l σ M = R := hR'
      unfold stepD at h2
      cases hg : guardOk ops.toList σ o with
      | none => rw [hg] at h2; subst h2; exact hgood.elim
      | some t =>
        rw [hg] at h2
        cases t with
        | false =>
          obtain ⟨σn, Mn, h3, h4⟩ := ih l (put1 F.h σ o.dst .z) M R h2 hgood
          exact ⟨σn, Mn, h3, .off q r l σ M o ho' hg h4⟩
        | true =>
          have h3 : lightD F q.1 o q.2 (fun l σ M => List.rec (motive := fun _ => Gd) (fun _ => Res.n) (fun i _ g => fun l σ M => oe (nth ops.toList i.1) (.bad [("order", 0)]) fun o => stepD F ops.toList i.1 i.2 o g l σ M) r l σ M) l σ M (exO o.op F.cl F.C σ M) = R := h2
          cases hx : exO o.op F.cl F.C σ M with
          | v u =>
            rw [hx] at h3
            obtain ⟨σn, Mn, h5, h6⟩ := ih _ _ _ R h3 hgood
            exact ⟨σn, Mn, h5, .val q r l σ M o ho' hg u hx h6⟩
          | n b u =>
            rw [hx] at h3
            obtain ⟨σn, Mn, h5, h6⟩ := ih _ _ _ R h3 hgood
            exact ⟨σn, Mn, h5, .new q r l σ M o ho' hg b u hx h6⟩
          | c cr =>
            rw [hx] at h3
            cases cr with
            | bad y => subst h3; exact hgood.elim
            | ok u M1 =>
              have h4 : oe (again F (put1 F.h σ o.dst u) M1 q.2 l) (.bad [("again", 0)]) (fun l => List.rec (motive := fun _ => Gd) (fun _ => Res.n) (fun i _ g => fun l σ M => oe (nth ops.toList i.1) (.bad [("order", 0)]) fun o => stepD F ops.toList i.1 i.2 o g l σ M) r l (put1 F.h σ o.dst u) M1) = R := h3
              cases ha : again F (put1 F.h σ o.dst u) M1 q.2 l with
              | none => rw [ha] at h4; subst h4; exact hgood.elim
              | some l' =>
                rw [ha] at h4
                obtain ⟨σn, Mn, h5, h6⟩ := ih _ _ _ R h4 hgood
                exact ⟨σn, Mn, h5, .does q r l σ M o ho' hg u M1 hx l' ha h6⟩
theorem again_some {m : Nat} : ∀ {l l' : Pend}, again F σ M m l = some l' → (∀ p ∈ l, hb m p.1 = false → p ∈ l' ∧ p.2.2.2 = exO p.2.2.1.op F.cl F.C σ M) ∧ ∀ p ∈ l', p ∈ l := by
  intro l
  induction l with
  | nil =>
    intro l' h
    cases h
    exact ⟨fun p hp => (by cases hp), fun p hp => (by cases hp)⟩
  | cons a l ih =>
    intro l' h
    have h' : cond (hb m a.1) (again F σ M m l) (cond (sameQ a.2.2.2 (exO a.2.2.1.op F.cl F.C σ M)) (ob (again F σ M m l) fun r => some (a :: r)) none) = some l' := h
    cases hm : hb m a.1 with
    | true =>
      rw [hm] at h'
      obtain ⟨h1, h2⟩ := ih h'
      refine ⟨fun p hp hpm => ?_, fun p hp => List.mem_cons_of_mem _ (h2 p hp)⟩
      rcases List.mem_cons.1 hp with rfl | hp
      · rw [hm] at hpm; cases hpm
      · exact h1 p hp hpm
    | false =>
      rw [hm] at h'
      obtain ⟨h3, h4⟩ := cond_some.1 (show cond (sameQ a.2.2.2 (exO a.2.2.1.op F.cl F.C σ M)) (ob (again F σ M m l) fun r => some (a :: r)) none = some l' from h')
      obtain ⟨r, h5, h6⟩ := ob_some.1 h4
      cases h6
      obtain ⟨h1, h2⟩ := ih h5
      refine ⟨fun p hp hpm => ?_, fun p hp => ?_⟩
      · rcases List.mem_cons.1 hp with rfl | hp
        · exact ⟨List.mem_cons_self, sameQ_t h3⟩
        · exact ⟨List.mem_cons_of_mem _ (h1 p hp hpm).1, (h1 p hp hpm).2⟩
      · rcases List.mem_cons.1 hp with rfl | hp
        · exact List.mem_cons_self
        · exact List.mem_cons_of_mem _ (h2 p hp)
end
end Go.CE
