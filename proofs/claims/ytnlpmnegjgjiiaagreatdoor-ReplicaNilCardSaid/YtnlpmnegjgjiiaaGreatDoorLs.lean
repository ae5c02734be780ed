/- Arrays of arrays; operations of a drawn region that come up in any order, each turning what is its own. Nothing is assumed. -/
import Derived.Test.YtnlpmnegjgjiiaaGreatDoorLr
namespace Go.WG
open Go Go.RowKit
set_option linter.unusedVariables false
set_option linter.unusedSimpArgs false
section
theorem flat_part {m : Nat} : ∀ (L : List (List Int)), (∀ a ∈ L, a.length = m) → ∀ i, i < L.length → (L.flatten.drop (i * m)).take m = L.getD i []
  | [], _, i, hi => by simp at hi
  | a :: L, h, 0, _ => by
    have ha := h a (by simp)
    simp [List.take_append, ha]
  | a :: L, h, i + 1, hi => by
    have ha := h a (by simp)
    have := flat_part L (fun b hb => h b (by simp [hb])) i (by simpa using hi)
    rw [List.flatten_cons, Nat.succ_mul, Nat.add_comm, ← List.drop_drop, ← ha, List.drop_left, ha, this]
    rfl
theorem flat_len {m : Nat} : ∀ (L : List (List Int)), (∀ a ∈ L, a.length = m) → L.flatten.length = L.length * m
  | [], _ => by simp
  | a :: L, h => by rw [List.flatten_cons, List.length_append, h a (by simp), flat_len L (fun b hb => h b (by simp [hb])), List.length_cons, Nat.succ_mul, Nat.add_comm]
theorem flat_at {L : List (List Int)} {n m : Nat} {i : Int} (hl : L.length = n ∧ ∀ a ∈ L, a.length = m) (h : 0 ≤ i ∧ i < (n : Int)) : (L.getD i.toNat []).length = m := by
  have hlt : i.toNat < L.length := by omega
  exact hl.2 _ (by rw [List.getD_eq_getElem?_getD, List.getElem?_eq_getElem hlt]; exact List.getElem_mem hlt)
variable {P : Program} {env : Env} {ty t : TypeId} {x y : Operand} {w : World} {k : IntKind}
theorem Yl.indexAgg2 {k' : IntKind} {L : List (List Int)} {n m : Nat} {e : TypeId} {d : TypeDesc} {i : Int} (hx : ev env x = .agg (L.flatten.map (Value.int k')).toArray) (hy : ev env y = .int k i) (ht : P.underlying t = some (.array n e)) (he : P.underlying e = some d) (hd : aggD d = true) (hs : (P.info? e).map (·.size) = some m) (hl : L.length = n ∧ ∀ a ∈ L, a.length = m) (h : 0 ≤ i ∧ i < (n : Int)) :
    Yl P env (.index t x y) ty w (.agg ((L.getD i.toNat []).map (Value.int k')).toArray) w := by
  obtain ⟨inf, hi, hsz⟩ := Option.map_eq_some_iff.1 hs
  have hlt : i.toNat < L.length := by omega
  have hlen : (L.getD i.toNat []).length = m := hl.2 _ (by rw [List.getD_eq_getElem?_getD, List.getElem?_eq_getElem hlt]; exact List.getElem_mem hlt)
  have hp : PartE P e (L.flatten.map (Value.int k')) (i.toNat * m) (.agg ((L.getD i.toNat []).map (Value.int k')).toArray) := PartE.agg he hd (by rw [hs, List.length_map, hlen]) (by rw [← List.map_drop, List.length_map, hlen, ← List.map_take, flat_part L hl.2 _ hlt])
  show (execOp (ev env) _).run P w = _
  simp only [execOp, hx, hy, Instr.index, asIntOf, Sem.run_bind, Sem.run_pure, Result.andThen_ok, run_underlying ht, sizeOf, typeInfo, hi, hsz, h, and_self, if_true]
  have := hp w
  simp [h, hi, hsz, this, -List.map_flatten, -List.getD_eq_getElem?_getD]
theorem fill_arrs {m : Nat} (k : IntKind) (L : List (List Int)) (z : Value) (a : List Value) (hm : ∀ b ∈ L, b.length = m) (hz : z.cells = a.toArray) (hl : a.length = L.length * m) : Instr.fill (fun i => some (i * m, m)) z.cells (mkParts 0 (L.map fun b => Value.agg (b.map (Value.int k)).toArray)) = some (L.flatten.map (Value.int k)).toArray := by
  have hr : ∀ (L : List (List Int)), (∀ b ∈ L, b.length = m) → Reps (Kd.arrI m k) CH.emp L (L.map fun b => Value.agg (b.map (Value.int k)).toArray) := by
    intro L
    induction L with
    | nil => exact fun _ => .nil
    | cons b L ih => exact fun h => .cons ⟨by simp [Value.cells], h b (by simp)⟩ (ih fun c hc => h c (by simp [hc]))
  have := fill_row (hr L hm) 0 a (by simp [Kd.arrI, Kd.arr, hl])
  rw [hz]
  simp only [Kd.arrI, Kd.arr] at this
  rw [this]
  have hf : (L.map fun b => Value.agg (b.map (Value.int k)).toArray).flatMap (·.cells.toList) = L.flatten.map (Value.int k) := by
    clear this hl hm
    induction L with
    | nil => rfl
    | cons b L ih => rw [List.map_cons, List.flatMap_cons, ih, List.flatten_cons, List.map_append]; simp [Value.cells]
  rw [hf, List.length_map]
  simp [hl]
end
theorem part_at {cs us : List Value} {o j : Nat} {u : Value} (h : (cs.drop o).take us.length = us) (hu : us[j]? = some u) : cs[o + j]? = some u := by
  have hlt := (List.getElem?_eq_some_iff.1 hu).1
  rw [← h, List.getElem?_take, if_pos hlt, List.getElem?_drop] at hu
  exact hu
/-! ### operations that come up in any order -/
def inL (l : List Nat) : Nat → Bool := fun j => l.any (Nat.beq j)
def setL (L : Nat → Bool) (i : Nat) : Nat → Bool := fun j => cond (Nat.beq j i) true (L j)
def KnownF (L : Nat → Bool) : List Nat → Prop
  | [] => True
  | f :: r => L f = false ∧ KnownF L r
def Known (L : Nat → Bool) : List Nat → List Nat → Prop
  | [], fs => KnownF L fs
  | t :: r, fs => L t = true ∧ Known L r fs
theorem KnownF.mk {L : Nat → Bool} : ∀ {fs : List Nat}, (∀ f ∈ fs, L f = false) → KnownF L fs
  | [], _ => trivial
  | f :: r, h => ⟨h f (by simp), KnownF.mk fun q hq => h q (by simp [hq])⟩
theorem Known.mk {L : Nat → Bool} : ∀ {ts fs : List Nat}, (∀ t ∈ ts, L t = true) → (∀ f ∈ fs, L f = false) → Known L ts fs
  | [], _, _, h => KnownF.mk h
  | t :: r, _, h, k => ⟨h t (by simp), Known.mk (fun q hq => h q (by simp [hq])) k⟩
theorem cT {b : Bool} {X Y : Prop} (h : b = true) (t : cond b X Y) : X := by subst h; exact t
theorem cF {b : Bool} {X Y : Prop} (h : b = false) (t : cond b X Y) : Y := by subst h; exact t
theorem iT {b : Bool} {X Y : Prop} (h : b = true) (t : X) : cond b X Y := by subst h; exact t
theorem iF {b : Bool} {X Y : Prop} (h : b = false) (t : Y) : cond b X Y := by subst h; exact t
section
variable {P : Program} {N : Nat} {ops : Array Oper} {Ms : List (List Nat × CH)} {R : Env → World → Prop} {env : Env} {w w' : World} {fuel : Nat} {listed : Array Bool}
/-- One that comes up, and K behind it. -/
def UpI (P : Program) (N : Nat) (ops : Array Oper) (Ms : List (List Nat × CH)) (K : Env → World → Prop) (env : Env) (w : World) (i : Nat) : Prop :=
  ∃ o, ops[i]? = some o ∧ dstOk N o = true ∧ Region.wanted o (yieldedE ops env) = true ∧ stepE P o env w fun env' w' => Sall Ms w' ∧ K env' w'
theorem UpI.val {K : Env → World → Prop} {i : Nat} {d : Nat} {op : Op} {ty : TypeId} {pos : String} {aft : Array Edge} (hi : ops[i]? = some ⟨some d, op, ty, pos, aft, none⟩) (hd : Nat.blt d N = true) {v : Value}
    (hy : Yl P env op ty w v w') (hs : Sall Ms w') (h : K (upd env d v) w') : UpI P N ops Ms K env w i :=
  ⟨_, hi, by simpa [dstOk] using hd, wanted_none _ rfl _, .inl ⟨v, w', by rw [execOp_bare]; exact hy, hs, h⟩⟩
theorem UpI.skip {K : Env → World → Prop} {i : Nat} {op : Op} {ty : TypeId} {pos : String} {aft : Array Edge} (hi : ops[i]? = some ⟨none, op, ty, pos, aft, none⟩)
    (hy : Yskip P env op ty w w') (hs : Sall Ms w') (h : K env w') : UpI P N ops Ms K env w i :=
  ⟨_, hi, rfl, wanted_none _ rfl _, .inr (.inl ⟨w', by rw [execOp_bare]; exact hy, hs, h⟩)⟩
theorem UpI.call {K : Env → World → Prop} {i : Nat} {dst : Option Nat} {op : Op} {ty : TypeId} {pos : String} {aft : Array Edge} (hi : ops[i]? = some ⟨dst, op, ty, pos, aft, none⟩) (hd : dstOk N ⟨dst, op, ty, pos, aft, none⟩ = true)
    {f : FuncId} {args : Array Value} (he : Yenter P env op ty w f args) {R' : Ending → World → Prop} (hc : Calls P f args w R')
    (h : ∀ e w', R' e w' → ∃ v, e = .returned v ∧ Sall Ms w' ∧ K (putE env dst v) w') : UpI P N ops Ms K env w i :=
  ⟨_, hi, hd, wanted_none _ rfl _, .inr (.inr ⟨f, args, w, by rw [execOp_bare]; exact he, hc.mono h⟩)⟩
inductive StepsI (P : Program) (N : Nat) (ops : Array Oper) (Ms : List (List Nat × CH)) (I : (Nat → Bool) → Env → World → Prop) : List (Nat × List Nat × List Nat) → Prop
  | nil : StepsI P N ops Ms I []
  | cons {i : Nat} {ts fs : List Nat} {r : List (Nat × List Nat × List Nat)} (h : ∀ L env w, Known L ts (i :: fs) → I L env w → UpI P N ops Ms (I (setL L i)) env w i) (t : StepsI P N ops Ms I r) : StepsI P N ops Ms I ((i, ts, fs) :: r)
theorem StepsI.at {I : (Nat → Bool) → Env → World → Prop} {tab : List (Nat × List Nat × List Nat)} (h : StepsI P N ops Ms I tab) : ∀ p ∈ tab, ∀ L env w, Known L p.2.1 (p.1 :: p.2.2) → I L env w → UpI P N ops Ms (I (setL L p.1)) env w p.1 := by
  induction h with
  | nil => exact fun p hp => by simp at hp
  | cons h _ ih =>
    intro p hp
    rcases List.mem_cons.1 hp with rfl | hp
    · exact h
    · exact ih p hp
def parOk (ops : Array Oper) (L0 L1 : Array Bool) (l0 l1 : List Nat) (m : Nat) (tab : List (Nat × List Nat × List Nat)) : Bool :=
  (List.range ops.size).all (fun j => match ops[j]? with | some o => o.after.all fun e => !Region.binds .any e || Nat.blt e.on j | none => true) &&
  (Nat.beq L0.size ops.size && Nat.beq L1.size ops.size && Nat.beq ((List.range ops.size).countP fun j => L1.getD j false && !L0.getD j false) m) &&
  (l0.all (fun j => Nat.blt j ops.size) && l1.all fun j => Nat.blt j ops.size) &&
  (List.range ops.size).all (fun j => (L0.getD j false == inL l0 j) && (L1.getD j false == inL l1 j) && (!L0.getD j false || L1.getD j false) && (!L1.getD j false || L0.getD j false || tab.any fun p => Nat.beq p.1 j)) &&
  tab.all (fun p => okW .any ops p.1 (waiters ops p.1) && p.2.2.all (fun q => (waiters ops p.1).any (Nat.beq q)) && p.2.2.all (fun q => Nat.blt q ops.size) && (List.range ops.size).all (fun j => L1.getD j false || (waiters ops p.1).any (Nat.beq j)) && p.2.1.all fun a => match ops[p.1]? with | some o => o.after.any fun e => Region.binds .any e && Nat.beq e.on a | none => false)
theorem countP_less {p p' : Nat → Bool} {j : Nat} (hp : p j = true) (hp' : p' j = false) (hne : ∀ q, q ≠ j → p' q = p q) : ∀ (l : List Nat), l.Nodup → j ∈ l → l.countP p' + 1 = l.countP p
  | [], _, h => by simp at h
  | q :: l, hn, h => by
    rw [List.nodup_cons] at hn
    by_cases hq : q = j
    · subst hq
      have : l.countP p' = l.countP p := List.countP_congr fun x hx => by rw [hne x (fun e => hn.1 (e ▸ hx))]
      rw [List.countP_cons_of_pos hp, List.countP_cons_of_neg (by rw [hp']; simp), this]
    · have ih := countP_less hp hp' hne l hn.2 ((List.mem_cons.1 h).resolve_left (Ne.symm hq))
      rw [List.countP_cons, List.countP_cons, hne q hq]
      omega
theorem getD_lt {L : Array Bool} {j : Nat} (h : j < L.size) (d d' : Bool) : L.getD j d = L.getD j d' := by
  rw [Array.getD_eq_getD_getElem?, Array.getD_eq_getD_getElem?, Array.getElem?_eq_getElem h]; rfl
theorem ready_some {md : Region.Mode} (hb : ∀ j o, ops[j]? = some o → ∀ e ∈ o.after, Region.binds md e = true → e.on < j) {listed : Array Bool} (hs : listed.size = ops.size) : ∀ (j : Nat), j < ops.size → listed.getD j false = false → Region.ready md ops listed ≠ [] := by
  intro j
  induction j using Nat.strongRecOn with
  | ind j ih =>
    intro hj hun
    by_cases hall : ∀ e ∈ ops[j].after, Region.binds md e = true → listed.getD e.on false = true
    · have : j ∈ Region.ready md ops listed := mem_ready.2 ⟨by rw [getD_lt (by omega) true false]; exact hun, _, Array.getElem?_eq_getElem hj, hall⟩
      intro h
      rw [h] at this
      simp at this
    · obtain ⟨e, hq⟩ := Classical.not_forall.1 hall
      obtain ⟨he, hq⟩ := Classical.not_forall.1 hq
      obtain ⟨hbe, hq⟩ := Classical.not_forall.1 hq
      have hlt := hb j _ (Array.getElem?_eq_getElem hj) e he hbe
      exact ih e.on hlt (by omega) (by simpa using hq)
theorem WA.par (I : (Nat → Bool) → Env → World → Prop) (tab : List (Nat × List Nat × List Nat)) (l0 l1 : List Nat) (L1 : Array Bool) (f1 m : Nat) (hk : parOk ops listed L1 l0 l1 m tab = true) (h0 : I (inL l0) env w) (hst : StepsI P N ops Ms I tab)
    (k : ∀ env w, I (inL l1) env w → WA P N ops Ms R f1 L1 env w) : WA P N ops Ms R (f1 + m) listed env w := by
  unfold parOk at hk
  simp only [Bool.and_eq_true] at hk
  obtain ⟨⟨⟨⟨c1, ⟨⟨c2, c3⟩, c4⟩⟩, ⟨c5, c6⟩⟩, c7⟩, c8⟩ := hk
  have c2 := Nat.eq_of_beq_eq_true c2
  have c3 := Nat.eq_of_beq_eq_true c3
  have c4 := Nat.eq_of_beq_eq_true c4
  have hb : ∀ j o, ops[j]? = some o → ∀ e ∈ o.after, Region.binds .any e = true → e.on < j := fun j o ho e he hbe => by
    have hj := (Array.getElem?_eq_some_iff.1 ho).1
    have := List.all_eq_true.1 c1 j (List.mem_range.2 hj)
    simp only [ho] at this
    have := Array.all_eq_true'.1 this e he
    simp only [hbe, Bool.not_true, Bool.false_or, Nat.blt_eq] at this
    exact this
  have hall : ∀ j, j < ops.size → (listed.getD j false = inL l0 j) ∧ (L1.getD j false = inL l1 j) ∧ (listed.getD j false = true → L1.getD j false = true) ∧ (L1.getD j false = true → listed.getD j false = true ∨ ∃ p ∈ tab, p.1 = j) := fun j hj => by
    have := List.all_eq_true.1 c7 j (List.mem_range.2 hj)
    simp only [Bool.and_eq_true, beq_iff_eq, Bool.or_eq_true, Bool.not_eq_true', List.any_eq_true] at this
    obtain ⟨⟨⟨a1, a2⟩, a3⟩, a4⟩ := this
    refine ⟨a1, a2, fun h => a3.resolve_left (by rw [h]; simp), fun h => ?_⟩
    rcases a4 with (a4 | a4) | ⟨p, hp, a4⟩
    · rw [a4] at h; cases h
    · exact .inl a4
    · exact .inr ⟨p, hp, Nat.eq_of_beq_eq_true a4⟩
  have hinL : ∀ (l : List Nat) (L : Array Bool), L.size = ops.size → l.all (fun j => Nat.blt j ops.size) = true → (∀ j, j < ops.size → L.getD j false = inL l j) → inL l = fun j => L.getD j false := fun l L hs hl h => by
    funext j
    by_cases hj : j < ops.size
    · exact (h j hj).symm
    · have e1 : L.getD j false = false := by rw [Array.getD_eq_getD_getElem?, Array.getElem?_eq_none (by omega)]; rfl
      rw [e1]
      unfold inL
      rw [List.any_eq_false]
      intro q hq e
      have := List.all_eq_true.1 hl q hq
      rw [Nat.blt_eq] at this
      exact hj (by rw [Nat.eq_of_beq_eq_true e]; exact this)
  rw [hinL l0 listed c2 c5 fun j hj => (hall j hj).1] at h0
  rw [hinL l1 L1 c3 c6 fun j hj => (hall j hj).2.1] at k
  suffices H : ∀ (r : Nat) (L : Array Bool) (env : Env) (w : World), L.size = ops.size → (∀ j, listed.getD j false = true → L.getD j false = true) → (∀ j, j < ops.size → L.getD j false = true → L1.getD j false = true) →
      ((List.range ops.size).countP fun j => L1.getD j false && !L.getD j false) = r → I (fun j => L.getD j false) env w → WA P N ops Ms R (f1 + r) L env w from
    H m listed env w c2 (fun _ h => h) (fun j hj h => (hall j hj).2.2.1 h) c4 h0
  intro r
  induction r with
  | zero =>
    intro L env w hs hsub hle hc hI
    have : L = L1 := by
      refine Array.ext (by omega) fun j h1 h2 => ?_
      have hj : j < ops.size := by omega
      have hz := List.countP_eq_zero.1 hc j (List.mem_range.2 hj)
      have e1 : L.getD j false = L[j] := by rw [Array.getD_eq_getD_getElem?, Array.getElem?_eq_getElem h1]; rfl
      have e2 : L1.getD j false = L1[j] := by rw [Array.getD_eq_getD_getElem?, Array.getElem?_eq_getElem h2]; rfl
      have hl := hle j hj
      rw [e1, e2] at hz hl
      cases hx : L[j] <;> cases hy : L1[j] <;> simp [hx, hy] at hz hl ⊢
    subst this
    exact k env w hI
  | succ r ih =>
    intro L env w hs hsub hle hc hI hcl a ha
    -- one that is wanted and not there
    obtain ⟨j0, hj0, hu0⟩ : ∃ j0, j0 < ops.size ∧ (L1.getD j0 false && !L.getD j0 false) = true := by
      obtain ⟨j0, hj0, hu⟩ := List.countP_pos_iff.1 (show 0 < (List.range ops.size).countP (fun j => L1.getD j false && !L.getD j false) by omega)
      exact ⟨j0, List.mem_range.1 hj0, hu⟩
    simp only [Bool.and_eq_true, Bool.not_eq_true'] at hu0
    refine ⟨fun h => absurd h (ready_some hb hs j0 hj0 hu0.2), fun j hj => ?_⟩
    obtain ⟨hun, oj, hoj, hafter⟩ := mem_ready.1 hj
    have hjl : j < ops.size := (Array.getElem?_eq_some_iff.1 hoj).1
    have hun' : L.getD j false = false := by rw [getD_lt (by omega) false true]; exact hun
    have tabOf : ∀ q, q < ops.size → L1.getD q false = true → L.getD q false = false → ∃ p ∈ tab, p.1 = q := fun q hq h1 h2 => ((hall q hq).2.2.2 h1).resolve_left fun h => by rw [hsub q h] at h2; cases h2
    have tabAt : ∀ p ∈ tab, okW .any ops p.1 (waiters ops p.1) = true ∧ (∀ q ∈ p.2.2, q ∈ waiters ops p.1 ∧ q < ops.size) ∧ (∀ q, q < ops.size → L1.getD q false = false → q ∈ waiters ops p.1) ∧ ∀ t ∈ p.2.1, ∃ o, ops[p.1]? = some o ∧ ∃ e ∈ o.after, Region.binds .any e = true ∧ e.on = t := fun p hp => by
      have := List.all_eq_true.1 c8 p hp
      simp only [Bool.and_eq_true] at this
      obtain ⟨⟨⟨⟨b1, b2⟩, b3⟩, b4⟩, b5⟩ := this
      have inW : ∀ q, (waiters ops p.1).any (Nat.beq q) = true → q ∈ waiters ops p.1 := fun q h => by
        obtain ⟨x, hx, e⟩ := List.any_eq_true.1 h
        rw [Nat.eq_of_beq_eq_true e]; exact hx
      refine ⟨b1, fun q hq => ⟨inW q (List.all_eq_true.1 b2 q hq), by simpa using List.all_eq_true.1 b3 q hq⟩, fun q hq h => ?_, fun t ht => ?_⟩
      · have := List.all_eq_true.1 b4 q (List.mem_range.2 hq)
        rw [h, Bool.false_or] at this
        exact inW q this
      · have := List.all_eq_true.1 b5 t ht
        cases ho : ops[p.1]? with
        | none => simp [ho] at this
        | some o =>
          simp only [ho] at this
          obtain ⟨e, he, h2⟩ := Array.any_eq_true'.1 this
          simp only [Bool.and_eq_true] at h2
          exact ⟨o, rfl, e, he, h2.1, Nat.eq_of_beq_eq_true h2.2⟩
    -- it is one of those
    have hj1 : L1.getD j false = true := by
      cases hx : L1.getD j false with
      | true => rfl
      | false =>
        exfalso
        obtain ⟨p, hp, e⟩ := tabOf j0 hj0 hu0.1 hu0.2
        obtain ⟨b1, _, b3, _⟩ := tabAt p hp
        have := okW.spec b1 hcl j (b3 j hjl hx) oj hoj hafter
        rw [e, hu0.2] at this
        cases this
    obtain ⟨p, hp, rfl⟩ := tabOf j hjl hj1 hun'
    obtain ⟨b1, b2, b3, b4⟩ := tabAt p hp
    have hK : Known (fun j => L.getD j false) p.2.1 (p.1 :: p.2.2) := Known.mk (fun t ht => by
        obtain ⟨o, ho, e, he, hbe, rfl⟩ := b4 t ht
        rw [hoj] at ho
        injection ho with ho
        subst ho
        exact hafter e he hbe) fun q hq => by
      rcases List.mem_cons.1 hq with rfl | hq
      · exact hun'
      · cases hx : L.getD q false with
        | false => rfl
        | true =>
          exfalso
          obtain ⟨b5, b6⟩ := b2 q hq
          have := okW.spec b1 hcl q b5 _ (Array.getElem?_eq_getElem b6) (hcl q _ (Array.getElem?_eq_getElem b6) hx)
          rw [hun'] at this
          cases this
    obtain ⟨o, ho, hd, hw, hstep⟩ := hst.at p hp _ env w hK hI
    rw [hoj] at ho
    injection ho with ho
    subst ho
    unfold wpOp
    simp only [hoj]
    rw [ha.yielded ops, if_pos hw]
    refine .inl (stepE.wp hd hstep ha fun env' a' w' hf hn => ⟨SLc.iff.2 fun q hq _ => hn.1.at q hq, ?_⟩)
    have hset : (setL (fun j => L.getD j false) p.1) = fun j => (L.setIfInBounds p.1 true).getD j false := by
      funext q
      unfold setL
      by_cases hq : q = p.1
      · subst hq
        rw [Nat.beq_refl, _root_.cond_true, Array.getD_eq_getD_getElem?, Array.getElem?_setIfInBounds_self_of_lt (by omega)]
        rfl
      · have : Nat.beq q p.1 = false := by
          rw [Bool.eq_false_iff]
          intro hb
          exact hq (Nat.eq_of_beq_eq_true hb)
        rw [this, _root_.cond_false, getD_set_ne false (Ne.symm hq)]
    refine ih (L.setIfInBounds p.1 true) env' w' (by simpa using hs) (fun q hq => getD_set_true (hsub q hq)) (fun q hq h => ?_) ?_ (hset ▸ hn.2) (hcl.set hoj hafter) a' hf
    · by_cases hqp : q = p.1
      · rw [hqp]; exact hj1
      · rw [getD_set_ne false (Ne.symm hqp)] at h
        exact hle q hq h
    · have := countP_less (p := fun j => L1.getD j false && !L.getD j false) (p' := fun j => L1.getD j false && !(L.setIfInBounds p.1 true).getD j false) (j := p.1) (by simp only [hj1, hun']; rfl) (by
          have : (L.setIfInBounds p.1 true).getD p.1 false = true := by rw [Array.getD_eq_getD_getElem?, Array.getElem?_setIfInBounds_self_of_lt (by omega)]; rfl
          simp only [this]; simp) (fun q hq => by simp only [getD_set_ne false (Ne.symm hq)]) (List.range ops.size) List.nodup_range (List.mem_range.2 hjl)
      omega
end
end Go.WG
namespace Go.WG
open Go Go.RowKit
/-! ### elements of rows, by their addresses -/
/-- The address of a row's element, or nil. -/
def elp (A : Option Addr) (n z : Nat) (i : Int) : Value := if 0 ≤ i ∧ i < (n : Int) then .pointer (A.map (·.add (i.toNat * z))) else .pointer none
theorem elp_eq {A : Option Addr} {b off n m z : Nat} {i : Int} (hA : A = some ⟨b, off, none⟩) (h : 0 ≤ i ∧ i < (m : Int)) (hn : n = m) : elp A n z i = .pointer (some ⟨b, off + i.toNat * z, none⟩) := by
  subst hn; subst hA
  unfold elp
  rw [if_pos h, Option.map_some, add_of]
theorem elp_no {A : Option Addr} {n m z : Nat} {i : Int} (h : ¬ (0 ≤ i ∧ i < (m : Int))) (hn : n = m) : elp A n z i = .pointer none := by
  subst hn
  unfold elp
  rw [if_neg h]
theorem elp_nil {A : Option Addr} {n z : Nat} : elp A n z (-1) = .pointer none := by
  unfold elp
  rw [if_neg (by omega)]
/-- A function as a value, by its number. -/
def fnV (i : Int) : Value := if i < 0 then .nilFunc else .func (.func i.toNat) #[] #[]
theorem fnV_eq (n : Nat) : fnV (n : Int) = .func (.func n) #[] #[] := by
  unfold fnV
  rw [if_neg (by omega)]
  rfl
theorem fnV_of {i : Int} (n : Nat) (h : i = (n : Int)) : fnV i = .func (.func n) #[] #[] := by rw [h, fnV_eq]
theorem Yenter.fnT {P : Program} {env : Env} {ty : TypeId} {w : World} {x : Operand} {f : FuncId} {fn : Func} {as : Array Operand} {ts : Array TypeId} {args : Array Value} (hx : ev env x = .func (.func f) #[] #[]) (hf : P.funcs[f]? = some fn) (hn : (fn.name == "runtime.NumGoroutine") = false) (hb : fn.body.isSome = true) (ha : as.map (ev env) = args) :
    Yenter P env (.call { callee := .value x, args := as, argTypes := ts }) ty w f args := by
  subst ha
  show (execOp (ev env) _).run P w = _
  have hb' : ¬ fn.body = none := by cases h : fn.body <;> simp_all
  have hn' : ¬ fn.name = "runtime.NumGoroutine" := by simpa using hn
  simp [execOp, resolve, hx, Deferred.ofValue, invoke, callFunc, hf, hn', hb']
section
variable {w0 w : World} {F0 F F' : CH} {D : Nat → Nat → Prop} {rest : List CH} {α : Type} {K : Kd α} {p : CH} {A : Option Addr} {n c b off : Nat} {xs : List α}
/-- A row's element as a variable: what is ahead of it, the element, what is behind it; and how they are the row again. -/
theorem Row.foc (hR : Row K F p (.slice A n c) xs) (hA : A = some ⟨b, off, none⟩) (C : Ctx w0 F0 D w F (p :: rest)) (i z : Nat) (hz : K.sz = z) (hi : i < xs.length) (d : α) :
    ∃ pa pb cs, K.rep F (xs.getD i d) cs ∧ Ctx w0 F0 D w F (pa :: CH.row b (off + i * z) cs :: pb :: rest) ∧
      ∀ F' x' cs', CH.le F F' → K.rep F' x' cs' → Row K F' (CH.join pa (CH.join (CH.row b (off + i * z) cs') pb)) (.slice A n c) (xs.set i x') := by
  subst hz
  rcases hR with ⟨_, rfl, _⟩ | ⟨g, off', cap, cur, hv1, h2, h3, rfl, h5, h6, h7⟩
  · simp at hi
  · injection hv1 with e1 e2 e3
    subst e2; subst e3
    rw [hA] at e1
    injection e1 with e1
    injection e1 with e1 e4
    subst e1; subst e4
    have hle : i * K.sz + K.sz ≤ cur.length := by rw [h5, ← Nat.succ_mul]; exact Nat.mul_le_mul_right _ (by omega)
    have hold : xs[i]? = some (xs.getD i d) := getD_some hi
    have hcut : ∀ cs' : List Value, cs'.length = K.sz → CH.row b off (cur.take (i * K.sz) ++ (cs' ++ cur.drop (i * K.sz + K.sz))) = CH.join (CH.row b off (cur.take (i * K.sz))) (CH.join (CH.row b (off + i * K.sz) cs') (CH.row b (off + i * K.sz + K.sz) (cur.drop (i * K.sz + K.sz)))) := fun cs' hl => by
      have h1 : (cur.take (i * K.sz)).length = i * K.sz := by rw [List.length_take]; omega
      rw [CH.row_append, CH.row_append, h1, hl]
    have hmid : ((cur.drop (i * K.sz)).take K.sz).length = K.sz := by rw [List.length_take, List.length_drop]; omega
    have hcur : cur = cur.take (i * K.sz) ++ ((cur.drop (i * K.sz)).take K.sz ++ cur.drop (i * K.sz + K.sz)) := by
      rw [← List.drop_drop, List.take_append_drop, List.take_append_drop]
    refine ⟨CH.row b off (cur.take (i * K.sz)), CH.row b (off + i * K.sz + K.sz) (cur.drop (i * K.sz + K.sz)), (cur.drop (i * K.sz)).take K.sz, h7.2 i _ hold, ?_, fun F' x' cs' hF hr => ?_⟩
    · have C2 := C
      rw [hcur, hcut _ hmid] at C2
      have h1 : (cur.take (i * K.sz)).length = i * K.sz := by rw [List.length_take]; omega
      have d1 : CH.dis (CH.row b off (cur.take (i * K.sz))) (CH.join (CH.row b (off + i * K.sz) ((cur.drop (i * K.sz)).take K.sz)) (CH.row b (off + i * K.sz + K.sz) (cur.drop (i * K.sz + K.sz)))) := by
        have := CH.row_dis_next b off (cur.take (i * K.sz)) ((cur.drop (i * K.sz)).take K.sz ++ cur.drop (i * K.sz + K.sz))
        rw [h1, CH.row_append, hmid] at this
        exact this
      have d2 : CH.dis (CH.row b (off + i * K.sz) ((cur.drop (i * K.sz)).take K.sz)) (CH.row b (off + i * K.sz + K.sz) (cur.drop (i * K.sz + K.sz))) := by
        have := CH.row_dis_next b (off + i * K.sz) ((cur.drop (i * K.sz)).take K.sz) (cur.drop (i * K.sz + K.sz))
        rw [hmid] at this
        exact this
      exact Ctx.split [_] rest d2 (Ctx.split [] rest d1 C2)
    · have hl := K.len hr
      refine .inr ⟨b, off, c, _, by rw [hA, List.length_set], by rw [List.length_set]; exact h2, h3, (hcut cs' hl).symm, ?_, fun u hu => ?_, ?_⟩
      · simp only [List.length_append, List.length_take, List.length_drop]; omega
      · rcases List.mem_append.1 hu with hu | hu
        · exact h6 u (List.mem_of_mem_take hu)
        · rcases List.mem_append.1 hu with hu | hu
          · exact K.one hr u hu
          · exact h6 u (List.mem_of_mem_drop hu)
      · have := Els.set (h7.mono hF) i x' hr hi
        rwa [List.append_assoc] at this
theorem Row.unfoc {pa pb : CH} {o i : Nat} {cs : List Value} {v : Value} {x : α} (hput : ∀ F' x' cs', CH.le F F' → K.rep F' x' cs' → Row K F' (CH.join pa (CH.join (CH.row b o cs') pb)) v (xs.set i x')) (hF : CH.le F F') (hr : K.rep F' x cs) (C : Ctx w0 F0 D w F' (pa :: CH.row b o cs :: pb :: rest)) :
    ∃ p', Ctx w0 F0 D w F' (p' :: rest) ∧ Row K F' p' v (xs.set i x) :=
  ⟨_, Ctx.join [] rest (Ctx.join [pa] rest C), hput _ _ _ hF hr⟩
end
end Go.WG
namespace Go.WG
open Go Go.RowKit
/-! calls: what the callee does, told first -/
section
variable {P : Program} {ops : Array Oper} {Q : Exit → Env → World → Prop} {env : Env} {w w' : World} {rest : List Oper} {op : Op} {ty : TypeId} {pos : String} {aft : Array Edge} {dst : Option Nat} {f : FuncId} {args : Array Value} {R : Ending → World → Prop}
theorem WL.callH (hc : Calls P f args w R) (h : Yenter P env op ty w f args) (k : ∀ e w', R e w' → ∃ v, e = .returned v ∧ WL P ops Q rest (putE env dst v) w') : WL P ops Q (⟨dst, op, ty, pos, aft, none⟩ :: rest) env w := WL.call h hc k
variable {N : Nat} {Ms : List (List Nat × CH)} {R' : Env → World → Prop} {fuel : Nat} {listed : Array Bool}
theorem Up.callH {i : Nat} {L : Array Bool} (hi : ops[i]? = some ⟨dst, op, ty, pos, aft, none⟩) (hd : dstOk N ⟨dst, op, ty, pos, aft, none⟩ = true) (hl : listed.setIfInBounds i true = L) (hc : Calls P f args w R) (he : Yenter P env op ty w f args)
    (h : ∀ e w', R e w' → ∃ v, e = .returned v ∧ SLc Ms i listed w' ∧ WA P N ops Ms R' fuel L (putE env dst v) w') : Up P N ops Ms R' fuel listed env w i := Up.call hi hd hl he hc h
theorem UpI.callH {K : Env → World → Prop} {i : Nat} (hi : ops[i]? = some ⟨dst, op, ty, pos, aft, none⟩) (hd : dstOk N ⟨dst, op, ty, pos, aft, none⟩ = true) (hc : Calls P f args w R) (he : Yenter P env op ty w f args)
    (h : ∀ e w', R e w' → ∃ v, e = .returned v ∧ Sall Ms w' ∧ K (putE env dst v) w') : UpI P N ops Ms K env w i := UpI.call hi hd he hc h
end
end Go.WG
