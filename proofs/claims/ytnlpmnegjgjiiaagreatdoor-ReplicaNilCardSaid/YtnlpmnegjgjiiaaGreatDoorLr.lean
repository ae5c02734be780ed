/- Short forms for printed walks: pieces picked by their places, what is frozen under a new name, runs of operations that are off, operations of a drawn region that only read, taken at once. -/
import Derived.Test.YtnlpmnegjgjiiaaGreatDoorLq
namespace Go.WG
open Go.RowKit
set_option linter.unusedVariables false
set_option linter.unusedSimpArgs false
theorem ones_of {us : List Value} (h : us.all (fun u => u.oneCell') = true) : ∀ u ∈ us, u.oneCell' = true := fun u hu => List.all_eq_true.1 h u hu
/-- The places are apart, but those that lie behind the end. -/
def okPick (n : Nat) : List Nat → Bool
  | [] => true
  | i :: r => (Nat.ble n i || !r.any (Nat.beq i)) && okPick n r
section
variable {w0 w w' : World} {F0 F : CH} {D : Nat → Nat → Prop} {ps : List CH}
theorem pick_apart (hp : ps.Pairwise CH.dis) : ∀ {i j : Nat}, i ≠ j → CH.dis (ps.getD i CH.emp) (ps.getD j CH.emp) := fun {i j} hij => by
  rw [List.getD_eq_getElem?_getD, List.getD_eq_getElem?_getD]
  by_cases hi : i < ps.length
  · by_cases hj : j < ps.length
    · rw [List.getElem?_eq_getElem hi, List.getElem?_eq_getElem hj]
      rcases Nat.lt_or_gt_of_ne hij with h | h
      · exact List.pairwise_iff_getElem.1 hp i j hi hj h
      · exact CH.dis_symm (List.pairwise_iff_getElem.1 hp j i hj hi h)
    · rw [List.getElem?_eq_none (l := ps) (i := j) (by omega)]; exact CH.dis_emp _
  · rw [List.getElem?_eq_none (l := ps) (i := i) (by omega)]; exact CH.emp_dis _
/-- The pieces at these places, in this order; nothing where there is none. -/
theorem Ctx.pick (is : List Nat) (h : Ctx w0 F0 D w F ps) (hn : okPick ps.length is = true) : Ctx w0 F0 D w F (is.map fun i => ps.getD i CH.emp) := by
  refine ⟨h.mod, h.le, h.fro, h.dom, fun p hp => ?_, ?_⟩
  · obtain ⟨i, _, rfl⟩ := List.mem_map.1 hp
    by_cases hi : i < ps.length
    · rw [List.getD_eq_getElem?_getD, List.getElem?_eq_getElem hi]
      exact h.own _ (List.getElem_mem hi)
    · rw [List.getD_eq_getElem?_getD, List.getElem?_eq_none (by omega)]
      exact ⟨fun _ _ _ hv => (by cases hv), CH.dis_emp _, fun g o hn => absurd rfl hn⟩
  · induction is with
    | nil => exact .nil
    | cons i r ih =>
      unfold okPick at hn
      rw [Bool.and_eq_true] at hn
      refine List.pairwise_cons.2 ⟨fun q hq => ?_, ih hn.2⟩
      obtain ⟨j, hj, rfl⟩ := List.mem_map.1 hq
      by_cases hij : i = j
      · subst hij
        rcases (Bool.or_eq_true _ _).mp hn.1 with h1 | h1
        · have := Nat.le_of_ble_eq_true h1
          rw [List.getD_eq_getElem?_getD, List.getElem?_eq_none (by omega)]
          exact CH.dis_emp _
        · have : (r.any (Nat.beq i)) = true := List.any_eq_true.2 ⟨i, hj, Nat.beq_refl i⟩
          rw [this] at h1; cases h1
      · exact pick_apart h.pair hij
theorem Ctx.subI (i : Nat) (h : Ctx w0 F0 D w F ps) {p : CH} (hp : ps[i]? = some p) : Sub p w := (h.own p (List.mem_of_getElem? hp)).1.sub
/-- A piece that is only read from here on. -/
theorem Ctx.fz (ps1 ps2 : List CH) {p : CH} (h : Ctx w0 F0 D w F (ps1 ++ p :: ps2)) : ∃ F', CH.le F F' ∧ CH.le p F' ∧ Ctx w0 F0 D w F' (ps1 ++ ps2) :=
  ⟨CH.join F p, CH.le_joinL _ _, CH.le_joinR (Ctx.dis_of ps1 ps2 h), Ctx.freeze ps1 ps2 h⟩
theorem Ctx.fzI (i : Nat) {p : CH} (h : Ctx w0 F0 D w F ps) (hp : ps[i]? = some p) : ∃ F', CH.le F F' ∧ CH.le p F' ∧ Ctx w0 F0 D w F' (ps.eraseIdx i) := by
  obtain ⟨hi, rfl⟩ := List.getElem?_eq_some_iff.1 hp
  rw [List.eraseIdx_eq_take_drop_succ]
  refine Ctx.fz (ps.take i) (ps.drop (i + 1)) ?_
  rw [← List.drop_eq_getElem_cons hi, List.take_append_drop]
  exact h
theorem Row.fz {α : Type} {K : Kd α} {F F' p : CH} {A : Option Addr} {n c : Nat} {xs : List α} (hR : Row K F p (.slice A n c) xs) (hF : CH.le F F') (hp : CH.le p F') : xs.length ≤ c ∧ c ≤ maxLen ∧ Sl K F' F' A xs :=
  ⟨hR.len_le.1, hR.len_le.2.1, hR.sl.mono hF hp⟩
end
section
variable {P : Program} {w0 w : World} {F0 F : CH} {D : Nat → Nat → Prop} {ps ps1 ps2 : List CH}
/-- A store into a variable, by its place. -/
theorem ev_setI {t : TypeId} {g off : Nat} (o : Nat) {cs : List Value} (us : List Value) (v : Value) (C : Ctx w0 F0 D w F (ps1 ++ CH.row g off cs :: ps2)) (ho : Nat.ble (o + us.length) cs.length = true) (hv : v.cells = us.toArray) (h1 : ∀ u ∈ us, u.oneCell' = true) (hs : (P.info? t).map (·.size) = some us.length) :
    ∃ w', (∀ (env : Env) (x y : Operand) (ty : TypeId), ev env x = .pointer (some ⟨g, off + o, none⟩) → ev env y = v → Yskip P env (.store t x y) ty w w') ∧ Ctx w0 F0 D w' F (ps1 ++ CH.row g off (cs.take o ++ us ++ cs.drop (o + us.length)) :: ps2) := by
  have hle := Nat.le_of_ble_eq_true ho
  refine ev_set cs (cs.take o) ((cs.drop o).take us.length) (cs.drop (o + us.length)) us v C ?_ (by rw [List.length_take]; omega) (by rw [List.length_take, List.length_drop]; omega) hv h1 hs
  rw [← List.drop_drop, List.append_assoc, List.take_append_drop, List.take_append_drop]
end
section steps
variable {P : Program} {ops : Array Oper} {Q : Exit → Env → World → Prop} {env : Env} {w w' : World} {rest l : List Oper} {op : Op} {ty : TypeId} {pos : String} {aft : Array Edge} {v : Value} {d : Nat} {dst : Option Nat} {j x : Nat} {b : Bool}
/-- The operations' slots, none of which has run. -/
def offE (l : List Oper) (env : Env) : Env := l.foldl (fun e o => putE e o.dst undef) env
def offB (ops : Array Oper) (x : Nat) (b : Bool) (l : List Oper) : Bool :=
  l.all fun o => match o.guard with
    | some (j, b') => (match (ops[j]?).bind (·.dst) with | some y => Nat.beq y x | none => false) && (b' == b) && (match o.dst with | some d => !Nat.beq d x | none => true)
    | none => false
/-- A run of operations behind one guard that is off. -/
theorem WL.offs (n x : Nat) (b : Bool) (hx : env x = .bool (!b)) (ho : offB ops x b (l.take n) = true) (k : WL P ops Q (l.drop n) (offE (l.take n) env) w) : WL P ops Q l env w := by
  induction n generalizing l env with
  | zero => exact k
  | succ n ih =>
    cases l with
    | nil => exact k
    | cons o r =>
      obtain ⟨dst, op, ty, pos, aft, g⟩ := o
      rw [List.take_succ_cons] at ho k
      unfold offB at ho
      rw [List.all_cons, Bool.and_eq_true] at ho
      obtain ⟨h1, h2⟩ := ho
      cases g with
      | none => cases h1
      | some jb =>
        obtain ⟨j, b'⟩ := jb
        simp only [Bool.and_eq_true] at h1
        obtain ⟨⟨h3, h4⟩, h5⟩ := h1
        have h4' : b' = b := by simpa using h4
        subst h4'
        cases hj : (ops[j]?).bind (·.dst) with
        | none => simp [hj] at h3
        | some y =>
          simp only [hj] at h3
          obtain rfl := Nat.eq_of_beq_eq_true h3
          refine WL.off hj hx (ih ?_ h2 k)
          cases dst with
          | none => exact hx
          | some d =>
            have h6 : Nat.beq d y = false := by simpa using h5
            show cond (Nat.beq y d) undef (env y) = _
            have : Nat.beq y d = false := by
              rw [Bool.eq_false_iff] at h6 ⊢
              exact fun e => h6 (by rw [Nat.eq_of_beq_eq_true e]; exact Nat.beq_refl _)
            rw [this]; exact hx
/-- The same behind a guard that itself has not run. -/
theorem WL.offs' (n x : Nat) (b : Bool) (hx : env x = undef) (ho : offB ops x b (l.take n) = true) (k : WL P ops Q (l.drop n) (offE (l.take n) env) w) : WL P ops Q l env w := by
  induction n generalizing l env with
  | zero => exact k
  | succ n ih =>
    cases l with
    | nil => exact k
    | cons o r =>
      obtain ⟨dst, op, ty, pos, aft, g⟩ := o
      rw [List.take_succ_cons] at ho k
      unfold offB at ho
      rw [List.all_cons, Bool.and_eq_true] at ho
      obtain ⟨h1, h2⟩ := ho
      cases g with
      | none => cases h1
      | some jb =>
        obtain ⟨j, b'⟩ := jb
        simp only [Bool.and_eq_true] at h1
        obtain ⟨⟨h3, h4⟩, h5⟩ := h1
        cases hj : (ops[j]?).bind (·.dst) with
        | none => simp [hj] at h3
        | some y =>
          simp only [hj] at h3
          obtain rfl := Nat.eq_of_beq_eq_true h3
          refine WL.off' hj hx (ih ?_ h2 k)
          cases dst with
          | none => exact hx
          | some d =>
            have h6 : Nat.beq d y = false := by simpa using h5
            show cond (Nat.beq y d) undef (env y) = _
            have : Nat.beq y d = false := by
              rw [Bool.eq_false_iff] at h6 ⊢
              exact fun e => h6 (by rw [Nat.eq_of_beq_eq_true e]; exact Nat.beq_refl _)
            rw [this]; exact hx
theorem WL.valOn (hj : (ops[j]?).bind (·.dst) = some x) (hx : env x = .bool b) (h : Yl P env op ty w v w') (k : WL P ops Q rest (upd env d v) w') : WL P ops Q (⟨some d, op, ty, pos, aft, some (j, b)⟩ :: rest) env w := WL.on hj hx (WL.val h k)
/-- In a region that only reads, over the draws. -/
theorem WQ.vl {W : World} {Q : Env → Prop} (h : ∀ n, Yl P env op ty (W.drewN n) v (W.drewN n)) (k : WQ P ops (fun w' => ∃ n, w' = W.drewN n) Q rest (upd env d v)) : WQ P ops (fun w' => ∃ n, w' = W.drewN n) Q (⟨some d, op, ty, pos, aft, none⟩ :: rest) env :=
  WQ.val (fun _ ⟨n, hn⟩ => by subst hn; exact h n) k
theorem WQ.vOn {W : World} {Q : Env → Prop} (hj : (ops[j]?).bind (·.dst) = some x) (hx : env x = .bool b) (h : ∀ n, Yl P env op ty (W.drewN n) v (W.drewN n)) (k : WQ P ops (fun w' => ∃ n, w' = W.drewN n) Q rest (upd env d v)) : WQ P ops (fun w' => ∃ n, w' = W.drewN n) Q (⟨some d, op, ty, pos, aft, some (j, b)⟩ :: rest) env :=
  WQ.on hj hx (WQ.vl h k)
theorem WQ.offs {C : World → Prop} {Q : Env → Prop} (n x : Nat) (b : Bool) (hx : env x = .bool (!b)) (ho : offB ops x b (l.take n) = true) (k : WQ P ops C Q (l.drop n) (offE (l.take n) env)) : WQ P ops C Q l env := by
  induction n generalizing l env with
  | zero => exact k
  | succ n ih =>
    cases l with
    | nil => exact k
    | cons o r =>
      obtain ⟨dst, op, ty, pos, aft, g⟩ := o
      rw [List.take_succ_cons] at ho k
      unfold offB at ho
      rw [List.all_cons, Bool.and_eq_true] at ho
      obtain ⟨h1, h2⟩ := ho
      cases g with
      | none => cases h1
      | some jb =>
        obtain ⟨j, b'⟩ := jb
        simp only [Bool.and_eq_true] at h1
        obtain ⟨⟨h3, h4⟩, h5⟩ := h1
        have h4' : b' = b := by simpa using h4
        subst h4'
        cases hj : (ops[j]?).bind (·.dst) with
        | none => simp [hj] at h3
        | some y =>
          simp only [hj] at h3
          obtain rfl := Nat.eq_of_beq_eq_true h3
          refine WQ.off hj hx (ih ?_ h2 k)
          cases dst with
          | none => exact hx
          | some d =>
            have h6 : Nat.beq d y = false := by simpa using h5
            show cond (Nat.beq y d) undef (env y) = _
            have : Nat.beq y d = false := by
              rw [Bool.eq_false_iff] at h6 ⊢
              exact fun e => h6 (by rw [Nat.eq_of_beq_eq_true e]; exact Nat.beq_refl _)
            rw [this]; exact hx
theorem WQ.offs' {C : World → Prop} {Q : Env → Prop} (n x : Nat) (b : Bool) (hx : env x = undef) (ho : offB ops x b (l.take n) = true) (k : WQ P ops C Q (l.drop n) (offE (l.take n) env)) : WQ P ops C Q l env := by
  induction n generalizing l env with
  | zero => exact k
  | succ n ih =>
    cases l with
    | nil => exact k
    | cons o r =>
      obtain ⟨dst, op, ty, pos, aft, g⟩ := o
      rw [List.take_succ_cons] at ho k
      unfold offB at ho
      rw [List.all_cons, Bool.and_eq_true] at ho
      obtain ⟨h1, h2⟩ := ho
      cases g with
      | none => cases h1
      | some jb =>
        obtain ⟨j, b'⟩ := jb
        simp only [Bool.and_eq_true] at h1
        obtain ⟨⟨h3, h4⟩, h5⟩ := h1
        cases hj : (ops[j]?).bind (·.dst) with
        | none => simp [hj] at h3
        | some y =>
          simp only [hj] at h3
          obtain rfl := Nat.eq_of_beq_eq_true h3
          refine WQ.off' hj hx (ih ?_ h2 k)
          cases dst with
          | none => exact hx
          | some d =>
            have h6 : Nat.beq d y = false := by simpa using h5
            show cond (Nat.beq y d) undef (env y) = _
            have : Nat.beq y d = false := by
              rw [Bool.eq_false_iff] at h6 ⊢
              exact fun e => h6 (by rw [Nat.eq_of_beq_eq_true e]; exact Nat.beq_refl _)
            rw [this]; exact hx
end steps
/-! ### operations of a drawn region that only read, one after the other -/
section
variable {P : Program} {N : Nat} {ops : Array Oper} {Ms : List (List Nat × CH)} {R : Env → World → Prop} {env : Env} {w : World} {fuel : Nat} {listed : Array Bool}
/-- What each of them yields, heap k as it was; and what is to be shown behind. -/
def WT (P : Program) (ops : Array Oper) (Ms : List (List Nat × CH)) (K : Env → Prop) : List (Nat × Option Nat) → Env → Prop
  | [], env => K env
  | (i, k) :: r, env => ∃ o v, ops[i]? = some o ∧ ((Region.wanted o (yieldedE ops env) = true ∧ ∀ w, Cof Ms k w → (execOp (ev env) o).run P w = .ok (.value v) w) ∨ (Region.wanted o (yieldedE ops env) = false ∧ v = undef)) ∧ WT P ops Ms K r (putE env o.dst v)
def Sall : List (List Nat × CH) → World → Prop
  | [], _ => True
  | p :: r, w => Sub p.2 w ∧ Sall r w
theorem Sall.at : ∀ {Ms : List (List Nat × CH)} {w : World}, Sall Ms w → ∀ p ∈ Ms, Sub p.2 w
  | _ :: _, _, h, p, hp => by
    rcases List.mem_cons.1 hp with rfl | hp
    · exact h.1
    · exact Sall.at h.2 p hp
/-- Who waits for i, each by an edge to i or to one of those. -/
def waiters (ops : Array Oper) (i : Nat) : List Nat :=
  ((List.range ops.size).foldl (fun acc j => if i < j ∧ (match ops[j]? with | some o => o.after.any fun e => Region.binds .any e && Nat.blt e.on j && (Nat.beq e.on i || acc.any (Nat.beq e.on)) | none => false) = true then acc ++ [j] else acc) [])
def chks (N : Nat) (ops : Array Oper) (Ms : List (List Nat × CH)) : List (Nat × Option Nat) → Array Bool → Bool
  | [], _ => true
  | (i, k) :: r, L => chk N ops (Wof Ms k) (waiters ops i) L i && quietOk Ms i && chks N ops Ms r (L.setIfInBounds i true)
theorem Cof_of (h : Sall Ms w) (k : Option Nat) : Cof Ms k w := by
  unfold Cof
  cases k with
  | none => trivial
  | some k =>
    simp only
    cases hp : Ms[k]? with
    | none => trivial
    | some p => exact h.at p (List.mem_of_getElem? hp)
theorem WA.takes (is : List (Nat × Option Nat)) (hs : Sall Ms w) (hk : chks N ops Ms is listed = true) (h : WT P ops Ms (fun env => WA P N ops Ms R fuel (is.foldl (fun L p => L.setIfInBounds p.1 true) listed) env w) is env) : WA P N ops Ms R (fuel + is.length) listed env w := by
  induction is generalizing listed env with
  | nil => exact h
  | cons p r ih =>
    obtain ⟨i, k⟩ := p
    obtain ⟨o, v, ho, hy, ht⟩ := h
    unfold chks at hk
    rw [Bool.and_eq_true, Bool.and_eq_true] at hk
    exact WA.takeO k (waiters ops i) i ho hk.1.1 hk.1.2 (Cof_of hs k) (SLc.iff.2 fun p hp _ => hs.at p hp) hy (ih hk.2 ht)
variable {K : Env → Prop} {r : List (Nat × Option Nat)} {i d : Nat} {k : Option Nat} {op : Op} {ty : TypeId} {pos : String} {aft : Array Edge} {v : Value} {j x : Nat} {b : Bool} {dst : Option Nat}
theorem WT.done (h : K env) : WT P ops Ms K [] env := h
theorem WT.val (hi : ops[i]? = some ⟨some d, op, ty, pos, aft, none⟩) (hy : ∀ w, Cof Ms k w → Yl P env op ty w v w) (h : WT P ops Ms K r (upd env d v)) : WT P ops Ms K ((i, k) :: r) env :=
  ⟨_, v, hi, .inl ⟨wanted_none _ rfl _, fun w hw => by rw [execOp_bare]; exact hy w hw⟩, h⟩
theorem WT.on (hi : ops[i]? = some ⟨some d, op, ty, pos, aft, some (j, b)⟩) (hj : (ops[j]?).bind (·.dst) = some x) (hx : env x = .bool b) (hy : ∀ w, Cof Ms k w → Yl P env op ty w v w) (h : WT P ops Ms K r (upd env d v)) : WT P ops Ms K ((i, k) :: r) env :=
  ⟨_, v, hi, .inl ⟨by unfold Region.wanted yieldedE; simp only [hj, hx]; simp, fun w hw => by rw [execOp_bare]; exact hy w hw⟩, h⟩
theorem WT.off (hi : ops[i]? = some ⟨dst, op, ty, pos, aft, some (j, b)⟩) (hj : (ops[j]?).bind (·.dst) = some x) (hx : env x = .bool (!b)) (h : WT P ops Ms K r (putE env dst undef)) : WT P ops Ms K ((i, none) :: r) env :=
  ⟨_, undef, hi, .inr ⟨by unfold Region.wanted yieldedE; simp only [hj, hx]; cases b <;> simp, rfl⟩, h⟩
theorem WT.off' (hi : ops[i]? = some ⟨dst, op, ty, pos, aft, some (j, b)⟩) (hj : (ops[j]?).bind (·.dst) = some x) (hx : env x = undef) (h : WT P ops Ms K r (putE env dst undef)) : WT P ops Ms K ((i, none) :: r) env :=
  ⟨_, undef, hi, .inr ⟨by unfold Region.wanted yieldedE; simp only [hj, hx]; cases b <;> rfl, rfl⟩, h⟩
end
end Go.WG
