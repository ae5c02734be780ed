/- A region that draws its order and does something: one operation after the other, each either only reads (and may be taken first) or is the only one that may come up. -/
import Derived.Test.YtnlpmnegjgjiiaaGreatDoorLg
namespace Go.WG
open Go.RowKit
/-- Wi wait for i, each by an edge to i or to a lower one of them. -/
def okW (md : Region.Mode) (ops : Array Oper) (i : Nat) (Wi : List Nat) : Bool :=
  Wi.all fun j => match ops[j]? with
    | some o => o.after.any fun e => Region.binds md e && Nat.blt e.on j && (Nat.beq e.on i || Wi.any (Nat.beq e.on))
    | none => false
def closed (md : Region.Mode) (ops : Array Oper) (listed : Array Bool) : Prop :=
  ∀ (m : Nat) (om : Oper), ops[m]? = some om → listed.getD m false = true → ∀ e ∈ om.after, Region.binds md e = true → listed.getD e.on false = true
theorem okW.spec {md : Region.Mode} {ops : Array Oper} {i : Nat} {Wi : List Nat} (h : okW md ops i Wi = true) {listed : Array Bool} (hc : closed md ops listed) :
    ∀ (j : Nat), j ∈ Wi → ∀ (oj : Oper), ops[j]? = some oj → (∀ e ∈ oj.after, Region.binds md e = true → listed.getD e.on false = true) → listed.getD i false = true := by
  intro j
  induction j using Nat.strongRecOn with
  | ind j ih =>
    intro hj oj hoj hall
    have h1 := List.all_eq_true.1 h j hj
    simp only [hoj] at h1
    obtain ⟨e, he, hb⟩ := Array.any_eq_true'.1 h1
    simp only [Bool.and_eq_true, Bool.or_eq_true, Nat.blt_eq, List.any_eq_true] at hb
    obtain ⟨⟨hb1, hlt⟩, hb2⟩ := hb
    have hl := hall e he hb1
    rcases hb2 with hb2 | ⟨k, hk, hb2⟩
    · rw [← Nat.eq_of_beq_eq_true hb2]
      exact hl
    · have hke := Nat.eq_of_beq_eq_true hb2
      subst hke
      cases ho : ops[e.on]? with
      | none =>
        have h2 := List.all_eq_true.1 h _ hk
        simp only [ho] at h2
        cases h2
      | some oe => exact ih e.on hlt hk oe ho (hc _ _ ho hl)
theorem closed.set {md : Region.Mode} {ops : Array Oper} {listed : Array Bool} (hc : closed md ops listed) {j : Nat} {oj : Oper} (hoj : ops[j]? = some oj) (hall : ∀ e ∈ oj.after, Region.binds md e = true → listed.getD e.on false = true) :
    closed md ops (listed.setIfInBounds j true) := fun m om hm hl e he hb => by
  rcases Decidable.em (j = m) with rfl | hne
  · rw [hoj] at hm
    injection hm with hm
    subst hm
    exact getD_set_true (hall e he hb)
  · rw [getD_set_ne false hne] at hl
    exact getD_set_true (hc m om hm hl e he hb)
section
variable {P : Program} {ops : Array Oper} {Q : Exit → Act → World → Prop} {md : Region.Mode} {S : Nat → Array Bool → World → Prop} {C : World → Prop}
/-- Whatever comes up next, and S behind each. -/
def anyS (P : Program) (md : Region.Mode) (ops : Array Oper) (Q : Exit → Act → World → Prop) (S : Nat → Array Bool → World → Prop) : Nat → Array Bool → Act → World → Prop
  | 0, listed, a, w => Region.ready md ops listed = [] ∧ Q .normal a w
  | fuel + 1, listed, a, w =>
    (Region.ready md ops listed = [] → Q .normal a w) ∧
    ∀ i ∈ Region.ready md ops listed, wpOp P ops Q i (fun a' w' => S i listed w' ∧ anyS P md ops Q S fuel (listed.setIfInBounds i true) a' w') a w
theorem anyS.any : ∀ (fuel : Nat) (listed : Array Bool) (a : Act) (w : World), anyS P md ops Q S fuel listed a w → wpAny P md ops Q fuel listed a w
  | 0, _, _, _, h => h
  | fuel + 1, _, _, _, h => ⟨h.1, fun i hi => wpOp_mono (fun a' w' h' => anyS.any fuel _ a' w' h'.2) (h.2 i hi)⟩
theorem unlisted {listed : Array Bool} {j : Nat} (h0 : listed.getD j true = false) (h1 : listed.getD j false = true) : False := by
  rw [Array.getD_eq_getD_getElem?] at h0 h1
  cases hl : listed[j]? with
  | none => rw [hl] at h1; simp at h1
  | some b =>
    rw [hl] at h0 h1
    simp only [Option.getD_some] at h0 h1
    rw [h1] at h0
    cases h0
/-- An operation that only reads, taken first. Wi: operations that do something, and wait for it. -/
theorem anyS.first {i : Nat} {oi : Oper} {v : Value} {Wi X : List Nat} (hi : ops[i]? = some oi) (hsel : ∀ (j : Nat) (o : Oper) cs b, ops[j]? = some o → o.op ≠ .select cs b)
    (hQ : ∀ c a w, Q (.panic c) (a.put oi.dst v) w → Q (.panic c) a w) (hW : okW md ops i X = true) (hX : ∀ q ∈ Wi, q ∈ X) (hWo : ∀ q ∈ Wi, ∃ o, ops[q]? = some o)
    (hC : ∀ j L w, j ∉ Wi → (∀ q ∈ Wi, L.getD q false = true → False) → S j L w → C w) (hS1 : ∀ j L w, S j (L.setIfInBounds i true) w → S j L w) (hS2 : ∀ j L w, L.getD j true = false → S j L w → S i (L.setIfInBounds j true) w) :
    ∀ (fuel : Nat) (listed : Array Bool) (a : Act) (w : World), closed md ops listed →
      (∀ j oj, ops[j]? = some oj → j ≠ i → listed.getD j true = false → (∀ e ∈ oj.after, Region.binds md e = true → e.on ≠ i) → oi.apart ops oj = true) →
      i ∈ Region.ready md ops listed → YieldsIf P ops C oi v a → C w → S i listed w →
      anyS P md ops Q S fuel (listed.setIfInBounds i true) (a.put oi.dst v) w → anyS P md ops Q S (fuel + 1) listed a w := by
  intro fuel
  induction fuel with
  | zero =>
    intro listed a w hcl hfree hr hy hc hs H
    refine ⟨fun h => absurd hr (by rw [h]; simp), fun j hj => ?_⟩
    rcases Decidable.em (j = i) with rfl | hji
    · exact hy.wpOp hi hc ⟨hs, H⟩
    · have := ready_mono hj hji
      rw [H.1] at this
      simp at this
  | succ fuel ih =>
    intro listed a w hcl hfree hr hy hc hs H
    obtain ⟨hun, oi', hoi', hafter⟩ := mem_ready.1 hr
    refine ⟨fun h => absurd hr (by rw [h]; simp), fun j hj => ?_⟩
    rcases Decidable.em (j = i) with rfl | hji
    · exact hy.wpOp hi hc ⟨hs, H⟩
    · have h1 := H.2 j (ready_mono hj hji)
      obtain ⟨hjun, oj, hoj, hall⟩ := mem_ready.1 hj
      have hnot : ∀ e ∈ oj.after, Region.binds md e = true → e.on ≠ i := fun e he hb heq => by
        subst heq
        exact unlisted hun (hall e he hb)
      have hjW : j ∉ Wi := fun hm => unlisted hun (okW.spec hW hcl j (hX j hm) oj hoj hall)
      have hWl : ∀ q ∈ Wi, listed.getD q false = true → False := fun q hq hl => by
        obtain ⟨oq, hoq⟩ := hWo q hq
        exact unlisted hun (okW.spec hW hcl q (hX q hq) oq hoq (hcl q oq hoq hl))
      have h2 := wpOp_putIf hoj (hfree j oj hoj hji hjun hnot) (fun cs b => hsel i oi cs b hi) (fun cs b => hsel j oj cs b hoj) hQ hy h1
      refine wpOp_mono (fun a' w' h3 => ?_) h2
      obtain ⟨hy', hs', H'⟩ := h3
      rw [Array.setIfInBounds_comm _ _ (Ne.symm hji)] at H'
      have hsj : S j listed w' := hS1 _ _ _ hs'
      refine ⟨hsj, ih (listed.setIfInBounds j true) a' w' (hcl.set hoj hall) (fun k ok hk hki hkun hno => hfree k ok hk hki ?_ hno) (ready_mono hr (Ne.symm hji)) hy' (hC j _ w' hjW hWl hsj) (hS2 j _ w' hjun hsj) H'⟩
      rcases Decidable.em (j = k) with rfl | hjk
      · exact hjun
      · rwa [getD_set_ne true hjk] at hkun
end
/-- Heaps that are read, each with operations that do something and wait for all that reads it: until one of these has come up it is as it was. -/
def SLc (Ms : List (List Nat × CH)) (j : Nat) (L : Array Bool) (w : World) : Prop :=
  match Ms with
  | [] => True
  | (W, h) :: r => (cond (W.any fun q => Nat.beq q j || L.getD q false) True (Sub h w)) ∧ SLc r j L w
theorem SLc.iff {Ms : List (List Nat × CH)} {j : Nat} {L : Array Bool} {w : World} : SLc Ms j L w ↔ ∀ p ∈ Ms, (∀ q ∈ p.1, q ≠ j ∧ ¬ L.getD q false = true) → Sub p.2 w := by
  induction Ms with
  | nil => simp [SLc]
  | cons p r ih =>
    obtain ⟨W, h⟩ := p
    simp only [SLc, ih, List.mem_cons, forall_eq_or_imp]
    refine and_congr ?_ Iff.rfl
    cases hb : (W.any fun q => Nat.beq q j || L.getD q false) with
    | true =>
      simp only [_root_.cond_true, true_iff]
      intro hall
      obtain ⟨q, hq, hq2⟩ := List.any_eq_true.1 hb
      obtain ⟨h1, h2⟩ := hall q hq
      rw [Bool.or_eq_true] at hq2
      rcases hq2 with hq2 | hq2
      · exact absurd (Nat.eq_of_beq_eq_true hq2) h1
      · exact absurd hq2 h2
    | false =>
      simp only [_root_.cond_false]
      refine ⟨fun h _ => h, fun h => h fun q hq => ?_⟩
      have := List.any_eq_false.1 hb q hq
      simp only [Bool.or_eq_true, not_or] at this
      refine ⟨fun e => this.1 (by subst e; exact Nat.beq_refl _), this.2⟩
/-- The condition of one heap. -/
def Cof (Ms : List (List Nat × CH)) (k : Option Nat) : World → Prop := fun w =>
  match k with
  | none => True
  | some k => match Ms[k]? with
    | some p => Sub p.2 w
    | none => True
def Wof (Ms : List (List Nat × CH)) (k : Option Nat) : List Nat :=
  match k with
  | none => []
  | some k => match Ms[k]? with
    | some p => p.1
    | none => []
def quietOk (Ms : List (List Nat × CH)) (i : Nat) : Bool := Ms.all fun p => p.1.all fun q => !Nat.beq q i
def nrm (Q : Act → World → Prop) : Exit → Act → World → Prop := fun e a w => e = .normal ∧ Q a w
/-- From whatever frame has these slots. -/
def WA (P : Program) (N : Nat) (ops : Array Oper) (Ms : List (List Nat × CH)) (R : Env → World → Prop) (fuel : Nat) (listed : Array Bool) (env : Env) (w : World) : Prop :=
  closed .any ops listed → ∀ a, Frm N env a → anyS P .any ops (nrm fun a w => ∃ env, Frm N env a ∧ R env w) (SLc Ms) fuel listed a w
section
variable {P : Program} {N : Nat} {ops : Array Oper} {Ms : List (List Nat × CH)} {R : Env → World → Prop} {env : Env} {w w' : World} {fuel : Nat} {listed : Array Bool}
theorem Frm.put' {a : Act} (ha : Frm N env a) {o : Oper} (ho : dstOk N o = true) (v : Value) : Frm N (putE env o.dst v) (a.put o.dst v) := ha.put ho v
def chk (N : Nat) (ops : Array Oper) (Wi X : List Nat) (listed : Array Bool) (i : Nat) : Bool :=
  Region.noSelect ops && Region.free .any ops listed i && (Region.ready .any ops listed).contains i && okW .any ops i X && Wi.all (fun q => Nat.blt q ops.size && X.any (Nat.beq q)) && ops.toList.all (dstOk N)
theorem WA.takeO (k : Option Nat) (X : List Nat) (i : Nat) {o : Oper} (hi : ops[i]? = some o) {v : Value} (hk : chk N ops (Wof Ms k) X listed i = true) (hq : quietOk Ms i = true) (hc : Cof Ms k w) (hs : SLc Ms i listed w)
    (hy : (Region.wanted o (yieldedE ops env) = true ∧ ∀ w, Cof Ms k w → (execOp (ev env) o).run P w = .ok (.value v) w) ∨ (Region.wanted o (yieldedE ops env) = false ∧ v = undef))
    (h : WA P N ops Ms R fuel (listed.setIfInBounds i true) (putE env o.dst v) w) : WA P N ops Ms R (fuel + 1) listed env w := fun hcl a ha => by
  simp only [chk, Bool.and_eq_true] at hk
  obtain ⟨⟨⟨⟨⟨h1, h2⟩, h3⟩, h4⟩, h5⟩, h6⟩ := hk
  have hr : i ∈ Region.ready .any ops listed := by simpa using h3
  obtain ⟨hun, o', ho', hall⟩ := mem_ready.1 hr
  have hdst : dstOk N o = true := List.all_eq_true.1 h6 o (by simpa using Array.mem_of_getElem? hi)
  have hmem : ∀ p, (match k with | none => none | some k => Ms[k]?) = some p → p ∈ Ms := fun p hp => by
    cases k with
    | none => cases hp
    | some k => exact List.mem_of_getElem? hp
  refine anyS.first (C := Cof Ms k) (Wi := Wof Ms k) (X := X) hi (Region.noSelect_spec h1) (fun c a w hn => by obtain ⟨e, _⟩ := hn; cases e) h4 (fun q hq => ?_) (fun q hq => ?_) (fun j L w hj hL hS => ?_) (fun j L w hS => ?_) (fun j L w hjun hS => ?_) fuel listed a w hcl (Region.free_spec hi h2) hr ?_ hc hs (h (hcl.set hi (fun e he hb => by rw [hi] at ho'; injection ho' with ho'; subst ho'; exact hall e he hb)) _ (ha.put hdst v))
  · have := List.all_eq_true.1 h5 q hq
    rw [Bool.and_eq_true] at this
    obtain ⟨x, hx, hqx⟩ := List.any_eq_true.1 this.2
    rw [Nat.eq_of_beq_eq_true hqx]
    exact hx
  · have := List.all_eq_true.1 h5 q hq
    rw [Bool.and_eq_true, Nat.blt_eq] at this
    exact ⟨ops[q], Array.getElem?_eq_getElem this.1⟩
  · unfold Cof
    cases k with
    | none => trivial
    | some k =>
      simp only
      cases hp : Ms[k]? with
      | none => trivial
      | some p =>
        have hW : Wof Ms (some k) = p.1 := by simp [Wof, hp]
        rw [hW] at hj hL
        exact SLc.iff.1 hS p (List.mem_of_getElem? hp) fun q hq => ⟨fun e => hj (e ▸ hq), fun hl => hL q hq hl⟩
  · refine SLc.iff.2 fun p hp hall => SLc.iff.1 hS p hp fun q hq' => ⟨(hall q hq').1, fun hl => ?_⟩
    have hqi : i ≠ q := fun e => by
      have := List.all_eq_true.1 (List.all_eq_true.1 hq p hp) q hq'
      subst e
      simp at this
    rw [getD_set_ne false hqi] at hl
    exact (hall q hq').2 hl
  · refine SLc.iff.2 fun p hp hall => SLc.iff.1 hS p hp fun q hq' => ?_
    have hqj : q ≠ j := fun e => by
      have h7 := (hall q hq').2
      subst e
      refine h7 ?_
      have hlt : q < L.size := by
        rcases Nat.lt_or_ge q L.size with h' | h'
        · exact h'
        · simp [Array.getElem?_eq_none h'] at hjun
      simp [hlt]
    refine ⟨hqj, fun hl => (hall q hq').2 ?_⟩
    rw [getD_set_ne false (Ne.symm hqj)]
    exact hl
  · unfold YieldsIf
    rw [ha.yielded ops, ha.eval]
    exact hy
/-- Taken first: it reads, where heap k is as it was. -/
theorem WA.take (k : Option Nat) (X : List Nat) (i : Nat) {d : Nat} {op : Op} {ty : TypeId} {pos : String} {aft : Array Edge} {L : Array Bool} (hi : ops[i]? = some ⟨some d, op, ty, pos, aft, none⟩) {v : Value} (hk : chk N ops (Wof Ms k) X listed i = true) (hq : quietOk Ms i = true) (hl : listed.setIfInBounds i true = L) (hc : Cof Ms k w) (hs : SLc Ms i listed w)
    (hy : ∀ w, Cof Ms k w → Yl P env op ty w v w) (h : WA P N ops Ms R fuel L (upd env d v) w) : WA P N ops Ms R (fuel + 1) listed env w :=
  WA.takeO k X i hi hk hq hc hs (.inl ⟨wanted_none _ rfl _, fun w hw => by rw [execOp_bare]; exact hy w hw⟩) (hl ▸ h)
theorem WA.takeOn (k : Option Nat) (X : List Nat) (i : Nat) {d : Nat} {op : Op} {ty : TypeId} {pos : String} {aft : Array Edge} {j : Nat} {b : Bool} {x : Nat} {L : Array Bool} (hi : ops[i]? = some ⟨some d, op, ty, pos, aft, some (j, b)⟩) (hj : (ops[j]?).bind (·.dst) = some x) (hx : env x = .bool b) {v : Value} (hk : chk N ops (Wof Ms k) X listed i = true) (hq : quietOk Ms i = true) (hl : listed.setIfInBounds i true = L) (hc : Cof Ms k w) (hs : SLc Ms i listed w)
    (hy : ∀ w, Cof Ms k w → Yl P env op ty w v w) (h : WA P N ops Ms R fuel L (upd env d v) w) : WA P N ops Ms R (fuel + 1) listed env w :=
  WA.takeO k X i hi hk hq hc hs (.inl ⟨by unfold Region.wanted yieldedE; simp only [hj, hx]; simp, fun w hw => by rw [execOp_bare]; exact hy w hw⟩) (hl ▸ h)
theorem WA.takeOff (i : Nat) {dst : Option Nat} {op : Op} {ty : TypeId} {pos : String} {aft : Array Edge} {j : Nat} {b : Bool} {x : Nat} {L : Array Bool} (hi : ops[i]? = some ⟨dst, op, ty, pos, aft, some (j, b)⟩) (hj : (ops[j]?).bind (·.dst) = some x) (hx : env x = .bool (!b)) (hk : chk N ops (Wof Ms none) [] listed i = true) (hq : quietOk Ms i = true) (hl : listed.setIfInBounds i true = L) (hs : SLc Ms i listed w)
    (h : WA P N ops Ms R fuel L (putE env dst undef) w) : WA P N ops Ms R (fuel + 1) listed env w :=
  WA.takeO none [] i hi hk hq trivial hs (.inr ⟨by unfold Region.wanted yieldedE; simp only [hj, hx]; cases b <;> simp, rfl⟩) (hl ▸ h)
theorem WA.takeOff' (i : Nat) {dst : Option Nat} {op : Op} {ty : TypeId} {pos : String} {aft : Array Edge} {j : Nat} {b : Bool} {x : Nat} {L : Array Bool} (hi : ops[i]? = some ⟨dst, op, ty, pos, aft, some (j, b)⟩) (hj : (ops[j]?).bind (·.dst) = some x) (hx : env x = undef) (hk : chk N ops (Wof Ms none) [] listed i = true) (hq : quietOk Ms i = true) (hl : listed.setIfInBounds i true = L) (hs : SLc Ms i listed w)
    (h : WA P N ops Ms R fuel L (putE env dst undef) w) : WA P N ops Ms R (fuel + 1) listed env w :=
  WA.takeO none [] i hi hk hq trivial hs (.inr ⟨by unfold Region.wanted yieldedE; simp only [hj, hx]; cases b <;> rfl, rfl⟩) (hl ▸ h)
theorem WA.done (hr : Region.ready .any ops listed = []) (h : R env w) : WA P N ops Ms R fuel listed env w := fun _ a ha => by
  cases fuel with
  | zero => exact ⟨hr, rfl, env, ha, h⟩
  | succ fuel => exact ⟨fun _ => ⟨rfl, env, ha, h⟩, by rw [hr]; simp⟩
/-- One of those that may come up comes up. -/
def Up (P : Program) (N : Nat) (ops : Array Oper) (Ms : List (List Nat × CH)) (R : Env → World → Prop) (fuel : Nat) (listed : Array Bool) (env : Env) (w : World) (i : Nat) : Prop :=
  ∃ o, ops[i]? = some o ∧ dstOk N o = true ∧ Region.wanted o (yieldedE ops env) = true ∧ stepE P o env w fun env' w' => SLc Ms i listed w' ∧ WA P N ops Ms R fuel (listed.setIfInBounds i true) env' w'
theorem WA.ups (rs : List Nat) (hr : Region.ready .any ops listed = rs) (hne : rs.isEmpty = false) (h : ∀ i ∈ rs, Up P N ops Ms R fuel listed env w i) : WA P N ops Ms R (fuel + 1) listed env w := fun hcl a ha => by
  refine ⟨fun h => (by rw [hr] at h; subst h; cases hne), fun j hj => ?_⟩
  obtain ⟨o, hi, hd, hw, hst⟩ := h j (hr ▸ hj)
  obtain ⟨_, oj, hoj, hall⟩ := mem_ready.1 hj
  rw [hi] at hoj
  injection hoj with hoj
  subst hoj
  unfold wpOp
  simp only [hi]
  rw [ha.yielded ops, if_pos hw]
  exact .inl (stepE.wp hd hst ha fun env' a' w' hf hn => ⟨hn.1, hn.2 (hcl.set hi hall) a' hf⟩)
theorem WA.up1 (i : Nat) (hr : Region.ready .any ops listed = [i]) (h : Up P N ops Ms R fuel listed env w i) : WA P N ops Ms R (fuel + 1) listed env w :=
  WA.ups [i] hr rfl fun j hj => by rw [List.mem_singleton.1 hj]; exact h
theorem WA.up2 (i j : Nat) (hr : Region.ready .any ops listed = [i, j]) (h1 : Up P N ops Ms R fuel listed env w i) (h2 : Up P N ops Ms R fuel listed env w j) : WA P N ops Ms R (fuel + 1) listed env w :=
  WA.ups [i, j] hr rfl fun k hk => by
    rcases List.mem_cons.1 hk with rfl | hk
    · exact h1
    · rw [List.mem_singleton.1 hk]; exact h2
theorem WA.up3 (i j l : Nat) (hr : Region.ready .any ops listed = [i, j, l]) (h1 : Up P N ops Ms R fuel listed env w i) (h2 : Up P N ops Ms R fuel listed env w j) (h3 : Up P N ops Ms R fuel listed env w l) : WA P N ops Ms R (fuel + 1) listed env w :=
  WA.ups [i, j, l] hr rfl fun k hk => by
    rcases List.mem_cons.1 hk with rfl | hk
    · exact h1
    · rcases List.mem_cons.1 hk with rfl | hk
      · exact h2
      · rw [List.mem_singleton.1 hk]; exact h3
theorem Up.val {i : Nat} {d : Nat} {op : Op} {ty : TypeId} {pos : String} {aft : Array Edge} {L : Array Bool} (hi : ops[i]? = some ⟨some d, op, ty, pos, aft, none⟩) (hd : Nat.blt d N = true) (hl : listed.setIfInBounds i true = L) {v : Value}
    (hy : Yl P env op ty w v w') (hs : SLc Ms i listed w') (h : WA P N ops Ms R fuel L (upd env d v) w') : Up P N ops Ms R fuel listed env w i :=
  ⟨_, hi, by simpa [dstOk] using hd, wanted_none _ rfl _, .inl ⟨v, w', by rw [execOp_bare]; exact hy, hs, hl ▸ h⟩⟩
theorem Up.skip {i : Nat} {op : Op} {ty : TypeId} {pos : String} {aft : Array Edge} {L : Array Bool} (hi : ops[i]? = some ⟨none, op, ty, pos, aft, none⟩) (hl : listed.setIfInBounds i true = L)
    (hy : Yskip P env op ty w w') (hs : SLc Ms i listed w') (h : WA P N ops Ms R fuel L env w') : Up P N ops Ms R fuel listed env w i :=
  ⟨_, hi, rfl, wanted_none _ rfl _, .inr (.inl ⟨w', by rw [execOp_bare]; exact hy, hs, hl ▸ h⟩)⟩
theorem Up.call {i : Nat} {dst : Option Nat} {op : Op} {ty : TypeId} {pos : String} {aft : Array Edge} {L : Array Bool} (hi : ops[i]? = some ⟨dst, op, ty, pos, aft, none⟩) (hd : dstOk N ⟨dst, op, ty, pos, aft, none⟩ = true) (hl : listed.setIfInBounds i true = L)
    {f : FuncId} {args : Array Value} (he : Yenter P env op ty w f args) {R' : Ending → World → Prop} (hc : Calls P f args w R')
    (h : ∀ e w', R' e w' → ∃ v, e = .returned v ∧ SLc Ms i listed w' ∧ WA P N ops Ms R fuel L (putE env dst v) w') : Up P N ops Ms R fuel listed env w i :=
  ⟨_, hi, hd, wanted_none _ rfl _, .inr (.inr ⟨f, args, w, by rw [execOp_bare]; exact he, hc.mono (hl ▸ h)⟩)⟩
/-- Its guard lets it: as if it had none. -/
theorem Up.on {i : Nat} {dst : Option Nat} {op : Op} {ty : TypeId} {pos : String} {aft : Array Edge} {j : Nat} {b : Bool} {x : Nat} (hi : ops[i]? = some ⟨dst, op, ty, pos, aft, some (j, b)⟩) (hj : (ops[j]?).bind (·.dst) = some x) (hx : env x = .bool b) (hd : dstOk N ⟨dst, op, ty, pos, aft, none⟩ = true)
    (h : stepE P ⟨dst, op, ty, pos, aft, none⟩ env w fun env' w' => SLc Ms i listed w' ∧ WA P N ops Ms R fuel (listed.setIfInBounds i true) env' w') : Up P N ops Ms R fuel listed env w i :=
  ⟨_, hi, hd, by unfold Region.wanted yieldedE; simp only [hj, hx]; simp, by unfold stepE at *; rw [execOp_bare] at h; rw [execOp_bare]; exact h⟩
/-- Several orders that meet. -/
theorem WA.joinAt (M : Env → World → Prop) (L1 : Array Bool) (f1 : Nat) (h : (∀ env w, M env w → WA P N ops Ms R f1 L1 env w) → WA P N ops Ms R fuel listed env w) (k : ∀ env w, M env w → WA P N ops Ms R f1 L1 env w) : WA P N ops Ms R fuel listed env w := h k
/-- A region that draws its order. -/
theorem W.regionA {id : Nat} {l : List Oper} {Q : Exit → Env → World → Prop} (Ms : List (List Nat × CH)) (hm : P.follows .mixedOrders = true)
    (h : WA P N l.toArray Ms (fun env w => Q .normal env w) l.length (Array.replicate l.length false) env w.drew) : W P N (.region id l.toArray true) Q env w := fun a ha => by
  have h0 : closed .any l.toArray (Array.replicate l.length false) := fun m om _ hl => by
    rw [Array.getD_eq_getD_getElem?, Array.getElem?_replicate] at hl
    split at hl <;> simp at hl
  refine Go.wp_mono (Q := nrm fun a w => ∃ env, Frm N env a ∧ Q .normal env w) ?_ fun e a w hq => ?_
  · refine wp_region_any hm (anyS.any (S := SLc Ms) _ _ _ _ ?_)
    have := h h0 a ha
    simpa using this
  · obtain ⟨rfl, env, hf, hq⟩ := hq
    exact ⟨env, hf, hq⟩
end
end Go.WG
