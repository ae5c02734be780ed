/- A region that draws its order: the invariant, and its end. -/
import Derived.Test.YtnlpmnegjgjiiaaGreatDoorEn
namespace Go.CE
open Go Go.RowKit
set_option linter.all false
section
variable {F : Fx} {ops : Array Oper} {mk : Nat → Nat} {X : Nat → Value} {B : Nat} {w0 w w' w1 : World} {ρ ρ' : Rh} {M M' Mn : Mem} {σ σ' σn : Sl} {env : WG.Env} {v : V} {h : Nat} {N : Nat} {s hs : Nat} {ord : List (Nat × Nat)} {l : Pend} {S : Nat → Bool}
/-- What the closed run has said of an operation that hasn't come yet. -/
def Said (F : Fx) (ops : Array Oper) (ρ : Rh) (l : Pend) (σ : Sl) (M : Mem) (i : Nat) (o : Oper) : Prop :=
  (guardOk ops.toList σ o = some false ∧ ∀ d, o.dst = some d → rdT d σ = .z) ∨
  (guardOk ops.toList σ o = some true ∧
    ((∃ v, (i, 0, o, Out.v v) ∈ l ∧ exO o.op F.cl F.C σ M = .v v ∧ ∀ d, o.dst = some d → rdT d σ = v) ∨
     ∃ id b x, (i, id, o, Out.n b x) ∈ l ∧ exO o.op F.cl F.C σ M = .n b x ∧ id < M.nx ∧ ρ id = none ∧ M.T.get id = some b ∧ ∀ d, o.dst = some d → rdT d σ = ao id x))
/-- S: what has come. s: what the closed run has done. -/
structure RI (F : Fx) (ops : Array Oper) (mk : Nat → Nat) (X : Nat → Value) (B : Nat) (w0 : World) (σn : Sl) (Mn : Mem) (ρ0 : Rh) (M0 : Mem) (s hs : Nat) (ord : List (Nat × Nat)) (l : Pend) (σ : Sl) (M : Mem) (S : Nat → Bool) (ρ : Rh) (env : WG.Env) (w : World) : Prop where
  orc : OrdOk F.C.P ops mk ord s hs
  run : Run F ops σn Mn ord l σ M
  sub : ∀ i, S i = true → hb s i = true
  cls : ∀ i, hb s i = true → ∀ k, hb (mk i) k = true → hb s k = true
  inn : ∀ i, hb s i = true → i < ops.size
  hin : ∀ i, hb hs i = true → hb s i = true
  inE : ∀ p ∈ σ.E, hb F.h p.1 = true
  inL : ∀ p ∈ σ.L, hb F.h p.1 = false
  slot : ∀ t, (∀ i o, ops[i]? = some o → o.dst = some t → hb s i = true → S i = true) → Rv ρ X (rdT t σ) (env t)
  said : ∀ i o, ops[i]? = some o → hb s i = true → S i = false → Said F ops ρ l σ M i o
  ids : ∀ p ∈ l, ∀ q ∈ l, ∀ b x c y, p.2.2.2 = Out.n b x → q.2.2.2 = Out.n c y → p.1 ≠ q.1 → p.2.1 ≠ q.2.1
  lid : ∀ p ∈ l, ∀ b x, p.2.2.2 = Out.n b x → M0.nx ≤ p.2.1 ∧ p.2.1 < M.nx
  post : Post X B w0 ρ0 M0 ρ M w
/-- An operation's slots are as they were, if another one's is written. -/
theorem tmps_R {o : Oper} (hne : ∀ t ∈ uses ops.toList o, rdT t σ' = rdT t σ) : (∀ x ∈ opsOf o.op, rd x σ' = rd x σ) ∧ guardOk ops.toList σ' o = guardOk ops.toList σ o := by
  constructor
  · intro x hx
    cases x with
    | tmp t => exact hne t (tmpsO_mem.1 t hx)
    | _ => rfl
  · unfold guardOk
    cases ho : o.guard with
    | none => rfl
    | some q =>
      show (ob (nth ops.toList q.1) fun p => ob p.dst fun d => oe (boolOf (rdT d σ')) (cond (isZ (rdT d σ')) (some false) none) fun x => some (eqB x q.2)) = (ob (nth ops.toList q.1) fun p => ob p.dst fun d => oe (boolOf (rdT d σ)) (cond (isZ (rdT d σ)) (some false) none) fun x => some (eqB x q.2))
      cases hp : nth ops.toList q.1 with
      | none => rfl
      | some p =>
        show (ob p.dst fun d => oe (boolOf (rdT d σ')) (cond (isZ (rdT d σ')) (some false) none) fun x => some (eqB x q.2)) = (ob p.dst fun d => oe (boolOf (rdT d σ)) (cond (isZ (rdT d σ)) (some false) none) fun x => some (eqB x q.2))
        cases hd : p.dst with
        | none => rfl
        | some d =>
          have : rdT d σ' = rdT d σ := hne d (by
            unfold uses
            refine tmpsO_mem.2 d ?_
            rw [ho]
            show d ∈ oe (nth ops.toList q.1) [] fun p => oe p.dst [] fun d => [d]
            rw [hp]
            show d ∈ oe p.dst [] fun d => [d]
            rw [hd]
            exact List.mem_cons_self)
          show oe (boolOf (rdT d σ')) _ _ = oe (boolOf (rdT d σ)) _ _
          rw [this]
/-- What is said stays, where another slot is written and objects are made. -/
theorem Said.keep {i : Nat} {o : Oper} {l' : Pend} (hu : ∀ t ∈ uses ops.toList o, rdT t σ' = rdT t σ) (hd : ∀ d, o.dst = some d → rdT d σ' = rdT d σ) (hl : ∀ p ∈ l, p.1 = i → p ∈ l') (hx : light (exO o.op F.cl F.C σ M) → exO o.op F.cl F.C σ M' = exO o.op F.cl F.C σ M)
    (hn : M.nx ≤ M'.nx) (hρ : ∀ id b, id < M.nx → ρ id = none → M.T.get id = some b → ρ' id = none ∧ M'.T.get id = some b) (k : Said F ops ρ l σ M i o) : Said F ops ρ' l' σ' M' i o := by
  obtain ⟨h1, h2⟩ := tmps_R hu
  have h3 : exO o.op F.cl F.C σ' M' = exO o.op F.cl F.C σ M' := exO_slots h1
  rcases k with ⟨k1, k2⟩ | ⟨k1, k2⟩
  · exact .inl ⟨by rw [h2]; exact k1, fun d hd' => by rw [hd d hd']; exact k2 d hd'⟩
  · refine .inr ⟨by rw [h2]; exact k1, ?_⟩
    rcases k2 with ⟨v, k3, k4, k5⟩ | ⟨id, b, x, k3, k4, k5, k6, k7, k8⟩
    · exact .inl ⟨v, hl _ k3 rfl, by rw [h3, hx (by rw [k4]; trivial)]; exact k4, fun d hd' => by rw [hd d hd']; exact k5 d hd'⟩
    · obtain ⟨h4, h5⟩ := hρ id b k5 k6 k7
      exact .inr ⟨id, b, x, hl _ k3 rfl, by rw [h3, hx (by rw [k4]; trivial)]; exact k4, Nat.lt_of_lt_of_le k5 hn, h4, h5, fun d hd' => by rw [hd d hd']; exact k8 d hd'⟩
theorem Wd.get_nx (hw : Wd X B w0 ρ M w) : ρ M.nx = none := hw.noPl (Nat.le_refl _)
/-- The closed run does the next one, which does nothing to what is there. -/
theorem RI.next {ρ0 : Rh} {M0 : Mem} (st : Sta F.C.P N ops mk) {q : Nat × Nat} {r : List (Nat × Nat)} (I : RI F ops mk X B w0 σn Mn ρ0 M0 s hs (q :: r) l σ M S ρ env w)
    (hh : ¬ ∃ o v M1 l', ops[q.1]? = some o ∧ guardOk ops.toList σ o = some true ∧ exO o.op F.cl F.C σ M = .c (.ok v M1) ∧ again F (put1 F.h σ o.dst v) M1 q.2 l = some l' ∧ Run F ops σn Mn r l' (put1 F.h σ o.dst v) M1) :
    ∃ s' hs' l' σ' M', RI F ops mk X B w0 σn Mn ρ0 M0 s' hs' r l' σ' M' S ρ env w := by
  have hfree := I.post.wd.free
  obtain ⟨o1, o2, oq, o3, o4, o5, o6⟩ := I.orc
  have hSq : S q.1 = false := by
    cases e : S q.1 with
    | false => rfl
    | true => rw [I.sub _ e] at o2; cases o2
  -- facts that do not hang on what it is
  have core : ∀ (u : V) (l' : Pend) (M' : Mem) (o : Oper), ops[q.1]? = some o → M.nx ≤ M'.nx → (∀ r', r' < M.nx → M'.T.get r' = M.T.get r') → (∀ r', M'.nx ≤ r' → M'.T.get r' = none) → Ext M M' → (∀ p ∈ l, p ∈ l') → (∀ p ∈ l', p ∈ l ∨ p.1 = q.1 ∧ (∀ b x, p.2.2.2 = Out.n b x → p.2.1 = M.nx ∧ M.nx < M'.nx)) →
      Said F ops ρ l' (put1 F.h σ o.dst u) M' q.1 o → Run F ops σn Mn r l' (put1 F.h σ o.dst u) M' →
      RI F ops mk X B w0 σn Mn ρ0 M0 (bit1 s q.1) (cond (heavy F.C.P oq.op) (bit1 hs q.1) hs) r l' (put1 F.h σ o.dst u) M' S ρ env w := by
    intro u l' M' o ho hnx hT hF hE hl hl' hsaid hrun
    have heq : oq = o := by rw [ho] at o3; injection o3 with e; exact e.symm
    subst heq
    have hne : ∀ i p, ops[i]? = some p → hb s i = true → (∀ t ∈ uses ops.toList p, rdT t (put1 F.h σ oq.dst u) = rdT t σ) ∧ ∀ d, p.dst = some d → rdT d (put1 F.h σ oq.dst u) = rdT d σ := by
      intro i p hp hi
      have hiq : i ≠ q.1 := fun e => by subst e; rw [hi] at o2; cases o2
      have key : ∀ t, oq.dst ≠ some t → rdT t (put1 F.h σ oq.dst u) = rdT t σ := fun t ht => by
        cases hd : oq.dst with
        | none => rfl
        | some d => rw [rdT_put I.inE I.inL, if_neg (fun e => ht (by rw [hd, e]))]
      refine ⟨fun t ht => key t fun hd => ?_, fun d hd => key d fun hd' => hiq (st.one i q.1 p oq d hp ho hd hd')⟩
      have := I.cls i hi q.1 (st.use i p t hp ht q.1 oq ho hd)
      rw [o2] at this
      cases this
    obtain ⟨p1, p2⟩ := put1_in (v := u) I.inE I.inL oq.dst
    refine ⟨o6, hrun, fun i hi => by rw [hb_bit1, I.sub i hi]; rfl, fun i hi k hk => ?_, fun i hi => ?_, fun i hi => ?_, p1, p2, fun t ht => ?_, fun i p hp hi hSi => ?_, fun p hp p' hp' b x c y e1 e2 hpp => ?_, fun p hp b x e1 => ?_, ?_⟩
    · rw [hb_bit1, Bool.or_eq_true] at hi ⊢
      rcases hi with hi | hi
      · exact .inl (I.cls i hi k hk)
      · have : q.1 = i := of_decide_eq_true hi
        subst this
        exact .inl (o4 k (by rw [o1]; exact hk))
    · rw [hb_bit1, Bool.or_eq_true] at hi
      rcases hi with hi | hi
      · exact I.inn i hi
      · have : q.1 = i := of_decide_eq_true hi
        subst this
        exact (Array.getElem?_eq_some_iff.1 ho).1
    · rw [hb_bit1, Bool.or_eq_true]
      cases hv : heavy F.C.P oq.op with
      | true =>
        rw [hv, cond_true, hb_bit1, Bool.or_eq_true] at hi
        exact hi.imp (I.hin i) id
      | false =>
        rw [hv] at hi
        exact .inl (I.hin i hi)
    · have ht' : oq.dst ≠ some t := fun hd => by
        have := ht q.1 oq ho hd (by rw [hb_bit1]; simp)
        rw [hSq] at this
        cases this
      have : rdT t (put1 F.h σ oq.dst u) = rdT t σ := by
        cases hd : oq.dst with
        | none => rfl
        | some d => rw [rdT_put I.inE I.inL, if_neg (fun e => ht' (by rw [hd, e]))]
      rw [this]
      exact I.slot t fun i p hp hd hi => ht i p hp hd (by rw [hb_bit1, hi]; rfl)
    · rw [hb_bit1, Bool.or_eq_true] at hi
      by_cases e : q.1 = i
      · subst e
        rw [ho] at hp
        cases hp
        exact hsaid
      · have hi' : hb s i = true := hi.resolve_right (by simp [e])
        obtain ⟨g1, g2⟩ := hne i p hp hi'
        exact Said.keep g1 g2 (fun p hp _ => hl p hp) (fun hx => exO_ext hE hx) hnx (fun id b h1 h2 h3 => ⟨h2, by rw [hT id h1]; exact h3⟩) (I.said i p hp hi' hSi)
    · rcases hl' p hp with g1 | ⟨g1, g2⟩
      · rcases hl' p' hp' with g3 | ⟨g3, g4⟩
        · exact I.ids p g1 p' g3 b x c y e1 e2 hpp
        · have := (I.lid p g1 b x e1).2
          have := (g4 c y e2).1
          omega
      · rcases hl' p' hp' with g3 | ⟨g3, g4⟩
        · have := (I.lid p' g3 c y e2).2
          have := (g2 b x e1).1
          omega
        · exact absurd (g1.trans g3.symm) hpp
    · rcases hl' p hp with g1 | ⟨g1, g2⟩
      · exact ⟨(I.lid p g1 b x e1).1, Nat.lt_of_lt_of_le (I.lid p g1 b x e1).2 hnx⟩
      · have := g2 b x e1
        have := I.post.nx
        omega
    · refine ⟨I.post.le, Nat.le_trans I.post.nx hnx, fun r' hr' hn' => ?_, I.post.wd.more hnx hT hF⟩
      obtain ⟨g1, g2⟩ := I.post.keep r' hr' hn'
      exact ⟨by rw [hT r' (Nat.lt_of_lt_of_le hr' I.post.nx)]; exact g1, g2⟩
  have dstv : ∀ (o : Oper) (u : V) d, o.dst = some d → rdT d (put1 F.h σ o.dst u) = u := fun o u d hd => by
    rw [hd, rdT_put I.inE I.inL, if_pos rfl]
  have self : ∀ (o : Oper) (u : V), ops[q.1]? = some o → ∀ t ∈ uses ops.toList o, rdT t (put1 F.h σ o.dst u) = rdT t σ := fun o u ho t ht => by
    cases hd : o.dst with
    | none => rfl
    | some d =>
      rw [rdT_put I.inE I.inL, if_neg fun e => ?_]
      subst e
      have h1 := st.use q.1 o d ho ht q.1 o ho hd
      have h2 := o4 q.1 (by rw [o1]; exact h1)
      rw [o2] at h2
      cases h2
  cases I.run with
  | off q r l σ M o ho hg k =>
    refine ⟨_, _, _, _, _, core .z l M o ho (Nat.le_refl _) (fun _ _ => rfl) hfree (fun _ _ h => h) (fun p hp => hp) (fun p hp => .inl hp) (.inl ⟨?_, fun d hd => dstv o .z d hd⟩) k⟩
    rw [(tmps_R (self o .z ho)).2]
    exact hg
  | val q r l σ M o ho hg v hx k =>
    refine ⟨_, _, _, _, _, core v _ M o ho (Nat.le_refl _) (fun _ _ => rfl) hfree (fun _ _ h => h) (fun p hp => List.mem_cons_of_mem _ hp) (fun p hp => ?_) (.inr ⟨?_, .inl ⟨v, List.mem_cons_self, ?_, fun d hd => dstv o v d hd⟩⟩) k⟩
    · rcases List.mem_cons.1 hp with rfl | hp
      · exact .inr ⟨rfl, fun b x e => by cases e⟩
      · exact .inl hp
    · rw [(tmps_R (self o v ho)).2]
      exact hg
    · rw [exO_slots (tmps_R (self o v ho)).1]
      exact hx
  | new q r l σ M o ho hg b x hx k =>
    have hT : ∀ r', r' < M.nx → (M.T.set M.nx b).get r' = M.T.get r' := fun r' hr' => by rw [Tr.get_set, if_neg (by omega)]
    have hE : Ext M ⟨M.T.set M.nx b, M.nx + 1⟩ := Ext.new M (hfree M.nx (Nat.le_refl _)) b
    refine ⟨_, _, _, _, _, core (ao M.nx x) _ ⟨M.T.set M.nx b, M.nx + 1⟩ o ho (Nat.le_succ _) hT (free_set hfree) hE (fun p hp => List.mem_cons_of_mem _ hp) (fun p hp => ?_) (.inr ⟨?_, .inr ⟨M.nx, b, x, List.mem_cons_self, ?_, Nat.lt_succ_self _, I.post.wd.get_nx, ?_, fun d hd => dstv o _ d hd⟩⟩) k⟩
    · rcases List.mem_cons.1 hp with rfl | hp
      · exact .inr ⟨rfl, fun b' x' e => ⟨rfl, Nat.lt_succ_self _⟩⟩
      · exact .inl hp
    · rw [(tmps_R (self o _ ho)).2]
      exact hg
    · rw [exO_slots (tmps_R (self o _ ho)).1, exO_ext hE (by rw [hx]; trivial)]
      exact hx
    · show (M.T.set M.nx b).get M.nx = _
      rw [Tr.get_set, if_pos rfl]
  | does q r l σ M o ho hg v M1 hx l' ha k => exact (hh ⟨o, v, M1, l', ho, hg, hx, ha, k⟩).elim
end
end Go.CE
