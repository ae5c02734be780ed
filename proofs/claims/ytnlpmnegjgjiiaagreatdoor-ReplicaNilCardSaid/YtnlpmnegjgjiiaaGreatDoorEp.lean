/- A region that draws its order, walked. -/
import Derived.Test.YtnlpmnegjgjiiaaGreatDoorEo
namespace Go.CE
open Go Go.RowKit
set_option linter.all false
section
variable {F : Fx} {ops : Array Oper} {mk : Nat → Nat} {X : Nat → Value} {B : Nat} {w0 w w' w1 : World} {ρ ρ' ρ0 : Rh} {M M' Mn M0 : Mem} {σ σ' σn : Sl} {env : WG.Env} {v : V} {h : Nat} {N : Nat} {s hs : Nat} {ord : List (Nat × Nat)} {l : Pend} {S : Nat → Bool}
/-- What comes ahead for sure has come. -/
theorem mask_S (st : Sta F.C.P N ops mk) (hc : ∀ i o, ops[i]? = some o → S i = true → ∀ e ∈ o.after, Region.binds .any e = true → S e.on = true) (hlt : ∀ i, S i = true → i < ops.size) :
    ∀ (i : Nat) (o : Oper), ops[i]? = some o → (∀ e ∈ o.after, Region.binds .any e = true → S e.on = true) → ∀ k, hb (mk i) k = true → S k = true := by
  intro i
  induction i using Nat.strongRecOn with
  | ind i ih =>
    intro o ho hall k hk
    obtain ⟨e, he, hbe, h1⟩ := st.msk i o k ho hk
    have hS := hall e he hbe
    rcases h1 with rfl | h1
    · exact hS
    · have hl := hlt _ hS
      exact ih e.on (st.lt i o ho e he hbe) ops[e.on] (Array.getElem?_eq_getElem hl) (hc _ _ (Array.getElem?_eq_getElem hl) hS) k h1
/-- Where the closed run stands at one that does something, or at its end. -/
theorem RI.cut (st : Sta F.C.P N ops mk) : ∀ (ord : List (Nat × Nat)) (s hs : Nat) (l : Pend) (σ : Sl) (M : Mem), RI F ops mk X B w0 σn Mn ρ0 M0 s hs ord l σ M S ρ env w →
    ∃ s hs ord l σ M, RI F ops mk X B w0 σn Mn ρ0 M0 s hs ord l σ M S ρ env w ∧ (ord = [] ∨ ∃ q r o v M1 l', ord = q :: r ∧ ops[q.1]? = some o ∧ guardOk ops.toList σ o = some true ∧ exO o.op F.cl F.C σ M = .c (.ok v M1) ∧ again F (put1 F.h σ o.dst v) M1 q.2 l = some l' ∧ Run F ops σn Mn r l' (put1 F.h σ o.dst v) M1) := by
  intro ord
  induction ord with
  | nil => intro s hs l σ M I; exact ⟨s, hs, [], l, σ, M, I, .inl rfl⟩
  | cons q r ih =>
    intro s hs l σ M I
    by_cases hh : ∃ o v M1 l', ops[q.1]? = some o ∧ guardOk ops.toList σ o = some true ∧ exO o.op F.cl F.C σ M = .c (.ok v M1) ∧ again F (put1 F.h σ o.dst v) M1 q.2 l = some l' ∧ Run F ops σn Mn r l' (put1 F.h σ o.dst v) M1
    · obtain ⟨o, v, M1, l', h1⟩ := hh
      exact ⟨s, hs, q :: r, l, σ, M, I, .inr ⟨q, r, o, v, M1, l', rfl, h1⟩⟩
    · obtain ⟨s', hs', l', σ', M', I'⟩ := RI.next st I hh
      exact ih s' hs' l' σ' M' I'
theorem ord_later (st : Sta F.C.P N ops mk) : ∀ (ord : List (Nat × Nat)) (s hs i : Nat), OrdOk F.C.P ops mk ord s hs → i < ops.size → hb s i = false → ∀ k, hb hs k = true → hb (mk i) k = true := by
  intro ord
  induction ord with
  | nil =>
    intro s hs i ho hi hs0
    rw [ho i hi] at hs0
    cases hs0
  | cons q r ih =>
    intro s hs i ho hi hs0 k hk
    obtain ⟨o1, o2, o, o3, o4, o5, o6⟩ := ho
    by_cases e : q.1 = i
    · subst e
      rw [← o1]
      exact o5 k hk
    · refine ih _ _ i o6 hi ?_ k ?_
      · rw [hb_bit1, hs0]
        simp [e]
      · cases heavy F.C.P o.op with
        | true => rw [cond_true, hb_bit1, hk]; rfl
        | false => exact hk
def setS (S : Nat → Bool) (i : Nat) : Nat → Bool := fun j => S j || decide (i = j)
theorem Said.ren {i : Nat} {o : Oper} (hρ : ∀ id b x, (i, id, o, Out.n b x) ∈ l → id < M.nx → ρ id = none → ρ' id = none) (k : Said F ops ρ l σ M i o) : Said F ops ρ' l σ M i o := by
  rcases k with k | ⟨k1, k2⟩
  · exact .inl k
  · refine .inr ⟨k1, ?_⟩
    rcases k2 with k | ⟨id, b, x, k3, k4, k5, k6, k7, k8⟩
    · exact .inl k
    · exact .inr ⟨id, b, x, k3, k4, k5, hρ id b x k3 k5 k6, k7, k8⟩
theorem putE_ne {o : Oper} {y : Value} {t : Nat} (ht : o.dst ≠ some t) : WG.putE env o.dst y t = env t := by
  unfold WG.putE
  cases hd : o.dst with
  | none => rfl
  | some d =>
    show WG.upd env d y t = env t
    unfold WG.upd
    rw [nbeq_f.2 (fun e => ht (by rw [hd, e]))]
    rfl
theorem putE_eq {o : Oper} {y : Value} {t : Nat} (ht : o.dst = some t) : WG.putE env o.dst y t = y := by
  rw [ht]
  show WG.upd env t y t = y
  unfold WG.upd
  rw [Nat.beq_refl]
  rfl
/-- One that the closed run has done has come. -/
theorem RI.came (st : Sta F.C.P N ops mk) (I : RI F ops mk X B w0 σn Mn ρ0 M0 s hs ord l σ M S ρ env w) {i : Nat} {o : Oper} {y : Value} (ho : ops[i]? = some o) (hi : hb s i = true) (hle : Rh.le ρ ρ')
    (hy : ∀ d, o.dst = some d → Rv ρ' X (rdT d σ) y) (hp : Post X B w0 ρ0 M0 ρ' M w') (hρ : ∀ j o' id b x, j ≠ i → (j, id, o', Out.n b x) ∈ l → id < M.nx → ρ id = none → ρ' id = none) :
    RI F ops mk X B w0 σn Mn ρ0 M0 s hs ord l σ M (setS S i) ρ' (WG.putE env o.dst y) w' := by
  refine ⟨I.orc, I.run, fun j hj => ?_, I.cls, I.inn, I.hin, I.inE, I.inL, fun t ht => ?_, fun j p hp' hj hSj => ?_, I.ids, I.lid, hp⟩
  · unfold setS at hj
    rw [Bool.or_eq_true] at hj
    rcases hj with hj | hj
    · exact I.sub j hj
    · have : i = j := of_decide_eq_true hj
      subst this
      exact hi
  · by_cases hd : o.dst = some t
    · rw [putE_eq hd]
      exact hy t hd
    · rw [putE_ne hd]
      refine (I.slot t fun j p hp' hd' hj => ?_).mono hle
      have := ht j p hp' hd' hj
      unfold setS at this
      rw [Bool.or_eq_true] at this
      rcases this with h1 | h1
      · exact h1
      · have : i = j := of_decide_eq_true h1
        subst this
        rw [ho] at hp'
        cases hp'
        exact absurd hd' hd
  · unfold setS at hSj
    rw [Bool.or_eq_false_iff] at hSj
    obtain ⟨h1, h2⟩ := hSj
    have hne : j ≠ i := fun e => by subst e; simp at h2
    exact Said.ren (fun id b x => hρ j p id b x hne) (I.said j p hp' hj h1)
open Classical in
/-- The walk. -/
theorem draw_any (hA : Args F.C X) (hg : Gb X B w0 F.C) (hcl : ClOk F.C.P X B w0 F.cl) (st : Sta F.C.P N ops mk) {Q : Exit → WG.Env → World → Prop} (hQ : ∀ ρ' env w, SV ρ' X F.h σn env → Post X B w0 ρ0 M0 ρ' Mn w → Q .normal env w) :
    ∀ (m : Nat) (listed : Array Bool) (a : Act) (env : WG.Env) (w : World) (S : Nat → Bool) (ρ : Rh) (s hs : Nat) (ord : List (Nat × Nat)) (l : Pend) (σ : Sl) (M : Mem), listed.size = ops.size → (∀ j, S j = listed.getD j false) → ((List.range ops.size).countP fun j => !listed.getD j false) = m → WG.closed .any ops listed →
      WG.Frm N env a → RI F ops mk X B w0 σn Mn ρ0 M0 s hs ord l σ M S ρ env w → wpAny F.C.P .any ops (WG.lift N Q) m listed a w := by
  intro m
  have done_ : ∀ (listed : Array Bool) (a : Act) (env : WG.Env) (w : World) (S : Nat → Bool) (ρ : Rh) (s hs : Nat) (ord : List (Nat × Nat)) (l : Pend) (σ : Sl) (M : Mem), (∀ j, S j = listed.getD j false) → (∀ j, j < ops.size → listed.getD j false = true) → WG.Frm N env a → RI F ops mk X B w0 σn Mn ρ0 M0 s hs ord l σ M S ρ env w → WG.lift N Q .normal a w := by
    intro listed a env w S ρ s hs ord l σ M hS hall ha I
    have hord : ord = [] := by
      cases ord with
      | nil => rfl
      | cons q r =>
        obtain ⟨_, o2, o, o3, _⟩ := I.orc
        have hq : q.1 < ops.size := (Array.getElem?_eq_some_iff.1 o3).1
        have := I.sub q.1 (by rw [hS]; exact hall _ hq)
        rw [o2] at this
        cases this
    subst hord
    have hrun := I.run
    cases hrun with
    | nil l => exact ⟨env, ha, hQ ρ env w ⟨fun t => I.slot t fun i o ho _ hi => by rw [hS]; exact hall i (Array.getElem?_eq_some_iff.1 ho).1, I.inE, I.inL⟩ I.post⟩
  induction m with
  | zero =>
    intro listed a env w S ρ s hs ord l σ M hsz hS hm hcl' ha I
    have hall : ∀ j, j < ops.size → listed.getD j false = true := fun j hj => by
      have := List.countP_eq_zero.1 hm j (List.mem_range.2 hj)
      simpa using this
    refine ⟨?_, done_ listed a env w S ρ s hs ord l σ M hS hall ha I⟩
    rw [List.eq_nil_iff_forall_not_mem]
    intro j hj
    obtain ⟨h1, o, h2, _⟩ := mem_ready.1 hj
    have hj' : j < ops.size := (Array.getElem?_eq_some_iff.1 h2).1
    rw [WG.getD_lt (by omega) true false, hall j hj'] at h1
    cases h1
  | succ m ih =>
    intro listed a env w S ρ s hs ord l σ M hsz hS hm hclo ha I0
    refine ⟨fun hr => ?_, fun i hi => ?_⟩
    · exfalso
      obtain ⟨j, hj, hj2⟩ := List.countP_pos_iff.1 (show 0 < (List.range ops.size).countP (fun j => !listed.getD j false) by omega)
      exact WG.ready_some (md := .any) (fun j o ho e he hb => st.lt j o ho e he hb) hsz j (List.mem_range.1 hj) (by simpa using hj2) hr
    · obtain ⟨hun, o, ho, hafter⟩ := mem_ready.1 hi
      have hil : i < ops.size := (Array.getElem?_eq_some_iff.1 ho).1
      have hun' : listed.getD i false = false := by rw [WG.getD_lt (by omega) false true]; exact hun
      have hSi : S i = false := by rw [hS]; exact hun'
      -- behind it
      have hset : ∀ j, setS S i j = (listed.setIfInBounds i true).getD j false := fun j => by
        unfold setS
        rw [hS]
        by_cases e : i = j
        · subst e
          have h1 : (listed.setIfInBounds i true).getD i false = true := by
            rw [Array.getD_eq_getD_getElem?, Array.getElem?_setIfInBounds_self_of_lt (by omega)]
            rfl
          rw [h1]
          simp
        · rw [getD_set_ne false e]
          simp [e]
      have hcnt : ((List.range ops.size).countP fun j => !(listed.setIfInBounds i true).getD j false) = m := by
        have := WG.countP_less (p := fun j => !listed.getD j false) (p' := fun j => !(listed.setIfInBounds i true).getD j false) (j := i) (by simp only [hun']; rfl) (by
          rw [Array.getD_eq_getD_getElem?, Array.getElem?_setIfInBounds_self_of_lt (by omega)]
          rfl) (fun q hq => by simp only [getD_set_ne false (Ne.symm hq)]) (List.range ops.size) List.nodup_range (List.mem_range.2 hil)
        omega
      have next : ∀ (a' : Act) (env' : WG.Env) (w' : World) (ρ' : Rh) (s hs : Nat) (ord : List (Nat × Nat)) (l : Pend) (σ : Sl) (M : Mem), WG.Frm N env' a' → RI F ops mk X B w0 σn Mn ρ0 M0 s hs ord l σ M (setS S i) ρ' env' w' → wpAny F.C.P .any ops (WG.lift N Q) m (listed.setIfInBounds i true) a' w' :=
        fun a' env' w' ρ' s hs ord l σ M ha' I' => ih (listed.setIfInBounds i true) a' env' w' (setS S i) ρ' s hs ord l σ M (by simpa using hsz) hset hcnt (hclo.set ho hafter) ha' I'
      -- what is ahead of it for sure has come
      have hmask : ∀ k, hb (mk i) k = true → S k = true := mask_S st (fun j p hp hj e he hbe => by rw [hS] at hj ⊢; exact hclo j p hp hj e he hbe) (fun j hj => by
        rw [hS] at hj
        rcases Nat.lt_or_ge j ops.size with h1 | h1
        · exact h1
        · rw [Array.getD_eq_getD_getElem?, Array.getElem?_eq_none (by omega)] at hj
          cases hj) i o ho (fun e he hbe => by rw [hS]; exact hafter e he hbe)
      obtain ⟨s, hs, ord, l, σ, M, I, hcut⟩ := RI.cut st ord s hs l σ M I0
      clear I0
      -- slots that wait
      let p : Nat → Bool := fun t => decide (∃ j o', ops[j]? = some o' ∧ o'.dst = some t ∧ hb s j = true ∧ S j = false)
      have hse : SE ρ X (σ.mask p) env := fun t => by
        rw [rdT_mask]
        by_cases hp : p t = true
        · rw [if_pos hp]
          exact .u _
        · rw [if_neg hp]
          refine I.slot t fun j o' hj hd hs' => ?_
          cases e : S j with
          | true => rfl
          | false => exact absurd (decide_eq_true ⟨j, o', hj, hd, hs', e⟩) hp
      have huse : ∀ t ∈ uses ops.toList o, rdT t (σ.mask p) = rdT t σ := fun t ht => by
        rw [rdT_mask, if_neg fun hp => ?_]
        obtain ⟨j, o', hj, hd, hs', hSj⟩ := of_decide_eq_true hp
        have := hmask j (st.use i o t ho ht j o' hj hd)
        rw [hSj] at this
        cases this
      obtain ⟨hrd, hgd⟩ := tmps_R huse
      have hwd := I.post.wd
      unfold wpOp
      simp only [ho]
      rw [ha.yielded ops]
      by_cases hsi : hb s i = true
      · -- the closed run has done it
        rcases I.said i o ho hsi hSi with ⟨k1, k2⟩ | ⟨k1, k2⟩
        · rw [if_neg (by rw [guard_R hse (hgd.trans k1)]; simp)]
          exact next _ _ w ρ s hs ord l σ M (ha.put (st.dst i o ho) undef) (I.came st ho hsi (Rh.le_refl _) (fun d hd => by rw [k2 d hd]; exact .z) I.post (fun _ _ _ _ _ _ _ _ h => h))
        · rw [if_pos (guard_R hse (hgd.trans k1))]
          left
          rcases k2 with ⟨v, k3, k4, k5⟩ | ⟨id, b, x, k3, k4, k5, k6, k7, k8⟩
          · have hx : fin M (exO o.op F.cl F.C (σ.mask p) M) = .ok v M := by rw [exO_slots hrd, k4]; rfl
            refine WG.stepE.wp (st.dst i o ho) (next := fun env' w' => ∃ ρ', RI F ops mk X B w0 σn Mn ρ0 M0 s hs ord l σ M (setS S i) ρ' env' w') (stepE_of (exO_R hA hg hcl hse hwd hx) fun y w' ⟨ρ', r1, r2⟩ => ⟨ρ', ?_⟩) ha fun env' a' w' hf ⟨ρ', I'⟩ => next a' env' w' ρ' s hs ord l σ M hf I'
            exact I.came st ho hsi r2.le (fun d hd => by rw [k5 d hd]; exact r1) (I.post.trans r2) (fun j o' id b x _ hm hid hn => (r2.keep id hid hn).2)
          · have hx : exO o.op F.cl F.C (σ.mask p) M = .n b x := by rw [exO_slots hrd, k4]
            obtain ⟨y, w', L, n1, n2, n3, n4, n5, n6⟩ := exO_n (ty := o.type) hse hwd hx
            refine WG.stepE.wp (st.dst i o ho) (next := fun env' w'' => w'' = w' ∧ env' = WG.putE env o.dst y) (stepE_of (Q := fun y' w'' => y' = y ∧ w'' = w') (.val y w' n1 ⟨rfl, rfl⟩) fun y' w'' he => ⟨he.2, by rw [he.1]⟩) ha fun env' a' w'' hf ⟨e1, e2⟩ => ?_
            subst e1; subst e2
            refine next a' _ w'' (Rh.put ρ id L) s hs ord l σ M hf (I.came st ho hsi (Rh.le_put k6) (fun d hd => by rw [k8 d hd]; exact n2 id) ?_ (fun j o' id' b' x' hne hm hid hn => ?_))
            · refine ⟨Rh.le_trans I.post.le (Rh.le_put k6), I.post.nx, fun r hr hn => ?_, Wd.place n4 k6 k5 (Nat.le_trans hwd.size n5) n6 (by rw [k7]; exact n3.mono (Rh.le_put k6)) fun r' L' hr' _ => ?_⟩
              · obtain ⟨g1, g2⟩ := I.post.keep r hr hn
                refine ⟨g1, ?_⟩
                rw [Rh.put_ne (fun e => by
                  have := (I.lid _ k3 b x rfl).1
                  subst e
                  exact absurd hr (Nat.not_lt.2 this))]
                exact g2
              · left
                have := (hwd.obj r' L' hr').2.2.1
                omega
            · rw [Rh.put_ne (I.ids _ hm _ k3 b' x' b x rfl rfl hne)]
              exact hn
      · -- the next one that does something
        have hsi' : hb s i = false := by simpa using hsi
        rcases hcut with rfl | ⟨q, r, o', v, M1, l', rfl, c1, c2, c3, c4, c5⟩
        · exact absurd (I.orc i hil) hsi
        · obtain ⟨o1, o2, oq, o3, o4, o5, o6⟩ := I.orc
          have hoq : oq = o' := by rw [c1] at o3; injection o3 with e; exact e.symm
          subst hoq
          have hhv : heavy F.C.P oq.op = true := heavy_of rfl c3
          have hiq : q.1 = i := by
            by_cases e : q.1 = i
            · exact e
            · exfalso
              have h1 := ord_later st r _ _ i o6 hil (by rw [hb_bit1, hsi']; simp [e]) q.1 (by rw [hhv, cond_true, hb_bit1]; simp)
              have h2 := I.sub q.1 (hmask q.1 h1)
              rw [o2] at h2
              cases h2
          subst hiq
          rw [ho] at c1
          cases c1
          rw [if_pos (guard_R hse (hgd.trans c2))]
          left
          have hx : fin M (exO o.op F.cl F.C (σ.mask p) M) = .ok v M1 := by rw [exO_slots hrd, c3]; rfl
          refine WG.stepE.wp (st.dst q.1 o ho) (next := fun env' w' => ∃ ρ', RI F ops mk X B w0 σn Mn ρ0 M0 (bit1 s q.1) (bit1 hs q.1) r l' (put1 F.h σ o.dst v) M1 (setS S q.1) ρ' env' w') (stepE_of (exO_R hA hg hcl hse hwd hx) fun y w' ⟨ρ', r1, r2⟩ => ⟨ρ', ?_⟩) ha fun env' a' w' hf ⟨ρ', I'⟩ => next a' env' w' ρ' _ _ _ _ _ _ hf I'
          obtain ⟨p1, p2⟩ := put1_in (v := v) I.inE I.inL o.dst
          obtain ⟨a1, a2⟩ := again_some c4
          have hne : ∀ j pj, ops[j]? = some pj → hb s j = true → (∀ t ∈ uses ops.toList pj, rdT t (put1 F.h σ o.dst v) = rdT t σ) ∧ ∀ d, pj.dst = some d → rdT d (put1 F.h σ o.dst v) = rdT d σ := by
            intro j pj hpj hj
            have hjq : j ≠ q.1 := fun e => by subst e; rw [hj] at o2; cases o2
            have key : ∀ t, o.dst ≠ some t → rdT t (put1 F.h σ o.dst v) = rdT t σ := fun t ht => by
              cases hd : o.dst with
              | none => rfl
              | some d => rw [rdT_put I.inE I.inL, if_neg (fun e => ht (by rw [hd, e]))]
            refine ⟨fun t ht => key t fun hd => ?_, fun d hd => key d fun hd' => hjq (st.one j q.1 pj o d hpj ho hd hd')⟩
            have := I.cls j hj q.1 (st.use j pj t hpj ht q.1 o ho hd)
            rw [o2] at this
            cases this
          rw [hhv, cond_true] at o6
          refine ⟨o6, c5, fun j hj => ?_, fun j hj k hk => ?_, fun j hj => ?_, fun j hj => ?_, p1, p2, fun t ht => ?_, fun j pj hpj hj hSj => ?_, fun u hu u' hu' => I.ids u (a2 u hu) u' (a2 u' hu'), fun u hu b x e => ⟨(I.lid u (a2 u hu) b x e).1, Nat.lt_of_lt_of_le (I.lid u (a2 u hu) b x e).2 r2.nx⟩, I.post.trans r2⟩
          · unfold setS at hj
            rw [hb_bit1, Bool.or_eq_true]
            rw [Bool.or_eq_true] at hj
            exact hj.imp (I.sub j) id
          · rw [hb_bit1, Bool.or_eq_true] at hj ⊢
            rcases hj with hj | hj
            · exact .inl (I.cls j hj k hk)
            · have : q.1 = j := of_decide_eq_true hj
              subst this
              exact .inl (o4 k (by rw [o1]; exact hk))
          · rw [hb_bit1, Bool.or_eq_true] at hj
            rcases hj with hj | hj
            · exact I.inn j hj
            · have : q.1 = j := of_decide_eq_true hj
              subst this
              exact hil
          · rw [hb_bit1, Bool.or_eq_true] at hj ⊢
            exact hj.imp (I.hin j) id
          · by_cases hd : o.dst = some t
            · rw [putE_eq hd, hd, rdT_put I.inE I.inL, if_pos rfl]
              exact r1
            · have e1 : rdT t (put1 F.h σ o.dst v) = rdT t σ := by
                cases hd' : o.dst with
                | none => rfl
                | some d => rw [rdT_put I.inE I.inL, if_neg (fun e => hd (by rw [hd', e]))]
              rw [putE_ne hd, e1]
              refine (I.slot t fun j pj hpj hdj hj => ?_).mono r2.le
              have := ht j pj hpj hdj (by rw [hb_bit1, hj]; rfl)
              unfold setS at this
              rw [Bool.or_eq_true] at this
              rcases this with h1 | h1
              · exact h1
              · have : q.1 = j := of_decide_eq_true h1
                subst this
                rw [ho] at hpj
                cases hpj
                exact absurd hdj hd
          · unfold setS at hSj
            rw [Bool.or_eq_false_iff] at hSj
            obtain ⟨h1, h2⟩ := hSj
            have hjq : q.1 ≠ j := fun e => by subst e; simp at h2
            rw [hb_bit1, Bool.or_eq_true] at hj
            have hj' : hb s j = true := hj.resolve_right (by simp [hjq])
            have hmj : hb q.2 j = false := by
              cases e : hb q.2 j with
              | false => rfl
              | true =>
                rw [o1] at e
                rw [hmask j e] at h1
                cases h1
            obtain ⟨g1, g2⟩ := hne j pj hpj hj'
            obtain ⟨g3, g4⟩ := tmps_R g1
            rcases I.said j pj hpj hj' h1 with ⟨k1, k2⟩ | ⟨k1, k2⟩
            · exact .inl ⟨by rw [g4]; exact k1, fun d hd => by rw [g2 d hd]; exact k2 d hd⟩
            · refine .inr ⟨by rw [g4]; exact k1, ?_⟩
              rcases k2 with ⟨u, k3, k4, k5⟩ | ⟨id, b, x, k3, k4, k5, k6, k7, k8⟩
              · obtain ⟨m1, m2⟩ := a1 _ k3 hmj
                exact .inl ⟨u, m1, m2.symm, fun d hd => by rw [g2 d hd]; exact k5 d hd⟩
              · obtain ⟨m1, m2⟩ := a1 _ k3 hmj
                obtain ⟨m3, m4⟩ := r2.keep id k5 k6
                exact .inr ⟨id, b, x, m1, m2.symm, Nat.lt_of_lt_of_le k5 r2.nx, m4, by rw [m3]; exact k7, fun d hd => by rw [g2 d hd]; exact k8 d hd⟩
end
end Go.CE
