/- Slots; a region in the text's own order. -/
import Derived.Test.YtnlpmnegjgjiiaaGreatDoorEj
namespace Go.CE
open Go Go.RowKit
set_option linter.all false
/-- Does the slot outlive its region? -/
def hb (h d : Nat) : Bool := Nat.beq (Nat.land (Nat.shiftRight h d) 1) 1
structure SV (ρ : Rh) (X : Nat → Value) (h : Nat) (σ : Sl) (env : WG.Env) : Prop where
  se : SE ρ X σ env
  inE : ∀ p ∈ σ.E, hb h p.1 = true
  inL : ∀ p ∈ σ.L, hb h p.1 = false
section
variable {C : Cfg} {cl : CallF} {X : Nat → Value} {B : Nat} {w0 w w1 : World} {ρ ρ' : Rh} {M M' : Mem} {σ σ' : Sl} {env : WG.Env} {ty : TypeId} {v : V} {x : Value} {P : Program} {h : Nat}
theorem SE.mono (hl : Rh.le ρ ρ') (k : SE ρ X σ env) : SE ρ' X σ env := fun t => (k t).mono hl
theorem SV.mono (hl : Rh.le ρ ρ') (k : SV ρ X h σ env) : SV ρ' X h σ env := ⟨k.se.mono hl, k.inE, k.inL⟩
theorem exOpF_eq {F : Fx} {o : Op} {σ : Sl} {M : Mem} : exOpF F o σ M = exOp o F.cl F.C σ M := by cases F; rfl
theorem put1_E {d : Nat} (hd : hb h d = true) : put1 h σ (some d) v = ⟨upd d v σ.E, σ.L⟩ := by
  show cond (hb h d) _ _ = _
  rw [hd]; rfl
theorem put1_L {d : Nat} (hd : hb h d = false) : put1 h σ (some d) v = ⟨σ.E, (d, v) :: σ.L⟩ := by
  show cond (hb h d) _ _ = _
  rw [hd]; rfl
theorem rdT_put (hE : ∀ p ∈ σ.E, hb h p.1 = true) (hL : ∀ p ∈ σ.L, hb h p.1 = false) (d t : Nat) : rdT t (put1 h σ (some d) v) = if d = t then v else rdT t σ := by
  cases hd : hb h d with
  | true =>
    rw [put1_E hd]
    unfold rdT
    simp only [look_upd]
    by_cases e : d = t
    · subst e
      rw [if_pos rfl, if_pos rfl]
      cases hl : look σ.L d with
      | none => rfl
      | some u =>
        have := hL _ (look_mem hl)
        rw [hd] at this
        cases this
    · rw [if_neg e, if_neg e]
  | false =>
    rw [put1_L hd]
    unfold rdT
    simp only [look_cons]
    by_cases e : d = t
    · subst e
      rw [if_pos rfl, if_pos rfl]
      rfl
    · rw [if_neg e, if_neg e]
theorem put1_in (hE : ∀ p ∈ σ.E, hb h p.1 = true) (hL : ∀ p ∈ σ.L, hb h p.1 = false) (d : Option Nat) : (∀ p ∈ (put1 h σ d v).E, hb h p.1 = true) ∧ ∀ p ∈ (put1 h σ d v).L, hb h p.1 = false := by
  cases d with
  | none => exact ⟨hE, hL⟩
  | some d =>
    cases hd : hb h d with
    | true =>
      rw [put1_E hd]
      exact ⟨fun p hp => (mem_upd hp).elim (fun e => e ▸ hd) (hE p), hL⟩
    | false =>
      rw [put1_L hd]
      refine ⟨hE, fun p hp => ?_⟩
      rcases List.mem_cons.1 hp with rfl | hp
      · exact hd
      · exact hL p hp
theorem SV.put (k : SV ρ X h σ env) (d : Option Nat) (hr : Rv ρ X v x) : SV ρ X h (put1 h σ d v) (WG.putE env d x) := by
  obtain ⟨h1, h2⟩ := put1_in (v := v) k.inE k.inL d
  refine ⟨fun t => ?_, h1, h2⟩
  cases d with
  | none => exact k.se t
  | some d =>
    rw [rdT_put k.inE k.inL]
    show Rv ρ X _ (WG.upd env d x t)
    unfold WG.upd
    by_cases e : d = t
    · subst e
      rw [if_pos rfl, Nat.beq_refl]
      exact hr
    · rw [if_neg e, nbeq_f.2 (Ne.symm e)]
      exact k.se t
/-- At a region's beginning. -/
theorem SV.region (k : SV ρ X h σ env) : SV ρ X h ⟨σ.E, []⟩ env := by
  refine ⟨fun t => ?_, k.inE, fun p hp => by cases hp⟩
  have := k.se t
  unfold rdT at this ⊢
  cases hE : look σ.E t with
  | none => exact .u _
  | some v =>
    have hl : look σ.L t = none := by
      cases hl : look σ.L t with
      | none => rfl
      | some u =>
        have h1 := k.inL _ (look_mem hl)
        have h2 := k.inE _ (look_mem hE)
        simp only at h1 h2
        rw [h2] at h1
        cases h1
    rw [hl, hE] at this
    exact this
theorem stepE_of {o : Oper} {Q : Value → World → Prop} {next : WG.Env → World → Prop} (hs : StepR P env o.op o.type w Q) (k : ∀ v w', Q v w' → next (WG.putE env o.dst v) w') : WG.stepE P o env w next := by
  obtain ⟨dst, op, ty, pos, aft, g⟩ := o
  unfold WG.stepE
  rw [WG.execOp_bare]
  cases hs with
  | val v w' h1 h2 => exact .inl ⟨v, w', h1, k _ _ h2⟩
  | skip w' h1 h2 => exact .inr (.inl ⟨w', h1, k _ _ h2⟩)
  | call f args h1 h2 => exact .inr (.inr ⟨f, args, w, h1, Calls.mono h2 fun e w'' ⟨v, e1, e2⟩ => ⟨v, e1, k _ _ e2⟩⟩)
theorem guard_R {ops : Array Oper} {o : Oper} {t : Bool} (hs : SE ρ X σ env) (hg : guardOk ops.toList σ o = some t) : Region.wanted o (WG.yieldedE ops env) = t := by
  unfold Region.wanted
  unfold guardOk at hg
  cases ho : o.guard with
  | none =>
    rw [ho] at hg
    cases hg
    rfl
  | some q =>
    rw [ho] at hg
    obtain ⟨p, h1, h2⟩ := ob_some.1 (show (ob (nth ops.toList q.1) fun p => ob p.dst fun d => oe (boolOf (rdT d σ)) (cond (isZ (rdT d σ)) (some false) none) fun x => some (eqB x q.2)) = some t from hg)
    obtain ⟨d, h3, h4⟩ := ob_some.1 h2
    rw [nth_eq] at h1
    have h1' : ops[q.1]? = some p := by simpa using h1
    have hd := hs d
    show (WG.yieldedE ops env q.1 == some q.2) = t
    unfold WG.yieldedE
    rw [h1']
    simp only [Option.bind_some, h3]
    cases hb : boolOf (rdT d σ) with
    | some y =>
      rw [hb] at h4
      have h5 : some (eqB y q.2) = some t := h4
      cases h5
      rw [boolOf_some.1 hb] at hd
      rw [hd.bool, eqB_eq]
      cases y <;> cases q.2 <;> rfl
    | none =>
      rw [hb] at h4
      obtain ⟨h5, h6⟩ := cond_some.1 (show cond (isZ (rdT d σ)) (some false) none = some t from h4)
      cases h6
      rw [isZ_t.1 h5] at hd
      rw [hd.und]
      rfl
/-- What a piece of code leaves. -/
def RQ (X : Nat → Value) (B : Nat) (w0 : World) (h : Nat) (ρ : Rh) (M : Mem) (R : Res) : Exit → WG.Env → World → Prop := fun e env w => ∃ ρ', match R with
  | .n σ' M' => e = .normal ∧ SV ρ' X h σ' env ∧ Post X B w0 ρ M ρ' M' w
  | .e id σ' M' => e = .exit id ∧ SV ρ' X h σ' env ∧ Post X B w0 ρ M ρ' M' w
  | .r σ' M' => e = .ret ∧ SV ρ' X h σ' env ∧ Post X B w0 ρ M ρ' M' w
  | .bad _ => False
def Res.good : Res → Prop
  | .bad _ => False
  | _ => True
theorem RQ.from_ {ρ1 : Rh} {M1 : Mem} {R : Res} {e : Exit} (hp : Post X B w0 ρ M ρ1 M1 w1) (k : RQ X B w0 h ρ1 M1 R e env w) : RQ X B w0 h ρ M R e env w := by
  obtain ⟨ρ', k⟩ := k
  cases R with
  | n σ' M' => exact ⟨ρ', k.1, k.2.1, hp.trans k.2.2⟩
  | e id σ' M' => exact ⟨ρ', k.1, k.2.1, hp.trans k.2.2⟩
  | r σ' M' => exact ⟨ρ', k.1, k.2.1, hp.trans k.2.2⟩
  | bad y => exact k.elim
theorem exOp_R {o : Oper} (hA : Args C X) (hg : Gb X B w0 C) (hcl : ClOk C.P X B w0 cl) (hs : SE ρ X σ env) (hw : Wd X B w0 ρ M w) (hx : exOp o.op cl C σ M = .ok v M') : StepR C.P env o.op o.type w (Gl X B w0 ρ M v M') := exO_R hA hg hcl hs hw hx
theorem WL_mono {ops : Array Oper} {Q Q' : Exit → WG.Env → World → Prop} : ∀ (l : List Oper) {env : WG.Env} {w : World}, (∀ e env w, Q e env w → Q' e env w) → WG.WL P ops Q l env w → WG.WL P ops Q' l env w := by
  intro l
  induction l with
  | nil => intro env w hq k; exact hq _ _ _ k
  | cons o l ih =>
    intro env w hq k
    unfold WG.WL at k ⊢
    split
    · rename_i hw
      rw [if_pos hw] at k
      rcases k with ⟨v, w', h1, h2⟩ | ⟨w', h1, h2⟩ | ⟨f, args, w', h1, h2⟩
      · exact .inl ⟨v, w', h1, ih hq h2⟩
      · exact .inr (.inl ⟨w', h1, ih hq h2⟩)
      · exact .inr (.inr ⟨f, args, w', h1, Calls.mono h2 fun e w'' ⟨v, e1, e2⟩ => ⟨v, e1, ih hq e2⟩⟩)
    · rename_i hw
      rw [if_neg hw] at k
      exact ih hq k
theorem list_R {F : Fx} {ops : Array Oper} (hA : Args F.C X) (hg : Gb X B w0 F.C) (hcl : ClOk F.C.P X B w0 F.cl) : ∀ (l : List Oper) (σ : Sl) (M : Mem) (ρ : Rh) (env : WG.Env) (w : World) (R : Res), (List.rec (motive := fun _ => Sl → Mem → Res) Res.n (fun o _ g => stepG F ops.toList o g) l σ M) = R → R.good → SV ρ X F.h σ env → Wd X B w0 ρ M w →
    WG.WL F.C.P ops (RQ X B w0 F.h ρ M R) l env w := by
  intro l
  induction l with
  | nil =>
    intro σ M ρ env w R hR hgood hs hw
    subst hR
    exact ⟨ρ, rfl, hs, Post.refl hw⟩
  | cons o l ih =>
    intro σ M ρ env w R hR hgood hs hw
    have hR' : stepG F ops.toList o (fun σ M => List.rec (motive := fun _ => Sl → Mem → Res) Res.n (fun o _ g => stepG F ops.toList o g) l σ M) σ M = R := hR
    unfold stepG at hR'
    unfold WG.WL
    cases hgu : guardOk ops.toList σ o with
    | none => rw [hgu] at hR'; subst hR'; exact hgood.elim
    | some t =>
      rw [hgu] at hR'
      have hwt := guard_R hs.se hgu
      cases t with
      | true =>
        rw [if_pos hwt]
        have h2 : step1 F o (fun σ M => List.rec (motive := fun _ => Sl → Mem → Res) Res.n (fun o _ g => stepG F ops.toList o g) l σ M) σ M = R := hR'
        unfold step1 at h2
        rw [exOpF_eq] at h2
        cases hx : exOp o.op F.cl F.C σ M with
        | bad y => rw [hx] at h2; subst h2; exact hgood.elim
        | ok v M' =>
          rw [hx] at h2
          refine stepE_of (exOp_R hA hg hcl hs.se hw hx) fun y w' ⟨ρ', k1, k2⟩ => ?_
          have := ih (put1 F.h σ o.dst v) M' ρ' (WG.putE env o.dst y) w' R h2 hgood ((hs.mono k2.le).put o.dst k1) k2.wd
          clear h2 hR' ih
          revert this
          generalize WG.putE env o.dst y = env'
          intro this
          exact WL_mono l (fun e env w k => RQ.from_ k2 k) this
      | false =>
        rw [if_neg (by rw [hwt]; simp)]
        exact ih _ M ρ _ w R hR' hgood (hs.put o.dst .z) hw
end
end Go.CE
