/- Code, calls: what a closed run says is so. -/
import Derived.Scope
import Derived.Test.YtnlpmnegjgjiiaaGreatDoorEp
namespace Go.CE
open Go Go.RowKit
set_option linter.all false
noncomputable def and2 (a b : Bool) : Bool := cond a b false
/-- A scope that is run through without a jump. -/
theorem W_scope {P : Program} {N : Nat} {c : Code} {Q : Exit → WG.Env → World → Prop} {env : WG.Env} {w : World} (h : WG.W P N c (fun e env w => Q e env w ∧ ∀ l, e ≠ .goto l) env w) : WG.W P N (.scope c) Q env w := fun a hf =>
  wp_scope_straight (Go.wp_mono (h a hf) fun e a1 w1 hq => by
    obtain ⟨env1, h1, h2, h3⟩ := hq
    cases e with
    | goto l => exact (h3 l rfl).elim
    | _ => exact ⟨env1, h1, h2⟩)
/-- What is asked of a function's text: checked once, by the kernel. -/
noncomputable def codeOk (P : Program) (N : Nat) (O : Nat → List (Nat × Nat)) (c : Code) : Bool :=
  Code.rec true (fun id ops d => cond d (List.rec true (fun _ _ _ => drawOk P N ops.toList (O id)) (O id)) (allN (fun o => oe o.dst true fun d => Nat.blt d N) ops.toList)) (fun _ _ a b => and2 a b) (fun _ _ _ a b => and2 a b) (fun _ _ a => a) (fun _ a => a) (fun _ _ _ _ _ _ => false)
    (fun _ => true) (fun _ a => a) (fun _ => true) (fun _ => true) true (fun _ => true) c
section
variable {F : Fx} {X : Nat → Value} {B : Nat} {w0 : World} {N : Nat} {P : Program}
theorem region_R {id : Nat} {ops : Array Oper} {σ : Sl} {M : Mem} {R : Res} {ρ : Rh} {env : WG.Env} {w : World} (hA : Args F.C X) (hg : Gb X B w0 F.C) (hcl : ClOk F.C.P X B w0 F.cl) (hR : regionR F ops.toList σ M = R) (hgood : R.good) (hok : allN (fun o => oe o.dst true fun d => Nat.blt d N) ops.toList = true)
    (hs : SV ρ X F.h σ env) (hw : Wd X B w0 ρ M w) : WG.W F.C.P N (.region id ops false) (RQ X B w0 F.h ρ M R) env w := by
  have e : ops = ops.toList.toArray := by simp
  rw [e]
  refine WG.W.region ?_ ?_
  · rw [List.all_eq_true]
    intro o ho
    have := allN_t hok o ho
    unfold WG.dstOk
    cases hd : o.dst with
    | none => rfl
    | some d =>
      rw [hd] at this
      have h3 : Nat.blt d N = true := this
      rw [Nat.blt_eq] at h3
      simpa using h3
  · rw [← e]
    exact list_R hA hg hcl ops.toList ⟨σ.E, []⟩ M ρ env w R hR hgood hs.region hw
theorem regionD_R {id : Nat} {ops : Array Oper} {ord : List (Nat × Nat)} {σ : Sl} {M : Mem} {R : Res} {ρ : Rh} {env : WG.Env} {w : World} (hm : F.C.P.follows .mixedOrders = true) (hA : Args F.C X) (hg : Gb X B w0 F.C) (hcl : ClOk F.C.P X B w0 F.cl) (hR : regionD F ops.toList ord σ M = R) (hgood : R.good) (hok : drawOk F.C.P N ops.toList ord = true)
    (hs : SV ρ X F.h σ env) (hw : Wd X B w0 ρ M w) : WG.W F.C.P N (.region id ops true) (RQ X B w0 F.h ρ M R) env w := by
  obtain ⟨h1, h2⟩ := cond_t.1 hok
  have st : Sta F.C.P N ops (mkAt ord) := Sta.of h1
  obtain ⟨σn, Mn, rfl, hrun⟩ := Run.of (F := F) (ops := ops) ord [] ⟨σ.E, []⟩ M R hR hgood
  intro a ha
  refine wp_region_any hm ?_
  have h0 : ∀ i, hb 0 i = false := fun i => by rw [hb_eq, Nat.zero_testBit]
  have hsr := hs.region
  refine draw_any (mk := mkAt ord) (σn := σn) (Mn := Mn) (ρ0 := ρ) (M0 := M) hA hg hcl st (fun ρ' env w h3 h4 => ⟨ρ', rfl, h3, h4⟩) ops.size (Array.replicate ops.size false) a env w.drew (fun _ => false) ρ 0 0 ord [] ⟨σ.E, []⟩ M (by simp) (fun j => ?_) ?_ ?_ ha
    ⟨OrdOk.of h2, hrun, fun i hi => (by cases hi), fun i hi => (by rw [h0] at hi; cases hi), fun i hi => (by rw [h0] at hi; cases hi), fun i hi => (by rw [h0] at hi; cases hi), hsr.inE, hsr.inL, fun t _ => hsr.se t, fun i o _ hi => (by rw [h0] at hi; cases hi), fun p hp => (by cases hp), fun p hp => (by cases hp), Post.refl hw.drew⟩
  · rw [Array.getD_eq_getD_getElem?, Array.getElem?_replicate]
    split <;> rfl
  · have : (List.range ops.size).countP (fun j => !(Array.replicate ops.size false).getD j false) = (List.range ops.size).length := by
      rw [List.countP_eq_length]
      intro j hj
      rw [Array.getD_eq_getD_getElem?, Array.getElem?_replicate]
      split <;> rfl
    rw [this, List.length_range]
  · intro m om hom hl e he hb
    rw [Array.getD_eq_getD_getElem?, Array.getElem?_replicate] at hl
    split at hl <;> cases hl
theorem runC_eq (k : Nat) (c : Code) : (fuel (k + 1)).c F c = runC c ((fuel k).c F) F := rfl
theorem code_R (hm : F.C.P.follows .mixedOrders = true) (hA : Args F.C X) (hg : Gb X B w0 F.C) (hcl : ClOk F.C.P X B w0 F.cl) : ∀ (c : Code), codeOk F.C.P N (F.C.O F.f) c = true → ∀ (k : Nat) (σ : Sl) (M : Mem) (R : Res) (ρ : Rh) (env : WG.Env) (w : World),
    runC c ((fuel k).c F) F σ M = R → R.good → SV ρ X F.h σ env → Wd X B w0 ρ M w → WG.W F.C.P N c (RQ X B w0 F.h ρ M R) env w := by
  intro c
  induction c with
  | skip =>
    intro _ k σ M R ρ env w hR _ hs hw
    subst hR
    exact WG.W.skip ⟨ρ, rfl, hs, Post.refl hw⟩
  | region id ops d =>
    intro hok k σ M R ρ env w hR hgood hs hw
    cases d with
    | true =>
      have hR' : regionO F id ops.toList (F.C.O F.f id) σ M = R := hR
      have hok' : (List.rec true (fun _ _ _ => drawOk F.C.P N ops.toList (F.C.O F.f id)) (F.C.O F.f id) : Bool) = true := hok
      cases ho : F.C.O F.f id with
      | nil => rw [ho] at hR'; subst hR'; exact hgood.elim
      | cons p r =>
        rw [ho] at hR' hok'
        exact regionD_R hm hA hg hcl (ord := p :: r) hR' hgood hok' hs hw
    | false => exact region_R hA hg hcl hR hgood hok hs hw
  | seq x y ihx ihy =>
    intro hok k σ M R ρ env w hR hgood hs hw
    obtain ⟨ok1, ok2⟩ := cond_t.1 (show cond (codeOk F.C.P N (F.C.O F.f) x) (codeOk F.C.P N (F.C.O F.f) y) false = true from hok)
    have hR' : Res.rec (fun σ M => runC y ((fuel k).c F) F σ M) Res.e Res.r Res.bad (runC x ((fuel k).c F) F σ M) = R := hR
    cases hx : runC x ((fuel k).c F) F σ M with
    | bad z => rw [hx] at hR'; subst hR'; exact hgood.elim
    | n σ1 M1 =>
      rw [hx] at hR'
      have h1 := ihx ok1 k σ M _ ρ env w hx trivial hs hw
      refine WG.W.seq (h1.mono fun e env1 w1 h2 => ?_)
      obtain ⟨ρ1, rfl, h3, h4⟩ := h2
      exact (ihy ok2 k σ1 M1 R ρ1 env1 w1 hR' hgood h3 h4.wd).mono fun e env w h => RQ.from_ h4 h
    | e i σ1 M1 =>
      rw [hx] at hR'
      subst hR'
      have h1 := ihx ok1 k σ M _ ρ env w hx trivial hs hw
      refine WG.W.seq (h1.mono fun e env1 w1 h2 => ?_)
      obtain ⟨ρ1, rfl, h3, h4⟩ := h2
      exact ⟨ρ1, rfl, h3, h4⟩
    | r σ1 M1 =>
      rw [hx] at hR'
      subst hR'
      have h1 := ihx ok1 k σ M _ ρ env w hx trivial hs hw
      refine WG.W.seq (h1.mono fun e env1 w1 h2 => ?_)
      obtain ⟨ρ1, rfl, h3, h4⟩ := h2
      exact ⟨ρ1, rfl, h3, h4⟩
  | cond c x y ihx ihy =>
    intro hok k σ M R ρ env w hR hgood hs hw
    obtain ⟨ok1, ok2⟩ := cond_t.1 (show cond (codeOk F.C.P N (F.C.O F.f) x) (codeOk F.C.P N (F.C.O F.f) y) false = true from hok)
    have hR' : oe (boolOf (rd c σ)) (.bad [("cond", 0)]) (fun t => cond t (runC x ((fuel k).c F) F σ M) (runC y ((fuel k).c F) F σ M)) = R := hR
    cases hb : boolOf (rd c σ) with
    | none => rw [hb] at hR'; subst hR'; exact hgood.elim
    | some t =>
      rw [hb] at hR'
      have hc := rd_R hs.se c
      rw [boolOf_some.1 hb] at hc
      cases t with
      | true => exact WG.W.condT hc.bool (ihx ok1 k σ M R ρ env w hR' hgood hs hw)
      | false => exact WG.W.condF hc.bool (ihy ok2 k σ M R ρ env w hR' hgood hs hw)
  | block id x ih =>
    intro hok k σ M R ρ env w hR hgood hs hw
    have hR' : Res.rec Res.n (fun i σ M => cond (Nat.beq i id) (.n σ M) (.e i σ M)) Res.r Res.bad (runC x ((fuel k).c F) F σ M) = R := hR
    cases hx : runC x ((fuel k).c F) F σ M with
    | bad z => rw [hx] at hR'; subst hR'; exact hgood.elim
    | n σ1 M1 =>
      rw [hx] at hR'
      subst hR'
      refine WG.W.block ((ih hok k σ M _ ρ env w hx trivial hs hw).mono fun e env1 w1 h2 => ?_)
      obtain ⟨ρ1, rfl, h3, h4⟩ := h2
      exact ⟨ρ1, rfl, h3, h4⟩
    | e i σ1 M1 =>
      rw [hx] at hR'
      have hR2 : cond (Nat.beq i id) (.n σ1 M1) (.e i σ1 M1) = R := hR'
      refine WG.W.block ((ih hok k σ M _ ρ env w hx trivial hs hw).mono fun e env1 w1 h2 => ?_)
      obtain ⟨ρ1, rfl, h3, h4⟩ := h2
      show _root_.cond (Nat.beq i id) (RQ X B w0 F.h ρ M R .normal env1 w1) (RQ X B w0 F.h ρ M R (.exit i) env1 w1)
      cases hi : Nat.beq i id with
      | true =>
        rw [hi] at hR2
        subst hR2
        exact ⟨ρ1, rfl, h3, h4⟩
      | false =>
        rw [hi] at hR2
        subst hR2
        exact ⟨ρ1, rfl, h3, h4⟩
    | r σ1 M1 =>
      rw [hx] at hR'
      subst hR'
      refine WG.W.block ((ih hok k σ M _ ρ env w hx trivial hs hw).mono fun e env1 w1 h2 => ?_)
      obtain ⟨ρ1, rfl, h3, h4⟩ := h2
      exact ⟨ρ1, rfl, h3, h4⟩
  | loop x ih =>
    intro hok k σ M R ρ env w hR hgood hs hw
    refine WG.W.loop (fun g env w => ∃ σ1 M1 ρ1, (fuel g).c F (.loop x) σ1 M1 = R ∧ SV ρ1 X F.h σ1 env ∧ Post X B w0 ρ M ρ1 M1 w) (k + 1) ⟨σ, M, ρ, hR, hs, Post.refl hw⟩ fun g env1 w1 ⟨σ1, M1, ρ1, h1, h2, h3⟩ => ?_
    cases g with
    | zero => subst h1; exact hgood.elim
    | succ g =>
      have hR' : Res.rec (fun σ M => (fuel g).c F (.loop x) σ M) Res.e Res.r Res.bad (runC x ((fuel g).c F) F σ1 M1) = R := h1
      cases hx : runC x ((fuel g).c F) F σ1 M1 with
      | bad z => rw [hx] at hR'; subst hR'; exact hgood.elim
      | n σ2 M2 =>
        rw [hx] at hR'
        refine (ih hok g σ1 M1 _ ρ1 env1 w1 hx trivial h2 h3.wd).mono fun e env2 w2 h4 => ?_
        obtain ⟨ρ2, rfl, h5, h6⟩ := h4
        exact ⟨g, Nat.lt_succ_self g, σ2, M2, ρ2, hR', h5, h3.trans h6⟩
      | e i σ2 M2 =>
        rw [hx] at hR'
        subst hR'
        refine (ih hok g σ1 M1 _ ρ1 env1 w1 hx trivial h2 h3.wd).mono fun e env2 w2 h4 => ?_
        obtain ⟨ρ2, rfl, h5, h6⟩ := h4
        exact ⟨ρ2, rfl, h5, h3.trans h6⟩
      | r σ2 M2 =>
        rw [hx] at hR'
        subst hR'
        refine (ih hok g σ1 M1 _ ρ1 env1 w1 hx trivial h2 h3.wd).mono fun e env2 w2 h4 => ?_
        obtain ⟨ρ2, rfl, h5, h6⟩ := h4
        exact ⟨ρ2, rfl, h5, h3.trans h6⟩
  | rangeFunc f ps a b iha ihb => intro hok; cases hok
  | exit id =>
    intro _ k σ M R ρ env w hR _ hs hw
    subst hR
    exact WG.W.exit ⟨ρ, rfl, hs, Post.refl hw⟩
  | scope x ih =>
    intro hok k σ M R ρ env w hR hgood hs hw
    refine W_scope ((ih hok k σ M R ρ env w hR hgood hs hw).mono fun e env1 w1 hq => ⟨hq, fun l he => ?_⟩)
    subst he
    obtain ⟨ρ1, h2⟩ := hq
    cases R with
    | n _ _ => cases h2.1
    | e _ _ _ => cases h2.1
    | r _ _ => cases h2.1
    | bad _ => exact h2
  | label l =>
    intro _ k σ M R ρ env w hR _ hs hw
    subst hR
    exact WG.W.label ⟨ρ, rfl, hs, Post.refl hw⟩
  | goto l => intro _ k σ M R ρ env w hR hgood; subst hR; exact hgood.elim
  | ret =>
    intro _ k σ M R ρ env w hR _ hs hw
    subst hR
    exact WG.W.ret ⟨ρ, rfl, hs, Post.refl hw⟩
  | refuse m => intro _ k σ M R ρ env w hR hgood; subst hR; exact hgood.elim
end
/-! Calls. -/
/-- The functions' texts, checked. -/
structure Txt (C : Cfg) : Prop where
  mixed : C.P.follows .mixedOrders = true
  name : ∀ (f : Nat) (fn : Func), hb C.U f = true → C.P.funcs[f]? = some fn → (fn.name == "runtime.NumGoroutine") = false ∧ fn.body.isSome = true
  code : ∀ (f : Nat) (fn : Func) (c : Code), hb C.U f = true → C.P.funcs[f]? = some fn → C.X f = none → fn.body = some c → codeOk C.P fn.ntmps (C.O f) c = true
/-- The functions that a contract tells. -/
def ExtOk (C : Cfg) (X : Nat → Value) (B : Nat) (w0 : World) : Prop := ∀ f e, C.X f = some e → ∀ as M v M', e as M = .ok v M' → ∀ ρ w xs, RL ρ X as xs → Wd X B w0 ρ M w → Calls C.P f xs.toArray w fun e w' => ∃ y, e = .returned y ∧ Gl X B w0 ρ M v M' y w'
section
variable {C : Cfg} {X : Nat → Value} {B : Nat} {w0 : World}
theorem slots_look (l : List V) (t : Nat) : look (slots l) t = l[t]? := by
  have key : ∀ (l : List V) (k t : Nat), look ((List.rec (motive := fun _ => Nat → List (Nat × V)) (fun _ => []) (fun h _ g k => (k, h) :: g (Nat.succ k)) l) k) t = if k ≤ t then l[t - k]? else none := by
    intro l
    induction l with
    | nil =>
      intro k t
      show (none : Option V) = _
      split <;> simp
    | cons a l ih =>
      intro k t
      show look ((k, a) :: (List.rec (motive := fun _ => Nat → List (Nat × V)) (fun _ => []) (fun h _ g k => (k, h) :: g (Nat.succ k)) l) (Nat.succ k)) t = _
      rw [look_cons, ih]
      by_cases h : k = t
      · subst h
        simp
      · rw [if_neg h]
        by_cases h2 : k ≤ t
        · rw [if_pos h2, if_pos (by omega)]
          rw [show t - k = (t - Nat.succ k) + 1 by omega]
          simp
        · rw [if_neg h2, if_neg (by omega)]
  have := key l 0 t
  rw [if_pos (Nat.zero_le t), Nat.sub_zero] at this
  exact this
theorem slots_mem {l : List V} {p : Nat × V} (h : p ∈ slots l) : p.1 < l.length := by
  have key : ∀ (l : List V) (k : Nat), p ∈ (List.rec (motive := fun _ => Nat → List (Nat × V)) (fun _ => []) (fun h _ g k => (k, h) :: g (Nat.succ k)) l) k → k ≤ p.1 ∧ p.1 < k + l.length := by
    intro l
    induction l with
    | nil => intro k h; cases h
    | cons a l ih =>
      intro k h
      have h' : p ∈ (k, a) :: (List.rec (motive := fun _ => Nat → List (Nat × V)) (fun _ => []) (fun h _ g k => (k, h) :: g (Nat.succ k)) l) (Nat.succ k) := h
      rcases List.mem_cons.1 h' with rfl | h'
      · simp
      · have := ih _ h'
        simp only [List.length_cons]
        omega
  have := (key l 0 h).2
  omega
theorem hintN_in {h n i : Nat} (hi : i < n) : hb (hintN h n) i = true := by
  rw [hb_eq]
  show (h ||| (2 ^ n - 1)).testBit i = true
  rw [Nat.testBit_or, Nat.testBit_two_pow_sub_one]
  simp [hi]
theorem results_R {rs : List ResultVar} {σ : Sl} {M : Mem} {ρ : Rh} {env : WG.Env} {w : World} (hg : Gb X B w0 C) (hs : SE ρ X σ env) (hw : Wd X B w0 ρ M w) : ∀ {l : List V}, resL C rs σ M = some l → ∃ vs, WG.RE C.P env w rs vs ∧ RL ρ X l vs := by
  induction rs with
  | nil =>
    intro l h
    cases h
    exact ⟨[], .nil, .nil⟩
  | cons r rs ih =>
    intro l h
    obtain ⟨v, h1, h2⟩ := ob_some.1 (show ob (resT r C σ M) (fun x => ob (resL C rs σ M) fun r => some (x :: r)) = some l from h)
    obtain ⟨l', h3, h4⟩ := ob_some.1 h2
    cases h4
    obtain ⟨vs, k1, k2⟩ := ih h3
    cases r with
    | tmp t =>
      cases h1
      exact ⟨env t :: vs, .tmp rfl k1, .cons (hs t) k2⟩
    | cell a t =>
      obtain ⟨ad, h5, z, h6, h7⟩ := loadV_R hg hw (show loadV C t (rdT a σ) M = some v from h1) (hs a)
      exact ⟨z :: vs, .cell h5 h7 k1, .cons h6 k2⟩
theorem ends_R {fn : Func} {R : Res} {v : V} {M' : Mem} {ρ : Rh} {M : Mem} {h : Nat} {e : Exit} {env : WG.Env} {w : World} (hg : Gb X B w0 C) (hR : ends C fn.results.toList R = .ok v M') (k : RQ X B w0 h ρ M R e env w) :
    WG.postE C.P fn (fun e w' => ∃ y, e = .returned y ∧ Gl X B w0 ρ M v M' y w') e env w := by
  have key : ∀ (σ1 : Sl) (M1 : Mem) (ρ1 : Rh), resV C fn.results.toList σ1 M1 = .ok v M' → SV ρ1 X h σ1 env → Post X B w0 ρ M ρ1 M1 w → ∃ y, WG.resE fn env w C.P y ∧ ∃ y', Ending.returned y = .returned y' ∧ Gl X B w0 ρ M v M' y' w := by
    intro σ1 M1 ρ1 h1 h2 h3
    have h4 : oe (resL C fn.results.toList σ1 M1) (Cr.bad [("result", 0)]) (fun l => Cr.ok (cond (Nat.beq (len l) 1) (hd l) (.t l)) M1) = Cr.ok v M' := h1
    cases hl : resL C fn.results.toList σ1 M1 with
    | none => rw [hl] at h4; cases h4
    | some l =>
      rw [hl] at h4
      obtain ⟨vs, k1, k2⟩ := results_R hg h2.se h3.wd hl
      have hr : fn.results = fn.results.toList.toArray := by simp
      have h5 : Cr.ok (cond (Nat.beq (len l) 1) (hd l) (.t l)) M1 = .ok v M' := h4
      cases hn : Nat.beq (len l) 1 with
      | true =>
        rw [hn] at h5
        cases h5
        have hl1 : l.length = 1 := by rw [← len_eq]; exact nbeq.1 hn
        have hv1 : vs.length = 1 := by rw [← k2.len]; exact hl1
        obtain ⟨a, rfl⟩ := List.length_eq_one_iff.1 hl1
        obtain ⟨x, rfl⟩ := List.length_eq_one_iff.1 hv1
        exact ⟨x, WG.resEC hr k1, x, rfl, ρ1, k2.at_ 0 a x rfl rfl, h3⟩
      | false =>
        rw [hn] at h5
        cases h5
        have hv1 : Nat.beq vs.length 1 = false := by rw [← k2.len, ← len_eq]; exact hn
        exact ⟨_, WG.resET hr k1 hv1, _, rfl, ρ1, Rv.tup_mk k2, h3⟩
  obtain ⟨ρ1, k⟩ := k
  cases R with
  | n σ1 M1 =>
    obtain ⟨rfl, h2, h3⟩ := k
    exact key σ1 M1 ρ1 hR h2 h3
  | r σ1 M1 =>
    obtain ⟨rfl, h2, h3⟩ := k
    exact key σ1 M1 ρ1 hR h2 h3
  | e i σ1 M1 => cases hR
  | bad z => exact k.elim
/-- What a closed run says of a call is so. -/
theorem run_R (hT : Txt C) (hA : Args C X) (hg : Gb X B w0 C) (hX : ExtOk C X B w0) : ∀ k, ClOk C.P X B w0 ((fuel k).f C) := by
  intro k
  induction k with
  | zero => intro f as M v M' h; cases h
  | succ k ih =>
    intro f as M v M' h
    have h' : cond (hb C.U f) (oe (nth C.P.funcs.toList f) (.bad [("no function", 0)]) fun fn => oe (C.X f)
      (oe fn.body (.bad [(fn.name, 0)]) fun c => cond (Nat.ble (len as) fn.ntmps) (ends C fn.results.toList ((fuel k).c ⟨(fuel k).f C, C, hintN (C.H f) (len as), f⟩ c ⟨slots as, []⟩ M)) (.bad [(fn.name, 1)]))
      fun e => e as M) (.bad [("unchecked", f)]) = .ok v M' := h
    cases hu : hb C.U f with
    | false => rw [hu] at h'; cases h'
    | true =>
      rw [hu, cond_true] at h'
      cases hf : nth C.P.funcs.toList f with
      | none => rw [hf] at h'; cases h'
      | some fn =>
        rw [hf] at h'
        rw [nth_eq] at hf
        have hf' : C.P.funcs[f]? = some fn := by simpa using hf
        obtain ⟨g1, g2⟩ := hT.name f fn hu hf'
        refine ⟨⟨fn, hf', g1, g2⟩, fun ρ w xs hxs hw => ?_⟩
        have h2 : oe (C.X f) (oe fn.body (.bad [(fn.name, 0)]) fun c => cond (Nat.ble (len as) fn.ntmps) (ends C fn.results.toList ((fuel k).c ⟨(fuel k).f C, C, hintN (C.H f) (len as), f⟩ c ⟨slots as, []⟩ M)) (.bad [(fn.name, 1)])) (fun e => e as M) = .ok v M' := h'
        cases hx : C.X f with
        | some e =>
          rw [hx] at h2
          exact hX f e hx as M v M' h2 ρ w xs hxs hw
        | none =>
          rw [hx] at h2
          have h3 : oe fn.body (.bad [(fn.name, 0)]) (fun c => cond (Nat.ble (len as) fn.ntmps) (ends C fn.results.toList ((fuel k).c ⟨(fuel k).f C, C, hintN (C.H f) (len as), f⟩ c ⟨slots as, []⟩ M)) (.bad [(fn.name, 1)])) = .ok v M' := h2
          cases hb' : fn.body with
          | none => rw [hb'] at h3; cases h3
          | some c =>
            rw [hb'] at h3
            have h4 : cond (Nat.ble (len as) fn.ntmps) (ends C fn.results.toList ((fuel k).c ⟨(fuel k).f C, C, hintN (C.H f) (len as), f⟩ c ⟨slots as, []⟩ M)) (.bad [(fn.name, 1)]) = .ok v M' := h3
            cases hn : Nat.ble (len as) fn.ntmps with
            | false => rw [hn] at h4; cases h4
            | true =>
              rw [hn] at h4
              have h5 : ends C fn.results.toList ((fuel k).c ⟨(fuel k).f C, C, hintN (C.H f) (len as), f⟩ c ⟨slots as, []⟩ M) = .ok v M' := h4
              have hle := Nat.le_of_ble_eq_true hn
              rw [len_eq] at hle
              cases k with
              | zero => cases h5
              | succ k =>
                have hgood : ((fuel (k + 1)).c ⟨(fuel (k + 1)).f C, C, hintN (C.H f) (len as), f⟩ c ⟨slots as, []⟩ M).good := by
                  cases hq : (fuel (k + 1)).c ⟨(fuel (k + 1)).f C, C, hintN (C.H f) (len as), f⟩ c ⟨slots as, []⟩ M with
                  | bad z => rw [hq] at h5; cases h5
                  | _ => trivial
                have hse : SV ρ X (hintN (C.H f) (len as)) ⟨slots as, []⟩ (WG.envOf xs.toArray) := by
                  refine ⟨fun t => ?_, fun p hp => hintN_in (by rw [len_eq]; exact slots_mem hp), fun p hp => by cases hp⟩
                  unfold rdT
                  show Rv ρ X (oe (look (slots as) t) .u fun v => v) _
                  rw [slots_look]
                  cases ha : as[t]? with
                  | none => exact .u _
                  | some a =>
                    obtain ⟨x, e1, e2⟩ := hxs.get ha
                    have : WG.envOf xs.toArray t = x := by
                      unfold WG.envOf
                      rw [Array.getD_eq_getD_getElem?]
                      simp [e1]
                    rw [this]
                    exact e2
                have hW := code_R (F := ⟨(fuel (k + 1)).f C, C, hintN (C.H f) (len as), f⟩) hT.mixed hA hg ih c (hT.code f fn c hu hf' hx hb') k ⟨slots as, []⟩ M _ ρ (WG.envOf xs.toArray) w rfl hgood hse hw
                exact WG.Calls.ofW hf' hb' (by simp; rw [← hxs.len]; exact hle) (hW.mono fun e env w1 hq => ends_R hg h5 hq)
end
end Go.CE
