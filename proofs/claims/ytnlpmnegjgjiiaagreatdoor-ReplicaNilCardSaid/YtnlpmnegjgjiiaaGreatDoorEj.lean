/- What one operation comes to: calls; and all of them in one. -/
import Derived.Test.YtnlpmnegjgjiiaaGreatDoorEi
namespace Go.CE
open Go Go.RowKit
set_option linter.all false
/-- What is asked of those who are called. -/
def ClOk (P : Program) (X : Nat → Value) (B : Nat) (w0 : World) (cl : CallF) : Prop := ∀ f as M v M', cl f as M = .ok v M' →
  (∃ fn, P.funcs[f]? = some fn ∧ (fn.name == "runtime.NumGoroutine") = false ∧ fn.body.isSome = true) ∧
  ∀ ρ w xs, RL ρ X as xs → Wd X B w0 ρ M w → Calls P f xs.toArray w fun e w' => ∃ y, e = .returned y ∧ Gl X B w0 ρ M v M' y w'
section
variable {C : Cfg} {cl : CallF} {X : Nat → Value} {B : Nat} {w0 w w1 : World} {ρ : Rh} {M M' : Mem} {σ : Sl} {env : WG.Env} {ty : TypeId} {v : V} {y : Value} {P : Program}
theorem args_arr (as : Array Operand) : as.map (WG.ev env) = (as.toList.map (WG.ev env)).toArray := by
  apply Array.ext'
  simp
theorem RL.arr_get {l : List V} {as : Array Operand} {i : Nat} {a : V} (hs : SE ρ X σ env) (h : nth (rds as.toList σ) i = some a) : ∃ x, (as.map (WG.ev env))[i]? = some x ∧ Rv ρ X a x := by
  rw [nth_eq] at h
  obtain ⟨x, h1, h2⟩ := (rds_R hs as.toList).get h
  refine ⟨x, ?_, h2⟩
  rw [args_arr]
  simpa using h1
theorem two_some {l : List V} {f : V → V → Out} (h : fin M (two l f) = .ok v M') : ∃ a b, nth l 0 = some a ∧ nth l 1 = some b ∧ fin M (f a b) = .ok v M' := by
  obtain ⟨a, h1, h⟩ := fin_oe h
  obtain ⟨b, h2, h⟩ := fin_oe h
  exact ⟨a, b, h1, h2, h⟩
theorem s_bi {b : Builtin} {as : Array Operand} {ts : Array TypeId} (hs : SE ρ X σ env) (hw : Wd X B w0 ρ M w) (h : fin M (biOf b C.P ts.toList (rds as.toList σ) M) = .ok v M') : StepR C.P env (.call ⟨.builtin b, as, ts⟩) ty w (Gl X B w0 ρ M v M') := by
  cases b with
  | append =>
    obtain ⟨a, b, h1, h2, h3⟩ := two_some (show fin M (two (rds as.toList σ) fun a b => appendV C.P ts.toList a b M) = .ok v M' from h)
    obtain ⟨x, k1, k2⟩ := RL.arr_get (l := []) hs h1
    obtain ⟨y, k3, k4⟩ := RL.arr_get (l := []) hs h2
    obtain ⟨u, w', k5, k6⟩ := appendV_R (P := C.P) (ty := ty) hw k2 k4 k1 k3 h3
    refine .val u w' ?_ k6
    show (execOp (WG.ev env) _).run C.P w = _
    simp [execOp, resolve, invoke, builtin, k5]
  | copy =>
    obtain ⟨a, b, h1, h2, h3⟩ := two_some (show fin M (two (rds as.toList σ) fun a b => copyV C.P ts.toList a b M) = .ok v M' from h)
    obtain ⟨x, k1, k2⟩ := RL.arr_get (l := []) hs h1
    obtain ⟨y, k3, k4⟩ := RL.arr_get (l := []) hs h2
    obtain ⟨u, w', k5, k6⟩ := copyV_R (P := C.P) (ty := ty) hw k2 k4 k1 k3 h3
    refine .val u w' ?_ k6
    show (execOp (WG.ev env) _).run C.P w = _
    simp [execOp, resolve, invoke, builtin, k5]
  | clear =>
    have h0 := fin_lc (show fin M (lc (ob (nth (rds as.toList σ) 0) fun a => clearV C.P ts.toList a M)) = .ok v M' from h)
    obtain ⟨a, h1, h3⟩ := ob_some.1 h0
    obtain ⟨x, k1, k2⟩ := RL.arr_get (l := []) hs h1
    obtain ⟨u, w', k5, k6⟩ := clear_R (P := C.P) (ty := ty) hw k2 k1 h3
    refine .val u w' ?_ k6
    show (execOp (WG.ev env) _).run C.P w = _
    simp [execOp, resolve, invoke, builtin, k5]
  | len =>
    obtain ⟨h1, h2⟩ := fin_lt (show fin M (lt (ob (nth ts.toList 0) fun t => ob (nth (rds as.toList σ) 0) fun x => ob (lenW C.P t x M) fun n => some (.i .i64 (.ofNat n)))) = .ok v M' from h)
    obtain ⟨t, h3, h4⟩ := ob_some.1 h1
    obtain ⟨a, h5, h6⟩ := ob_some.1 h4
    obtain ⟨n, h7, h8⟩ := ob_some.1 h6
    cases h8
    obtain ⟨x, k1, k2⟩ := RL.arr_get (l := []) hs h5
    rw [nth_eq] at h3
    have k3 := len_R (P := C.P) (ty := ty) hw (ts := ts) (by simpa using h3) k1 h7 k2
    refine pureS hw h2 (y := goInt n) ?_ (.i _ _)
    show (execOp (WG.ev env) _).run C.P w = _
    simp [execOp, resolve, invoke, builtin, k3]
  | cap =>
    obtain ⟨h1, h2⟩ := fin_lt (show fin M (lt (ob (nth ts.toList 0) fun t => ob (elemOf C.P t) fun _ => ob (nth (rds as.toList σ) 0) fun x => cond (isLn x) (some (.i .i64 (.ofNat 0))) (ob (slcOf x) fun s => ob s.c fun c => some (.i .i64 (.ofNat c))))) = .ok v M' from h)
    obtain ⟨t, h3, h4⟩ := ob_some.1 h1
    obtain ⟨e, h5, h6⟩ := ob_some.1 h4
    obtain ⟨a, h7, h8⟩ := ob_some.1 h6
    obtain ⟨x, k1, k2⟩ := RL.arr_get (l := []) hs h7
    rw [nth_eq] at h3
    obtain ⟨n, rfl, k3⟩ := cap_R (P := C.P) (ty := ty) (w := w) (ts := ts) (by simpa using h3) k1 h5 h8 k2
    refine pureS hw h2 (y := goInt n) ?_ (.i _ _)
    show (execOp (WG.ev env) _).run C.P w = _
    simp [execOp, resolve, invoke, builtin, k3]
  | max =>
    obtain ⟨h1, h2⟩ := fin_lt (show fin M (mm (fun x y => ltI x y) (rds as.toList σ)) = .ok v M' from h)
    have hl := rds_R hs as.toList
    cases has : rds as.toList σ with
    | nil => rw [has] at h1; cases h1
    | cons a l =>
      rw [has] at h1 hl
      have h3 : foldV (pickV fun x y => ltI x y) l a = some v := h1
      cases hxs : as.toList.map (WG.ev env) with
      | nil => rw [hxs] at hl; have := hl.len; simp at this
      | cons x xs =>
        rw [hxs] at hl
        obtain ⟨u, k1, k2⟩ := foldV_R (P := C.P) (w := w) (f := fun x y => ltI x y) (g := Builtin.max2) (fun k a b w => by simp [Builtin.max2, ltI_eq]) l xs a v x ⟨by have := hl.len; simpa using this, fun i v' x' h3 h4 => hl.at_ (i + 1) v' x' h3 h4⟩ (hl.at_ 0 a x rfl rfl) h3
        refine pureS hw h2 ?_ k1
        have hxs' : (as.map (WG.ev env)).toList = x :: xs := by simpa using hxs
        have k3 : (Builtin.max_ ts ty (as.map (WG.ev env))).run C.P w = .ok u w := by
          unfold Builtin.max_
          rw [hxs']
          exact k2
        show (execOp (WG.ev env) _).run C.P w = _
        simp [execOp, resolve, invoke, builtin, k3]
  | min =>
    obtain ⟨h1, h2⟩ := fin_lt (show fin M (mm (fun x y => ltI y x) (rds as.toList σ)) = .ok v M' from h)
    have hl := rds_R hs as.toList
    cases has : rds as.toList σ with
    | nil => rw [has] at h1; cases h1
    | cons a l =>
      rw [has] at h1 hl
      have h3 : foldV (pickV fun x y => ltI y x) l a = some v := h1
      cases hxs : as.toList.map (WG.ev env) with
      | nil => rw [hxs] at hl; have := hl.len; simp at this
      | cons x xs =>
        rw [hxs] at hl
        obtain ⟨u, k1, k2⟩ := foldV_R (P := C.P) (w := w) (f := fun x y => ltI y x) (g := Builtin.min2) (fun k a b w => by simp [Builtin.min2, ltI_eq]) l xs a v x ⟨by have := hl.len; simpa using this, fun i v' x' h3 h4 => hl.at_ (i + 1) v' x' h3 h4⟩ (hl.at_ 0 a x rfl rfl) h3
        refine pureS hw h2 ?_ k1
        have hxs' : (as.map (WG.ev env)).toList = x :: xs := by simpa using hxs
        have k3 : (Builtin.min_ ts ty (as.map (WG.ev env))).run C.P w = .ok u w := by
          unfold Builtin.min_
          rw [hxs']
          exact k2
        show (execOp (WG.ev env) _).run C.P w = _
        simp [execOp, resolve, invoke, builtin, k3]
  | _ => cases h
theorem s_cval {f : Operand} {as : Array Operand} {ts : Array TypeId} (hcl : ClOk C.P X B w0 cl) (hs : SE ρ X σ env) (hw : Wd X B w0 ρ M w) (h : fin M (cVal f cl C σ (rds as.toList σ) ts.toList M) = .ok v M') : StepR C.P env (.call ⟨.value f, as, ts⟩) ty w (Gl X B w0 ρ M v M') := by
  obtain ⟨F, h1, h2⟩ := fin_oe h
  have h3 := fin_c h2
  have hf := rd_R hs f
  rw [fncOf_some.1 h1] at hf
  obtain ⟨xs, ys, hf', k1, k2⟩ := hf.fnc
  obtain ⟨⟨fn, g1, g2, g3⟩, g4⟩ := hcl _ _ _ _ _ h3
  rw [app_eq, app_eq] at g4
  have hl := k1.append ((rds_R hs as.toList).append k2)
  refine .call F.f (xs ++ (as.toList.map (WG.ev env) ++ ys)).toArray ?_ (g4 ρ w _ hl hw)
  have hb' : ¬ fn.body = none := by cases h : fn.body <;> simp_all
  have hn' : ¬ fn.name = "runtime.NumGoroutine" := by simpa using g2
  have e : (xs.toArray ++ as.map (WG.ev env)) ++ ys.toArray = (xs ++ (as.toList.map (WG.ev env) ++ ys)).toArray := by
    apply Array.ext'
    simp
  show (execOp (WG.ev env) _).run C.P w = _
  have h5 : (invoke (.fn (.func F.f) ys.toArray) (xs.toArray ++ as.map (WG.ev env))).run C.P w = .ok (.enter F.f (xs ++ (as.toList.map (WG.ev env) ++ ys)).toArray) w := by
    unfold invoke
    show (callFunc F.f ((xs.toArray ++ as.map (WG.ev env)) ++ ys.toArray)).run C.P w = _
    rw [e]
    simp [callFunc, g1, hn', hb']
  simp only [execOp, resolve, hf', Deferred.ofValue, Sem.run_bind, Sem.run_pure, Result.andThen_ok]
  exact h5
theorem findMt_some {nm : String} {l : List Method} {m : Method} (h : findMt nm l = some m) : l.find? (·.name == nm) = some m := by
  induction l with
  | nil => cases h
  | cons p l ih =>
    have h' : cond (decide (p.name = nm)) (some p) (findMt nm l) = some m := h
    rw [List.find?_cons]
    by_cases e : p.name = nm
    · rw [decide_eq_true e] at h'
      cases h'
      simp [e]
    · rw [decide_eq_false e] at h'
      have e2 : (p.name == nm) = false := by simpa using e
      rw [e2]
      exact ih h'
theorem s_cinv {x : Operand} {nm : String} {as : Array Operand} {ts : Array TypeId} (hcl : ClOk C.P X B w0 cl) (hs : SE ρ X σ env) (hw : Wd X B w0 ρ M w) (h : fin M (cInv x nm cl C σ (rds as.toList σ) ts.toList M) = .ok v M') : StepR C.P env (.call ⟨.invoke x nm, as, ts⟩) ty w (Gl X B w0 ρ M v M') := by
  obtain ⟨q, h1, h⟩ := fin_oe h
  obtain ⟨m, h2, h⟩ := fin_oe h
  obtain ⟨r, h3, h⟩ := fin_oe h
  have h4 := fin_c h
  have hx := rd_R hs x
  rw [ifcOf_some.1 h1] at hx
  obtain ⟨z, hx', hz⟩ := hx.ifc
  obtain ⟨i, m1, m2⟩ := ob_some.1 h2
  obtain ⟨mt, m3, m4⟩ := ob_some.1 m2
  obtain ⟨m5, m6⟩ := cond_some.1 m4
  have hm : ((C.P.info? q.1).bind (fun i => i.methods.find? (·.name == nm))).map (fun m => (m.path, m.func)) = some (#[], some (m.1, m.2)) := by
    have e1 : i.methods.find? (·.name == nm) = some mt := by
      have := findMt_some m3
      rw [← Array.find?_toList]
      exact this
    have e2 : mt.path = #[] := by simpa using m5
    rw [m1]
    simp [e1, e2, m6]
  obtain ⟨⟨fn, g1, g2, g3⟩, g4⟩ := hcl _ _ _ _ _ h4
  have hl := rds_R hs as.toList
  have fin : ∀ u, Rv ρ X r u → WG.Yenter C.P env (.call ⟨.invoke x nm, as, ts⟩) ty w m.1 (#[u] ++ (as.toList.map (WG.ev env)).toArray) → StepR C.P env (.call ⟨.invoke x nm, as, ts⟩) ty w (Gl X B w0 ρ M v M') := fun u hu hy => by
    refine .call m.1 _ hy ?_
    have := g4 ρ w (u :: as.toList.map (WG.ev env)) (.cons hu hl) hw
    have e : (#[u] ++ (as.toList.map (WG.ev env)).toArray) = (u :: as.toList.map (WG.ev env)).toArray := by
      apply Array.ext'
      simp
    rw [e]
    exact this
  obtain ⟨d, d1, d2⟩ := ob_some.1 h3
  cases hp : ptrD d with
  | some e =>
    rw [hp] at d2
    have hu : C.P.underlying q.1 = some (.pointer e) := by rw [d1, ptrD_some hp]
    cases hm2 : m.2 with
    | true =>
      rw [hm2] at d2 hm
      have d3 : some q.2 = some r := d2
      cases d3
      exact fin z hz (WG.Yenter.inv hx' hm hu g1 g2 g3 (args_arr as))
    | false =>
      rw [hm2] at d2 hm
      obtain ⟨p, d3, d4⟩ : ∃ p, ptrOf q.2 = some p ∧ (ob (objAt M p.1) fun l => partV C.P e p.2 l.1) = some r := by
        have d3 : oe (ptrOf q.2) none (fun p => ob (objAt M p.1) fun l => partV C.P e p.2 l.1) = some r := d2
        cases hpo : ptrOf q.2 with
        | none => rw [hpo] at d3; cases d3
        | some p => rw [hpo] at d3; exact ⟨p, rfl, d3⟩
      obtain ⟨l, d5, d6⟩ := ob_some.1 d4
      rw [ptrOf_some.1 d3] at hz
      obtain ⟨L, hL, rfl⟩ := hz.ptr
      obtain ⟨xs, c1, c2, _⟩ := hw.cells hL d5
      obtain ⟨u, k1, k2⟩ := loadVar_R (P := C.P) d6 c1 c2
      exact fin u k1 (WG.Yenter.invV hx' hm hu k2 g1 g2 g3 (args_arr as))
  | none =>
    rw [hp] at d2
    obtain ⟨d3, d4⟩ := condn_some.1 (show cond m.2 none (some q.2) = some r from d2)
    cases d4
    rw [d3] at hm
    refine fin z hz ?_
    obtain ⟨mt', hm1, hm2⟩ := Option.map_eq_some_iff.1 hm
    obtain ⟨i', hi, hm1⟩ := Option.bind_eq_some_iff.1 hm1
    injection hm2 with hp' hfn
    have hb' : ¬ fn.body = none := by cases h : fn.body <;> simp_all
    have hn' : ¬ fn.name = "runtime.NumGoroutine" := by simpa using g2
    have hmeth : ∀ k, (method (k + 1) q.1 z nm).run C.P w = .ok (m.1, z) w := fun k => by
      cases d <;> first | (cases hp; done) | (simp [method, typeInfo, hi, hm1, hp', hfn, follow, receiverAt, run_underlying d1, Place.get])
    show (execOp (WG.ev env) _).run C.P w = _
    rw [← args_arr]
    exact WG.run_inv hx' (hmeth _) g1 hn' hb'
/-- What one operation comes to. -/
theorem exO_R {o : Op} (hA : Args C X) (hg : Gb X B w0 C) (hcl : ClOk C.P X B w0 cl) (hs : SE ρ X σ env) (hw : Wd X B w0 ρ M w) (h : fin M (exO o cl C σ M) = .ok v M') : StepR C.P env o ty w (Gl X B w0 ρ M v M') := by
  cases o with
  | move x => exact s_move (cl := cl) hs hw h
  | assign x => exact s_assign (cl := cl) hs hw h
  | pick c a b => exact s_pick (cl := cl) hs hw h
  | alloc t => exact s_alloc (cl := cl) (σ := σ) hw h
  | box t x => exact s_box (cl := cl) hs hw h
  | build t ps => exact s_build (cl := cl) hs hw h
  | buildSlice t n ps => exact s_buildSlice (cl := cl) hs hw h
  | load t a => exact s_load (cl := cl) hg hs hw h
  | store t a x => exact s_store (cl := cl) hs hw h
  | nilCheck x => exact s_nilCheck (cl := cl) hs hw h
  | binOp op t x y u => exact s_binOp (cl := cl) hA hs hw h
  | unOp op t x => exact s_unOp (cl := cl) hs hw h
  | convert s d x => exact s_convert (cl := cl) hs hw h
  | makeInterface t x => exact s_makeInterface (cl := cl) hs hw h
  | makeFunc fn fs cs => exact s_makeFunc (cl := cl) hs hw h
  | makeMap t r => exact s_makeMap (cl := cl) hs hw h
  | makeSlice t n c => exact s_makeSlice (cl := cl) hs hw h
  | slice t x lo hi mx => exact s_slice (cl := cl) hs hw h
  | fieldAddr t x f => exact s_fieldAddr (cl := cl) hs hw h
  | field t x f => exact s_field (cl := cl) hs hw h
  | indexAddr t x i => exact s_indexAddr (cl := cl) hs hw h
  | index t x i => exact s_index (cl := cl) hs hw h
  | lookup t x i ok => exact s_lookup (cl := cl) hs hw h
  | mapUpdate t m k x => exact s_mapUpdate (cl := cl) hs hw h
  | mapEntry t m k => exact s_mapEntry (cl := cl) hs hw h
  | entryStore t m s x => exact s_entryStore (cl := cl) hs hw h
  | typeAssert x s d ok => exact s_typeAssert (cl := cl) hs hw h
  | extract x i => exact s_extract (cl := cl) hs hw h
  | call c =>
    obtain ⟨ca, as, ts⟩ := c
    cases ca with
    | value f => exact s_cval hcl hs hw h
    | invoke x nm => exact s_cinv hcl hs hw h
    | builtin b => exact s_bi hs hw h
  | _ => cases h
end
end Go.CE
