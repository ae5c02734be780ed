/- A region that draws its order: what an operation looks at; what is the same again; new objects whose numbers are set aside. -/
import Derived.Test.YtnlpmnegjgjiiaaGreatDoorEk
namespace Go.CE
open Go Go.RowKit
set_option linter.all false
/-- What an operation looks at. -/
noncomputable def opsC (c : Call) : List Operand := Callee.rec (fun f => f :: c.args.toList) (fun x _ => x :: c.args.toList) (fun _ => c.args.toList) c.callee
noncomputable def opsOf (o : Op) : List Operand := Op.rec (fun x => [x]) (fun x => [x]) (fun c a b => [c, a, b]) (fun _ => []) (fun _ x => [x]) (fun _ ps => mp Prod.snd ps.toList) (fun _ _ ps => mp Prod.snd ps.toList) (fun _ _ _ _ => []) (fun _ a => [a]) (fun _ a x => [a, x])
  (fun _ => []) (fun _ => []) (fun x => [x]) (fun _ _ x y _ => [x, y]) (fun _ _ x => [x]) (fun _ _ x => [x]) (fun _ _ => []) (fun _ x => [x]) (fun _ fs cs => app fs.toList cs.toList) (fun _ r => oe r [] fun x => [x]) (fun _ _ => []) (fun _ n c => [n, c])
  (fun _ x lo hi mx => x :: app (oe lo [] fun x => [x]) (app (oe hi [] fun x => [x]) (oe mx [] fun x => [x]))) (fun _ x _ => [x]) (fun _ x _ => [x]) (fun _ x i => [x, i]) (fun _ x i => [x, i]) (fun _ x i _ => [x, i]) (fun _ m k v => [m, k, v]) (fun _ m k => [m, k]) (fun _ m s v => [m, s, v])
  (fun _ _ => []) (fun _ _ => []) (fun _ => []) (fun x _ _ _ => [x]) (fun x _ => [x]) opsC (fun _ => []) (fun _ => []) (fun _ => []) (fun _ _ => []) (fun _ _ _ => []) (fun _ _ => []) o
section
variable {C : Cfg} {cl : CallF} {X : Nat → Value} {B : Nat} {w0 w w1 : World} {ρ ρ' : Rh} {M M' : Mem} {σ σ' : Sl} {env : WG.Env} {ty : TypeId} {v : V} {x : Value} {P : Program} {h : Nat}
theorem rds_slots : ∀ {l : List Operand}, (∀ x ∈ l, rd x σ = rd x σ') → rds l σ = rds l σ' := by
  intro l h
  unfold rds
  rw [mp_eq, mp_eq]
  exact List.map_congr_left fun x hx => h x hx
theorem fill_slots {pl : Nat → Option (Nat × Nat)} : ∀ {ps : List (Nat × Operand)} {z : List V}, (∀ p ∈ ps, rd p.2 σ = rd p.2 σ') → fill pl ps σ z = fill pl ps σ' z := by
  intro ps
  induction ps with
  | nil => intro z _; rfl
  | cons p ps ih =>
    intro z h
    show (ob (pl p.1) fun q => ob (cells (rd p.2 σ)) fun cs => cond (Nat.beq (len cs) q.2) (ob (put q.1 cs z) fun z' => fill pl ps σ z') none) = (ob (pl p.1) fun q => ob (cells (rd p.2 σ')) fun cs => cond (Nat.beq (len cs) q.2) (ob (put q.1 cs z) fun z' => fill pl ps σ' z') none)
    rw [h p List.mem_cons_self]
    congr 1
    funext q
    congr 1
    funext cs
    congr 1
    congr 1
    funext z'
    exact ih fun p hp => h p (List.mem_cons_of_mem _ hp)
theorem bnd_slots {q : Option Operand} (h : ∀ x ∈ (oe q [] fun x => [x] : List Operand), rd x σ = rd x σ') : bnd q σ = bnd q σ' := by
  cases q with
  | none => rfl
  | some x =>
    show some (natOf (rd x σ)) = some (natOf (rd x σ'))
    rw [h x (by simp [oe])]
/-- An operation looks at nothing else. -/
theorem exO_slots {o : Op} (h : ∀ x ∈ opsOf o, rd x σ = rd x σ') : exO o cl C σ M = exO o cl C σ' M := by
  cases o with
  | move x => show x_move x cl C σ M = x_move x cl C σ' M; unfold x_move; rw [h x (by simp [opsOf])]
  | assign x => show x_assign x cl C σ M = x_assign x cl C σ' M; unfold x_assign; rw [h x (by simp [opsOf])]
  | pick c a b => show x_pick c a b cl C σ M = x_pick c a b cl C σ' M; unfold x_pick; rw [h c (by simp [opsOf]), h a (by simp [opsOf]), h b (by simp [opsOf])]
  | box t x => show x_box t x cl C σ M = x_box t x cl C σ' M; unfold x_box; rw [h x (by simp [opsOf])]
  | build t ps =>
    have hp : ∀ p ∈ ps.toList, rd p.2 σ = rd p.2 σ' := fun p hp => h p.2 (by
      show p.2 ∈ mp Prod.snd ps.toList
      rw [mp_eq]
      exact List.mem_map_of_mem hp)
    show x_build t ps cl C σ M = x_build t ps cl C σ' M
    unfold x_build
    congr 2
    funext z
    congr 1
    funext pl
    rw [fill_slots hp]
  | buildSlice t n ps =>
    have hp : ∀ p ∈ ps.toList, rd p.2 σ = rd p.2 σ' := fun p hp => h p.2 (by
      show p.2 ∈ mp Prod.snd ps.toList
      rw [mp_eq]
      exact List.mem_map_of_mem hp)
    show x_buildSlice t n ps cl C σ M = x_buildSlice t n ps cl C σ' M
    unfold x_buildSlice
    congr 2
    funext e
    congr 1
    funext z
    rw [fill_slots hp]
  | load t a => show x_load t a cl C σ M = x_load t a cl C σ' M; unfold x_load; rw [h a (by simp [opsOf])]
  | store t a x => show x_store t a x cl C σ M = x_store t a x cl C σ' M; unfold x_store; rw [h a (by simp [opsOf]), h x (by simp [opsOf])]
  | nilCheck x => show x_nilCheck x cl C σ M = x_nilCheck x cl C σ' M; unfold x_nilCheck; rw [h x (by simp [opsOf])]
  | binOp op t x y u => show x_binOp op t x y u cl C σ M = x_binOp op t x y u cl C σ' M; unfold x_binOp; rw [h x (by simp [opsOf]), h y (by simp [opsOf])]
  | unOp op t x => show x_unOp op t x cl C σ M = x_unOp op t x cl C σ' M; unfold x_unOp; rw [h x (by simp [opsOf])]
  | convert s d x => show x_convert s d x cl C σ M = x_convert s d x cl C σ' M; unfold x_convert; rw [h x (by simp [opsOf])]
  | makeInterface t x => show x_makeInterface t x cl C σ M = x_makeInterface t x cl C σ' M; unfold x_makeInterface; rw [h x (by simp [opsOf])]
  | makeFunc fn fs cs =>
    have h1 : rds fs.toList σ = rds fs.toList σ' := rds_slots fun x hx => h x (by show x ∈ app fs.toList cs.toList; rw [app_eq]; exact List.mem_append_left _ hx)
    have h2 : rds cs.toList σ = rds cs.toList σ' := rds_slots fun x hx => h x (by show x ∈ app fs.toList cs.toList; rw [app_eq]; exact List.mem_append_right _ hx)
    show x_makeFunc fn fs cs cl C σ M = x_makeFunc fn fs cs cl C σ' M; unfold x_makeFunc; rw [h1, h2]
  | makeMap t r =>
    cases r with
    | none => rfl
    | some x => show x_makeMap t (some x) cl C σ M = x_makeMap t (some x) cl C σ' M; unfold x_makeMap; simp only [oe]; rw [h x (by simp [opsOf, oe])]
  | makeSlice t n c => show x_makeSlice t n c cl C σ M = x_makeSlice t n c cl C σ' M; unfold x_makeSlice; rw [h n (by simp [opsOf]), h c (by simp [opsOf])]
  | slice t x lo hi mx =>
    have hm : ∀ y, y ∈ opsOf (.slice t x lo hi mx) ↔ y = x ∨ y ∈ (oe lo [] fun x => [x] : List Operand) ∨ y ∈ (oe hi [] fun x => [x] : List Operand) ∨ y ∈ (oe mx [] fun x => [x] : List Operand) := fun y => by
      show y ∈ x :: app _ (app _ _) ↔ _
      rw [app_eq, app_eq]
      simp
    show x_slice t x lo hi mx cl C σ M = x_slice t x lo hi mx cl C σ' M
    unfold x_slice
    rw [h x ((hm x).2 (.inl rfl)), bnd_slots (q := lo) fun y hy => h y ((hm y).2 (.inr (.inl hy))), bnd_slots (q := hi) fun y hy => h y ((hm y).2 (.inr (.inr (.inl hy)))), bnd_slots (q := mx) fun y hy => h y ((hm y).2 (.inr (.inr (.inr hy))))]
  | fieldAddr t x f => show x_fieldAddr t x f cl C σ M = x_fieldAddr t x f cl C σ' M; unfold x_fieldAddr; rw [h x (by simp [opsOf])]
  | field t x f => show x_field t x f cl C σ M = x_field t x f cl C σ' M; unfold x_field; rw [h x (by simp [opsOf])]
  | indexAddr t x i => show x_indexAddr t x i cl C σ M = x_indexAddr t x i cl C σ' M; unfold x_indexAddr; rw [h x (by simp [opsOf]), h i (by simp [opsOf])]
  | index t x i => show x_index t x i cl C σ M = x_index t x i cl C σ' M; unfold x_index; rw [h x (by simp [opsOf]), h i (by simp [opsOf])]
  | lookup t x i ok => show x_lookup t x i ok cl C σ M = x_lookup t x i ok cl C σ' M; unfold x_lookup; rw [h x (by simp [opsOf]), h i (by simp [opsOf])]
  | mapUpdate t m k v => show x_mapUpdate t m k v cl C σ M = x_mapUpdate t m k v cl C σ' M; unfold x_mapUpdate; rw [h m (by simp [opsOf]), h k (by simp [opsOf]), h v (by simp [opsOf])]
  | mapEntry t m k => show x_mapEntry t m k cl C σ M = x_mapEntry t m k cl C σ' M; unfold x_mapEntry; rw [h m (by simp [opsOf]), h k (by simp [opsOf])]
  | entryStore t m s v => show x_entryStore t m s v cl C σ M = x_entryStore t m s v cl C σ' M; unfold x_entryStore; rw [h m (by simp [opsOf]), h s (by simp [opsOf]), h v (by simp [opsOf])]
  | typeAssert x s d ok => show x_typeAssert x s d ok cl C σ M = x_typeAssert x s d ok cl C σ' M; unfold x_typeAssert; rw [h x (by simp [opsOf])]
  | extract x i => show x_extract x i cl C σ M = x_extract x i cl C σ' M; unfold x_extract; rw [h x (by simp [opsOf])]
  | call c =>
    obtain ⟨ca, as, ts⟩ := c
    cases ca with
    | value f =>
      have hm : ∀ y ∈ f :: as.toList, rd y σ = rd y σ' := fun y hy => h y hy
      show cVal f cl C σ (rds as.toList σ) ts.toList M = cVal f cl C σ' (rds as.toList σ') ts.toList M
      unfold cVal
      rw [hm f List.mem_cons_self, rds_slots fun y hy => hm y (List.mem_cons_of_mem _ hy)]
    | invoke x nm =>
      have hm : ∀ y ∈ x :: as.toList, rd y σ = rd y σ' := fun y hy => h y hy
      show cInv x nm cl C σ (rds as.toList σ) ts.toList M = cInv x nm cl C σ' (rds as.toList σ') ts.toList M
      unfold cInv
      rw [hm x List.mem_cons_self, rds_slots fun y hy => hm y (List.mem_cons_of_mem _ hy)]
    | builtin b =>
      have hm : ∀ y ∈ as.toList, rd y σ = rd y σ' := fun y hy => h y hy
      show biOf b C.P ts.toList (rds as.toList σ) M = biOf b C.P ts.toList (rds as.toList σ') M
      rw [rds_slots hm]
  | _ => rfl
/-! More objects. -/
def Ext (M M' : Mem) : Prop := ∀ r ob, M.T.get r = some ob → M'.T.get r = some ob
theorem Ext.new (M : Mem) {n : Nat} (h : M.T.get M.nx = none) (b : Ob) : Ext M ⟨M.T.set M.nx b, n⟩ := fun r ob hr => by
  show (M.T.set M.nx b).get r = _
  rw [Tr.get_set, if_neg (fun e => by subst e; rw [h] at hr; cases hr)]
  exact hr
theorem objAt_ext (he : Ext M M') {r : Nat} {q : List V × Bool} (h : objAt M r = some q) : objAt M' r = some q := by
  have := he _ _ (objAt_some h)
  unfold objAt
  rw [this]
  rfl
theorem mapAt_ext (he : Ext M M') {r : Nat} {q : En × Nat} (h : mapAt M r = some q) : mapAt M' r = some q := by
  have := he _ _ (mapAt_some h)
  unfold mapAt
  rw [this]
  rfl
theorem ob_ext {α β : Type} {q q' : Option α} {f f' : α → Option β} {r : β} (h : ob q f = some r) (hq : ∀ a, q = some a → q' = some a) (hf : ∀ a, f a = some r → f' a = some r) : ob q' f' = some r := by
  obtain ⟨a, h1, h2⟩ := ob_some.1 h
  rw [hq a h1]
  exact hf a h2
/-- It neither does anything nor goes wrong. -/
def light : Out → Prop
  | .c _ => False
  | _ => True
theorem lt_light {q : Option V} (h : light (lt q)) : ∃ v, q = some v := by
  cases q with
  | none => exact h.elim
  | some v => exact ⟨v, rfl⟩
theorem lt_ext {q q' : Option V} (h : light (lt q)) (k : ∀ v, q = some v → q' = some v) : lt q' = lt q := by
  obtain ⟨v, hv⟩ := lt_light h
  rw [k v hv, hv]
theorem oe_light {α : Type} {q : Option α} {f : α → Out} (h : light (oe q no f)) : ∃ a, q = some a ∧ light (f a) := by
  cases q with
  | none => exact h.elim
  | some a => exact ⟨a, rfl, h⟩
theorem cond_light {b : Bool} {x : Out} (h : light (cond b x no)) : b = true ∧ light x := by
  cases b with
  | true => exact ⟨rfl, h⟩
  | false => exact h.elim
theorem exO_ext {o : Op} (he : Ext M M') (h : light (exO o cl C σ M)) : exO o cl C σ M' = exO o cl C σ M := by
  cases o with
  | load t a =>
    refine lt_ext h fun v hv => ?_
    unfold loadV at hv ⊢
    cases hp : ptrOf (rd a σ) with
    | some q =>
      rw [hp] at hv
      exact ob_ext (show (ob (objAt M q.1) fun l => partV C.P t q.2 l.1) = some v from hv) (fun _ => objAt_ext he) (fun _ h => h)
    | none => rw [hp] at hv; exact hv
  | lookup t x i ok =>
    refine lt_ext h fun v hv => ?_
    unfold lookupV at hv ⊢
    refine ob_ext hv (fun _ h => h) fun q hq => ob_ext hq (fun f hf => ?_) (fun _ h => h)
    cases hm : isMn (rd x σ) with
    | true => rw [hm] at hf; exact hf
    | false =>
      rw [hm] at hf
      exact ob_ext (show (ob (mapOf (rd x σ)) fun r => ob (mapAt M r) fun p => findK q.1 (rd i σ) p.1 0) = some f from hf) (fun _ h => h) fun r hr => ob_ext hr (fun _ => mapAt_ext he) (fun _ h => h)
  | convert s d x =>
    have h' : light (oe (C.P.underlying d) no fun dd => cond (strD dd) (lt (convS C.P s (rd x σ) M)) (oe (intD dd) (hv M (mkO (convB C.P s d (rd x σ)))) fun k => lt (cond (oe (C.P.underlying s) false fun _ => true) (convI k (rd x σ)) none))) := h
    show (oe (C.P.underlying d) no fun dd => cond (strD dd) (lt (convS C.P s (rd x σ) M')) (oe (intD dd) (hv M' (mkO (convB C.P s d (rd x σ)))) fun k => lt (cond (oe (C.P.underlying s) false fun _ => true) (convI k (rd x σ)) none))) = (oe (C.P.underlying d) no fun dd => cond (strD dd) (lt (convS C.P s (rd x σ) M)) (oe (intD dd) (hv M (mkO (convB C.P s d (rd x σ)))) fun k => lt (cond (oe (C.P.underlying s) false fun _ => true) (convI k (rd x σ)) none)))
    obtain ⟨dd, hd, h2⟩ := oe_light h'
    rw [hd]
    show cond (strD dd) (lt (convS C.P s (rd x σ) M')) (oe (intD dd) (hv M' (mkO (convB C.P s d (rd x σ)))) fun k => lt (cond (oe (C.P.underlying s) false fun _ => true) (convI k (rd x σ)) none)) = cond (strD dd) (lt (convS C.P s (rd x σ) M)) (oe (intD dd) (hv M (mkO (convB C.P s d (rd x σ)))) fun k => lt (cond (oe (C.P.underlying s) false fun _ => true) (convI k (rd x σ)) none))
    cases hs : strD dd with
    | true =>
      rw [hs] at h2
      refine lt_ext h2 fun v hv => ?_
      unfold convS at hv ⊢
      cases hx : strOf (rd x σ) with
      | some l => rw [hx] at hv; exact hv
      | none =>
        rw [hx] at hv
        obtain ⟨h3, h4⟩ := cond_some.1 (show cond (isBs C.P s) (cond (isLn (rd x σ)) (some (V.s [])) (ob (slcOf (rd x σ)) fun q => ob (cellsAt M q.r q.o q.n) fun l => ob (bytesOf l) fun b => some (.s b))) none = some v from hv)
        refine cond_some.2 ⟨h3, ?_⟩
        cases hn : isLn (rd x σ) with
        | true => rw [hn] at h4; exact h4
        | false =>
          rw [hn] at h4
          exact ob_ext (show (ob (slcOf (rd x σ)) fun q => ob (cellsAt M q.r q.o q.n) fun l => ob (bytesOf l) fun b => some (V.s b)) = some v from h4) (fun _ h => h) fun q hq => ob_ext hq (fun l hl => ob_ext (show (ob (objAt M q.r) fun c => tk q.n (drp q.o c.1)) = some l from hl) (fun _ => objAt_ext he) (fun _ h => h)) (fun _ h => h)
    | false =>
      rw [hs] at h2
      cases hi : intD dd with
      | some k => rfl
      | none =>
        have h3 : light (oe (intD dd) (hv M (mkO (convB C.P s d (rd x σ)))) fun k => lt (cond (oe (C.P.underlying s) false fun _ => true) (convI k (rd x σ)) none)) := h2
        rw [hi] at h3
        exact h3.elim
  | call c =>
    obtain ⟨ca, as, ts⟩ := c
    cases ca with
    | value f =>
      obtain ⟨F, _, h2⟩ := oe_light (show light (oe (fncOf (rd f σ)) no fun f => .c (cl f.f (app f.a (app (rds as.toList σ) f.c)) M)) from h)
      exact h2.elim
    | invoke x nm =>
      obtain ⟨q, _, h2⟩ := oe_light (show light (oe (ifcOf (rd x σ)) no fun q => oe (methOf C.P q.1 nm) no fun m => oe (recvV C q.1 q.2 m.2 M) no fun r => .c (cl m.1 (r :: rds as.toList σ) M)) from h)
      obtain ⟨m, _, h3⟩ := oe_light h2
      obtain ⟨r, _, h4⟩ := oe_light h3
      exact h4.elim
    | builtin b =>
      cases b with
      | append => exact h.elim
      | clear => exact h.elim
      | copy =>
        exfalso
        have h' : light (two (rds as.toList σ) fun a b => copyV C.P ts.toList a b M) := h
        obtain ⟨a, _, h1⟩ := oe_light h'
        obtain ⟨b, _, h2⟩ := oe_light h1
        obtain ⟨t, _, h3⟩ := oe_light h2
        obtain ⟨e, _, h4⟩ := oe_light h3
        obtain ⟨n, _, h5⟩ := oe_light h4
        obtain ⟨m, _, h6⟩ := oe_light h5
        revert h6
        cases Nat.beq (Nat.min m n) 0 <;> exact id
      | len =>
        refine lt_ext (q := ob (nth ts.toList 0) fun t => ob (nth (rds as.toList σ) 0) fun x => ob (lenW C.P t x M) fun n => some (.i .i64 (.ofNat n))) h fun v hv => ?_
        refine ob_ext hv (fun _ h => h) fun t ht => ob_ext ht (fun _ h => h) fun a ha => ob_ext ha (fun n hn => ?_) (fun _ h => h)
        refine ob_ext hn (fun _ h => h) fun d hd => ?_
        cases hs : strD d with
        | true => rw [hs] at hd; exact hd
        | false =>
          rw [hs] at hd
          show oe (elemD d) (oe (arrD d) (ob (mapD d) fun _ => cond (isMn a) (some 0) (ob (mapOf a) fun r => ob (mapAt M' r) fun p => some (len p.1))) fun q => some q.1) (fun _ => cond (isLn a) (some 0) (ob (slcOf a) fun s => some s.n)) = some n
          have hd' : oe (elemD d) (oe (arrD d) (ob (mapD d) fun _ => cond (isMn a) (some 0) (ob (mapOf a) fun r => ob (mapAt M r) fun p => some (len p.1))) fun q => some q.1) (fun _ => cond (isLn a) (some 0) (ob (slcOf a) fun s => some s.n)) = some n := hd
          cases hel : elemD d with
          | some e => rw [hel] at hd'; exact hd'
          | none =>
            rw [hel] at hd'
            show oe (arrD d) (ob (mapD d) fun _ => cond (isMn a) (some 0) (ob (mapOf a) fun r => ob (mapAt M' r) fun p => some (len p.1))) (fun q => some q.1) = some n
            have hd2 : oe (arrD d) (ob (mapD d) fun _ => cond (isMn a) (some 0) (ob (mapOf a) fun r => ob (mapAt M r) fun p => some (len p.1))) (fun q => some q.1) = some n := hd'
            cases har : arrD d with
            | some q => rw [har] at hd2; exact hd2
            | none =>
              rw [har] at hd2
              refine ob_ext (show (ob (mapD d) fun _ => cond (isMn a) (some 0) (ob (mapOf a) fun r => ob (mapAt M r) fun p => some (len p.1))) = some n from hd2) (fun _ h => h) fun _ hc => ?_
              cases hm : isMn a with
              | true => rw [hm] at hc; exact hc
              | false =>
                rw [hm] at hc
                exact ob_ext (show (ob (mapOf a) fun r => ob (mapAt M r) fun p => some (len p.1)) = some n from hc) (fun _ h => h) fun r hr => ob_ext hr (fun _ => mapAt_ext he) (fun _ h => h)
      | cap => rfl
      | max => rfl
      | min => rfl
      | _ => rfl
  | store t a x =>
    exfalso
    revert h
    show light (okM _ _) → False
    exact id
  | mapUpdate t m k v =>
    exfalso
    revert h
    show light (okM _ _) → False
    exact id
  | mapEntry t m k =>
    exfalso
    revert h
    show light (lc _) → False
    exact id
  | entryStore t m s v =>
    exfalso
    revert h
    show light (okM _ _) → False
    exact id
  | _ => rfl
end
end Go.CE
