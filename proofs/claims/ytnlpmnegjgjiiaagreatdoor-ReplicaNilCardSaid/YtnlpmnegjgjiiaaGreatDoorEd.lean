/- What one operation comes to: those that make nothing and write nothing. -/
import Derived.Test.YtnlpmnegjgjiiaaGreatDoorEc
namespace Go.CE
open Go Go.RowKit
set_option linter.all false
/-- The slots. -/
def SE (ρ : Rh) (X : Nat → Value) (σ : Sl) (env : WG.Env) : Prop := ∀ t, Rv ρ X (rdT t σ) (env t)
/-- The globals that are read. -/
def Gb (X : Nat → Value) (B : Nat) (w0 : World) (C : Cfg) : Prop := ∀ g, C.G g ≠ [] → g < B ∧ ∃ xs, Cs (fun _ => none) X (C.G g) xs ∧ w0.rangeAt g 0 xs
/-- What an operation does: a value, nothing, a call. -/
inductive StepR (P : Program) (env : WG.Env) (op : Op) (ty : TypeId) (w : World) (Q : Value → World → Prop) : Prop
  | val (v : Value) (w' : World) (h : WG.Yl P env op ty w v w') (k : Q v w')
  | skip (w' : World) (h : WG.Yskip P env op ty w w') (k : Q undef w')
  | call (f : FuncId) (args : Array Value) (h : WG.Yenter P env op ty w f args) (hc : Calls P f args w fun e w'' => ∃ v, e = .returned v ∧ Q v w'')
/-- The value is told by v, and the memory by M'. -/
def Gl (X : Nat → Value) (B : Nat) (w0 : World) (ρ : Rh) (M : Mem) (v : V) (M' : Mem) (y : Value) (w' : World) : Prop := ∃ ρ', Rv ρ' X v y ∧ Post X B w0 ρ M ρ' M' w'
theorem aggD_eq (d : TypeDesc) : aggD d = WG.aggD d := by cases d <;> rfl
theorem aggD_row {d : TypeDesc} (h : aggD d = true) : d.isRow = true := by cases d <;> first | rfl | cases h
section
variable {C : Cfg} {cl : CallF} {X : Nat → Value} {B : Nat} {w0 w w' : World} {ρ : Rh} {M M' : Mem} {σ : Sl} {env : WG.Env} {ty : TypeId} {v : V} {y : Value} {P : Program}
theorem rd_R (h : SE ρ X σ env) (x : Operand) : Rv ρ X (rd x σ) (WG.ev env x) := by
  cases x with
  | tmp t => exact h t
  | const v => exact ofV_R v
  | global g => exact .g g 0
  | func f => exact .f f [] [] [] [] rfl rfl (fun i v x h => by simp at h) (fun i v x h => by simp at h)
theorem rds_R (h : SE ρ X σ env) (l : List Operand) : RL ρ X (rds l σ) (l.map (WG.ev env)) := by
  unfold rds
  rw [mp_eq]
  exact RL.map l fun x _ => rd_R h x
theorem pureS {op : Op} (hw : Wd X B w0 ρ M w) (hM : M' = M) (hy : WG.Yl P env op ty w y w) (hr : Rv ρ X v y) : StepR P env op ty w (Gl X B w0 ρ M v M') := by
  subst hM
  exact .val y w hy ⟨ρ, hr, Post.refl hw⟩
/-! Parts. -/
theorem partV_at {t o : Nat} {l : List V} {xs : List Value} (h : partV P t o l = some v) (hc : Cs ρ X l xs) :
    ∃ d, P.underlying t = some d ∧ ((aggD d = true ∧ ∃ ys, (P.info? t).map (·.size) = some ys.length ∧ (xs.drop o).take ys.length = ys ∧ Rv ρ X v (.agg ys.toArray)) ∨ (aggD d = false ∧ ∃ y, xs[o]? = some y ∧ Rv ρ X v y)) := by
  obtain ⟨a, h1, h2⟩ := ob_some.1 h
  obtain ⟨d, h3, h4⟩ := ob_some.1 h1
  cases h4
  refine ⟨d, h3, ?_⟩
  cases hd : aggD d with
  | true =>
    rw [hd] at h2
    left
    obtain ⟨n, h5, h6⟩ := ob_some.1 (show (ob (sz P t) fun n => ob (tk n (drp o l)) fun l => some (V.a l)) = some v from h2)
    obtain ⟨l', h7, h8⟩ := ob_some.1 h6
    cases h8
    rw [drp_eq] at h7
    obtain ⟨rfl, h9⟩ := tk_some h7
    have hlen : ((xs.drop o).take n).length = n := by
      rw [List.length_take, ← (hc.drop o).len]; omega
    exact ⟨rfl, (xs.drop o).take n, by rw [hlen]; exact sz_some h5, by rw [hlen], Rv.agg_mk ((hc.drop o).take n)⟩
  | false =>
    rw [hd] at h2
    right
    have h5 : nth l o = some v := h2
    rw [nth_eq] at h5
    obtain ⟨y, h6, h7⟩ := hc.get h5
    exact ⟨rfl, y, h6, h7⟩
theorem part_R {t o : Nat} {l : List V} {xs : List Value} (h : partV P t o l = some v) (hc : Cs ρ X l xs) : ∃ y, Rv ρ X v y ∧ ∀ w : World, (part t xs.toArray o).run P w = .ok y w := by
  obtain ⟨d, hd, h1 | h1⟩ := partV_at h hc
  · obtain ⟨ha, ys, h2, h3, h4⟩ := h1
    exact ⟨_, h4, WG.PartE.agg hd (by rw [← aggD_eq]; exact ha) h2 h3⟩
  · obtain ⟨ha, y, h2, h3⟩ := h1
    exact ⟨_, h3, WG.PartE.one hd (by rw [← aggD_eq]; exact ha) h2⟩
theorem loadVar_R {t o b f : Nat} {l : List V} {xs : List Value} (h : partV P t o l = some v) (hc : Cs ρ X l xs) (hr : w.rangeAt b f xs) : ∃ y, Rv ρ X v y ∧ (loadVar t ⟨b, f + o, none⟩).run P w = .ok y w := by
  obtain ⟨d, hd, h1 | h1⟩ := partV_at h hc
  · obtain ⟨ha, ys, h2, h3, h4⟩ := h1
    refine ⟨_, h4, run_loadVar_mid w b (f + o) t ys d ?_ hd (aggD_row ha) h2⟩
    rw [← h3]
    exact World.rangeAt.take (World.rangeAt.drop hr o) _
  · obtain ⟨ha, y, h2, h3⟩ := h1
    exact ⟨_, h3, WG.run_loadVar_one hd (by rw [← aggD_eq]; exact ha) _ (hr o y h2)⟩
theorem glob_at (hg : Gb X B w0 C) (hw : Wd X B w0 ρ M w) {g : Nat} (h : C.G g ≠ []) : ∃ xs, Cs ρ X (C.G g) xs ∧ w.rangeAt g 0 xs := by
  obtain ⟨h1, xs, h2, h3⟩ := hg g h
  refine ⟨xs, h2.mono (fun r L hr => by cases hr), fun j v hj => ?_⟩
  rw [← h3 j v hj]
  exact World.cell?_of_block (hw.low.block g h1)
/-- What is loaded. -/
theorem loadV_R (hg : Gb X B w0 C) (hw : Wd X B w0 ρ M w) {t : Nat} {a : V} (h : loadV C t a M = some v) (ha : Rv ρ X a y) :
    ∃ ad, y = .pointer (some ad) ∧ ∃ z, Rv ρ X v z ∧ (loadVar t ad).run C.P w = .ok z w := by
  unfold loadV at h
  cases hp : ptrOf a with
  | some q =>
    rw [hp] at h
    obtain ⟨l, h1, h2⟩ := ob_some.1 (show (ob (objAt M q.1) fun l => partV C.P t q.2 l.1) = some v from h)
    rw [ptrOf_some.1 hp] at ha
    obtain ⟨L, hL, rfl⟩ := ha.ptr
    obtain ⟨xs, k1, k2, _⟩ := hw.cells hL h1
    exact ⟨_, rfl, loadVar_R h2 k1 k2⟩
  | none =>
    rw [hp] at h
    obtain ⟨q, h1, h2⟩ := ob_some.1 (show (ob (glbOf a) fun q => partV C.P t q.2 (C.G q.1)) = some v from h)
    rw [glbOf_some.1 h1] at ha
    obtain rfl := ha.glb
    refine ⟨_, rfl, ?_⟩
    by_cases he : C.G q.1 = []
    · rw [he] at h2
      have h3 := loadVar_R (P := C.P) (w := w) (b := q.1) (f := 0) (ρ := ρ) (X := X) (xs := []) h2 Cs.nil (fun j v hj => by simp at hj)
      simpa using h3
    · obtain ⟨xs, k1, k2⟩ := glob_at hg hw he
      have h3 := loadVar_R (P := C.P) (w := w) h2 k1 k2
      simpa using h3
/-! The operations. -/
theorem s_move {x : Operand} (hs : SE ρ X σ env) (hw : Wd X B w0 ρ M w) (h : fin M (x_move x cl C σ M) = .ok v M') : StepR C.P env (.move x) ty w (Gl X B w0 ρ M v M') := by
  obtain ⟨h1, h2⟩ := fin_lt h
  cases h1
  exact pureS hw h2 (WG.Yl.move rfl) (rd_R hs x)
theorem s_assign {x : Operand} (hs : SE ρ X σ env) (hw : Wd X B w0 ρ M w) (h : fin M (x_assign x cl C σ M) = .ok v M') : StepR C.P env (.assign x) ty w (Gl X B w0 ρ M v M') := by
  obtain ⟨h1, h2⟩ := fin_lt h
  cases h1
  exact pureS hw h2 (WG.Yl.assign rfl) (rd_R hs x)
theorem s_pick {c a b : Operand} (hs : SE ρ X σ env) (hw : Wd X B w0 ρ M w) (h : fin M (x_pick c a b cl C σ M) = .ok v M') : StepR C.P env (.pick c a b) ty w (Gl X B w0 ρ M v M') := by
  obtain ⟨h1, h2⟩ := fin_lt h
  obtain ⟨t, h3, h4⟩ := ob_some.1 h1
  cases h4
  have hc := rd_R hs c
  rw [boolOf_some.1 h3] at hc
  cases t with
  | true => exact pureS hw h2 (WG.Yl.pickT hc.bool rfl) (rd_R hs a)
  | false => exact pureS hw h2 (WG.Yl.pickF hc.bool rfl) (rd_R hs b)
theorem s_load {t : Nat} {a : Operand} (hg : Gb X B w0 C) (hs : SE ρ X σ env) (hw : Wd X B w0 ρ M w) (h : fin M (x_load t a cl C σ M) = .ok v M') : StepR C.P env (.load t a) ty w (Gl X B w0 ρ M v M') := by
  obtain ⟨h1, h2⟩ := fin_lt h
  obtain ⟨ad, h3, z, h4, h5⟩ := loadV_R hg hw h1 (rd_R hs a)
  refine pureS hw h2 ?_ h4
  show (execOp (WG.ev env) _).run C.P w = _
  simp [execOp, h3, Instr.loadAt, Instr.sureAddr, h5]
theorem s_nilCheck {x : Operand} (hs : SE ρ X σ env) (hw : Wd X B w0 ρ M w) (h : fin M (x_nilCheck x cl C σ M) = .ok v M') : StepR C.P env (.nilCheck x) ty w (Gl X B w0 ρ M v M') := by
  obtain ⟨h1, h2⟩ := fin_lt h
  obtain ⟨h3, h4⟩ := cond_some.1 h1
  cases h4
  have hr := rd_R hs x
  have key : ∀ a b, Rv ρ X a b → isOn a = true → ∀ x : Operand, WG.ev env x = b → WG.Yl C.P env (.nilCheck x) ty w b w := by
    intro a b hr ho x hx
    show (execOp (WG.ev env) _).run C.P w = _
    cases hr <;> first | (cases ho; done) | (simp [execOp, hx])
  exact pureS hw h2 (key _ _ hr h3 x rfl) hr
theorem s_unOp {op : UnOp} {t : Nat} {x : Operand} (hs : SE ρ X σ env) (hw : Wd X B w0 ρ M w) (h : fin M (x_unOp op t x cl C σ M) = .ok v M') : StepR C.P env (.unOp op t x) ty w (Gl X B w0 ρ M v M') := by
  obtain ⟨h1, h2⟩ := fin_lt h
  have hr := rd_R hs x
  cases op with
  | neg =>
    obtain ⟨q, h3, h4⟩ := ob_some.1 (show uNeg (rd x σ) = some v from h1)
    cases h4
    rw [intOf_some.1 h3] at hr
    rw [intK_eq]
    exact pureS hw h2 (WG.Yl.neg hr.int rfl) (.i _ _)
  | not =>
    obtain ⟨q, h3, h4⟩ := ob_some.1 (show uNot (rd x σ) = some v from h1)
    cases h4
    rw [boolOf_some.1 h3] at hr
    exact pureS hw h2 (WG.Yl.not hr.bool rfl) (.b _)
  | _ => cases h1
theorem fieldOf_some {t f : Nat} {q : Field} (h : fieldOf P t f = some q) : ∃ fs : Array Field, P.underlying t = some (.struct fs) ∧ fs[f]? = some q := by
  obtain ⟨d, h1, h2⟩ := ob_some.1 h
  obtain ⟨fs, h3, h4⟩ := ob_some.1 h2
  rw [nth_eq] at h4
  exact ⟨fs.toArray, by rw [h1, fieldsD_some h3], by simpa using h4⟩
theorem moveP_R {a v : V} {k : Nat} {y : Value} (h : moveP a k = some v) (ha : Rv ρ X a y) : ∃ b off, y = .pointer (some ⟨b, off, none⟩) ∧ Rv ρ X v (.pointer (some ⟨b, off + k, none⟩)) := by
  unfold moveP at h
  cases hp : ptrOf a with
  | some q =>
    rw [hp] at h
    have h' : some (V.p q.1 (Nat.add q.2 k)) = some v := h
    cases h'
    rw [ptrOf_some.1 hp] at ha
    obtain ⟨L, hL, rfl⟩ := ha.ptr
    exact ⟨_, _, rfl, by rw [Nat.add_assoc]; exact .p _ _ L hL⟩
  | none =>
    rw [hp] at h
    obtain ⟨q, h1, h2⟩ := ob_some.1 (show (ob (glbOf a) fun q => some (V.g q.1 (Nat.add q.2 k))) = some v from h)
    cases h2
    rw [glbOf_some.1 h1] at ha
    obtain rfl := ha.glb
    exact ⟨_, _, rfl, .g _ _⟩
theorem s_fieldAddr {t f : Nat} {x : Operand} (hs : SE ρ X σ env) (hw : Wd X B w0 ρ M w) (h : fin M (x_fieldAddr t x f cl C σ M) = .ok v M') : StepR C.P env (.fieldAddr t x f) ty w (Gl X B w0 ρ M v M') := by
  obtain ⟨h1, h2⟩ := fin_lt h
  obtain ⟨q, h3, h4⟩ := ob_some.1 h1
  obtain ⟨z, h5, h6⟩ := ob_some.1 h4
  obtain ⟨h7, h8⟩ := condn_some.1 h6
  obtain ⟨fs, h9, h10⟩ := fieldOf_some h3
  obtain ⟨b, off, h11, h12⟩ := moveP_R h8 (rd_R hs x)
  have hz := nbeq_f.1 h7
  exact pureS hw h2 (WG.Yl.fieldAddr (sz := z - 1) h11 h9 h10 (by rw [show z - 1 + 1 = z by omega]; exact sz_some h5)) h12
theorem s_field {t f : Nat} {x : Operand} (hs : SE ρ X σ env) (hw : Wd X B w0 ρ M w) (h : fin M (x_field t x f cl C σ M) = .ok v M') : StepR C.P env (.field t x f) ty w (Gl X B w0 ρ M v M') := by
  obtain ⟨h1, h2⟩ := fin_lt h
  obtain ⟨q, h3, h4⟩ := ob_some.1 h1
  obtain ⟨l, h5, h6⟩ := ob_some.1 h4
  obtain ⟨fs, h9, h10⟩ := fieldOf_some h3
  have hr := rd_R hs x
  rw [aggOf_some.1 h5] at hr
  obtain ⟨xs, hx, hc⟩ := hr.agg
  obtain ⟨y, h7, h8⟩ := part_R h6 hc
  refine pureS hw h2 ?_ h7
  show (execOp (WG.ev env) _).run C.P w = _
  simp [execOp, hx, Instr.field, run_underlying h9, h10, asAgg, h8]
theorem s_indexAddr {t : Nat} {x i : Operand} (hs : SE ρ X σ env) (hw : Wd X B w0 ρ M w) (h : fin M (x_indexAddr t x i cl C σ M) = .ok v M') : StepR C.P env (.indexAddr t x i) ty w (Gl X B w0 ρ M v M') := by
  obtain ⟨h1, h2⟩ := fin_lt h
  obtain ⟨n, h3, h4⟩ := ob_some.1 h1
  obtain ⟨k, h5⟩ := natOf_some h3
  have hi := (rd_R hs i).int_of h5
  cases he : elz C.P t with
  | some e =>
    rw [he] at h4
    obtain ⟨s, h6, h7⟩ := ob_some.1 (show (ob (slcOf (rd x σ)) fun s => cond (Nat.beq s.z e.2) (cond (Nat.blt n s.n) (some (V.p s.r (Nat.add s.o (Nat.mul n s.z)))) none) none) = some v from h4)
    obtain ⟨h8, h9⟩ := cond_some.1 h7
    obtain ⟨h10, h11⟩ := cond_some.1 h9
    cases h11
    obtain ⟨ht, hz⟩ := elz_some he
    have hzz := nbeq.1 h8
    rw [← hzz] at hz
    rw [Nat.blt_eq] at h10
    have hr := rd_R hs x
    rw [slcOf_some.1 h6] at hr
    obtain ⟨L, a, c, hL, hx, hn, ha, _⟩ := hr.slc
    obtain rfl := ha (by omega)
    refine pureS hw h2 (WG.Yl.elemAddr hx hi rfl ht hz ⟨by omega, by omega⟩) ?_
    have : ((n : Int)).toNat = n := by omega
    rw [this, Nat.add_assoc]
    exact .p _ _ L hL
  | none =>
    rw [he] at h4
    obtain ⟨q, h6, h7⟩ := ob_some.1 (show (ob (arz C.P t) fun q => cond (Nat.blt n q.1) (moveP (rd x σ) (Nat.mul n q.2.1)) none) = some v from h4)
    obtain ⟨h8, h9⟩ := cond_some.1 h7
    obtain ⟨ht, hz⟩ := arz_some h6
    rw [Nat.blt_eq] at h8
    obtain ⟨b, off, h11, h12⟩ := moveP_R h9 (rd_R hs x)
    refine pureS hw h2 (WG.Yl.arrAddr h11 hi ht hz ⟨by omega, by omega⟩) ?_
    have : ((n : Int)).toNat = n := by omega
    rw [this]
    exact h12
theorem s_extract {x : Operand} {i : Nat} (hs : SE ρ X σ env) (hw : Wd X B w0 ρ M w) (h : fin M (x_extract x i cl C σ M) = .ok v M') : StepR C.P env (.extract x i) ty w (Gl X B w0 ρ M v M') := by
  obtain ⟨h1, h2⟩ := fin_lt h
  obtain ⟨l, h3, h4⟩ := ob_some.1 h1
  rw [nth_eq] at h4
  have hr := rd_R hs x
  rw [tupOf_some.1 h3] at hr
  obtain ⟨xs, hx, hc⟩ := hr.tup
  obtain ⟨y, h5, h6⟩ := hc.get h4
  exact pureS hw h2 (WG.Yl.extract hx (by simpa using h5)) h6
theorem und_ifc {t : Nat} (h : oe (P.underlying t) true ifcD = false) : ∃ d, P.underlying t = some d ∧ ifcD d = false := by
  cases hd : P.underlying t with
  | none => rw [hd] at h; cases h
  | some d => rw [hd] at h; exact ⟨d, rfl, h⟩
theorem s_makeInterface {t : Nat} {x : Operand} (hs : SE ρ X σ env) (hw : Wd X B w0 ρ M w) (h : fin M (x_makeInterface t x cl C σ M) = .ok v M') : StepR C.P env (.makeInterface t x) ty w (Gl X B w0 ρ M v M') := by
  obtain ⟨h1, h2⟩ := fin_lt h
  obtain ⟨h3, h4⟩ := condn_some.1 h1
  cases h4
  obtain ⟨d, h5, h6⟩ := und_ifc h3
  exact pureS hw h2 (WG.Yl.mkIface rfl h5 (by cases d <;> first | rfl | cases h6)) (.n _ _ _ (rd_R hs x))
theorem fnOf_some {f : Fn} {k : Nat} (h : fnOf f = some k) : f = .func k := by cases f <;> cases h <;> rfl
theorem s_makeFunc {fn : Fn} {fs cs : Array Operand} (hs : SE ρ X σ env) (hw : Wd X B w0 ρ M w) (h : fin M (x_makeFunc fn fs cs cl C σ M) = .ok v M') : StepR C.P env (.makeFunc fn fs cs) ty w (Gl X B w0 ρ M v M') := by
  obtain ⟨h1, h2⟩ := fin_lt h
  obtain ⟨k, h3, h4⟩ := ob_some.1 h1
  cases h4
  obtain rfl := fnOf_some h3
  have k1 := rds_R hs fs.toList
  have k2 := rds_R hs cs.toList
  refine pureS hw h2 (y := .func (.func k) (fs.toList.map (WG.ev env)).toArray (cs.toList.map (WG.ev env)).toArray) ?_ (.f k _ _ _ _ k1.len k2.len k1.at_ k2.at_)
  show (execOp (WG.ev env) _).run C.P w = _
  have e : ∀ a : Array Operand, a.map (WG.ev env) = (a.toList.map (WG.ev env)).toArray := fun a => by apply Array.ext'; simp
  simp only [execOp, Instr.makeFunc, e, Sem.run_bind, Sem.run_pure, Result.andThen_ok]
theorem zeroV_some {t : Nat} (h : zeroV P t = some v) : ∃ i z, P.info? t = some i ∧ i.zero = some z ∧ ∀ (ρ : Rh) (X : Nat → Value), Rv ρ X v z := by
  obtain ⟨i, h1, h2⟩ := ob_some.1 h
  obtain ⟨z, h3, h4⟩ := ob_some.1 h2
  cases h4
  exact ⟨i, z, h1, h3, fun _ _ => ofV_R z⟩
theorem zeroC_some {t : Nat} {l : List V} (h : zeroC P t = some l) : ∃ i z, P.info? t = some i ∧ i.zero = some z ∧ ∀ (ρ : Rh) (X : Nat → Value), Cs ρ X l z.cells.toList := by
  obtain ⟨v, h1, h2⟩ := ob_some.1 h
  obtain ⟨i, z, h3, h4, h5⟩ := zeroV_some h1
  exact ⟨i, z, h3, h4, fun ρ X => cellsR (h5 ρ X) h2⟩
theorem s_typeAssert {x : Operand} {s d : Nat} {ok : Bool} (hs : SE ρ X σ env) (hw : Wd X B w0 ρ M w) (h : fin M (x_typeAssert x s d ok cl C σ M) = .ok v M') : StepR C.P env (.typeAssert x s d ok) ty w (Gl X B w0 ρ M v M') := by
  obtain ⟨h1, h2⟩ := fin_lt h
  obtain ⟨h3, h4⟩ := condn_some.1 (show (cond (oe (C.P.underlying d) true ifcD) none _) = some v from h1)
  obtain ⟨dd, h5, h6⟩ := und_ifc h3
  have hr := rd_R hs x
  cases hn : isNn (rd x σ) with
  | true =>
    rw [hn] at h4
    obtain ⟨h7, h8⟩ := cond_some.1 (show (cond ok (ob (zeroV C.P d) fun z => some (V.t [z, .b false])) none) = some v from h4)
    subst h7
    obtain ⟨z, h9, h10⟩ := ob_some.1 h8
    cases h10
    obtain ⟨i, z', h11, h12, h13⟩ := zeroV_some h9
    rw [isNn_t.1 hn] at hr
    refine pureS hw h2 (y := .tuple [z', .bool false].toArray) ?_ (Rv.tup_mk (.cons (h13 ρ X) (.cons (.b false) .nil)))
    have hx := hr.inil
    show (execOp (WG.ev env) _).run C.P w = _
    cases dd <;> simp [ifcD] at h6 <;> simp [execOp, hx, Instr.typeAssert, run_underlying h5, zeroValue, typeInfo, h11, h12]
  | false =>
    rw [hn] at h4
    obtain ⟨q, h7, h8⟩ := ob_some.1 (show (ob (ifcOf (rd x σ)) fun q => cond (Nat.beq q.1 d) (some (cond ok (V.t [q.2, .b true]) q.2)) (cond ok (ob (zeroV C.P d) fun z => some (.t [z, .b false])) none)) = some v from h4)
    rw [ifcOf_some.1 h7] at hr
    obtain ⟨y, hx, hy⟩ := hr.ifc
    cases hd : Nat.beq q.1 d with
    | true =>
      rw [hd] at h8
      have h9 : some (cond ok (V.t [q.2, .b true]) q.2) = some v := h8
      have := nbeq.1 hd
      cases h9
      rw [this] at hx
      cases ok with
      | true => exact pureS hw h2 (WG.Yl.assertOk hx h5 (by cases dd <;> first | rfl | cases h6)) (Rv.tup_mk (xs := [y, .bool true]) (.cons hy (.cons (.b true) .nil)))
      | false => exact pureS hw h2 (WG.Yl.assertV hx h5 (by cases dd <;> first | rfl | cases h6)) hy
    | false =>
      rw [hd] at h8
      obtain ⟨h9, h10⟩ := cond_some.1 (show (cond ok (ob (zeroV C.P d) fun z => some (V.t [z, .b false])) none) = some v from h8)
      subst h9
      obtain ⟨z, h11, h12⟩ := ob_some.1 h10
      cases h12
      obtain ⟨i, z', h13, h14, h15⟩ := zeroV_some h11
      refine pureS hw h2 (y := .tuple [z', .bool false].toArray) ?_ (Rv.tup_mk (.cons (h15 ρ X) (.cons (.b false) .nil)))
      have hne : ¬ q.1 = d := nbeq_f.1 hd
      show (execOp (WG.ev env) _).run C.P w = _
      cases dd <;> simp [ifcD] at h6 <;> simp [execOp, hx, hne, Instr.typeAssert, run_underlying h5, zeroValue, typeInfo, h13, h14]
theorem bytes_get {d : ByteArray} {i b : Nat} (h : (bytesL d)[i]? = some b) : ∃ u : UInt8, d[i]? = some u ∧ u.toNat = b := by
  unfold bytesL at h
  rw [List.getElem?_map] at h
  obtain ⟨u, h1, h2⟩ := Option.map_eq_some_iff.1 h
  refine ⟨u, ?_, h2⟩
  have hi : i < d.size := by
    have := (List.getElem?_eq_some_iff.1 h1).1
    simpa using this
  rw [getElem?_pos d i hi]
  rw [List.getElem?_eq_getElem (by simpa using hi)] at h1
  injection h1 with h1
  rw [← h1]
  rfl
theorem s_index {t : Nat} {x i : Operand} (hs : SE ρ X σ env) (hw : Wd X B w0 ρ M w) (h : fin M (x_index t x i cl C σ M) = .ok v M') : StepR C.P env (.index t x i) ty w (Gl X B w0 ρ M v M') := by
  obtain ⟨h1, h2⟩ := fin_lt h
  obtain ⟨n, h3, h4⟩ := ob_some.1 h1
  obtain ⟨k, h5⟩ := natOf_some h3
  have hi := (rd_R hs i).int_of h5
  have hr := rd_R hs x
  cases he : arz C.P t with
  | some q =>
    rw [he] at h4
    obtain ⟨l, h6, h7⟩ := ob_some.1 (show (ob (aggOf (rd x σ)) fun l => cond (Nat.blt n q.1) (partV C.P q.2.2 (Nat.mul n q.2.1) l) none) = some v from h4)
    obtain ⟨h8, h9⟩ := cond_some.1 h7
    obtain ⟨ht, hz⟩ := arz_some he
    rw [Nat.blt_eq] at h8
    rw [aggOf_some.1 h6] at hr
    obtain ⟨xs, hx, hc⟩ := hr.agg
    obtain ⟨y, h10, h11⟩ := part_R h9 hc
    obtain ⟨inf, hinf, hsz⟩ := Option.map_eq_some_iff.1 hz
    refine pureS hw h2 ?_ h10
    show (execOp (WG.ev env) _).run C.P w = _
    have h12 : (0 : Int) ≤ n ∧ (n : Int) < q.1 := by omega
    have h13 : (part q.2.2 xs.toArray (n * q.2.1)).run C.P w = .ok y w := h11 w
    simp [execOp, hx, hi, Instr.index, asIntOf, run_underlying ht, h8, sizeOf, typeInfo, hinf, hsz, h13]
  | none =>
    rw [he] at h4
    obtain ⟨d, h6, h7⟩ := ob_some.1 (show (ob (C.P.underlying t) fun d => cond (strD d) (ob (strOf (rd x σ)) fun l => ob (nth l n) fun b => some (byteV b)) none) = some v from h4)
    obtain ⟨h8, h9⟩ := cond_some.1 h7
    obtain ⟨l, h10, h11⟩ := ob_some.1 h9
    obtain ⟨b, h12, h13⟩ := ob_some.1 h11
    cases h13
    rw [strOf_some.1 h10] at hr
    obtain ⟨s, hx, rfl⟩ := hr.str
    rw [nth_eq] at h12
    obtain ⟨u, h14, rfl⟩ := bytes_get h12
    have ht : C.P.underlying t = some .string := by rw [h6, strD_t h8]
    refine pureS hw h2 (y := .int .u8 (u.toNat : Int)) ?_ (.i _ _)
    show (execOp (WG.ev env) _).run C.P w = _
    simp [execOp, hx, hi, Instr.index, asIntOf, run_underlying ht, h14]
/-! Slices. -/
theorem bytesL_len (d : ByteArray) : (bytesL d).length = d.size := by
  unfold bytesL
  rw [List.length_map, Array.length_toList]
  rfl
theorem bytesL_extract (d : ByteArray) (l h : Nat) (h1 : l ≤ h) (h2 : h ≤ d.size) : ((bytesL d).drop l).take (h - l) = bytesL (d.extract l h) := by
  unfold bytesL
  rw [ByteArray.data_extract, Array.toList_extract, List.extract_eq_drop_take, List.map_take, List.map_drop]
theorem bnd_OB {q : Option Operand} {d n : Nat} (hs : SE ρ X σ env) (h : dfl (bnd q σ) d = some n) : WG.OB env q d n := by
  cases q with
  | none => cases h; rfl
  | some x =>
    have h' : natOf (rd x σ) = some n := h
    obtain ⟨k, h1⟩ := natOf_some h'
    exact ⟨k, (rd_R hs x).int_of h1⟩
theorem le3_t {a b c d : Nat} (h : le3 a b c d = true) : a ≤ b ∧ b ≤ c ∧ c ≤ d := by
  obtain ⟨h1, h2⟩ := cond_t.1 h
  obtain ⟨h3, h4⟩ := cond_t.1 h2
  exact ⟨Nat.le_of_ble_eq_true h1, Nat.le_of_ble_eq_true h3, Nat.le_of_ble_eq_true h4⟩
theorem hiOk_t {hi mx : Option Operand} (h : hiOk (bnd hi σ) (bnd mx σ) = true) : mx.isSome = true → hi.isSome = true := by
  cases mx with
  | none => intro h; cases h
  | some m =>
    cases hi with
    | none => cases h
    | some x => intro _; rfl
theorem mul_le {a b z e o : Nat} (h : a ≤ b) (k : o + b * z ≤ e) : o + a * z ≤ e := by
  have := Nat.mul_le_mul_right z h
  omega
theorem s_slice {t : Nat} {x : Operand} {lo hi mx : Option Operand} (hs : SE ρ X σ env) (hw : Wd X B w0 ρ M w) (h : fin M (x_slice t x lo hi mx cl C σ M) = .ok v M') : StepR C.P env (.slice t x lo hi mx) ty w (Gl X B w0 ρ M v M') := by
  obtain ⟨h1, h2⟩ := fin_lt h
  obtain ⟨d, hd, h3⟩ := ob_some.1 h1
  obtain ⟨h4, h5⟩ := cond_some.1 h3
  obtain ⟨l, h6, h7⟩ := ob_some.1 h5
  have hO := hiOk_t h4
  have hlo := bnd_OB hs h6
  have hr := rd_R hs x
  cases he : elz C.P t with
  | some e =>
    rw [he] at h7
    obtain ⟨ht, hz⟩ := elz_some he
    cases hn : isLn (rd x σ) with
    | true =>
      have h8 : (cond (isLn (rd x σ)) (ob (dfl (bnd hi σ) 0) fun hi => ob (dfl (bnd mx σ) 0) fun m => cond (le3 l hi m 0) (some V.ln) none) (ob (slcOf (rd x σ)) fun s => cond (Nat.beq s.z e.2) (sliceL e.2 s l (bnd hi σ) (bnd mx σ)) none)) = some v := h7
      rw [hn] at h8
      obtain ⟨hh, h9, h10⟩ := ob_some.1 (show (ob (dfl (bnd hi σ) 0) fun hi => ob (dfl (bnd mx σ) 0) fun m => cond (le3 l hi m 0) (some V.ln) none) = some v from h8)
      obtain ⟨m, h11, h12⟩ := ob_some.1 h10
      obtain ⟨h13, h14⟩ := cond_some.1 h12
      cases h14
      obtain ⟨a1, a2, a3⟩ := le3_t h13
      rw [isLn_t.1 hn] at hr
      refine pureS hw h2 (WG.Yl.slice l hh m hr.lnil ht hz (bnd_OB hs h11) (bnd_OB hs h9) hlo hO a1 a2 a3 ?_) .ln
      rw [if_pos (by omega), show hh - l = 0 by omega, show m - l = 0 by omega]
    | false =>
      have h8 : (cond (isLn (rd x σ)) (ob (dfl (bnd hi σ) 0) fun hi => ob (dfl (bnd mx σ) 0) fun m => cond (le3 l hi m 0) (some V.ln) none) (ob (slcOf (rd x σ)) fun s => cond (Nat.beq s.z e.2) (sliceL e.2 s l (bnd hi σ) (bnd mx σ)) none)) = some v := h7
      rw [hn] at h8
      obtain ⟨s, h9, h10⟩ := ob_some.1 (show (ob (slcOf (rd x σ)) fun s => cond (Nat.beq s.z e.2) (sliceL e.2 s l (bnd hi σ) (bnd mx σ)) none) = some v from h8)
      obtain ⟨h11, h12⟩ := cond_some.1 h10
      rw [slcOf_some.1 h9] at hr
      obtain ⟨L, a, c, hL, hx, hnc, ha, hc1, hc2, hcm⟩ := hr.slc
      have hzz := nbeq.1 h11
      obtain ⟨hh, h13, h14⟩ := ob_some.1 (show (ob (dfl (bnd hi σ) s.n) _) = some v from h12)
      have hhi := bnd_OB hs h13
      -- what it comes to, the room known
      have key : ∀ (m : Nat) (c' : Option Nat), WG.OB env mx c m → l ≤ hh → hh ≤ m → m ≤ c → (∀ k, c' = some k → m - l = k) → (c' = none → m = c ∧ s.o + c * s.z = L.e) → v = .l s.r (s.o + l * e.2) (hh - l) c' e.2 → StepR C.P env (.slice t x lo hi mx) ty w (Gl X B w0 ρ M v M') := by
        intro m c' hm a1 a2 a3 hk hk2 hv
        subst hv
        refine pureS hw h2 (WG.Yl.slice l hh m hx ht hz hm hhi hlo hO a1 a2 a3 rfl) ?_
        have hs1 : s.o + l * e.2 + (m - l) * e.2 = s.o + m * e.2 := by rw [Nat.add_assoc, ← Nat.add_mul, show l + (m - l) = m by omega]
        have e1 : (if m = l then some a else (some a).map (·.add (l * e.2))) = some (if m = l then a else a.add (l * e.2)) := by split <;> rfl
        rw [e1]
        refine Rv.slc_mk hL (by omega) (Nat.le_trans (by omega) hcm) (fun hne => ?_) hk (fun hn => ?_)
        · rw [if_neg (by omega), ha (by omega), WG.add_of, Nat.add_assoc]
        · obtain ⟨rfl, h0⟩ := hk2 hn
          rw [hs1, ← hzz]; exact h0
      cases hcc : s.c with
      | some c' =>
        obtain rfl := hc1 c' hcc
        rw [hcc] at h14
        obtain ⟨m, h15, h16⟩ := ob_some.1 (show (ob (dfl (bnd mx σ) c) fun m => cond (le3 l hh m c) (some (V.l s.r (Nat.add s.o (Nat.mul l e.2)) (Nat.sub hh l) (some (Nat.sub m l)) e.2)) none) = some v from h14)
        obtain ⟨h17, h18⟩ := cond_some.1 h16
        obtain ⟨a1, a2, a3⟩ := le3_t h17
        exact key m (some (m - l)) (bnd_OB hs h15) a1 a2 a3 (fun k hk => Option.some.inj hk) (fun hk => by cases hk) (Option.some.inj h18).symm
      | none =>
        rw [hcc] at h14
        cases mx with
        | none =>
          obtain ⟨h17, h18⟩ := cond_some.1 (show (cond (le3 l hh s.n s.n) (some (V.l s.r (Nat.add s.o (Nat.mul l e.2)) (Nat.sub hh l) none e.2)) none) = some v from h14)
          obtain ⟨a1, a2, a3⟩ := le3_t h17
          exact key c none rfl a1 (by omega) (Nat.le_refl _) (fun k hk => by cases hk) (fun _ => ⟨rfl, hc2 hcc⟩) (Option.some.inj h18).symm
        | some mo =>
          obtain ⟨m, h15, h16⟩ := ob_some.1 (show (ob (natOf (rd mo σ)) fun m => cond (le3 l hh m s.n) (some (V.l s.r (Nat.add s.o (Nat.mul l e.2)) (Nat.sub hh l) (some (Nat.sub m l)) e.2)) none) = some v from h14)
          obtain ⟨h17, h18⟩ := cond_some.1 h16
          obtain ⟨a1, a2, a3⟩ := le3_t h17
          exact key m (some (m - l)) (bnd_OB hs (q := some mo) (d := c) h15) a1 a2 (by omega) (fun k hk => Option.some.inj hk) (fun hk => by cases hk) (Option.some.inj h18).symm
  | none =>
    rw [he] at h7
    cases hq : arz C.P t with
    | some q =>
      have h8 : (oe (arz C.P t) (cond (strD d) (ob (strOf (rd x σ)) fun l' => oe (bnd mx σ) (sliceS l' l (bnd hi σ)) fun _ => none) none) fun q => ob (ptrOf (rd x σ)) fun p => sliceA q p l (bnd hi σ) (bnd mx σ)) = some v := h7
      rw [hq] at h8
      obtain ⟨p, h9, h10⟩ := ob_some.1 (show (ob (ptrOf (rd x σ)) fun p => sliceA q p l (bnd hi σ) (bnd mx σ)) = some v from h8)
      obtain ⟨hh, h11, h12⟩ := ob_some.1 (show (ob (dfl (bnd hi σ) q.1) _) = some v from h10)
      obtain ⟨m, h13, h14⟩ := ob_some.1 h12
      obtain ⟨h15, h16⟩ := cond_some.1 h14
      obtain ⟨h17, h16⟩ := cond_some.1 h16
      have hq40 := Nat.le_of_ble_eq_true h17
      cases h16
      obtain ⟨a1, a2, a3⟩ := le3_t h15
      obtain ⟨ht, hz⟩ := arz_some hq
      rw [ptrOf_some.1 h9] at hr
      obtain ⟨L, hL, hx⟩ := hr.ptr
      refine pureS hw h2 (WG.Yl.sliceArr l hh m hx ht hz (bnd_OB hs h13) (bnd_OB hs h11) hlo hO a1 a2 a3 rfl) ?_
      refine Rv.slc_mk hL (by show hh - l ≤ _; omega) (by show m - l ≤ _; unfold maxLen; omega) (fun hne => ?_) (fun k hk => Option.some.inj hk) (fun hk => by cases hk)
      rw [if_neg (by omega), Nat.add_assoc]
      rfl
    | none =>
      have h8 : (oe (arz C.P t) (cond (strD d) (ob (strOf (rd x σ)) fun l' => oe (bnd mx σ) (sliceS l' l (bnd hi σ)) fun _ => none) none) fun q => ob (ptrOf (rd x σ)) fun p => sliceA q p l (bnd hi σ) (bnd mx σ)) = some v := h7
      rw [hq] at h8
      obtain ⟨h9, h10⟩ := cond_some.1 (show (cond (strD d) (ob (strOf (rd x σ)) fun l' => oe (bnd mx σ) (sliceS l' l (bnd hi σ)) fun _ => none) none) = some v from h8)
      obtain ⟨s, h11, h12⟩ := ob_some.1 h10
      rw [strOf_some.1 h11] at hr
      obtain ⟨b, hx, rfl⟩ := hr.str
      cases mx with
      | some m => cases h12
      | none =>
        obtain ⟨hh, h13, h14⟩ := ob_some.1 (show (ob (dfl (bnd hi σ) (len (bytesL b))) _) = some v from h12)
        obtain ⟨h15, h16⟩ := cond_some.1 h14
        obtain ⟨h17, h18⟩ := cond_some.1 h16
        obtain ⟨r, h19, h20⟩ := ob_some.1 h18
        cases h20
        have a1 := Nat.le_of_ble_eq_true h15
        have a2 := Nat.le_of_ble_eq_true h17
        rw [len_eq, bytesL_len] at h13 a2
        have hhi := bnd_OB hs h13
        have hd' := strD_t h9
        subst hd'
        rw [drp_eq] at h19
        obtain ⟨rfl, _⟩ := tk_some h19
        refine pureS hw h2 (y := .string (b.extract l hh)) ?_ ?_
        · have hb := WG.run_bounds (P := C.P) (w := w) (b := false) (m := none) (c := b.size) (mx := b.size) rfl hhi hlo (fun h => by cases h) a1 a2 (Nat.le_refl _)
          have hb' : (Instr.sliceBounds false b.size b.size (lo.map (WG.ev env)) (hi.map (WG.ev env)) none).run C.P w = .ok (l, hh, b.size) w := hb
          show (execOp (WG.ev env) _).run C.P w = _
          simp [execOp, hx, run_underlying hd, Instr.sliceAt, Instr.slice, hb']
        · have := bytesL_extract b l hh a1 a2
          rw [show hh.sub l = hh - l from rfl, this]
          exact .s _
end
end Go.CE
