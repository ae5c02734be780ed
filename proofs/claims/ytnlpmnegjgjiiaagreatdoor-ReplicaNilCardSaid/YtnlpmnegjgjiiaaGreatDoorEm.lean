/- New objects whose numbers are set aside; what is the same again. -/
import Derived.Test.YtnlpmnegjgjiiaaGreatDoorEl
namespace Go.CE
open Go Go.RowKit
set_option linter.all false
/-- A new object, its number not set yet. -/
def NewR (P : Program) (env : WG.Env) (op : Op) (ty : TypeId) (X : Nat → Value) (B : Nat) (w0 : World) (ρ : Rh) (M : Mem) (w : World) (b : Ob) (u : V) : Prop :=
  ∃ y w' L, WG.Yl P env op ty w y w' ∧ (∀ id, Rv (Rh.put ρ id L) X (ao id u) y) ∧ Ok ρ X w' L (some b) ∧ Wd X B w0 ρ M w' ∧ w.heap.size ≤ L.b ∧ L.b < w'.heap.size
section
variable {C : Cfg} {cl : CallF} {X : Nat → Value} {B : Nat} {w0 w w1 : World} {ρ : Rh} {M M' : Mem} {σ : Sl} {env : WG.Env} {ty : TypeId} {v : V} {y : Value} {P : Program}
theorem mkO_n {q : Option (Ob × V)} {b : Ob} {u : V} (h : mkO q = .n b u) : q = some (b, u) := by
  cases q with
  | none => cases h
  | some p => obtain ⟨p1, p2⟩ := p; cases h; rfl
theorem New.cells {l : List V} {xs : List Value} {ex : Bool} (c : Array Value) (e : TypeId) (fz : Nat × Nat) (hw : Wd X B w0 ρ M w) (hd : w1 = w ∨ w1 = w.drew) (hf : fz.2 = 0 ∨ c.size ≤ fz.1) (hc : Cs ρ X l xs) (hx : xs = c.toList.take xs.length) (he : ex = true → xs.length = c.size) :
    Ok ρ X (w1.alloc (.cells c e fz)) ⟨w.heap.size, 0, c.size⟩ (some (.c l ex)) ∧ Wd X B w0 ρ M (w1.alloc (.cells c e fz)) ∧ w.heap.size ≤ w.heap.size ∧ w.heap.size < (w1.alloc (.cells c e fz)).heap.size := by
  have hs : w1.heap.size = w.heap.size := by rcases hd with rfl | rfl <;> rfl
  have hw1 : Wd X B w0 ρ M w1 := by rcases hd with rfl | rfl; exact hw; exact hw.drew
  have hle : xs.length ≤ c.size := by
    rw [hx, List.length_take]
    simp
    omega
  refine ⟨⟨⟨xs, hc, ?_⟩, ?_, ?_, ?_⟩, hw1.alloc _, Nat.le_refl _, by show w.heap.size < (w1.heap.push _).size; rw [Array.size_push, hs]; exact Nat.lt_succ_self _⟩
  · show (w1.alloc (.cells c e fz)).rangeAt w.heap.size 0 xs
    rw [← hs, hx]
    exact World.rangeAt.take (range_new w1 c e fz) _
  · show (w1.alloc (.cells c e fz)).there w.heap.size 0 c.size
    rw [← hs]
    exact there_new w1 c e fz hf
  · show l.length ≤ c.size
    rw [hc.len]; exact hle
  · intro h
    show l.length = c.size
    rw [hc.len]; exact he h
theorem n_alloc {t : Nat} (hw : Wd X B w0 ρ M w) {ob : Ob} {u : V} (h : x_alloc t cl C σ M = .n ob u) : NewR C.P env (.alloc t) ty X B w0 ρ M w ob u := by
  have h1 := mkO_n h
  obtain ⟨l, h2, h3⟩ := ob_some.1 h1
  cases h3
  obtain ⟨i, z, h4, h5, h6⟩ := zeroC_some h2
  obtain ⟨k1, k2⟩ := New.cells (w1 := w) (ex := true) z.cells t (0, 0) hw (.inl rfl) (.inl rfl) (h6 ρ X) (by rw [List.take_length]) (by simp)
  refine ⟨_, _, _, ?_, fun id => .p _ _ _ (Rh.put_same _ _ _), k1, k2⟩
  show (execOp (WG.ev env) _).run C.P w = _
  simp [execOp, Instr.alloc, zeroValue, typeInfo, h4, h5, newVar, newRow]
theorem n_box {t : Nat} {x : Operand} (hs : SE ρ X σ env) (hw : Wd X B w0 ρ M w) {ob : Ob} {u : V} (h : x_box t x cl C σ M = .n ob u) : NewR C.P env (.box t x) ty X B w0 ρ M w ob u := by
  have h1 := mkO_n h
  obtain ⟨l, h2, h3⟩ := ob_some.1 h1
  cases h3
  have hc := cellsR (rd_R hs x) h2
  obtain ⟨k1, k2⟩ := New.cells (w1 := w) (ex := true) (WG.ev env x).cells t (0, 0) hw (.inl rfl) (.inl rfl) hc (by rw [List.take_length]) (by simp)
  refine ⟨_, _, _, ?_, fun id => .p _ _ _ (Rh.put_same _ _ _), k1, k2⟩
  show (execOp (WG.ev env) _).run C.P w = _
  simp [execOp, Instr.box, newVar, newRow]
theorem n_buildSlice {t n : Nat} {ps : Array (Nat × Operand)} (hs : SE ρ X σ env) (hw : Wd X B w0 ρ M w) {ob : Ob} {u : V} (h : x_buildSlice t n ps cl C σ M = .n ob u) : NewR C.P env (.buildSlice t n ps) ty X B w0 ρ M w ob u := by
  have h1 := mkO_n h
  obtain ⟨e, h2, h3⟩ := ob_some.1 h1
  obtain ⟨z, h4, h5⟩ := ob_some.1 h3
  obtain ⟨h6, h7⟩ := cond_some.1 h5
  obtain ⟨h8, h9⟩ := cond_some.1 h7
  obtain ⟨h8', h9⟩ := cond_some.1 h9
  obtain ⟨l, h10, h11⟩ := ob_some.1 h9
  cases h11
  obtain ⟨ht, hz⟩ := elz_some h2
  obtain ⟨i, zv, h12, h13, h14⟩ := zeroC_some h4
  have hzl := nbeq.1 h6
  have hzc := h14 ρ X
  have hzl2 := hzc.len
  rw [len_eq] at hzl
  have hsz : zv.cells.size = e.2 := by rw [← hzl, hzl2]; simp
  rw [rep_eq] at h10
  have hi : i.size = e.2 := by
    obtain ⟨i', h15, h16⟩ := Option.map_eq_some_iff.1 hz
    rw [h12] at h15
    cases h15
    exact h16
  obtain ⟨ys, k1, k2, k3⟩ := fill_R (pl := fun i => some (Nat.mul i e.2, e.2)) (place := fun i => some (i * e.2, e.2)) (fun i q hq => hq) hs ps.toList _ l _ (hzc.flat n) h10
  have hys : ys.length = n * e.2 := by
    rw [k3]
    simp [hsz]
  obtain ⟨k4, k5⟩ := New.cells (w1 := w) (ex := true) ys.toArray e.1 (0, 0) hw (.inl rfl) (.inl rfl) k2 (by simp) (by simp)
  refine ⟨(.slice (some ⟨w.heap.size, 0, none⟩) n n), _, _, ?_, fun id => Rv.slc_mk (Rh.put_same _ _ _) (Nat.le_refl _) (by have := Nat.le_of_ble_eq_true h8'; unfold maxLen; omega) (fun _ => rfl) (fun c hc => Option.some.inj hc) (fun hc => by cases hc), k4, k5⟩
  have hle : ¬ (16777216 < n * e.2) := by
    have := Nat.le_of_ble_eq_true h8
    exact Nat.not_lt.2 this
  have k1' : Instr.fill (fun i => some (i * e.2, e.2)) (madeCells zv.cells (n * e.2)) (ps.toList.map fun p => (p.1, WG.ev env p.2)) = some ys.toArray := by
    rw [← k1]
    congr 1
    apply Array.ext'
    rw [← hsz, made_flat]
  show (execOp (WG.ev env) _).run C.P w = _
  by_cases h0 : n * e.2 = 0
  · have k1'' : Instr.fill (fun i => some (i * e.2, e.2)) #[] (ps.toList.map fun p => (p.1, WG.ev env p.2)) = some ys.toArray := by
      rw [← k1', h0, show madeCells zv.cells 0 = #[] by simp [madeCells, Array.range_zero']]
    simp [execOp, Instr.buildSlice, run_underlying ht, sizeOf, typeInfo, h12, hi, h0, Array.range_zero', k1'', newRow]
  · have k1'' : Instr.fill (fun i => some (i * e.2, e.2)) ((Array.range (n * e.2)).map (zv.cells[· % zv.cells.size]!)) (ps.toList.map fun p => (p.1, WG.ev env p.2)) = some ys.toArray := k1'
    simp [execOp, Instr.buildSlice, run_underlying ht, sizeOf, typeInfo, zeroValue, h12, h13, hi, hle, h0, k1'', newRow]
theorem n_makeSlice {t : Nat} {n c : Operand} (hs : SE ρ X σ env) (hw : Wd X B w0 ρ M w) {ob : Ob} {u : V} (h : x_makeSlice t n c cl C σ M = .n ob u) : NewR C.P env (.makeSlice t n c) ty X B w0 ρ M w ob u := by
  have h1 := mkO_n h
  obtain ⟨e, h2, h3⟩ := ob_some.1 h1
  obtain ⟨z, h4, h5⟩ := ob_some.1 h3
  obtain ⟨h6, h7⟩ := cond_some.1 h5
  obtain ⟨a, h8, h9⟩ := ob_some.1 h7
  obtain ⟨m, h10, h11⟩ := ob_some.1 h9
  obtain ⟨h12, h13⟩ := cond_some.1 h11
  obtain ⟨h14, h15⟩ := cond_some.1 h13
  cases h15
  obtain ⟨ht, hz⟩ := elz_some h2
  obtain ⟨i, zv, g1, g2, g3⟩ := zeroC_some h4
  obtain ⟨i', zv', g4, g5, g6, g7, g8⟩ := fits_some h14
  rw [g1] at g4
  cases g4
  rw [g2] at g5
  cases g5
  have hi : i.size = e.2 := by
    obtain ⟨i', h15, h16⟩ := Option.map_eq_some_iff.1 hz
    rw [g1] at h15
    cases h15
    exact h16
  obtain ⟨f1, f2, _⟩ := fits_n g7 g8
  have hle := Nat.le_of_ble_eq_true h12
  obtain ⟨k1, e1⟩ := natOf_some h8
  obtain ⟨k2, e2⟩ := natOf_some h10
  have hn := (rd_R hs n).int_of e1
  have hc := (rd_R hs c).int_of e2
  have hflat : (madeCells zv.cells (m * i.size)).toList = (List.replicate m zv.cells.toList).flatten := by rw [← g6, made_flat]
  have hcs : Cs ρ X (rep m z) (madeCells zv.cells (m * i.size)).toList := by
    rw [rep_eq, hflat]
    exact (g3 ρ X).flat m
  obtain ⟨k4, k5⟩ := New.cells (w1 := w) (ex := true) (madeCells zv.cells (m * i.size)) e.1 (0, 0) hw (.inl rfl) (.inl rfl) hcs (by rw [List.take_length]) (by simp)
  refine ⟨(.slice (some ⟨w.heap.size, 0, none⟩) a m), _, _, ?_, fun id => Rv.slc_mk (Rh.put_same _ _ _) hle (by have : m ≤ 281474976710656 := f2; unfold maxLen; omega) (fun _ => rfl) (fun c hc => Option.some.inj hc) (fun hc => by cases hc), k4, k5⟩
  have hr := run_make (P := C.P) w t e.1 i zv ht g1 g2 k1 k2 (a : Int) (m : Int) (by omega) (by omega) (by
    rw [Int.mul_comm, ← Int.natCast_mul]; omega) (by omega)
  show (execOp (WG.ev env) _).run C.P w = _
  simp only [Int.toNat_natCast] at hr
  simp [execOp, hn, hc, hr]
theorem n_makeMap {t : Nat} {r : Option Operand} (hs : SE ρ X σ env) (hw : Wd X B w0 ρ M w) {ob : Ob} {u : V} (h : x_makeMap t r cl C σ M = .n ob u) : NewR C.P env (.makeMap t r) ty X B w0 ρ M w ob u := by
  have h1 := mkO_n h
  obtain ⟨h2, h3⟩ := cond_some.1 h1
  cases h3
  have k1 : Ok ρ X (w.alloc (.map #[] 0)) ⟨w.heap.size, 0, 1⟩ (some (.m [] 0)) := ⟨⟨#[], heap_alloc_new w _, rfl, fun i h e hi => by simp at hi⟩, rfl, rfl⟩
  have k2 : Wd X B w0 ρ M (w.alloc (.map #[] 0)) ∧ w.heap.size ≤ w.heap.size ∧ w.heap.size < (w.alloc (.map #[] 0)).heap.size := ⟨hw.alloc _, Nat.le_refl _, by show w.heap.size < (w.heap.push _).size; rw [Array.size_push]; exact Nat.lt_succ_self _⟩
  refine ⟨(.map (some w.heap.size)), _, _, ?_, fun id => .m _ _ (Rh.put_same _ _ _), k1, k2⟩
  show (execOp (WG.ev env) _).run C.P w = _
  cases r with
  | none => simp [execOp, Instr.makeMap]
  | some x =>
    obtain ⟨d, h4, h5⟩ := oe_t.1 (show (oe (C.P.underlying t) false fun d => oe (mapD d) false fun _ => oe (intOf (rd x σ)) false fun _ => true) = true from h2)
    obtain ⟨q, h6, h7⟩ := oe_t.1 h5
    obtain ⟨k, h8, _⟩ := oe_t.1 h7
    have hu : C.P.underlying t = some (.map q.1 q.2) := by rw [h4, mapD_some h6]
    have hx := (rd_R hs x).int_of (intOf_some.1 h8)
    simp [execOp, Instr.makeMap, run_underlying hu, hx, asInt, asIntOf]
theorem nq {q : Out} {b : Ob} {u : V} (h : q = .n b u) (k : ∀ v, q ≠ .v v → False) : True := trivial
theorem lt_n {q : Option V} {b : Ob} {u : V} (h : lt q = .n b u) : False := by cases q <;> cases h
/-- Of all operations. -/
theorem exO_n {o : Op} {ob : Ob} {u : V} (hs : SE ρ X σ env) (hw : Wd X B w0 ρ M w) (h : exO o cl C σ M = .n ob u) : NewR C.P env o ty X B w0 ρ M w ob u := by
  cases o with
  | alloc t => exact n_alloc (cl := cl) (σ := σ) hw h
  | box t x => exact n_box (cl := cl) hs hw h
  | buildSlice t n ps => exact n_buildSlice (cl := cl) hs hw h
  | makeSlice t n c => exact n_makeSlice (cl := cl) hs hw h
  | makeMap t r => exact n_makeMap (cl := cl) hs hw h
  | store t a x => cases h
  | mapUpdate t m k v => cases h
  | mapEntry t m k => cases h
  | entryStore t m s v => cases h
  | convert s d x =>
    exfalso
    have h' : oe (C.P.underlying d) no (fun dd => cond (strD dd) (lt (convS C.P s (rd x σ) M)) (oe (intD dd) (hv M (mkO (convB C.P s d (rd x σ)))) fun k => lt (cond (oe (C.P.underlying s) false fun _ => true) (convI k (rd x σ)) none))) = .n ob u := h
    cases hd : C.P.underlying d with
    | none => rw [hd] at h'; cases h'
    | some dd =>
      rw [hd] at h'
      have h2 : cond (strD dd) (lt (convS C.P s (rd x σ) M)) (oe (intD dd) (hv M (mkO (convB C.P s d (rd x σ)))) fun k => lt (cond (oe (C.P.underlying s) false fun _ => true) (convI k (rd x σ)) none)) = .n ob u := h'
      cases hst : strD dd with
      | true => rw [hst] at h2; exact lt_n h2
      | false =>
        rw [hst] at h2
        have h3 : oe (intD dd) (hv M (mkO (convB C.P s d (rd x σ)))) (fun k => lt (cond (oe (C.P.underlying s) false fun _ => true) (convI k (rd x σ)) none)) = .n ob u := h2
        cases hi : intD dd with
        | some k => rw [hi] at h3; exact lt_n h3
        | none => rw [hi] at h3; cases h3
  | call c =>
    exfalso
    obtain ⟨ca, as, ts⟩ := c
    cases ca with
    | value f =>
      have h' : oe (fncOf (rd f σ)) no (fun f => .c (cl f.f (app f.a (app (rds as.toList σ) f.c)) M)) = .n ob u := h
      cases hf : fncOf (rd f σ) <;> rw [hf] at h' <;> cases h'
    | invoke x nm =>
      have h' : oe (ifcOf (rd x σ)) no (fun q => oe (methOf C.P q.1 nm) no fun m => oe (recvV C q.1 q.2 m.2 M) no fun r => .c (cl m.1 (r :: rds as.toList σ) M)) = .n ob u := h
      cases hf : ifcOf (rd x σ) with
      | none => rw [hf] at h'; cases h'
      | some q =>
        rw [hf] at h'
        have h2 : oe (methOf C.P q.1 nm) no (fun m => oe (recvV C q.1 q.2 m.2 M) no fun r => .c (cl m.1 (r :: rds as.toList σ) M)) = .n ob u := h'
        cases hm : methOf C.P q.1 nm with
        | none => rw [hm] at h2; cases h2
        | some m =>
          rw [hm] at h2
          have h3 : oe (recvV C q.1 q.2 m.2 M) no (fun r => .c (cl m.1 (r :: rds as.toList σ) M)) = .n ob u := h2
          cases hr : recvV C q.1 q.2 m.2 M <;> rw [hr] at h3 <;> cases h3
    | builtin b =>
      cases b with
      | copy =>
        have h' : two (rds as.toList σ) (fun a b => copyV C.P ts.toList a b M) = .n ob u := h
        unfold two at h'
        cases h1 : nth (rds as.toList σ) 0 with
        | none => rw [h1] at h'; cases h'
        | some a =>
          rw [h1] at h'
          have h2 : oe (nth (rds as.toList σ) 1) no (fun b => copyV C.P ts.toList a b M) = .n ob u := h'
          cases h3 : nth (rds as.toList σ) 1 with
          | none => rw [h3] at h2; cases h2
          | some b =>
            rw [h3] at h2
            have h4 : copyV C.P ts.toList a b M = .n ob u := h2
            unfold copyV at h4
            cases h5 : nth ts.toList 0 with
            | none => rw [h5] at h4; cases h4
            | some t =>
              rw [h5] at h4
              have h6 : oe (elz C.P t) no (fun e => oe (lenD a) no fun n => oe (lenV b) no fun m => cond (Nat.beq (Nat.min m n) 0) (.c (.ok (.i .i64 (.ofNat 0)) M)) (okM (.i .i64 (.ofNat (Nat.min m n))) (CE.ob (srcV e.2 b (Nat.min m n) M) fun ys => CE.ob (slcOf a) fun s => cond (Nat.beq s.z e.2) (writeO s.r s.o ys M) none))) = .n ob u := h4
              cases h7 : elz C.P t with
              | none => rw [h7] at h6; cases h6
              | some e =>
                rw [h7] at h6
                have h8 : oe (lenD a) no (fun n => oe (lenV b) no fun m => cond (Nat.beq (Nat.min m n) 0) (.c (.ok (.i .i64 (.ofNat 0)) M)) (okM (.i .i64 (.ofNat (Nat.min m n))) (CE.ob (srcV e.2 b (Nat.min m n) M) fun ys => CE.ob (slcOf a) fun s => cond (Nat.beq s.z e.2) (writeO s.r s.o ys M) none))) = .n ob u := h6
                cases h9 : lenD a with
                | none => rw [h9] at h8; cases h8
                | some n =>
                  rw [h9] at h8
                  have h10 : oe (lenV b) no (fun m => cond (Nat.beq (Nat.min m n) 0) (.c (.ok (.i .i64 (.ofNat 0)) M)) (okM (.i .i64 (.ofNat (Nat.min m n))) (CE.ob (srcV e.2 b (Nat.min m n) M) fun ys => CE.ob (slcOf a) fun s => cond (Nat.beq s.z e.2) (writeO s.r s.o ys M) none))) = .n ob u := h8
                  cases h11 : lenV b with
                  | none => rw [h11] at h10; cases h10
                  | some m =>
                    rw [h11] at h10
                    have h12 : cond (Nat.beq (Nat.min m n) 0) (.c (.ok (.i .i64 (.ofNat 0)) M)) (okM (.i .i64 (.ofNat (Nat.min m n))) (CE.ob (srcV e.2 b (Nat.min m n) M) fun ys => CE.ob (slcOf a) fun s => cond (Nat.beq s.z e.2) (writeO s.r s.o ys M) none)) = .n ob u := h10
                    cases hz : Nat.beq (Nat.min m n) 0 <;> rw [hz] at h12 <;> cases h12
      | len => exact lt_n (show lt _ = .n ob u from h)
      | cap => exact lt_n (show lt _ = .n ob u from h)
      | max => exact lt_n (show lt _ = .n ob u from h)
      | min => exact lt_n (show lt _ = .n ob u from h)
      | _ => cases h
  | move x => exact (lt_n (show lt (some (rd x σ)) = .n ob u from h)).elim
  | assign x => exact (lt_n (show lt (some (rd x σ)) = .n ob u from h)).elim
  | pick c a b => exact (lt_n (show lt _ = .n ob u from h)).elim
  | build t ps => exact (lt_n (show lt _ = .n ob u from h)).elim
  | load t a => exact (lt_n (show lt _ = .n ob u from h)).elim
  | nilCheck x => exact (lt_n (show lt _ = .n ob u from h)).elim
  | binOp op t x y u' => exact (lt_n (show lt _ = .n ob u from h)).elim
  | unOp op t x => exact (lt_n (show lt _ = .n ob u from h)).elim
  | makeInterface t x => exact (lt_n (show lt _ = .n ob u from h)).elim
  | makeFunc fn fs cs => exact (lt_n (show lt _ = .n ob u from h)).elim
  | slice t x lo hi mx => exact (lt_n (show lt _ = .n ob u from h)).elim
  | fieldAddr t x f => exact (lt_n (show lt _ = .n ob u from h)).elim
  | field t x f => exact (lt_n (show lt _ = .n ob u from h)).elim
  | indexAddr t x i => exact (lt_n (show lt _ = .n ob u from h)).elim
  | index t x i => exact (lt_n (show lt _ = .n ob u from h)).elim
  | lookup t x i ok => exact (lt_n (show lt _ = .n ob u from h)).elim
  | typeAssert x s d ok => exact (lt_n (show lt _ = .n ob u from h)).elim
  | extract x i => exact (lt_n (show lt _ = .n ob u from h)).elim
  | _ => cases h
/-! The same again. -/
theorem all2_t {α : Type} {g : α → α → Bool} (hg : ∀ a b, g a b = true → a = b) : ∀ (l m : List α), all2 g l m = true → l = m := by
  intro l
  induction l with
  | nil => intro m h; cases m with
    | nil => rfl
    | cons _ _ => cases h
  | cons a l ih =>
    intro m h
    cases m with
    | nil => cases h
    | cons b m =>
      obtain ⟨h1, h2⟩ := cond_t.1 (show cond (g a b) (all2 g l m) false = true from h)
      rw [hg a b h1, ih m h2]
theorem oe_ft {α : Type} {q : Option α} {f : α → Bool} (h : oe q false f = true) : ∃ a, q = some a ∧ f a = true := oe_t.1 h
theorem same1_t {g : V → V → Bool} (hg : ∀ a b, g a b = true → a = b) {a b : V} (h : same1 g a b = true) : a = b := by
  unfold same1 at h
  cases a with
  | i k n =>
    obtain ⟨q, h1, h2⟩ := oe_ft (show oe (intOf b) false (fun y => cond (Nat.beq (knum k) (knum y.1)) (eqI n y.2) false) = true from h)
    obtain ⟨h3, h4⟩ := cond_t.1 h2
    rw [eqI_eq] at h4
    rw [intOf_some.1 h1, knum_inj h3, of_decide_eq_true h4]
  | b t =>
    obtain ⟨q, h1, h2⟩ := oe_ft (show oe (boolOf b) false (fun y => eqB t y) = true from h)
    rw [eqB_eq] at h2
    rw [boolOf_some.1 h1, eq_of_beq h2]
  | p r o =>
    obtain ⟨q, h1, h2⟩ := oe_ft (show oe (ptrOf b) false (fun y => cond (Nat.beq r y.1) (Nat.beq o y.2) false) = true from h)
    obtain ⟨h3, h4⟩ := cond_t.1 h2
    rw [ptrOf_some.1 h1, nbeq.1 h3, nbeq.1 h4]
  | l r o n c z =>
    obtain ⟨q, h1, h2⟩ := oe_ft (show oe (slcOf b) false (fun y => cond (Nat.beq r y.r) (cond (Nat.beq o y.o) (cond (Nat.beq n y.n) (cond (Nat.beq z y.z) (sameO c y.c) false) false) false) false) = true from h)
    obtain ⟨h3, h4⟩ := cond_t.1 h2
    obtain ⟨h5, h6⟩ := cond_t.1 h4
    obtain ⟨h7, h8⟩ := cond_t.1 h6
    obtain ⟨h9, h10⟩ := cond_t.1 h8
    have hc : c = q.c := by
      unfold sameO at h10
      cases hc : c with
      | none =>
        rw [hc] at h10
        cases hq : q.c with
        | none => rfl
        | some y => have h11 : oe q.c true (fun _ => false) = true := h10; rw [hq] at h11; cases h11
      | some x =>
        rw [hc] at h10
        obtain ⟨y, h11, h12⟩ := oe_ft (show oe q.c false (fun y => Nat.beq x y) = true from h10)
        rw [h11, nbeq.1 h12]
    rw [slcOf_some.1 h1, nbeq.1 h3, nbeq.1 h5, nbeq.1 h7, nbeq.1 h9, hc]
  | a l =>
    obtain ⟨q, h1, h2⟩ := oe_ft (show oe (aggOf b) false (fun y => all2 g l y) = true from h)
    rw [aggOf_some.1 h1, all2_t hg _ _ h2]
  | t l =>
    obtain ⟨q, h1, h2⟩ := oe_ft (show oe (tupOf b) false (fun y => all2 g l y) = true from h)
    rw [tupOf_some.1 h1, all2_t hg _ _ h2]
  | s l =>
    obtain ⟨q, h1, h2⟩ := oe_ft (show oe (strOf b) false (fun y => eqL l y) = true from h)
    rw [eqL_eq] at h2
    rw [strOf_some.1 h1, of_decide_eq_true h2]
  | m r =>
    obtain ⟨q, h1, h2⟩ := oe_ft (show oe (mapOf b) false (fun y => Nat.beq r y) = true from h)
    rw [mapOf_some.1 h1, nbeq.1 h2]
  | n t v =>
    obtain ⟨q, h1, h2⟩ := oe_ft (show oe (ifcOf b) false (fun y => cond (Nat.beq t y.1) (g v y.2) false) = true from h)
    obtain ⟨h3, h4⟩ := cond_t.1 h2
    rw [ifcOf_some.1 h1, nbeq.1 h3, hg _ _ h4]
  | g r o =>
    obtain ⟨q, h1, h2⟩ := oe_ft (show oe (glbOf b) false (fun y => cond (Nat.beq r y.1) (Nat.beq o y.2) false) = true from h)
    obtain ⟨h3, h4⟩ := cond_t.1 h2
    rw [glbOf_some.1 h1, nbeq.1 h3, nbeq.1 h4]
  | pn =>
    have hk := (cond_t.1 (show cond (Nat.beq 6 (kindOf b)) true false = true from h)).1
    cases b <;> first | rfl | cases hk
  | ln =>
    have hk := (cond_t.1 (show cond (Nat.beq 8 (kindOf b)) true false = true from h)).1
    cases b <;> first | rfl | cases hk
  | mn =>
    have hk := (cond_t.1 (show cond (Nat.beq 10 (kindOf b)) true false = true from h)).1
    cases b <;> first | rfl | cases hk
  | fn =>
    have hk := (cond_t.1 (show cond (Nat.beq 12 (kindOf b)) true false = true from h)).1
    cases b <;> first | rfl | cases hk
  | nn =>
    have hk := (cond_t.1 (show cond (Nat.beq 14 (kindOf b)) true false = true from h)).1
    cases b <;> first | rfl | cases hk
  | z =>
    have hk := (cond_t.1 (show cond (Nat.beq 18 (kindOf b)) true false = true from h)).1
    cases b <;> first | rfl | cases hk
  | u =>
    have hk := (cond_t.1 (show cond (Nat.beq 0 (kindOf b)) true false = true from h)).1
    cases b <;> first | rfl | cases hk
  | w =>
    have hk := (cond_t.1 (show cond (Nat.beq 19 (kindOf b)) true false = true from h)).1
    cases b <;> first | rfl | cases hk
  | f k fs cs =>
    obtain ⟨q, h1, h2⟩ := oe_ft (show oe (fncOf b) false (fun y => cond (Nat.beq k y.f) (cond (all2 g fs y.a) (all2 g cs y.c) false) false) = true from h)
    obtain ⟨h3, h4⟩ := cond_t.1 h2
    obtain ⟨h5, h6⟩ := cond_t.1 h4
    rw [fncOf_some.1 h1, nbeq.1 h3, all2_t hg _ _ h5, all2_t hg _ _ h6]
  | x j =>
    obtain ⟨q, h1, h2⟩ := oe_ft (show oe (argOf b) false (fun y => Nat.beq j y) = true from h)
    rw [argOf_some.1 h1, nbeq.1 h2]
  | q k =>
    obtain ⟨q, h1, h2⟩ := oe_ft (show oe (kindQ b) false (fun k' => cond (Nat.beq (kindOf b) 20) (Nat.beq (knum k) (knum k')) false) = true from h)
    obtain ⟨h3, h4⟩ := cond_t.1 h2
    rcases kindQ_some h1 with rfl | ⟨n, rfl⟩
    · rw [knum_inj h4]
    · cases h3
theorem same_t : ∀ (n : Nat) (a b : V), same n a b = true → a = b := by
  intro n
  induction n with
  | zero => intro a b h; cases h
  | succ n ih => intro a b h; exact same1_t ih h
theorem sameQ_t {a b : Out} (h : sameQ a b = true) : a = b := by
  cases a with
  | v x =>
    cases b with
    | v y => rw [same_t 4 x y h]
    | n _ _ => cases h
    | c _ => cases h
  | n o x =>
    cases b with
    | v y => cases h
    | n p y =>
      obtain ⟨h1, h2⟩ := cond_t.1 (show cond (sameB o p) (same 4 x y) false = true from h)
      have : o = p := by
        cases o with
        | c l e =>
          cases p with
          | c l' e' =>
            obtain ⟨h3, h4⟩ := cond_t.1 (show cond (eqB e e') (all2 (same 4) l l') false = true from h1)
            rw [eqB_eq] at h3
            rw [eq_of_beq h3, all2_t (same_t 4) _ _ h4]
          | m _ _ => cases h1
          | dead => cases h1
        | m _ _ => cases h1
        | dead => cases h1
      rw [this, same_t 4 x y h2]
    | c _ => cases h
  | c _ => cases h
end
end Go.CE
