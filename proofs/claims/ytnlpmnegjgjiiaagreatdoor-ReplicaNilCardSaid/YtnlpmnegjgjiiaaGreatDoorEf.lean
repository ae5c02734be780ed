/- What one operation comes to: those that make an object, and stores. -/
import Derived.Test.YtnlpmnegjgjiiaaGreatDoorEe
import Derived.Laws.IdiomStrings
import Derived.Laws.MakeOwn
namespace Go.CE
open Go Go.RowKit
set_option linter.all false
theorem range_new (w : World) (c : Array Value) (e : TypeId) (fz : Nat × Nat) : (w.alloc (.cells c e fz)).rangeAt w.heap.size 0 c.toList := fun j v hj => by
  rw [cell_of_row _ _ _ c e fz (heap_alloc_new w _), Nat.zero_add]
  simpa using hj
theorem there_new (w : World) (c : Array Value) (e : TypeId) (fz : Nat × Nat) (hf : fz.2 = 0 ∨ c.size ≤ fz.1) : (w.alloc (.cells c e fz)).there w.heap.size 0 c.size := fun j hj => by
  constructor
  · rw [cell_of_row _ _ _ c e fz (heap_alloc_new w _), Nat.zero_add, Array.getElem?_eq_getElem hj]
    rfl
  · unfold World.frozen?
    rw [show ((⟨w.heap.size, 0 + j, none⟩ : Addr)).block = w.heap.size from rfl, heap_alloc_new w _]
    obtain ⟨lo, hi⟩ := fz
    simp only [Nat.zero_add, Bool.and_eq_false_iff, decide_eq_false_iff_not]
    rcases hf with h | h
    · right; simp only at h; omega
    · left; simp only at h; omega
section
variable {C : Cfg} {cl : CallF} {X : Nat → Value} {B : Nat} {w0 w w1 : World} {ρ : Rh} {M M' : Mem} {σ : Sl} {env : WG.Env} {ty : TypeId} {v : V} {y : Value} {P : Program}
/-- A new object, in a block of its own. -/
theorem Post.new {b : Ob} {L : Loc} (hw : Wd X B w0 ρ M w) (hw1 : Wd X B w0 ρ M w1) (hb : w.heap.size ≤ L.b) (hs : L.b < w1.heap.size) (hok : Ok ρ X w1 L (some b)) :
    Rh.le ρ (Rh.put ρ M.nx L) ∧ Post X B w0 ρ M (Rh.put ρ M.nx L) ⟨M.T.set M.nx b, M.nx + 1⟩ w1 := by
  have hn : ρ M.nx = none := hw.noPl (Nat.le_refl _)
  refine ⟨Rh.le_put hn, Rh.le_put hn, Nat.le_succ _, fun r hr hr0 => ⟨?_, ?_⟩, ?_⟩
  · show (M.T.set M.nx b).get r = _
    rw [Tr.get_set, if_neg (by omega)]
  · rw [Rh.put_ne (by omega)]
    exact hr0
  · refine Wd.place (M := ⟨M.T.set M.nx b, M.nx + 1⟩) (hw1.more (Nat.le_succ _) (fun r hr => ?_) (free_set hw.free)) hn (Nat.lt_succ_self _) (Nat.le_trans hw.size hb) hs ?_ fun r' L' hr' _ => ?_
    · show (M.T.set M.nx b).get r = _
      rw [Tr.get_set, if_neg (by omega)]
    · show Ok _ X w1 L ((M.T.set M.nx b).get M.nx)
      rw [Tr.get_set, if_pos rfl]
      exact hok.mono (Rh.le_put hn)
    · left
      have := (hw.obj r' L' hr').2.2.1
      omega
/-- A new block of cells. -/
theorem Post.cells {l : List V} {xs : List Value} {ex : Bool} (c : Array Value) (e : TypeId) (fz : Nat × Nat) (hw : Wd X B w0 ρ M w) (hd : w1 = w ∨ w1 = w.drew) (hf : fz.2 = 0 ∨ c.size ≤ fz.1) (hc : Cs ρ X l xs) (hx : xs = c.toList.take xs.length) (he : ex = true → xs.length = c.size) :
    Rh.le ρ (Rh.put ρ M.nx ⟨w.heap.size, 0, c.size⟩) ∧ Post X B w0 ρ M (Rh.put ρ M.nx ⟨w.heap.size, 0, c.size⟩) ⟨M.T.set M.nx (.c l ex), M.nx + 1⟩ (w1.alloc (.cells c e fz)) := by
  have hs : w1.heap.size = w.heap.size := by rcases hd with rfl | rfl <;> rfl
  have hw1 : Wd X B w0 ρ M w1 := by rcases hd with rfl | rfl; exact hw; exact hw.drew
  have hle : xs.length ≤ c.size := by
    rw [hx, List.length_take]
    simp
    omega
  refine Post.new hw (hw1.alloc _) (Nat.le_refl _) (by show w.heap.size < (w1.heap.push _).size; rw [Array.size_push, hs]; exact Nat.lt_succ_self _) ⟨⟨xs, hc, ?_⟩, ?_, ?_, ?_⟩
  · show (w1.alloc (.cells c e fz)).rangeAt w.heap.size 0 xs
    rw [← hs, hx]
    exact World.rangeAt.take (range_new w1 c e fz) _
  · show (w1.alloc (.cells c e fz)).there w.heap.size 0 c.size
    rw [← hs]
    exact there_new w1 c e fz hf
  · show l.length ≤ c.size
    rw [hc.len]; exact hle
  · intro h
    show l.length = c.size
    rw [hc.len]; exact he h
/-! The operations. -/
theorem s_alloc {t : Nat} (hw : Wd X B w0 ρ M w) (h : fin M (x_alloc t cl C σ M) = .ok v M') : StepR C.P env (.alloc t) ty w (Gl X B w0 ρ M v M') := by
  obtain ⟨b, x, h1, rfl, rfl⟩ := fin_mkO h
  obtain ⟨l, h2, h3⟩ := ob_some.1 h1
  cases h3
  obtain ⟨i, z, h4, h5, h6⟩ := zeroC_some h2
  obtain ⟨k1, k2⟩ := Post.cells (w1 := w) (ex := true) z.cells t (0, 0) hw (.inl rfl) (.inl rfl) (h6 ρ X) (by rw [List.take_length]) (by simp)
  refine .val _ _ ?_ ⟨_, .p _ _ _ (Rh.put_same _ _ _), k2⟩
  show (execOp (WG.ev env) _).run C.P w = _
  simp [execOp, Instr.alloc, zeroValue, typeInfo, h4, h5, newVar, newRow]
theorem s_box {t : Nat} {x : Operand} (hs : SE ρ X σ env) (hw : Wd X B w0 ρ M w) (h : fin M (x_box t x cl C σ M) = .ok v M') : StepR C.P env (.box t x) ty w (Gl X B w0 ρ M v M') := by
  obtain ⟨b, x', h1, rfl, rfl⟩ := fin_mkO h
  obtain ⟨l, h2, h3⟩ := ob_some.1 h1
  cases h3
  have hc := cellsR (rd_R hs x) h2
  obtain ⟨k1, k2⟩ := Post.cells (w1 := w) (ex := true) (WG.ev env x).cells t (0, 0) hw (.inl rfl) (.inl rfl) hc (by rw [List.take_length]) (by simp)
  refine .val _ _ ?_ ⟨_, .p _ _ _ (Rh.put_same _ _ _), k2⟩
  show (execOp (WG.ev env) _).run C.P w = _
  simp [execOp, Instr.box, newVar, newRow]
/-- A struct's or an array's cells, filled in. -/
theorem fill_R {pl : Nat → Option (Nat × Nat)} {place : Nat → Option (Nat × Nat)} (hp : ∀ i q, pl i = some q → place i = some q) (hs : SE ρ X σ env) : ∀ (ps : List (Nat × Operand)) (z l : List V) (zs : List Value), Cs ρ X z zs → fill pl ps σ z = some l →
    ∃ ys, Instr.fill place zs.toArray (ps.map fun p => (p.1, WG.ev env p.2)) = some ys.toArray ∧ Cs ρ X l ys ∧ ys.length = zs.length := by
  intro ps
  induction ps with
  | nil =>
    intro z l zs hz h
    cases h
    exact ⟨zs, rfl, hz, rfl⟩
  | cons p ps ih =>
    intro z l zs hz h
    obtain ⟨q, h1, h2⟩ := ob_some.1 (show (ob (pl p.1) fun q => ob (cells (rd p.2 σ)) fun cs => cond (Nat.beq (len cs) q.2) (ob (put q.1 cs z) fun z' => fill pl ps σ z') none) = some l from h)
    obtain ⟨cs, h3, h4⟩ := ob_some.1 h2
    obtain ⟨h5, h6⟩ := cond_some.1 h4
    obtain ⟨z', h7, h8⟩ := ob_some.1 h6
    have hc := cellsR (rd_R hs p.2) h3
    have hn := nbeq.1 h5
    rw [len_eq] at hn
    obtain ⟨h9, rfl⟩ := put_some h7
    have hlen := hc.len
    have hzl := hz.len
    have hle : q.1 + (WG.ev env p.2).cells.toList.length ≤ zs.length := by omega
    have hz' : Cs ρ X (z.take q.1 ++ cs ++ z.drop (q.1 + cs.length)) (zs.take q.1 ++ (WG.ev env p.2).cells.toList ++ zs.drop (q.1 + (WG.ev env p.2).cells.toList.length)) := by
      rw [hlen]
      exact ((hz.take _).append hc).append (hz.drop _)
    obtain ⟨ys, k1, k2, k3⟩ := ih _ l _ hz' h8
    refine ⟨ys, ?_, k2, ?_⟩
    · rw [List.map_cons, WG.fill_cons place p.1 q.1 _ _ (WG.ev env p.2).cells.toList zs (by simp) (by rw [hp _ _ h1]; congr 1; rw [← hlen, hn]) hle]
      exact k1
    · rw [k3]
      simp only [List.length_append, List.length_take, List.length_drop]
      omega
theorem parts_map (ps : Array (Nat × Operand)) (f : Operand → Value) : (ps.map fun (p : Nat × Operand) => (p.1, f p.2)).toList = ps.toList.map fun p => (p.1, f p.2) := by simp
theorem s_build {t : Nat} {ps : Array (Nat × Operand)} (hs : SE ρ X σ env) (hw : Wd X B w0 ρ M w) (h : fin M (x_build t ps cl C σ M) = .ok v M') : StepR C.P env (.build t ps) ty w (Gl X B w0 ρ M v M') := by
  obtain ⟨h1, h2⟩ := fin_lt h
  obtain ⟨z, h3, h4⟩ := ob_some.1 h1
  obtain ⟨pl, h5, h6⟩ := ob_some.1 h4
  obtain ⟨l, h7, h8⟩ := ob_some.1 h6
  cases h8
  obtain ⟨i, zv, h9, h10, h11⟩ := zeroC_some h3
  obtain ⟨d, hd, h12⟩ := ob_some.1 h5
  cases hf : fieldsD d with
  | some fs =>
    rw [hf] at h12
    obtain ⟨pls, h13, h14⟩ := ob_some.1 (show (ob (placesF C.P fs) fun l => some (nth l)) = some pl from h12)
    cases h14
    obtain ⟨h15, h16⟩ := mpo_some h13
    have hpl : fs.map (fun f => (C.P.info? f.type).map (fun i => (f.offset, i.size))) = pls.map some := by
      apply List.ext_getElem?
      intro n
      rw [List.getElem?_map, List.getElem?_map]
      cases hn : fs[n]? with
      | none =>
        have : pls[n]? = none := by
          rw [List.getElem?_eq_none_iff] at hn ⊢
          omega
        rw [this]
        rfl
      | some f =>
        obtain ⟨q, h17, h18⟩ := h16 n f hn
        rw [h17]
        obtain ⟨s, h19, h20⟩ := ob_some.1 h18
        cases h20
        obtain ⟨inf, hinf, hsz⟩ := Option.map_eq_some_iff.1 (sz_some h19)
        simp [hinf, hsz]
    obtain ⟨ys, k1, k2, _⟩ := fill_R (pl := nth pls) (place := fun i => pls[i]?) (fun i q hq => by rw [nth_eq] at hq; exact hq) hs ps.toList z l zv.cells.toList (h11 ρ X) h7
    refine pureS hw h2 ?_ (Rv.agg_mk k2)
    have := WG.Yl.build (P := C.P) (w := w) (ty := ty) (env := env) (fs := fs.toArray) (places := pls) (xs := ps.toList) (vs := ps.toList.map fun p => (p.1, WG.ev env p.2)) (cs := ys.toArray) (t := t) (z := zv) (by rw [hd, fieldsD_some hf]) (by rw [h9]; simp [h10]) (by simpa using hpl) rfl (by simpa using k1)
    simpa using this
  | none =>
    rw [hf] at h12
    obtain ⟨q, h13, h14⟩ := ob_some.1 (show (ob (arrD d) fun q => ob (sz C.P q.2) fun z => some fun i => some (Nat.mul i z, z)) = some pl from h12)
    obtain ⟨s, h15, h16⟩ := ob_some.1 h14
    cases h16
    obtain ⟨inf, hinf, hsz⟩ := Option.map_eq_some_iff.1 (sz_some h15)
    obtain ⟨ys, k1, k2, _⟩ := fill_R (pl := fun i => some (Nat.mul i s, s)) (place := fun i => some (i * s, s)) (fun i q hq => hq) hs ps.toList z l zv.cells.toList (h11 ρ X) h7
    refine pureS hw h2 ?_ (Rv.agg_mk k2)
    have hu : C.P.underlying t = some (.array q.1 q.2) := by rw [hd, arrD_some h13]
    have k1' : Instr.fill (fun i => some (i * s, s)) zv.cells (ps.toList.map fun p => (p.1, WG.ev env p.2)) = some ys.toArray := by simpa using k1
    show (execOp (WG.ev env) _).run C.P w = _
    simp [execOp, Instr.build, zeroValue, typeInfo, h9, h10, run_underlying hu, sizeOf, hinf, hsz, k1']
theorem made_flat (z : Array Value) (m : Nat) : (madeCells z (m * z.size)).toList = (List.replicate m z.toList).flatten := by
  apply List.ext_getElem?
  intro q
  by_cases hq : q < m * z.size
  · have h0 : 0 < z.size := by
      rcases Nat.eq_zero_or_pos z.size with h | h
      · rw [h, Nat.mul_zero] at hq; omega
      · exact h
    have hmod : q % z.size < z.size := Nat.mod_lt _ h0
    have e1 : (madeCells z (m * z.size)).toList[q]? = some z[q % z.size]! := by
      simp [madeCells, hq]
    rw [e1]
    have e2 : ((List.replicate m z.toList).flatten)[q]? = z.toList[q % z.size]? := by
      clear e1 hmod
      have hl : z.toList.length = z.size := by simp
      rw [← hl] at hq h0 ⊢
      induction m generalizing q with
      | zero => rw [Nat.zero_mul] at hq; omega
      | succ m ih =>
        rw [List.replicate_succ, List.flatten_cons]
        by_cases hlt : q < z.toList.length
        · rw [List.getElem?_append_left hlt, Nat.mod_eq_of_lt hlt]
        · have e3 : (m + 1) * z.toList.length = m * z.toList.length + z.toList.length := Nat.succ_mul _ _
          rw [List.getElem?_append_right (by omega), ih (q - z.toList.length) (by omega)]
          congr 1
          exact (Nat.mod_eq_sub_mod (by omega)).symm
    rw [e2, List.getElem?_eq_getElem (by simpa using hmod)]
    congr 1
    simp [hmod]
  · rw [List.getElem?_eq_none (by simp [madeCells]; omega), List.getElem?_eq_none (by simp; omega)]
theorem s_buildSlice {t n : Nat} {ps : Array (Nat × Operand)} (hs : SE ρ X σ env) (hw : Wd X B w0 ρ M w) (h : fin M (x_buildSlice t n ps cl C σ M) = .ok v M') : StepR C.P env (.buildSlice t n ps) ty w (Gl X B w0 ρ M v M') := by
  obtain ⟨b, x, h1, rfl, rfl⟩ := fin_mkO h
  obtain ⟨e, h2, h3⟩ := ob_some.1 h1
  obtain ⟨z, h4, h5⟩ := ob_some.1 h3
  obtain ⟨h6, h7⟩ := cond_some.1 h5
  obtain ⟨h8, h9⟩ := cond_some.1 h7
  obtain ⟨h8', h9⟩ := cond_some.1 h9
  obtain ⟨l, h10, h11⟩ := ob_some.1 h9
  cases h11
  obtain ⟨ht, hz⟩ := elz_some h2
  obtain ⟨i, zv, h12, h13, h14⟩ := zeroC_some h4
  have hzl := nbeq.1 h6
  have hzc := h14 ρ X
  have hzl2 := hzc.len
  rw [len_eq] at hzl
  have hsz : zv.cells.size = e.2 := by rw [← hzl, hzl2]; simp
  rw [rep_eq] at h10
  have hi : i.size = e.2 := by
    obtain ⟨i', h15, h16⟩ := Option.map_eq_some_iff.1 hz
    rw [h12] at h15
    cases h15
    exact h16
  obtain ⟨ys, k1, k2, k3⟩ := fill_R (pl := fun i => some (Nat.mul i e.2, e.2)) (place := fun i => some (i * e.2, e.2)) (fun i q hq => hq) hs ps.toList _ l _ (hzc.flat n) h10
  have hys : ys.length = n * e.2 := by
    rw [k3]
    simp [hsz]
  obtain ⟨k4, k5⟩ := Post.cells (w1 := w) (ex := true) ys.toArray e.1 (0, 0) hw (.inl rfl) (.inl rfl) k2 (by simp) (by simp)
  refine .val (.slice (some ⟨w.heap.size, 0, none⟩) n n) _ ?_ ⟨_, Rv.slc_mk (Rh.put_same _ _ _) (Nat.le_refl _) (by have := Nat.le_of_ble_eq_true h8'; unfold maxLen; omega) (fun _ => rfl) (fun c hc => Option.some.inj hc) (fun hc => by cases hc), k5⟩
  have hle : ¬ (16777216 < n * e.2) := by
    have := Nat.le_of_ble_eq_true h8
    exact Nat.not_lt.2 this
  have k1' : Instr.fill (fun i => some (i * e.2, e.2)) (madeCells zv.cells (n * e.2)) (ps.toList.map fun p => (p.1, WG.ev env p.2)) = some ys.toArray := by
    rw [← k1]
    congr 1
    apply Array.ext'
    rw [← hsz, made_flat]
  show (execOp (WG.ev env) _).run C.P w = _
  by_cases h0 : n * e.2 = 0
  · have k1'' : Instr.fill (fun i => some (i * e.2, e.2)) #[] (ps.toList.map fun p => (p.1, WG.ev env p.2)) = some ys.toArray := by
      rw [← k1', h0, show madeCells zv.cells 0 = #[] by simp [madeCells, Array.range_zero']]
    simp [execOp, Instr.buildSlice, run_underlying ht, sizeOf, typeInfo, h12, hi, h0, Array.range_zero', k1'', newRow]
  · have k1'' : Instr.fill (fun i => some (i * e.2, e.2)) ((Array.range (n * e.2)).map (zv.cells[· % zv.cells.size]!)) (ps.toList.map fun p => (p.1, WG.ev env p.2)) = some ys.toArray := k1'
    simp [execOp, Instr.buildSlice, run_underlying ht, sizeOf, typeInfo, zeroValue, h12, h13, hi, hle, h0, k1'', newRow]
theorem fits_some {e n : Nat} (h : fits P e n = true) : ∃ i z, P.info? e = some i ∧ i.zero = some z ∧ z.cells.size = i.size ∧ 0 < i.bytes ∧ (2 * n + 1024) * i.bytes ≤ 281474976710656 := by
  obtain ⟨i, h1, h2⟩ := oe_t.1 h
  obtain ⟨z, h3, h4⟩ := oe_t.1 h2
  obtain ⟨h5, h6⟩ := cond_t.1 h4
  cases hb : Nat.beq i.bytes 0 with
  | true => rw [hb] at h6; cases h6
  | false =>
    rw [hb] at h6
    have := nbeq_f.1 hb
    exact ⟨i, z, h1, h3, nbeq.1 h5, by omega, Nat.le_of_ble_eq_true h6⟩
theorem fits_n {n b : Nat} (hb : 0 < b) (h : (2 * n + 1024) * b ≤ 281474976710656) : n * b ≤ 281474976710656 ∧ n ≤ 281474976710656 ∧ (n + n / 4 + 192) * b ≤ 281474976710656 := by
  have h1 : n * b ≤ (2 * n + 1024) * b := Nat.mul_le_mul_right b (by omega)
  have h2 : n * 1 ≤ n * b := Nat.mul_le_mul_left n hb
  have h3 : (n + n / 4 + 192) * b ≤ (2 * n + 1024) * b := Nat.mul_le_mul_right b (by omega)
  omega
theorem s_makeSlice {t : Nat} {n c : Operand} (hs : SE ρ X σ env) (hw : Wd X B w0 ρ M w) (h : fin M (x_makeSlice t n c cl C σ M) = .ok v M') : StepR C.P env (.makeSlice t n c) ty w (Gl X B w0 ρ M v M') := by
  obtain ⟨b, x, h1, rfl, rfl⟩ := fin_mkO h
  obtain ⟨e, h2, h3⟩ := ob_some.1 h1
  obtain ⟨z, h4, h5⟩ := ob_some.1 h3
  obtain ⟨h6, h7⟩ := cond_some.1 h5
  obtain ⟨a, h8, h9⟩ := ob_some.1 h7
  obtain ⟨m, h10, h11⟩ := ob_some.1 h9
  obtain ⟨h12, h13⟩ := cond_some.1 h11
  obtain ⟨h14, h15⟩ := cond_some.1 h13
  cases h15
  obtain ⟨ht, hz⟩ := elz_some h2
  obtain ⟨i, zv, g1, g2, g3⟩ := zeroC_some h4
  obtain ⟨i', zv', g4, g5, g6, g7, g8⟩ := fits_some h14
  rw [g1] at g4
  cases g4
  rw [g2] at g5
  cases g5
  have hi : i.size = e.2 := by
    obtain ⟨i', h15, h16⟩ := Option.map_eq_some_iff.1 hz
    rw [g1] at h15
    cases h15
    exact h16
  obtain ⟨f1, f2, _⟩ := fits_n g7 g8
  have hle := Nat.le_of_ble_eq_true h12
  obtain ⟨k1, e1⟩ := natOf_some h8
  obtain ⟨k2, e2⟩ := natOf_some h10
  have hn := (rd_R hs n).int_of e1
  have hc := (rd_R hs c).int_of e2
  have hflat : (madeCells zv.cells (m * i.size)).toList = (List.replicate m zv.cells.toList).flatten := by rw [← g6, made_flat]
  have hcs : Cs ρ X (rep m z) (madeCells zv.cells (m * i.size)).toList := by
    rw [rep_eq, hflat]
    exact (g3 ρ X).flat m
  obtain ⟨k4, k5⟩ := Post.cells (w1 := w) (ex := true) (madeCells zv.cells (m * i.size)) e.1 (0, 0) hw (.inl rfl) (.inl rfl) hcs (by rw [List.take_length]) (by simp)
  refine .val (.slice (some ⟨w.heap.size, 0, none⟩) a m) _ ?_ ⟨_, Rv.slc_mk (Rh.put_same _ _ _) hle (by have : m ≤ 281474976710656 := f2; unfold maxLen; omega) (fun _ => rfl) (fun c hc => Option.some.inj hc) (fun hc => by cases hc), k5⟩
  have hr := run_make (P := C.P) w t e.1 i zv ht g1 g2 k1 k2 (a : Int) (m : Int) (by omega) (by omega) (by
    rw [Int.mul_comm, ← Int.natCast_mul]; omega) (by omega)
  show (execOp (WG.ev env) _).run C.P w = _
  simp only [Int.toNat_natCast] at hr
  simp [execOp, hn, hc, hr]
theorem s_makeMap {t : Nat} {r : Option Operand} (hs : SE ρ X σ env) (hw : Wd X B w0 ρ M w) (h : fin M (x_makeMap t r cl C σ M) = .ok v M') : StepR C.P env (.makeMap t r) ty w (Gl X B w0 ρ M v M') := by
  obtain ⟨b, x, h1, rfl, rfl⟩ := fin_mkO h
  obtain ⟨h2, h3⟩ := cond_some.1 h1
  cases h3
  obtain ⟨k1, k2⟩ := Post.new (b := .m [] 0) (L := ⟨w.heap.size, 0, 1⟩) hw (hw.alloc (.map #[] 0)) (Nat.le_refl _) (by show w.heap.size < (w.heap.push _).size; rw [Array.size_push]; exact Nat.lt_succ_self _) ⟨⟨#[], heap_alloc_new w _, rfl, fun i h e hi => by simp at hi⟩, rfl, rfl⟩
  refine .val (.map (some w.heap.size)) _ ?_ ⟨_, .m _ _ (Rh.put_same _ _ _), k2⟩
  show (execOp (WG.ev env) _).run C.P w = _
  cases r with
  | none => simp [execOp, Instr.makeMap]
  | some x =>
    obtain ⟨d, h4, h5⟩ := oe_t.1 (show (oe (C.P.underlying t) false fun d => oe (mapD d) false fun _ => oe (intOf (rd x σ)) false fun _ => true) = true from h2)
    obtain ⟨q, h6, h7⟩ := oe_t.1 h5
    obtain ⟨k, h8, _⟩ := oe_t.1 h7
    have hu : C.P.underlying t = some (.map q.1 q.2) := by rw [h4, mapD_some h6]
    have hx := (rd_R hs x).int_of (intOf_some.1 h8)
    simp [execOp, Instr.makeMap, run_underlying hu, hx, asInt, asIntOf]
/-! Stores. -/
theorem writeO_R {r o : Nat} {cs : List V} {xs : List Value} {L : Loc} (hw : Wd X B w0 ρ M w) (hr : ρ r = some L) (hc : Cs ρ X cs xs) (h : writeO r o cs M = some M') :
    w.there L.b (L.f + o) xs.length ∧ Post X B w0 ρ M ρ M' (w.setCells L.b (L.f + o) xs) := by
  obtain ⟨q, h1, h2⟩ := ob_some.1 h
  obtain ⟨l, h3, h4⟩ := ob_some.1 h2
  cases h4
  obtain ⟨k1, k2⟩ := hw.store hr (objAt_some h1) hc h3
  refine ⟨k1, Rh.le_refl _, Nat.le_refl _, fun r' hr' hn => ⟨?_, hn⟩, k2⟩
  show (M.T.set r _).get r' = _
  rw [Tr.get_set, if_neg (fun e => by subst e; rw [hr] at hn; cases hn)]
theorem s_store {t : Nat} {a x : Operand} (hs : SE ρ X σ env) (hw : Wd X B w0 ρ M w) (h : fin M (x_store t a x cl C σ M) = .ok v M') : StepR C.P env (.store t a x) ty w (Gl X B w0 ρ M v M') := by
  obtain ⟨rfl, h1⟩ := fin_okM h
  obtain ⟨n, h2, h3⟩ := ob_some.1 h1
  obtain ⟨cs, h4, h5⟩ := ob_some.1 h3
  obtain ⟨h6, h7⟩ := cond_some.1 h5
  obtain ⟨q, h8, h9⟩ := ob_some.1 h7
  have ha := rd_R hs a
  rw [ptrOf_some.1 h8] at ha
  obtain ⟨L, hL, ha⟩ := ha.ptr
  have hc := cellsR (rd_R hs x) h4
  obtain ⟨k1, k2⟩ := writeO_R hw hL hc h9
  refine .skip _ ?_ ⟨ρ, .z, k2⟩
  obtain ⟨inf, hinf, hsz⟩ := Option.map_eq_some_iff.1 (sz_some h2)
  have hn := nbeq.1 h6
  rw [len_eq, hc.len] at hn
  have hst := run_storeCells_cells (P := C.P) L.b (L.f + q.2) (WG.ev env x).cells.toList 0 w (fun j hj => by simpa using (k1 j hj).1) (fun j hj => by simpa using (k1 j hj).2) hc.cell1
  simp only [Nat.add_zero] at hst
  have hsz' : (WG.ev env x).cells.size = inf.size := by rw [hsz, ← hn]; simp
  show (execOp (WG.ev env) _).run C.P w = _
  simp [execOp, ha, Instr.storeAt, Instr.sureAddr, storeVar, sizeOf, typeInfo, hinf, hsz', hst]
/-! Conversions. -/
theorem isBs_t {t : Nat} (h : isBs P t = true) : ∃ e, P.underlying t = some (.slice e) ∧ P.underlying e = some (.int .u8) := by
  obtain ⟨e, h1, h2⟩ := oe_t.1 h
  obtain ⟨d, h3, h4⟩ := oe_t.1 h2
  obtain ⟨k, h5, h6⟩ := oe_t.1 h4
  obtain ⟨d', h7, h8⟩ := ob_some.1 h1
  have hk : k = .u8 := by
    have := nbeq.1 h6
    cases k <;> first | rfl | (exact absurd this (by decide))
  subst hk
  exact ⟨e, by rw [h7, elemD_some h8], by rw [h3, intD_some h5]⟩
theorem und_t {t : Nat} (h : oe (P.underlying t) false (fun _ => true) = true) : ∃ d, P.underlying t = some d := by
  obtain ⟨d, h1, _⟩ := oe_t.1 h
  exact ⟨d, h1⟩
theorem byteOf_some {u : V} {b : Nat} (h : byteOf u = some b) : u = .i .u8 (b : Int) ∧ b < 256 := by
  obtain ⟨q, h1, h2⟩ := ob_some.1 h
  obtain ⟨h3, h4⟩ := cond_some.1 h2
  obtain ⟨n, h5, h6⟩ := ob_some.1 h4
  obtain ⟨h7, h8⟩ := cond_some.1 h6
  cases h8
  rw [Nat.blt_eq] at h7
  have hk : q.1 = .u8 := by
    have := nbeq.1 h3
    cases hq : q.1 <;> rw [hq] at this <;> first | rfl | (exact absurd this (by decide))
  rw [intOf_some.1 h1, hk, natI_some.1 h5]
  exact ⟨rfl, h7⟩
theorem bytes_cells {l : List V} {bs : List Nat} {xs : List Value} (h : bytesOf l = some bs) (hc : RL ρ X l xs) : ∃ us : List UInt8, xs = us.map (fun u => Value.int .u8 (u.toNat : Int)) ∧ bs = us.map UInt8.toNat := by
  obtain ⟨h1, h2⟩ := mpo_some h
  refine ⟨bs.map UInt8.ofNat, ?_, ?_⟩
  · apply List.ext_getElem?
    intro n
    rw [List.getElem?_map, List.getElem?_map]
    cases hn : l[n]? with
    | none =>
      have e1 : xs[n]? = none := by rw [List.getElem?_eq_none_iff] at hn ⊢; rw [← hc.len]; exact hn
      have e2 : bs[n]? = none := by rw [List.getElem?_eq_none_iff] at hn ⊢; omega
      rw [e1, e2]; rfl
    | some u =>
      obtain ⟨b, h3, h4⟩ := h2 n u hn
      obtain ⟨rfl, h5⟩ := byteOf_some h4
      obtain ⟨x, h6, h7⟩ := hc.get hn
      rw [h6, h3, h7.int]
      simp [Nat.mod_eq_of_lt h5]
  · rw [List.map_map]
    have hb : ∀ b ∈ bs, b < 256 := fun b hb => by
      obtain ⟨n, hn, rfl⟩ := List.getElem_of_mem hb
      obtain ⟨b', h3, h4⟩ := h2 n l[n] (List.getElem?_eq_getElem (by omega))
      rw [List.getElem?_eq_getElem hn] at h3
      cases h3
      exact (byteOf_some h4).2
    clear h1 h2 h hc
    induction bs with
    | nil => rfl
    | cons b bs ih =>
      have h5 := hb b List.mem_cons_self
      rw [List.map_cons, ← ih fun c hc => hb c (List.mem_cons_of_mem _ hc)]
      simp [Nat.mod_eq_of_lt h5]
end
end Go.CE
