/- What one operation comes to: conversions of strings, what is built in. -/
import Derived.Test.YtnlpmnegjgjiiaaGreatDoorEf
namespace Go.CE
open Go Go.RowKit
set_option linter.all false
section
variable {C : Cfg} {cl : CallF} {X : Nat → Value} {B : Nat} {w0 w w1 : World} {ρ : Rh} {M M' : Mem} {σ : Sl} {env : WG.Env} {ty : TypeId} {v : V} {y : Value} {P : Program}
theorem fin_c {q : Cr} (h : fin M (.c q) = .ok v M') : q = .ok v M' := h
theorem fin_v {u : V} (h : fin M (.v u) = .ok v M') : v = u ∧ M' = M := by cases h; exact ⟨rfl, rfl⟩
theorem fin_n {b : Ob} {u : V} (h : fin M (.n b u) = .ok v M') : v = ao M.nx u ∧ M' = ⟨M.T.set M.nx b, M.nx + 1⟩ := by cases h; exact ⟨rfl, rfl⟩
theorem fin_oe {α : Type} {q : Option α} {f : α → Out} (h : fin M (oe q no f) = .ok v M') : ∃ a, q = some a ∧ fin M (f a) = .ok v M' := by
  cases q with
  | none => cases h
  | some a => exact ⟨a, rfl, h⟩
theorem fin_cond {b : Bool} {x : Out} (h : fin M (cond b x no) = .ok v M') : b = true ∧ fin M x = .ok v M' := by
  cases b with
  | true => exact ⟨rfl, h⟩
  | false => cases h
theorem fin_condn {b : Bool} {x : Out} (h : fin M (cond b no x) = .ok v M') : b = false ∧ fin M x = .ok v M' := by
  cases b with
  | false => exact ⟨rfl, h⟩
  | true => cases h
theorem bytes_str {us : List UInt8} : bytesL ⟨us.toArray⟩ = us.map UInt8.toNat := rfl
theorem s_convert {s d : Nat} {x : Operand} (hs : SE ρ X σ env) (hw : Wd X B w0 ρ M w) (h : fin M (x_convert s d x cl C σ M) = .ok v M') : StepR C.P env (.convert s d x) ty w (Gl X B w0 ρ M v M') := by
  obtain ⟨dd, hd, h1⟩ := fin_oe (show fin M (oe (C.P.underlying d) no fun dd => cond (strD dd) (lt (convS C.P s (rd x σ) M)) (oe (intD dd) (hv M (mkO (convB C.P s d (rd x σ)))) fun k => lt (cond (oe (C.P.underlying s) false fun _ => true) (convI k (rd x σ)) none))) = .ok v M' from h)
  have hr := rd_R hs x
  cases hst : strD dd with
  | true =>
    rw [hst] at h1
    obtain ⟨h2, h3⟩ := fin_lt (show fin M (lt (convS C.P s (rd x σ) M)) = .ok v M' from h1)
    rw [strD_t hst] at hd
    unfold convS at h2
    cases hx : strOf (rd x σ) with
    | some l =>
      rw [hx] at h2
      obtain ⟨h4, h5⟩ := cond_some.1 (show cond (oe (C.P.underlying s) false fun _ => true) (some (rd x σ)) none = some v from h2)
      cases h5
      obtain ⟨ds, hds⟩ := und_t h4
      refine pureS hw h3 ?_ hr
      rw [strOf_some.1 hx] at hr
      obtain ⟨b, hb, _⟩ := hr.str
      show (execOp (WG.ev env) _).run C.P w = _
      cases ds <;> simp [execOp, hb, convert, run_underlying hds, run_underlying hd]
    | none =>
      rw [hx] at h2
      obtain ⟨h4, h5⟩ := cond_some.1 (show cond (isBs C.P s) (cond (isLn (rd x σ)) (some (V.s [])) (ob (slcOf (rd x σ)) fun q => ob (cellsAt M q.r q.o q.n) fun l => ob (bytesOf l) fun b => some (.s b))) none = some v from h2)
      obtain ⟨e, he1, he2⟩ := isBs_t h4
      cases hn : isLn (rd x σ) with
      | true =>
        rw [hn] at h5
        have h6 : some (V.s []) = some v := h5
        cases h6
        rw [isLn_t.1 hn] at hr
        refine pureS hw h3 (y := .string ByteArray.empty) ?_ (.s ByteArray.empty)
        have hb := hr.lnil
        show (execOp (WG.ev env) _).run C.P w = _
        simp [execOp, hb, run_convert_bytes_string w s d e none 0 0 he1 he2 hd, Conv.bytesToString]
      | false =>
        rw [hn] at h5
        obtain ⟨q, h6, h7⟩ := ob_some.1 (show (ob (slcOf (rd x σ)) fun q => ob (cellsAt M q.r q.o q.n) fun l => ob (bytesOf l) fun b => some (V.s b)) = some v from h5)
        obtain ⟨l, h8, h9⟩ := ob_some.1 h7
        obtain ⟨bs, h10, h11⟩ := ob_some.1 h9
        cases h11
        rw [slcOf_some.1 h6] at hr
        obtain ⟨L, a, c, hL, hb, hnc, ha, _⟩ := hr.slc
        obtain ⟨xs, k1, k2, k3⟩ := hw.read hL h8
        obtain ⟨us, rfl, rfl⟩ := bytes_cells h10 k1.toRL
        rw [List.length_map] at k3
        have hload : (loadCells a q.n).run C.P w = .ok ((us.map (fun b => (b.toNat : Int))).map (Value.int .u8)).toArray w := by
          have hcell : ∀ j u, (us.map (fun u => Value.int .u8 (u.toNat : Int)))[j]? = some u → w.cell? (a.add j) = some u := fun j u hj => by
            have hjl : j < us.length := by
              have := (List.getElem?_eq_some_iff.1 hj).1
              simpa using this
            rw [ha (by omega), WG.add_of]
            exact k2 j u hj
          have := run_loadCells_list (P := C.P) w a (us.map (fun u => Value.int .u8 (u.toNat : Int))) hcell
          rw [List.length_map, k3] at this
          rw [this, List.map_map]
          rfl
        refine pureS hw h3 (y := .string ⟨us.toArray⟩) ?_ (by rw [← bytes_str]; exact .s _)
        have h12 := run_bytesToString (P := C.P) w a q.n c _ hload
        rw [foldl_push_byteCells] at h12
        show (execOp (WG.ev env) _).run C.P w = _
        simp [execOp, hb, run_convert_bytes_string w s d e (some a) q.n c he1 he2 hd, h12]
  | false =>
    rw [hst] at h1
    cases hi : intD dd with
    | some k =>
      have h2 : fin M (oe (intD dd) (hv M (mkO (convB C.P s d (rd x σ)))) fun k => lt (cond (oe (C.P.underlying s) false fun _ => true) (convI k (rd x σ)) none)) = .ok v M' := h1
      rw [hi] at h2
      obtain ⟨h3, h4⟩ := fin_lt (show fin M (lt (cond (oe (C.P.underlying s) false fun _ => true) (convI k (rd x σ)) none)) = .ok v M' from h2)
      obtain ⟨h5, h6⟩ := cond_some.1 h3
      obtain ⟨q, h7, h8⟩ := ob_some.1 h6
      cases h8
      obtain ⟨ds, hds⟩ := und_t h5
      rw [intD_some hi] at hd
      rw [intK_eq]
      exact pureS hw h4 (WG.Yl.conv (hr.int_of (intOf_some.1 h7)) hds hd rfl) (.i _ _)
    | none =>
      have h2 : fin M (oe (intD dd) (hv M (mkO (convB C.P s d (rd x σ)))) fun k => lt (cond (oe (C.P.underlying s) false fun _ => true) (convI k (rd x σ)) none)) = .ok v M' := h1
      rw [hi] at h2
      obtain ⟨b, x', h3, rfl, rfl⟩ := fin_mkO (show fin M (mkO (convB C.P s d (rd x σ))) = .ok v M' from h2)
      obtain ⟨h4, h5⟩ := cond_some.1 h3
      obtain ⟨h6, h7⟩ := cond_some.1 h5
      obtain ⟨l, h8, h9⟩ := ob_some.1 h7
      obtain ⟨h9', h9⟩ := cond_some.1 h9
      have h40 := Nat.le_of_ble_eq_true h9'
      cases h9
      obtain ⟨e, he1, he2⟩ := isBs_t h4
      obtain ⟨ds, hds, h6'⟩ := oe_t.1 h6
      rw [strOf_some.1 h8] at hr
      obtain ⟨sb, hb, rfl⟩ := hr.str
      rw [len_eq, bytesL_len] at h40
      -- the new row
      have hl : (bytesRow sb (grownCap w sb.size 0 e)).toList.take sb.size = byteCells sb := by
        unfold bytesRow byteCells
        simp only [Array.toList_append, Array.toList_map]
        rw [List.take_left' (by simp)]
      have hge : sb.size ≤ grownCap w sb.size 0 e := grownCap_ge _ _ _ _
      have hsz : (bytesRow sb (grownCap w sb.size 0 e)).size = grownCap w sb.size 0 e := by
        unfold bytesRow
        simp
        have : sb.data.size = sb.size := rfl
        try omega
      have hcs : Cs ρ X (bytesV (bytesL sb)) (byteCells sb) := by
        have e1 : bytesV (bytesL sb) = sb.data.toList.map fun b => V.i .u8 (b.toNat : Int) := by
          unfold bytesV bytesL
          rw [mp_eq, List.map_map]
          rfl
        rw [e1]
        exact ⟨RL.map _ fun b _ => .i _ _, fun u hu => by
          obtain ⟨b, _, rfl⟩ := List.mem_map.1 hu
          rfl⟩
      obtain ⟨k1, k2⟩ := Post.cells (w1 := w.drew) (ex := false) (bytesRow sb (grownCap w sb.size 0 e)) e ((bytesRow sb (grownCap w sb.size 0 e)).size, (bytesRow sb (grownCap w sb.size 0 e)).size + 1) hw (.inr rfl) (.inr (Nat.le_refl _)) hcs (by rw [byteCells_length, hl]) (fun h => by cases h)
      refine .val (.slice (some ⟨w.heap.size, 0, none⟩) sb.size (grownCap w sb.size 0 e)) _ ?_ ⟨_, ?_, k2⟩
      · show (execOp (WG.ev env) _).run C.P w = _
        have key := run_bytes_of_string (P := C.P) w s d e sb (by rw [hds, strD_t h6']) he1 he2
        simp [execOp, hb, key]
      · show Rv _ X (V.l M.nx 0 (len (bytesL sb)) none 1) _
        rw [len_eq, bytesL_len]
        exact Rv.slc_mk (Rh.put_same _ _ _) hge (grownCap_le_maxLen _ _ _ _ (by unfold maxLen; omega)) (fun _ => rfl) (fun c hc => by cases hc) (fun _ => by show 0 + _ * 1 = (bytesRow sb _).size; rw [hsz]; omega)
end
end Go.CE
