/- Events: what makes memory or writes it: a literal, make, append, a store into a row of one's own, a variable. -/
import Derived.Test.YtnlpmnegjgjiiaaGreatDoorLe
import Derived.Laws.MakeOwn
namespace Go.WG
open Go.RowKit
/-- a type's zero value, cells and bytes -/
def TI (P : Program) (e : TypeId) (z : Value) (sz by_ : Nat) : Prop := (P.info? e).map (fun i => (i.zero, i.size, i.bytes)) = some (some z, sz, by_)
section
variable {P : Program} {e : TypeId} {z : Value} {sz by_ : Nat}
theorem TI.get (h : TI P e z sz by_) : ∃ i, P.info? e = some i ∧ i.zero = some z ∧ i.size = sz ∧ i.bytes = by_ := by
  obtain ⟨i, hi, he⟩ := Option.map_eq_some_iff.1 h
  simp only [Prod.mk.injEq] at he
  exact ⟨i, hi, he⟩
end
theorem fold_set (off : Nat) : ∀ (us : List Value) (i : Nat) (a : List Value), off + i + us.length ≤ a.length →
    (us.zipIdx i).foldl (fun (cs : Array Value) (x : Value × Nat) => cs.setIfInBounds (off + x.2) x.1) a.toArray = (a.take (off + i) ++ us ++ a.drop (off + i + us.length)).toArray
  | [], i, a, h => by simp
  | u :: us, i, a, h => by
    have hk : off + i < a.length := by rw [List.length_cons] at h; omega
    rw [List.zipIdx_cons, List.foldl_cons]
    have e0 : a.toArray.setIfInBounds (off + i) u = (a.set (off + i) u).toArray := by simp
    simp only [e0]
    rw [fold_set off us (i + 1) (a.set (off + i) u) (by rw [List.length_set]; rw [List.length_cons] at h; omega)]
    congr 1
    rw [← Nat.add_assoc, List.take_set, List.drop_set_of_lt (by omega), List.length_cons, List.take_succ_eq_append_getElem hk, List.set_append_right _ _ (by rw [List.length_take]; omega)]
    have : off + i - (a.take (off + i)).length = 0 := by rw [List.length_take]; omega
    rw [this]
    simp [Nat.add_comm 1 us.length, Nat.add_assoc]
theorem fill_one (off : Nat) (us a : List Value) (h : off + us.length ≤ a.length) :
    us.toArray.zipIdx.foldl (fun (cs : Array Value) (x : Value × Nat) => cs.setIfInBounds (off + x.2) x.1) a.toArray = (a.take off ++ us ++ a.drop (off + us.length)).toArray := by
  have := fold_set off us 0 a (by simpa using h)
  rw [← Array.foldl_toList]
  simpa using this
theorem fill_cons (place : Nat → Option (Nat × Nat)) (i off : Nat) (v : Value) (rest : List (Nat × Value)) (us a : List Value) (hv : v.cells = us.toArray) (hp : place i = some (off, us.length)) (h : off + us.length ≤ a.length) :
    Instr.fill place a.toArray ((i, v) :: rest) = Instr.fill place (a.take off ++ us ++ a.drop (off + us.length)).toArray rest := by
  have hn : ¬ (off + us.length > a.length) := by omega
  simp only [Instr.fill, hp, hv, List.size_toArray]
  rw [if_neg (by simp; omega)]
  congr 1
  exact fill_one off us a h
theorem growBy_le (n : Nat) : ∀ (r c : Nat), c ≤ n + (n + 768) / 4 → Builtin.growBy n r c ≤ n + (n + 768) / 4
  | 0, c, h => h
  | r + 1, c, h => by
    unfold Builtin.growBy
    split
    · exact h
    · exact growBy_le n r _ (by omega)
theorem nextslicecap_small {n c b : Nat} (hc : c < n) (h : (n + n / 4 + 192) * b ≤ 281474976710656) : ¬ (281474976710656 < Builtin.nextslicecap n c * b) := by
  have hle : Builtin.nextslicecap n c ≤ n + n / 4 + 192 := by
    unfold Builtin.nextslicecap
    split
    · omega
    · split
      · omega
      · have := growBy_le n 4 c (by omega)
        omega
  have h2 := Nat.mul_le_mul_right b hle
  omega
theorem run_append_grow {P : Program} (w : World) (t ty e : TypeId) (i : TypeInfo) (z : Value) (ht : P.underlying t = some (.slice e)) (hi : P.info? e = some i) (hz : i.zero = some z) (A B : Option Addr) (n c m cb : Nat) (hroom : ¬ n + m ≤ c) (hlen : n + m ≤ 9223372036854775807)
    (hcap : ¬ (281474976710656 < Builtin.nextslicecap (n + m) c * i.bytes)) (old new : Array Value) (ho : (Builtin.firstCells i.size n (.slice A n c)).run P w.drew = .ok old w.drew) (hn : (Builtin.firstCells i.size m (.slice B m cb)).run P w.drew = .ok new w.drew) :
    (Builtin.append_ #[t, t] ty #[.slice A n c, .slice B m cb]).run P w = .ok (.slice (some ⟨w.heap.size, 0, none⟩) (n + m) (grownCap w (n + m) c e)) (w.drew.alloc (.cells (old ++ new ++ Builtin.zeroCells z.cells (grownCap w (n + m) c e - (n + m))) e)) := by
  have h63 : ¬ ((9223372036854775807 : Int) < (n : Int) + (m : Int)) := by omega
  simp [Builtin.append_, run_underlying ht, sizeOf, typeInfo, hi, Builtin.lenOf, hroom, hcap, zeroValue, hz, ho, hn, newRow, grownCap, Question.forced, IntKind.max, IntKind.bits, IntKind.signed, h63]
section
variable {P : Program} {w0 w : World} {F0 F : CH} {D : Nat → Nat → Prop} {ps ps1 ps2 : List CH}
/-- Cells are stored, one behind the other, into a row of one's own. -/
theorem run_stores (g base : Nat) : ∀ (vs : List Value) (i : Nat) (w : World) (off k : Nat) (cs : List Value), Ctx w0 F0 D w F (ps1 ++ CH.row g off cs :: ps2) → base + i = off + k → k + vs.length ≤ cs.length → (∀ u ∈ vs, u.oneCell' = true) →
    ∃ w', (storeCells ⟨g, base, none⟩ vs i).run P w = .ok () w' ∧ Ctx w0 F0 D w' F (ps1 ++ CH.row g off (cs.take k ++ vs ++ cs.drop (k + vs.length)) :: ps2)
  | [], i, w, off, k, cs, C, hb, hk, _ => ⟨w, rfl, by simpa using C⟩
  | v :: vs, i, w, off, k, cs, C, hb, hk, h1 => by
    have hk' : k < cs.length := by rw [List.length_cons] at hk; omega
    have ho := Ctx.own_of ps1 ps2 C g (off + k) (.v cs[k]) (by rw [CH.row_at]; simp [hk'])
    have hoc := look_v.1 ho.1
    have C1 := Ctx.setRow ps1 ps2 k v hk' C
    have hv : v.oneCell' = true := h1 v (by simp)
    obtain ⟨w', hr, C2⟩ := run_stores g base vs (i + 1) (w.setCell ⟨g, off + k, none⟩ v) off (k + 1) (cs.set k v) C1 (by omega) (by rw [List.length_set]; rw [List.length_cons] at hk; omega) (fun u hu => h1 u (by simp [hu]))
    refine ⟨w', ?_, ?_⟩
    · have hst : (store ((⟨g, base, none⟩ : Addr).add i) v).run P w = .ok () (w.setCell ⟨g, off + k, none⟩ v) := by
        rw [add_of, hb, run_store P w _ v _ hv]
        simp [hoc, ho.2]
      simp [storeCells, hst, hr]
    · have he : (cs.set k v).take (k + 1) ++ vs ++ (cs.set k v).drop (k + 1 + vs.length) = cs.take k ++ (v :: vs) ++ cs.drop (k + (v :: vs).length) := by
        rw [List.take_set, List.drop_set_of_lt (by omega), List.length_cons, List.take_succ_eq_append_getElem hk', List.set_append_right _ _ (by rw [List.length_take]; omega)]
        have : k - (cs.take k).length = 0 := by rw [List.length_take]; omega
        rw [this]
        simp [Nat.add_comm 1 vs.length, Nat.add_assoc]
      rw [he] at C2
      exact C2

theorem take_drop_mid (a b c : List Value) (n m : Nat) (ha : a.length = n) (hb : b.length = m) : ((a ++ b ++ c).drop n).take m = b := by
  subst ha; subst hb
  rw [List.append_assoc, List.drop_left, List.take_left]
/-- A new row. -/
theorem Row.fresh {α : Type} {K : Kd α} (xs : List α) (cs : List Value) (g cap : Nat) (hc : cs.length = cap * K.sz) (hn : xs.length ≤ cap) (hm : cap ≤ maxLen) (h1 : ∀ u ∈ cs, u.oneCell' = true) (he : Els K F xs cs) :
    Row K F (CH.row g 0 cs) (.slice (some ⟨g, 0, none⟩) xs.length cap) xs := .inr ⟨g, 0, cap, cs, rfl, hn, hm, rfl, hc, h1, he⟩
theorem Els.one {α : Type} {K : Kd α} {x : α} {cs : List Value} (h : K.rep F x cs) : Els K F [x] cs := by
  have hl := K.len h
  refine ⟨by simp [hl], fun j y hj => ?_⟩
  cases j with
  | zero =>
    simp at hj
    subst hj
    rw [Nat.zero_mul, List.drop_zero, List.take_of_length_le (by omega)]
    exact h
  | succ j => simp at hj
theorem Els.nil {α : Type} (K : Kd α) (F : CH) (cs : List Value) : Els K F [] cs := ⟨by simp, fun j y hj => by simp at hj⟩
theorem Els.cons {α : Type} {K : Kd α} {x : α} {xs : List α} {cs ds : List Value} (h : K.rep F x cs) (k : Els K F xs ds) : Els K F (x :: xs) (cs ++ ds) := by
  have := Els.append (xs := [x]) (ys := xs) (more := []) (Els.one h) (by simp [K.len h]) k
  simpa using this
/-- []T{x}: the row of a variadic's one element, or a literal of one. -/
theorem ev_lit1 (e : TypeId) {α : Type} (K : Kd α) {t : TypeId} {z : Value} {by_ : Nat} (C : Ctx w0 F0 D w F ps) (ht : P.underlying t = some (.slice e)) (hi : TI P e z K.sz by_) (hs : 0 < K.sz ∧ K.sz ≤ 16777216) (y : α) (v : Value) (hy : K.rep F y v.cells.toList) :
    ∃ A c p w', (∀ (env : Env) (x : Operand) (ty : TypeId), ev env x = v → Yl P env (.buildSlice t 1 #[(0, x)]) ty w (.slice A [y].length c) w') ∧ Ctx w0 F0 D w' F (p :: ps) ∧ Row K F p (.slice A [y].length c) [y] := by
  obtain ⟨i, hinf, hz0, hz1, hz2⟩ := hi.get
  have hl : v.cells.size = K.sz := by have := K.len hy; simpa using this
  refine ⟨some ⟨w.heap.size, 0, none⟩, 1, _, w.alloc (.cells v.cells e), fun env x ty hx => ?_, C.alloc v.cells e, ?_⟩
  · show (execOp (ev env) _).run P w = _
    have hfill : Instr.fill (fun i => some (i * K.sz, K.sz)) ((Array.range K.sz).map (fun q => z.cells[q % z.cells.size]!)) [(0, v)] = some v.cells := by
      have ha : (Array.range K.sz).map (fun q => z.cells[q % z.cells.size]!) = ((Array.range K.sz).map (fun q => z.cells[q % z.cells.size]!)).toList.toArray := by simp only [Array.toArray_toList]
      have hal : ((Array.range K.sz).map (fun q => z.cells[q % z.cells.size]!)).toList.length = K.sz := by simp
      have hll : v.cells.toList.length = K.sz := by simpa using hl
      rw [ha, fill_cons _ 0 0 v [] v.cells.toList _ (by simp) (by simp [hl]) (by omega)]
      simp only [Instr.fill]
      congr 1
      rw [List.take_zero, List.nil_append, List.drop_eq_nil_of_le (by omega), List.append_nil]
    have hne : ¬ (16777216 < K.sz) := by omega
    have hne2 : ¬ K.sz = 0 := by omega
    simp [execOp, hx, Instr.buildSlice, run_underlying ht, sizeOf, zeroValue, typeInfo, hinf, hz0, hz1, hne, hne2, hfill, newRow]
  · exact Row.fresh [y] v.cells.toList w.heap.size 1 (by simpa using hl) (by simp) (by simp [maxLen]) (K.one hy) (Els.one hy)

/-- A literal's parts, one behind the other. -/
def mkParts {β : Type} : Nat → List β → List (Nat × β)
  | _, [] => []
  | i, x :: xs => (i, x) :: mkParts (i + 1) xs
theorem mkParts_map {β γ : Type} (f : β → γ) : ∀ (xs : List β) (i : Nat), (mkParts i xs).map (fun p => (p.1, f p.2)) = mkParts i (xs.map f)
  | [], _ => rfl
  | x :: xs, i => by simp [mkParts, mkParts_map f xs (i + 1)]
theorem partsE {env : Env} {xs : List Operand} {vs : List Value} (h : Evs env xs vs) (i : Nat) : (mkParts i xs).map (fun p => (p.1, ev env p.2)) = mkParts i vs := by
  rw [mkParts_map]
  congr 1
  induction h with
  | nil => rfl
  | cons h _ ih => rw [List.map_cons, h, ih]
inductive Reps {α : Type} (K : Kd α) (F : CH) : List α → List Value → Prop
  | nil : Reps K F [] []
  | cons {y : α} {v : Value} {ys : List α} {vs : List Value} (h : K.rep F y v.cells.toList) (t : Reps K F ys vs) : Reps K F (y :: ys) (v :: vs)
theorem Reps.len {α : Type} {K : Kd α} {ys : List α} {vs : List Value} (h : Reps K F ys vs) : ys.length = vs.length := by
  induction h with
  | nil => rfl
  | cons _ _ ih => simp [ih]
theorem Reps.els {α : Type} {K : Kd α} {ys : List α} {vs : List Value} (h : Reps K F ys vs) : Els K F ys (vs.flatMap (·.cells.toList)) ∧ (vs.flatMap (·.cells.toList)).length = ys.length * K.sz ∧ ∀ u ∈ vs.flatMap (·.cells.toList), u.oneCell' = true := by
  induction h with
  | nil => exact ⟨Els.nil _ _ _, by simp, fun u hu => by simp at hu⟩
  | cons h _ ih =>
    refine ⟨by rw [List.flatMap_cons]; exact Els.cons h ih.1, by rw [List.flatMap_cons, List.length_append, K.len h, ih.2.1, List.length_cons, Nat.add_mul, Nat.one_mul, Nat.add_comm], fun u hu => ?_⟩
    rw [List.flatMap_cons] at hu
    rcases List.mem_append.1 hu with hu | hu
    · exact K.one h u hu
    · exact ih.2.2 u hu
theorem fill_row {α : Type} {K : Kd α} : ∀ {ys : List α} {vs : List Value}, Reps K F ys vs → ∀ (i : Nat) (a : List Value), (i + vs.length) * K.sz ≤ a.length →
    Instr.fill (fun i => some (i * K.sz, K.sz)) a.toArray (mkParts i vs) = some (a.take (i * K.sz) ++ vs.flatMap (·.cells.toList) ++ a.drop ((i + vs.length) * K.sz)).toArray := by
  intro ys vs h
  induction h with
  | nil => intro i a _; simp [mkParts, Instr.fill]
  | @cons y v ys vs h t ih =>
    intro i a ha
    have hl : v.cells.toList.length = K.sz := K.len h
    rw [List.length_cons] at ha
    have hle : i * K.sz + K.sz ≤ a.length := Nat.le_trans (by rw [← Nat.succ_mul]; exact Nat.mul_le_mul_right _ (by omega)) ha
    simp only [mkParts]
    rw [fill_cons _ i (i * K.sz) v _ v.cells.toList a (by simp) (by simp [hl]) (by omega)]
    have hle2 : (i + 1 + vs.length) * K.sz ≤ a.length := by rw [show i + 1 + vs.length = i + (vs.length + 1) from by omega]; exact ha
    rw [ih (i + 1) _ (by simp only [List.length_append, List.length_take, List.length_drop, hl]; omega)]
    congr 2
    have e1 : (i + 1) * K.sz = i * K.sz + K.sz := Nat.succ_mul _ _
    have hlt : (a.take (i * K.sz) ++ v.cells.toList).length = (i + 1) * K.sz := by rw [List.length_append, List.length_take, hl, e1]; omega
    rw [← hlt, List.take_left, List.flatMap_cons, List.length_cons]
    have hge : (a.take (i * K.sz) ++ v.cells.toList).length ≤ (i + 1 + vs.length) * K.sz := by rw [hlt]; exact Nat.mul_le_mul_right _ (by omega)
    rw [List.drop_append, List.drop_eq_nil_of_le hge, List.nil_append, hlt, List.drop_drop, ← List.append_assoc, hl]
    congr 2
    rw [e1, show i + (vs.length + 1) = i + 1 + vs.length from by omega]
    have : (i + 1) * K.sz ≤ (i + 1 + vs.length) * K.sz := Nat.mul_le_mul_right _ (by omega)
    rw [e1] at this
    omega
theorem ev_lit (e : TypeId) {α : Type} (K : Kd α) {t : TypeId} {z : Value} {by_ : Nat} (C : Ctx w0 F0 D w F ps) (ht : P.underlying t = some (.slice e)) (hi : TI P e z K.sz by_) (hs : 0 < K.sz) (ys : List α) (vs : List Value) (hy : Reps K F ys vs) (n : Nat) (hn : n = vs.length) (hpos : 0 < n) (hsm : n * K.sz ≤ 16777216) :
    ∃ A c p w', (∀ (env : Env) (xs : List Operand) (ty : TypeId), Evs env xs vs → Yl P env (.buildSlice t n (mkParts 0 xs).toArray) ty w (.slice A ys.length c) w') ∧ Ctx w0 F0 D w' F (p :: ps) ∧ Row K F p (.slice A ys.length c) ys := by
  obtain ⟨i, hinf, hz0, hz1, hz2⟩ := hi.get
  obtain ⟨h1, h2, h3⟩ := hy.els
  have hl := hy.len
  subst hn
  refine ⟨some ⟨w.heap.size, 0, none⟩, ys.length, _, w.alloc (.cells (vs.flatMap (·.cells.toList)).toArray e), fun env xs ty hx => ?_, C.alloc _ e, ?_⟩
  · show (execOp (ev env) _).run P w = _
    have ha : (Array.range (vs.length * K.sz)).map (fun q => z.cells[q % z.cells.size]!) = ((Array.range (vs.length * K.sz)).map (fun q => z.cells[q % z.cells.size]!)).toList.toArray := by simp only [Array.toArray_toList]
    have hal : ((Array.range (vs.length * K.sz)).map (fun q => z.cells[q % z.cells.size]!)).toList.length = vs.length * K.sz := by simp
    have hfill : Instr.fill (fun i => some (i * K.sz, K.sz)) ((Array.range (vs.length * K.sz)).map (fun q => z.cells[q % z.cells.size]!)) (mkParts 0 vs) = some (vs.flatMap (·.cells.toList)).toArray := by
      rw [ha, fill_row hy 0 _ (by rw [hal, Nat.zero_add]; exact Nat.le_refl _)]
      congr 2
      rw [Nat.zero_mul, List.take_zero, List.nil_append, List.drop_eq_nil_of_le (by rw [hal, Nat.zero_add]; exact Nat.le_refl _), List.append_nil]
    have hne : ¬ (16777216 < vs.length * K.sz) := by omega
    have hne2 : ¬ vs.length * K.sz = 0 := by have := Nat.mul_pos hpos hs; omega
    have hp := partsE hx 0
    have hparts : ((mkParts 0 xs).toArray.map fun (p : Nat × Operand) => (p.1, ev env p.2)) = (mkParts 0 vs).toArray := by rw [List.map_toArray, hp]
    simp [execOp, hp, Instr.buildSlice, run_underlying ht, sizeOf, zeroValue, typeInfo, hinf, hz0, hz1, hne, hne2, hfill, newRow, hl]
  · exact Row.fresh ys _ w.heap.size ys.length (by simpa using h2) (Nat.le_refl _) (by simp only [maxLen]; have : vs.length * 1 ≤ vs.length * K.sz := Nat.mul_le_mul_left _ hs; omega) (by simpa using h3) (by simpa using h1)
/-- make([]T, n) -/
theorem ev_make (e : TypeId) {α : Type} (K : Kd α) {t : TypeId} {z : Value} {by_ : Nat} (C : Ctx w0 F0 D w F ps) (ht : P.underlying t = some (.slice e)) (hi : TI P e z K.sz by_) (d : α) (hz : K.rep F d z.cells.toList) (hby : 0 < by_) (n : Int) (hn : 0 ≤ n ∧ n * by_ ≤ 140737488355328) :
    ∃ A c p w', (∀ (env : Env) (x y : Operand) (k k' : IntKind) (ty : TypeId), ev env x = .int k n → ev env y = .int k' n → Yl P env (.makeSlice t x y) ty w (.slice A (List.replicate n.toNat d).length c) w') ∧ Ctx w0 F0 D w' F (p :: ps) ∧ Row K F p (.slice A (List.replicate n.toNat d).length c) (List.replicate n.toNat d) := by
  obtain ⟨i, hinf, hz0, hz1, hz2⟩ := hi.get
  have hlen : z.cells.toList.length = K.sz := K.len hz
  have hnb : n ≤ 140737488355328 := by
    have : n * 1 ≤ n * by_ := Int.mul_le_mul_of_nonneg_left (by omega) hn.1
    omega
  have hcs : ∀ m, (madeCells z.cells (m * K.sz)).toList = (List.replicate m z.cells.toList).flatten := fun m => by
    apply List.ext_getElem?
    intro q
    by_cases hq : q < m * K.sz
    · have h0 : 0 < K.sz := by
        rcases Nat.eq_zero_or_pos K.sz with h | h
        · rw [h, Nat.mul_zero] at hq; omega
        · exact h
      have hmod : q % K.sz < K.sz := Nat.mod_lt _ h0
      have hsz : z.cells.size = K.sz := by simpa using hlen
      have e1 : (madeCells z.cells (m * K.sz)).toList[q]? = some z.cells[q % K.sz]! := by
        simp [madeCells, hq, hsz]
      rw [e1]
      have e2 : ((List.replicate m z.cells.toList).flatten)[q]? = z.cells.toList[q % K.sz]? := by
        rw [← hlen]
        rw [← hlen] at hq h0
        clear e1 hmod
        induction m generalizing q with
        | zero => rw [Nat.zero_mul] at hq; omega
        | succ m ih =>
          rw [List.replicate_succ, List.flatten_cons]
          by_cases hlt : q < z.cells.toList.length
          · rw [List.getElem?_append_left hlt, Nat.mod_eq_of_lt hlt]
          · have e3 : (m + 1) * z.cells.toList.length = m * z.cells.toList.length + z.cells.toList.length := Nat.succ_mul _ _
            rw [List.getElem?_append_right (by omega), ih (q - z.cells.toList.length) (by omega)]
            congr 1
            exact (Nat.mod_eq_sub_mod (by omega)).symm
      rw [e2, List.getElem?_eq_getElem (by omega)]
      congr 1
      simp [hsz, hmod]
    · rw [List.getElem?_eq_none (by simp [madeCells]; omega), List.getElem?_eq_none (by simp [hlen]; omega)]
  have hels : ∀ m, Els K F (List.replicate m d) ((List.replicate m z.cells.toList).flatten) := fun m => by
    induction m with
    | zero => exact Els.nil _ _ _
    | succ m ih => rw [List.replicate_succ, List.replicate_succ, List.flatten_cons]; exact Els.cons hz ih
  refine ⟨some ⟨w.heap.size, 0, none⟩, n.toNat, _, w.alloc (.cells (madeCells z.cells (n.toNat * i.size)) e), fun env x y k k' ty hx hy => ?_, C.alloc _ e, ?_⟩
  · show (execOp (ev env) _).run P w = _
    have := run_make (P := P) w t e i z ht hinf hz0 k k' n n hn.1 (by omega) (by rw [hz2, Int.mul_comm]; omega) (by omega)
    simp [execOp, hx, hy, this]
  · rw [hz1, hcs]
    exact Row.fresh (List.replicate n.toNat d) _ w.heap.size n.toNat (by simp [hlen]) (by simp) (by simp only [maxLen]; omega) (fun u hu => by
      simp only [List.mem_flatten] at hu
      obtain ⟨l, hl, hu⟩ := hu
      rw [(List.mem_replicate.1 hl).2] at hu
      exact K.one hz u hu) (hels _)

/-- append(v, x...): v a row of one's own, x any slice. -/
theorem ev_append (e : TypeId) {α : Type} (K : Kd α) {p h : CH} {A B : Option Addr} {c cb : Nat} {xs ys : List α} {t : TypeId} {z : Value} {by_ : Nat} (ps1 ps2 : List CH) (C : Ctx w0 F0 D w F (ps1 ++ p :: ps2)) (hR : Row K F p (.slice A xs.length c) xs)
    (hS : Sl K F h B ys) (hsub : Sub h w) (ht : P.underlying t = some (.slice e)) (hi : TI P e z K.sz by_) (hz : z.cells.size = K.sz) (hz1 : ∀ u ∈ z.cells.toList, u.oneCell' = true) (hs : 0 < K.sz) (hby : 0 < by_) (hlim : (xs.length + ys.length + (xs.length + ys.length) / 4 + 192) * by_ ≤ 281474976710656) :
    ∃ A' c' p' w', (∀ (env : Env) (s x : Operand) (ty : TypeId), ev env s = .slice A xs.length c → ev env x = .slice B ys.length cb → Yl P env (.call { callee := .builtin .append, args := #[s, x], argTypes := #[t, t] }) ty w (.slice A' (xs ++ ys).length c') w') ∧
      Ctx w0 F0 D w' F (ps1 ++ p' :: ps2) ∧ Row K F p' (.slice A' (xs ++ ys).length c') (xs ++ ys) := by
  obtain ⟨i, hinf, hz0, hi1, hi2⟩ := hi.get
  have hlen : xs.length + ys.length ≤ 281474976710656 := Nat.le_trans (by omega) (Nat.le_trans (Nat.le_mul_of_pos_right _ hby) hlim)
  -- the cells that come
  have hnew : ∃ cs : List Value, cs.length = ys.length * K.sz ∧ Els K F ys cs ∧ (∀ u ∈ cs, u.oneCell' = true) ∧ ∀ cap, (Builtin.firstCells K.sz ys.length (.slice B ys.length cap)).run P w = .ok cs.toArray w ∧ (Builtin.firstCells K.sz ys.length (.slice B ys.length cap)).run P w.drew = .ok cs.toArray w.drew := by
    by_cases hp : 0 < ys.length
    · obtain ⟨b, off, rfl, hx⟩ := hS hp
      have hg : ∀ (zs : List α) (k : Nat), (∀ j x, zs[j]? = some x → ys[k + j]? = some x) → ∃ cs : List Value, cs.length = zs.length * K.sz ∧ Els K F zs cs ∧ (∀ u ∈ cs, u.oneCell' = true) ∧ ∀ j u, cs[j]? = some u → h b (off + k * K.sz + j) = some (.v u) := by
        intro zs
        induction zs with
        | nil => intro k _; exact ⟨[], by simp, Els.nil _ _ _, by simp, by simp⟩
        | cons x zs ih =>
          intro k hk
          obtain ⟨cs, hr, hc⟩ := hx k x (by simpa using hk 0 x (by simp))
          obtain ⟨ds, h1, h2, h3, h4⟩ := ih (k + 1) (fun j y hj => by have := hk (j + 1) y (by simpa using hj); rwa [show k + (j + 1) = k + 1 + j from by omega] at this)
          have hl := K.len hr
          refine ⟨cs ++ ds, by rw [List.length_append, hl, h1, List.length_cons, Nat.add_mul, Nat.one_mul, Nat.add_comm], Els.cons hr h2, fun u hu => ?_, fun j u hu => ?_⟩
          · rcases List.mem_append.1 hu with hu | hu
            · exact K.one hr u hu
            · exact h3 u hu
          · rw [List.getElem?_append] at hu
            split at hu
            · exact hc j u hu
            · rename_i hge
              have := h4 _ u hu
              rwa [Nat.add_mul, Nat.one_mul, hl, show off + (k * K.sz + K.sz) + (j - K.sz) = off + k * K.sz + j from by omega] at this
      obtain ⟨cs, h1, h2, h3, h4⟩ := hg ys 0 (fun j x hj => by rwa [Nat.zero_add])
      have hcell : ∀ j u, cs[j]? = some u → w.cell? ((⟨b, off, none⟩ : Addr).add j) = some u := fun j u hu => by
        rw [add_of]
        have := h4 j u hu
        rw [Nat.zero_mul, Nat.add_zero] at this
        exact hsub.cell this
      exact ⟨cs, h1, h2, h3, fun cap => ⟨run_firstCells_some w K.sz ys.length _ _ cap cs h1 hcell, run_firstCells_some w.drew K.sz ys.length _ _ cap cs h1 hcell⟩⟩
    · have h0 : ys = [] := List.eq_nil_of_length_eq_zero (by omega)
      subst h0
      refine ⟨[], by simp, Els.nil _ _ _, by simp, fun cap => ?_⟩
      cases B with
      | none => exact ⟨rfl, rfl⟩
      | some a => exact ⟨run_firstCells_some w K.sz 0 a 0 cap [] (by simp) (by simp), run_firstCells_some w.drew K.sz 0 a 0 cap [] (by simp) (by simp)⟩
  obtain ⟨cs, hcl, hce, hc1, hcr⟩ := hnew
  -- room, or a new row
  have grow : ∀ (old : List Value), old.length = xs.length * K.sz → Els K F xs old → (∀ u ∈ old, u.oneCell' = true) → ¬ (xs.length + ys.length ≤ c) → (Builtin.firstCells K.sz xs.length (.slice A xs.length c)).run P w.drew = .ok old.toArray w.drew → (Builtin.firstCells K.sz ys.length (.slice B ys.length cb)).run P w.drew = .ok cs.toArray w.drew →
      ∃ A' c' p' w', (∀ (env : Env) (s x : Operand) (ty : TypeId), ev env s = .slice A xs.length c → ev env x = .slice B ys.length cb → Yl P env (.call { callee := .builtin .append, args := #[s, x], argTypes := #[t, t] }) ty w (.slice A' (xs ++ ys).length c') w') ∧
      Ctx w0 F0 D w' F (ps1 ++ p' :: ps2) ∧ Row K F p' (.slice A' (xs ++ ys).length c') (xs ++ ys) := by
    intro old hol hoe ho1 hroom hof hcf
    have hge := grownCap_ge w (xs.length + ys.length) c e
    have hcm := grownCap_le_maxLen w (xs.length + ys.length) c e (by simp only [maxLen]; omega)
    have hcells : (old.toArray ++ cs.toArray ++ Builtin.zeroCells z.cells (grownCap w (xs.length + ys.length) c e - (xs.length + ys.length))).toList = old ++ cs ++ (Builtin.zeroCells z.cells (grownCap w (xs.length + ys.length) c e - (xs.length + ys.length))).toList := by simp
    have C1 := ((Ctx.drop ps1 ps2 C).drewN 1).alloc (old.toArray ++ cs.toArray ++ Builtin.zeroCells z.cells (grownCap w (xs.length + ys.length) c e - (xs.length + ys.length))) e
    refine ⟨some ⟨w.heap.size, 0, none⟩, grownCap w (xs.length + ys.length) c e, _, _, fun env s x ty hs' hx' => ?_, C1.perm (List.perm_middle.symm), ?_⟩
    · show (execOp (ev env) _).run P w = _
      have hsmall : ¬ ((9223372036854775807 : Int) < (xs.length : Int) + (ys.length : Int)) := by omega
      have hbig := nextslicecap_small (n := xs.length + ys.length) (c := c) (b := by_) (by omega) hlim
      have hzc : (Builtin.zeroCells z.cells (grownCap w (xs.length + ys.length) c e - (xs.length + ys.length))) = (Builtin.zeroCells z.cells (grownCap w (xs.length + ys.length) c e - (xs.length + ys.length))) := rfl
      have hrun := run_append_grow (P := P) w t ty e i z ht hinf hz0 A B xs.length c ys.length cb (by omega) (by omega) (by rw [hi2]; exact hbig) old.toArray cs.toArray (by rw [hi1]; exact hof) (by rw [hi1]; exact hcf)
      simp [execOp, resolve, invoke, builtin, hs', hx', hrun]
      rfl
    · rw [hcells]
      refine Row.fresh (xs ++ ys) _ w.heap.size _ ?_ (by rw [List.length_append]; exact hge) hcm (fun u hu => ?_) (Els.append hoe hol hce)
      · simp only [List.length_append, hol, hcl, Array.length_toList, Builtin.zeroCells, Array.size_map, Array.size_range, hz]
        rw [← Nat.add_mul, ← Nat.add_mul]
        congr 1
        omega
      · rcases List.mem_append.1 hu with hu | hu
        · rcases List.mem_append.1 hu with hu | hu
          · exact ho1 u hu
          · exact hc1 u hu
        · simp only [Builtin.zeroCells, Array.toList_map, List.mem_map] at hu
          obtain ⟨q, _, rfl⟩ := hu
          have hlt : q % z.cells.size < z.cells.size := Nat.mod_lt _ (by omega)
          rw [getElem!_pos z.cells _ hlt]
          exact hz1 _ (by simp)
  rcases hR with ⟨hv, rfl, rfl⟩ | ⟨g, off, cap, cur, hv, h2, h3, rfl, h5, h6, h7⟩
  · injection hv with hv1 _ hv3
    subst hv1; subst hv3
    by_cases hp : ys.length = 0
    · have h0 : ys = [] := List.eq_nil_of_length_eq_zero hp
      subst h0
      refine ⟨none, 0, CH.emp, w, fun env s x ty hs' hx' => ?_, C, .inl ⟨rfl, rfl, rfl⟩⟩
      show (execOp (ev env) _).run P w = _
      have := (hcr cb).1
      have hcs0 : cs = [] := List.eq_nil_of_length_eq_zero (by simpa using hcl)
      rw [hcs0] at this
      simp [execOp, resolve, invoke, builtin, hs', hx', Builtin.append_, run_underlying ht, sizeOf, typeInfo, hinf, hi1, Builtin.lenOf]
      simp at this
      simp [this]
    · exact grow [] (by simp) (Els.nil _ _ _) (by simp) (by simp only [List.length_nil, Nat.zero_add]; omega) rfl (hcr cb).2
  · injection hv with hv1 _ hv3
    subst hv1; subst hv3
    by_cases hroom : xs.length + ys.length ≤ c
    · have hk : xs.length * K.sz + cs.length ≤ cur.length := by rw [hcl, ← Nat.add_mul, h5]; exact Nat.mul_le_mul_right _ hroom
      obtain ⟨w', hst, C'⟩ := run_stores (P := P) g (off + xs.length * K.sz) cs 0 w off (xs.length * K.sz) cur C (by omega) hk hc1
      refine ⟨some ⟨g, off, none⟩, c, _, w', fun env s x ty hs' hx' => ?_, C', .inr ⟨g, off, c, _, rfl, by rw [List.length_append]; exact hroom, h3, rfl, ?_, fun u hu => ?_, ?_⟩⟩
      · show (execOp (ev env) _).run P w = _
        simp [execOp, resolve, invoke, builtin, hs', hx', Builtin.append_, run_underlying ht, sizeOf, typeInfo, hinf, hi1, Builtin.lenOf, hroom, (hcr cb).1, add_of, hst]
      · simp only [List.length_append, List.length_take, List.length_drop]; omega
      · rcases List.mem_append.1 hu with hu | hu
        · rcases List.mem_append.1 hu with hu | hu
          · exact h6 u (List.mem_of_mem_take hu)
          · exact hc1 u hu
        · exact h6 u (List.mem_of_mem_drop hu)
      · exact Els.append h7.cut (by rw [List.length_take]; omega) hce
    · have hp : 0 < xs.length ∨ xs.length = 0 := by omega
      have hof : (Builtin.firstCells K.sz xs.length (.slice (some ⟨g, off, none⟩) xs.length c)).run P w.drew = .ok (cur.take (xs.length * K.sz)).toArray w.drew := by
        refine run_firstCells_some w.drew K.sz xs.length _ _ c _ (by rw [List.length_take]; have := h7.1; omega) fun j u hu => ?_
        rw [add_of]
        rw [List.getElem?_take] at hu
        split at hu
        · exact (Ctx.sub_of ps1 ps2 C).cell (CH.row_get hu)
        · cases hu
      exact grow _ (by rw [List.length_take]; have := h7.1; omega) h7.cut (fun u hu => h6 u (List.mem_of_mem_take hu)) hroom hof (hcr cb).2

theorem splice_in (cur us : List Value) (a sz o : Nat) (h : a + sz ≤ cur.length) (ho : o + us.length ≤ sz) :
    cur.take a ++ (((cur.drop a).take sz).take o ++ us ++ ((cur.drop a).take sz).drop (o + us.length)) ++ cur.drop (a + sz) = cur.take (a + o) ++ us ++ cur.drop (a + o + us.length) := by
  apply List.ext_getElem?
  intro i
  simp only [List.getElem?_append, List.length_append, List.length_take, List.length_drop, List.getElem?_take, List.getElem?_drop]
  repeat' split
  all_goals first
    | omega
    | rfl
    | (congr 1; omega)
/-- A store into an element of a row of one's own: from the element's cell o on. -/
theorem ev_store {α : Type} (K : Kd α) {p : CH} {A : Option Addr} {n c b off : Nat} {xs : List α} {t : TypeId} (ps1 ps2 : List CH) (C : Ctx w0 F0 D w F (ps1 ++ p :: ps2)) (hR : Row K F p (.slice A n c) xs) (hA : A = some ⟨b, off, none⟩) (j o : Nat) (hj : j < xs.length) (d : α) (v : Value) (us : List Value) (hv : v.cells = us.toArray)
    (hu1 : ∀ u ∈ us, u.oneCell' = true) (ho : o + us.length ≤ K.sz) (hs : (P.info? t).map (·.size) = some us.length) (y : α) (hy : ∀ cs, K.rep F (xs.getD j d) cs → K.rep F y (cs.take o ++ us ++ cs.drop (o + us.length))) (ad : Addr) (had : ad = ⟨b, off + j * K.sz + o, none⟩) :
    ∃ p' w', (∀ (env : Env) (a x : Operand) (ty : TypeId), ev env a = .pointer (some ad) → ev env x = v → Yskip P env (.store t a x) ty w w') ∧ Ctx w0 F0 D w' F (ps1 ++ p' :: ps2) ∧ Row K F p' (.slice A n c) (xs.set j y) := by
  obtain ⟨inf, hinf, hsz⟩ := Option.map_eq_some_iff.1 hs
  subst had
  rcases hR with ⟨_, rfl, _⟩ | ⟨g, off', cap, cur, hv1, h2, h3, rfl, h5, h6, h7⟩
  · simp at hj
  · injection hv1 with e1 e2 e3
    subst e2; subst e3
    rw [hA] at e1
    injection e1 with e1
    injection e1 with e1 e4
    subst e1; subst e4
    have hle : j * K.sz + K.sz ≤ cur.length := by rw [h5, ← Nat.succ_mul]; exact Nat.mul_le_mul_right _ (by omega)
    obtain ⟨w', hst, C'⟩ := run_stores (P := P) b (off + j * K.sz + o) us 0 w off (j * K.sz + o) cur C (by omega) (by omega) hu1
    refine ⟨_, w', fun env a x ty ha hx => ?_, C', .inr ⟨b, off, c, _, by rw [hA, List.length_set], by rw [List.length_set]; exact h2, h3, rfl, ?_, fun u hu => ?_, ?_⟩⟩
    · show (execOp (ev env) _).run P w = _
      simp [execOp, ha, hx, Instr.storeAt, Instr.sureAddr, storeVar, hv, sizeOf, typeInfo, hinf, hsz, hst]
    · simp only [List.length_append, List.length_take, List.length_drop]; omega
    · rcases List.mem_append.1 hu with hu | hu
      · rcases List.mem_append.1 hu with hu | hu
        · exact h6 u (List.mem_of_mem_take hu)
        · exact hu1 u hu
      · exact h6 u (List.mem_of_mem_drop hu)
    · have hold : xs[j]? = some (xs.getD j d) := getD_some hj
      have := Els.set h7 j y (hy _ (h7.2 j _ hold)) hj
      rwa [splice_in cur us (j * K.sz) K.sz o hle ho] at this
end
/-! a struct's value, put together -/
section
variable {P : Program} {env : Env} {w : World} {ty t : TypeId}
theorem Yl.build {fs : Array Field} {z : Value} {places : List (Nat × Nat)} {xs : List (Nat × Operand)} {vs : List (Nat × Value)} {cs : Array Value} (ht : P.underlying t = some (.struct fs)) (hz : (P.info? t).map (·.zero) = some (some z))
    (hpl : fs.toList.map (fun f => (P.info? f.type).map (fun i => (f.offset, i.size))) = places.map some) (hx : xs.map (fun p => (p.1, ev env p.2)) = vs) (hf : Instr.fill (fun i => places[i]?) z.cells vs = some cs) :
    Yl P env (.build t xs.toArray) ty w (.agg cs) w := by
  obtain ⟨inf, hi, hz'⟩ := Option.map_eq_some_iff.1 hz
  have hm : ∀ (l : List Field) (pl : List (Nat × Nat)), l.map (fun f => (P.info? f.type).map (fun i => (f.offset, i.size))) = pl.map some → (l.mapM (m := Sem) fun f => Prod.mk f.offset <$> sizeOf f.type).run P w = .ok pl w := by
    intro l
    induction l with
    | nil => intro pl h; cases pl <;> simp_all
    | cons f l ih =>
      intro pl h
      cases pl with
      | nil => simp at h
      | cons q pl =>
        simp only [List.map_cons, List.cons.injEq] at h
        obtain ⟨inf', hi', he⟩ := Option.map_eq_some_iff.1 h.1
        have hf : (sizeOf f.type).run P w = .ok inf'.size w := by simp [sizeOf, typeInfo, hi']
        have h2 := ih pl h.2
        rw [List.mapM_cons]
        simp [hf, h2, ← he]
  have hmA : (fs.mapM (m := Sem) fun f => Prod.mk f.offset <$> sizeOf f.type).run P w = .ok places.toArray w := by
    have h2 := hm fs.toList places hpl
    rw [Array.mapM_eq_mapM_toList]
    simp [h2]
  show (execOp (ev env) _).run P w = _
  have hx2 : List.map (fun (p : Nat × Operand) => (p.fst, ev env p.snd)) xs = vs := hx
  simp [execOp, Instr.build, zeroValue, typeInfo, hi, hz', run_underlying ht, hmA, hx2, hf]
end
end Go.WG
namespace Go.WG
inductive BEv (env : Env) : List (Nat × Operand) → List (Nat × Value) → Prop
  | nil : BEv env [] []
  | cons {i : Nat} {x : Operand} {v : Value} {xs : List (Nat × Operand)} {vs : List (Nat × Value)} (h : ev env x = v) (t : BEv env xs vs) : BEv env ((i, x) :: xs) ((i, v) :: vs)
theorem partsB {env : Env} {xs : List (Nat × Operand)} {vs : List (Nat × Value)} (h : BEv env xs vs) : xs.map (fun p => (p.1, ev env p.2)) = vs := by
  induction h with
  | nil => rfl
  | cons h _ ih => rw [List.map_cons, ih, h]
theorem rep_whole {α : Type} {K : Kd α} {F : CH} {x y : α} {cs us : List Value} (h : K.rep F x cs) (hy : K.rep F y us) : K.rep F y (cs.take 0 ++ us ++ cs.drop (0 + us.length)) := by
  have h1 := K.len h
  have h2 := K.len hy
  rw [List.take_zero, List.nil_append, List.drop_eq_nil_of_le (by omega), List.append_nil]
  exact hy
end Go.WG
