/- What one operation comes to: copy, len, cap, min, max, maps. -/
import Derived.Test.YtnlpmnegjgjiiaaGreatDoorEh
namespace Go.CE
open Go Go.RowKit
set_option linter.all false
section
variable {C : Cfg} {cl : CallF} {X : Nat → Value} {B : Nat} {w0 w w1 : World} {ρ : Rh} {M M' : Mem} {σ : Sl} {env : WG.Env} {ty : TypeId} {v : V} {y : Value} {P : Program}
theorem copyV_R {ts : Array TypeId} {as : Array Value} {a b : V} {x y : Value} (hw : Wd X B w0 ρ M w) (ha : Rv ρ X a x) (hb : Rv ρ X b y) (h3 : as[0]? = some x) (h4 : as[1]? = some y) (h : fin M (copyV P ts.toList a b M) = .ok v M') :
    ∃ u w', (Builtin.copy_ ts ty as).run P w = .ok u w' ∧ Gl X B w0 ρ M v M' u w' := by
  obtain ⟨t, h5, h⟩ := fin_oe h
  obtain ⟨e, h6, h⟩ := fin_oe h
  obtain ⟨n, h7, h⟩ := fin_oe h
  obtain ⟨m, h8, h⟩ := fin_oe h
  rw [nth_eq] at h5
  have h5' : ts[0]? = some t := by simpa using h5
  obtain ⟨ht, hsz⟩ := elz_some h6
  obtain ⟨i, hi, hiz⟩ := Option.map_eq_some_iff.1 hsz
  have hl := lenV_R (P := P) h8 hb w
  have key : ∀ (A : Option Addr) (c : Nat), x = .slice A n c → ∀ (news : List Value), (Builtin.firstCells i.size (Nat.min m n) y).run P w = .ok news.toArray w → ∀ w', (match A with | some ad => (storeCells ad news).run P w | none => .ok () w) = .ok () w' → (Builtin.copy_ ts ty as).run P w = .ok (goInt (Nat.min m n)) w' := by
    intro A c hx news hf w' hst
    subst hx
    unfold Builtin.copy_
    simp only [h5', h3, h4]
    cases A with
    | none =>
      cases hst
      simp [run_underlying ht, hl, sizeOf, typeInfo, hi, hf]
    | some ad =>
      have hst' : (storeCells ad news).run P w = .ok () w' := hst
      simp [run_underlying ht, hl, sizeOf, typeInfo, hi, hf, hst']
  have hsrc : ∀ ys, srcV i.size b (Nat.min m n) M = some ys → ∃ xs, Cs ρ X ys xs ∧ xs.length = Nat.min m n * i.size ∧ (Builtin.firstCells i.size (Nat.min m n) y).run P w = .ok xs.toArray w := fun ys hys => by
    obtain ⟨xs, k1, k2, k3⟩ := srcV_R (P := P) hw hys hb (fun k hk => by rw [h8] at hk; cases hk; exact Nat.min_le_left _ _)
    exact ⟨xs, k1, k2, k3 w (.inl rfl)⟩
  have hx : ∃ A c, x = .slice A n c ∧ ∀ s, slcOf a = some s → ∃ L ad, ρ s.r = some L ∧ A = some ad ∧ s.n = n ∧ n ≤ c ∧ (c ≠ 0 → ad = ⟨L.b, L.f + s.o, none⟩) := by
    cases hln : isLn a with
    | true =>
      have h' : cond (isLn a) (some 0) (ob (slcOf a) fun s => some s.n) = some n := h7
      rw [hln] at h'
      cases h'
      rw [isLn_t.1 hln] at ha ⊢
      exact ⟨none, 0, ha.lnil, fun s hs => by cases hs⟩
    | false =>
      have h' : cond (isLn a) (some 0) (ob (slcOf a) fun s => some s.n) = some n := h7
      rw [hln] at h'
      obtain ⟨s, h1, h2⟩ := ob_some.1 (show (ob (slcOf a) fun s => some s.n) = some n from h')
      cases h2
      have h1' := slcOf_some.1 h1
      rw [h1'] at ha
      obtain ⟨L, ad, c, hL, hx, hle, hloc, _⟩ := ha.slc
      exact ⟨some ad, c, hx, fun s' hs' => by rw [h1] at hs'; cases hs'; exact ⟨L, ad, hL, rfl, rfl, hle, hloc⟩⟩
  obtain ⟨A, c, hx, hA⟩ := hx
  cases hz : Nat.beq (Nat.min m n) 0 with
  | true =>
    rw [hz] at h
    have h0 : Nat.min m n = 0 := nbeq.1 hz
    cases (fin_c (show fin M (.c (.ok (.i .i64 (.ofNat 0)) M)) = .ok v M' from h))
    refine ⟨_, w, key A c hx [] ?_ w ?_, ρ, ?_, Post.refl hw⟩
    · rw [h0]
      have : ∀ {z}, (Builtin.firstCells z 0 y).run P w = .ok #[] w := by
        intro z
        unfold lenV at h8
        cases hs : strOf b with
        | some l =>
          rw [strOf_some.1 hs] at hb
          obtain ⟨d, rfl, rfl⟩ := hb.str
          have e2 : (d.extract 0 0).data.map (fun b => Value.int .u8 (b.toNat : Int)) = #[] := by
            apply Array.ext'
            rw [ByteArray.data_extract]
            simp
          simp only [Builtin.firstCells, Sem.run_pure, e2]
        | none =>
          rw [hs] at h8
          have h' : cond (isLn b) (some 0) (ob (slcOf b) fun s => some s.n) = some m := h8
          cases hl : isLn b with
          | true =>
            rw [isLn_t.1 hl] at hb
            rw [hb.lnil]
            exact run_firstCells_none (P := P) w z 0 0 0
          | false =>
            rw [hl] at h'
            obtain ⟨s, h1, h2⟩ := ob_some.1 (show (ob (slcOf b) fun s => some s.n) = some m from h')
            rw [slcOf_some.1 h1] at hb
            obtain ⟨L, a, c, _, rfl, _⟩ := hb.slc
            exact run_firstCells_some (P := P) w z 0 a s.n c [] (by simp) (fun j u hj => by simp at hj)
      exact this
    · cases A <;> rfl
    · rw [h0]
      exact .i _ _
  | false =>
    rw [hz] at h
    obtain ⟨rfl, h9⟩ := fin_okM (show fin M (okM (.i .i64 (.ofNat (Nat.min m n))) (ob (srcV e.2 b (Nat.min m n) M) fun ys => ob (slcOf a) fun s => cond (Nat.beq s.z e.2) (writeO s.r s.o ys M) none)) = .ok v M' from h)
    obtain ⟨ys, h10, h11⟩ := ob_some.1 h9
    obtain ⟨s, h12, h13⟩ := ob_some.1 h11
    obtain ⟨h14, h15⟩ := cond_some.1 h13
    rw [← hiz] at h10
    obtain ⟨xs, k1, k2, k3⟩ := hsrc ys h10
    obtain ⟨L, ad, hL, rfl, hsn, hle, hloc⟩ := hA s h12
    have hn0 := nbeq_f.1 hz
    have hn1 : n ≠ 0 := fun e => hn0 (by rw [e]; exact Nat.min_zero m)
    obtain rfl := hloc (by omega)
    obtain ⟨k4, k5⟩ := writeO_R hw hL k1 h15
    have hst := run_storeCells_cells (P := P) L.b (L.f + s.o) xs 0 w (fun j hj => by simpa using (k4 j hj).1) (fun j hj => by simpa using (k4 j hj).2) k1.cell1
    simp only [Nat.add_zero] at hst
    exact ⟨_, _, key _ c hx xs k3 _ hst, ρ, .i _ _, k5⟩
theorem clear_R {ts : Array TypeId} {as : Array Value} {a : V} {x : Value} (hw : Wd X B w0 ρ M w) (ha : Rv ρ X a x) (h3 : as[0]? = some x) (h : clearV P ts.toList a M = some (Cr.ok v M')) :
    ∃ u w', (Builtin.clear_ ts ty as).run P w = .ok u w' ∧ Gl X B w0 ρ M v M' u w' := by
  obtain ⟨t, h5, q1⟩ := ob_some.1 h
  obtain ⟨e, h6, q2⟩ := ob_some.1 q1
  obtain ⟨n, h7, h8⟩ := ob_some.1 q2
  clear h q1 q2
  rw [nth_eq] at h5
  have h5' : ts[0]? = some t := by simpa using h5
  obtain ⟨ht, hsz⟩ := elz_some h6
  have hx : ∃ A c, x = .slice A n c ∧ ∀ s, slcOf a = some s → ∃ L ad, ρ s.r = some L ∧ A = some ad ∧ n ≤ c ∧ (c ≠ 0 → ad = ⟨L.b, L.f + s.o, none⟩) := by
    cases hln : isLn a with
    | true =>
      have h' : cond (isLn a) (some 0) (ob (slcOf a) fun s => some s.n) = some n := h7
      rw [hln] at h'
      cases h'
      rw [isLn_t.1 hln] at ha ⊢
      exact ⟨none, 0, ha.lnil, fun s hs => by cases hs⟩
    | false =>
      have h' : cond (isLn a) (some 0) (ob (slcOf a) fun s => some s.n) = some n := h7
      rw [hln] at h'
      obtain ⟨s, h1, h2⟩ := ob_some.1 (show (ob (slcOf a) fun s => some s.n) = some n from h')
      cases h2
      rw [slcOf_some.1 h1] at ha
      obtain ⟨L, ad, c, hL, hx, hle, hloc, _⟩ := ha.slc
      exact ⟨some ad, c, hx, fun s' hs' => by rw [h1] at hs'; cases hs'; exact ⟨L, ad, hL, rfl, hle, hloc⟩⟩
  obtain ⟨A, c, rfl, hA⟩ := hx
  cases hz : Nat.beq n 0 with
  | true =>
    rw [hz] at h8
    cases h8
    refine ⟨.tuple #[], w, ?_, ρ, .t [] [] rfl (fun i v x h => by simp at h), Post.refl hw⟩
    obtain rfl := nbeq.1 hz
    unfold Builtin.clear_
    simp only [h5', h3]
    cases A <;> simp [run_underlying ht]
  | false =>
    rw [hz] at h8
    obtain ⟨z, h9, h10⟩ := ob_some.1 (show (ob (zeroC P e.1) fun z => ob (slcOf a) fun s => cond (Nat.beq s.z e.2) (cond (Nat.beq (len z) e.2) (ob (writeO s.r s.o (rep n z) M) fun M => some (Cr.ok (.t []) M)) none) none) = some (Cr.ok v M') from h8)
    obtain ⟨s, h11, h12⟩ := ob_some.1 h10
    obtain ⟨h13, h14⟩ := cond_some.1 h12
    obtain ⟨h15, h16⟩ := cond_some.1 h14
    obtain ⟨M1, h17, h18⟩ := ob_some.1 h16
    cases h18
    obtain ⟨i, zv, g1, g2, g3⟩ := zeroC_some h9
    obtain ⟨L, ad, hL, rfl, hle, hloc⟩ := hA s h11
    have hn0 := nbeq_f.1 hz
    obtain rfl := hloc (by omega)
    have hzl := (g3 ρ X).len
    have hsz1 : zv.cells.size = z.length := by rw [hzl]; simp
    have hflat : (Builtin.zeroCells zv.cells n).toList = (List.replicate n zv.cells.toList).flatten := made_flat zv.cells n
    have hcs : Cs ρ X (rep n z) (Builtin.zeroCells zv.cells n).toList := by
      rw [rep_eq, hflat]
      exact (g3 ρ X).flat n
    obtain ⟨k4, k5⟩ := writeO_R hw hL hcs h17
    have hst := run_storeCells_cells (P := P) L.b (L.f + s.o) (Builtin.zeroCells zv.cells n).toList 0 w (fun j hj => by simpa using (k4 j hj).1) (fun j hj => by simpa using (k4 j hj).2) hcs.cell1
    simp only [Nat.add_zero] at hst
    refine ⟨.tuple #[], _, ?_, ρ, .t [] [] rfl (fun i v x h => by simp at h), k5⟩
    unfold Builtin.clear_
    simp only [h5', h3]
    obtain ⟨m, rfl⟩ : ∃ m, n = m + 1 := ⟨n - 1, by omega⟩
    simp [run_underlying ht, zeroValue, typeInfo, g1, g2, hst]
/-! Lengths. -/
theorem len_R {ts : Array TypeId} {as : Array Value} {t : TypeId} {a : V} {n : Nat} (hw : Wd X B w0 ρ M w) (h1 : ts[0]? = some t) (h2 : as[0]? = some y) (h : lenW P t a M = some n) (ha : Rv ρ X a y) : (Builtin.len_ ts ty as).run P w = .ok (goInt n) w := by
  obtain ⟨d, hd, h⟩ := ob_some.1 h
  unfold Builtin.len_
  simp only [h1, h2]
  cases hs : strD d with
  | true =>
    rw [hs] at h
    obtain ⟨l, h3, h4⟩ := ob_some.1 (show (ob (strOf a) fun l => some (len l)) = some n from h)
    cases h4
    rw [strD_t hs] at hd
    rw [strOf_some.1 h3] at ha
    obtain ⟨b, rfl, rfl⟩ := ha.str
    rw [len_eq, bytesL_len]
    simp [run_underlying hd]
  | false =>
    rw [hs] at h
    have h' : oe (elemD d) (oe (arrD d) (ob (mapD d) fun _ => cond (isMn a) (some 0) (ob (mapOf a) fun r => ob (mapAt M r) fun p => some (len p.1))) fun q => some q.1) (fun _ => cond (isLn a) (some 0) (ob (slcOf a) fun s => some s.n)) = some n := h
    cases he : elemD d with
    | some e =>
      rw [he] at h'
      rw [elemD_some he] at hd
      have h3 : cond (isLn a) (some 0) (ob (slcOf a) fun s => some s.n) = some n := h'
      cases hl : isLn a with
      | true =>
        rw [hl] at h3
        cases h3
        rw [isLn_t.1 hl] at ha
        rw [ha.lnil]
        simp [run_underlying hd]
      | false =>
        rw [hl] at h3
        obtain ⟨s, h4, h5⟩ := ob_some.1 (show (ob (slcOf a) fun s => some s.n) = some n from h3)
        cases h5
        rw [slcOf_some.1 h4] at ha
        obtain ⟨L, ad, c, _, rfl, _⟩ := ha.slc
        simp [run_underlying hd]
    | none =>
      rw [he] at h'
      have h'' : oe (arrD d) (ob (mapD d) fun _ => cond (isMn a) (some 0) (ob (mapOf a) fun r => ob (mapAt M r) fun p => some (len p.1))) (fun q => some q.1) = some n := h'
      cases hr : arrD d with
      | some q =>
        rw [hr] at h''
        cases h''
        rw [arrD_some hr] at hd
        simp [run_underlying hd]
      | none =>
        rw [hr] at h''
        obtain ⟨q, h3, h4⟩ := ob_some.1 (show (ob (mapD d) fun _ => cond (isMn a) (some 0) (ob (mapOf a) fun r => ob (mapAt M r) fun p => some (len p.1))) = some n from h'')
        rw [mapD_some h3] at hd
        cases hm : isMn a with
        | true =>
          rw [hm] at h4
          cases h4
          rw [isMn_t.1 hm] at ha
          rw [ha.mnil]
          simp [run_underlying hd]
        | false =>
          rw [hm] at h4
          obtain ⟨r, h5, h6⟩ := ob_some.1 (show (ob (mapOf a) fun r => ob (mapAt M r) fun p => some (len p.1)) = some n from h4)
          obtain ⟨p, h7, h8⟩ := ob_some.1 h6
          cases h8
          rw [mapOf_some.1 h5] at ha
          obtain ⟨L, hL, rfl⟩ := ha.map_
          have ho := (hw.obj r L hL).2.2.2
          rw [mapAt_some h7] at ho
          obtain ⟨⟨es, k1, k2, _⟩, _⟩ := ho
          have hobj : (getObj L.b).run P w = .ok (.map es p.2) w := by simp [getObj, Sem.run, k1]
          have hlen : es.size = p.1.length := by rw [k2]; simp
          rw [len_eq]
          simp [run_underlying hd, hobj, hlen]
theorem cap_R {ts : Array TypeId} {as : Array Value} {t : TypeId} {a : V} {e : Nat} (h1 : ts[0]? = some t) (h2 : as[0]? = some y) (ht : elemOf P t = some e) (h : (cond (isLn a) (some (.i .i64 (.ofNat 0))) (ob (slcOf a) fun s => ob s.c fun c => some (V.i .i64 (.ofNat c)))) = some v) (ha : Rv ρ X a y) :
    ∃ n : Nat, v = .i .i64 (n : Int) ∧ (Builtin.cap_ ts ty as).run P w = .ok (goInt n) w := by
  obtain ⟨d, hd, h3⟩ := ob_some.1 ht
  rw [elemD_some h3] at hd
  cases hl : isLn a with
  | true =>
    rw [hl] at h
    cases h
    rw [isLn_t.1 hl] at ha
    refine ⟨0, rfl, ?_⟩
    unfold Builtin.cap_
    simp only [h1, h2]
    rw [ha.lnil]
    simp [run_underlying hd]
  | false =>
    rw [hl] at h
    obtain ⟨s, h4, h5⟩ := ob_some.1 (show (ob (slcOf a) fun s => ob s.c fun c => some (V.i .i64 (.ofNat c))) = some v from h)
    obtain ⟨c, h6, h7⟩ := ob_some.1 h5
    cases h7
    rw [slcOf_some.1 h4] at ha
    obtain ⟨L, ad, c', _, rfl, _, _, hc, _⟩ := ha.slc
    obtain rfl := hc c h6
    refine ⟨c', rfl, ?_⟩
    unfold Builtin.cap_
    simp only [h1, h2]
    simp [run_underlying hd]
theorem pickQ_R {f : Int → Int → Bool} {g : Value → Value → Sem Value} (hg : ∀ (k : IntKind) (a b : Int) (w : World), (g (.int k a) (.int k b)).run P w = .ok (.int k (if f a b = true then b else a)) w) {a b : V} {x y : Value} (h : pickQ a b = some v) (ha : Rv ρ X a x) (hb : Rv ρ X b y) : ∃ u, Rv ρ X v u ∧ (g x y).run P w = .ok u w := by
  obtain ⟨k, h1, h2⟩ := ob_some.1 h
  obtain ⟨k', h3, h4⟩ := ob_some.1 h2
  obtain ⟨h5, h6⟩ := cond_some.1 h4
  cases h6
  have hk := knum_inj h5
  have e : ∀ {c : V} {z : Value} {k : IntKind}, kindQ c = some k → Rv ρ X c z → ∃ n, z = .int k n := fun {c z k} hc hz => by
    rcases kindQ_some hc with rfl | ⟨n, rfl⟩
    · exact hz.some_
    · exact ⟨n, hz.int⟩
  obtain ⟨m, rfl⟩ := e h1 ha
  obtain ⟨n, rfl⟩ := e h3 hb
  rw [← hk]
  exact ⟨_, .q _ _, hg k m n w⟩
theorem pickV_R {f : Int → Int → Bool} {g : Value → Value → Sem Value} (hg : ∀ (k : IntKind) (a b : Int) (w : World), (g (.int k a) (.int k b)).run P w = .ok (.int k (if f a b = true then b else a)) w) {a b : V} {x y : Value} (h : pickV f a b = some v) (ha : Rv ρ X a x) (hb : Rv ρ X b y) : ∃ u, Rv ρ X v u ∧ (g x y).run P w = .ok u w := by
  unfold pickV at h
  cases h1 : intOf a with
  | none => rw [h1] at h; exact pickQ_R hg h ha hb
  | some p =>
    rw [h1] at h
    have h0 : oe (intOf b) (pickQ a b) (fun y => cond (Nat.beq (knum p.1) (knum y.1)) (some (cond (f p.2 y.2) b a)) none) = some v := h
    cases h3 : intOf b with
    | none => rw [h3] at h0; exact pickQ_R hg h0 ha hb
    | some q =>
      rw [h3] at h0
      obtain ⟨h5, h6⟩ := cond_some.1 (show cond (Nat.beq (knum p.1) (knum q.1)) (some (cond (f p.2 q.2) b a)) none = some v from h0)
      have hk := knum_inj h5
      have ha' := ha.int_of (intOf_some.1 h1)
      have hb' := hb.int_of (intOf_some.1 h3)
      cases h6
      rw [ha', hb', ← hk, hg]
      cases hf : f p.2 q.2 with
      | true =>
        refine ⟨_, ?_, rfl⟩
        show Rv ρ X b (.int p.1 q.2)
        rw [hk]
        exact hb' ▸ hb
      | false =>
        refine ⟨_, ?_, rfl⟩
        show Rv ρ X a (.int p.1 p.2)
        exact ha' ▸ ha
theorem foldV_R {f : Int → Int → Bool} {g : Value → Value → Sem Value} (hg : ∀ (k : IntKind) (a b : Int) (w : World), (g (.int k a) (.int k b)).run P w = .ok (.int k (if f a b = true then b else a)) w) : ∀ (l : List V) (xs : List Value) (a v : V) (x : Value), RL ρ X l xs → Rv ρ X a x → foldV (pickV f) l a = some v → ∃ u, Rv ρ X v u ∧ (xs.foldlM g x).run P w = .ok u w := by
  intro l
  induction l with
  | nil =>
    intro xs a v x hl ha h
    cases h
    have : xs = [] := List.eq_nil_of_length_eq_zero hl.len.symm
    subst this
    exact ⟨x, ha, rfl⟩
  | cons b l ih =>
    intro xs a v x hl ha h
    cases xs with
    | nil => have := hl.len; simp at this
    | cons z xs =>
      obtain ⟨c, h1, h2⟩ := ob_some.1 (show (ob (pickV f a b) fun c => foldV (pickV f) l c) = some v from h)
      obtain ⟨u, k1, k2⟩ := pickV_R (P := P) (w := w) hg h1 ha (hl.at_ 0 b z rfl rfl)
      obtain ⟨u', k3, k4⟩ := ih xs c v u ⟨by have := hl.len; simpa using this, fun i v' x' h3 h4 => hl.at_ (i + 1) v' x' h3 h4⟩ k1 h2
      refine ⟨u', k3, ?_⟩
      rw [List.foldlM_cons]
      simp only [Sem.run_bind, k2, Result.andThen_ok, k4]
/-! Maps. -/
theorem Wd.setMap (h : Wd X B w0 ρ M w) {r ck ck' : Nat} {L : Loc} {l l' : En} {es es' : Array MapEntry} (hr : ρ r = some L) (ho : M.T.get r = some (.m l ck)) (he : w.heap[L.b]? = some (.map es ck)) (hn : Ents ρ X l' es'.toList)
    (hM : ∀ q, M'.T.get q = if r = q then some (.m l' ck') else M.T.get q) (hnx : M'.nx = M.nx) : Post X B w0 ρ M ρ M' { w with heap := w.heap.setIfInBounds L.b (.map es' ck') } := by
  obtain ⟨g1, g2, g3, g4⟩ := h.obj r L hr
  have g4' := g4
  rw [ho] at g4'
  obtain ⟨_, hf, hE⟩ := g4'
  have hne : ∀ b, b ≠ L.b → (w.heap.setIfInBounds L.b (.map es' ck'))[b]? = w.heap[b]? := fun b hb => Array.getElem?_setIfInBounds_ne (Ne.symm hb)
  refine ⟨Rh.le_refl _, by rw [hnx]; exact Nat.le_refl _, fun q hq hqn => ⟨by rw [hM q, if_neg (fun e => by subst e; rw [hr] at hqn; cases hqn)], hqn⟩, ?_, ?_, fun q hq => ?_, fun q K hq => ?_, fun q q' K K' hqq hq hq' hl hl' => ?_⟩
  · exact h.low.trans ⟨rfl, rfl, rfl, by simp, fun k hk => hne k (by omega)⟩
  · show B ≤ (w.heap.setIfInBounds L.b (.map es' ck')).size
    rw [Array.size_setIfInBounds]
    exact h.size
  · rw [hM q, if_neg (fun e => by subst e; rw [hnx] at hq; omega)]
    rw [hnx] at hq
    exact h.free q hq
  · obtain ⟨m1, m2, m3, m4⟩ := h.obj q K hq
    refine ⟨by rw [hnx]; exact m1, m2, by show K.b < (w.heap.setIfInBounds L.b (.map es' ck')).size; rw [Array.size_setIfInBounds]; exact m3, ?_⟩
    rw [hM q]
    by_cases e : r = q
    · subst e
      rw [if_pos rfl]
      rw [hr] at hq
      cases hq
      refine ⟨⟨es', ?_, hn⟩, hf, hE⟩
      show (w.heap.setIfInBounds L.b (.map es' ck'))[L.b]? = _
      rw [Array.getElem?_setIfInBounds_self]
      simp [g3]
    · rw [if_neg e]
      cases hob : M.T.get q with
      | none => rw [hob] at m4; exact m4
      | some ob =>
        rw [hob] at m4
        have hap := h.apart r q L K e hr hq (by rw [ho]; trivial)
        rw [hob] at hap
        cases ob with
        | c l2 ex2 =>
          obtain ⟨⟨zs, n1, n2⟩, n3, n4, n5⟩ := m4
          have hzs := n1.len
          by_cases hb : K.b = L.b
          · have hKe : K.e = 0 := by
              rcases Nat.eq_zero_or_pos K.e with a1 | a1
              · exact a1
              · have := (n3 0 a1).1
                unfold World.cell? at this
                rw [show ((⟨K.b, K.f + 0, Option.none⟩ : Addr)).block = K.b from rfl, hb, he] at this
                simp at this
            have hz : zs = [] := List.eq_nil_of_length_eq_zero (by omega)
            subst hz
            exact ⟨⟨[], n1, fun j v hj => by simp at hj⟩, fun j hj => by omega, n4, n5⟩
          · have hcell : ∀ o, ({ w with heap := w.heap.setIfInBounds L.b (.map es' ck') } : World).cell? ⟨K.b, o, none⟩ = w.cell? ⟨K.b, o, none⟩ := fun o => World.cell?_of_block (a := ⟨K.b, o, none⟩) (hne K.b hb)
            have hfr : ∀ o, ({ w with heap := w.heap.setIfInBounds L.b (.map es' ck') } : World).frozen? ⟨K.b, o, none⟩ = w.frozen? ⟨K.b, o, none⟩ := fun o => World.frozen?_of_block (a := ⟨K.b, o, none⟩) (hne K.b hb)
            exact ⟨⟨zs, n1, fun j v hj => by rw [hcell]; exact n2 j v hj⟩, fun j hj => by rw [hcell, hfr]; exact n3 j hj, n4, n5⟩
        | m l2 ck2 =>
          obtain ⟨⟨es2, n1, n2⟩, n3, n4⟩ := m4
          refine ⟨⟨es2, ?_, n2⟩, n3, n4⟩
          rcases hap trivial with a1 | a1 | a1
          · rw [← n1]
            exact hne K.b (Ne.symm a1)
          · omega
          · omega
        | dead => trivial
  · have lv : ∀ q, live (M'.T.get q) → live (M.T.get q) := fun q hq => by
      rw [hM q] at hq
      split at hq
      · rename_i e
        subst e
        rw [ho]
        trivial
      · exact hq
    exact h.apart q q' K K' hqq hq hq' (lv q hl) (lv q' hl')
theorem eqK_some {d : TypeDesc} {a b : V} {t : Bool} {x y : Value} (h : eqK d a b = some t) (ha : Rv ρ X a x) (hb : Rv ρ X b y) : Instr.sameNow d x y = some t ∧ (t = true → a = b ∧ Instr.sameBits 10000 y x = true) := by
  unfold eqK at h
  cases hd : boolD d with
  | true =>
    rw [hd] at h
    rw [boolD_t hd]
    obtain ⟨p, h2, h3⟩ := ob_some.1 (show eqB2 a b = some t from h)
    obtain ⟨q, h4, h5⟩ := ob_some.1 h3
    cases h5
    rw [boolOf_some.1 h2] at ha ⊢
    rw [boolOf_some.1 h4] at hb ⊢
    rw [ha.bool, hb.bool, eqB_eq]
    refine ⟨rfl, fun h => ?_⟩
    have : p = q := by simpa using h
    subst this
    exact ⟨rfl, by simp [Instr.sameBits]⟩
  | false =>
    rw [hd, cond_false] at h
    cases hs : strD d with
    | true =>
      rw [hs] at h
      rw [strD_t hs]
      obtain ⟨p, h2, h3⟩ := ob_some.1 (show eqS2 a b = some t from h)
      obtain ⟨q, h4, h5⟩ := ob_some.1 h3
      cases h5
      rw [strOf_some.1 h2] at ha ⊢
      rw [strOf_some.1 h4] at hb ⊢
      obtain ⟨s, rfl, rfl⟩ := ha.str
      obtain ⟨s', rfl, rfl⟩ := hb.str
      rw [eqS_R]
      refine ⟨by simp [Instr.sameNow, WG.baeq], fun h => ?_⟩
      have : s = s' := of_decide_eq_true h
      subst this
      exact ⟨rfl, by simp [Instr.sameBits, WG.baeq]⟩
    | false =>
      rw [hs, cond_false] at h
      cases hi : intD d with
      | none => rw [hi] at h; cases h
      | some k =>
        rw [hi] at h
        rw [intD_some hi]
        obtain ⟨p, h2, h3⟩ := ob_some.1 (show eqI2 a b = some t from h)
        obtain ⟨q, h4, h5⟩ := ob_some.1 h3
        obtain ⟨h6, h7⟩ := cond_some.1 h5
        cases h7
        have hk := knum_inj h6
        rw [intOf_some.1 h2] at ha ⊢
        rw [intOf_some.1 h4] at hb ⊢
        rw [ha.int, hb.int, ← hk, eqI_eq]
        refine ⟨?_, fun h => ?_⟩
        · show (if p.1 = p.1 then some (p.2 == q.2) else none) = _
          rw [if_pos rfl]
          rfl
        · have : p.2 = q.2 := of_decide_eq_true h
          rw [this]
          exact ⟨rfl, by simp [Instr.sameBits]⟩
theorem findK_R {d : TypeDesc} {k : V} {x : Value} (hk : Rv ρ X k x) : ∀ (l : En) (es : List MapEntry) (i : Nat) (f : Option (Nat × Nat × V)), Ents ρ X l es → findK d k l i = some f →
    (f = none ∧ Instr.findNow d x es i = some none) ∨ ∃ j p e, f = some (i + j, p.1, p.2.2) ∧ l[j]? = some p ∧ es[j]? = some e ∧ Instr.findNow d x es i = some (some (i + j, e.val)) ∧ Instr.sameBits 10000 e.key x = true ∧ p.2.1 = k := by
  intro l
  induction l with
  | nil =>
    intro es i f hE h
    have : es = [] := List.eq_nil_of_length_eq_zero hE.1.symm
    subst this
    cases h
    exact .inl ⟨rfl, rfl⟩
  | cons p l ih =>
    intro es i f hE h
    cases es with
    | nil => have := hE.1; simp at this
    | cons e es =>
      obtain ⟨t, h1, h2⟩ := ob_some.1 (show (ob (eqK d k p.2.1) fun t => cond t (some (some (i, p.1, p.2.2))) (findK d k l (Nat.succ i))) = some f from h)
      have he := hE.2 0 p e rfl rfl
      obtain ⟨k1, k2⟩ := eqK_some h1 hk he.key
      unfold Instr.findNow
      rw [k1]
      cases t with
      | true =>
        cases h2
        right
        obtain ⟨k3, k4⟩ := k2 rfl
        exact ⟨0, p, e, rfl, rfl, rfl, rfl, k4, k3.symm⟩
      | false =>
        rcases ih es (i + 1) f ⟨by have := hE.1; simpa using this, fun n h e h1 h2 => hE.2 (n + 1) h e h1 h2⟩ h2 with ⟨r1, r2⟩ | ⟨j, p', e', r1, r2, r3, r4, r5, r6⟩
        · exact .inl ⟨r1, r2⟩
        · right
          refine ⟨j + 1, p', e', by rw [r1]; congr 2; omega, r2, r3, ?_, r5, r6⟩
          show Instr.findNow d x es (i + 1) = _
          rw [r4]
          congr 3
          omega
theorem keyK_check {kt : TypeId} {d : TypeDesc} (hu : P.underlying kt = some d) (hd : keyK d = true) (b : Bool) (x : Value) : (Instr.checkKey b 10000 kt x).run P w = .ok () w := by
  unfold Instr.checkKey
  cases d <;> first | (cases hd; done) | simp [run_underlying hu]
theorem mapz_some {t : Nat} {q : TypeDesc × Nat} (h : mapz P t = some q) : ∃ kt, P.underlying t = some (.map kt q.2) ∧ P.underlying kt = some q.1 ∧ keyK q.1 = true := by
  obtain ⟨d, h1, h2⟩ := ob_some.1 h
  obtain ⟨p, h3, h4⟩ := ob_some.1 h2
  obtain ⟨k, h5, h6⟩ := ob_some.1 h4
  obtain ⟨h7, h8⟩ := cond_some.1 h6
  cases h8
  exact ⟨p.1, by rw [h1, mapD_some h3], h5, h7⟩
theorem mapAt_R {r : Nat} {L : Loc} {p : En × Nat} (hw : Wd X B w0 ρ M w) (hL : ρ r = some L) (h : mapAt M r = some p) : ∃ es, w.heap[L.b]? = some (.map es p.2) ∧ Ents ρ X p.1 es.toList := by
  have ho := (hw.obj r L hL).2.2.2
  rw [mapAt_some h] at ho
  obtain ⟨⟨es, k1, k2⟩, _⟩ := ho
  exact ⟨es, k1, k2⟩
theorem s_lookup {t : Nat} {x i : Operand} {ok : Bool} (hs : SE ρ X σ env) (hw : Wd X B w0 ρ M w) (h : fin M (x_lookup t x i ok cl C σ M) = .ok v M') : StepR C.P env (.lookup t x i ok) ty w (Gl X B w0 ρ M v M') := by
  obtain ⟨h1, h2⟩ := fin_lt h
  obtain ⟨q, h3, h4⟩ := ob_some.1 h1
  obtain ⟨f, h5, h6⟩ := ob_some.1 h4
  obtain ⟨kt, ht, hk, hd⟩ := mapz_some h3
  have hx := rd_R hs x
  have hi := rd_R hs i
  -- the answer
  have none_ : f = none → ∃ z u, (zeroValue q.2).run C.P w = .ok z w ∧ u = (if ok then Value.tuple #[z, .bool false] else z) ∧ Rv ρ X v u := by
    rintro rfl
    obtain ⟨z, h7, h8⟩ := ob_some.1 (show (ob (zeroV C.P q.2) fun z => some (cond ok (V.t [z, .b false]) z)) = some v from h6)
    obtain ⟨inf, zv, g1, g2, g3⟩ := zeroV_some h7
    cases h8
    refine ⟨zv, _, by simp [zeroValue, typeInfo, g1, g2], rfl, ?_⟩
    cases ok with
    | true => exact Rv.tup_mk (xs := [zv, .bool false]) (.cons (g3 ρ X) (.cons (.b false) .nil))
    | false => exact g3 ρ X
  have some_ : ∀ j s u y, f = some (j, s, u) → Rv ρ X u y → Rv ρ X v (if ok then Value.tuple #[y, .bool true] else y) := by
    rintro j s u y rfl hy
    have h7 : some (cond ok (V.t [u, .b true]) u) = some v := h6
    cases h7
    cases ok with
    | true => exact Rv.tup_mk (xs := [y, .bool true]) (.cons hy (.cons (.b true) .nil))
    | false => exact hy
  cases hm : isMn (rd x σ) with
  | true =>
    rw [hm] at h5
    have h5' : f = none := (Option.some.inj h5).symm
    obtain ⟨z, u, r1, r2, r3⟩ := none_ h5'
    rw [isMn_t.1 hm] at hx
    have hx' := hx.mnil
    refine pureS hw h2 ?_ r3
    have hc := keyK_check (P := C.P) (w := w) hk hd true (WG.ev env i)
    have hf : (Instr.findKey kt (WG.ev env i) []).run C.P w = .ok none w := by simp [Instr.findKey, run_underlying hk, Instr.findNow]
    rw [r2]
    show (execOp (WG.ev env) _).run C.P w = _
    cases ok <;> simp [execOp, hx', Instr.lookup, run_underlying ht, hc, hf, r1]
  | false =>
    rw [hm] at h5
    obtain ⟨r, h7, h8⟩ := ob_some.1 (show (ob (mapOf (rd x σ)) fun r => ob (mapAt M r) fun p => findK q.1 (rd i σ) p.1 0) = some f from h5)
    obtain ⟨p, h9, h10⟩ := ob_some.1 h8
    rw [mapOf_some.1 h7] at hx
    obtain ⟨L, hL, hx'⟩ := hx.map_
    obtain ⟨es, k1, k2⟩ := mapAt_R hw hL h9
    have hobj : (getObj L.b).run C.P w = .ok (.map es p.2) w := by simp [getObj, Sem.run, k1]
    have hc := keyK_check (P := C.P) (w := w) hk hd es.isEmpty (WG.ev env i)
    rcases findK_R (d := q.1) hi p.1 es.toList 0 f k2 h10 with ⟨e1, e2⟩ | ⟨j, p', e', e1, e2, e3, e4, _, _⟩
    · obtain ⟨z, u, r1, r2, r3⟩ := none_ e1
      refine pureS hw h2 ?_ r3
      have hf : (Instr.findKey kt (WG.ev env i) es.toList).run C.P w = .ok none w := by simp [Instr.findKey, run_underlying hk, e2]
      rw [r2]
      show (execOp (WG.ev env) _).run C.P w = _
      cases ok <;> simp [execOp, hx', Instr.lookup, run_underlying ht, hobj, hc, hf, r1]
    · refine pureS hw h2 ?_ (some_ _ _ _ e'.val e1 (k2.2 j p' e' e2 e3).val)
      have hf : (Instr.findKey kt (WG.ev env i) es.toList).run C.P w = .ok (some (0 + j, e'.val)) w := by simp [Instr.findKey, run_underlying hk, e4]
      show (execOp (WG.ev env) _).run C.P w = _
      cases ok <;> simp [execOp, hx', Instr.lookup, run_underlying ht, hobj, hc, hf]
theorem Ents.push {l : En} {es : Array MapEntry} {s : Nat} {k u : V} {x y : Value} (h : Ents ρ X l es.toList) (hk : Rv ρ X k x) (hu : Rv ρ X u y) : Ents ρ X (app l [(s, k, u)]) (es.push ⟨x, y, s⟩).toList := by
  rw [app_eq]
  refine ⟨by simp [h.1], fun i p e h1 h2 => ?_⟩
  rw [Array.toList_push] at h2
  by_cases hi : i < l.length
  · rw [List.getElem?_append_left hi] at h1
    rw [List.getElem?_append_left (by rw [← h.1]; exact hi)] at h2
    exact h.2 i p e h1 h2
  · rw [List.getElem?_append_right (by omega)] at h1
    rw [List.getElem?_append_right (by rw [← h.1]; omega), ← h.1] at h2
    cases hj : i - l.length with
    | zero =>
      rw [hj] at h1 h2
      simp at h1 h2
      subst h1; subst h2
      exact ⟨rfl, hk, hu⟩
    | succ n => rw [hj] at h1; simp at h1
theorem setI_get (u : V) : ∀ (l : En) (i j : Nat), (setI u l i)[j]? = if j = i then (l[j]?).map (fun h => (h.1, h.2.1, u)) else l[j]? := by
  intro l
  induction l with
  | nil => intro i j; simp [setI]
  | cons h l ih =>
    intro i j
    cases i with
    | zero =>
      show ((h.1, h.2.1, u) :: l)[j]? = _
      cases j with
      | zero => simp
      | succ j => simp
    | succ i =>
      show (h :: setI u l i)[j]? = _
      cases j with
      | zero => simp
      | succ j => simp [ih i j]
theorem setI_len (u : V) : ∀ (l : En) (i : Nat), (setI u l i).length = l.length := by
  intro l
  induction l with
  | nil => intro i; rfl
  | cons h l ih =>
    intro i
    cases i with
    | zero => rfl
    | succ i => exact congrArg Nat.succ (ih i)
theorem Ents.set {l : En} {es : Array MapEntry} {i : Nat} {u : V} {g : MapEntry → MapEntry} (h : Ents ρ X l es.toList) (hg : ∀ p e, l[i]? = some p → es.toList[i]? = some e → REn ρ X (p.1, p.2.1, u) (g e)) : Ents ρ X (setI u l i) (es.modify i g).toList := by
  refine ⟨by rw [setI_len, h.1]; simp, fun j p e h1 h2 => ?_⟩
  rw [setI_get] at h1
  rw [Array.getElem?_toList, Array.getElem?_modify] at h2
  by_cases hj : j = i
  · subst hj
    rw [if_pos rfl] at h1 h2
    obtain ⟨p', h3, rfl⟩ := Option.map_eq_some_iff.1 h1
    obtain ⟨e', h4, rfl⟩ := Option.map_eq_some_iff.1 h2
    exact hg p' e' h3 (by rw [Array.getElem?_toList]; exact h4)
  · rw [if_neg hj] at h1
    rw [if_neg (Ne.symm hj)] at h2
    exact h.2 j p e h1 (by rw [Array.getElem?_toList]; exact h2)
theorem Ents.key {l : En} {es : Array MapEntry} {i : Nat} {g : MapEntry → MapEntry} (h : Ents ρ X l es.toList) (hg : ∀ p e, l[i]? = some p → es.toList[i]? = some e → REn ρ X p (g e)) : Ents ρ X l (es.modify i g).toList := by
  refine ⟨by rw [h.1]; simp, fun j p e h1 h2 => ?_⟩
  rw [Array.getElem?_toList, Array.getElem?_modify] at h2
  by_cases hj : j = i
  · subst hj
    rw [if_pos rfl] at h2
    obtain ⟨e', h4, rfl⟩ := Option.map_eq_some_iff.1 h2
    exact hg p e' h1 (by rw [Array.getElem?_toList]; exact h4)
  · rw [if_neg (Ne.symm hj)] at h2
    exact h.2 j p e h1 (by rw [Array.getElem?_toList]; exact h2)
theorem setObj_run {g : Nat} {es : Array MapEntry} {ck : Nat} {o : Obj} (h : w.heap[g]? = some (.map es ck)) : (setObj g o).run P w = .ok () { w with heap := w.heap.setIfInBounds g o } := by simp [setObj, Sem.run, h]
theorem s_mapUpdate {t : Nat} {m k x : Operand} (hs : SE ρ X σ env) (hw : Wd X B w0 ρ M w) (h : fin M (x_mapUpdate t m k x cl C σ M) = .ok v M') : StepR C.P env (.mapUpdate t m k x) ty w (Gl X B w0 ρ M v M') := by
  obtain ⟨rfl, h1⟩ := fin_okM h
  obtain ⟨q, h2, h3⟩ := ob_some.1 h1
  obtain ⟨r, h4, h5⟩ := ob_some.1 h3
  obtain ⟨p, h6, h7⟩ := ob_some.1 h5
  obtain ⟨f, h8, h9⟩ := ob_some.1 h7
  obtain ⟨kt, ht, hk, hd⟩ := mapz_some h2
  have hm := rd_R hs m
  have hkv := rd_R hs k
  have hxv := rd_R hs x
  rw [mapOf_some.1 h4] at hm
  obtain ⟨L, hL, hm'⟩ := hm.map_
  obtain ⟨es, k1, k2⟩ := mapAt_R hw hL h6
  have hobj : (getObj L.b).run C.P w = .ok (.map es p.2) w := by simp [getObj, Sem.run, k1]
  have hc := keyK_check (P := C.P) (w := w) hk hd false (WG.ev env k)
  rcases findK_R (d := q.1) hkv p.1 es.toList 0 f k2 h8 with ⟨rfl, e2⟩ | ⟨j, p', e', rfl, e2, e3, e4, e5, e6⟩
  · cases h9
    have hf : (Instr.findKey kt (WG.ev env k) es.toList).run C.P w = .ok none w := by simp [Instr.findKey, run_underlying hk, e2]
    have hP := Wd.setMap (M' := putM r (app p.1 [(p.2, rd k σ, rd x σ)]) (Nat.succ p.2) M) (ck' := p.2 + 1) hw hL (mapAt_some h6) k1 (k2.push hkv hxv) (fun q => by show (M.T.set r _).get q = _; rw [Tr.get_set]) rfl
    refine .skip _ ?_ ⟨ρ, .z, hP⟩
    have hset := setObj_run (P := C.P) (o := .map (es.push ⟨WG.ev env k, WG.ev env x, p.2⟩) (p.2 + 1)) k1
    show (execOp (WG.ev env) _).run C.P w = _
    simp [execOp, hm', Instr.mapUpdate, run_underlying ht, hobj, hc, hf, hset]
  · have h10 : some (putM r (setI (rd x σ) p.1 (0 + j)) p.2 M) = some M' := h9
    cases h10
    have hf : (Instr.findKey kt (WG.ev env k) es.toList).run C.P w = .ok (some (0 + j, e'.val)) w := by simp [Instr.findKey, run_underlying hk, e4]
    have hP := Wd.setMap (M' := putM r (setI (rd x σ) p.1 (0 + j)) p.2 M) (l' := setI (rd x σ) p.1 (0 + j)) (ck' := p.2) (es' := es.modify (0 + j) fun e => { e with key := WG.ev env k, val := WG.ev env x }) hw hL (mapAt_some h6) k1 (k2.set fun p2 e h11 h12 => by
      rw [Nat.zero_add] at h11 h12
      rw [e2] at h11
      cases h11
      rw [e3] at h12
      cases h12
      refine ⟨(k2.2 j p' e' e2 e3).born, ?_, hxv⟩
      show Rv ρ X p'.2.1 (WG.ev env k)
      rw [e6]; exact hkv) (fun q => by show (M.T.set r _).get q = _; rw [Tr.get_set]) rfl
    refine .skip _ ?_ ⟨ρ, .z, hP⟩
    have hset := setObj_run (P := C.P) (o := .map (es.modify (0 + j) fun e => { e with key := WG.ev env k, val := WG.ev env x }) p.2) k1
    have hkey : es[0 + j]? = some e' := by rw [Nat.zero_add]; simpa using e3
    have hks : (Instr.keyThatStays e'.key (WG.ev env k)).run C.P w = .ok (WG.ev env k) w := by
      unfold Instr.keyThatStays
      rw [if_pos e5]
      rfl
    show (execOp (WG.ev env) _).run C.P w = _
    simp only [Nat.zero_add] at hf hset hkey ⊢
    simp [execOp, hm', Instr.mapUpdate, run_underlying ht, hobj, hc, hf, hkey, hks, hset]
theorem s_mapEntry {t : Nat} {m k : Operand} (hs : SE ρ X σ env) (hw : Wd X B w0 ρ M w) (h : fin M (x_mapEntry t m k cl C σ M) = .ok v M') : StepR C.P env (.mapEntry t m k) ty w (Gl X B w0 ρ M v M') := by
  have h1 := fin_lc h
  obtain ⟨q, h2, h3⟩ := ob_some.1 h1
  obtain ⟨r, h4, h5⟩ := ob_some.1 h3
  obtain ⟨p, h6, h7⟩ := ob_some.1 h5
  obtain ⟨f, h8, h9⟩ := ob_some.1 h7
  obtain ⟨kt, ht, hk, hd⟩ := mapz_some h2
  have hm := rd_R hs m
  have hkv := rd_R hs k
  rw [mapOf_some.1 h4] at hm
  obtain ⟨L, hL, hm'⟩ := hm.map_
  obtain ⟨es, k1, k2⟩ := mapAt_R hw hL h6
  have hobj : (getObj L.b).run C.P w = .ok (.map es p.2) w := by simp [getObj, Sem.run, k1]
  have hc := keyK_check (P := C.P) (w := w) hk hd false (WG.ev env k)
  rcases findK_R (d := q.1) hkv p.1 es.toList 0 f k2 h8 with ⟨rfl, e2⟩ | ⟨j, p', e', rfl, e2, e3, e4, e5, e6⟩
  · obtain ⟨z, h10, h11⟩ := ob_some.1 (show (ob (zeroV C.P q.2) fun z => some (Cr.ok (.t [z, .i .i64 (.ofNat p.2)]) (putM r (app p.1 [(p.2, rd k σ, z)]) (Nat.succ p.2) M))) = some (.ok v M') from h9)
    cases h11
    obtain ⟨inf, zv, g1, g2, g3⟩ := zeroV_some h10
    have hf : (Instr.findKey kt (WG.ev env k) es.toList).run C.P w = .ok none w := by simp [Instr.findKey, run_underlying hk, e2]
    have hP := Wd.setMap (M' := putM r (app p.1 [(p.2, rd k σ, z)]) (Nat.succ p.2) M) (ck' := p.2 + 1) hw hL (mapAt_some h6) k1 (k2.push hkv (g3 ρ X)) (fun q => by show (M.T.set r _).get q = _; rw [Tr.get_set]) rfl
    refine .val (.tuple [zv, .int .i64 (p.2 : Int)].toArray) _ ?_ ⟨ρ, Rv.tup_mk (.cons (g3 ρ X) (.cons (.i _ _) .nil)), hP⟩
    have hset := setObj_run (P := C.P) (o := .map (es.push ⟨WG.ev env k, zv, p.2⟩) (p.2 + 1)) k1
    show (execOp (WG.ev env) _).run C.P w = _
    simp [execOp, hm', Instr.mapEntry, run_underlying ht, hobj, hc, hf, zeroValue, typeInfo, g1, g2, hset, goInt]
  · have h10 : some (Cr.ok (.t [p'.2.2, .i .i64 (.ofNat p'.1)]) M) = some (.ok v M') := h9
    cases h10
    have hf : (Instr.findKey kt (WG.ev env k) es.toList).run C.P w = .ok (some (0 + j, e'.val)) w := by simp [Instr.findKey, run_underlying hk, e4]
    have hE := k2.2 j p' e' e2 e3
    have hP := Wd.setMap (M' := M) (l' := p.1) (ck' := p.2) (es' := es.modify (0 + j) fun e => { e with key := WG.ev env k }) hw hL (mapAt_some h6) k1 (k2.key fun p2 e h11 h12 => by
      rw [Nat.zero_add] at h11 h12
      rw [e2] at h11
      cases h11
      rw [e3] at h12
      cases h12
      refine ⟨hE.born, ?_, hE.val⟩
      show Rv ρ X p'.2.1 (WG.ev env k)
      rw [e6]; exact hkv) (fun q => by
        split
        · rename_i e; subst e; exact mapAt_some h6
        · rfl) rfl
    refine .val (.tuple [e'.val, .int .i64 (e'.born : Int)].toArray) _ ?_ ⟨ρ, Rv.tup_mk (.cons hE.val (.cons (by rw [hE.born]; exact .i _ _) .nil)), hP⟩
    have hset := setObj_run (P := C.P) (o := .map (es.modify (0 + j) fun e => { e with key := WG.ev env k }) p.2) k1
    have hkey : es[0 + j]? = some e' := by rw [Nat.zero_add]; simpa using e3
    have hks : (Instr.keyThatStays e'.key (WG.ev env k)).run C.P w = .ok (WG.ev env k) w := by
      unfold Instr.keyThatStays
      rw [if_pos e5]
      rfl
    show (execOp (WG.ev env) _).run C.P w = _
    simp only [Nat.zero_add] at hf hset hkey ⊢
    simp [execOp, hm', Instr.mapEntry, run_underlying ht, hobj, hc, hf, hkey, hks, hset, goInt]
theorem findS_R {s : Nat} : ∀ (l : En) (es : List MapEntry) (i n : Nat), Ents ρ X l es → findS s l i = some n → ∃ j, n = i + j ∧ es.findIdx? (fun e => (e.born : Int) == (s : Int)) = some j := by
  intro l
  induction l with
  | nil => intro es i n hE h; cases h
  | cons p l ih =>
    intro es i n hE h
    cases es with
    | nil => have := hE.1; simp at this
    | cons e es =>
      have he := (hE.2 0 p e rfl rfl).born
      have h' : cond (Nat.beq p.1 s) (some i) (findS s l (Nat.succ i)) = some n := h
      rw [List.findIdx?_cons]
      cases hb : Nat.beq p.1 s with
      | true =>
        rw [hb] at h'
        cases h'
        refine ⟨0, rfl, ?_⟩
        have : ((e.born : Int) == (s : Int)) = true := by rw [← he, nbeq.1 hb]; simp
        rw [this]
        rfl
      | false =>
        rw [hb] at h'
        obtain ⟨j, h1, h2⟩ := ih es (i + 1) n ⟨by have := hE.1; simpa using this, fun n h e h1 h2 => hE.2 (n + 1) h e h1 h2⟩ h'
        have hne := nbeq_f.1 hb
        have : ((e.born : Int) == (s : Int)) = false := by rw [← he]; simp; omega
        rw [this]
        refine ⟨j + 1, by omega, ?_⟩
        simp [h2]
theorem s_entryStore {t : Nat} {m s x : Operand} (hs : SE ρ X σ env) (hw : Wd X B w0 ρ M w) (h : fin M (x_entryStore t m s x cl C σ M) = .ok v M') : StepR C.P env (.entryStore t m s x) ty w (Gl X B w0 ρ M v M') := by
  obtain ⟨rfl, h1⟩ := fin_okM h
  obtain ⟨r, h2, h3⟩ := ob_some.1 h1
  obtain ⟨p, h4, h5⟩ := ob_some.1 h3
  obtain ⟨n, h6, h7⟩ := ob_some.1 h5
  obtain ⟨i, h8, h9⟩ := ob_some.1 h7
  cases h9
  have hm := rd_R hs m
  have hxv := rd_R hs x
  obtain ⟨k, h10⟩ := natOf_some h6
  have hsv := (rd_R hs s).int_of h10
  rw [mapOf_some.1 h2] at hm
  obtain ⟨L, hL, hm'⟩ := hm.map_
  obtain ⟨es, k1, k2⟩ := mapAt_R hw hL h4
  obtain ⟨j, rfl, k3⟩ := findS_R p.1 es.toList 0 i k2 h8
  have hobj : (getObj L.b).run C.P w = .ok (.map es p.2) w := by simp [getObj, Sem.run, k1]
  have hidx : es.findIdx? (fun e => (e.born : Int) == (n : Int)) = some j := by
    have e : es.toList.toArray.findIdx? (fun e => (e.born : Int) == (n : Int)) = some j := by rw [List.findIdx?_toArray]; exact k3
    simpa using e
  have hP := Wd.setMap (M' := putM r (setI (rd x σ) p.1 (0 + j)) p.2 M) (l' := setI (rd x σ) p.1 (0 + j)) (ck' := p.2) (es' := es.modify (0 + j) fun e => { e with val := WG.ev env x }) hw hL (mapAt_some h4) k1 (k2.set fun p2 e h11 h12 => by
    have := k2.2 _ p2 e h11 h12
    exact ⟨this.born, this.key, hxv⟩) (fun q => by show (M.T.set r _).get q = _; rw [Tr.get_set]) rfl
  refine .skip _ ?_ ⟨ρ, .z, hP⟩
  have hset := setObj_run (P := C.P) (o := .map (es.modify (0 + j) fun e => { e with val := WG.ev env x }) p.2) k1
  show (execOp (WG.ev env) _).run C.P w = _
  simp only [Nat.zero_add] at hset ⊢
  simp [execOp, hm', hsv, Instr.entryStore, hobj, asInt, asIntOf, hidx, hset]
end
end Go.CE
