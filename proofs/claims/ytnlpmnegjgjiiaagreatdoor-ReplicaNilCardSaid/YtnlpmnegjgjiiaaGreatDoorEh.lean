/- What one operation comes to: append, copy, len, cap, min, max. -/
import Derived.Test.YtnlpmnegjgjiiaaGreatDoorEg
namespace Go.CE
open Go Go.RowKit
set_option linter.all false
section
variable {C : Cfg} {cl : CallF} {X : Nat → Value} {B : Nat} {w0 w w1 : World} {ρ : Rh} {M M' : Mem} {σ : Sl} {env : WG.Env} {ty : TypeId} {v : V} {y : Value} {P : Program}
/-- Stored where no object stands. -/
theorem Wd.frame (h : Wd X B w0 ρ M w) {b o : Nat} {xs : List Value} (hB : B ≤ b) (hth : w.there b o xs.length)
    (hap : ∀ q K, ρ q = some K → live (M.T.get q) → K.b ≠ b ∨ K.f + K.e ≤ o ∨ o + xs.length ≤ K.f) : Wd X B w0 ρ M (w.setCells b o xs) := by
  refine ⟨h.low.trans ⟨World.os_setCells _ _ _ _, tape_setCells _ _ _ _, World.output_setCells _ _ _ _, by rw [heap_size_setCells]; exact Nat.le_refl _, fun k hk => World.heap_setCells_other _ _ _ _ (Nat.lt_of_lt_of_le hk h.size) (by omega)⟩,
    by rw [heap_size_setCells]; exact h.size, h.free, fun q K hq => ?_, h.apart⟩
  obtain ⟨g1, g2, g3, g4⟩ := h.obj q K hq
  refine ⟨g1, g2, by rw [heap_size_setCells]; exact g3, ?_⟩
  cases hob : M.T.get q with
  | none => rw [hob] at g4; exact g4
  | some ob =>
    rw [hob] at g4
    have hq' := hap q K hq
    rw [hob] at hq'
    cases ob with
    | c l2 ex2 =>
      obtain ⟨⟨zs, m1, m2⟩, m3, m4, m5⟩ := g4
      refine ⟨⟨zs, m1, World.rangeAt_setCells_apart m2 _ _ _ ?_⟩, World.there_setCells m3 _ _ _, m4, m5⟩
      have := m1.len
      rcases hq' trivial with a1 | a1 | a1
      · exact .inl a1
      · right; left; omega
      · right; right; omega
    | m l2 ck =>
      obtain ⟨⟨es, m1, m2⟩, m3, m4⟩ := g4
      refine ⟨⟨es, ?_, m2⟩, m3, m4⟩
      rcases Decidable.em (b = K.b) with a0 | a0
      · have hcs : xs.length = 0 := by
          rcases Nat.eq_zero_or_pos xs.length with a1 | a1
          · exact a1
          · have := (hth 0 a1).1
            rw [a0] at this
            unfold World.cell? at this
            rw [show ((⟨K.b, o + 0, Option.none⟩ : Addr)).block = K.b from rfl, m1] at this
            simp at this
        have : xs = [] := List.eq_nil_of_length_eq_zero hcs
        subst this
        exact m1
      · rw [World.heap_setCells_other _ _ _ _ g3 (Ne.symm a0)]
        exact m1
    | dead => trivial
/-- An object that nobody asks for any more. -/
theorem Wd.kill (h : Wd X B w0 ρ M w) (r : Nat) (hr : r < M.nx) : Wd X B w0 ρ ⟨M.T.set r .dead, M.nx⟩ w :=
  ⟨h.low, h.size, fun q hq => by
    have hq2 : M.nx ≤ q := hq
    show (M.T.set r .dead).get q = none
    rw [Tr.get_set, if_neg (by omega)]
    exact h.free q hq2, fun q K hq => by
    obtain ⟨g1, g2, g3, g4⟩ := h.obj q K hq
    refine ⟨g1, g2, g3, ?_⟩
    show Ok ρ X w K ((M.T.set r .dead).get q)
    rw [Tr.get_set]
    split
    · trivial
    · exact g4, fun q q' K K' hne hq hq' hl hl' => by
    have lv : ∀ q, live ((M.T.set r .dead).get q) → live (M.T.get q) := fun q hq => by
      rw [Tr.get_set] at hq
      split at hq
      · cases hq
      · exact hq
    exact h.apart q q' K K' hne hq hq' (lv q hl) (lv q' hl')⟩
/-! What is appended. -/
theorem bytesV_R {us : List UInt8} : Cs ρ X (bytesV (us.map UInt8.toNat)) (us.map fun b => Value.int .u8 b.toNat) := by
  have e1 : bytesV (us.map UInt8.toNat) = us.map fun b => V.i .u8 (b.toNat : Int) := by
    unfold bytesV
    rw [mp_eq, List.map_map]
    rfl
  rw [e1]
  exact ⟨RL.map _ fun b _ => .i _ _, fun u hu => by
    obtain ⟨b, _, rfl⟩ := List.mem_map.1 hu
    rfl⟩
/-- The first n elements of a slice or a string. -/
theorem srcV_R {z n : Nat} {x : V} {ys : List V} (hw : Wd X B w0 ρ M w) (h : srcV z x n M = some ys) (hx : Rv ρ X x y) (hn : ∀ k, lenV x = some k → n ≤ k) :
    ∃ xs, Cs ρ X ys xs ∧ xs.length = n * z ∧ (∀ w', (w' = w ∨ w' = w.drew) → (Builtin.firstCells z n y).run P w' = .ok xs.toArray w') := by
  unfold srcV at h
  cases hs : strOf x with
  | some l =>
    rw [hs] at h
    obtain ⟨h1, h2⟩ := cond_some.1 (show cond (Nat.beq z 1) (ob (tk n l) fun l => some (bytesV l)) none = some ys from h)
    obtain ⟨l', h3, h4⟩ := ob_some.1 h2
    cases h4
    obtain ⟨rfl, h5⟩ := tk_some h3
    rw [strOf_some.1 hs] at hx
    obtain ⟨d, rfl, rfl⟩ := hx.str
    obtain rfl := nbeq.1 h1
    rw [bytesL_len] at h5
    have e : (bytesL d).take n = (d.data.toList.take n).map UInt8.toNat := by unfold bytesL; rw [List.map_take]
    refine ⟨(d.data.toList.take n).map fun b => Value.int .u8 b.toNat, by rw [e]; exact bytesV_R, by simp; have : d.data.size = d.size := rfl; omega, fun w' _ => ?_⟩
    have e2 : (d.extract 0 n).data.map (fun b => Value.int .u8 (b.toNat : Int)) = ((d.data.toList.take n).map fun b => Value.int .u8 (b.toNat : Int)).toArray := by
      apply Array.ext'
      rw [ByteArray.data_extract]
      simp
    simp only [Builtin.firstCells, Sem.run_pure, e2]
  | none =>
    rw [hs] at h
    obtain ⟨s, h1, h2⟩ := ob_some.1 (show (ob (slcOf x) fun s => cond (Nat.beq s.z z) (cellsAt M s.r s.o (Nat.mul n z)) none) = some ys from h)
    obtain ⟨h3, h4⟩ := cond_some.1 h2
    have hx0 := slcOf_some.1 h1
    rw [hx0] at hx
    obtain ⟨L, a, c, hL, rfl, hnc, ha, _⟩ := hx.slc
    obtain ⟨xs, k1, k2, k3⟩ := hw.read hL h4
    have hk : n ≤ s.n := hn s.n (by rw [hx0]; rfl)
    have hk3 : xs.length = n * z := k3
    refine ⟨xs, k1, k3, fun w' hw' => ?_⟩
    refine run_firstCells_some (P := P) w' z n a s.n c xs hk3 fun j u hj => ?_
    have hj' : j < n * z := by rw [← hk3]; exact (List.getElem?_eq_some_iff.1 hj).1
    have hc0 : c ≠ 0 := fun e => by
      subst e
      have : n = 0 := by omega
      subst this
      rw [Nat.zero_mul] at hj'
      omega
    rw [ha hc0, WG.add_of]
    rcases hw' with rfl | rfl
    · exact k2 j u hj
    · exact k2 j u hj
theorem lenV_R {x : V} {n : Nat} (h : lenV x = some n) (hx : Rv ρ X x y) (w : World) : (Builtin.lenOf y).run P w = .ok n w := by
  unfold lenV at h
  cases hs : strOf x with
  | some l =>
    rw [hs] at h
    have h' : some (len l) = some n := h
    cases h'
    rw [strOf_some.1 hs] at hx
    obtain ⟨d, rfl, rfl⟩ := hx.str
    rw [len_eq, bytesL_len]
    rfl
  | none =>
    rw [hs] at h
    have h' : cond (isLn x) (some 0) (ob (slcOf x) fun s => some s.n) = some n := h
    cases hl : isLn x with
    | true =>
      rw [hl] at h'
      cases h'
      rw [isLn_t.1 hl] at hx
      rw [hx.lnil]
      rfl
    | false =>
      rw [hl] at h'
      obtain ⟨s, h1, h2⟩ := ob_some.1 (show (ob (slcOf x) fun s => some s.n) = some n from h')
      cases h2
      rw [slcOf_some.1 h1] at hx
      obtain ⟨L, a, c, _, rfl, _⟩ := hx.slc
      rfl
theorem srcT_t {t : Nat} (h : srcT P t = true) : (∃ e', P.underlying t = some (.slice e')) ∨ P.underlying t = some .string := by
  obtain ⟨d, h1, h2⟩ := oe_t.1 h
  cases hs : strD d with
  | true => exact .inr (by rw [h1, strD_t hs])
  | false =>
    rw [hs] at h2
    obtain ⟨e, h3, _⟩ := oe_t.1 (show (oe (elemD d) false fun _ => true) = true from h2)
    exact .inl ⟨e, by rw [h1, elemD_some h3]⟩
/-- Nothing to read. -/
theorem src0 {z : Nat} {x : V} (h : lenV x = some 0) (hx : Rv ρ X x y) (w : World) : (Builtin.firstCells z 0 y).run P w = .ok #[] w := by
  unfold lenV at h
  cases hs : strOf x with
  | some l =>
    rw [strOf_some.1 hs] at hx
    obtain ⟨d, rfl, rfl⟩ := hx.str
    have e2 : (d.extract 0 0).data.map (fun b => Value.int .u8 (b.toNat : Int)) = #[] := by
      apply Array.ext'
      rw [ByteArray.data_extract]
      simp
    simp only [Builtin.firstCells, Sem.run_pure, e2]
  | none =>
    rw [hs] at h
    have h' : cond (isLn x) (some 0) (ob (slcOf x) fun s => some s.n) = some 0 := h
    cases hl : isLn x with
    | true =>
      rw [isLn_t.1 hl] at hx
      rw [hx.lnil]
      exact run_firstCells_none (P := P) w z 0 0 0
    | false =>
      rw [hl] at h'
      obtain ⟨s, h1, h2⟩ := ob_some.1 (show (ob (slcOf x) fun s => some s.n) = some 0 from h')
      rw [slcOf_some.1 h1] at hx
      obtain ⟨L, a, c, _, rfl, _⟩ := hx.slc
      have := run_firstCells_some (P := P) w z 0 a s.n c [] (by simp) (fun j u hj => by simp at hj)
      exact this
/-! The new row of append. -/
theorem grown_R {e n m sCap : Nat} {i : TypeInfo} {zv : Value} {olds news : List Value} {l : List V} (hw : Wd X B w0 ρ M w) (hz : zv.cells.size = i.size) (ho : olds.length = n * i.size) (hnw : news.length = m * i.size) (hc : Cs ρ X l (olds ++ news)) (hm : n + m ≤ 281474976710656) :
    ∃ c : Array Value, c = ((olds ++ news).toArray ++ Builtin.zeroCells zv.cells (grownCap w (n + m) sCap e - (n + m))) ∧ Rv (Rh.put ρ M.nx ⟨w.heap.size, 0, c.size⟩) X (.l M.nx 0 (n + m) none i.size) (.slice (some ⟨w.heap.size, 0, none⟩) (n + m) (grownCap w (n + m) sCap e)) ∧
      Post X B w0 ρ M (Rh.put ρ M.nx ⟨w.heap.size, 0, c.size⟩) ⟨M.T.set M.nx (.c l false), M.nx + 1⟩ (w.drew.alloc (.cells c e)) := by
  have hge : n + m ≤ grownCap w (n + m) sCap e := grownCap_ge _ _ _ _
  have hsz : ((olds ++ news).toArray ++ Builtin.zeroCells zv.cells (grownCap w (n + m) sCap e - (n + m))).size = grownCap w (n + m) sCap e * i.size := by
    have : (Builtin.zeroCells zv.cells (grownCap w (n + m) sCap e - (n + m))).size = (grownCap w (n + m) sCap e - (n + m)) * i.size := by
      unfold Builtin.zeroCells
      simp [hz]
    rw [Array.size_append, this]
    simp only [List.size_toArray, List.length_append, ho, hnw]
    rw [← Nat.add_mul, ← Nat.add_mul]
    congr 1
    omega
  refine ⟨_, rfl, ?_, ?_⟩
  · refine Rv.slc_mk (Rh.put_same _ _ _) hge (grownCap_le_maxLen _ _ _ _ (by unfold maxLen; omega)) (fun _ => rfl) (fun c hc => by cases hc) (fun _ => ?_)
    show 0 + _ * _ = _
    rw [hsz, Nat.zero_add]
  · refine (Post.cells (w1 := w.drew) (ex := false) _ e (0, 0) hw (.inr rfl) (.inl rfl) hc ?_ (fun h => by cases h)).2
    rw [Array.toList_append]
    exact (List.take_left' rfl).symm
theorem append_cong {ts : Array TypeId} {as : Array Value} {t tx : TypeId} {a b : Value} (h1 : ts[0]? = some t) (h2 : ts[1]? = some tx) (h3 : as[0]? = some a) (h4 : as[1]? = some b) : Builtin.append_ ts ty as = Builtin.append_ #[t, tx] ty #[a, b] := by
  unfold Builtin.append_
  simp only [h1, h2, h3, h4]
  rfl
theorem appendV_R {ts : Array TypeId} {as : Array Value} {a b : V} {x y : Value} (hw : Wd X B w0 ρ M w) (ha : Rv ρ X a x) (hb : Rv ρ X b y) (h3 : as[0]? = some x) (h4 : as[1]? = some y) (h : fin M (appendV P ts.toList a b M) = .ok v M') :
    ∃ u w', (Builtin.append_ ts ty as).run P w = .ok u w' ∧ Gl X B w0 ρ M v M' u w' := by
  obtain ⟨t, h5, h⟩ := fin_oe h
  obtain ⟨tx, h6, h⟩ := fin_oe h
  obtain ⟨h7, h⟩ := fin_cond h
  obtain ⟨e, h8, h⟩ := fin_oe h
  obtain ⟨n, h9, h⟩ := fin_oe h
  obtain ⟨h10, h⟩ := fin_condn h
  rw [nth_eq] at h5 h6
  rw [append_cong (t := t) (tx := tx) (by simpa using h5) (by simpa using h6) h3 h4]
  obtain ⟨ht, hsz⟩ := elz_some h8
  obtain ⟨i, hi, hiz⟩ := Option.map_eq_some_iff.1 hsz
  have hz0 : i.size ≠ 0 := by rw [hiz]; exact nbeq_f.1 h10
  cases hn : Nat.beq n 0 with
  | true =>
    rw [hn] at h
    obtain rfl := nbeq.1 hn
    obtain ⟨h11, h⟩ := fin_cond (show fin M (cond (or2 (isLn a) (isL a)) (.v a) no) = .ok v M' from h)
    obtain ⟨rfl, rfl⟩ := fin_v h
    have hS : Src P i.size tx y 0 [] w := ⟨srcT_t h7, fun w' => lenV_R h9 hb w', src0 h9 hb w, src0 h9 hb w.drew, by simp, fun u hu => by cases hu⟩
    rw [or2_eq] at h11
    rcases Bool.or_eq_true _ _ ▸ h11 with h12 | h12
    · rw [isLn_t.1 h12] at ha ⊢
      rw [ha.lnil]
      exact ⟨_, _, run_append_nothing w t tx ty e.1 i ht hi none 0 0 (Nat.le_refl _) y hS, ρ, .ln, Post.refl hw⟩
    · obtain ⟨_, _, _, _, _, rfl⟩ := isL_t h12
      have ha' := ha
      obtain ⟨L, ad, c, _, rfl, hle, _⟩ := ha.slc
      exact ⟨_, _, run_append_nothing w t tx ty e.1 i ht hi (some ad) _ c hle y hS, ρ, ha', Post.refl hw⟩
  | false =>
    rw [hn] at h
    have hn0 := nbeq_f.1 hn
    obtain ⟨ys, h11, h⟩ := fin_oe (show fin M (oe (srcV e.2 b n M) no _) = .ok v M' from h)
    obtain ⟨news, k1, k2, k3⟩ := srcV_R (P := P) hw h11 hb (fun k hk => by rw [h9] at hk; cases hk; exact Nat.le_refl _)
    rw [← hiz] at k2 k3
    have hS : Src P i.size tx y n news w := ⟨srcT_t h7, fun w' => lenV_R h9 hb w', k3 w (.inl rfl), k3 w.drew (.inr rfl), k2, k1.cell1⟩
    cases hl : isLn a with
    | true =>
      rw [hl] at h
      obtain ⟨h12, h⟩ := fin_cond (show fin M (cond (fits P e.1 n) (newL ys n e.2) no) = .ok v M' from h)
      obtain ⟨i', zv, g1, g2, g3, g4, g5⟩ := fits_some h12
      rw [hi] at g1
      cases g1
      obtain ⟨f1, f2, f3⟩ := fits_n g4 g5
      rw [isLn_t.1 hl] at ha
      rw [ha.lnil]
      obtain ⟨rfl, rfl⟩ := fin_n h
      obtain ⟨c, hc, r1, r2⟩ := grown_R (e := e.1) (sCap := 0) (n := 0) (m := n) (olds := []) hw g3 (by simp) k2 (by simpa using k1) (by rw [Nat.zero_add]; exact f2)
      have hr := run_append_grow_src (P := P) w t tx ty e.1 i zv ht hi g2 none 0 0 [] (run_firstCells_none (P := P) w.drew i.size 0 0 0) y n news hS (by omega) (by omega) (Nat.not_lt.1 (WG.nextslicecap_small (n := 0 + n) (c := 0) (by omega) (by rw [Nat.zero_add]; exact f3)))
      rw [← hc] at hr
      refine ⟨_, _, hr, _, ?_, r2⟩
      rw [← hiz]
      have e1 : (0 + n) = n := Nat.zero_add n
      simp only [e1] at r1 ⊢
      exact r1
    | false =>
      rw [hl] at h
      obtain ⟨s, h12, h⟩ := fin_oe (show fin M (oe (slcOf a) no fun s => cond (Nat.beq s.z e.2) (cond (fits P e.1 (Nat.add s.n n)) (oe (objAt M s.r) no (appendS e.2 s ys n M)) no) no) = .ok v M' from h)
      obtain ⟨h13, h⟩ := fin_cond h
      obtain ⟨h14, h⟩ := fin_cond h
      obtain ⟨q, h15, h⟩ := fin_oe h
      obtain ⟨i', zv, g1, g2, g3, g4, g5⟩ := fits_some h14
      rw [hi] at g1
      cases g1
      obtain ⟨f1, f2, f3⟩ := fits_n g4 g5
      rw [slcOf_some.1 h12] at ha
      obtain ⟨L, ad, c, hL, rfl, hle, hloc, hc1, hc2, hcm⟩ := ha.slc
      have hsz' : s.z = i.size := by rw [nbeq.1 h13, hiz]
      rw [← hiz] at h
      obtain ⟨xs, c1, c2, c3, c4, c5⟩ := hw.cells hL h15
      have hlen1 := c1.len
      have hlen2 := k1.len
      -- in place
      have inPlace : ∀ (l' : List V), s.n + n ≤ c → put (s.o + s.n * i.size) ys q.1 = some l' → ∃ w', (Builtin.append_ #[t, tx] ty #[.slice (some ad) s.n c, y]).run P w = .ok (.slice (some ad) (s.n + n) c) w' ∧ Post X B w0 ρ M ρ ⟨M.T.set s.r (.c l' q.2), M.nx⟩ w' := by
        intro l' hroom hput
        obtain ⟨s1, s2⟩ := hw.store hL (objAt_some h15) k1 hput
        have had := hloc (by omega)
        subst had
        have hr := run_append_room_src (P := P) w t tx ty e.1 i ht hi L.b (L.f + s.o) s.n c y n news hS hroom (fun j hj => by rw [Nat.add_assoc L.f]; exact (s1 j hj).1) (fun j hj => by rw [Nat.add_assoc L.f]; exact (s1 j hj).2)
        refine ⟨_, hr, Rh.le_refl _, Nat.le_refl _, fun r' hr' hn => ⟨?_, hn⟩, ?_⟩
        · show (M.T.set s.r _).get r' = _
          rw [Tr.get_set, if_neg (fun e => by subst e; rw [hL] at hn; cases hn)]
        · rw [Nat.add_assoc L.f]
          exact s2
      -- anew
      have anew : ∀ (l : List V) (olds : List Value), c < s.n + n → olds.length = s.n * i.size → (∀ j u, olds[j]? = some u → w.cell? ⟨L.b, L.f + s.o + j, none⟩ = some u) → Cs ρ X l (olds ++ news) →
          ∃ w' ρ', (Builtin.append_ #[t, tx] ty #[.slice (some ad) s.n c, y]).run P w = .ok (.slice (some ⟨w.heap.size, 0, none⟩) (s.n + n) (grownCap w (s.n + n) c e.1)) w' ∧ Rv ρ' X (.l M.nx 0 (s.n + n) none i.size) (.slice (some ⟨w.heap.size, 0, none⟩) (s.n + n) (grownCap w (s.n + n) c e.1)) ∧ Post X B w0 ρ M ρ' ⟨M.T.set M.nx (.c l false), M.nx + 1⟩ w' := by
        intro l olds hg ho hcell hcs
        obtain ⟨cc, hcc, r1, r2⟩ := grown_R (e := e.1) (sCap := c) hw g3 ho k2 hcs f2
        have hold : (Builtin.firstCells i.size s.n (.slice (some ad) s.n c)).run P w.drew = .ok olds.toArray w.drew := by
          refine run_firstCells_some (P := P) w.drew i.size s.n ad s.n c olds ho fun j u hj => ?_
          have hj' : j < s.n * i.size := by rw [← ho]; exact (List.getElem?_eq_some_iff.1 hj).1
          have hc0 : c ≠ 0 := fun e0 => by
            have : s.n = 0 := by omega
            rw [this, Nat.zero_mul] at hj'
            omega
          rw [hloc hc0, WG.add_of]
          exact hcell j u hj
        have hr := run_append_grow_src (P := P) w t tx ty e.1 i zv ht hi g2 (some ad) s.n c olds hold y n news hS hg (by have : s.n + n ≤ 281474976710656 := f2; omega) (Nat.not_lt.1 (WG.nextslicecap_small hg f3))
        rw [← hcc] at hr
        exact ⟨_, _, hr, r1, r2⟩
      unfold appendS at h
      cases hcc : s.c with
      | some c' =>
        obtain rfl := hc1 c' hcc
        rw [hcc] at h
        have h' : fin M (cond (Nat.ble (Nat.add s.n n) c) (oe (put (Nat.add s.o (Nat.mul s.n i.size)) ys q.1) no fun l => .c (.ok (.l s.r s.o (Nat.add s.n n) (some c) i.size) ⟨M.T.set s.r (.c l q.2), M.nx⟩)) (oe (tk (Nat.mul s.n i.size) (drp s.o q.1)) no fun xs => newL (app xs ys) (Nat.add s.n n) i.size)) = .ok v M' := h
        cases hbl : Nat.ble (Nat.add s.n n) c with
        | true =>
          rw [hbl] at h'
          obtain ⟨l', h16, h17⟩ := fin_oe (show fin M (oe (put (Nat.add s.o (Nat.mul s.n i.size)) ys q.1) no fun l => .c (.ok (.l s.r s.o (Nat.add s.n n) (some c) i.size) ⟨M.T.set s.r (.c l q.2), M.nx⟩)) = .ok v M' from h')
          cases h17
          have hroom : s.n + n ≤ c := Nat.le_of_ble_eq_true hbl
          obtain ⟨w', r1, r2⟩ := inPlace l' hroom h16
          exact ⟨_, w', r1, ρ, Rv.slc_mk hL hroom hcm hloc (fun k hk => Option.some.inj hk) (fun hk => by cases hk), r2⟩
        | false =>
          rw [hbl] at h'
          obtain ⟨xs', h16, h17⟩ := fin_oe (show fin M (oe (tk (Nat.mul s.n i.size) (drp s.o q.1)) no fun xs => newL (app xs ys) (Nat.add s.n n) i.size) = .ok v M' from h')
          obtain ⟨rfl, rfl⟩ := fin_n h17
          have hg : c < s.n + n := by
            rcases Nat.lt_or_ge c (s.n + n) with h | h
            · exact h
            · rw [Nat.ble_eq_true_of_le (show Nat.add s.n n ≤ c from h)] at hbl; cases hbl
          rw [drp_eq] at h16
          obtain ⟨rfl, h18⟩ := tk_some h16
          obtain ⟨w', ρ', r1, r2, r3⟩ := anew _ ((xs.drop s.o).take (s.n * i.size)) hg (by rw [List.length_take, ← (c1.drop s.o).len]; have : s.n * i.size ≤ (List.drop s.o q.1).length := h18; omega) (fun j u hj => World.rangeAt.take (World.rangeAt.drop c2 s.o) _ j u hj) (((c1.drop s.o).take (s.n * i.size)).append k1)
          rw [app_eq]
          exact ⟨_, w', r1, ρ', r2, r3⟩
      | none =>
        rw [hcc] at h
        have hroomE := hc2 hcc
        rw [hsz'] at hroomE
        have h' : fin M (oe (put (Nat.add s.o (Nat.mul s.n i.size)) ys q.1) (cond (Nat.beq (Nat.add s.o (Nat.mul s.n i.size)) (len q.1)) (.c (.ok (.l M.nx 0 (Nat.add s.n n) none i.size) ⟨(M.T.set s.r .dead).set M.nx (.c (app (drp s.o q.1) ys) false), Nat.succ M.nx⟩)) no) fun l => .c (.ok (.l s.r s.o (Nat.add s.n n) none i.size) ⟨M.T.set s.r (.c l q.2), M.nx⟩)) = .ok v M' := h
        cases hput : put (Nat.add s.o (Nat.mul s.n i.size)) ys q.1 with
        | some l' =>
          rw [hput] at h'
          cases h'
          have hp := (put_some hput).1
          have hroom : s.n + n ≤ c := by
            have h1 : s.o + s.n * i.size + ys.length ≤ q.1.length := hp
            rw [hlen2, k2] at h1
            have h2 : (s.n + n) * i.size ≤ c * i.size := by rw [Nat.add_mul]; omega
            exact Nat.le_of_mul_le_mul_right h2 (by omega)
          obtain ⟨w', r1, r2⟩ := inPlace l' hroom hput
          exact ⟨_, w', r1, ρ, Rv.slc_mk hL hroom hcm hloc (fun k hk => by cases hk) (fun _ => hroomE), r2⟩
        | none =>
          rw [hput] at h'
          obtain ⟨h16, h17⟩ := fin_cond (show fin M (cond (Nat.beq (Nat.add s.o (Nat.mul s.n i.size)) (len q.1)) (.c (.ok (.l M.nx 0 (Nat.add s.n n) none i.size) ⟨(M.T.set s.r .dead).set M.nx (.c (app (drp s.o q.1) ys) false), Nat.succ M.nx⟩)) no) = .ok v M' from h')
          cases h17
          have hend : s.o + s.n * i.size = q.1.length := by rw [← len_eq]; exact nbeq.1 h16
          have hdl : (xs.drop s.o).length = s.n * i.size := by rw [List.length_drop, ← hlen1]; omega
          rw [drp_eq, app_eq]
          have hcs : Cs ρ X (q.1.drop s.o ++ ys) (xs.drop s.o ++ news) := (c1.drop s.o).append k1
          have hne : s.r ≠ M.nx := by
            have := (hw.obj s.r L hL).1
            omega
          have hwk := hw.kill s.r (hw.obj s.r L hL).1
          by_cases hroom : s.n + n ≤ c
          · -- where it was
            have had := hloc (by omega)
            subst had
            have hth : w.there L.b (L.f + s.o + s.n * i.size) news.length := fun j hj => by
              have h1 : s.o + s.n * i.size + j < L.e := by
                rw [← hroomE]
                have h2 : (s.n + n) * i.size ≤ c * i.size := Nat.mul_le_mul_right _ hroom
                rw [Nat.add_mul] at h2
                omega
              have := c3 (s.o + s.n * i.size + j) h1
              rwa [show L.f + (s.o + s.n * i.size + j) = L.f + s.o + s.n * i.size + j by omega] at this
            have hr := run_append_room_src (P := P) w t tx ty e.1 i ht hi L.b (L.f + s.o) s.n c y n news hS hroom (fun j hj => (hth j hj).1) (fun j hj => (hth j hj).2)
            have hfit : s.o + s.n * i.size + news.length ≤ L.e := by
              rw [← hroomE, k2]
              have h2 : (s.n + n) * i.size ≤ c * i.size := Nat.mul_le_mul_right _ hroom
              rw [Nat.add_mul] at h2
              omega
            have hother : ∀ q' K, ρ q' = some K → live ((M.T.set s.r .dead).get q') → L.b ≠ K.b ∨ L.f + L.e ≤ K.f ∨ K.f + K.e ≤ L.f := fun q' K hq' hlv => by
              rw [Tr.get_set] at hlv
              split at hlv
              · cases hlv
              · rename_i hne'
                exact hw.apart s.r q' L K hne' hL hq' (by rw [objAt_some h15]; trivial) hlv
            have hwf := hwk.frame (hw.obj s.r L hL).2.1 hth (fun q' K hq' hlv => by
              rcases hother q' K hq' hlv with a1 | a1 | a1
              · exact .inl (Ne.symm a1)
              · right; right; omega
              · right; left; omega)
            have hnn : ρ M.nx = none := hw.noPl (Nat.le_refl _)
            have hwp : Wd X B w0 (Rh.put ρ M.nx ⟨L.b, L.f + s.o, L.e - s.o⟩) ⟨(M.T.set s.r .dead).set M.nx (.c (q.1.drop s.o ++ ys) false), M.nx + 1⟩ (w.setCells L.b (L.f + s.o + s.n * i.size) news) := by
              refine Wd.place (hwf.more (M1 := ⟨(M.T.set s.r .dead).set M.nx (.c (q.1.drop s.o ++ ys) false), M.nx + 1⟩) (Nat.le_succ _) (fun r hr => ?_) (free_set (M := ⟨M.T.set s.r .dead, M.nx⟩) hwk.free)) hnn (Nat.lt_succ_self _) (hw.obj s.r L hL).2.1 (by rw [heap_size_setCells]; exact (hw.obj s.r L hL).2.2.1) ?_ fun r' K hr' hlv => ?_
              · have hr2 : r < M.nx := hr
                show ((M.T.set s.r .dead).set M.nx _).get r = _
                rw [Tr.get_set, if_neg (by omega)]
              · show Ok _ X _ _ (((M.T.set s.r .dead).set M.nx _).get M.nx)
                rw [Tr.get_set, if_pos rfl]
                refine ⟨⟨_, hcs.mono (Rh.le_put hnn), ?_⟩, ?_, ?_, fun h => by cases h⟩
                · intro j u hj
                  by_cases hjl : j < s.n * i.size
                  · rw [List.getElem?_append_left (by omega)] at hj
                    exact World.rangeAt_setCells_apart (World.rangeAt.drop c2 s.o) _ _ _ (by right; left; show L.f + s.o + (xs.drop s.o).length ≤ _; omega) j u hj
                  · rw [List.getElem?_append_right (by omega), hdl] at hj
                    have := World.rangeAt_setCells_same w L.b (L.f + s.o + s.n * i.size) news hth (j - s.n * i.size) u hj
                    rwa [show L.f + s.o + s.n * i.size + (j - s.n * i.size) = L.f + s.o + j by omega] at this
                · have : w.there L.b (L.f + s.o) (L.e - s.o) := fun j hj => by
                    have := c3 (s.o + j) (by omega)
                    rwa [show L.f + (s.o + j) = L.f + s.o + j by omega] at this
                  exact World.there_setCells this _ _ _
                · show (q.1.drop s.o ++ ys).length ≤ L.e - s.o
                  rw [List.length_append, List.length_drop]
                  omega
              · have hr2 : r' ≠ M.nx := fun e => by subst e; rw [hnn] at hr'; cases hr'
                have hlv' : live ((M.T.set s.r .dead).get r') := by
                  have : live (((M.T.set s.r .dead).set M.nx (.c (q.1.drop s.o ++ ys) false)).get r') := hlv
                  rwa [Tr.get_set, if_neg (Ne.symm hr2)] at this
                show L.b ≠ K.b ∨ L.f + s.o + (L.e - s.o) ≤ K.f ∨ K.f + K.e ≤ L.f + s.o
                rcases hother r' K hr' hlv' with a1 | a1 | a1
                · exact .inl a1
                · right; left; omega
                · right; right; omega
            refine ⟨_, _, hr, Rh.put ρ M.nx ⟨L.b, L.f + s.o, L.e - s.o⟩, ?_, Rh.le_put hnn, Nat.le_succ _, fun r hr0 hrn => ⟨?_, ?_⟩, hwp⟩
            · exact Rv.slc_mk (Rh.put_same _ _ _) hroom hcm (fun _ => rfl) (fun k hk => by cases hk) (fun _ => by show 0 + c * i.size = L.e - s.o; omega)
            · show ((M.T.set s.r .dead).set M.nx _).get r = _
              rw [Tr.get_set, if_neg (by omega), Tr.get_set, if_neg (fun e => by subst e; rw [hL] at hrn; cases hrn)]
            · rw [Rh.put_ne (by omega)]
              exact hrn
          · -- anew
            obtain ⟨cc, hcc2, r1, r2⟩ := grown_R (M := ⟨M.T.set s.r .dead, M.nx⟩) (e := e.1) (sCap := c) hwk g3 hdl k2 hcs f2
            have hg : c < s.n + n := by omega
            have hold : (Builtin.firstCells i.size s.n (.slice (some ad) s.n c)).run P w.drew = .ok (xs.drop s.o).toArray w.drew := by
              refine run_firstCells_some (P := P) w.drew i.size s.n ad s.n c _ hdl fun j u hj => ?_
              have hj' : j < s.n * i.size := by rw [← hdl]; exact (List.getElem?_eq_some_iff.1 hj).1
              have hc0 : c ≠ 0 := fun e0 => by
                have : s.n = 0 := by omega
                rw [this, Nat.zero_mul] at hj'
                omega
              rw [hloc hc0, WG.add_of]
              exact World.rangeAt.drop c2 s.o j u hj
            have hr := run_append_grow_src (P := P) w t tx ty e.1 i zv ht hi g2 (some ad) s.n c _ hold y n news hS hg (by have : s.n + n ≤ 281474976710656 := f2; omega) (Nat.not_lt.1 (WG.nextslicecap_small hg f3))
            rw [← hcc2] at hr
            refine ⟨_, _, hr, _, r1, r2.le, r2.nx, fun r hr0 hrn => ?_, r2.wd⟩
            obtain ⟨e1, e2⟩ := r2.keep r hr0 hrn
            refine ⟨e1.trans ?_, e2⟩
            show (M.T.set s.r .dead).get r = _
            rw [Tr.get_set, if_neg (fun e => by subst e; rw [hL] at hrn; cases hrn)]
end
end Go.CE
