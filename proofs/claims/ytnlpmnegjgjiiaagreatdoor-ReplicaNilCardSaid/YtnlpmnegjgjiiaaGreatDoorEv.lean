/- What sha and mac do, as a closed run is told it. -/
import Derived.Test.YtnlpmnegjgjiiaaGreatDoorEu
import Derived.Test.YtnlpmnegjgjiiaaGreatDoorEq
namespace Go.CE
open Go Go.RowKit Go.Proofs.YtnlpmnegjgjiiaaGreatDoor
set_option linter.all false
section
variable {X : Nat → Value} {B : Nat} {w0 w w' : World} {ρ ρ' : Rh} {M M' : Mem} {C : Cfg} {v : V} {x y : Value}
theorem frozen_of_block {b o : Nat} (h : w'.heap[b]? = w.heap[b]?) : w'.frozen? ⟨b, o, none⟩ = w.frozen? ⟨b, o, none⟩ := by
  unfold World.frozen?
  simp only [h]
theorem Ok.below {L : Loc} {o : Option Ob} (h : Ok ρ X w L o) (k : w'.heap[L.b]? = w.heap[L.b]?) : Ok ρ X w' L o := by
  cases o with
  | none => exact h
  | some o =>
    cases o with
    | c l ex =>
      obtain ⟨⟨xs, h1, h2⟩, h3, h4⟩ := h
      refine ⟨⟨xs, h1, fun j v hj => ?_⟩, fun j hj => ?_, h4⟩
      · rw [World.cell?_of_block k]; exact h2 j v hj
      · rw [World.cell?_of_block k, frozen_of_block k]; exact h3 j hj
    | m l ck =>
      obtain ⟨⟨es, h1, h2⟩, h3⟩ := h
      exact ⟨⟨es, k.trans h1, h2⟩, h3⟩
    | dead => trivial
/-- What leaves all that there is as it was. -/
theorem Wd.below (h : Wd X B w0 ρ M w) (k : Below w.heap.size w w') : Wd X B w0 ρ M w' :=
  ⟨h.low.trans (k.mono h.size), Nat.le_trans h.size k.size, h.free, fun r L hr => by
    obtain ⟨h1, h2, h3, h4⟩ := h.obj r L hr
    exact ⟨h1, h2, Nat.lt_of_lt_of_le h3 k.size, h4.below (k.block _ h3)⟩, h.apart⟩
theorem byteOf_is {a : V} {n : Nat} (h : byteOf a = some n) : a = .i .u8 (.ofNat n) ∧ n < 256 := by
  obtain ⟨q, h1, h2⟩ := ob_some.1 h
  obtain ⟨h3, h4⟩ := cond_some.1 h2
  obtain ⟨m, h5, h6⟩ := ob_some.1 h4
  obtain ⟨h7, h8⟩ := cond_some.1 h6
  cases h8
  have e1 := intOf_some.1 h1
  obtain ⟨k, z⟩ := q
  have hk : k = .u8 := by
    revert h3
    cases k <;> intro h3 <;> first | rfl | cases h3
  have hz : z = .ofNat n := by
    cases z with
    | ofNat a => cases h5; rfl
    | negSucc a => cases h5
  subst hk
  subst hz
  exact ⟨e1, Nat.le_of_ble_eq_true h7⟩
/-- Bytes that are known. -/
theorem bytes_R {l : List V} {bs : List Nat} {xs : List Value} (h : byteVs l = some bs) (hx : RL ρ X l xs) : bs.length = l.length ∧ AB bs ∧ xs = (I bs).map (Value.int .u8) := by
  obtain ⟨h1, h2⟩ := mpo_some h
  have key : ∀ i, i < l.length → ∃ n, bs[i]? = some n ∧ n < 256 ∧ xs[i]? = some (.int .u8 (.ofNat n)) := fun i hi => by
    obtain ⟨n, h3, h4⟩ := h2 i _ (List.getElem?_eq_getElem hi)
    obtain ⟨h5, h6⟩ := byteOf_is h4
    obtain ⟨y, h7, h8⟩ := hx.get (List.getElem?_eq_getElem hi)
    rw [h5] at h8
    exact ⟨n, h3, h6, by rw [h7, h8.int]⟩
  refine ⟨h1, fun i => ?_, ?_⟩
  · rw [List.getD_eq_getElem?_getD]
    by_cases hi : i < l.length
    · obtain ⟨n, h3, h4, _⟩ := key i hi
      rw [h3]; exact h4
    · rw [List.getElem?_eq_none (by omega)]; decide
  · refine List.ext_getElem? fun i => ?_
    by_cases hi : i < l.length
    · obtain ⟨n, h3, _, h5⟩ := key i hi
      rw [h5]
      simp [I, h3]
    · rw [List.getElem?_eq_none (by rw [← hx.len]; omega), List.getElem?_eq_none (by simp [I]; omega)]
/-- A slice of bytes, as the walks are told it. -/
theorem src_R {a : V} {bs : List Nat} (hw : Wd X B w0 ρ M w) (h : srcB a M = some bs) (ha : Rv ρ X a x) : ∃ A n c, x = .slice A n c ∧ n = (I bs).length ∧ (I bs).length ≤ c ∧ c ≤ maxLen ∧ WG.Sl (WG.Kd.int .u8) (WG.whole w) (WG.whole w) A (I bs) ∧ AB bs ∧ bs.length ≤ 1000000000 := by
  unfold srcB at h
  cases hl : isLn a with
  | true =>
    rw [hl] at h
    cases h
    rw [isLn_t.1 hl] at ha
    exact ⟨none, 0, 0, ha.lnil, rfl, Nat.le_refl _, Nat.zero_le _, WG.Sl.nil _ _ _ _, fun i => by show (0 : Nat) < 256; decide, by show (0 : Nat) ≤ _; decide⟩
  | false =>
    rw [hl] at h
    obtain ⟨s, h1, h2⟩ := ob_some.1 (show (ob (slcOf a) fun s => cond (Nat.beq s.z 1) (cond (Nat.ble s.n 1000000000) (ob (cellsAt M s.r s.o s.n) byteVs) none) none) = some bs from h)
    obtain ⟨h3, h4⟩ := cond_some.1 h2
    obtain ⟨h5, h6⟩ := cond_some.1 h4
    obtain ⟨l, h7, h8⟩ := ob_some.1 h6
    rw [slcOf_some.1 h1] at ha
    obtain ⟨L, ad, c, hL, rfl, hnc, hloc, _, _, hcm⟩ := ha.slc
    obtain ⟨xs, k1, k2, k3⟩ := hw.read hL h7
    obtain ⟨g1, g2, g3⟩ := bytes_R h8 k1.toRL
    have hlen : bs.length = s.n := by rw [g1, k1.len, k3]
    refine ⟨some ad, s.n, c, rfl, by rw [I_len, hlen], by rw [I_len, hlen]; exact hnc, hcm, fun hp => ?_, g2, by rw [hlen]; exact Nat.le_of_ble_eq_true h5⟩
    rw [I_len] at hp
    refine ⟨L.b, L.f + s.o, by rw [hloc (by omega)], fun j u hj => ⟨[Value.int .u8 u], rfl, fun i z hz => ?_⟩⟩
    cases i with
    | succ i => simp at hz
    | zero =>
      simp at hz
      subst hz
      refine WG.look_v.2 ?_
      have := k2 j (Value.int .u8 u) (by rw [g3, List.getElem?_map, hj]; rfl)
      show w.cell? ⟨L.b, L.f + s.o + j * 1 + 0, none⟩ = _
      rw [Nat.mul_one, Nat.add_zero]
      exact this
/-- Laid numbers, as the walks are told them. -/
theorem laid_R (hg : Gb X B w0 C) (hw : Wd X B w0 ρ M w) {g : Nat} {ns : List Nat} (h : C.G g = mp (fun n => V.i .u32 (.ofNat n)) ns) (hn : ns ≠ []) : WG.CH.le (WG.CH.row g 0 ((I ns).map (Value.int .u32))) (WG.whole w) := by
  have hne : C.G g ≠ [] := by
    rw [h, mp_eq]
    intro e
    exact hn (List.map_eq_nil_iff.1 e)
  obtain ⟨xs, h1, h2⟩ := glob_at hg hw hne
  have hxs : xs = (I ns).map (Value.int .u32) := by
    rw [h, mp_eq] at h1
    refine List.ext_getElem? fun i => ?_
    by_cases hi : i < ns.length
    · obtain ⟨y, h7, h8⟩ := h1.get (i := i) (v := .i .u32 (.ofNat ns[i])) (by simp [hi])
      rw [h7, h8.int]
      simp [I, hi]
    · rw [List.getElem?_eq_none (by rw [← h1.len]; simp; omega), List.getElem?_eq_none (by simp [I]; omega)]
  subst hxs
  intro b o u hu
  unfold WG.CH.row at hu
  split at hu
  · rename_i hb
    obtain ⟨rfl, _⟩ := hb
    rw [Nat.sub_zero] at hu
    obtain ⟨z, h3, rfl⟩ := Option.map_eq_some_iff.1 hu
    refine WG.look_v.2 ?_
    have := h2 o z h3
    rwa [Nat.zero_add] at this
  · cases hu
theorem digO_eq (l : List Nat) : digO l = some (mp byteV l) := by
  unfold digO
  induction l with
  | nil => rfl
  | cons h t ih =>
    have e : byteS h = some (byteV h) := by cases h <;> rfl
    have h1 : mpo byteS (h :: t) = ob (byteS h) fun x => ob (mpo byteS t) fun r => some (x :: r) := rfl
    rw [h1, e, ih]
    rfl
theorem dig_R (bs : List Nat) : Rv ρ X (.a (mp byteV bs)) (.agg (List.toArray ((I bs).map (Value.int .u8)))) := by
  have e : (I bs).map (Value.int .u8) = bs.map fun (n : Nat) => Value.int .u8 (n : Int) := by unfold I; rw [List.map_map]; rfl
  rw [mp_eq, e]
  exact Rv.agg_mk ⟨RL.map _ fun b _ => .i _ _, fun u hu => by
    obtain ⟨b, _, rfl⟩ := List.mem_map.1 hu
    rfl⟩
/-- One function's contract. -/
def ExtR (C : Cfg) (X : Nat → Value) (B : Nat) (w0 : World) (f : Nat) (e : List V → Mem → Cr) : Prop := ∀ l0 M v M', e l0 M = .ok v M' → ∀ ρ w xs, RL ρ X l0 xs → Wd X B w0 ρ M w → Calls C.P f xs.toArray w fun e w' => ∃ y, e = .returned y ∧ Gl X B w0 ρ M v M' y w'
theorem RL.two {a b : V} {l : List V} {xs : List Value} (h : RL ρ X (a :: l) xs) : ∃ x xs', xs = x :: xs' ∧ Rv ρ X a x ∧ RL ρ X l xs' := by
  cases xs with
  | nil => have := h.len; simp at this
  | cons x xs => exact ⟨x, xs, rfl, h.at_ 0 _ _ rfl rfl, ⟨by have := h.len; simpa using this, fun i u z hu hz => h.at_ (i + 1) u z hu hz⟩⟩
theorem oe_ok {α : Type} {q : Option α} {s : List (String × Nat)} {f : α → Cr} (h : oe q (.bad s) f = .ok v M) : ∃ a, q = some a ∧ f a = .ok v M := by
  cases q with
  | none => cases h
  | some a => exact ⟨a, rfl, h⟩
theorem eSum_R (hP : C.P = Go.Proofs.Tryz.prog) (hg : Gb X B w0 C) (hB : C.G 1 = mp (fun n => V.i .u32 (.ofNat n)) shaB) (hK : C.G 3 = mp (fun n => V.i .u32 (.ofNat n)) shaK) : ExtR C X B w0 125 eSum := by
  intro l0 M v M' h ρ w xs hxs hw
  obtain ⟨q, h1, h2⟩ := oe_ok h
  obtain ⟨l, h3, h4⟩ := ob_some.1 h1
  obtain ⟨a, h5, h6⟩ := ob_some.1 h3
  obtain ⟨h7, h8⟩ := cond_some.1 h6
  rw [digO_eq] at h4
  cases h4
  cases h2
  have hl := nbeq.1 h7
  rw [len_eq] at hl
  obtain ⟨a', rfl⟩ : ∃ a', l0 = [a'] := by
    match l0, hl with
    | [a'], _ => exact ⟨a', rfl⟩
  cases h5
  obtain ⟨x, xs', rfl, hx, hxs'⟩ := hxs.two (b := a)
  have : xs' = [] := List.eq_nil_of_length_eq_zero hxs'.len.symm
  subst this
  obtain ⟨A, n, c, rfl, k1, k2, k3, k4, k5, k6⟩ := src_R hw h8 hx
  obtain ⟨k, hk⟩ := (sum_ev l (by omega) k5).one
  rw [hP]
  refine (sha_Sum.calls k w (WG.whole w) A c n (I l) (WG.whole_pre w) k1 k2 k3 k4 (by rw [glob_b]; exact laid_R hg hw hB (by decide)) (by rw [glob_k]; exact laid_R hg hw hK (by decide)) _ hk).mono fun e w' hq => ?_
  obtain ⟨rfl, hc, _⟩ := hq
  exact ⟨_, rfl, ρ, dig_R _, Post.refl (hw.below hc.below)⟩
theorem eRound_R (hP : C.P = Go.Proofs.Tryz.prog) (hg : Gb X B w0 C) (hB : C.G 1 = mp (fun n => V.i .u32 (.ofNat n)) shaB) (hK : C.G 3 = mp (fun n => V.i .u32 (.ofNat n)) shaK) : ExtR C X B w0 74 eRound := by
  intro l0 M v M' h ρ w xs hxs hw
  obtain ⟨q, h1, h2⟩ := oe_ok h
  obtain ⟨l, h3, h4⟩ := ob_some.1 h1
  rw [digO_eq] at h4
  cases h4
  cases h2
  obtain ⟨b, h5, h6⟩ := ob_some.1 h3
  obtain ⟨bl, h7, h8⟩ := ob_some.1 h6
  obtain ⟨bb, h9, h10⟩ := ob_some.1 h8
  obtain ⟨wv, h11, h12⟩ := ob_some.1 h10
  obtain ⟨wn, h13, h14⟩ := ob_some.1 h12
  obtain ⟨t, h15, h16⟩ := ob_some.1 h14
  obtain ⟨tt, h17, h18⟩ := ob_some.1 h16
  obtain ⟨h19, h20⟩ := cond_some.1 h18
  obtain ⟨h21, h22⟩ := cond_some.1 h20
  cases h22
  have hl := nbeq.1 h19
  rw [len_eq] at hl
  obtain ⟨a1, a2, a3, rfl⟩ : ∃ a1 a2 a3, l0 = [a1, a2, a3] := by
    match l0, hl with
    | [a1, a2, a3], _ => exact ⟨a1, a2, a3, rfl⟩
  cases h5
  cases h11
  cases h15
  obtain ⟨x1, xs1, rfl, hx1, hxs1⟩ := hxs.two (b := b)
  obtain ⟨x2, xs2, rfl, hx2, hxs2⟩ := hxs1.two (b := b)
  obtain ⟨x3, xs3, rfl, hx3, hxs3⟩ := hxs2.two (b := b)
  have : xs3 = [] := List.eq_nil_of_length_eq_zero hxs3.len.symm
  subst this
  obtain ⟨A, n, c, rfl, k1, k2, k3, k4, k5, k6⟩ := src_R hw h17 hx3
  rw [aggOf_some.1 h7] at hx1
  obtain ⟨ys, rfl, hys⟩ := hx1.agg
  obtain ⟨g1, g2, rfl⟩ := bytes_R h9 hys.toRL
  obtain ⟨rfl, g5⟩ := byteOf_is h13
  have hb64 : bb.length = 64 := by have := nbeq.1 h21; rwa [len_eq] at this
  obtain ⟨k, hk⟩ := (round_ev bb hb64 g2 wn g5 tt (by omega) k5).one
  rw [hP, hx2.int]
  refine (mac_block_round.calls k w (WG.whole w) (I bb) (wn : Int) A c n (I tt) (WG.whole_pre w) (by rw [I_len, hb64]) k1 k2 k3 k4 (by rw [glob_b]; exact laid_R hg hw hB (by decide)) (by rw [glob_k]; exact laid_R hg hw hK (by decide)) _ hk).mono fun e w' hq => ?_
  obtain ⟨rfl, hc, _⟩ := hq
  rw [app_eq]
  exact ⟨_, rfl, ρ, dig_R _, Post.refl (hw.below hc.below)⟩
theorem wordOf_is {a : V} {n : Nat} (h : wordOf a = some n) : a = .i .u32 (.ofNat n) ∧ n < 4294967296 := by
  obtain ⟨q, h1, h2⟩ := ob_some.1 h
  obtain ⟨h3, h4⟩ := cond_some.1 h2
  obtain ⟨m, h5, h6⟩ := ob_some.1 h4
  obtain ⟨h7, h8⟩ := cond_some.1 h6
  cases h8
  have e1 := intOf_some.1 h1
  obtain ⟨k, z⟩ := q
  have hk : k = .u32 := by
    revert h3
    cases k <;> intro h3 <;> first | rfl | cases h3
  have hz : z = .ofNat n := by
    cases z with
    | ofNat a => cases h5; rfl
    | negSucc a => cases h5
  subst hk
  subst hz
  exact ⟨e1, Nat.le_of_ble_eq_true h7⟩
theorem words_R {l : List V} {bs : List Nat} {xs : List Value} (h : mpo wordOf l = some bs) (hx : RL ρ X l xs) : AW bs ∧ xs = (I bs).map (Value.int .u32) := by
  obtain ⟨h1, h2⟩ := mpo_some h
  have key : ∀ i, i < l.length → ∃ n, bs[i]? = some n ∧ n < 4294967296 ∧ xs[i]? = some (.int .u32 (.ofNat n)) := fun i hi => by
    obtain ⟨n, h3, h4⟩ := h2 i _ (List.getElem?_eq_getElem hi)
    obtain ⟨h5, h6⟩ := wordOf_is h4
    obtain ⟨y, h7, h8⟩ := hx.get (List.getElem?_eq_getElem hi)
    rw [h5] at h8
    exact ⟨n, h3, h6, by rw [h7, h8.int]⟩
  refine ⟨fun i => ?_, ?_⟩
  · rw [List.getD_eq_getElem?_getD]
    by_cases hi : i < l.length
    · obtain ⟨n, h3, h4, _⟩ := key i hi
      rw [h3]; exact h4
    · rw [List.getElem?_eq_none (by omega)]; decide
  · refine List.ext_getElem? fun i => ?_
    by_cases hi : i < l.length
    · obtain ⟨n, h3, _, h5⟩ := key i hi
      rw [h5]
      simp [I, h3]
    · rw [List.getElem?_eq_none (by rw [← hx.len]; omega), List.getElem?_eq_none (by simp [I]; omega)]
theorem wordS_eq (l : List Nat) : mpo wordS l = some (l.map fun n => V.i .u32 (.ofNat n)) := by
  induction l with
  | nil => rfl
  | cons h t ih =>
    have e : wordS h = some (.i .u32 (.ofNat h)) := by cases h <;> rfl
    have h1 : mpo wordS (h :: t) = ob (wordS h) fun x => ob (mpo wordS t) fun r => some (x :: r) := rfl
    rw [h1, e, ih]
    rfl
theorem digw_R (bs : List Nat) : Rv ρ X (.a (bs.map fun n => V.i .u32 (.ofNat n))) (.agg (List.toArray ((I bs).map (Value.int .u32)))) := by
  have e : (I bs).map (Value.int .u32) = bs.map fun (n : Nat) => Value.int .u32 (n : Int) := by unfold I; rw [List.map_map]; rfl
  rw [e]
  exact Rv.agg_mk ⟨RL.map _ fun b _ => .i _ _, fun u hu => by
    obtain ⟨b, _, rfl⟩ := List.mem_map.1 hu
    rfl⟩
theorem eBlock_R (hP : C.P = Go.Proofs.Tryz.prog) (hg : Gb X B w0 C) (hK : C.G 3 = mp (fun n => V.i .u32 (.ofNat n)) shaK) : ExtR C X B w0 172 eBlock := by
  intro l0 M v M' h ρ w xs hxs hw
  obtain ⟨q, h1, h2⟩ := oe_ok h
  obtain ⟨l, h3, h4⟩ := ob_some.1 h1
  rw [wordS_eq] at h4
  cases h4
  cases h2
  obtain ⟨b, h5, h6⟩ := ob_some.1 h3
  obtain ⟨bl, h7, h8⟩ := ob_some.1 h6
  obtain ⟨bb, h9, h10⟩ := ob_some.1 h8
  obtain ⟨t, h15, h16⟩ := ob_some.1 h10
  obtain ⟨tt, h17, h18⟩ := ob_some.1 h16
  obtain ⟨h19, h20⟩ := cond_some.1 h18
  obtain ⟨h21, h22⟩ := cond_some.1 h20
  obtain ⟨h23, h24⟩ := cond_some.1 h22
  cases h24
  have hl := nbeq.1 h19
  rw [len_eq] at hl
  obtain ⟨a1, a2, rfl⟩ : ∃ a1 a2, l0 = [a1, a2] := by
    match l0, hl with
    | [a1, a2], _ => exact ⟨a1, a2, rfl⟩
  cases h5
  cases h15
  obtain ⟨x1, xs1, rfl, hx1, hxs1⟩ := hxs.two (b := b)
  obtain ⟨x2, xs2, rfl, hx2, hxs2⟩ := hxs1.two (b := b)
  have : xs2 = [] := List.eq_nil_of_length_eq_zero hxs2.len.symm
  subst this
  obtain ⟨A, n, c, rfl, k1, k2, k3, k4, k5, k6⟩ := src_R hw h17 hx2
  rw [aggOf_some.1 h7] at hx1
  obtain ⟨ys, rfl, hys⟩ := hx1.agg
  obtain ⟨g2, rfl⟩ := words_R h9 hys.toRL
  have hb8 : bb.length = 8 := by have := nbeq.1 h21; rwa [len_eq] at this
  have hb64 : tt.length = 64 := by have := nbeq.1 h23; rwa [len_eq] at this
  obtain ⟨k, hk⟩ := (blkN_spec bb tt hb8 g2 hb64 k5).2.2.one
  rw [hP]
  refine (sha_Block.calls k w (WG.whole w) (I bb) A c n (I tt) (WG.whole_pre w) (by rw [I_len, hb8]) k1 k2 k3 k4 (by rw [glob_k]; exact laid_R hg hw hK (by decide)) _ _ hk).mono fun e w' hq => ?_
  obtain ⟨rfl, hc, _⟩ := hq
  exact ⟨_, rfl, ρ, Rv.tup_mk (RL.cons (digw_R _) (RL.cons (.i _ _) RL.nil)), Post.refl (hw.below hc.below)⟩
end
end Go.CE
