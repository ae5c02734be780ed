/- The fast sum is the program's own: whole texts. -/
import Derived.Test.YtnlpmnegjgjiiaaGreatDoorEt
namespace Go.CE
open Go Go.Proofs.YtnlpmnegjgjiiaaGreatDoor
open Go.WG (Ev bitsOp shrOp shlOp wi64 wu32 wu64 wu8 wi64_id wu32_eq wu64_eq wu8_eq)
set_option linter.all false
theorem take_g (l : List Nat) (n i : Nat) (h : i < n) : (l.take n).getD i 0 = l.getD i 0 := by
  simp only [List.getD_eq_getElem?_getD, List.getElem?_take, if_pos h]
theorem words_take {l : List Nat} : wordsN 16 (l.take 64) = wordsN 16 l := by
  refine ext_g (z := 0) (by rw [wordsN_len, wordsN_len]) fun i hi => ?_
  rw [wordsN_len] at hi
  rw [wordsN_at 16 _ i hi, wordsN_at 16 _ i hi, w4_eq, w4_eq, take_g _ _ _ (by omega), take_g _ _ _ (by omega), take_g _ _ _ (by omega), take_g _ _ _ (by omega)]
theorem sumN_succ (n : Nat) (s l : List Nat) : sumN (n + 1) s l = sumN n (blkN s (wordsN 16 (l.take 64))) (l.drop 64) := by
  rw [words_take, ← drp_eq]
  rfl
theorem sumN_spec : ∀ (n : Nat) (s l : List Nat), s.length = 8 → AW s → AB l → 64 * n ≤ l.length → (sumN n s l).length = 8 ∧ AW (sumN n s l)
  | 0, s, l, hs, hS, _, _ => ⟨hs, hS⟩
  | n + 1, s, l, hs, hS, hB, hl => by
    rw [sumN_succ]
    obtain ⟨h1, h2, _⟩ := blkN_spec s (l.take 64) hs hS (by rw [List.length_take]; omega) (hB.take 64)
    exact sumN_spec n _ _ h1 h2 (hB.drop 64) (by rw [List.length_drop]; omega)
theorem sumN_add (b : List Nat) (j : Nat) : ∀ (n : Nat) (s r : List Nat), 64 * n ≤ r.length → sumN (n + j) s (r ++ b) = sumN j (sumN n s r) (r.drop (64 * n) ++ b)
  | 0, s, r, _ => by rw [Nat.zero_add]; rfl
  | n + 1, s, r, h => by
    rw [show n + 1 + j = (n + j) + 1 from by omega, sumN_succ, sumN_succ, List.take_append_of_le_length (by omega), List.drop_append_of_le_length (by omega), sumN_add b j n _ _ (by rw [List.length_drop]; omega), List.drop_drop, show 64 + 64 * n = 64 * (n + 1) by omega]
theorem write_l1 (n : Int) : ∀ (q : Nat) (s r : List Nat), r.length / 64 = q → s.length = 8 → AW s → AB r → Ev (fun k => sha_Hash_Write.l1 k ⟨I s, I r, n⟩) ⟨I (sumN q s r), I (r.drop (64 * q)), n⟩ := by
  intro q
  induction q with
  | zero =>
    intro s r hq hs hS hB
    refine Ev.succ ((Ev.pure _).congr fun k => ?_)
    have : ¬ ((I r).length : Int) ≥ 64 := by rw [I_len]; omega
    simp only [sha_Hash_Write.l1, if_neg this]
    rfl
  | succ q ih =>
    intro s r hq hs hS hB
    have h1 : ((I r).length : Int) ≥ 64 := by rw [I_len]; omega
    have h2 : 0 ≤ (64 : Int) ∧ (64 : Int) ≤ ((I r).length : Int) := by rw [I_len]; omega
    have h3 : 0 ≤ (64 : Int) ∧ (64 : Int) ≤ ((I r).length : Int) ∧ ((I r).length : Int) ≤ ((I r).length : Int) := by rw [I_len]; omega
    obtain ⟨g1, g2, hb⟩ := blkN_spec s (r.take 64) hs hS (by rw [List.length_take]; omega) (hB.take 64)
    have := ih (blkN s (wordsN 16 (r.take 64))) (r.drop 64) (by rw [List.length_drop]; omega) g1 g2 (hB.drop 64)
    rw [sumN_succ]
    rw [List.drop_drop, show 64 + 64 * q = 64 * (q + 1) by omega, I_drop 64] at this
    rw [I_take] at hb
    refine Ev.succ (Ev.congr (Ev.bind (g := fun k (x : List Int × Int) => if 0 ≤ (64 : Int) ∧ (64 : Int) ≤ ((I r).length : Int) ∧ ((I r).length : Int) ≤ ((I r).length : Int) then (sha_Hash_Write.l1 k (⟨x.1, (I r).drop ((64 : Int).toNat), n⟩ : THash)) else none) hb (Ev.iteT h3 this)) fun k => ?_)
    simp only [sha_Hash_Write.l1, if_pos h1, if_pos h2]
    rfl
/-- A sum's state behind some bytes. -/
noncomputable def stateN (m : List Nat) : THash := ⟨I (sumN (m.length / 64) shaB m), I (m.drop (64 * (m.length / 64))), (m.length : Int)⟩
theorem stateN_nil (k : Nat) : sha_New.f k = some (stateN []) := rfl
theorem write_f (m b : List Nat) (h : m.length + b.length ≤ 1000000000000) (hm : AB m) (hb : AB b) : Ev (fun k => sha_Hash_Write.f k (stateN m) (I b)) (stateN (m ++ b)) := by
  have hle : 64 * (m.length / 64) ≤ m.length := by omega
  have hl : (m.drop (64 * (m.length / 64)) ++ b).length / 64 = (m ++ b).length / 64 - m.length / 64 := by
    rw [List.length_append, List.length_drop, List.length_append]; omega
  obtain ⟨s1, s2⟩ := sumN_spec (m.length / 64) shaB m rfl shaB_W hm hle
  have h1 := write_l1 (wi64 ((m.length : Int) + ((I b).length : Int))) _ (sumN (m.length / 64) shaB m) (m.drop (64 * (m.length / 64)) ++ b) rfl s1 s2 ((hm.drop _).app hb)
  have e1 : wi64 ((m.length : Int) + ((I b).length : Int)) = (((m ++ b).length : Nat) : Int) := by rw [I_len, wi64_id (by omega) (by omega), List.length_append]; omega
  have hq : m.length / 64 + ((m ++ b).length / 64 - m.length / 64) = (m ++ b).length / 64 := by
    rw [List.length_append]; have := Nat.div_le_div_right (c := 64) (Nat.le_add_right m.length b.length); omega
  have hd : (m.drop (64 * (m.length / 64)) ++ b).drop (64 * ((m ++ b).length / 64 - m.length / 64)) = (m ++ b).drop (64 * ((m ++ b).length / 64)) := by
    rw [← List.drop_append_of_le_length hle, List.drop_drop, ← Nat.mul_add, hq]
  rw [hl, ← sumN_add b _ (m.length / 64) shaB m hle, e1, hq, hd, I_app] at h1
  refine Ev.iteT ?_ (Ev.congr (Ev.bind (g := fun _ x => some x) h1 (Ev.pure _)) fun k => ?_)
  · show ((I (m.drop (64 * (m.length / 64)))).length + (I b).length + ((I (m.drop (64 * (m.length / 64)))).length + (I b).length) / 4 + 192) * 1 ≤ _
    rw [I_len, I_len, List.length_drop]; omega
  · show (sha_Hash_Write.l1 k (⟨I (sumN (m.length / 64) shaB m), I (m.drop (64 * (m.length / 64))) ++ I b, wi64 ((m.length : Int) + ((I b).length : Int))⟩ : THash)).bind (fun x211 => some x211) = _
    rw [e1]
/-! ### what fills up -/
def be (x : Nat) : Nat → List Nat
  | 0 => []
  | j + 1 => (x / 256 ^ j % 256) :: be x j
theorem be_len (x : Nat) : ∀ j, (be x j).length = j
  | 0 => rfl
  | j + 1 => by rw [be, List.length_cons, be_len x j]
theorem shr64N (x n : Nat) (hn : n ≤ 64) : shrOp .u64 (x : Int) (n : Int) = ((x / 2 ^ n : Nat) : Int) := by
  unfold shrOp
  rw [show min ((n : Int).toNat) (IntKind.bits .u64) = n from by rw [Int.toNat_natCast]; exact Nat.min_eq_left hn]
  have hp : 0 < 2 ^ n := Nat.two_pow_pos n
  have e : (2 : Int) ^ n = ((2 ^ n : Nat) : Int) := by rw [Int.natCast_pow]; rfl
  rw [e, Int.fdiv_eq_ediv_of_nonneg _ (by omega), Int.natCast_ediv]
theorem bytes_prog (x : Nat) : ∀ (m j : Nat), 8 - j = m → j ≤ 8 → Ev (fun k => bits_Bytes.l1 k (x : Int) 8 (List.replicate (8 - j) 0 ++ I (be x j)) (j : Int)) (I (be x 8)) := by
  intro m
  induction m with
  | zero =>
    intro j hm hj
    obtain rfl : j = 8 := by omega
    refine Ev.succ ((Ev.pure _).congr fun k => ?_)
    simp [bits_Bytes.l1]
  | succ m ih =>
    intro j hm hj
    have h1 : (j : Int) < 8 := by omega
    have e1 : wi64 (8 * (j : Int)) = ((8 * j : Nat) : Int) := by rw [wi64_id (by omega) (by omega)]; omega
    have e2 : wi64 (wi64 ((8 : Int) - 1) - (j : Int)) = ((7 - j : Nat) : Int) := by rw [show wi64 ((8 : Int) - 1) = 7 from by decide, wi64_id (by omega) (by omega)]; omega
    have h2 : 0 ≤ ((8 * j : Nat) : Int) := by omega
    have hl : (List.replicate (8 - j) (0 : Int) ++ I (be x j)).length = 8 := by rw [List.length_append, List.length_replicate, I_len, be_len]; omega
    have h3 : 0 ≤ ((7 - j : Nat) : Int) ∧ ((7 - j : Nat) : Int) < ((List.replicate (8 - j) (0 : Int) ++ I (be x j)).length : Int) := by rw [hl]; omega
    have hv : wu8 (((x / 2 ^ (8 * j) : Nat)) : Int) = ((x / 256 ^ j % 256 : Nat) : Int) := by
      rw [wu8_eq, Nat.pow_mul]; rfl
    have hs : (List.replicate (8 - j) (0 : Int) ++ I (be x j)).set (7 - j) ((x / 256 ^ j % 256 : Nat) : Int) = List.replicate (8 - (j + 1)) (0 : Int) ++ I (be x (j + 1)) := by
      rw [show 8 - j = (7 - j) + 1 by omega, List.replicate_succ', List.append_assoc, List.set_append_right _ _ (by rw [List.length_replicate]; exact Nat.le_refl _), List.length_replicate, Nat.sub_self, show 8 - (j + 1) = 7 - j by omega]
      rfl
    refine Ev.succ ((ih (j + 1) (by omega) (by omega)).congr fun k => ?_)
    simp only [bits_Bytes.l1, if_pos h1, e1, e2, if_pos h2, if_pos h3, Int.toNat_natCast, wi64_s (show j < 9223372036854775807 by omega), shr64N x (8 * j) (by omega), hv, hs]
theorem bytes_f (x : Nat) : Ev (fun k => bits_Bytes.f k (x : Int) 8) (I (be x 8), 0) :=
  Ev.iteF (by decide) (Ev.iteT (by decide) (Ev.bind (g := fun _ y => some (y, (0 : Int))) (bytes_prog x 8 0 rfl (by omega)) (Ev.pure _)))
theorem sh_eq (x n : Nat) : Nat.shiftRight x n = x / 2 ^ n := Nat.shiftRight_eq_div_pow x n
theorem be_eq (n : Nat) (hn : n ≤ 1000000000000) : be (8 * n) 8 = b4 (Nat.shiftRight n 29) (b4 (m32 (Nat.mul n 8)) []) := by
  have e1 : ∀ w l, b4 w l = (w / 16777216) :: (w / 65536 % 256) :: (w / 256 % 256) :: (w % 256) :: l := fun w l => by
    unfold b4
    rw [sh_eq, sh_eq, sh_eq]
    rfl
  rw [e1, e1, sh_eq, m32_eq, show Nat.mul n 8 = n * 8 from rfl]
  simp only [be]
  congr 1
  · omega
  congr 1
  · omega
  congr 1
  · omega
  congr 1
  · omega
  congr 1
  · omega
  congr 1
  · omega
  congr 1
  · omega
  congr 1
  · omega
theorem repN_eq : ∀ (n : Nat) (l : List Nat), repN n l = List.replicate n 0 ++ l
  | 0, l => rfl
  | n + 1, l => congrArg (0 :: ·) (repN_eq n l)
theorem padN_eq (n : Nat) (hn : n ≤ 1000000000000) : padN n = 128 :: (List.replicate ((119 - n % 64) % 64) 0 ++ be (8 * n) 8) := by
  rw [be_eq n hn, ← repN_eq]
  rfl
theorem be_B (x : Nat) : ∀ j, AB (be x j)
  | 0 => fun i => by show (0 : Nat) < 256; decide
  | j + 1 => fun i => by
    cases i with
    | zero => exact Nat.mod_lt _ (by decide)
    | succ i => exact be_B x j i
theorem padN_len (n : Nat) (hn : n ≤ 1000000000000) : (padN n).length = 1 + (119 - n % 64) % 64 + 8 := by
  rw [padN_eq n hn, List.length_cons, List.length_append, List.length_replicate, be_len]; omega
theorem padN_B (n : Nat) (hn : n ≤ 1000000000000) : AB (padN n) := by
  rw [padN_eq n hn]
  have h : AB ([128] ++ (List.replicate ((119 - n % 64) % 64) 0 ++ be (8 * n) 8)) := AB.app (AB.of fun x hx => by rw [List.mem_singleton.1 hx]; decide) (AB.app (AB.of fun x hx => by rw [(List.mem_replicate.1 hx).2]; decide) (be_B _ _))
  exact h
theorem pad_f (n : Nat) (hn : n ≤ 1000000000000) : Ev (fun k => sha_Pad.f k (n : Int)) (I (padN n), 0) := by
  have e0 : (n : Int).tmod 64 = ((n % 64 : Nat) : Int) := by rw [Int.tmod_eq_emod_of_nonneg (by omega)]; omega
  have e1 : wi64 (119 - ((n % 64 : Nat) : Int)) = ((119 - n % 64 : Nat) : Int) := by rw [wi64_id (by omega) (by omega)]; omega
  have e2 : (((119 - n % 64 : Nat) : Int)).tmod 64 = (((119 - n % 64) % 64 : Nat) : Int) := by rw [Int.tmod_eq_emod_of_nonneg (by omega)]; omega
  have e3 : wi64 (1 + (((119 - n % 64) % 64 : Nat) : Int)) = (((119 - n % 64) % 64 + 1 : Nat) : Int) := by rw [wi64_id (by omega) (by omega)]; omega
  have hw : wu64 (n : Int) = (n : Int) := by rw [wu64_eq]; omega
  have e4 : shlOp .u64 (n : Int) 3 = ((8 * n : Nat) : Int) := by
    have : shlOp .u64 (n : Int) 3 = wu64 ((n : Int) * 8) := rfl
    rw [this, wu64_eq]; omega
  have hb := bytes_f (8 * n)
  rw [padN_eq n hn]
  generalize hz : (119 - n % 64) % 64 = z at e2 e3
  have hz0 : z ≤ 64 := by omega
  have es : (List.replicate (z + 1) (0 : Int)).set 0 128 = 128 :: List.replicate z 0 := rfl
  have g1 : ¬ (decide ((n : Int) < 0) || decide ((n : Int) > 1152921504606846976)) = true := by simp; omega
  have g2 : 0 ≤ ((z + 1 : Nat) : Int) ∧ ((z + 1 : Nat) : Int) * 1 ≤ 140737488355328 := by omega
  have g3 : 0 ≤ (0 : Int) ∧ (0 : Int) < ((List.replicate (z + 1) (0 : Int)).length : Int) := by rw [List.length_replicate]; omega
  have g4 : (((128 : Int) :: List.replicate z 0).length + (I (be (8 * n) 8)).length + (((128 : Int) :: List.replicate z 0).length + (I (be (8 * n) 8)).length) / 4 + 192) * 1 ≤ 281474976710656 := by rw [List.length_cons, List.length_replicate, I_len, be_len]; omega
  have er : I (128 :: (List.replicate z 0 ++ be (8 * n) 8)) = (128 :: List.replicate z 0) ++ I (be (8 * n) 8) := by
    show (128 : Int) :: I (List.replicate z 0 ++ be (8 * n) 8) = _
    rw [I_app, I_rep]
    rfl
  rw [er]
  refine Ev.congr (Ev.bind (g := fun _ (x : List Int × Int) => if (((128 : Int) :: List.replicate z 0).length + x.1.length + (((128 : Int) :: List.replicate z 0).length + x.1.length) / 4 + 192) * 1 ≤ 281474976710656 then some ((128 :: List.replicate z 0) ++ x.1, (0 : Int)) else none) hb (Ev.iteT g4 (Ev.pure _))) fun k => ?_
  simp only [sha_Pad.f, if_neg g1, e0, e1, e2, e3, Int.toNat_natCast, Int.toNat_zero, hw, e4]
  rw [if_pos g2, if_pos g3]
  simp only [es]
/-! ### what comes out -/
theorem out_at : ∀ (s : List Nat) (j : Nat), AW s → j < 4 * s.length → (outN s).getD j 0 = Nat.shiftRight (s.getD (j / 4) 0) (24 - 8 * (j % 4)) % 256
  | [], j, _, h => by simp at h
  | w :: s, 0, hW, _ => by
    have := hW 0
    have h0 : w < 4294967296 := this
    show Nat.shiftRight w 24 = Nat.shiftRight w 24 % 256
    rw [sh_eq]
    omega
  | w :: s, 1, hW, _ => rfl
  | w :: s, 2, hW, _ => rfl
  | w :: s, 3, hW, _ => by
    show w % 256 = Nat.shiftRight w 0 % 256
    rfl
  | w :: s, j + 4, hW, h => by
    have e : (outN (w :: s)).getD (j + 4) 0 = (outN s).getD j 0 := rfl
    rw [e, out_at s j (fun i => hW (i + 1)) (by rw [List.length_cons] at h; omega), show (j + 4) / 4 = j / 4 + 1 by omega, show (j + 4) % 4 = j % 4 by omega]
    rfl
theorem outN_len : ∀ s : List Nat, (outN s).length = 4 * s.length
  | [] => rfl
  | w :: s => by
    have e : (outN (w :: s)).length = (outN s).length + 4 := rfl
    rw [e, outN_len s, List.length_cons]; omega
theorem dig_facts : ∀ j : Fin 32, shrOp .i64 ((j.val : Nat) : Int) 2 = ((j.val / 4 : Nat) : Int) ∧ wi64 (24 - (shlOp .i64 (bitsOp .and .i64 ((j.val : Nat) : Int) 3) 3)) = ((24 - 8 * (j.val % 4) : Nat) : Int) := by decide
theorem dig_l1 (s : List Nat) (hs : s.length = 8) (hS : AW s) (rest : List Int) (n : Int) : ∀ (m j : Nat) (d : List Int), 32 - j = m → j ≤ 32 → d.length = 32 → (∀ i, i < j → d.getD i 0 = (((outN s).getD i 0 : Nat) : Int)) → Ev (fun k => sha_Hash_Sum.l1 k ⟨I s, rest, n⟩ (j : Int) d) (I (outN s)) := by
  intro m
  induction m with
  | zero =>
    intro j d hm hj hd hi
    have : ¬ (j : Int) < 32 := by omega
    have e : d = I (outN s) := ext_g (z := 0) (by rw [hd, I_len, outN_len, hs]) fun i h => by rw [hi i (by omega), I_getD]
    rw [← e]
    refine Ev.succ ((Ev.pure _).congr fun k => ?_)
    simp only [sha_Hash_Sum.l1, if_neg this]
  | succ m ih =>
    intro j d hm hj hd hi
    have h1 : (j : Int) < 32 := by omega
    have h2 : 0 ≤ (j : Int) ∧ (j : Int) < (32 : Int) := by omega
    obtain ⟨f1, f2⟩ := dig_facts ⟨j, by omega⟩
    simp only at f1 f2
    have g1 : 0 ≤ ((j / 4 : Nat) : Int) ∧ ((j / 4 : Nat) : Int) < 8 := by omega
    have g2 : 0 ≤ ((24 - 8 * (j % 4) : Nat) : Int) := by omega
    have hv : wu8 (shrOp .u32 ((s.getD (j / 4) 0 : Nat) : Int) ((24 - 8 * (j % 4) : Nat) : Int)) = (((outN s).getD j 0 : Nat) : Int) := by
      rw [shrN _ _ (by omega), wu8_eq, out_at s j hS (by omega)]
      omega
    refine Ev.succ ((ih (j + 1) (d.set j (((outN s).getD j 0 : Nat) : Int)) (by omega) (by omega) (by rw [List.length_set]; exact hd) fun i h => ?_).congr fun k => ?_)
    · rw [set_g]
      by_cases hij : i = j
      · subst hij; rw [if_pos ⟨rfl, by omega⟩]
      · rw [if_neg (fun q => hij q.1), hi i (by omega)]
    · simp only [sha_Hash_Sum.l1, if_pos h1, f1, f2, if_pos g1, if_pos g2, if_pos h2, Int.toNat_natCast, I_getD, hv, wi64_s (show j < 9223372036854775807 by omega)]
theorem shaN_eq (m : List Nat) (h : m.length ≤ 1000000000000) : shaN m = outN (sumN ((m ++ padN m.length).length / 64) shaB (m ++ padN m.length)) := by
  unfold shaN
  rw [app_eq, len_eq]
  congr 2
  rw [List.length_append, padN_len _ h]
  show (m.length + 72) / 64 = _
  omega
theorem sum_f (m : List Nat) (h : m.length ≤ 100000000000) (hB : AB m) : Ev (fun k => sha_Hash_Sum.f k (stateN m)) (I (shaN m)) := by
  have h1 := pad_f m.length (by omega)
  have hp := padN_len m.length (by omega)
  have h2 := write_f m (padN m.length) (by omega) hB (padN_B _ (by omega))
  have hl : 64 * ((m ++ padN m.length).length / 64) ≤ (m ++ padN m.length).length := by omega
  obtain ⟨s1, s2⟩ := sumN_spec _ shaB (m ++ padN m.length) rfl shaB_W (hB.app (padN_B _ (by omega))) hl
  have h3 := dig_l1 _ s1 s2 (stateN (m ++ padN m.length)).rest (stateN (m ++ padN m.length)).n 32 0 (List.replicate 32 (0 : Int)) rfl (by omega) (List.length_replicate ..) (fun i h => by omega)
  rw [← shaN_eq m (by omega)] at h3
  have hr : ((stateN m).rest.length + (stateN m).rest.length / 4 + 192) * 1 ≤ 281474976710656 := by
    show ((I (m.drop (64 * (m.length / 64)))).length + (I (m.drop (64 * (m.length / 64)))).length / 4 + 192) * 1 ≤ _
    rw [I_len, List.length_drop]; omega
  refine Ev.congr (Ev.bind (g := fun k (x : List Int × Int) => (sha_Hash_Write.f k (stateN m) x.1).bind fun r50 => (sha_Hash_Sum.l1 k r50 0 (List.replicate 32 (0 : Int))).bind fun x108 => some x108) h1 (Ev.bind (g := fun k r50 => (sha_Hash_Sum.l1 k r50 0 (List.replicate 32 (0 : Int))).bind fun x108 => some x108) h2 (Ev.bind (g := fun _ x => some x) h3 (Ev.pure _)))) fun k => ?_
  simp only [sha_Hash_Sum.f, sha_Hash_Clone.f, if_pos hr, Option.bind_some]
  rfl
/-- The program's sum. -/
theorem sum_ev (m : List Nat) (h : m.length ≤ 100000000000) (hB : AB m) : Ev (fun k => sha_Sum.f k (I m)) (I (shaN m)) := by
  have h1 := write_f [] m (by simp; omega) (fun i => by show (0 : Nat) < 256; decide) hB
  rw [List.nil_append] at h1
  refine Ev.congr (Ev.bind (g := fun k r26 => (sha_Hash_Sum.f k r26).bind fun r45 => some r45) h1 (Ev.bind (g := fun _ x => some x) (sum_f m h hB) (Ev.pure _))) fun k => ?_
  simp only [sha_Sum.f, stateN_nil, Option.bind_some]
/-! ### a key's rounds -/
theorem xor8N {a b : Nat} (ha : a < 256) (hb : b < 256) : bitsOp .xor .u8 (a : Int) (b : Int) = ((Nat.xor a b : Nat) : Int) ∧ Nat.xor a b < 256 := by
  have h : a ^^^ b < 256 := Nat.xor_lt_two_pow (n := 8) ha hb
  refine ⟨?_, h⟩
  show wu8 (((BitVec.ofInt 8 (a : Int) ^^^ BitVec.ofInt 8 (b : Int)).toNat : Nat) : Int) = ((a ^^^ b : Nat) : Int)
  rw [BitVec.ofInt_natCast, BitVec.ofInt_natCast, BitVec.toNat_xor, BitVec.toNat_ofNat, BitVec.toNat_ofNat, Nat.mod_eq_of_lt ha, Nat.mod_eq_of_lt hb, wu8_eq]
  omega
theorem xorL_at (w : Nat) (b : List Nat) {i : Nat} (h : i < b.length) : (xorL w b).getD i 0 = Nat.xor (b.getD i 0) w := by
  unfold xorL
  rw [mp_eq]
  simp [List.getD_eq_getElem?_getD, h]
theorem xorL_len (w : Nat) (b : List Nat) : (xorL w b).length = b.length := by unfold xorL; rw [mp_eq, List.length_map]
theorem xorL_B {w : Nat} {b : List Nat} (hb : AB b) (hw : w < 256) : AB (xorL w b) := fun i => by
  by_cases h : i < b.length
  · rw [xorL_at w b h]; exact (xor8N (hb i) hw).2
  · rw [List.getD_eq_getElem?_getD, List.getElem?_eq_none (by rw [xorL_len]; omega)]; decide
theorem round_l1 (b : List Nat) (hl : b.length = 64) (hb : AB b) (w : Nat) (hw : w < 256) : ∀ (m j : Nat) (d : List Int), 64 - j = m → j ≤ 64 → d.length = 64 → (∀ i, i < j → d.getD i 0 = (((xorL w b).getD i 0 : Nat) : Int)) → (∀ i, j ≤ i → d.getD i 0 = ((b.getD i 0 : Nat) : Int)) → Ev (fun k => mac_block_round.l1 k (w : Int) (j : Int) d) (I (xorL w b)) := by
  intro m
  induction m with
  | zero =>
    intro j d hm hj hd h1 h2
    have : ¬ (j : Int) < 64 := by omega
    have e : d = I (xorL w b) := ext_g (z := 0) (by rw [hd, I_len, xorL_len, hl]) fun i h => by rw [h1 i (by omega), I_getD]
    rw [← e]
    refine Ev.succ ((Ev.pure _).congr fun k => ?_)
    simp only [mac_block_round.l1, if_neg this]
  | succ m ih =>
    intro j d hm hj hd h1 h2
    have g1 : (j : Int) < 64 := by omega
    have g2 : 0 ≤ (j : Int) ∧ (j : Int) < (64 : Int) := by omega
    have hv : bitsOp .xor .u8 (d.getD j 0) (w : Int) = (((xorL w b).getD j 0 : Nat) : Int) := by
      rw [h2 j (Nat.le_refl _), (xor8N (hb j) hw).1, xorL_at w b (by omega)]
    refine Ev.succ ((ih (j + 1) (d.set j (((xorL w b).getD j 0 : Nat) : Int)) (by omega) (by omega) (by rw [List.length_set]; exact hd) (fun i h => ?_) (fun i h => ?_)).congr fun k => ?_)
    · rw [set_g]
      by_cases hij : i = j
      · subst hij; rw [if_pos ⟨rfl, by omega⟩]
      · rw [if_neg (fun q => hij q.1), h1 i (by omega)]
    · rw [set_g, if_neg (fun q => by omega), h2 i (by omega)]
    · simp only [mac_block_round.l1, if_pos g1, if_pos g2, Int.toNat_natCast, hv, wi64_s (show j < 9223372036854775807 by omega)]
theorem round_ev (b : List Nat) (hl : b.length = 64) (hb : AB b) (w : Nat) (hw : w < 256) (t : List Nat) (ht : t.length ≤ 10000000000) (hB : AB t) : Ev (fun k => mac_block_round.f k (I b) (w : Int) (I t)) (I (shaN (xorL w b ++ t))) := by
  have hx := xorL_len w b
  have hxB := xorL_B hb hw
  have h0 := round_l1 b hl hb w hw 64 0 (I b) rfl (by omega) (by rw [I_len, hl]) (fun i h => by omega) (fun i _ => I_getD b i)
  have h1 := write_f [] (xorL w b) (by simp; omega) (fun i => by show (0 : Nat) < 256; decide) hxB
  rw [List.nil_append] at h1
  have h2 := write_f (xorL w b) t (by omega) hxB hB
  have h3 := sum_f (xorL w b ++ t) (by rw [List.length_append]; omega) (hxB.app hB)
  refine Ev.congr (Ev.bind (g := fun k x75 => (sha_Hash_Write.f k (stateN []) x75).bind fun r127 => (sha_Hash_Write.f k r127 (I t)).bind fun r138 => (sha_Hash_Sum.f k r138).bind fun r157 => some r157) h0 (Ev.bind (g := fun k r127 => (sha_Hash_Write.f k r127 (I t)).bind fun r138 => (sha_Hash_Sum.f k r138).bind fun r157 => some r157) h1 (Ev.bind (g := fun k r138 => (sha_Hash_Sum.f k r138).bind fun r157 => some r157) h2 (Ev.bind (g := fun _ x => some x) h3 (Ev.pure _))))) fun k => ?_
  simp only [mac_block_round.f, stateN_nil, Option.bind_some]
  rfl
end Go.CE
