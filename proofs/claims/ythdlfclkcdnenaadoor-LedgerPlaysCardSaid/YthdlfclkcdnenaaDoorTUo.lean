/- Plain laws of sums: the document's sum is the program's; leaves and nodes. -/
import Derived.Test.YthdlfclkcdnenaaDoorTUn
import Derived.Test.YthdlfclkcdnenaaDoorTGd
set_option linter.unusedSimpArgs false
set_option linter.unusedVariables false
namespace Go.Proofs.YthdlfclkcdnenaaDoor.Pure
open Go.WG Go.Proofs.YthdlfclkcdnenaaDoor
/-- The lowest j bytes of a number, the greatest first. -/
def be (x : Nat) : Nat → List Int
  | 0 => []
  | j + 1 => ((x / 256 ^ j % 256 : Nat) : Int) :: be x j
theorem be_len (x : Nat) : ∀ j, (be x j).length = j
  | 0 => rfl
  | j + 1 => by rw [be, List.length_cons, be_len x j]
theorem be_B (x : Nat) : ∀ j, AllB (be x j)
  | 0 => AllB.nil
  | j + 1 => AllB.cons (by unfold B8; omega) (be_B x j)
theorem shr64N (x n : Nat) (hn : n ≤ 64) : shrOp .u64 (x : Int) (n : Int) = ((x / 2 ^ n : Nat) : Int) := by
  unfold shrOp
  rw [show min ((n : Int).toNat) (IntKind.bits .u64) = n from by rw [Int.toNat_natCast]; exact Nat.min_eq_left hn]
  have hp : 0 < 2 ^ n := Nat.two_pow_pos n
  have e : (2 : Int) ^ n = ((2 ^ n : Nat) : Int) := by rw [Int.natCast_pow]; rfl
  rw [e, Int.fdiv_eq_ediv_of_nonneg _ (by omega), Int.natCast_ediv]
theorem bytes_prog (x : Nat) : ∀ (m j : Nat), 8 - j = m → j ≤ 8 → Ev (fun k => bits_Bytes.l1 k (x : Int) 8 (List.replicate (8 - j) 0 ++ be x j) (j : Int)) (be x 8) := by
  intro m
  induction m with
  | zero =>
    intro j hm hj
    obtain rfl : j = 8 := by omega
    refine Ev.succ ((Ev.pure _).congr fun k => ?_)
    simp [bits_Bytes.l1]
  | succ m ih =>
    intro j hm hj
    have h1 : (j : Int) < 8 := by omega
    have e1 : wi64 (8 * (j : Int)) = ((8 * j : Nat) : Int) := by rw [wi64_id (by omega) (by omega)]; omega
    have e2 : wi64 (wi64 ((8 : Int) - 1) - (j : Int)) = ((7 - j : Nat) : Int) := by rw [show wi64 ((8 : Int) - 1) = 7 from by decide, wi64_id (by omega) (by omega)]; omega
    have h2 : 0 ≤ ((8 * j : Nat) : Int) := by omega
    have hl : (List.replicate (8 - j) (0 : Int) ++ be x j).length = 8 := by rw [List.length_append, List.length_replicate, be_len]; omega
    have h3 : 0 ≤ ((7 - j : Nat) : Int) ∧ ((7 - j : Nat) : Int) < ((List.replicate (8 - j) (0 : Int) ++ be x j).length : Int) := by rw [hl]; omega
    have hv : wu8 (((x / 2 ^ (8 * j) : Nat)) : Int) = ((x / 256 ^ j % 256 : Nat) : Int) := by
      rw [wu8_eq, Nat.pow_mul]; rfl
    have hs : (List.replicate (8 - j) (0 : Int) ++ be x j).set (7 - j) ((x / 256 ^ j % 256 : Nat) : Int) = List.replicate (8 - (j + 1)) (0 : Int) ++ be x (j + 1) := by
      rw [show 8 - j = (7 - j) + 1 by omega, List.replicate_succ', List.append_assoc, List.set_append_right _ _ (by rw [List.length_replicate]; exact Nat.le_refl _), List.length_replicate, Nat.sub_self, show 8 - (j + 1) = 7 - j by omega]
      rfl
    refine Ev.succ ((ih (j + 1) (by omega) (by omega)).congr fun k => ?_)
    simp only [bits_Bytes.l1, if_pos h1, e1, e2, if_pos h2, if_pos h3, Int.toNat_natCast, wi64_succ (show j < 9223372036854775807 by omega), shr64N x (8 * j) (by omega), hv, hs]
theorem bytes_ref (x : Nat) (hx : x < 18446744073709551616) : ∀ (m j : Nat), 8 - j = m → j ≤ 8 → Ev (fun k => juratref01_Bytes.l1 k 8 ((x / 256 ^ j : Nat) : Int) (be x j) (j : Int)) (be x 8) := by
  intro m
  induction m with
  | zero =>
    intro j hm hj
    obtain rfl : j = 8 := by omega
    refine Ev.succ ((Ev.pure _).congr fun k => ?_)
    simp [juratref01_Bytes.l1]
  | succ m ih =>
    intro j hm hj
    have h1 : (j : Int) < 8 := by omega
    have hle : x / 256 ^ j ≤ x := Nat.div_le_self _ _
    have e1 : wu64 ((((x / 256 ^ j : Nat) : Int)).tdiv 256) = ((x / 256 ^ (j + 1) : Nat) : Int) := by
      rw [Nat.pow_succ, ← Nat.div_div_eq_div_mul]
      generalize x / 256 ^ j = y at hle ⊢
      rw [wu64_eq, Int.tdiv_eq_ediv_of_nonneg (by omega)]; omega
    have e2 : wu8 ((((x / 256 ^ j : Nat) : Int)).tmod 256) = ((x / 256 ^ j % 256 : Nat) : Int) := by
      generalize x / 256 ^ j = y at hle ⊢
      rw [wu8_eq, Int.tmod_eq_emod_of_nonneg (by omega)]; omega
    have h3 : ([((x / 256 ^ j % 256 : Nat) : Int)].length + (be x j).length) * 1 ≤ 140737488355328 := by rw [be_len, List.length_singleton]; omega
    refine Ev.succ ((ih (j + 1) (by omega) (by omega)).congr fun k => ?_)
    simp only [juratref01_Bytes.l1, if_pos h1, e1, e2, if_pos h3, wi64_succ (show j < 9223372036854775807 by omega)]
    rfl
theorem bytes_both (x : Nat) (hx : x < 18446744073709551616) : Ev (fun k => bits_Bytes.f k (x : Int) 8) (be x 8, 0) ∧ Ev (fun k => juratref01_Bytes.f k (x : Int) 8) (be x 8, 0) := by
  have h1 := bytes_prog x 8 0 rfl (by omega)
  have h2 := bytes_ref x hx 8 0 rfl (by omega)
  rw [Nat.pow_zero, Nat.div_one] at h2
  refine ⟨Ev.iteF (by decide) (Ev.iteT (by decide) (Ev.bind (g := fun _ y => some (y, (0 : Int))) h1 (Ev.pure _))), Ev.iteF (by decide) (Ev.bind (g := fun _ y => some (y, (0 : Int))) h2 (Ev.pure _))⟩
theorem pad_ref_l1 (n : Nat) (hn : n ≤ 1000000000000) : ∀ (m i : Nat), (119 - n % 64) % 64 - i = m → i ≤ (119 - n % 64) % 64 → Ev (fun k => juratref02_Pad.l1 k (n : Int) (128 :: List.replicate i 0)) (128 :: List.replicate ((119 - n % 64) % 64) 0) := by
  intro m
  induction m with
  | zero =>
    intro i hm hi
    obtain rfl : i = (119 - n % 64) % 64 := by omega
    refine Ev.succ ((Ev.pure _).congr fun k => ?_)
    have : (wi64 ((n : Int) + (((128 : Int) :: List.replicate ((119 - n % 64) % 64) (0 : Int)).length : Int))).tmod 64 = 56 := by
      rw [List.length_cons, List.length_replicate, wi64_id (by omega) (by omega), Int.tmod_eq_emod_of_nonneg (by omega)]; omega
    simp only [juratref02_Pad.l1, if_pos this]
  | succ m ih =>
    intro i hm hi
    have h1 : ¬ (wi64 ((n : Int) + (((128 : Int) :: List.replicate i (0 : Int)).length : Int))).tmod 64 = 56 := by
      rw [List.length_cons, List.length_replicate, wi64_id (by omega) (by omega), Int.tmod_eq_emod_of_nonneg (by omega)]; omega
    have h2 : (((128 : Int) :: List.replicate i (0 : Int)).length + 1) * 1 ≤ 140737488355328 := by
      rw [List.length_cons, List.length_replicate]; omega
    have e : ((128 : Int) :: List.replicate i (0 : Int)) ++ [0] = 128 :: List.replicate (i + 1) 0 := by rw [List.cons_append, ← List.replicate_succ']
    refine Ev.succ ((ih (i + 1) (by omega) (by omega)).congr fun k => ?_)
    simp only [juratref02_Pad.l1, if_neg h1, if_pos h2, e]
theorem pad_both (n : Nat) (hn : n ≤ 1000000000000) : ∃ r, r.length = 1 + (119 - n % 64) % 64 + 8 ∧ AllB r ∧ Ev (fun k => sha_Pad.f k (n : Int)) (r, 0) ∧ Ev (fun k => juratref02_Pad.f k (n : Int)) r := by
  have e0 : (n : Int).tmod 64 = ((n % 64 : Nat) : Int) := by rw [Int.tmod_eq_emod_of_nonneg (by omega)]; omega
  have e1 : wi64 (119 - ((n % 64 : Nat) : Int)) = ((119 - n % 64 : Nat) : Int) := by rw [wi64_id (by omega) (by omega)]; omega
  have e2 : (((119 - n % 64 : Nat) : Int)).tmod 64 = (((119 - n % 64) % 64 : Nat) : Int) := by rw [Int.tmod_eq_emod_of_nonneg (by omega)]; omega
  have e3 : wi64 (1 + (((119 - n % 64) % 64 : Nat) : Int)) = (((119 - n % 64) % 64 + 1 : Nat) : Int) := by rw [wi64_id (by omega) (by omega)]; omega
  have hw : wu64 (n : Int) = (n : Int) := by rw [wu64_eq]; omega
  have e4 : shlOp .u64 (n : Int) 3 = ((8 * n : Nat) : Int) := by
    have : shlOp .u64 (n : Int) 3 = wu64 ((n : Int) * 8) := rfl
    rw [this, wu64_eq]; omega
  have e5 : wu64 ((n : Int) * 8) = ((8 * n : Nat) : Int) := by rw [wu64_eq]; omega
  obtain ⟨hb, hb'⟩ := bytes_both (8 * n) (by omega)
  have hpl := pad_ref_l1 n hn _ 0 rfl (Nat.zero_le _)
  generalize hz : (119 - n % 64) % 64 = z at e2 e3 hpl
  have hz0 : z ≤ 64 := by omega
  refine ⟨(128 :: List.replicate z 0) ++ be (8 * n) 8, by rw [List.length_append, List.length_cons, List.length_replicate, be_len]; omega, AllB.append (AllB.cons (by unfold B8; omega) (AllB.rep z)) (be_B _ _), ?_, ?_⟩
  · have es : (List.replicate (z + 1) (0 : Int)).set 0 128 = 128 :: List.replicate z 0 := rfl
    have g1 : ¬ (decide ((n : Int) < 0) || decide ((n : Int) > 1152921504606846976)) = true := by simp; omega
    have g2 : 0 ≤ ((z + 1 : Nat) : Int) ∧ ((z + 1 : Nat) : Int) * 1 ≤ 140737488355328 := by omega
    have g3 : 0 ≤ (0 : Int) ∧ (0 : Int) < ((List.replicate (z + 1) (0 : Int)).length : Int) := by rw [List.length_replicate]; omega
    have g4 : (((128 : Int) :: List.replicate z 0).length + (be (8 * n) 8).length) * 1 ≤ 140737488355328 := by rw [List.length_cons, List.length_replicate, be_len]; omega
    refine Ev.congr (Ev.bind (g := fun _ (x : List Int × Int) => if (((128 : Int) :: List.replicate z 0).length + x.1.length) * 1 ≤ 140737488355328 then some ((128 :: List.replicate z 0) ++ x.1, (0 : Int)) else none) hb (Ev.iteT g4 (Ev.pure _))) fun k => ?_
    simp only [sha_Pad.f, if_neg g1, e0, e1, e2, e3, Int.toNat_natCast, Int.toNat_zero, hw, e4]
    rw [if_pos g2, if_pos g3]
    simp only [es]
  · have g4 : (((128 : Int) :: List.replicate z 0).length + (be (8 * n) 8).length) * 1 ≤ 140737488355328 := by rw [List.length_cons, List.length_replicate, be_len]; omega
    refine Ev.bind hpl ?_
    simp only [hw, e5]
    refine Ev.bind hb' ?_
    exact Ev.iteT g4 (Ev.pure _)
theorem absorb_ref (a p : List Int) (q : Nat) (hq : (a ++ p).length = 64 * q) (hlen : (a ++ p).length ≤ 1000000000000) (hB : AllB (a ++ p)) : ∀ (m t : Nat) (s : List Int), q - t = m → t ≤ q → s.length = 8 → AllW s → Ev (fun k => juratref02_Sum.l1 k a p ((64 * t : Nat) : Int) s) (absorb (q - t) s ((a ++ p).drop (64 * t))).1 := by
  intro m
  induction m with
  | zero =>
    intro t s hm ht hs hS
    refine Ev.succ ((Ev.pure _).congr fun k => ?_)
    have : ¬ ((64 * t : Nat) : Int) < ((a ++ p).length : Int) := by omega
    simp only [juratref02_Sum.l1, if_neg this, hm, absorb]
  | succ m ih =>
    intro t s hm ht hs hS
    have h1 : ((64 * t : Nat) : Int) < ((a ++ p).length : Int) := by omega
    have e1 : wi64 (((64 * t : Nat) : Int) + 64) = ((64 * (t + 1) : Nat) : Int) := by rw [wi64_id (by omega) (by omega)]; omega
    have h2 : 0 ≤ ((64 * t : Nat) : Int) ∧ ((64 * t : Nat) : Int) ≤ ((64 * (t + 1) : Nat) : Int) ∧ ((64 * (t + 1) : Nat) : Int) ≤ ((a ++ p).length : Int) := by omega
    have hd : ((a ++ p).take (64 * (t + 1))).drop (64 * t) = ((a ++ p).drop (64 * t)).take 64 := by rw [List.drop_take]; congr 1; omega
    have hb64 : (((a ++ p).drop (64 * t)).take 64).length = 64 := by rw [List.length_take, List.length_drop]; omega
    obtain ⟨hW', hb⟩ := blk_ref s (((a ++ p).drop (64 * t)).take 64) hs hS hb64 ((hB.drop _).take _)
    have := ih (t + 1) (blk s (((a ++ p).drop (64 * t)).take 64)) (by omega) (by omega) (blk_len _ _ hb64) hW'
    rw [show q - t = (q - (t + 1)) + 1 by omega, absorb, List.drop_drop, show 64 * t + 64 = 64 * (t + 1) by omega]
    refine Ev.succ ?_
    simp only [juratref02_Sum.l1, if_pos h1, e1, if_pos h2, Int.toNat_natCast, hd]
    refine Ev.bind hb ?_
    exact this
theorem dig_facts : ∀ j : Fin 32, shrOp .i64 ((j.val : Nat) : Int) 2 = wi64 (((j.val : Nat) : Int).tdiv 4) ∧ wi64 (24 - (shlOp .i64 (bitsOp .and .i64 ((j.val : Nat) : Int) 3) 3)) = wi64 (24 - wi64 (8 * ((j.val : Nat) : Int).tmod 4)) := by decide
theorem dig_both (h : THash) : ∀ (m j : Nat) (d : List Int), 32 - j = m → j ≤ 32 → d.length = 32 → AllB d → ∃ r, r.length = 32 ∧ AllB r ∧ Ev (fun k => sha_Hash_Sum.l1 k h (j : Int) d) r ∧ Ev (fun k => juratref02_Sum.l2 k h.words (j : Int) d) r := by
  intro m
  induction m with
  | zero =>
    intro j d hm hj hd hB
    have : ¬ (j : Int) < 32 := by omega
    refine ⟨d, hd, hB, Ev.succ ((Ev.pure _).congr fun k => ?_), Ev.succ ((Ev.pure _).congr fun k => ?_)⟩
    · simp only [sha_Hash_Sum.l1, if_neg this]
    · simp only [juratref02_Sum.l2, if_neg this]
  | succ m ih =>
    intro j d hm hj hd hB
    have h1 : (j : Int) < 32 := by omega
    obtain ⟨f1, f2, f3⟩ := digit_facts ⟨j, by omega⟩
    obtain ⟨f4, f5⟩ := dig_facts ⟨j, by omega⟩
    simp only at f1 f2 f3 f4 f5
    have h2 : 0 ≤ (j : Int) ∧ (j : Int) < (32 : Int) := by omega
    have f1' := f1
    have f2' := f2
    have f3' := f3
    rw [f4] at f1' f2'
    rw [f5] at f3'
    obtain ⟨r, hl, hR, hr, hr'⟩ := ih (j + 1) (d.set j (wu8 (shrOp .u32 (h.words.getD (shrOp .i64 (j : Int) 2).toNat 0) (wi64 (24 - (shlOp .i64 (bitsOp .and .i64 (j : Int) 3) 3)))))) (by omega) (by omega) (by rw [List.length_set]; exact hd) (hB.set _ (by rw [wu8_eq]; unfold B8; omega))
    refine ⟨r, hl, hR, Ev.succ (hr.congr fun k => ?_), Ev.succ (hr'.congr fun k => ?_)⟩
    · simp only [sha_Hash_Sum.l1, if_pos h1, if_pos (And.intro f1 f2), if_pos f3, if_pos h2, Int.toNat_natCast, wi64_succ (show j < 9223372036854775807 by omega)]
    · simp only [juratref02_Sum.l2, if_pos h1, if_pos (And.intro f1' f2'), if_pos f3', if_pos h2, Int.toNat_natCast, wi64_succ (show j < 9223372036854775807 by omega), f4, f5]
theorem glob1_W : AllW glob1 := by
  intro i
  match i with
  | 0 => exact ⟨by decide, by decide⟩
  | 1 => exact ⟨by decide, by decide⟩
  | 2 => exact ⟨by decide, by decide⟩
  | 3 => exact ⟨by decide, by decide⟩
  | 4 => exact ⟨by decide, by decide⟩
  | 5 => exact ⟨by decide, by decide⟩
  | 6 => exact ⟨by decide, by decide⟩
  | 7 => exact ⟨by decide, by decide⟩
  | n + 8 => show W32 0; unfold W32; omega
theorem glob0_same : glob0 = glob1 := rfl
theorem sum_both (m : List Int) (hm : m.length ≤ 100000000000) (hB : AllB m) : ∃ r, AllB r ∧ Ev (fun k => sha_Hash_Sum.f k (stateOf m)) r ∧ Ev (fun k => juratref02_Sum.f k m) r := by
  obtain ⟨p, hp, hpB, h1, h1'⟩ := pad_both m.length (by omega)
  have h2 := write_f m p (by omega)
  obtain ⟨r, hl, hR, h3, h3'⟩ := dig_both (stateOf (m ++ p)) 32 0 (List.replicate 32 (0 : Int)) rfl (by omega) (List.length_replicate ..) (AllB.rep 32)
  have hr : (stateOf m).rest.length * 1 ≤ 140737488355328 := by
    show (absorb (m.length / 64) glob1 m).2.length * 1 ≤ _
    rw [absorb_rest, List.length_drop]; omega
  have hq : (m ++ p).length = 64 * ((m ++ p).length / 64) := by rw [List.length_append, hp]; omega
  have h4 := absorb_ref m p _ hq (by rw [List.length_append, hp]; omega) (hB.append hpB) _ 0 glob1 rfl (Nat.zero_le _) rfl glob1_W
  rw [Nat.mul_zero, List.drop_zero, Nat.sub_zero] at h4
  refine ⟨r, hR, Ev.congr (Ev.bind (g := fun k (x : List Int × Int) => (sha_Hash_Write.f k (stateOf m) x.1).bind fun r50 => (sha_Hash_Sum.l1 k r50 0 (List.replicate 32 (0 : Int))).bind fun x108 => some x108) h1 (Ev.bind (g := fun k r50 => (sha_Hash_Sum.l1 k r50 0 (List.replicate 32 (0 : Int))).bind fun x108 => some x108) h2 (Ev.bind (g := fun _ x => some x) h3 (Ev.pure _)))) fun k => ?_, ?_⟩
  · simp only [sha_Hash_Sum.f, sha_Hash_Clone.f, if_pos hr, Option.bind_some]
    rfl
  · refine Ev.iteT (by omega) ?_
    refine Ev.bind h1' ?_
    refine Ev.iteT (by rw [hp]; omega) ?_
    simp only [glob0_same]
    refine Ev.bind h4 ?_
    refine Ev.bind h3' ?_
    exact Ev.pure _
theorem sum_ref (m : List Int) (hm : m.length ≤ 100000000000) (hB : AllB m) : Ev (fun k => juratref02_Sum.f k m) (shaD m) := by
  obtain ⟨r, hR, h1, h2⟩ := sum_both m hm hB
  rw [Ev.unique (shaD_ev hm) h1]; exact h2
theorem shaD_B (m : List Int) (hm : m.length ≤ 100000000000) (hB : AllB m) : AllB (shaD m) := by
  obtain ⟨r, hR, h1, h2⟩ := sum_both m hm hB
  rw [Ev.unique (shaD_ev hm) h1]; exact hR
theorem leafD_B (b : List Int) (hb : b.length ≤ 50000000000) (hB : AllB b) : AllB (leafD b) := shaD_B _ (by rw [List.length_cons]; omega) (AllB.cons (by unfold B8; omega) hB)
theorem nodeD_B (a b : List Int) (ha : a.length = 32) (hb : b.length = 32) (hA : AllB a) (hB : AllB b) : AllB (nodeD a b) := shaD_B _ (by simp [ha, hb]) (AllB.cons (by unfold B8; omega) (hA.append hB))
theorem leaf_ref (b : List Int) (hb : b.length ≤ 50000000000) (hB : AllB b) : Ev (fun k => juratref08_Leaf.f k b) (leafD b) := by
  have h := sum_ref ([0] ++ b) (by simp; omega) (AllB.cons (by unfold B8; omega) hB)
  have h1 : Ev (fun k => juratref02_Join.f k [0] b) ([0] ++ b) := Ev.iteT (by simp) (Ev.iteT (by simp; omega) (Ev.pure _))
  refine Ev.bind h1 ?_
  refine Ev.bind h ?_
  exact Ev.pure _
theorem copy_ref_l1 (a : List Int) (ha : a.length = 32) : ∀ (m j : Nat), 32 - j = m → j ≤ 32 → Ev (fun k => juratref03_Bytes.l1 k a (a.take j) (j : Int)) a := by
  intro m
  induction m with
  | zero =>
    intro j hm hj
    have : ¬ (j : Int) < 32 := by omega
    refine Ev.succ ((Ev.pure _).congr fun k => ?_)
    simp only [juratref03_Bytes.l1, if_neg this]
    rw [List.take_of_length_le (by omega)]
  | succ m ih =>
    intro j hm hj
    have h1 : (j : Int) < 32 := by omega
    have h2 : 0 ≤ (j : Int) ∧ (j : Int) < (32 : Int) := by omega
    have h3 : ((a.take j).length + 1) * 1 ≤ 140737488355328 := by rw [List.length_take]; omega
    have e : a.take j ++ [a.getD j 0] = a.take (j + 1) := by
      rw [List.getD_eq_getElem?_getD, List.getElem?_eq_getElem (by omega), Option.getD_some]
      exact (List.take_succ_eq_append_getElem (by omega)).symm
    refine Ev.succ ((ih (j + 1) (by omega) (by omega)).congr fun k => ?_)
    simp only [juratref03_Bytes.l1, if_pos h1, if_pos h2, if_pos h3, Int.toNat_natCast, e, wi64_succ (show j < 9223372036854775807 by omega)]
theorem copy_ref (a : List Int) (ha : a.length = 32) : Ev (fun k => juratref03_Bytes.f k a) a := by
  have := copy_ref_l1 a ha 32 0 rfl (by omega)
  rw [List.take_zero] at this
  exact Ev.bind (g := fun _ x => some x) this (Ev.pure _)
theorem node_ref (a b : List Int) (ha : a.length = 32) (hb : b.length = 32) (hA : AllB a) (hB : AllB b) : Ev (fun k => juratref08_Node.f k a b) (nodeD a b) := by
  have h := sum_ref (([1] ++ a) ++ b) (by simp [ha, hb]) (AllB.cons (by unfold B8; omega) (hA.append hB))
  refine Ev.bind (copy_ref a ha) ?_
  refine Ev.iteT (by simp [ha]) ?_
  refine Ev.bind (copy_ref b hb) ?_
  refine Ev.iteT (by simp [ha, hb]) ?_
  refine Ev.bind h ?_
  exact Ev.pure _
end Go.Proofs.YthdlfclkcdnenaaDoor.Pure
