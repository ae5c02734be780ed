/- Plain laws of sums: whatever is written is summed; in parts or at once. -/
import Derived.Test.YthdlfclkcdnenaaDoorRGj
import Derived.Test.YthdlfclkcdnenaaDoorRLk
set_option linter.unusedSimpArgs false
set_option linter.unusedVariables false
namespace Go.Proofs.YthdlfclkcdnenaaDoor.Pure
open Go.WG Go.Proofs.YthdlfclkcdnenaaDoor
theorem wi64_succ {j : Nat} (h : j < 9223372036854775807) : wi64 ((j : Int) + 1) = ((j + 1 : Nat) : Int) := by
  rw [wi64_id (by omega) (by omega)]
  omega
theorem number_l1 (a : List Int) (hb : a.length ≤ 8) : ∀ (m j : Nat) (x : Int), a.length - j = m → j ≤ a.length → ∃ r, Ev (fun k => bits_Number.l1 k a x (j : Int)) r := by
  intro m
  induction m with
  | zero =>
    intro j x hm hj
    refine ⟨x, Ev.succ ((Ev.pure _).congr fun k => ?_)⟩
    have : ¬ (j : Int) < (a.length : Int) := by omega
    simp only [bits_Number.l1, if_neg this]
  | succ m ih =>
    intro j x hm hj
    have h1 : (j : Int) < (a.length : Int) := by omega
    have h2 : 0 ≤ (j : Int) ∧ (j : Int) < (a.length : Int) := by omega
    obtain ⟨r, hr⟩ := ih (j + 1) (bitsOp .or .u64 (shlOp .u64 x 8) (wu64 (a.getD j 0))) (by omega) (by omega)
    refine ⟨r, Ev.succ (hr.congr fun k => ?_)⟩
    simp only [bits_Number.l1, if_pos h1, if_pos h2, Int.toNat_natCast, wi64_succ (show j < 9223372036854775807 by omega)]
theorem number_f (a : List Int) (hb : a.length ≤ 8) : ∃ r, Ev (fun k => bits_Number.f k a) (r, 0) := by
  obtain ⟨r, hr⟩ := number_l1 a hb a.length 0 0 rfl (Nat.zero_le _)
  exact ⟨r, Ev.iteF (by omega) (Ev.bind (g := fun _ x => some (x, (0 : Int))) hr (Ev.pure _))⟩
theorem word_f (b : List Int) (hb : b.length = 64) (t : Nat) (ht : t < 16) : ∃ r, Ev (fun k => bits_Word.f k b (wi64 (4 * (t : Int)))) (r, 0) := by
  have e1 : wi64 (4 * (t : Int)) = ((4 * t : Nat) : Int) := by rw [wi64_id (by omega) (by omega)]; omega
  have e2 : wi64 (((4 * t : Nat) : Int) + 4) = ((4 * t + 4 : Nat) : Int) := by rw [wi64_id (by omega) (by omega)]; omega
  have e3 : wi64 ((b.length : Int) - 4) = 60 := by rw [hb]; decide
  obtain ⟨r, hr⟩ := number_f ((b.take (4 * t + 4)).drop (4 * t)) (by rw [List.length_drop, List.length_take]; omega)
  refine ⟨wu32 r, ?_⟩
  have g1 : ¬ ((4 * t : Nat) : Int) < 0 := by omega
  have g2 : decide (((4 * t : Nat) : Int) > 60) = false := decide_eq_false (by omega)
  have g3 : 0 ≤ ((4 * t : Nat) : Int) ∧ ((4 * t : Nat) : Int) ≤ ((4 * t + 4 : Nat) : Int) ∧ ((4 * t + 4 : Nat) : Int) ≤ (b.length : Int) := by omega
  refine Ev.congr (Ev.bind (g := fun _ (x : Int × Int) => some (wu32 x.1, x.2)) hr (Ev.pure _)) fun k => ?_
  simp only [bits_Word.f, e1, e2, e3, if_neg g1, g2, Option.bind_some, Bool.false_eq_true, if_false, if_pos g3, Int.toNat_natCast]
/-- A word turned. -/
def rot (x n : Int) : Int := bitsOp .or .u32 (shrOp .u32 x (bitsOp .and .u64 (wu64 n) 31)) (shlOp .u32 x (wu64 (32 - (bitsOp .and .u64 (wu64 n) 31))))
theorem rot_f (k : Nat) (x n : Int) (h1 : 0 ≤ bitsOp .and .u64 (wu64 n) 31) (h2 : 0 ≤ wu64 (32 - (bitsOp .and .u64 (wu64 n) 31))) : bits_Rot.f k x n = some (rot x n) := by
  simp only [bits_Rot.f, if_pos h1, if_pos h2, rot]
theorem block_l1 (b : List Int) (hb : b.length = 64) : ∀ (m j : Nat) (w : List Int), 64 - j = m → j ≤ 64 → w.length = 64 → ∃ r, r.length = 64 ∧ Ev (fun k => sha_Block.l1 k b (j : Int) w) r := by
  intro m
  induction m with
  | zero =>
    intro j w hm hj hw
    refine ⟨w, hw, Ev.succ ((Ev.pure _).congr fun k => ?_)⟩
    have : ¬ (j : Int) < 64 := by omega
    simp only [sha_Block.l1, if_neg this]
  | succ m ih =>
    intro j w hm hj hw
    have h1 : (j : Int) < 64 := by omega
    have h2 : 0 ≤ (j : Int) ∧ (j : Int) < (64 : Int) := by omega
    have e0 := wi64_succ (show j < 9223372036854775807 by omega)
    by_cases ht : j < 16
    · have h3 : (j : Int) < 16 := by omega
      obtain ⟨x, hx⟩ := word_f b hb j ht
      obtain ⟨r, hl, hr⟩ := ih (j + 1) (w.set j x) (by omega) (by omega) (by rw [List.length_set]; exact hw)
      refine ⟨r, hl, Ev.succ (Ev.congr (Ev.bind (g := fun k (y : Int × Int) => if 0 ≤ (j : Int) ∧ (j : Int) < (64 : Int) then (sha_Block.l1 k b (wi64 ((j : Int) + 1)) (w.set (j : Int).toNat y.1)) else none) hx (Ev.iteT h2 (hr.congr fun k => ?_))) fun k => ?_)⟩
      · simp only [e0, Int.toNat_natCast]
      · simp only [sha_Block.l1, if_pos h1, if_pos h3]
    · have h3 : ¬ (j : Int) < 16 := by omega
      have e15 : wi64 ((j : Int) - 15) = ((j - 15 : Nat) : Int) := by rw [wi64_id (by omega) (by omega)]; omega
      have e2 : wi64 ((j : Int) - 2) = ((j - 2 : Nat) : Int) := by rw [wi64_id (by omega) (by omega)]; omega
      have e16 : wi64 ((j : Int) - 16) = ((j - 16 : Nat) : Int) := by rw [wi64_id (by omega) (by omega)]; omega
      have e7 : wi64 ((j : Int) - 7) = ((j - 7 : Nat) : Int) := by rw [wi64_id (by omega) (by omega)]; omega
      have g15 : 0 ≤ ((j - 15 : Nat) : Int) ∧ ((j - 15 : Nat) : Int) < (64 : Int) := by omega
      have g2 : 0 ≤ ((j - 2 : Nat) : Int) ∧ ((j - 2 : Nat) : Int) < (64 : Int) := by omega
      have g16 : 0 ≤ ((j - 16 : Nat) : Int) ∧ ((j - 16 : Nat) : Int) < (64 : Int) := by omega
      have g7 : 0 ≤ ((j - 7 : Nat) : Int) ∧ ((j - 7 : Nat) : Int) < (64 : Int) := by omega
      have r7 := fun k x => rot_f k x 7 (by decide) (by decide)
      have r18 := fun k x => rot_f k x 18 (by decide) (by decide)
      have r17 := fun k x => rot_f k x 17 (by decide) (by decide)
      have r19 := fun k x => rot_f k x 19 (by decide) (by decide)
      generalize hv : wu32 ((wu32 ((wu32 ((w.getD (j - 16) 0) + (w.getD (j - 7) 0))) + (bitsOp .xor .u32 (bitsOp .xor .u32 (rot (w.getD (j - 15) 0) 7) (rot (w.getD (j - 15) 0) 18)) (shrOp .u32 (w.getD (j - 15) 0) 3)))) + (bitsOp .xor .u32 (bitsOp .xor .u32 (rot (w.getD (j - 2) 0) 17) (rot (w.getD (j - 2) 0) 19)) (shrOp .u32 (w.getD (j - 2) 0) 10))) = v
      obtain ⟨r, hl, hr⟩ := ih (j + 1) (w.set j v) (by omega) (by omega) (by rw [List.length_set]; exact hw)
      refine ⟨r, hl, Ev.succ (hr.congr fun k => ?_)⟩
      simp only [sha_Block.l1, if_pos h1, if_neg h3, e15, e2, e16, e7, if_pos g15, if_pos g2, if_pos g16, if_pos g7, Int.toNat_natCast, r7, r18, r17, r19, Option.bind_some, if_pos h2, hv, e0]
theorem block_l2 (w : List Int) : ∀ (m j : Nat) (a b c d e f g h : Int), 64 - j = m → j ≤ 64 → ∃ r, Ev (fun k => sha_Block.l2 k w a b c d e f g h (j : Int)) r := by
  intro m
  induction m with
  | zero =>
    intro j a b c d e f g h hm hj
    refine ⟨(a, b, c, d, e, f, g, h), Ev.succ ((Ev.pure _).congr fun k => ?_)⟩
    have : ¬ (j : Int) < 64 := by omega
    simp only [sha_Block.l2, if_neg this]
  | succ m ih =>
    intro j a b c d e f g h hm hj
    have h1 : (j : Int) < 64 := by omega
    have h2 : 0 ≤ (j : Int) ∧ (j : Int) < (64 : Int) := by omega
    have e0 := wi64_succ (show j < 9223372036854775807 by omega)
    have r6 := fun k x => rot_f k x 6 (by decide) (by decide)
    have r11 := fun k x => rot_f k x 11 (by decide) (by decide)
    have r25 := fun k x => rot_f k x 25 (by decide) (by decide)
    have r2 := fun k x => rot_f k x 2 (by decide) (by decide)
    have r13 := fun k x => rot_f k x 13 (by decide) (by decide)
    have r22 := fun k x => rot_f k x 22 (by decide) (by decide)
    obtain ⟨r, hr⟩ := ih (j + 1) (wu32 ((wu32 ((wu32 ((wu32 ((wu32 (h + (bitsOp .xor .u32 (bitsOp .xor .u32 (rot e 6) (rot e 11)) (rot e 25)))) + (bitsOp .xor .u32 g (bitsOp .and .u32 e (bitsOp .xor .u32 f g))))) + (glob3.getD j 0))) + (w.getD j 0))) + (wu32 ((bitsOp .xor .u32 (bitsOp .xor .u32 (rot a 2) (rot a 13)) (rot a 22)) + (bitsOp .or .u32 (bitsOp .and .u32 a b) (bitsOp .and .u32 c (bitsOp .or .u32 a b))))))) a b c (wu32 (d + (wu32 ((wu32 ((wu32 ((wu32 (h + (bitsOp .xor .u32 (bitsOp .xor .u32 (rot e 6) (rot e 11)) (rot e 25)))) + (bitsOp .xor .u32 g (bitsOp .and .u32 e (bitsOp .xor .u32 f g))))) + (glob3.getD j 0))) + (w.getD j 0))))) e f g (by omega) (by omega)
    refine ⟨r, Ev.succ (hr.congr fun k => ?_)⟩
    simp only [sha_Block.l2, if_pos h1, if_pos h2, r6, r11, r25, r2, r13, r22, Option.bind_some, Int.toNat_natCast, e0]
theorem block_f (s b : List Int) (hb : b.length = 64) : ∃ r, r.length = 8 ∧ Ev (fun k => sha_Block.f k s b) (r, 0) := by
  obtain ⟨w, hw, h1⟩ := block_l1 b hb 64 0 (List.replicate 64 (0 : Int)) rfl (by omega) (List.length_replicate ..)
  obtain ⟨r, h2⟩ := block_l2 w 64 0 (s.getD 0 0) (s.getD 1 0) (s.getD 2 0) (s.getD 3 0) (s.getD 4 0) (s.getD 5 0) (s.getD 6 0) (s.getD 7 0) rfl (by omega)
  refine ⟨_, ?_, Ev.iteT (by omega) (Ev.bind (g := fun k x240 => (sha_Block.l2 k x240 (s.getD (0 : Int).toNat 0) (s.getD (1 : Int).toNat 0) (s.getD (2 : Int).toNat 0) (s.getD (3 : Int).toNat 0) (s.getD (4 : Int).toNat 0) (s.getD (5 : Int).toNat 0) (s.getD (6 : Int).toNat 0) (s.getD (7 : Int).toNat 0) 0).bind fun x => some ([wu32 ((s.getD (0 : Int).toNat 0) + x.1), wu32 ((s.getD (1 : Int).toNat 0) + x.2.1), wu32 ((s.getD (2 : Int).toNat 0) + x.2.2.1), wu32 ((s.getD (3 : Int).toNat 0) + x.2.2.2.1), wu32 ((s.getD (4 : Int).toNat 0) + x.2.2.2.2.1), wu32 ((s.getD (5 : Int).toNat 0) + x.2.2.2.2.2.1), wu32 ((s.getD (6 : Int).toNat 0) + x.2.2.2.2.2.2.1), wu32 ((s.getD (7 : Int).toNat 0) + x.2.2.2.2.2.2.2)], (0 : Int))) h1 (Ev.bind (g := fun _ (x : Int × Int × Int × Int × Int × Int × Int × Int) => some ([wu32 ((s.getD (0 : Int).toNat 0) + x.1), wu32 ((s.getD (1 : Int).toNat 0) + x.2.1), wu32 ((s.getD (2 : Int).toNat 0) + x.2.2.1), wu32 ((s.getD (3 : Int).toNat 0) + x.2.2.2.1), wu32 ((s.getD (4 : Int).toNat 0) + x.2.2.2.2.1), wu32 ((s.getD (5 : Int).toNat 0) + x.2.2.2.2.2.1), wu32 ((s.getD (6 : Int).toNat 0) + x.2.2.2.2.2.2.1), wu32 ((s.getD (7 : Int).toNat 0) + x.2.2.2.2.2.2.2)], (0 : Int))) h2 (Ev.pure _)))⟩
  rfl
/-- The words behind a block. -/
noncomputable def blk (s b : List Int) : List Int := if h : b.length = 64 then Classical.choose (block_f s b h) else []
theorem blk_len (s b : List Int) (hb : b.length = 64) : (blk s b).length = 8 := by
  rw [blk, dif_pos hb]; exact (Classical.choose_spec (block_f s b hb)).1
theorem blk_ev (s b : List Int) (hb : b.length = 64) : Ev (fun k => sha_Block.f k s b) (blk s b, 0) := by
  rw [blk, dif_pos hb]; exact (Classical.choose_spec (block_f s b hb)).2
/-- Whole blocks taken in, one after the other. -/
noncomputable def absorb : Nat → List Int → List Int → List Int × List Int
  | 0, s, r => (s, r)
  | n + 1, s, r => absorb n (blk s (r.take 64)) (r.drop 64)
theorem absorb_rest : ∀ (n : Nat) (s r : List Int), (absorb n s r).2 = r.drop (64 * n)
  | 0, s, r => rfl
  | n + 1, s, r => by
    rw [absorb, absorb_rest n, List.drop_drop]
    congr 1
    omega
theorem absorb_add (b : List Int) (j : Nat) : ∀ (n : Nat) (s r : List Int), 64 * n ≤ r.length → absorb (n + j) s (r ++ b) = absorb j (absorb n s r).1 ((absorb n s r).2 ++ b)
  | 0, s, r, _ => by rw [Nat.zero_add]; rfl
  | n + 1, s, r, h => by
    rw [show n + 1 + j = (n + j) + 1 from by omega, absorb, absorb]
    rw [List.take_append_of_le_length (by omega), List.drop_append_of_le_length (by omega)]
    exact absorb_add b j n _ _ (by rw [List.length_drop]; omega)
theorem write_l1 (n : Int) : ∀ (q : Nat) (s r : List Int), r.length / 64 = q → Ev (fun k => sha_Hash_Write.l1 k ⟨s, r, n⟩) ⟨(absorb q s r).1, (absorb q s r).2, n⟩ := by
  intro q
  induction q with
  | zero =>
    intro s r hq
    refine Ev.succ ((Ev.pure _).congr fun k => ?_)
    have : ¬ (r.length : Int) ≥ 64 := by omega
    simp only [sha_Hash_Write.l1, if_neg this]
    rfl
  | succ q ih =>
    intro s r hq
    have h1 : (r.length : Int) ≥ 64 := by omega
    have h2 : 0 ≤ (64 : Int) ∧ (64 : Int) ≤ (r.length : Int) := by omega
    have h3 : 0 ≤ (64 : Int) ∧ (64 : Int) ≤ (r.length : Int) ∧ (r.length : Int) ≤ (r.length : Int) := by omega
    have hb := blk_ev s (r.take 64) (by rw [List.length_take]; omega)
    have := ih (blk s (r.take 64)) (r.drop 64) (by rw [List.length_drop]; omega)
    refine Ev.succ (Ev.congr (Ev.bind (g := fun k (x : List Int × Int) => if 0 ≤ (64 : Int) ∧ (64 : Int) ≤ (r.length : Int) ∧ (r.length : Int) ≤ (r.length : Int) then (sha_Hash_Write.l1 k (⟨x.1, r.drop ((64 : Int).toNat), n⟩ : THash)) else none) hb (Ev.iteT h3 this)) fun k => ?_)
    simp only [sha_Hash_Write.l1, if_pos h1, if_pos h2]
    rfl
/-- A sum's state behind some bytes. -/
noncomputable def stateOf (m : List Int) : THash := ⟨(absorb (m.length / 64) glob1 m).1, (absorb (m.length / 64) glob1 m).2, (m.length : Int)⟩
theorem stateOf_nil (k : Nat) : sha_New.f k = some (stateOf []) := rfl
theorem write_f (m b : List Int) (h : m.length + b.length ≤ 1000000000000) : Ev (fun k => sha_Hash_Write.f k (stateOf m) b) (stateOf (m ++ b)) := by
  have hr : (absorb (m.length / 64) glob1 m).2 = m.drop (64 * (m.length / 64)) := absorb_rest _ _ _
  have hle : 64 * (m.length / 64) ≤ m.length := by omega
  have hl : (m.drop (64 * (m.length / 64)) ++ b).length / 64 = (m ++ b).length / 64 - m.length / 64 := by
    rw [List.length_append, List.length_drop, List.length_append]; omega
  have h1 := write_l1 (wi64 ((m.length : Int) + (b.length : Int))) _ (absorb (m.length / 64) glob1 m).1 ((absorb (m.length / 64) glob1 m).2 ++ b) rfl
  have e1 : wi64 ((m.length : Int) + (b.length : Int)) = (((m ++ b).length : Nat) : Int) := by rw [wi64_id (by omega) (by omega), List.length_append]; omega
  have hj : ((absorb (m.length / 64) glob1 m).2 ++ b).length / 64 = (m ++ b).length / 64 - m.length / 64 := by rw [hr]; exact hl
  rw [hj, ← absorb_add b _ (m.length / 64) glob1 m hle, e1] at h1
  have hq : m.length / 64 + ((m ++ b).length / 64 - m.length / 64) = (m ++ b).length / 64 := by
    rw [List.length_append]; have := Nat.div_le_div_right (c := 64) (Nat.le_add_right m.length b.length); omega
  rw [hq] at h1
  refine Ev.iteT ?_ (Ev.congr (Ev.bind (g := fun _ x => some x) h1 (Ev.pure _)) fun k => ?_)
  · show ((absorb (m.length / 64) glob1 m).2.length + b.length) * 1 ≤ _
    rw [hr, List.length_drop]; omega
  · show (sha_Hash_Write.l1 k (⟨(absorb (m.length / 64) glob1 m).1, (absorb (m.length / 64) glob1 m).2 ++ b, wi64 ((m.length : Int) + (b.length : Int))⟩ : THash)).bind (fun x211 => some x211) = _
    rw [e1]
end Go.Proofs.YthdlfclkcdnenaaDoor.Pure
