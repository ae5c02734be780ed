/- Plain laws of sums: a block's words, and what is behind it, either way. -/
import Derived.Test.YthdlfclkcdnenaaDoorRUm
set_option linter.unusedSimpArgs false
set_option linter.unusedVariables false
namespace Go.Proofs.YthdlfclkcdnenaaDoor.Pure
open Go.WG Go.Proofs.YthdlfclkcdnenaaDoor
/-- Bytes. -/
def B8 (x : Int) : Prop := 0 ≤ x ∧ x < 256
def AllB (l : List Int) : Prop := ∀ y ∈ l, B8 y
theorem AllB.getD {l : List Int} (h : AllB l) (i : Nat) : B8 (l.getD i 0) := by
  by_cases hi : i < l.length
  · rw [List.getD_eq_getElem?_getD, List.getElem?_eq_getElem hi, Option.getD_some]; exact h _ (List.getElem_mem hi)
  · rw [List.getD_eq_getElem?_getD, List.getElem?_eq_none (by omega), Option.getD_none]; unfold B8; omega
theorem AllB.take {l : List Int} (h : AllB l) (n : Nat) : AllB (l.take n) := fun y hy => h y (List.mem_of_mem_take hy)
theorem AllB.drop {l : List Int} (h : AllB l) (n : Nat) : AllB (l.drop n) := fun y hy => h y (List.mem_of_mem_drop hy)
theorem AllB.append {l m : List Int} (h : AllB l) (k : AllB m) : AllB (l ++ m) := fun y hy => (List.mem_append.mp hy).elim (h y) (k y)
theorem AllB.cons {x : Int} {m : List Int} (h : B8 x) (k : AllB m) : AllB (x :: m) := fun y hy => (List.mem_cons.mp hy).elim (fun e => e ▸ h) (k y)
theorem AllB.nil : AllB [] := fun y hy => by cases hy
theorem AllB.set {l : List Int} (h : AllB l) (i : Nat) {v : Int} (hv : B8 v) : AllB (l.set i v) := fun y hy => (List.mem_or_eq_of_mem_set hy).elim (h y) (fun e => e ▸ hv)
theorem AllB.rep (n : Nat) : AllB (List.replicate n 0) := fun y hy => by rw [(List.mem_replicate.mp hy).2]; unfold B8; omega
def AllW (w : List Int) : Prop := ∀ i, W32 (w.getD i 0)
theorem AllW.set {w : List Int} (h : AllW w) (i : Nat) {v : Int} (hv : W32 v) : AllW (w.set i v) := by
  intro k
  have := h k
  rw [List.getD_eq_getElem?_getD] at this ⊢
  rw [List.getElem?_set]
  split
  · split
    · exact hv
    · rw [Option.getD_none]; unfold W32; omega
  · exact this
theorem AllW.rep (n : Nat) : AllW (List.replicate n 0) := by
  intro k
  rw [List.getD_eq_getElem?_getD, List.getElem?_replicate]
  split
  · rw [Option.getD_some]; unfold W32; omega
  · rw [Option.getD_none]; unfold W32; omega
theorem or64N {a b : Nat} (ha : a < 18446744073709551616) (hb : b < 18446744073709551616) : bitsOp .or .u64 (a : Int) (b : Int) = ((a ||| b : Nat) : Int) := by
  show IntKind.u64.wrap (((BitVec.ofInt 64 (a : Int) ||| BitVec.ofInt 64 (b : Int)).toNat : Nat) : Int) = _
  rw [BitVec.ofInt_natCast, BitVec.ofInt_natCast, BitVec.toNat_or, BitVec.toNat_ofNat, BitVec.toNat_ofNat, Nat.mod_eq_of_lt ha, Nat.mod_eq_of_lt hb]
  have : a ||| b < 18446744073709551616 := Nat.or_lt_two_pow (n := 64) ha hb
  show wu64 _ = _
  rw [wu64_eq]; omega
theorem num_step (x y : Nat) (hx : x < 72057594037927936) (hy : y < 256) : bitsOp .or .u64 (shlOp .u64 (x : Int) 8) (wu64 (y : Int)) = ((256 * x + y : Nat) : Int) := by
  have h1 : shlOp .u64 (x : Int) 8 = wu64 ((x : Int) * 256) := rfl
  have h2 : wu64 ((x : Int) * 256) = ((256 * x : Nat) : Int) := by rw [wu64_eq]; omega
  have h3 : wu64 (y : Int) = (y : Int) := by rw [wu64_eq]; omega
  rw [h1, h2, h3, or64N (by omega) (by omega)]
  have := Nat.two_pow_add_eq_or_of_lt (i := 8) (b := y) hy x
  rw [show (2 : Nat) ^ 8 = 256 from rfl] at this
  rw [this]
theorem num_l1_step (a : List Int) (ha : a.length ≤ 8) (j : Nat) (hj : j < a.length) (x y : Nat) (hx : x < 72057594037927936) (hy : a.getD j 0 = (y : Int)) (hb : y < 256) {r : Int} (h : Ev (fun k => bits_Number.l1 k a ((256 * x + y : Nat) : Int) ((j + 1 : Nat) : Int)) r) : Ev (fun k => bits_Number.l1 k a (x : Int) (j : Int)) r := by
  have h1 : (j : Int) < (a.length : Int) := by omega
  have h2 : 0 ≤ (j : Int) ∧ (j : Int) < (a.length : Int) := by omega
  refine Ev.succ (h.congr fun k => ?_)
  simp only [bits_Number.l1, if_pos h1, if_pos h2, Int.toNat_natCast, wi64_succ (show j < 9223372036854775807 by omega), hy, num_step x y hx hb]
theorem number4 (p q r s : Nat) (hp : p < 256) (hq : q < 256) (hr : r < 256) (hs : s < 256) : Ev (fun k => bits_Number.f k [(p : Int), (q : Int), (r : Int), (s : Int)]) (((256 * (256 * (256 * (256 * 0 + p) + q) + r) + s : Nat) : Int), 0) := by
  refine Ev.iteF (by simp) (Ev.bind (g := fun _ x => some (x, (0 : Int))) ?_ (Ev.pure _))
  refine num_l1_step _ (by simp) 0 (by simp) 0 p (by omega) rfl hp ?_
  refine num_l1_step _ (by simp) 1 (by simp) _ q (by omega) rfl hq ?_
  refine num_l1_step _ (by simp) 2 (by simp) _ r (by omega) rfl hr ?_
  refine num_l1_step _ (by simp) 3 (by simp) _ s (by omega) rfl hs ?_
  refine Ev.succ ((Ev.pure _).congr fun k => ?_)
  simp [bits_Number.l1]
theorem drop_getD (l : List Int) (i : Nat) (h : i < l.length) : l.drop i = l.getD i 0 :: l.drop (i + 1) := by
  rw [List.getD_eq_getElem?_getD, List.getElem?_eq_getElem h, Option.getD_some]; exact List.drop_eq_getElem_cons h
theorem four (b : List Int) (i : Nat) (h : i + 4 ≤ b.length) : (b.take (i + 4)).drop i = [b.getD i 0, b.getD (i + 1) 0, b.getD (i + 2) 0, b.getD (i + 3) 0] := by
  rw [List.drop_take, show i + 4 - i = 4 by omega, drop_getD b i (by omega), drop_getD b (i + 1) (by omega), drop_getD b (i + 1 + 1) (by omega), drop_getD b (i + 1 + 1 + 1) (by omega)]
  rfl
theorem word_both (b : List Int) (hb : b.length = 64) (hB : AllB b) (t : Nat) (ht : t < 16) : ∃ r, W32 r ∧ Ev (fun k => bits_Word.f k b (wi64 (4 * (t : Int)))) (r, 0) ∧ Ev (fun k => juratref01_Word.f k b (wi64 (4 * (t : Int)))) (r, 0) := by
  have e1 : wi64 (4 * (t : Int)) = ((4 * t : Nat) : Int) := by rw [wi64_id (by omega) (by omega)]; omega
  have e2 : wi64 (((4 * t : Nat) : Int) + 4) = ((4 * t + 4 : Nat) : Int) := by rw [wi64_id (by omega) (by omega)]; omega
  have e3 : wi64 ((b.length : Int) - 4) = 60 := by rw [hb]; decide
  have f1 : wi64 (((4 * t : Nat) : Int) + 1) = ((4 * t + 1 : Nat) : Int) := by rw [wi64_id (by omega) (by omega)]; omega
  have f2 : wi64 (((4 * t : Nat) : Int) + 2) = ((4 * t + 2 : Nat) : Int) := by rw [wi64_id (by omega) (by omega)]; omega
  have f3 : wi64 (((4 * t : Nat) : Int) + 3) = ((4 * t + 3 : Nat) : Int) := by rw [wi64_id (by omega) (by omega)]; omega
  have b0 := hB.getD (4 * t)
  have b1 := hB.getD (4 * t + 1)
  have b2 := hB.getD (4 * t + 2)
  have b3 := hB.getD (4 * t + 3)
  have h4 := four b (4 * t) (by omega)
  unfold B8 at b0 b1 b2 b3
  obtain ⟨p, hp⟩ : ∃ p : Nat, b.getD (4 * t) 0 = (p : Int) := ⟨(b.getD (4 * t) 0).toNat, by omega⟩
  obtain ⟨q, hq⟩ : ∃ p : Nat, b.getD (4 * t + 1) 0 = (p : Int) := ⟨(b.getD (4 * t + 1) 0).toNat, by omega⟩
  obtain ⟨r, hr⟩ : ∃ p : Nat, b.getD (4 * t + 2) 0 = (p : Int) := ⟨(b.getD (4 * t + 2) 0).toNat, by omega⟩
  obtain ⟨s, hs⟩ : ∃ p : Nat, b.getD (4 * t + 3) 0 = (p : Int) := ⟨(b.getD (4 * t + 3) 0).toNat, by omega⟩
  rw [hp, hq, hr, hs] at h4
  rw [hp] at b0
  rw [hq] at b1
  rw [hr] at b2
  rw [hs] at b3
  have hn := number4 p q r s (by omega) (by omega) (by omega) (by omega)
  have g1 : ¬ ((4 * t : Nat) : Int) < 0 := by omega
  have g2 : decide (((4 * t : Nat) : Int) > 60) = false := decide_eq_false (by omega)
  have g3 : 0 ≤ ((4 * t : Nat) : Int) ∧ ((4 * t : Nat) : Int) ≤ ((4 * t + 4 : Nat) : Int) ∧ ((4 * t + 4 : Nat) : Int) ≤ (b.length : Int) := by omega
  have k0 : ¬ (b.length : Int) < 4 := by omega
  have k1 : 0 ≤ ((4 * t : Nat) : Int) ∧ ((4 * t : Nat) : Int) < (b.length : Int) := by omega
  have k2 : 0 ≤ ((4 * t + 1 : Nat) : Int) ∧ ((4 * t + 1 : Nat) : Int) < (b.length : Int) := by omega
  have k3 : 0 ≤ ((4 * t + 2 : Nat) : Int) ∧ ((4 * t + 2 : Nat) : Int) < (b.length : Int) := by omega
  have k4 : 0 ≤ ((4 * t + 3 : Nat) : Int) ∧ ((4 * t + 3 : Nat) : Int) < (b.length : Int) := by omega
  refine ⟨wu32 ((256 * (256 * (256 * (256 * 0 + p) + q) + r) + s : Nat) : Int), wu32_w _, ?_, ?_⟩
  · refine Ev.congr (Ev.bind (g := fun _ (x : Int × Int) => some (wu32 x.1, x.2)) hn (Ev.pure _)) fun k => ?_
    simp only [bits_Word.f, e1, e2, e3, if_neg g1, g2, Option.bind_some, Bool.false_eq_true, if_false, if_pos g3, Int.toNat_natCast, h4]
  · refine (Ev.pure _).congr fun k => ?_
    simp only [juratref01_Word.f, e1, e3, f1, f2, f3, if_neg g1, if_neg k0, g2, Option.bind_some, Bool.false_eq_true, if_false, if_pos k1, if_pos k2, if_pos k3, if_pos k4, Int.toNat_natCast, hp, hq, hr, hs]
    simp only [wu32_eq]
    congr 2
    omega
theorem block_l1_both (b : List Int) (hb : b.length = 64) (hB : AllB b) : ∀ (m j : Nat) (w : List Int), 64 - j = m → j ≤ 64 → w.length = 64 → AllW w → ∃ r, r.length = 64 ∧ AllW r ∧ Ev (fun k => sha_Block.l1 k b (j : Int) w) r ∧ Ev (fun k => juratref02_Block.l1 k b (j : Int) w) r := by
  intro m
  induction m with
  | zero =>
    intro j w hm hj hw hW
    have : ¬ (j : Int) < 64 := by omega
    refine ⟨w, hw, hW, Ev.succ ((Ev.pure _).congr fun k => ?_), Ev.succ ((Ev.pure _).congr fun k => ?_)⟩
    · simp only [sha_Block.l1, if_neg this]
    · simp only [juratref02_Block.l1, if_neg this]
  | succ m ih =>
    intro j w hm hj hw hW
    have h1 : (j : Int) < 64 := by omega
    have h2 : 0 ≤ (j : Int) ∧ (j : Int) < (64 : Int) := by omega
    have e0 := wi64_succ (show j < 9223372036854775807 by omega)
    by_cases ht : j < 16
    · have h3 : (j : Int) < 16 := by omega
      obtain ⟨x, hxw, hx, hx'⟩ := word_both b hb hB j ht
      obtain ⟨r, hl, hR, hr, hr'⟩ := ih (j + 1) (w.set j x) (by omega) (by omega) (by rw [List.length_set]; exact hw) (hW.set j hxw)
      refine ⟨r, hl, hR, Ev.succ (Ev.congr (Ev.bind (g := fun k (y : Int × Int) => if 0 ≤ (j : Int) ∧ (j : Int) < (64 : Int) then (sha_Block.l1 k b (wi64 ((j : Int) + 1)) (w.set (j : Int).toNat y.1)) else none) hx (Ev.iteT h2 (hr.congr fun k => ?_))) fun k => ?_),
        Ev.succ (Ev.congr (Ev.bind (g := fun k (y : Int × Int) => if 0 ≤ (j : Int) ∧ (j : Int) < (64 : Int) then (juratref02_Block.l1 k b (wi64 ((j : Int) + 1)) (w.set (j : Int).toNat y.1)) else none) hx' (Ev.iteT h2 (hr'.congr fun k => ?_))) fun k => ?_)⟩
      · simp only [e0, Int.toNat_natCast]
      · simp only [sha_Block.l1, if_pos h1, if_pos h3]
      · simp only [e0, Int.toNat_natCast]
      · simp only [juratref02_Block.l1, if_pos h1, if_pos h3]
    · have h3 : ¬ (j : Int) < 16 := by omega
      have e15 : wi64 ((j : Int) - 15) = ((j - 15 : Nat) : Int) := by rw [wi64_id (by omega) (by omega)]; omega
      have e2 : wi64 ((j : Int) - 2) = ((j - 2 : Nat) : Int) := by rw [wi64_id (by omega) (by omega)]; omega
      have e16 : wi64 ((j : Int) - 16) = ((j - 16 : Nat) : Int) := by rw [wi64_id (by omega) (by omega)]; omega
      have e7 : wi64 ((j : Int) - 7) = ((j - 7 : Nat) : Int) := by rw [wi64_id (by omega) (by omega)]; omega
      have g15 : 0 ≤ ((j - 15 : Nat) : Int) ∧ ((j - 15 : Nat) : Int) < (64 : Int) := by omega
      have g2 : 0 ≤ ((j - 2 : Nat) : Int) ∧ ((j - 2 : Nat) : Int) < (64 : Int) := by omega
      have g16 : 0 ≤ ((j - 16 : Nat) : Int) ∧ ((j - 16 : Nat) : Int) < (64 : Int) := by omega
      have g7 : 0 ≤ ((j - 7 : Nat) : Int) ∧ ((j - 7 : Nat) : Int) < (64 : Int) := by omega
      have r7 := fun k x => rot_f k x 7 (by decide) (by decide)
      have r18 := fun k x => rot_f k x 18 (by decide) (by decide)
      have r17 := fun k x => rot_f k x 17 (by decide) (by decide)
      have r19 := fun k x => rot_f k x 19 (by decide) (by decide)
      have q7 : Ev (fun k => juratref01_Rot.f k (w.getD (j - 15) 0) 7) (rot (w.getD (j - 15) 0) 7) := rot_both (hW _) 7 (by decide) (by decide) (by decide)
      have q18 : Ev (fun k => juratref01_Rot.f k (w.getD (j - 15) 0) 18) (rot (w.getD (j - 15) 0) 18) := rot_both (hW _) 18 (by decide) (by decide) (by decide)
      have q17 : Ev (fun k => juratref01_Rot.f k (w.getD (j - 2) 0) 17) (rot (w.getD (j - 2) 0) 17) := rot_both (hW _) 17 (by decide) (by decide) (by decide)
      have q19 : Ev (fun k => juratref01_Rot.f k (w.getD (j - 2) 0) 19) (rot (w.getD (j - 2) 0) 19) := rot_both (hW _) 19 (by decide) (by decide) (by decide)
      generalize hv : wu32 ((wu32 ((wu32 ((w.getD (j - 16) 0) + (w.getD (j - 7) 0))) + (bitsOp .xor .u32 (bitsOp .xor .u32 (rot (w.getD (j - 15) 0) 7) (rot (w.getD (j - 15) 0) 18)) (shrOp .u32 (w.getD (j - 15) 0) 3)))) + (bitsOp .xor .u32 (bitsOp .xor .u32 (rot (w.getD (j - 2) 0) 17) (rot (w.getD (j - 2) 0) 19)) (shrOp .u32 (w.getD (j - 2) 0) 10))) = v
      have hv' : wu32 ((wu32 ((wu32 ((bitsOp .xor .u32 (bitsOp .xor .u32 (rot (w.getD (j - 2) 0) 17) (rot (w.getD (j - 2) 0) 19)) (shrOp .u32 (w.getD (j - 2) 0) 10)) + (w.getD (j - 7) 0))) + (bitsOp .xor .u32 (bitsOp .xor .u32 (rot (w.getD (j - 15) 0) 7) (rot (w.getD (j - 15) 0) 18)) (shrOp .u32 (w.getD (j - 15) 0) 3)))) + (w.getD (j - 16) 0)) = v := by
        rw [← hv]; simp only [wu32_eq]; omega
      obtain ⟨r, hl, hR, hr, hr'⟩ := ih (j + 1) (w.set j v) (by omega) (by omega) (by rw [List.length_set]; exact hw) (hW.set j (hv ▸ wu32_w _))
      refine ⟨r, hl, hR, Ev.succ (hr.congr fun k => ?_), Ev.succ ?_⟩
      · simp only [sha_Block.l1, if_pos h1, if_neg h3, e15, e2, e16, e7, if_pos g15, if_pos g2, if_pos g16, if_pos g7, Int.toNat_natCast, r7, r18, r17, r19, Option.bind_some, if_pos h2, hv, e0]
      · simp only [juratref02_Block.l1, if_pos h1, if_neg h3, e15, e2, e16, e7, if_pos g15, if_pos g2, if_pos g16, if_pos g7, Int.toNat_natCast, if_pos h2, e0]
        refine Ev.bind q7 ?_
        refine Ev.bind q18 ?_
        refine Ev.bind q17 ?_
        refine Ev.bind q19 ?_
        rw [hv']
        exact hr'
theorem glob_same : glob2 = glob3 := rfl
theorem block_l2_both (w : List Int) : ∀ (m j : Nat) (a b c d e f g h : Int), 64 - j = m → j ≤ 64 → W32 a → W32 b → W32 c → W32 d → W32 e → W32 f → W32 g → W32 h → ∃ a' b' c' d' e' f' g' h', Ev (fun k => sha_Block.l2 k w a b c d e f g h (j : Int)) (a', b', c', d', e', f', g', h') ∧ Ev (fun k => juratref02_Block.l2 k w (j : Int) [a, b, c, d, e, f, g, h]) [a', b', c', d', e', f', g', h'] := by
  intro m
  induction m with
  | zero =>
    intro j a b c d e f g h hm hj _ _ _ _ _ _ _ _
    have : ¬ (j : Int) < 64 := by omega
    refine ⟨a, b, c, d, e, f, g, h, Ev.succ ((Ev.pure _).congr fun k => ?_), Ev.succ ((Ev.pure _).congr fun k => ?_)⟩
    · simp only [sha_Block.l2, if_neg this]
    · simp only [juratref02_Block.l2, if_neg this]
  | succ m ih =>
    intro j a b c d e f g h hm hj wa wb wc wd we wf wg wh
    have h1 : (j : Int) < 64 := by omega
    have h2 : 0 ≤ (j : Int) ∧ (j : Int) < (64 : Int) := by omega
    have e0 := wi64_succ (show j < 9223372036854775807 by omega)
    have r6 := fun k x => rot_f k x 6 (by decide) (by decide)
    have r11 := fun k x => rot_f k x 11 (by decide) (by decide)
    have r25 := fun k x => rot_f k x 25 (by decide) (by decide)
    have r2 := fun k x => rot_f k x 2 (by decide) (by decide)
    have r13 := fun k x => rot_f k x 13 (by decide) (by decide)
    have r22 := fun k x => rot_f k x 22 (by decide) (by decide)
    have q6 : Ev (fun k => juratref01_Rot.f k e 6) (rot e 6) := rot_both we 6 (by decide) (by decide) (by decide)
    have q11 : Ev (fun k => juratref01_Rot.f k e 11) (rot e 11) := rot_both we 11 (by decide) (by decide) (by decide)
    have q25 : Ev (fun k => juratref01_Rot.f k e 25) (rot e 25) := rot_both we 25 (by decide) (by decide) (by decide)
    have q2 : Ev (fun k => juratref01_Rot.f k a 2) (rot a 2) := rot_both wa 2 (by decide) (by decide) (by decide)
    have q13 : Ev (fun k => juratref01_Rot.f k a 13) (rot a 13) := rot_both wa 13 (by decide) (by decide) (by decide)
    have q22 : Ev (fun k => juratref01_Rot.f k a 22) (rot a 22) := rot_both wa 22 (by decide) (by decide) (by decide)
    generalize ht1 : wu32 ((wu32 ((wu32 ((wu32 (h + (bitsOp .xor .u32 (bitsOp .xor .u32 (rot e 6) (rot e 11)) (rot e 25)))) + (bitsOp .xor .u32 g (bitsOp .and .u32 e (bitsOp .xor .u32 f g))))) + (glob3.getD j 0))) + (w.getD j 0)) = t1
    generalize ht2 : wu32 ((bitsOp .xor .u32 (bitsOp .xor .u32 (rot a 2) (rot a 13)) (rot a 22)) + (bitsOp .or .u32 (bitsOp .and .u32 a b) (bitsOp .and .u32 c (bitsOp .or .u32 a b)))) = t2
    obtain ⟨a', b', c', d', e', f', g', h', hr, hr'⟩ := ih (j + 1) (wu32 (t1 + t2)) a b c (wu32 (d + t1)) e f g (by omega) (by omega) (wu32_w _) wa wb wc (wu32_w _) we wf wg
    refine ⟨a', b', c', d', e', f', g', h', Ev.succ (hr.congr fun k => ?_), Ev.succ ?_⟩
    · simp only [sha_Block.l2, if_pos h1, if_pos h2, r6, r11, r25, r2, r13, r22, Option.bind_some, Int.toNat_natCast, e0, ht1, ht2]
    · have i0 : ([a, b, c, d, e, f, g, h] : List Int).getD (0 : Int).toNat 0 = a := rfl
      have i1 : ([a, b, c, d, e, f, g, h] : List Int).getD (1 : Int).toNat 0 = b := rfl
      have i2 : ([a, b, c, d, e, f, g, h] : List Int).getD (2 : Int).toNat 0 = c := rfl
      have i3 : ([a, b, c, d, e, f, g, h] : List Int).getD (3 : Int).toNat 0 = d := rfl
      have i4 : ([a, b, c, d, e, f, g, h] : List Int).getD (4 : Int).toNat 0 = e := rfl
      have i5 : ([a, b, c, d, e, f, g, h] : List Int).getD (5 : Int).toNat 0 = f := rfl
      have i6 : ([a, b, c, d, e, f, g, h] : List Int).getD (6 : Int).toNat 0 = g := rfl
      have i7 : ([a, b, c, d, e, f, g, h] : List Int).getD (7 : Int).toNat 0 = h := rfl
      simp only [juratref02_Block.l2, if_pos h1, if_pos h2, i0, i1, i2, i3, i4, i5, i6, i7, Int.toNat_natCast, e0, glob_same, ← choose_same we wf wg, ← major_same wa wb wc]
      refine Ev.bind q6 ?_
      refine Ev.bind q11 ?_
      refine Ev.bind q25 ?_
      refine Ev.bind q2 ?_
      refine Ev.bind q13 ?_
      refine Ev.bind q22 ?_
      simp only [ht1, ht2]
      exact hr'
theorem list8 (s : List Int) (h : s.length = 8) : ∃ a b c d e f g i, s = [a, b, c, d, e, f, g, i] := by
  match s, h with
  | [a, b, c, d, e, f, g, i], _ => exact ⟨a, b, c, d, e, f, g, i, rfl⟩
theorem block_l3 (a b c d e f g h a' b' c' d' e' f' g' h' : Int) : Ev (fun k => juratref02_Block.l3 k [a', b', c', d', e', f', g', h'] 0 [a, b, c, d, e, f, g, h]) [wu32 (a + a'), wu32 (b + b'), wu32 (c + c'), wu32 (d + d'), wu32 (e + e'), wu32 (f + f'), wu32 (g + g'), wu32 (h + h')] := by
  refine ⟨9, fun k hk => ?_⟩
  obtain ⟨k, rfl⟩ : ∃ j, k = j + 9 := ⟨k - 9, by omega⟩
  rfl
/-- What is behind a block, either way. -/
theorem blk_ref (s b : List Int) (hs : s.length = 8) (hS : AllW s) (hb : b.length = 64) (hB : AllB b) : AllW (blk s b) ∧ Ev (fun k => juratref02_Block.f k s b) (blk s b) := by
  obtain ⟨w, hw, hW, h1, h1'⟩ := block_l1_both b hb hB 64 0 (List.replicate 64 (0 : Int)) rfl (by omega) (List.length_replicate ..) (AllW.rep 64)
  obtain ⟨x0, x1, x2, x3, x4, x5, x6, x7, rfl⟩ := list8 s hs
  obtain ⟨a', b', c', d', e', f', g', h', h2, h2'⟩ := block_l2_both w 64 0 x0 x1 x2 x3 x4 x5 x6 x7 rfl (by omega) (hS 0) (hS 1) (hS 2) (hS 3) (hS 4) (hS 5) (hS 6) (hS 7)
  have h3' := block_l3 x0 x1 x2 x3 x4 x5 x6 x7 a' b' c' d' e' f' g' h'
  have hp : Ev (fun k => sha_Block.f k [x0, x1, x2, x3, x4, x5, x6, x7] b) ([wu32 (x0 + a'), wu32 (x1 + b'), wu32 (x2 + c'), wu32 (x3 + d'), wu32 (x4 + e'), wu32 (x5 + f'), wu32 (x6 + g'), wu32 (x7 + h')], 0) := by
    have g1 : (b.length : Int) = 64 := by omega
    refine Ev.iteT g1 ?_
    refine Ev.bind h1 ?_
    refine Ev.bind h2 ?_
    exact Ev.pure _
  have hr : Ev (fun k => juratref02_Block.f k [x0, x1, x2, x3, x4, x5, x6, x7] b) [wu32 (x0 + a'), wu32 (x1 + b'), wu32 (x2 + c'), wu32 (x3 + d'), wu32 (x4 + e'), wu32 (x5 + f'), wu32 (x6 + g'), wu32 (x7 + h')] := by
    refine Ev.bind h1' ?_
    refine Ev.bind h2' ?_
    refine Ev.bind h3' ?_
    exact Ev.pure _
  have e := Ev.unique (blk_ev [x0, x1, x2, x3, x4, x5, x6, x7] b hb) hp
  injection e with e _
  rw [e]
  refine ⟨?_, hr⟩
  intro i
  match i with
  | 0 => exact wu32_w _
  | 1 => exact wu32_w _
  | 2 => exact wu32_w _
  | 3 => exact wu32_w _
  | 4 => exact wu32_w _
  | 5 => exact wu32_w _
  | 6 => exact wu32_w _
  | 7 => exact wu32_w _
  | n + 8 => show W32 0; unfold W32; omega
end Go.Proofs.YthdlfclkcdnenaaDoor.Pure
