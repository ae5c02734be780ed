/- The fast sum is the program's own: what sha and mac come to, in the kernel's numbers. -/
import Derived.Test.YtnlpmnegjgjiiaaGreatDoorEs
import Derived.Test.YtnlpmnegjgjiiaaGreatDoorEb
import Derived.Test.YtnlpmnegjgjiiaaGreatDoorGm
import Derived.Test.YtnlpmnegjgjiiaaGreatDoorLk
namespace Go.CE
open Go Go.Proofs.YtnlpmnegjgjiiaaGreatDoor
open Go.WG (Ev bitsOp shrOp shlOp wi64 wu32 wu64 wu8 wi64_id wu32_eq wu64_eq wu8_eq)
set_option linter.all false
def I (l : List Nat) : List Int := l.map (fun (n : Nat) => (n : Int))
theorem I_len (l : List Nat) : (I l).length = l.length := List.length_map ..
theorem I_getD (l : List Nat) (i : Nat) : (I l).getD i 0 = ((l.getD i 0 : Nat) : Int) := by
  unfold I
  simp only [List.getD_eq_getElem?_getD, List.getElem?_map]
  cases l[i]? <;> rfl
theorem I_app (a b : List Nat) : I (a ++ b) = I a ++ I b := List.map_append ..
theorem I_take (n : Nat) (a : List Nat) : I (a.take n) = (I a).take n := List.map_take ..
theorem I_drop (n : Nat) (a : List Nat) : I (a.drop n) = (I a).drop n := List.map_drop ..
theorem I_rep (n : Nat) : I (List.replicate n 0) = List.replicate n 0 := List.map_replicate ..
theorem nd_eq (l : List Nat) (i : Nat) : nd l i = l.getD i 0 := by
  unfold nd
  rw [nth_eq, List.getD_eq_getElem?_getD]
  cases l[i]? <;> rfl
theorem drop_g (l : List Nat) (i k : Nat) : (l.drop i).getD k 0 = l.getD (i + k) 0 := by
  simp only [List.getD_eq_getElem?_getD, List.getElem?_drop]
theorem ext_g {α : Type} [Inhabited α] {z : α} {l m : List α} (h : l.length = m.length) (k : ∀ i, i < l.length → l.getD i z = m.getD i z) : l = m := by
  refine List.ext_getElem h fun i h1 h2 => ?_
  have := k i h1
  simpa [List.getD_eq_getElem?_getD, h1, h2] using this
theorem set_g (w : List Int) (j : Nat) (v : Int) (i : Nat) : (w.set j v).getD i 0 = if i = j ∧ j < w.length then v else w.getD i 0 := by
  simp only [List.getD_eq_getElem?_getD, List.getElem?_set]
  by_cases h : j = i
  · subst h
    by_cases h2 : j < w.length <;> simp [h2]
  · rw [if_neg h, if_neg (fun q => h q.1.symm)]
theorem wi64_s {j : Nat} (h : j < 9223372036854775807) : wi64 ((j : Int) + 1) = ((j + 1 : Nat) : Int) := by
  rw [wi64_id (by omega) (by omega)]
  omega
/-! ### words -/
theorem m32_eq (x : Nat) : m32 x = x % 4294967296 := rfl
theorem wu32_n (x : Nat) : wu32 (x : Int) = ((m32 x : Nat) : Int) := by rw [wu32_eq, m32_eq]; omega
theorem m32_lt (x : Nat) : m32 x < 4294967296 := Nat.mod_lt _ (by decide)
theorem xorN {a b : Nat} (ha : a < 4294967296) (hb : b < 4294967296) : bitsOp .xor .u32 (a : Int) (b : Int) = ((Nat.xor a b : Nat) : Int) ∧ Nat.xor a b < 4294967296 := by
  have h : a ^^^ b < 4294967296 := Nat.xor_lt_two_pow (n := 32) ha hb
  refine ⟨?_, h⟩
  show wu32 (((BitVec.ofInt 32 (a : Int) ^^^ BitVec.ofInt 32 (b : Int)).toNat : Nat) : Int) = ((a ^^^ b : Nat) : Int)
  rw [BitVec.ofInt_natCast, BitVec.ofInt_natCast, BitVec.toNat_xor, BitVec.toNat_ofNat, BitVec.toNat_ofNat, Nat.mod_eq_of_lt ha, Nat.mod_eq_of_lt hb, wu32_eq]
  omega
theorem andN {a b : Nat} (ha : a < 4294967296) (hb : b < 4294967296) : bitsOp .and .u32 (a : Int) (b : Int) = ((Nat.land a b : Nat) : Int) ∧ Nat.land a b < 4294967296 := by
  have h : a &&& b < 4294967296 := Nat.and_lt_two_pow (n := 32) a hb
  refine ⟨?_, h⟩
  show wu32 (((BitVec.ofInt 32 (a : Int) &&& BitVec.ofInt 32 (b : Int)).toNat : Nat) : Int) = ((a &&& b : Nat) : Int)
  rw [BitVec.ofInt_natCast, BitVec.ofInt_natCast, BitVec.toNat_and, BitVec.toNat_ofNat, BitVec.toNat_ofNat, Nat.mod_eq_of_lt ha, Nat.mod_eq_of_lt hb, wu32_eq]
  omega
theorem orN {a b : Nat} (ha : a < 4294967296) (hb : b < 4294967296) : bitsOp .or .u32 (a : Int) (b : Int) = ((Nat.lor a b : Nat) : Int) ∧ Nat.lor a b < 4294967296 := by
  have h : a ||| b < 4294967296 := Nat.or_lt_two_pow (n := 32) ha hb
  refine ⟨?_, h⟩
  show wu32 (((BitVec.ofInt 32 (a : Int) ||| BitVec.ofInt 32 (b : Int)).toNat : Nat) : Int) = ((a ||| b : Nat) : Int)
  rw [BitVec.ofInt_natCast, BitVec.ofInt_natCast, BitVec.toNat_or, BitVec.toNat_ofNat, BitVec.toNat_ofNat, Nat.mod_eq_of_lt ha, Nat.mod_eq_of_lt hb, wu32_eq]
  omega
theorem shrN (x n : Nat) (hn : n ≤ 32) : shrOp .u32 (x : Int) (n : Int) = ((Nat.shiftRight x n : Nat) : Int) := by
  unfold shrOp
  rw [show min ((n : Int).toNat) (IntKind.bits .u32) = n from by rw [Int.toNat_natCast]; exact Nat.min_eq_left hn]
  have hp : 0 < 2 ^ n := Nat.two_pow_pos n
  have e : (2 : Int) ^ n = ((2 ^ n : Nat) : Int) := by rw [Int.natCast_pow]; rfl
  rw [e, Int.fdiv_eq_ediv_of_nonneg _ (by omega), show Nat.shiftRight x n = x / 2 ^ n from Nat.shiftRight_eq_div_pow x n, Int.natCast_ediv]
theorem shrN_lt {x n : Nat} (hx : x < 4294967296) : Nat.shiftRight x n < 4294967296 := by
  rw [show Nat.shiftRight x n = x / 2 ^ n from Nat.shiftRight_eq_div_pow x n]
  exact Nat.lt_of_le_of_lt (Nat.div_le_self _ _) hx
theorem shlN (x n : Nat) (hn : n ≤ 32) : shlOp .u32 (x : Int) (n : Int) = ((m32 (Nat.shiftLeft x n) : Nat) : Int) := by
  unfold shlOp
  rw [show min ((n : Int).toNat) (IntKind.bits .u32) = n from by rw [Int.toNat_natCast]; exact Nat.min_eq_left hn]
  have e : (2 : Int) ^ n = ((2 ^ n : Nat) : Int) := by rw [Int.natCast_pow]; rfl
  show wu32 _ = _
  rw [e, ← Int.natCast_mul, wu32_n, show Nat.shiftLeft x n = x * 2 ^ n from Nat.shiftLeft_eq x n]
theorem rot_n (x n : Nat) (hx : x < 4294967296) (hn : n ≤ 32) (h1 : bitsOp .and .u64 (wu64 (n : Int)) 31 = (n : Int)) (h2 : wu64 (32 - (n : Int)) = ((32 - n : Nat) : Int)) (k : Nat) : bits_Rot.f k (x : Int) (n : Int) = some ((rotr n x : Nat) : Int) := by
  have g1 : 0 ≤ bitsOp .and .u64 (wu64 (n : Int)) 31 := by rw [h1]; omega
  have g2 : 0 ≤ wu64 (32 - (bitsOp .and .u64 (wu64 (n : Int)) 31)) := by rw [h1, h2]; omega
  simp only [bits_Rot.f, if_pos g1, if_pos g2]
  rw [h1, h2, shrN x n hn, shlN x (32 - n) (by omega), (orN (shrN_lt hx) (m32_lt _)).1]
  rfl
theorem rotr_lt (n x : Nat) (hx : x < 4294967296) : rotr n x < 4294967296 := (orN (shrN_lt hx) (m32_lt _)).2
/-- All are words; all are bytes. -/
def AW (l : List Nat) : Prop := ∀ i, l.getD i 0 < 4294967296
def AB (l : List Nat) : Prop := ∀ i, l.getD i 0 < 256
theorem AB.take {l : List Nat} (h : AB l) (n : Nat) : AB (l.take n) := fun i => by
  have := h i
  rw [List.getD_eq_getElem?_getD] at this ⊢
  rw [List.getElem?_take]
  split
  · exact this
  · simp
theorem AB.drop {l : List Nat} (h : AB l) (n : Nat) : AB (l.drop n) := fun i => by rw [drop_g]; exact h _
theorem AB.app {l m : List Nat} (h : AB l) (k : AB m) : AB (l ++ m) := fun i => by
  rw [List.getD_eq_getElem?_getD]
  by_cases hi : i < l.length
  · rw [List.getElem?_append_left hi, ← List.getD_eq_getElem?_getD]; exact h i
  · rw [List.getElem?_append_right (by omega), ← List.getD_eq_getElem?_getD]; exact k _
theorem AB.of {l : List Nat} (h : ∀ x ∈ l, x < 256) : AB l := fun i => by
  rw [List.getD_eq_getElem?_getD]
  cases e : l[i]? with
  | none => simp
  | some x => exact h x (List.mem_of_getElem? e)
/-! ### a block's words -/
theorem wAll_spec : ∀ (n : Nat) (L : List Nat), (wAll n L).length = n + L.length ∧ (wAll n L).drop n = L ∧ ∀ i, i < n → (wAll n L).getD i 0 = wNext ((wAll n L).drop (i + 1))
  | 0, L => ⟨(Nat.zero_add _).symm, rfl, fun i h => by omega⟩
  | n + 1, L => by
    have e : wAll (n + 1) L = wAll n (wNext L :: L) := rfl
    obtain ⟨h1, h2, h3⟩ := wAll_spec n (wNext L :: L)
    rw [e]
    generalize hw : wAll n (wNext L :: L) = w at h1 h2 h3
    have h4 : w.drop (n + 1) = L := by
      have := congrArg (List.drop 1) h2
      rw [List.drop_drop] at this
      simpa [Nat.add_comm] using this
    refine ⟨by rw [h1, List.length_cons]; omega, h4, fun i hi => ?_⟩
    by_cases hin : i < n
    · exact h3 i hin
    · obtain rfl : i = n := by omega
      rw [h4]
      have := congrArg (fun l => l.getD 0 0) h2
      simp only [drop_g, Nat.add_zero] at this
      exact this
theorem rv_eq (l : List Nat) : rv l = l.reverse := by
  have key : ∀ (l r : List Nat), (List.rec (motive := fun _ => List Nat → List Nat) (fun r => r) (fun h _ g r => g (h :: r)) l r : List Nat) = l.reverse ++ r := by
    intro l
    induction l with
    | nil => intro r; rfl
    | cons h t ih =>
      intro r
      have := ih (h :: r)
      simpa using this
  have := key l []
  rw [List.append_nil] at this
  exact this
noncomputable def sched (ws : List Nat) : List Nat := rv (wAll 48 (rv ws))
theorem sched_at {ws : List Nat} (h : ws.length = 16) {i : Nat} (hi : i < 64) : (sched ws).getD i 0 = (wAll 48 (rv ws)).getD (63 - i) 0 := by
  have hl : (wAll 48 (rv ws)).length = 64 := by rw [(wAll_spec 48 _).1, rv_eq, List.length_reverse, h]
  unfold sched
  rw [rv_eq (wAll 48 (rv ws)), List.getD_eq_getElem?_getD, List.getElem?_reverse (by omega), hl, List.getD_eq_getElem?_getD]
theorem sched_len {ws : List Nat} (h : ws.length = 16) : (sched ws).length = 64 := by
  unfold sched
  rw [rv_eq, List.length_reverse, (wAll_spec 48 _).1, rv_eq, List.length_reverse, h]
theorem sched_lo {ws : List Nat} (h : ws.length = 16) {t : Nat} (ht : t < 16) : (sched ws).getD t 0 = ws.getD t 0 := by
  rw [sched_at h (by omega)]
  have h2 := congrArg (fun l => l.getD (15 - t) 0) (wAll_spec 48 (rv ws)).2.1
  simp only [drop_g] at h2
  rw [show 63 - t = 48 + (15 - t) by omega, h2, rv_eq, List.getD_eq_getElem?_getD, List.getElem?_reverse (by omega), h, List.getD_eq_getElem?_getD, show 16 - 1 - (15 - t) = t by omega]
theorem sched_hi {ws : List Nat} (h : ws.length = 16) {t : Nat} (h1 : 16 ≤ t) (h2 : t < 64) : (sched ws).getD t 0 = m32 (((sched ws).getD (t - 16) 0 + (sched ws).getD (t - 7) 0) + (sig0 ((sched ws).getD (t - 15) 0) + sig1 ((sched ws).getD (t - 2) 0))) := by
  rw [sched_at h h2, (wAll_spec 48 (rv ws)).2.2 (63 - t) (by omega)]
  have e : ∀ k, k < 16 → nd ((wAll 48 (rv ws)).drop (63 - t + 1)) k = (sched ws).getD (t - 1 - k) 0 := fun k hk => by
    rw [nd_eq, drop_g, sched_at h (by omega)]
    congr 1
    omega
  unfold wNext
  rw [e 15 (by omega), e 6 (by omega), e 14 (by omega), e 1 (by omega), show t - 1 - 15 = t - 16 by omega, show t - 1 - 6 = t - 7 by omega, show t - 1 - 14 = t - 15 by omega, show t - 1 - 1 = t - 2 by omega]
  rfl
theorem sched_W {ws : List Nat} (h : ws.length = 16) (hW : AW ws) : AW (sched ws) := fun i => by
  by_cases h1 : i < 16
  · rw [sched_lo h h1]; exact hW i
  · by_cases h2 : i < 64
    · rw [sched_hi h (by omega) h2]; exact m32_lt _
    · rw [List.getD_eq_getElem?_getD, List.getElem?_eq_none (by rw [sched_len h]; omega)]; decide
theorem wordsN_len : ∀ (n : Nat) (l : List Nat), (wordsN n l).length = n
  | 0, _ => rfl
  | n + 1, l => congrArg (· + 1) (wordsN_len n (drp 4 l))
theorem wordsN_at : ∀ (n : Nat) (l : List Nat) (t : Nat), t < n → (wordsN n l).getD t 0 = w4 (l.drop (4 * t))
  | 0, _, _, h => by omega
  | n + 1, l, 0, _ => rfl
  | n + 1, l, t + 1, h => by
    have := wordsN_at n (drp 4 l) t (by omega)
    have e : (drp 4 l).drop (4 * t) = l.drop (4 * (t + 1)) := by rw [drp_eq, List.drop_drop, show 4 + 4 * t = 4 * (t + 1) by omega]
    rw [e] at this
    exact this
theorem w4_eq (l : List Nat) (i : Nat) : w4 (l.drop i) = ((l.getD i 0 * 256 + l.getD (i + 1) 0) * 256 + l.getD (i + 2) 0) * 256 + l.getD (i + 3) 0 := by
  unfold w4
  simp only [nd_eq, drop_g, Nat.add_zero]
  rfl
theorem words_W {b : List Nat} (hB : AB b) : AW (wordsN 16 b) := fun i => by
  by_cases h : i < 16
  · rw [wordsN_at 16 b i h, w4_eq]
    have h0 := hB (4 * i)
    have h1 := hB (4 * i + 1)
    have h2 := hB (4 * i + 2)
    have h3 := hB (4 * i + 3)
    omega
  · rw [List.getD_eq_getElem?_getD, List.getElem?_eq_none (by rw [wordsN_len]; omega)]; decide
/-! ### the program's words -/
theorem or64N {a b : Nat} (ha : a < 18446744073709551616) (hb : b < 18446744073709551616) : bitsOp .or .u64 (a : Int) (b : Int) = ((a ||| b : Nat) : Int) := by
  show IntKind.u64.wrap (((BitVec.ofInt 64 (a : Int) ||| BitVec.ofInt 64 (b : Int)).toNat : Nat) : Int) = _
  rw [BitVec.ofInt_natCast, BitVec.ofInt_natCast, BitVec.toNat_or, BitVec.toNat_ofNat, BitVec.toNat_ofNat, Nat.mod_eq_of_lt ha, Nat.mod_eq_of_lt hb]
  have : a ||| b < 18446744073709551616 := Nat.or_lt_two_pow (n := 64) ha hb
  show wu64 _ = _
  rw [wu64_eq]; omega
theorem num_step (x y : Nat) (hx : x < 72057594037927936) (hy : y < 256) : bitsOp .or .u64 (shlOp .u64 (x : Int) 8) (wu64 (y : Int)) = ((256 * x + y : Nat) : Int) := by
  have h1 : shlOp .u64 (x : Int) 8 = wu64 ((x : Int) * 256) := rfl
  have h2 : wu64 ((x : Int) * 256) = ((256 * x : Nat) : Int) := by rw [wu64_eq]; omega
  have h3 : wu64 (y : Int) = (y : Int) := by rw [wu64_eq]; omega
  rw [h1, h2, h3, or64N (by omega) (by omega)]
  have := Nat.two_pow_add_eq_or_of_lt (i := 8) (b := y) hy x
  rw [show (2 : Nat) ^ 8 = 256 from rfl] at this
  rw [this]
theorem num_l1_step (a : List Int) (ha : a.length ≤ 8) (j : Nat) (hj : j < a.length) (x y : Nat) (hx : x < 72057594037927936) (hy : a.getD j 0 = (y : Int)) (hb : y < 256) {r : Int} (h : Ev (fun k => bits_Number.l1 k a ((256 * x + y : Nat) : Int) ((j + 1 : Nat) : Int)) r) : Ev (fun k => bits_Number.l1 k a (x : Int) (j : Int)) r := by
  have h1 : (j : Int) < (a.length : Int) := by omega
  have h2 : 0 ≤ (j : Int) ∧ (j : Int) < (a.length : Int) := by omega
  refine Ev.succ (h.congr fun k => ?_)
  simp only [bits_Number.l1, if_pos h1, if_pos h2, Int.toNat_natCast, wi64_s (show j < 9223372036854775807 by omega), hy, num_step x y hx hb]
theorem number4 (p q r s : Nat) (hp : p < 256) (hq : q < 256) (hr : r < 256) (hs : s < 256) : Ev (fun k => bits_Number.f k [(p : Int), (q : Int), (r : Int), (s : Int)]) (((256 * (256 * (256 * (256 * 0 + p) + q) + r) + s : Nat) : Int), 0) := by
  refine Ev.iteF (by simp) (Ev.bind (g := fun _ x => some (x, (0 : Int))) ?_ (Ev.pure _))
  refine num_l1_step _ (by simp) 0 (by simp) 0 p (by omega) rfl hp ?_
  refine num_l1_step _ (by simp) 1 (by simp) _ q (by omega) rfl hq ?_
  refine num_l1_step _ (by simp) 2 (by simp) _ r (by omega) rfl hr ?_
  refine num_l1_step _ (by simp) 3 (by simp) _ s (by omega) rfl hs ?_
  refine Ev.succ ((Ev.pure _).congr fun k => ?_)
  simp [bits_Number.l1]
theorem drop_getD (l : List Int) (i : Nat) (h : i < l.length) : l.drop i = l.getD i 0 :: l.drop (i + 1) := by
  rw [List.getD_eq_getElem?_getD, List.getElem?_eq_getElem h, Option.getD_some]; exact List.drop_eq_getElem_cons h
theorem four (b : List Int) (i : Nat) (h : i + 4 ≤ b.length) : (b.take (i + 4)).drop i = [b.getD i 0, b.getD (i + 1) 0, b.getD (i + 2) 0, b.getD (i + 3) 0] := by
  rw [List.drop_take, show i + 4 - i = 4 by omega, drop_getD b i (by omega), drop_getD b (i + 1) (by omega), drop_getD b (i + 1 + 1) (by omega), drop_getD b (i + 1 + 1 + 1) (by omega)]
  rfl
theorem word_n (b : List Nat) (hb : b.length = 64) (hB : AB b) (t : Nat) (ht : t < 16) : Ev (fun k => bits_Word.f k (I b) (wi64 (4 * (t : Int)))) (((w4 (b.drop (4 * t)) : Nat) : Int), 0) := by
  have hl : (I b).length = 64 := by rw [I_len, hb]
  have e1 : wi64 (4 * (t : Int)) = ((4 * t : Nat) : Int) := by rw [wi64_id (by omega) (by omega)]; omega
  have e2 : wi64 (((4 * t : Nat) : Int) + 4) = ((4 * t + 4 : Nat) : Int) := by rw [wi64_id (by omega) (by omega)]; omega
  have e3 : wi64 (((I b).length : Int) - 4) = 60 := by rw [hl]; decide
  have h4 := four (I b) (4 * t) (by omega)
  simp only [I_getD] at h4
  have b0 := hB (4 * t)
  have b1 := hB (4 * t + 1)
  have b2 := hB (4 * t + 2)
  have b3 := hB (4 * t + 3)
  have hn := number4 _ _ _ _ b0 b1 b2 b3
  have g1 : ¬ ((4 * t : Nat) : Int) < 0 := by omega
  have g2 : decide (((4 * t : Nat) : Int) > 60) = false := decide_eq_false (by omega)
  have g3 : 0 ≤ ((4 * t : Nat) : Int) ∧ ((4 * t : Nat) : Int) ≤ ((4 * t + 4 : Nat) : Int) ∧ ((4 * t + 4 : Nat) : Int) ≤ ((I b).length : Int) := by omega
  have hv : wu32 ((256 * (256 * (256 * (256 * 0 + b.getD (4 * t) 0) + b.getD (4 * t + 1) 0) + b.getD (4 * t + 2) 0) + b.getD (4 * t + 3) 0 : Nat) : Int) = ((w4 (b.drop (4 * t)) : Nat) : Int) := by
    rw [wu32_eq, w4_eq]; omega
  refine Ev.congr (Ev.bind (g := fun _ (x : Int × Int) => some (wu32 x.1, x.2)) hn (hv ▸ Ev.pure _)) fun k => ?_
  simp only [bits_Word.f, e1, e2, e3, if_neg g1, g2, Option.bind_some, Bool.false_eq_true, if_false, if_pos g3, Int.toNat_natCast, h4]
theorem sig_n {x : Nat} (hx : x < 4294967296) : bitsOp .xor .u32 (bitsOp .xor .u32 ((rotr 7 x : Nat) : Int) ((rotr 18 x : Nat) : Int)) (shrOp .u32 (x : Int) 3) = ((sig0 x : Nat) : Int) ∧ bitsOp .xor .u32 (bitsOp .xor .u32 ((rotr 17 x : Nat) : Int) ((rotr 19 x : Nat) : Int)) (shrOp .u32 (x : Int) 10) = ((sig1 x : Nat) : Int) := by
  have a1 := xorN (rotr_lt 7 x hx) (rotr_lt 18 x hx)
  have a2 := xorN (rotr_lt 17 x hx) (rotr_lt 19 x hx)
  have s1 := shrN x 3 (by omega)
  have s2 := shrN x 10 (by omega)
  constructor
  · rw [a1.1, show (3 : Int) = ((3 : Nat) : Int) from rfl, s1, (xorN a1.2 (shrN_lt hx)).1]; rfl
  · rw [a2.1, show (10 : Int) = ((10 : Nat) : Int) from rfl, s2, (xorN a2.2 (shrN_lt hx)).1]; rfl
theorem block_l1 (b : List Nat) (hb : b.length = 64) (hB : AB b) : ∀ (m j : Nat) (w : List Int), 64 - j = m → j ≤ 64 → w.length = 64 → (∀ i, i < j → w.getD i 0 = (((sched (wordsN 16 b)).getD i 0 : Nat) : Int)) → Ev (fun k => sha_Block.l1 k (I b) (j : Int) w) (I (sched (wordsN 16 b))) := by
  have h16 := wordsN_len 16 b
  have hW := sched_W h16 (words_W hB)
  intro m
  induction m with
  | zero =>
    intro j w hm hj hw hs
    have : ¬ (j : Int) < 64 := by omega
    have e : w = I (sched (wordsN 16 b)) := ext_g (z := 0) (by rw [hw, I_len, sched_len h16]) fun i hi => by rw [hs i (by omega), I_getD]
    rw [← e]
    refine Ev.succ ((Ev.pure _).congr fun k => ?_)
    simp only [sha_Block.l1, if_neg this]
  | succ m ih =>
    intro j w hm hj hw hs
    have h1 : (j : Int) < 64 := by omega
    have h2 : 0 ≤ (j : Int) ∧ (j : Int) < (64 : Int) := by omega
    have e0 := wi64_s (show j < 9223372036854775807 by omega)
    have next : ∀ v : Int, v = (((sched (wordsN 16 b)).getD j 0 : Nat) : Int) → ∀ i, i < j + 1 → (w.set j v).getD i 0 = (((sched (wordsN 16 b)).getD i 0 : Nat) : Int) := fun v hv i hi => by
      rw [set_g]
      by_cases hij : i = j
      · subst hij; rw [if_pos ⟨rfl, by omega⟩, hv]
      · rw [if_neg (fun q => hij q.1), hs i (by omega)]
    by_cases ht : j < 16
    · have h3 : (j : Int) < 16 := by omega
      have hx := word_n b hb hB j ht
      have hr := ih (j + 1) (w.set j ((w4 (b.drop (4 * j)) : Nat) : Int)) (by omega) (by omega) (by rw [List.length_set]; exact hw) (next _ (by rw [sched_lo h16 ht, wordsN_at 16 b j ht]))
      refine Ev.succ (Ev.congr (Ev.bind (g := fun k (y : Int × Int) => if 0 ≤ (j : Int) ∧ (j : Int) < (64 : Int) then (sha_Block.l1 k (I b) (wi64 ((j : Int) + 1)) (w.set (j : Int).toNat y.1)) else none) hx (Ev.iteT h2 (hr.congr fun k => ?_))) fun k => ?_)
      · simp only [e0, Int.toNat_natCast]
      · simp only [sha_Block.l1, if_pos h1, if_pos h3]
    · have h3 : ¬ (j : Int) < 16 := by omega
      have e15 : wi64 ((j : Int) - 15) = ((j - 15 : Nat) : Int) := by rw [wi64_id (by omega) (by omega)]; omega
      have e2 : wi64 ((j : Int) - 2) = ((j - 2 : Nat) : Int) := by rw [wi64_id (by omega) (by omega)]; omega
      have e16 : wi64 ((j : Int) - 16) = ((j - 16 : Nat) : Int) := by rw [wi64_id (by omega) (by omega)]; omega
      have e7 : wi64 ((j : Int) - 7) = ((j - 7 : Nat) : Int) := by rw [wi64_id (by omega) (by omega)]; omega
      have g15 : 0 ≤ ((j - 15 : Nat) : Int) ∧ ((j - 15 : Nat) : Int) < (64 : Int) := by omega
      have g2 : 0 ≤ ((j - 2 : Nat) : Int) ∧ ((j - 2 : Nat) : Int) < (64 : Int) := by omega
      have g16 : 0 ≤ ((j - 16 : Nat) : Int) ∧ ((j - 16 : Nat) : Int) < (64 : Int) := by omega
      have g7 : 0 ≤ ((j - 7 : Nat) : Int) ∧ ((j - 7 : Nat) : Int) < (64 : Int) := by omega
      have r7 := rot_n ((sched (wordsN 16 b)).getD (j - 15) 0) 7 (hW _) (by omega) (by decide) (by decide)
      have r18 := rot_n ((sched (wordsN 16 b)).getD (j - 15) 0) 18 (hW _) (by omega) (by decide) (by decide)
      have r17 := rot_n ((sched (wordsN 16 b)).getD (j - 2) 0) 17 (hW _) (by omega) (by decide) (by decide)
      have r19 := rot_n ((sched (wordsN 16 b)).getD (j - 2) 0) 19 (hW _) (by omega) (by decide) (by decide)
      have s15 := (sig_n (hW (j - 15))).1
      have s2 := (sig_n (hW (j - 2))).2
      have hv : wu32 ((wu32 ((wu32 ((((sched (wordsN 16 b)).getD (j - 16) 0 : Nat) : Int) + (((sched (wordsN 16 b)).getD (j - 7) 0 : Nat) : Int))) + ((sig0 ((sched (wordsN 16 b)).getD (j - 15) 0) : Nat) : Int))) + ((sig1 ((sched (wordsN 16 b)).getD (j - 2) 0) : Nat) : Int)) = (((sched (wordsN 16 b)).getD j 0 : Nat) : Int) := by
        rw [sched_hi h16 (t := j) (by omega) (by omega)]
        simp only [wu32_eq, m32_eq]
        omega
      have hr := ih (j + 1) (w.set j (((sched (wordsN 16 b)).getD j 0 : Nat) : Int)) (by omega) (by omega) (by rw [List.length_set]; exact hw) (next _ rfl)
      refine Ev.succ (hr.congr fun k => ?_)
      have r7' : bits_Rot.f k (((sched (wordsN 16 b)).getD (j - 15) 0 : Nat) : Int) 7 = _ := r7 k
      have r18' : bits_Rot.f k (((sched (wordsN 16 b)).getD (j - 15) 0 : Nat) : Int) 18 = _ := r18 k
      have r17' : bits_Rot.f k (((sched (wordsN 16 b)).getD (j - 2) 0 : Nat) : Int) 17 = _ := r17 k
      have r19' : bits_Rot.f k (((sched (wordsN 16 b)).getD (j - 2) 0 : Nat) : Int) 19 = _ := r19 k
      simp only [sha_Block.l1, if_pos h1, if_neg h3, e15, e2, e16, e7, if_pos g15, if_pos g2, if_pos g16, if_pos g7, Int.toNat_natCast, hs (j - 15) (by omega), hs (j - 2) (by omega), hs (j - 16) (by omega), hs (j - 7) (by omega), r7', r18', r17', r19', Option.bind_some, if_pos h2, s15, s2, hv, e0]
/-! ### a block's rounds -/
theorem glob_k : glob3 = I shaK := rfl
theorem glob_b : glob1 = I shaB := rfl
theorem shaK_W : AW shaK := fun i => by
  by_cases h : i < 64
  · have : ∀ j : Fin 64, shaK.getD j.val 0 < 4294967296 := by decide
    exact this ⟨i, h⟩
  · rw [List.getD_eq_getElem?_getD, List.getElem?_eq_none (by show 64 ≤ i; omega)]; decide
theorem shaB_W : AW shaB := fun i => by
  by_cases h : i < 8
  · have : ∀ j : Fin 8, shaB.getD j.val 0 < 4294967296 := by decide
    exact this ⟨i, h⟩
  · rw [List.getD_eq_getElem?_getD, List.getElem?_eq_none (by show 8 ≤ i; omega)]; decide
theorem drop_g1 (l : List Nat) (i : Nat) (h : i < l.length) : l.drop i = l.getD i 0 :: l.drop (i + 1) := by
  rw [List.getD_eq_getElem?_getD, List.getElem?_eq_getElem h, Option.getD_some]; exact List.drop_eq_getElem_cons h
abbrev T8 := Int × Int × Int × Int × Int × Int × Int × Int
/-- Eight words. -/
inductive E8 : List Nat → T8 → Prop
  | mk (a b c d e f g h : Nat) (ha : a < 4294967296) (hb : b < 4294967296) (hc : c < 4294967296) (hd : d < 4294967296) (he : e < 4294967296) (hf : f < 4294967296) (hg : g < 4294967296) (hh : h < 4294967296) : E8 [a, b, c, d, e, f, g, h] ((a : Int), (b : Int), (c : Int), (d : Int), (e : Int), (f : Int), (g : Int), (h : Int))
theorem block_l2 (ws : List Nat) (hl : ws.length = 64) (hW : AW ws) : ∀ (m j : Nat) (a b c d e f g h : Nat), 64 - j = m → j ≤ 64 → a < 4294967296 → b < 4294967296 → c < 4294967296 → d < 4294967296 → e < 4294967296 → f < 4294967296 → g < 4294967296 → h < 4294967296 → ∃ q, E8 (rounds (shaK.drop j) (ws.drop j) a b c d e f g h) q ∧ Ev (fun k => sha_Block.l2 k (I ws) a b c d e f g h (j : Int)) q := by
  intro m
  induction m with
  | zero =>
    intro j a b c d e f g h hm hj ha hb hc hd he hf hg hh
    have : ¬ (j : Int) < 64 := by omega
    obtain rfl : j = 64 := by omega
    refine ⟨_, E8.mk a b c d e f g h ha hb hc hd he hf hg hh, Ev.succ ((Ev.pure _).congr fun k => ?_)⟩
    simp only [sha_Block.l2, if_neg this]
  | succ m ih =>
    intro j a b c d e f g h hm hj ha hb hc hd he hf hg hh
    have h1 : (j : Int) < 64 := by omega
    have h2 : 0 ≤ (j : Int) ∧ (j : Int) < (64 : Int) := by omega
    have e0 := wi64_s (show j < 9223372036854775807 by omega)
    have r6 : ∀ k, bits_Rot.f k (e : Int) 6 = _ := rot_n e 6 he (by omega) (by decide) (by decide)
    have r11 : ∀ k, bits_Rot.f k (e : Int) 11 = _ := rot_n e 11 he (by omega) (by decide) (by decide)
    have r25 : ∀ k, bits_Rot.f k (e : Int) 25 = _ := rot_n e 25 he (by omega) (by decide) (by decide)
    have r2 : ∀ k, bits_Rot.f k (a : Int) 2 = _ := rot_n a 2 ha (by omega) (by decide) (by decide)
    have r13 : ∀ k, bits_Rot.f k (a : Int) 13 = _ := rot_n a 13 ha (by omega) (by decide) (by decide)
    have r22 : ∀ k, bits_Rot.f k (a : Int) 22 = _ := rot_n a 22 ha (by omega) (by decide) (by decide)
    have x1 := xorN (rotr_lt 6 e he) (rotr_lt 11 e he)
    have x2 := xorN x1.2 (rotr_lt 25 e he)
    have y1 := xorN (rotr_lt 2 a ha) (rotr_lt 13 a ha)
    have y2 := xorN y1.2 (rotr_lt 22 a ha)
    have c1 := xorN hf hg
    have c2 := andN he c1.2
    have c3 := xorN hg c2.2
    have m1 := andN ha hb
    have m2 := orN ha hb
    have m3 := andN hc m2.2
    have m4 := orN m1.2 m3.2
    have hk : glob3.getD j 0 = ((shaK.getD j 0 : Nat) : Int) := by rw [glob_k, I_getD]
    have hw : (I ws).getD j 0 = ((ws.getD j 0 : Nat) : Int) := I_getD ws j
    have t1 : ∀ X : Int, wu32 (X + wu32 (wu32 (wu32 (wu32 ((h : Int) + ((xor3 (rotr 6 e) (rotr 11 e) (rotr 25 e) : Nat) : Int)) + ((Nat.xor g (Nat.land e (Nat.xor f g)) : Nat) : Int)) + ((shaK.getD j 0 : Nat) : Int)) + ((ws.getD j 0 : Nat) : Int))) = wu32 (X + ((one1 (shaK.getD j 0) (ws.getD j 0) e f g h : Nat) : Int)) := fun X => by
      have e1 : one1 (shaK.getD j 0) (ws.getD j 0) e f g h = (h + xor3 (rotr 6 e) (rotr 11 e) (rotr 25 e)) + Nat.xor g (Nat.land e (Nat.xor f g)) + (shaK.getD j 0 + ws.getD j 0) := rfl
      rw [e1]
      generalize xor3 (rotr 6 e) (rotr 11 e) (rotr 25 e) = p1
      generalize Nat.xor g (Nat.land e (Nat.xor f g)) = p2
      generalize shaK.getD j 0 = p3
      generalize ws.getD j 0 = p4
      simp only [wu32_eq]
      omega
    have t2 : wu32 (((one1 (shaK.getD j 0) (ws.getD j 0) e f g h : Nat) : Int) + wu32 (((xor3 (rotr 2 a) (rotr 13 a) (rotr 22 a) : Nat) : Int) + ((Nat.lor (Nat.land a b) (Nat.land c (Nat.lor a b)) : Nat) : Int))) = ((m32 (one1 (shaK.getD j 0) (ws.getD j 0) e f g h + two1 a b c) : Nat) : Int) := by
      have e1 : two1 a b c = xor3 (rotr 2 a) (rotr 13 a) (rotr 22 a) + Nat.lor (Nat.land a b) (Nat.land c (Nat.lor a b)) := rfl
      rw [e1]
      generalize xor3 (rotr 2 a) (rotr 13 a) (rotr 22 a) = p1
      generalize Nat.lor (Nat.land a b) (Nat.land c (Nat.lor a b)) = p2
      generalize one1 (shaK.getD j 0) (ws.getD j 0) e f g h = p3
      simp only [wu32_eq, m32_eq]
      omega
    have t3 : wu32 ((d : Int) + ((one1 (shaK.getD j 0) (ws.getD j 0) e f g h : Nat) : Int)) = ((m32 (d + one1 (shaK.getD j 0) (ws.getD j 0) e f g h) : Nat) : Int) := by
      generalize one1 (shaK.getD j 0) (ws.getD j 0) e f g h = p3
      simp only [wu32_eq, m32_eq]
      omega
    obtain ⟨q, h8, hr⟩ := ih (j + 1) (m32 (one1 (shaK.getD j 0) (ws.getD j 0) e f g h + two1 a b c)) a b c (m32 (d + one1 (shaK.getD j 0) (ws.getD j 0) e f g h)) e f g (by omega) (by omega) (m32_lt _) ha hb hc (m32_lt _) he hf hg
    refine ⟨q, ?_, Ev.succ (hr.congr fun k => ?_)⟩
    · rw [drop_g1 shaK j (by show j < 64; omega)]
      have e1 : rounds (shaK.getD j 0 :: shaK.drop (j + 1)) (ws.drop j) a b c d e f g h = rounds (shaK.drop (j + 1)) (drp 1 (ws.drop j)) (m32 (one1 (shaK.getD j 0) (nd (ws.drop j) 0) e f g h + two1 a b c)) a b c (m32 (d + one1 (shaK.getD j 0) (nd (ws.drop j) 0) e f g h)) e f g := rfl
      rw [e1, nd_eq, drop_g, Nat.add_zero, drp_eq, List.drop_drop]
      exact h8
    · have t1' := t1
      have t0 := fun X : Int => show wu32 (wu32 (wu32 (wu32 (wu32 ((h : Int) + ((xor3 (rotr 6 e) (rotr 11 e) (rotr 25 e) : Nat) : Int)) + ((Nat.xor g (Nat.land e (Nat.xor f g)) : Nat) : Int)) + ((shaK.getD j 0 : Nat) : Int)) + ((ws.getD j 0 : Nat) : Int)) + X) = wu32 (((one1 (shaK.getD j 0) (ws.getD j 0) e f g h : Nat) : Int) + X) by
        have := t1 X
        rw [Int.add_comm X, Int.add_comm X] at this
        exact this
      have x2' : bitsOp .xor .u32 (((rotr 6 e).xor (rotr 11 e) : Nat) : Int) ((rotr 25 e : Nat) : Int) = ((xor3 (rotr 6 e) (rotr 11 e) (rotr 25 e) : Nat) : Int) := x2.1
      have y2' : bitsOp .xor .u32 (((rotr 2 a).xor (rotr 13 a) : Nat) : Int) ((rotr 22 a : Nat) : Int) = ((xor3 (rotr 2 a) (rotr 13 a) (rotr 22 a) : Nat) : Int) := y2.1
      simp only [sha_Block.l2, if_pos h1, if_pos h2, r6, r11, r25, r2, r13, r22, Option.bind_some, Int.toNat_natCast, e0, x1.1, x2', y1.1, y2', c1.1, c2.1, c3.1, m1.1, m2.1, m3.1, m4.1, hk, hw, t1, t0, t2, t3]
theorem list8 {s : List Nat} (h : s.length = 8) : ∃ a b c d e f g i, s = [a, b, c, d, e, f, g, i] := by
  match s, h with
  | [a, b, c, d, e, f, g, i], _ => exact ⟨a, b, c, d, e, f, g, i, rfl⟩
theorem blkN_spec (s b : List Nat) (hs : s.length = 8) (hS : AW s) (hb : b.length = 64) (hB : AB b) : (blkN s (wordsN 16 b)).length = 8 ∧ AW (blkN s (wordsN 16 b)) ∧ Ev (fun k => sha_Block.f k (I s) (I b)) (I (blkN s (wordsN 16 b)), 0) := by
  have h16 := wordsN_len 16 b
  have h1 := block_l1 b hb hB 64 0 (List.replicate 64 (0 : Int)) rfl (by omega) (List.length_replicate ..) (fun i hi => by omega)
  obtain ⟨x0, x1, x2, x3, x4, x5, x6, x7, rfl⟩ := list8 hs
  obtain ⟨q, h8, h2⟩ := block_l2 (sched (wordsN 16 b)) (sched_len h16) (sched_W h16 (words_W hB)) 64 0 x0 x1 x2 x3 x4 x5 x6 x7 rfl (by omega) (hS 0) (hS 1) (hS 2) (hS 3) (hS 4) (hS 5) (hS 6) (hS 7)
  have hblk : blkN [x0, x1, x2, x3, x4, x5, x6, x7] (wordsN 16 b) = add2L [x0, x1, x2, x3, x4, x5, x6, x7] (rounds (shaK.drop 0) ((sched (wordsN 16 b)).drop 0) x0 x1 x2 x3 x4 x5 x6 x7) := rfl
  rw [hblk]
  generalize hR : rounds (shaK.drop 0) ((sched (wordsN 16 b)).drop 0) x0 x1 x2 x3 x4 x5 x6 x7 = R at h8
  cases h8 with
  | mk a b' c d e f g h ha hb' hc hd he hf hg hh =>
    have e8 : add2L [x0, x1, x2, x3, x4, x5, x6, x7] [a, b', c, d, e, f, g, h] = [m32 (x0 + a), m32 (x1 + b'), m32 (x2 + c), m32 (x3 + d), m32 (x4 + e), m32 (x5 + f), m32 (x6 + g), m32 (x7 + h)] := rfl
    rw [e8]
    refine ⟨rfl, fun i => ?_, ?_⟩
    · match i with
      | 0 => exact m32_lt _
      | 1 => exact m32_lt _
      | 2 => exact m32_lt _
      | 3 => exact m32_lt _
      | 4 => exact m32_lt _
      | 5 => exact m32_lt _
      | 6 => exact m32_lt _
      | 7 => exact m32_lt _
      | n + 8 => show (0 : Nat) < _; decide
    · refine Ev.iteT (by rw [I_len, hb]; rfl) ?_
      refine Ev.bind h1 ?_
      refine Ev.bind h2 ?_
      refine (Ev.pure _).congr fun k => ?_
      have w : ∀ x y : Nat, wu32 ((x : Int) + (y : Int)) = ((m32 (x + y) : Nat) : Int) := fun x y => by rw [← wu32_n]; rfl
      show some ([wu32 ((x0 : Int) + (a : Int)), wu32 ((x1 : Int) + (b' : Int)), wu32 ((x2 : Int) + (c : Int)), wu32 ((x3 : Int) + (d : Int)), wu32 ((x4 : Int) + (e : Int)), wu32 ((x5 : Int) + (f : Int)), wu32 ((x6 : Int) + (g : Int)), wu32 ((x7 : Int) + (h : Int))], (0 : Int)) = _
      simp only [w]
      rfl
end Go.CE
