/- Plain laws of sums: the document's words are the program's. -/
import Derived.Test.YthdlfclkcdnenaaDoorRUb
import Derived.Test.YthdlfclkcdnenaaDoorRGl
set_option linter.unusedSimpArgs false
set_option linter.unusedVariables false
namespace Go.Proofs.YthdlfclkcdnenaaDoor.Pure
open Go.WG Go.Proofs.YthdlfclkcdnenaaDoor
/-- Words. -/
def W32 (x : Int) : Prop := 0 ≤ x ∧ x < 4294967296
def toI (v : BitVec 32) : Int := (v.toNat : Int)
theorem ofI {x : Int} (h : W32 x) : ∃ v : BitVec 32, x = toI v := by
  refine ⟨BitVec.ofNat 32 x.toNat, ?_⟩
  unfold toI
  rw [BitVec.toNat_ofNat]
  unfold W32 at h
  omega
theorem ofInt_toI (v : BitVec 32) : BitVec.ofInt 32 (toI v) = v := by
  unfold toI
  rw [BitVec.ofInt_natCast, BitVec.ofNat_toNat, BitVec.setWidth_eq]
theorem wrap_toI (v : BitVec 32) : IntKind.u32.wrap ((v.toNat : Nat) : Int) = toI v := by
  have := v.isLt
  show wu32 _ = _
  rw [wu32_eq]
  unfold toI; omega
theorem and32 (a b : BitVec 32) : bitsOp .and .u32 (toI a) (toI b) = toI (a &&& b) := by
  show IntKind.u32.wrap (((BitVec.ofInt 32 (toI a) &&& BitVec.ofInt 32 (toI b)).toNat : Nat) : Int) = _
  rw [ofInt_toI, ofInt_toI]; exact wrap_toI _
theorem or32 (a b : BitVec 32) : bitsOp .or .u32 (toI a) (toI b) = toI (a ||| b) := by
  show IntKind.u32.wrap (((BitVec.ofInt 32 (toI a) ||| BitVec.ofInt 32 (toI b)).toNat : Nat) : Int) = _
  rw [ofInt_toI, ofInt_toI]; exact wrap_toI _
theorem xor32 (a b : BitVec 32) : bitsOp .xor .u32 (toI a) (toI b) = toI (a ^^^ b) := by
  show IntKind.u32.wrap (((BitVec.ofInt 32 (toI a) ^^^ BitVec.ofInt 32 (toI b)).toNat : Nat) : Int) = _
  rw [ofInt_toI, ofInt_toI]; exact wrap_toI _
theorem not32 (a : BitVec 32) : notOp .u32 (toI a) = toI (~~~a) := by
  have h : notOp .u32 (toI a) = bitsOp .xor .u32 (toI (BitVec.allOnes 32)) (toI a) := rfl
  rw [h, xor32, BitVec.allOnes_xor]
theorem choose_same {e f g : Int} (he : W32 e) (hf : W32 f) (hg : W32 g) : bitsOp .xor .u32 g (bitsOp .and .u32 e (bitsOp .xor .u32 f g)) = bitsOp .xor .u32 (bitsOp .and .u32 e f) (bitsOp .and .u32 (notOp .u32 e) g) := by
  obtain ⟨e, rfl⟩ := ofI he
  obtain ⟨f, rfl⟩ := ofI hf
  obtain ⟨g, rfl⟩ := ofI hg
  rw [xor32, and32, xor32, not32, and32, and32, xor32]
  congr 1
  apply BitVec.eq_of_getLsbD_eq
  intro i hi
  simp only [BitVec.getLsbD_xor, BitVec.getLsbD_and, BitVec.getLsbD_not, hi, decide_true, Bool.true_and]
  cases e.getLsbD i <;> cases f.getLsbD i <;> cases g.getLsbD i <;> rfl
theorem major_same {a b c : Int} (ha : W32 a) (hb : W32 b) (hc : W32 c) : bitsOp .or .u32 (bitsOp .and .u32 a b) (bitsOp .and .u32 c (bitsOp .or .u32 a b)) = bitsOp .xor .u32 (bitsOp .xor .u32 (bitsOp .and .u32 a b) (bitsOp .and .u32 a c)) (bitsOp .and .u32 b c) := by
  obtain ⟨a, rfl⟩ := ofI ha
  obtain ⟨b, rfl⟩ := ofI hb
  obtain ⟨c, rfl⟩ := ofI hc
  rw [and32, or32, and32, or32, and32, and32, xor32, xor32]
  congr 1
  apply BitVec.eq_of_getLsbD_eq
  intro i hi
  simp only [BitVec.getLsbD_xor, BitVec.getLsbD_and, BitVec.getLsbD_or]
  cases a.getLsbD i <;> cases b.getLsbD i <;> cases c.getLsbD i <;> rfl
theorem wu32_w (x : Int) : W32 (wu32 x) := by
  rw [wu32_eq]; unfold W32; omega
/-- Turned n times by one, in numbers. -/
def rotN (x n : Nat) : Nat := x / 2 ^ n + (x % 2 ^ n) * 2 ^ (32 - n)
theorem rotN_step (x n : Nat) (hn : n < 32) : (rotN x n) / 2 + (rotN x n % 2) * 2147483648 = rotN x (n + 1) := by
  unfold rotN
  have e1 : 32 - n = (31 - n) + 1 := by omega
  have e2 : 32 - (n + 1) = 31 - n := by omega
  have e3 : 2 ^ (32 - n) = 2 * 2 ^ (31 - n) := by rw [e1, Nat.pow_succ]; omega
  have e4 : x / 2 ^ (n + 1) = x / 2 ^ n / 2 := by rw [Nat.pow_succ, Nat.div_div_eq_div_mul]
  have e5 : x % 2 ^ (n + 1) = x % 2 ^ n + 2 ^ n * (x / 2 ^ n % 2) := by rw [Nat.pow_succ, Nat.mod_mul]
  have e6 : 2 ^ n * 2 ^ (31 - n) = 2147483648 := by rw [← Nat.pow_add, show n + (31 - n) = 31 by omega]
  rw [e2, e3, e4, e5]
  generalize x / 2 ^ n = q
  generalize x % 2 ^ n = m
  generalize 2 ^ (31 - n) = p at *
  generalize 2 ^ n = r at *
  have h1 : m * (2 * p) = 2 * (m * p) := by rw [Nat.mul_left_comm]
  have h2 : (m + r * (q % 2)) * p = m * p + (q % 2) * (r * p) := by rw [Nat.add_mul, Nat.mul_assoc, Nat.mul_left_comm r, ]
  rw [h1, h2, e6]
  generalize m * p = t
  omega
theorem rotN_lt (x n : Nat) (hx : x < 4294967296) (hn : n ≤ 32) : rotN x n < 4294967296 := by
  induction n with
  | zero => unfold rotN; simp [Nat.mod_one]; exact hx
  | succ n ih =>
    rw [← rotN_step x n (by omega)]
    have := ih (by omega)
    omega
theorem refRot_l1 (n : Nat) (hn : n ≤ 32) (x : Nat) (hx : x < 4294967296) : ∀ (m j : Nat), n - j = m → j ≤ n → Ev (fun k => juratref01_Rot.l1 k (n : Int) ((rotN x j : Nat) : Int) (j : Int)) ((rotN x n : Nat) : Int) := by
  intro m
  induction m with
  | zero =>
    intro j hm hj
    have : j = n := by omega
    subst this
    refine Ev.succ ((Ev.pure _).congr fun k => ?_)
    have : ¬ (j : Int) < (j : Int) := by omega
    simp only [juratref01_Rot.l1, if_neg this]
  | succ m ih =>
    intro j hm hj
    have h1 : (j : Int) < (n : Int) := by omega
    have hl := rotN_lt x j hx (by omega)
    have hs := rotN_step x j (by omega)
    have e1 : ((rotN x j : Nat) : Int).tdiv 2 = ((rotN x j / 2 : Nat) : Int) := by rw [Int.tdiv_eq_ediv_of_nonneg (by omega)]; omega
    have e2 : ((rotN x j : Nat) : Int).tmod 2 = ((rotN x j % 2 : Nat) : Int) := by rw [Int.tmod_eq_emod_of_nonneg (by omega)]; omega
    have e3 : wu32 (wu32 ((rotN x j / 2 : Nat) : Int) + wu32 (((rotN x j % 2 : Nat) : Int) * 2147483648)) = ((rotN x (j + 1) : Nat) : Int) := by
      rw [wu32_eq, wu32_eq, wu32_eq, ← hs]; omega
    refine Ev.succ ((ih (j + 1) (by omega) (by omega)).congr fun k => ?_)
    simp only [juratref01_Rot.l1, if_pos h1, e1, e2, e3, wi64_succ (show j < 9223372036854775807 by omega)]
theorem refRot_f (n : Nat) (hn : n < 32) (x : Nat) (hx : x < 4294967296) : Ev (fun k => juratref01_Rot.f k (x : Int) (n : Int)) ((rotN x n : Nat) : Int) := by
  have h := refRot_l1 n (by omega) x hx n 0 rfl (Nat.zero_le _)
  have e0 : rotN x 0 = x := by unfold rotN; simp [Nat.mod_one]
  rw [e0] at h
  have e1 : (n : Int).tmod 32 = (n : Int) := by rw [Int.tmod_eq_emod_of_nonneg (by omega)]; omega
  have g1 : ¬ (n : Int) < 0 := by omega
  refine Ev.congr (Ev.bind (g := fun _ x => some x) h (Ev.pure _)) fun k => ?_
  simp only [juratref01_Rot.f, e1, if_neg g1, Option.bind_some]
  rfl
theorem or32N {a b : Nat} (ha : a < 4294967296) (hb : b < 4294967296) : bitsOp .or .u32 (a : Int) (b : Int) = ((a ||| b : Nat) : Int) := by
  have e1 : (a : Int) = toI (BitVec.ofNat 32 a) := by unfold toI; rw [BitVec.toNat_ofNat]; omega
  have e2 : (b : Int) = toI (BitVec.ofNat 32 b) := by unfold toI; rw [BitVec.toNat_ofNat]; omega
  rw [e1, e2, or32]
  unfold toI
  rw [BitVec.toNat_or, BitVec.toNat_ofNat, BitVec.toNat_ofNat, Nat.mod_eq_of_lt (by omega), Nat.mod_eq_of_lt (by omega)]
theorem shr32N (x n : Nat) (hn : n ≤ 32) : shrOp .u32 (x : Int) (n : Int) = ((x / 2 ^ n : Nat) : Int) := by
  unfold shrOp
  rw [show min ((n : Int).toNat) (IntKind.bits .u32) = n from by rw [Int.toNat_natCast]; exact Nat.min_eq_left hn]
  have hp : 0 < 2 ^ n := Nat.two_pow_pos n
  have e : (2 : Int) ^ n = ((2 ^ n : Nat) : Int) := by rw [Int.natCast_pow]; rfl
  rw [e, Int.fdiv_eq_ediv_of_nonneg _ (by omega), Int.natCast_ediv]
theorem shl32N (x n : Nat) (hn : n ≤ 32) : shlOp .u32 (x : Int) ((32 - n : Nat) : Int) = (((x % 2 ^ n) * 2 ^ (32 - n) : Nat) : Int) := by
  unfold shlOp
  rw [show min (((32 - n : Nat) : Int).toNat) (IntKind.bits .u32) = 32 - n from by rw [Int.toNat_natCast]; exact Nat.min_eq_left (by show 32 - n ≤ 32; omega)]
  have e : (2 : Int) ^ (32 - n) = ((2 ^ (32 - n) : Nat) : Int) := by rw [Int.natCast_pow]; rfl
  show wu32 _ = _
  rw [e, ← Int.natCast_mul, wu32_eq]
  have h1 : 2 ^ n * 2 ^ (32 - n) = 4294967296 := by rw [← Nat.pow_add, show n + (32 - n) = 32 by omega]
  have h2 : (x * 2 ^ (32 - n)) % 4294967296 = (x % 2 ^ n) * 2 ^ (32 - n) := by rw [← h1, Nat.mul_mod_mul_right]
  rw [← h2]
  omega
theorem rot_eq (x n : Nat) (hx : x < 4294967296) (hn : 0 < n ∧ n < 32) (h1 : bitsOp .and .u64 (wu64 (n : Int)) 31 = (n : Int)) (h2 : wu64 (32 - (n : Int)) = ((32 - n : Nat) : Int)) : rot (x : Int) (n : Int) = ((rotN x n : Nat) : Int) := by
  unfold rot
  rw [h1, h2, shr32N x n (by omega), shl32N x n (by omega)]
  have hp : 2 ^ n * 2 ^ (32 - n) = 4294967296 := by rw [← Nat.pow_add, show n + (32 - n) = 32 by omega]
  have ha : x / 2 ^ n < 2 ^ (32 - n) := by rw [Nat.div_lt_iff_lt_mul (Nat.two_pow_pos n), Nat.mul_comm, hp]; exact hx
  have hle : 2 ^ (32 - n) ≤ 4294967296 := by rw [← hp]; exact Nat.le_mul_of_pos_left _ (Nat.two_pow_pos n)
  have hb : (x % 2 ^ n) * 2 ^ (32 - n) < 4294967296 := by
    rw [← hp]; exact Nat.mul_lt_mul_of_pos_right (Nat.mod_lt _ (Nat.two_pow_pos n)) (Nat.two_pow_pos _)
  rw [or32N (by omega) hb, Nat.or_comm, Nat.mul_comm (x % 2 ^ n), ← Nat.two_pow_add_eq_or_of_lt ha]
  unfold rotN
  rw [Nat.mul_comm (2 ^ (32 - n))]
  congr 1
  omega
/-- A word turned, either way. -/
theorem rot_both {x : Int} (hx : W32 x) (n : Nat) (hn : 0 < n ∧ n < 32) (h1 : bitsOp .and .u64 (wu64 (n : Int)) 31 = (n : Int)) (h2 : wu64 (32 - (n : Int)) = ((32 - n : Nat) : Int)) : Ev (fun k => juratref01_Rot.f k x (n : Int)) (rot x (n : Int)) := by
  obtain ⟨y, rfl⟩ : ∃ y : Nat, x = (y : Int) := ⟨x.toNat, by unfold W32 at hx; omega⟩
  unfold W32 at hx
  rw [rot_eq y n (by omega) hn h1 h2]
  exact refRot_f n hn.2 y (by omega)
end Go.Proofs.YthdlfclkcdnenaaDoor.Pure
