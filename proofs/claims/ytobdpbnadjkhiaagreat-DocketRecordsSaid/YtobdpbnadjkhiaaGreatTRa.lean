/- Plain laws of bytes: numbers as bytes, and back. -/
import Derived.Test.YtobdpbnadjkhiaaGreatTLk
namespace Go.Proofs.YtobdpbnadjkhiaaGreat.Rc
open Go.WG
set_option linter.unusedSimpArgs false
set_option linter.unusedVariables false
def B8 (x : Int) : Prop := 0 ≤ x ∧ x < 256
def AllB (l : List Int) : Prop := ∀ y ∈ l, B8 y
theorem AllB.getD {l : List Int} (h : AllB l) (i : Nat) : B8 (l.getD i 0) := by
  by_cases hi : i < l.length
  · rw [List.getD_eq_getElem?_getD, List.getElem?_eq_getElem hi, Option.getD_some]; exact h _ (List.getElem_mem hi)
  · rw [List.getD_eq_getElem?_getD, List.getElem?_eq_none (by omega), Option.getD_none]; unfold B8; omega
theorem AllB.take {l : List Int} (h : AllB l) (n : Nat) : AllB (l.take n) := fun y hy => h y (List.mem_of_mem_take hy)
theorem AllB.drop {l : List Int} (h : AllB l) (n : Nat) : AllB (l.drop n) := fun y hy => h y (List.mem_of_mem_drop hy)
theorem AllB.tail {x : Int} {l : List Int} (h : AllB (x :: l)) : AllB l := fun y hy => h y (List.mem_cons_of_mem _ hy)
theorem wu64_eq (x : Int) : wu64 x = x % 18446744073709551616 := by
  unfold wu64 IntKind.wrap
  simp [IntKind.bits, IntKind.signed]
theorem wu8_eq (x : Int) : wu8 x = x % 256 := by
  unfold wu8 IntKind.wrap
  simp [IntKind.bits, IntKind.signed]
theorem or64N {a b : Nat} (ha : a < 18446744073709551616) (hb : b < 18446744073709551616) : bitsOp .or .u64 (a : Int) (b : Int) = ((a ||| b : Nat) : Int) := by
  show IntKind.u64.wrap (((BitVec.ofInt 64 (a : Int) ||| BitVec.ofInt 64 (b : Int)).toNat : Nat) : Int) = _
  rw [BitVec.ofInt_natCast, BitVec.ofInt_natCast, BitVec.toNat_or, BitVec.toNat_ofNat, BitVec.toNat_ofNat, Nat.mod_eq_of_lt ha, Nat.mod_eq_of_lt hb]
  have : a ||| b < 18446744073709551616 := Nat.or_lt_two_pow (n := 64) ha hb
  show wu64 _ = _
  rw [wu64_eq]; omega
theorem num_step (x y : Nat) (hx : x < 72057594037927936) (hy : y < 256) : bitsOp .or .u64 (shlOp .u64 (x : Int) 8) (wu64 (y : Int)) = ((256 * x + y : Nat) : Int) := by
  have h1 : shlOp .u64 (x : Int) 8 = wu64 ((x : Int) * 256) := rfl
  have h2 : wu64 ((x : Int) * 256) = ((256 * x : Nat) : Int) := by rw [wu64_eq]; omega
  have h3 : wu64 (y : Int) = (y : Int) := by rw [wu64_eq]; omega
  rw [h1, h2, h3, or64N (by omega) (by omega)]
  have := Nat.two_pow_add_eq_or_of_lt (i := 8) (b := y) hy x
  rw [show (2 : Nat) ^ 8 = 256 from rfl] at this
  rw [this]
theorem shr64N (x n : Nat) (hn : n ≤ 64) : shrOp .u64 (x : Int) (n : Int) = ((x / 2 ^ n : Nat) : Int) := by
  unfold shrOp
  rw [show min ((n : Int).toNat) (IntKind.bits .u64) = n from by rw [Int.toNat_natCast]; exact Nat.min_eq_left hn]
  have hp : 0 < 2 ^ n := Nat.two_pow_pos n
  have e : (2 : Int) ^ n = ((2 ^ n : Nat) : Int) := by rw [Int.natCast_pow]; rfl
  rw [e, Int.fdiv_eq_ediv_of_nonneg _ (by omega), Int.natCast_ediv]
/-- The lowest j bytes of a number, the greatest first. -/
def be (x : Nat) : Nat → List Int
  | 0 => []
  | j + 1 => ((x / 256 ^ j % 256 : Nat) : Int) :: be x j
theorem be_len (x : Nat) : ∀ j, (be x j).length = j
  | 0 => rfl
  | j + 1 => by rw [be, List.length_cons, be_len x j]
theorem be_B (x : Nat) : ∀ j, AllB (be x j)
  | 0 => fun y hy => by cases hy
  | j + 1 => fun y hy => by
    rcases List.mem_cons.1 hy with rfl | hy
    · unfold B8; omega
    · exact be_B x j y hy
/-- The number of bytes. -/
def numV (l : List Int) : Nat := l.foldl (fun x y => 256 * x + y.toNat) 0
theorem fold_be (x : Nat) : ∀ (j a : Nat), (be x j).foldl (fun x y => 256 * x + y.toNat) a = 256 ^ j * a + x % 256 ^ j
  | 0, a => by simp [be, Nat.mod_one]
  | j + 1, a => by
    rw [be, List.foldl_cons, fold_be x j, Int.toNat_natCast]
    have h1 : x % 256 ^ (j + 1) = 256 ^ j * (x / 256 ^ j % 256) + x % 256 ^ j := by
      rw [Nat.pow_succ, Nat.mod_mul, Nat.add_comm]
    rw [h1, Nat.pow_succ, Nat.mul_add, ← Nat.mul_assoc]
    omega
theorem numV_be (x j : Nat) (h : x < 256 ^ j) : numV (be x j) = x := by
  unfold numV
  rw [fold_be, Nat.mul_zero, Nat.zero_add, Nat.mod_eq_of_lt h]
theorem numV_snoc (l : List Int) (y : Int) : numV (l ++ [y]) = 256 * numV l + y.toNat := by
  unfold numV
  rw [List.foldl_append]; rfl
theorem foldl_lin : ∀ (l : List Int) (a : Nat), l.foldl (fun x y => 256 * x + y.toNat) a = 256 ^ l.length * a + numV l
  | [], a => by simp [numV]
  | y :: r, a => by
    unfold numV
    rw [List.foldl_cons, List.foldl_cons, foldl_lin r, foldl_lin r (256 * 0 + y.toNat), List.length_cons, Nat.pow_succ]
    rw [Nat.mul_add, Nat.mul_add, ← Nat.mul_assoc]
    simp [Nat.add_assoc]
theorem numV_cons (y : Int) (l : List Int) : numV (y :: l) = 256 ^ l.length * y.toNat + numV l := by
  show (List.foldl _ _ _) = _
  rw [List.foldl_cons, foldl_lin]
  simp
theorem numV_lt : ∀ {l : List Int}, AllB l → numV l < 256 ^ l.length
  | [], _ => by simp [numV]
  | y :: r, h => by
    have h1 := numV_lt h.tail
    have h2 := h y (by simp)
    unfold B8 at h2
    rw [numV_cons, List.length_cons, Nat.pow_succ]
    have h3 : y.toNat ≤ 255 := by omega
    have := Nat.mul_le_mul_left (256 ^ r.length) h3
    omega
theorem be_numV : ∀ {l : List Int}, AllB l → ∀ (x : Nat), x % 256 ^ l.length = numV l → be x l.length = l
  | [], _, _, _ => rfl
  | y :: r, h, x, hx => by
    have h1 := numV_lt h.tail
    have h2 := h y (by simp)
    unfold B8 at h2
    rw [List.length_cons, be]
    rw [numV_cons, List.length_cons, Nat.pow_succ, Nat.mod_mul] at hx
    have hp : 0 < 256 ^ r.length := Nat.pow_pos (by decide)
    have key : x / 256 ^ r.length % 256 = y.toNat ∧ x % 256 ^ r.length = numV r := by
      generalize 256 ^ r.length = P at h1 hx hp ⊢
      generalize hq : x / P % 256 = q at hx ⊢
      have hm : x % P < P := Nat.mod_lt _ hp
      have e1 : q = y.toNat := by
        rcases Nat.lt_trichotomy q y.toNat with g | g | g
        · have := Nat.mul_le_mul_left P (show q + 1 ≤ y.toNat by omega)
          rw [Nat.mul_add] at this; omega
        · exact g
        · have := Nat.mul_le_mul_left P (show y.toNat + 1 ≤ q by omega)
          rw [Nat.mul_add] at this; omega
      subst e1
      exact ⟨rfl, by omega⟩
    rw [be_numV h.tail x key.2, key.1]
    congr 1
    omega
/-- How many bytes a number wants. -/
def widF : Nat → Nat → Nat
  | 0, _ => 0
  | f + 1, n => if n = 0 then 0 else widF f (n / 256) + 1
def wid (n : Nat) : Nat := widF 8 n
theorem widF_spec : ∀ (f n : Nat), n < 256 ^ f → n < 256 ^ (widF f n) ∧ (∀ v, v < widF f n → 256 ^ v ≤ n) ∧ widF f n ≤ f
  | 0, n, h => ⟨h, fun v hv => (by cases hv), Nat.le_refl _⟩
  | f + 1, n, h => by
    unfold widF
    split
    · rename_i h0
      subst h0
      exact ⟨(by decide), fun v hv => (by cases hv), Nat.zero_le _⟩
    · rename_i h0
      have hm : n / 256 < 256 ^ f := by rw [Nat.pow_succ] at h; omega
      obtain ⟨h1, h2, h3⟩ := widF_spec f (n / 256) hm
      refine ⟨by rw [Nat.pow_succ]; omega, fun v hv => ?_, by omega⟩
      cases v with
      | zero => rw [Nat.pow_zero]; omega
      | succ u =>
        have := h2 u (by omega)
        rw [Nat.pow_succ]; omega
theorem wid_spec {n : Nat} (h : n < 18446744073709551616) : n < 256 ^ wid n ∧ (∀ v, v < wid n → 256 ^ v ≤ n) ∧ wid n ≤ 8 := widF_spec 8 n h
theorem wid_unique {n w : Nat} (hn : n < 18446744073709551616) (h1 : n < 256 ^ w) (h2 : ∀ v, v < w → 256 ^ v ≤ n) : wid n = w := by
  obtain ⟨g1, g2, _⟩ := wid_spec hn
  rcases Nat.lt_trichotomy (wid n) w with g | g | g
  · have := h2 _ g; omega
  · exact g
  · have := g2 _ g; omega
/-- A number's bytes. -/
def numL (n : Nat) : List Int := (wid n : Int) :: be n (wid n)
theorem numL_len {n : Nat} (h : n < 18446744073709551616) : (numL n).length ≤ 9 := by
  have := (wid_spec h).2.2
  rw [numL, List.length_cons, be_len]; omega
theorem numL_B {n : Nat} (h : n < 18446744073709551616) : AllB (numL n) := fun y hy => by
  have := (wid_spec h).2.2
  rcases List.mem_cons.1 hy with rfl | hy
  · unfold B8; omega
  · exact be_B _ _ y hy
/-- A number that is read: an error, or the number and what is left. -/
def getN (most : Int) : List Int → Int ⊕ (Nat × List Int)
  | [] => .inl 40
  | h :: t => if h > 8 then .inl 41 else if h > (t.length : Int) then .inl 40 else if 0 < h ∧ t.getD 0 0 = 0 then .inl 41 else if (numV (t.take h.toNat) : Int) > most then .inl 42 else .inr (numV (t.take h.toNat), t.drop h.toNat)
theorem getN_num {n : Nat} {most : Int} (hn : n < 18446744073709551616) (hm : (n : Int) ≤ most) (rest : List Int) : getN most (numL n ++ rest) = .inr (n, rest) := by
  obtain ⟨h1, h2, h3⟩ := wid_spec hn
  have hl := be_len n (wid n)
  have e1 : (be n (wid n) ++ rest).take ((wid n : Int)).toNat = be n (wid n) := by rw [Int.toNat_natCast]; exact List.take_left' hl
  have e2 : (be n (wid n) ++ rest).drop ((wid n : Int)).toNat = rest := by rw [Int.toNat_natCast]; exact List.drop_left' hl
  rw [numL, List.cons_append, getN, if_neg (by omega), if_neg (by rw [List.length_append, hl]; omega), e1, e2, numV_be _ _ h1, if_neg (by
    rintro ⟨g1, g2⟩
    obtain ⟨w, hw⟩ : ∃ w, wid n = w + 1 := ⟨wid n - 1, by omega⟩
    rw [hw, be, List.cons_append] at g2
    have g3 : ((n / 256 ^ w % 256 : Nat) : Int) = 0 := g2
    have h4 := h2 w (by omega)
    rw [hw, Nat.pow_succ] at h1
    have hp : 0 < 256 ^ w := Nat.pow_pos (by decide)
    have h5 : n / 256 ^ w < 256 := by rw [Nat.div_lt_iff_lt_mul hp]; omega
    have h6 : 1 ≤ n / 256 ^ w := by rw [Nat.le_div_iff_mul_le hp]; omega
    omega), if_neg (by omega)]
theorem getN_inr {most : Int} {b : List Int} (hb : AllB b) {x : Nat} {rest : List Int} (h : getN most b = .inr (x, rest)) : x < 18446744073709551616 ∧ (x : Int) ≤ most ∧ b = numL x ++ rest := by
  cases b with
  | nil => cases h
  | cons d t =>
    rw [getN] at h
    split at h
    · cases h
    · split at h
      · cases h
      · split at h
        · cases h
        · split at h
          · cases h
          · rename_i g1 g2 g3 g4
            injection h with h
            injection h with hx hr
            have hd := hb d (by simp)
            unfold B8 at hd
            have ht := hb.tail
            have hl : (t.take d.toNat).length = d.toNat := by rw [List.length_take]; omega
            have hlt := numV_lt (ht.take d.toNat)
            rw [hx, hl] at hlt
            have h8 : x < 18446744073709551616 := Nat.lt_of_lt_of_le hlt (by
              have := Nat.pow_le_pow_right (n := 256) (by decide) (show d.toNat ≤ 8 by omega)
              exact this)
            have hw : wid x = d.toNat := by
              refine wid_unique h8 hlt fun v hv => ?_
              have hne : ¬ t.getD 0 0 = 0 := fun e => g3 ⟨by omega, e⟩
              cases t with
              | nil => simp at hl; omega
              | cons y s =>
                obtain ⟨m, hm⟩ : ∃ m, d.toNat = m + 1 := ⟨d.toNat - 1, by omega⟩
                rw [hm, List.take_succ_cons, numV_cons] at hx
                rw [hm, List.take_succ_cons, List.length_cons] at hl
                have hy := hb y (by simp)
                unfold B8 at hy
                have hy1 : 1 ≤ y.toNat := by
                  have : ¬ y = 0 := hne
                  omega
                have hsl : (s.take m).length = m := by omega
                rw [hsl] at hx
                have h1 := Nat.mul_le_mul_left (256 ^ m) hy1
                have h2 := Nat.pow_le_pow_right (n := 256) (by decide) (show v ≤ m by omega)
                omega
            refine ⟨h8, by omega, ?_⟩
            have e3 : be x d.toNat = t.take d.toNat := by
              have := be_numV (ht.take d.toNat) x (by rw [hl, hx, Nat.mod_eq_of_lt hlt])
              rwa [hl] at this
            rw [numL, hw, e3, List.cons_append, ← hr, List.take_append_drop]
            congr 1
            omega
end Go.Proofs.YtobdpbnadjkhiaaGreat.Rc
