/- Plain laws of bytes: what the program and the document make of numbers. -/
import Derived.Test.YtobdpbnadjkhiaaGreatTRa
import Derived.Test.YtobdpbnadjkhiaaGreatTGm
import Derived.Test.YtobdpbnadjkhiaaGreatTGn
namespace Go.Proofs.YtobdpbnadjkhiaaGreat.Rc
open Go.WG Go.Proofs.YtobdpbnadjkhiaaGreat
set_option linter.unusedSimpArgs false
set_option linter.unusedVariables false
theorem pow256 (n j : Nat) : n / 2 ^ (8 * j) = n / 256 ^ j := by rw [Nat.pow_mul]
theorem wnum_l1 {n : Nat} (h : n < 18446744073709551616) : ∀ d, wid n + d ≤ 8 → Ev (fun k => wire_Num.l1 k (n : Int) ((wid n + d : Nat) : Int)) (wid n : Int) := by
  obtain ⟨h1, h2, h3⟩ := wid_spec h
  intro d
  induction d with
  | zero =>
    intro _
    refine Ev.succ ?_
    simp only [wire_Num.l1, Nat.add_zero]
    by_cases g : wid n = 0
    · rw [g]; exact Ev.iteF (by decide) (Ev.pure _)
    · obtain ⟨w, hw⟩ : ∃ w, wid n = w + 1 := ⟨wid n - 1, by omega⟩
      have e1 : wi64 (((wid n : Nat) : Int) - 1) = (w : Int) := by rw [wi64_id (by omega) (by omega)]; omega
      have e2 : wi64 (8 * (w : Int)) = ((8 * w : Nat) : Int) := by rw [wi64_id (by omega) (by omega)]; omega
      have h4 := h2 w (by omega)
      have hp : 0 < 256 ^ w := Nat.pow_pos (by decide)
      have h6 : 1 ≤ n / 256 ^ w := by rw [Nat.le_div_iff_mul_le hp]; omega
      simp only [e1, e2, shr64N n (8 * w) (by omega), pow256]
      exact Ev.iteT (by omega) (Ev.iteT (by omega) (Ev.iteF (by omega) (Ev.pure _)))
  | succ d ih =>
    intro hd
    refine Ev.succ ?_
    have e1 : wi64 (((wid n + (d + 1) : Nat) : Int) - 1) = ((wid n + d : Nat) : Int) := by rw [wi64_id (by omega) (by omega)]; omega
    have e2 : wi64 (8 * ((wid n + d : Nat) : Int)) = ((8 * (wid n + d) : Nat) : Int) := by rw [wi64_id (by omega) (by omega)]; omega
    have h4 : n / 256 ^ (wid n + d) = 0 := Nat.div_eq_of_lt (Nat.lt_of_lt_of_le h1 (Nat.pow_le_pow_right (by decide) (by omega)))
    simp only [wire_Num.l1, e1, e2, shr64N n (8 * (wid n + d)) (by omega), pow256, h4]
    exact Ev.iteT (by omega) (Ev.iteT (by omega) (Ev.iteT rfl (ih (by omega))))
theorem bytes_prog (x w : Nat) (hw : w ≤ 8) : Ev (fun k => bits_Bytes.f k (x : Int) (w : Int)) (be x w, 0) := by
  unfold bits_Bytes.f
  have hl : Ev (fun k => bits_Bytes.l1 k (x : Int) (w : Int) (List.replicate w 0) 0) (be x w) := by
    refine Ev.loop (n := w) (F := fun k j (d : List Int) => bits_Bytes.l1 k (x : Int) (w : Int) d (j : Int)) (fun j d => d = List.replicate (w - j) 0 ++ be x j) (fun j d hj hI => ?_) (fun d hI => ?_) _ (by simp [be])
    · subst hI
      have e1 : wi64 (8 * (j : Int)) = ((8 * j : Nat) : Int) := by rw [wi64_id (by omega) (by omega)]; omega
      have e2 : wi64 (wi64 ((w : Int) - 1) - (j : Int)) = ((w - 1 - j : Nat) : Int) := by rw [wi64_id (x := (w : Int) - 1) (by omega) (by omega), wi64_id (by omega) (by omega)]; omega
      have hlen : (List.replicate (w - j) (0 : Int) ++ be x j).length = w := by rw [List.length_append, List.length_replicate, be_len]; omega
      have hv : wu8 (((x / 2 ^ (8 * j) : Nat)) : Int) = ((x / 256 ^ j % 256 : Nat) : Int) := by rw [wu8_eq, pow256]; rfl
      have hs : (List.replicate (w - j) (0 : Int) ++ be x j).set (w - 1 - j) ((x / 256 ^ j % 256 : Nat) : Int) = List.replicate (w - (j + 1)) (0 : Int) ++ be x (j + 1) := by
        rw [show w - j = (w - 1 - j) + 1 by omega, List.replicate_succ', List.append_assoc, List.set_append_right _ _ (by rw [List.length_replicate]; exact Nat.le_refl _), List.length_replicate, Nat.sub_self, show w - (j + 1) = w - 1 - j by omega]
        rfl
      refine .inr ⟨_, rfl, fun k => ?_⟩
      rw [← hs] at k
      simp only [bits_Bytes.l1, e1, e2, Int.toNat_natCast, wi64_j (show j < 9223372036854775807 by omega), shr64N x (8 * j) (by omega), hv]
      exact Ev.iteT (by omega) (Ev.iteT (by omega) (Ev.iteT (by rw [hlen]; omega) k))
    · subst hI
      simp only [bits_Bytes.l1, Nat.sub_self, List.replicate_zero, List.nil_append]
      exact Ev.iteF (by omega) (Ev.pure _)
  refine Ev.iteF (by simp; omega) (Ev.iteT (by omega) (Ev.bind ?_ (Ev.pure _)))
  rw [Int.toNat_natCast]
  exact hl
theorem wnum_f {n : Nat} (h : n < 18446744073709551616) : Ev (fun k => wire_Num.f k (n : Int)) (numL n) := by
  unfold wire_Num.f
  obtain ⟨h1, h2, h3⟩ := wid_spec h
  have hl := wnum_l1 h (8 - wid n) (by omega)
  rw [show wid n + (8 - wid n) = 8 by omega] at hl
  have e : wu8 (wid n : Int) = (wid n : Int) := by rw [wu8_eq]; omega
  refine Ev.bind hl (Ev.bind (bytes_prog n (wid n) h3) (Ev.iteT (by simp only [be_len, List.length_singleton]; omega) ?_))
  rw [e]
  exact Ev.pure _
theorem rbytes_f {x : Nat} (hx : x < 18446744073709551616) (w : Nat) (hw : w ≤ 8) : Ev (fun k => juratref01_Bytes.f k (x : Int) (w : Int)) (be x w, 0) := by
  unfold juratref01_Bytes.f
  have hl : Ev (fun k => juratref01_Bytes.l1 k (w : Int) (x : Int) [] 0) (be x w) := by
    refine Ev.loop (n := w) (F := fun k j (s : Int × List Int) => juratref01_Bytes.l1 k (w : Int) s.1 s.2 (j : Int)) (fun j s => s = (((x / 256 ^ j : Nat) : Int), be x j)) (fun j s hj hI => ?_) (fun s hI => ?_) (_, _) (by simp [be])
    · subst hI
      have hle : x / 256 ^ j ≤ x := Nat.div_le_self _ _
      have e1 : wu64 ((((x / 256 ^ j : Nat) : Int)).tdiv 256) = ((x / 256 ^ (j + 1) : Nat) : Int) := by
        rw [Nat.pow_succ, ← Nat.div_div_eq_div_mul]
        generalize x / 256 ^ j = y at hle ⊢
        rw [wu64_eq, Int.tdiv_eq_ediv_of_nonneg (by omega)]; omega
      have e2 : wu8 ((((x / 256 ^ j : Nat) : Int)).tmod 256) = ((x / 256 ^ j % 256 : Nat) : Int) := by
        generalize x / 256 ^ j = y at hle ⊢
        rw [wu8_eq, Int.tmod_eq_emod_of_nonneg (by omega)]; omega
      refine .inr ⟨_, rfl, fun k => ?_⟩
      simp only [juratref01_Bytes.l1, e1, e2, wi64_j (show j < 9223372036854775807 by omega)]
      exact Ev.iteT (by omega) (Ev.iteT (by rw [be_len, List.length_singleton]; omega) k)
    · subst hI
      simp only [juratref01_Bytes.l1]
      exact Ev.iteF (by omega) (Ev.pure _)
  exact Ev.iteF (by simp; omega) (Ev.bind hl (Ev.pure _))
theorem rnum_f {n : Nat} (h : n < 18446744073709551616) : Ev (fun k => juratref04_Num.f k (n : Int)) (numL n) := by
  unfold juratref04_Num.f
  obtain ⟨h1, h2, h3⟩ := wid_spec h
  have hl : Ev (fun k => juratref04_Num.l1 k 0 (n : Int)) (wid n : Int) := by
    refine Ev.loop (n := wid n) (F := fun k j (s : Int) => juratref04_Num.l1 k (j : Int) s) (fun j s => s = ((n / 256 ^ j : Nat) : Int)) (fun j s hj hI => ?_) (fun s hI => ?_) _ (by simp)
    · subst hI
      have hle : n / 256 ^ j ≤ n := Nat.div_le_self _ _
      have hp : 0 < 256 ^ j := Nat.pow_pos (by decide)
      have h4 := h2 j hj
      have h6 : 1 ≤ n / 256 ^ j := by rw [Nat.le_div_iff_mul_le hp]; omega
      have e1 : wu64 ((((n / 256 ^ j : Nat) : Int)).tdiv 256) = ((n / 256 ^ (j + 1) : Nat) : Int) := by
        rw [Nat.pow_succ, ← Nat.div_div_eq_div_mul]
        generalize n / 256 ^ j = y at hle ⊢
        rw [wu64_eq, Int.tdiv_eq_ediv_of_nonneg (by omega)]; omega
      refine .inr ⟨_, rfl, fun k => ?_⟩
      simp only [juratref04_Num.l1, e1, wi64_j (show j < 9223372036854775807 by omega)]
      exact Ev.iteT (by omega) k
    · subst hI
      simp only [juratref04_Num.l1, Nat.div_eq_of_lt h1]
      exact Ev.iteF (by decide) (Ev.pure _)
  have e : wu8 (wid n : Int) = (wid n : Int) := by rw [wu8_eq]; omega
  refine Ev.bind hl (Ev.bind (rbytes_f h (wid n) h3) (Ev.iteT (by simp only [be_len, List.length_singleton]; omega) ?_))
  rw [e]
  exact Ev.pure _
/-- A text's bytes. -/
def textL (b : List Int) : List Int := numL b.length ++ b
theorem wu64_id {x : Int} (h0 : 0 ≤ x) (h1 : x < 18446744073709551616) : wu64 x = x := by rw [wu64_eq]; omega
theorem wtext_f {b : List Int} (h : b.length ≤ 1000000) : Ev (fun k => wire_Text.f k b) (textL b) := by
  unfold wire_Text.f
  rw [wu64_id (by omega) (by omega)]
  have := numL_len (n := b.length) (by omega)
  exact Ev.bind (wnum_f (by omega)) (Ev.iteT (by omega) (Ev.pure _))
theorem rtext_f {b : List Int} (h : b.length ≤ 1000000) : Ev (fun k => juratref04_Text.f k b) (textL b) := by
  unfold juratref04_Text.f
  rw [wu64_id (by omega) (by omega)]
  have := numL_len (n := b.length) (by omega)
  exact Ev.bind (rnum_f (by omega)) (Ev.iteT (by omega) (Ev.pure _))
/-- Numbers, one behind the other. -/
def numsL (l : List Int) : List Int := l.flatMap fun x => numL x.toNat
theorem numsL_len : ∀ {l : List Int}, (∀ x ∈ l, 0 ≤ x ∧ x < 18446744073709551616) → (numsL l).length ≤ 9 * l.length
  | [], _ => by simp [numsL]
  | x :: r, h => by
    have h1 := numsL_len (l := r) fun y hy => h y (List.mem_cons_of_mem _ hy)
    have h2 := h x (by simp)
    have h3 := numL_len (n := x.toNat) (by omega)
    unfold numsL at h1 ⊢
    rw [List.flatMap_cons, List.length_append, List.length_cons]; omega
theorem nums_f {b l : List Int} (hb : b.length ≤ 1000000) (hl : l.length ≤ 1000) (h : ∀ x ∈ l, 0 ≤ x ∧ x < 18446744073709551616) : Ev (fun k => docket_writer_nums.f k ⟨b⟩ l) (⟨b ++ numsL l⟩ : Twriter) := by
  unfold docket_writer_nums.f
  have hloop : Ev (fun k => docket_writer_nums.l1 k l 0 ⟨b⟩) (⟨b ++ numsL l⟩ : Twriter) := by
    refine Ev.loop (n := l.length) (F := fun k i (x : Twriter) => docket_writer_nums.l1 k l (i : Int) x) (fun i x => x = ⟨b ++ numsL (l.take i)⟩) (fun i x hi hI => ?_) (fun x hI => ?_) _ (by simp [numsL])
    · subst hI
      have hm : l.getD i 0 ∈ l := by rw [List.getD_eq_getElem?_getD, List.getElem?_eq_getElem hi]; exact List.getElem_mem hi
      have hx := h _ hm
      have hn := wnum_f (n := (l.getD i 0).toNat) (by omega)
      have e : wu64 (l.getD i 0) = (((l.getD i 0).toNat : Nat) : Int) := by rw [wu64_id hx.1 hx.2]; omega
      have hlen := numL_len (n := (l.getD i 0).toNat) (by omega)
      have htl := numsL_len (l := l.take i) fun y hy => h y (List.mem_of_mem_take hy)
      rw [List.length_take] at htl
      refine .inr ⟨_, rfl, fun k => ?_⟩
      have es : b ++ numsL (l.take (i + 1)) = (b ++ numsL (l.take i)) ++ numL (l.getD i 0).toNat := by
        rw [take_succ 0 hi]; unfold numsL; rw [List.flatMap_append, List.append_assoc]; simp
      rw [es] at k
      simp only [docket_writer_nums.l1, Int.toNat_natCast, e, wi64_j (show i < 9223372036854775807 by omega)]
      exact Ev.iteT (by omega) (Ev.iteT (by omega) (Ev.bind hn (Ev.iteT (by rw [List.length_append]; omega) k)))
    · subst hI
      simp only [docket_writer_nums.l1, List.take_length]
      exact Ev.iteF (by omega) (Ev.pure _)
  exact Ev.bind hloop (Ev.pure _)
theorem text_f {b d : List Int} (hb : b.length ≤ 1000000) (hd : d.length ≤ 1000000) : Ev (fun k => docket_writer_text.f k ⟨b⟩ d) (⟨b ++ textL d⟩ : Twriter) := by
  unfold docket_writer_text.f
  have := numL_len (n := d.length) (by omega)
  exact Ev.bind (wtext_f hd) (Ev.iteT (by unfold textL; rw [List.length_append]; dsimp only; omega) (Ev.pure _))
theorem digest_f {b d : List Int} (hb : b.length ≤ 1000000) (hd : d.length = 32) (k : Nat) : docket_writer_digest.f k ⟨b⟩ d = some ⟨b ++ d⟩ := by
  unfold docket_writer_digest.f
  rw [if_pos (by dsimp only; omega)]
theorem rdigest_f {d : List Int} (hd : d.length = 32) : Ev (fun k => juratref03_Bytes.f k d) d := by
  unfold juratref03_Bytes.f
  have hloop : Ev (fun k => juratref03_Bytes.l1 k d [] 0) d := by
    refine Ev.loop (n := 32) (F := fun k i (x : List Int) => juratref03_Bytes.l1 k d x (i : Int)) (fun i x => x = d.take i) (fun i x hi hI => ?_) (fun x hI => ?_) _ rfl
    · subst hI
      refine .inr ⟨_, rfl, fun k => ?_⟩
      rw [take_succ 0 (by omega)] at k
      simp only [juratref03_Bytes.l1, Int.toNat_natCast, wi64_j (show i < 9223372036854775807 by omega)]
      exact Ev.iteT (by omega) (Ev.iteT (by omega) (Ev.iteT (by rw [List.length_take]; omega) k))
    · subst hI
      simp only [juratref03_Bytes.l1]
      rw [List.take_of_length_le (by omega)]
      exact Ev.iteF (by decide) (Ev.pure _)
  exact Ev.bind hloop (Ev.pure _)
theorem number_prog {l : List Int} (hl : l.length ≤ 8) (hb : AllB l) : Ev (fun k => bits_Number.f k l) ((numV l : Int), 0) := by
  unfold bits_Number.f
  have hloop : Ev (fun k => bits_Number.l1 k l 0 0) (numV l : Int) := by
    refine Ev.loop (n := l.length) (F := fun k i (x : Int) => bits_Number.l1 k l x (i : Int)) (fun i x => x = ((numV (l.take i) : Nat) : Int)) (fun i x hi hI => ?_) (fun x hI => ?_) _ rfl
    · subst hI
      have hy := hb.getD i
      unfold B8 at hy
      have hlt := numV_lt (hb.take i)
      rw [List.length_take, Nat.min_eq_left (by omega)] at hlt
      have h56 : numV (l.take i) < 72057594037927936 := Nat.lt_of_lt_of_le hlt (Nat.pow_le_pow_right (n := 256) (j := 7) (by decide) (by omega))
      have e : (l.getD i 0) = (((l.getD i 0).toNat : Nat) : Int) := by omega
      have es : numV (l.take (i + 1)) = 256 * numV (l.take i) + (l.getD i 0).toNat := by rw [take_succ 0 hi, numV_snoc]
      refine .inr ⟨_, rfl, fun k => ?_⟩
      rw [es, ← num_step _ _ h56 (by omega), ← e] at k
      simp only [bits_Number.l1, Int.toNat_natCast, wi64_j (show i < 9223372036854775807 by omega)]
      exact Ev.iteT (by omega) (Ev.iteT (by omega) k)
    · subst hI
      simp only [bits_Number.l1, List.take_length]
      exact Ev.iteF (by omega) (Ev.pure _)
  exact Ev.iteF (by omega) (Ev.bind hloop (Ev.pure _))
theorem number_ref {l : List Int} (hl : l.length ≤ 8) (hb : AllB l) : Ev (fun k => juratref01_Number.f k l) ((numV l : Int), 0) := by
  unfold juratref01_Number.f
  have hloop : Ev (fun k => juratref01_Number.l1 k l 0 0) (numV l : Int) := by
    refine Ev.loop (n := l.length) (F := fun k i (x : Int) => juratref01_Number.l1 k l x (i : Int)) (fun i x => x = ((numV (l.take i) : Nat) : Int)) (fun i x hi hI => ?_) (fun x hI => ?_) _ rfl
    · subst hI
      have hy := hb.getD i
      unfold B8 at hy
      have hlt := numV_lt (hb.take i)
      rw [List.length_take, Nat.min_eq_left (by omega)] at hlt
      have h56 : numV (l.take i) < 72057594037927936 := Nat.lt_of_lt_of_le hlt (Nat.pow_le_pow_right (n := 256) (j := 7) (by decide) (by omega))
      have es : numV (l.take (i + 1)) = 256 * numV (l.take i) + (l.getD i 0).toNat := by rw [take_succ 0 hi, numV_snoc]
      have e : wu64 (wu64 (((numV (l.take i) : Nat) : Int) * 256) + wu64 (l.getD i 0)) = ((numV (l.take (i + 1)) : Nat) : Int) := by
        rw [es, wu64_id (x := ((numV (l.take i) : Nat) : Int) * 256) (by omega) (by omega), wu64_id (x := l.getD i 0) (by omega) (by omega), wu64_id (by omega) (by omega)]; omega
      refine .inr ⟨_, rfl, fun k => ?_⟩
      simp only [juratref01_Number.l1, Int.toNat_natCast, e, wi64_j (show i < 9223372036854775807 by omega)]
      exact Ev.iteT (by omega) (Ev.iteT (by omega) k)
    · subst hI
      simp only [juratref01_Number.l1, List.take_length]
      exact Ev.iteF (by omega) (Ev.pure _)
  exact Ev.iteF (by omega) (Ev.bind hloop (Ev.pure _))
end Go.Proofs.YtobdpbnadjkhiaaGreat.Rc
