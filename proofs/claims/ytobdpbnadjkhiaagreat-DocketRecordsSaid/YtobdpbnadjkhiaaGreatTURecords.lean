/- DocketRecords, as a plain law. -/
import Derived.Test.YtobdpbnadjkhiaaGreatTPRecords
import Derived.Test.YtobdpbnadjkhiaaGreatTRf
import Derived.Test.YtobdpbnadjkhiaaGreatTGr
import Derived.KernelRfl
namespace Go.Proofs.YtobdpbnadjkhiaaGreat.Pure
open Go.WG Go.Proofs.YtobdpbnadjkhiaaGreat Go.Proofs.YtobdpbnadjkhiaaGreat.Rc
set_option linter.unusedSimpArgs false
set_option linter.unusedVariables false
set_option maxRecDepth 100000 in
theorem awake_f : Ev (fun k => juratlaw21_awake.f k) true := by
  refine ⟨20, fun k hk => ?_⟩
  obtain ⟨m, rfl⟩ : ∃ m, k = m + 20 := ⟨k - 20, by omega⟩
  show juratlaw21_awake.f (m + 20) = some true
  kernel_rfl
theorem same1_f (a : List Int) (hb : a.length ≤ 1000000000) : Ev (fun k => juratref01_Same.f k a a) true := by
  unfold juratref01_Same.f
  refine Ev.iteT rfl ?_
  have hloop : Ev (fun k => juratref01_Same.l1 k a a 0) (Sum.inl ()) := by
    refine Ev.loop (n := a.length) (F := fun k j (_ : Unit) => juratref01_Same.l1 k a a (j : Int)) (fun j _ => True) (fun j _ hj hI => ?_) (fun _ hI => ?_) () trivial
    · refine .inr ⟨(), trivial, fun h => ?_⟩
      simp only [juratref01_Same.l1, Int.toNat_natCast, wi64_j (show j < 9223372036854775807 by omega)]
      exact Ev.iteT (by omega) (Ev.iteT (by omega) (Ev.iteT (by omega) (Ev.iteT trivial h)))
    · simp only [juratref01_Same.l1]
      exact Ev.iteF (by omega) (Ev.pure _)
  exact Ev.bind hloop (Ev.pure _)
theorem sameR_f (r : TRecord) (hd : r.Data.length ≤ 1000000000) : Ev (fun k => juratref21_SameRecord.f k r r) true := by
  unfold juratref21_SameRecord.f
  refine Ev.bind (a := true) (Ev.iteT rfl (Ev.iteT rfl (Ev.iteT rfl (Ev.bind (same1_f _ hd) (Ev.iteT rfl (Ev.iteT rfl (Ev.iteT rfl ?_))))))) (Ev.pure _)
  rw [decide_eq_true rfl]
  exact Ev.pure _
theorem numA_num {n : Nat} (hn : n ≤ 1099511627776) (rest : List Int) : numA 1099511627776 (numL n ++ rest, 0) = ((n : Int), (rest, 0)) := by
  rw [numA_0, getN_num (by omega) (by omega)]
theorem digA_dig {d : List Int} (h : d.length = 32) (rest : List Int) : digA (d ++ rest, 0) = (d, (rest, 0)) := by
  rw [digA_0, if_neg (by rw [List.length_append]; omega), ← h, List.take_left, List.drop_left]
theorem textA_text {d : List Int} (h : d.length ≤ 64) (rest : List Int) : textA 64 (textL d ++ rest, 0) = (d, (rest, 0)) := by
  rw [textA_0, textL, List.append_assoc, getN_num (by omega) (by omega)]
  dsimp only
  rw [if_neg (by omega), if_neg (by rw [List.length_append]; omega), List.take_left, List.drop_left]
theorem dec_enc {r : TRecord} (h : RecOk r) (hm : MayOk r) : decL (bytesL r) = (r, 0) := by
  obtain ⟨hk, he, hj, ht, hb, hd⟩ := may_in hm
  have e : rawL (bytesL r) = (r, ([], 0)) := by
    have hb' : numL r.By.toNat = numL r.By.toNat ++ [] := by rw [List.append_nil]
    unfold rawL bytesL
    rw [hb']
    simp only [numA_num (show r.Kind.toNat ≤ 1099511627776 by omega), numA_num (show r.Epoch.toNat ≤ 1099511627776 by omega), digA_dig h.n, textA_text hd, numA_num (show r.Job.toNat ≤ 1099511627776 by omega), numA_num (show r.Time.toNat ≤ 1099511627776 by omega), numA_num (show r.By.toNat ≤ 1099511627776 by omega), (num64 hk).2, (num64 he).2, (num64 hj).2, (num64 ht).2, (num64 hb).2]
  unfold decL
  rw [e]
  rw [if_pos (by unfold endA; simp), if_pos hm]
theorem numA_inv {s : RS} (h : Ok s) (hz : (numA 1099511627776 s).2.2 = 0) : s.2 = 0 ∧ s.1 = numL (numA 1099511627776 s).1.toNat ++ (numA 1099511627776 s).2.1 := by
  obtain ⟨b, e⟩ := s
  by_cases he : e = 0
  · subst he
    rw [numA_0] at hz ⊢
    cases hg : getN 1099511627776 b with
    | inl q => rw [hg] at hz; exact absurd hz (getN_ne hg)
    | inr p =>
      obtain ⟨x, rest⟩ := p
      obtain ⟨g1, g2, g3⟩ := getN_inr h.b hg
      exact ⟨rfl, by dsimp only; rw [Int.toNat_natCast]; exact g3⟩
  · rw [numA_e _ _ he] at hz
    exact absurd hz he
theorem digA_inv {s : RS} (hz : (digA s).2.2 = 0) : s.2 = 0 ∧ s.1 = (digA s).1 ++ (digA s).2.1 ∧ (digA s).1.length = 32 := by
  obtain ⟨b, e⟩ := s
  by_cases he : e = 0
  · subst he
    rw [digA_0] at hz ⊢
    by_cases h32 : b.length < 32
    · rw [if_pos h32] at hz; exact absurd hz (by dsimp only; decide)
    · rw [if_neg h32]
      exact ⟨rfl, (List.take_append_drop 32 b).symm, by rw [List.length_take]; omega⟩
  · rw [digA_e _ he] at hz
    exact absurd hz he
theorem textA_inv {s : RS} (h : Ok s) (hz : (textA 64 s).2.2 = 0) : s.2 = 0 ∧ s.1 = textL (textA 64 s).1 ++ (textA 64 s).2.1 ∧ (textA 64 s).1.length ≤ 64 := by
  obtain ⟨b, e⟩ := s
  by_cases he : e = 0
  · subst he
    rw [textA_0] at hz ⊢
    cases hg : getN 18446744073709551615 b with
    | inl q => rw [hg] at hz; exact absurd hz (getN_ne hg)
    | inr p =>
      obtain ⟨x, rest⟩ := p
      obtain ⟨g1, g2, g3⟩ := getN_inr h.b hg
      rw [hg] at hz
      dsimp only at hz ⊢
      by_cases h1 : (x : Int) > 64
      · rw [if_pos h1] at hz; exact absurd hz (by dsimp only; decide)
      · rw [if_neg h1] at hz ⊢
        by_cases h2 : x > rest.length
        · rw [if_pos h2] at hz; exact absurd hz (by dsimp only; decide)
        · rw [if_neg h2]
          have hl : (rest.take x).length = x := by rw [List.length_take]; omega
          refine ⟨rfl, ?_, by dsimp only; omega⟩
          dsimp only
          rw [textL, hl, List.append_assoc, List.take_append_drop]
          exact g3
  · rw [textA_e _ _ he] at hz
    exact absurd hz he
theorem enc_dec {b : List Int} (hb : AllB b) (hl : b.length ≤ 1000) {p : TRecord} (h : decL b = (p, 0)) : MayOk p ∧ bytesL p = b ∧ RecOk p := by
  unfold decL at h
  split at h
  · rename_i he
    split at h
    · rename_i hm
      injection h with h _
      subst h
      refine ⟨hm, ?_⟩
      have k0 : Ok (b, (0 : Int)) := ⟨hb, hl⟩
      have k1 := numA_ok (most := 1099511627776) k0
      have k2 := numA_ok (most := 1099511627776) k1
      have k3 := digA_ok k2
      have k4 := textA_ok (most := 64) k3
      have k5 := numA_ok (most := 1099511627776) k4
      have k6 := numA_ok (most := 1099511627776) k5
      have hend : (rawL b).2.2 = 0 ∧ (rawL b).2.1 = [] := by
        unfold endA at he
        split at he
        · cases he
        · rename_i g
          exact ⟨he, Classical.byContradiction fun k => g ⟨he, k⟩⟩
      have i7 := numA_inv k6 hend.1
      have i6 := numA_inv k5 i7.1
      have i5 := numA_inv k4 i6.1
      have i4 := textA_inv k3 i5.1
      have i3 := digA_inv i4.1
      have i2 := numA_inv k1 i3.1
      have i1 := numA_inv k0 i2.1
      have hn : (rawL b).2.1 = [] := hend.2
      refine ⟨?_, ?_⟩
      · have e7 := i7.2
        have e' : ((numA 1099511627776 (numA 1099511627776 (numA 1099511627776 (textA 64 (digA (numA 1099511627776 (numA 1099511627776 (b, 0)).2).2).2).2).2).2).2.1 : List Int) = [] := hn
        rw [e', List.append_nil] at e7
        have e1 := i1.2
        dsimp only at e1
        unfold bytesL rawL
        dsimp only
        rw [← e7, ← i6.2, ← i5.2, ← i4.2.1, ← i3.2.1, ← i2.2, ← e1]
      · have hN : (rawL b).1.Nonce.length = 32 := i3.2.2
        have hD : (rawL b).1.Data.length ≤ 64 := i4.2.2
        refine ⟨hN, by omega, ?_, ?_⟩
        · intro y hy
          have : y ∈ textL (rawL b).1.Data ++ (textA 64 (digA (numA 1099511627776 (numA 1099511627776 (b, 0)).2).2).2).2.1 := by
            unfold textL
            exact List.mem_append.2 (.inl (List.mem_append.2 (.inr hy)))
          have e := i4.2.1
          exact k3.b y (e ▸ this)
        · intro y hy
          have e := i3.2.1
          exact k2.b y (e ▸ List.mem_append.2 (.inl hy))
    · cases h
  · rename_i he
    injection h with _ h
    exact absurd h he
theorem bytesL_ok {r : TRecord} (h : RecOk r) (hm : MayOk r) : AllB (bytesL r) ∧ (bytesL r).length ≤ 1000 := by
  obtain ⟨hk, he, hj, ht, hb, hd⟩ := may_in hm
  have l1 := numL_len (num64 hk).1; have l2 := numL_len (num64 he).1; have l3 := numL_len (n := r.Data.length) (by omega)
  have l4 := numL_len (num64 hj).1; have l5 := numL_len (num64 ht).1; have l6 := numL_len (num64 hb).1
  have hn := h.n
  constructor
  · intro y hy
    unfold bytesL textL at hy
    simp only [List.mem_append] at hy
    rcases hy with hy | hy | hy | (hy | hy) | hy | hy | hy
    · exact numL_B (num64 hk).1 y hy
    · exact numL_B (num64 he).1 y hy
    · exact h.m y hy
    · exact numL_B (n := r.Data.length) (by omega) y hy
    · exact h.b y hy
    · exact numL_B (num64 hj).1 y hy
    · exact numL_B (num64 ht).1 y hy
    · exact numL_B (num64 hb).1 y hy
  · unfold bytesL textL
    simp only [List.length_append]
    omega
theorem own_f {r : TRecord} (h : r.Data.length ≤ 200) (k : Nat) : juratlaw21_own.f k r = some r := by
  unfold juratlaw21_own.f
  rw [if_pos (by omega)]
theorem DocketRecords (a0 : TRecord) (a1 : List Int) (h0 : ok26 a0) (h1 : ok24 a1) : ∃ k, juratlaw21_DocketRecords.f k a0 a1 = some true := by
  refine Ev.one (f := fun k => juratlaw21_DocketRecords.f k a0 a1) ?_
  unfold juratlaw21_DocketRecords.f
  by_cases g1 : (a0.Data.length : Int) > 200
  · exact Ev.bind (a := true) (Ev.iteT g1 (Ev.pure _)) (Ev.iteT rfl (Ev.bind awake_f (Ev.pure _)))
  by_cases g2 : (a1.length : Int) > 500
  · refine Ev.bind (a := true) (Ev.iteF g1 ?_) (Ev.iteT rfl (Ev.bind awake_f (Ev.pure _)))
    rw [decide_eq_true g2]; exact Ev.pure _
  have hr : RecOk a0 := ⟨h0.2.2.1.1, by omega, fun y hy => wf8 (h0.2.2.2.1.2 y hy), fun y hy => wf8 (h0.2.2.1.2 y hy)⟩
  have hb : AllB a1 := fun y hy => wf8 (h1.2 y hy)
  have hl : a1.length ≤ 1000 := by omega
  have he1 := encode_f hr
  have he2 := refEncode_f hr
  have hd1 := decode_f hb hl
  have hd2 := refDecode_f hb hl
  have hxl : (encL a0).1.length ≤ 1000 := by
    unfold encL
    split
    · rename_i hm; exact (bytesL_ok hr hm).2
    · simp
  have hpl : (decL a1).1.Data.length ≤ 1000 := by
    by_cases hz : (decL a1).2 = 0
    · exact (enc_dec hb hl (p := (decL a1).1) (Prod.ext rfl hz)).2.2.d
    · have : (decL a1).1 = zeroR := by
        unfold decL at hz ⊢
        split
        · rename_i he
          rw [if_pos he] at hz
          split
          · rename_i hm; rw [if_pos hm] at hz; exact absurd rfl hz
          · rfl
        · rfl
      rw [this]; decide
  refine Ev.bind (a := false) (Ev.iteF g1 (by rw [decide_eq_false g2]; exact Ev.pure _)) (Ev.iteF (by simp) ?_)
  simp only [own_f (show a0.Data.length ≤ 200 by omega), Option.bind_some]
  refine Ev.bind he1 (Ev.bind he2 (Ev.iteT (by omega) (Ev.bind hd1 (Ev.bind hd2 ?_))))
  try dsimp only
  refine Ev.bind (a := false) (Ev.iteT rfl (Ev.bind (same1_f _ (by omega)) (Ev.iteT rfl (Ev.iteT rfl (Ev.bind (sameR_f _ (by omega)) (Ev.pure _)))))) (Ev.iteF (by simp) ?_)
  refine Ev.bind (a := Sum.inl ()) ?_ ?_
  · by_cases hm : MayOk a0
    · have e : encL a0 = (bytesL a0, 0) := by unfold encL; rw [if_pos hm]
      rw [e]
      obtain ⟨k1, k2⟩ := bytesL_ok hr hm
      have hd := decode_f k1 k2
      rw [dec_enc hr hm] at hd
      exact Ev.iteT rfl (Ev.bind hd (Ev.bind (a := false) (Ev.iteT rfl (Ev.bind (sameR_f a0 (by omega)) (Ev.pure _))) (Ev.iteF (by simp) (Ev.pure _))))
    · have e : encL a0 = ([], 1) := by unfold encL; rw [if_neg hm]
      rw [e]
      exact Ev.iteF (by decide) (Ev.pure _)
  · dsimp only [sumE]
    by_cases hz : (decL a1).2 = 0
    · obtain ⟨k1, k2, k3⟩ := enc_dec hb hl (p := (decL a1).1) (Prod.ext rfl hz)
      have hx := encode_f k3
      have e : encL (decL a1).1 = (a1, 0) := by unfold encL; rw [if_pos k1, k2]
      rw [e] at hx
      exact Ev.iteT hz (Ev.bind hx (Ev.bind (a := false) (Ev.iteT rfl (Ev.bind (same1_f a1 (by omega)) (Ev.pure _))) (Ev.iteF (by simp) (Ev.bind awake_f (Ev.pure _)))))
    · exact Ev.iteF hz (Ev.bind awake_f (Ev.pure _))
end Go.Proofs.YtobdpbnadjkhiaaGreat.Pure
