/- Plain laws of records: written, and read. -/
import Derived.Test.YtobdpbnadjkhiaaGreatTRe
namespace Go.Proofs.YtobdpbnadjkhiaaGreat.Rc
open Go.WG Go.Proofs.YtobdpbnadjkhiaaGreat
set_option linter.unusedSimpArgs false
set_option linter.unusedVariables false
/-- A record of some size. -/
structure RecOk (r : TRecord) : Prop where
  n : r.Nonce.length = 32
  d : r.Data.length ≤ 1000
  b : AllB r.Data
  m : AllB r.Nonce
theorem may_in {r : TRecord} (h : MayOk r) : (0 ≤ r.Kind ∧ r.Kind ≤ 1099511627776) ∧ (0 ≤ r.Epoch ∧ r.Epoch ≤ 1099511627776) ∧ (0 ≤ r.Job ∧ r.Job ≤ 1099511627776) ∧ (0 ≤ r.Time ∧ r.Time ≤ 1099511627776) ∧ (0 ≤ r.By ∧ r.By ≤ 1099511627776) ∧ r.Data.length ≤ 64 := by
  unfold MayOk at h
  omega
/-- A record's bytes. -/
def bytesL (r : TRecord) : List Int := numL r.Kind.toNat ++ (numL r.Epoch.toNat ++ (r.Nonce ++ (textL r.Data ++ (numL r.Job.toNat ++ (numL r.Time.toNat ++ numL r.By.toNat)))))
def encL (r : TRecord) : List Int × Int := if MayOk r then (bytesL r, 0) else ([], 1)
theorem num64 {x : Int} (h : 0 ≤ x ∧ x ≤ 1099511627776) : x.toNat < 18446744073709551616 ∧ ((x.toNat : Nat) : Int) = x := by omega
theorem encode_f {r : TRecord} (h : RecOk r) : Ev (fun k => docket_Encode.f k r) (encL r) := by
  unfold docket_Encode.f encL
  refine Ev.bind (may_f r) ?_
  by_cases hm : MayOk r
  · rw [if_pos hm, decide_eq_true hm]
    obtain ⟨hk, he, hj, ht, hb, hd⟩ := may_in hm
    have l1 := numL_len (num64 hk).1; have l2 := numL_len (num64 he).1; have l3 := numL_len (n := r.Data.length) (by omega)
    have hn := h.n
    have n1 := nums_f (b := []) (l := [r.Kind, r.Epoch]) (by simp) (by simp) (by simp; omega)
    have e1 : ([] : List Int) ++ numsL [r.Kind, r.Epoch] = numL r.Kind.toNat ++ numL r.Epoch.toNat := by simp [numsL]
    rw [e1] at n1
    have t1 := text_f (b := numL r.Kind.toNat ++ numL r.Epoch.toNat ++ r.Nonce) (d := r.Data) (by simp only [List.length_append]; omega) (by omega)
    have n2 := nums_f (b := numL r.Kind.toNat ++ numL r.Epoch.toNat ++ r.Nonce ++ textL r.Data) (l := [r.Job, r.Time, r.By]) (by unfold textL; simp only [List.length_append]; omega) (by simp) (by simp; omega)
    have e2 : numL r.Kind.toNat ++ numL r.Epoch.toNat ++ r.Nonce ++ textL r.Data ++ numsL [r.Job, r.Time, r.By] = bytesL r := by simp [numsL, bytesL]
    rw [e2] at n2
    simp only [digest_f (show (numL r.Kind.toNat ++ numL r.Epoch.toNat).length ≤ 1000000 by rw [List.length_append]; omega) hn]
    refine Ev.iteT trivial (Ev.bind n1 ?_)
    simp only [digest_f (show (numL r.Kind.toNat ++ numL r.Epoch.toNat).length ≤ 1000000 by rw [List.length_append]; omega) hn, Option.bind_some]
    exact Ev.bind t1 (Ev.bind n2 (Ev.pure _))
  · rw [if_neg hm, decide_eq_false hm]
    exact Ev.iteF (by simp) (Ev.pure _)
theorem rn_f {x : Int} (h : 0 ≤ x ∧ x ≤ 1099511627776) : Ev (fun k => juratref21_num.f k x) (numL x.toNat) := by
  unfold juratref21_num.f
  have := rnum_f (n := x.toNat) (num64 h).1
  rw [(num64 h).2] at this
  rw [wu64_id h.1 (by omega)]
  exact Ev.bind this (Ev.pure _)
theorem refEncode_f {r : TRecord} (h : RecOk r) : Ev (fun k => juratref21_Encode.f k r) (encL r) := by
  unfold juratref21_Encode.f encL
  simp only [refMay_f, Option.bind_some]
  by_cases hm : MayOk r
  · rw [if_pos hm, decide_eq_true hm]
    obtain ⟨hk, he, hj, ht, hb, hd⟩ := may_in hm
    have l1 := numL_len (num64 hk).1; have l2 := numL_len (num64 he).1; have l3 := numL_len (n := r.Data.length) (by omega)
    have l4 := numL_len (num64 hj).1; have l5 := numL_len (num64 ht).1; have l6 := numL_len (num64 hb).1
    have hn := h.n
    have ht1 := rtext_f (b := r.Data) (by omega)
    have l7 : (textL r.Data).length ≤ 73 := by unfold textL; rw [List.length_append]; omega
    refine Ev.iteT rfl (Ev.bind (rn_f hk) (Ev.bind (rn_f he) (Ev.iteT (by omega) (Ev.bind (rdigest_f hn) (Ev.iteT (by simp only [List.length_append]; omega) (Ev.bind ht1 (Ev.iteT (by simp only [List.length_append]; omega) (Ev.bind (rn_f hj) (Ev.iteT (by simp only [List.length_append]; omega) (Ev.bind (rn_f ht) (Ev.iteT (by simp only [List.length_append]; omega) (Ev.bind (rn_f hb) (Ev.iteT (by simp only [List.length_append]; omega) ?_)))))))))))))
    have e2 : ((((((numL r.Kind.toNat ++ numL r.Epoch.toNat) ++ r.Nonce) ++ textL r.Data) ++ numL r.Job.toNat) ++ numL r.Time.toNat) ++ numL r.By.toNat) = bytesL r := by simp [bytesL]
    rw [e2]
    exact Ev.pure _
  · rw [if_neg hm, decide_eq_false hm]
    exact Ev.iteF (by simp) (Ev.pure _)
/-- The record of bytes, step after step. -/
def rawL (b : List Int) : TRecord × RS :=
  let a := numA 1099511627776 (b, 0)
  let c := numA 1099511627776 a.2
  let d := digA c.2
  let t := textA 64 d.2
  let j := numA 1099511627776 t.2
  let m := numA 1099511627776 j.2
  let y := numA 1099511627776 m.2
  (⟨a.1, c.1, d.1, t.1, j.1, m.1, y.1⟩, y.2)
def zeroR : TRecord := ⟨0, 0, List.replicate 32 0, [], 0, 0, 0⟩
def decL (b : List Int) : TRecord × Int :=
  if endA (rawL b).2 = 0 then (if MayOk (rawL b).1 then ((rawL b).1, 0) else (zeroR, 41)) else (zeroR, endA (rawL b).2)
theorem numA_le {most : Int} (h0 : 0 ≤ most ∧ most ≤ 1099511627776) {s : RS} (h : Ok s) : wi64 (numA most s).1 = (numA most s).1 := by
  have : 0 ≤ (numA most s).1 ∧ (numA most s).1 ≤ 1099511627776 := by
    unfold numA
    split
    · exact ⟨by simp, by simp⟩
    · split
      · exact ⟨by simp, by simp⟩
      · rename_i hg
        have := (getN_inr h.b hg).2.1
        exact ⟨by dsimp only; omega, by dsimp only; omega⟩
  exact wi64_id (by omega) (by omega)
theorem refDecode_f {b : List Int} (hb : AllB b) (hl : b.length ≤ 1000) : Ev (fun k => juratref21_Decode.f k b) (decL b) := by
  unfold juratref21_Decode.f
  have m0 : (0 : Int) ≤ 1099511627776 ∧ (1099511627776 : Int) ≤ 1099511627776 := by decide
  have k0 : Ok (b, (0 : Int)) := ⟨hb, hl⟩
  have k1 := numA_ok (most := 1099511627776) k0
  have k2 := numA_ok (most := 1099511627776) k1
  have k3 := digA_ok k2
  have k4 := textA_ok (most := 64) k3
  have k5 := numA_ok (most := 1099511627776) k4
  have k6 := numA_ok (most := 1099511627776) k5
  refine Ev.bind (rNum_f k0 _) (Ev.bind (rNum_f k1 _) (Ev.bind (rDig_f k2) (Ev.bind (rText_f k3 (by decide)) (Ev.bind (rNum_f k4 _) (Ev.bind (rNum_f k5 _) (Ev.bind (rNum_f k6 _) ?_))))))
  dsimp only
  simp only [numA_le m0 k0, numA_le m0 k1, numA_le m0 k4, numA_le m0 k5, numA_le m0 k6, refMay_f, Option.bind_some, decide_eq_true_eq]
  have hE : ∀ k, ∃ q, juratref04_Reader_End.f k ⟨(rawL b).2.1, (rawL b).2.2⟩ = some (endA (rawL b).2, q) := fun k => rEnd_f (rawL b).2 k
  refine ⟨0, fun k _ => ?_⟩
  obtain ⟨q, hq⟩ := hE k
  have hq' := hq
  unfold rawL at hq
  dsimp only at hq ⊢
  rw [hq]
  unfold decL
  rw [Option.bind_some]
  unfold rawL
  dsimp only
  split
  · split <;> rfl
  · rfl
theorem pn_f {r : TReader} {s : RS} (h : At r s) : ∃ r', Ev (fun k => docket_num.f k r) ((numA 1099511627776 s).1, r') ∧ At r' (numA 1099511627776 s).2 := by
  obtain ⟨r', h1, h2, _⟩ := pNum_f h (most := 1099511627776) (by decide)
  refine ⟨r', ?_, h2⟩
  unfold docket_num.f
  refine Ev.bind h1 ?_
  dsimp only
  rw [numA_le (by decide) h.good]
  exact Ev.pure _
theorem decode_f {b : List Int} (hb : AllB b) (hl : b.length ≤ 1000) : Ev (fun k => docket_Decode.f k b) (decL b) := by
  unfold docket_Decode.f wire_Read.f
  have a0 : At ⟨b, 0, 0⟩ (b, 0) := ⟨⟨by simp, by simp⟩, hl, rfl, rfl, hb⟩
  obtain ⟨r1, h1, a1⟩ := pn_f a0
  obtain ⟨r2, h2, a2⟩ := pn_f a1
  obtain ⟨r3, h3, a3⟩ := pDig_f a2
  obtain ⟨r4, h4, a4⟩ := pText_f a3 (most := 64) (by decide)
  obtain ⟨r5, h5, a5⟩ := pn_f a4
  obtain ⟨r6, h6, a6⟩ := pn_f a5
  obtain ⟨r7, h7, a7⟩ := pn_f a6
  obtain ⟨r8, h8⟩ := pEnd_f a7
  refine Ev.bind (a := (⟨b, 0, 0⟩ : TReader)) (Ev.iteT (by omega) (Ev.pure _)) (Ev.bind h1 (Ev.bind h2 (Ev.bind h3 (Ev.bind h4 (Ev.bind h5 (Ev.bind h6 (Ev.bind h7 (Ev.bind h8 ?_))))))))
  dsimp only
  show Ev (fun k => if endA (rawL b).2 = 0 then (docket_may.f k (rawL b).1).bind fun r145 => if r145 = true then some ((rawL b).1, 0) else some (zeroR, 41) else some (zeroR, endA (rawL b).2)) (decL b)
  unfold decL
  by_cases he : endA (rawL b).2 = 0
  · rw [if_pos he]
    refine Ev.iteT he (Ev.bind (may_f _) ?_)
    by_cases hm : MayOk (rawL b).1
    · rw [if_pos hm, decide_eq_true hm]; exact Ev.iteT rfl (Ev.pure _)
    · rw [if_neg hm, decide_eq_false hm]; exact Ev.iteF (by simp) (Ev.pure _)
  · rw [if_neg he]
    exact Ev.iteF he (Ev.pure _)
end Go.Proofs.YtobdpbnadjkhiaaGreat.Rc
