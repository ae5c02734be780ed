/- Plain laws of bytes: readers. -/
import Derived.Test.YtobdpbnadjkhiaaGreatTRb
namespace Go.Proofs.YtobdpbnadjkhiaaGreat.Rc
open Go.WG Go.Proofs.YtobdpbnadjkhiaaGreat
set_option linter.unusedSimpArgs false
set_option linter.unusedVariables false
/-- A reader as the document has it: what is left, and the error. -/
abbrev RS := List Int × Int
def numA (most : Int) (s : RS) : Int × RS :=
  if s.2 ≠ 0 then (0, s) else match getN most s.1 with
    | .inl e => (0, (s.1, e))
    | .inr (x, rest) => ((x : Int), (rest, 0))
def textA (most : Int) (s : RS) : List Int × RS :=
  if s.2 ≠ 0 then ([], s) else match getN 18446744073709551615 s.1 with
    | .inl e => ([], (s.1, e))
    | .inr (n, rest) => if (n : Int) > most then ([], (s.1, 42)) else if n > rest.length then ([], (s.1, 40)) else (rest.take n, (rest.drop n, 0))
def digA (s : RS) : List Int × RS :=
  if s.2 ≠ 0 then (List.replicate 32 0, s) else if s.1.length < 32 then (List.replicate 32 0, (s.1, 40)) else (s.1.take 32, (s.1.drop 32, 0))
def endA (s : RS) : Int := if s.2 = 0 ∧ s.1 ≠ [] then 43 else s.2
/-- What a reader has left. -/
structure Ok (s : RS) : Prop where
  b : AllB s.1
  l : s.1.length ≤ 1000
theorem getN_ok {most : Int} {b : List Int} (hb : AllB b) {x : Nat} {rest : List Int} (h : getN most b = .inr (x, rest)) : rest.length ≤ b.length ∧ AllB rest := by
  obtain ⟨_, _, e⟩ := getN_inr hb h
  subst e
  exact ⟨by rw [List.length_append]; omega, fun y hy => hb y (List.mem_append.2 (.inr hy))⟩
theorem numA_ok {most : Int} {s : RS} (h : Ok s) : Ok (numA most s).2 := by
  unfold numA
  split
  · exact h
  · split
    · exact ⟨h.b, h.l⟩
    · rename_i hg
      obtain ⟨h1, h2⟩ := getN_ok h.b hg
      exact ⟨h2, Nat.le_trans h1 h.l⟩
theorem textA_ok {most : Int} {s : RS} (h : Ok s) : Ok (textA most s).2 := by
  unfold textA
  split
  · exact h
  · split
    · exact ⟨h.b, h.l⟩
    · rename_i hg
      obtain ⟨h1, h2⟩ := getN_ok h.b hg
      split
      · exact ⟨h.b, h.l⟩
      · split
        · exact ⟨h.b, h.l⟩
        · exact ⟨h2.drop _, by dsimp only; rw [List.length_drop]; have := h.l; omega⟩
theorem digA_ok {s : RS} (h : Ok s) : Ok (digA s).2 := by
  unfold digA
  split
  · exact h
  · split
    · exact ⟨h.b, h.l⟩
    · exact ⟨h.b.drop _, by dsimp only; rw [List.length_drop]; have := h.l; omega⟩
theorem numA_0 (most : Int) (b : List Int) : numA most (b, 0) = match getN most b with | .inl e => (0, (b, e)) | .inr (x, rest) => ((x : Int), (rest, 0)) := by simp [numA]
theorem numA_e (most : Int) (b : List Int) {e : Int} (he : ¬ e = 0) : numA most (b, e) = (0, (b, e)) := by simp [numA, he]
theorem textA_0 (most : Int) (b : List Int) : textA most (b, 0) = match getN 18446744073709551615 b with | .inl e => ([], (b, e)) | .inr (n, rest) => if (n : Int) > most then ([], (b, 42)) else if n > rest.length then ([], (b, 40)) else (rest.take n, (rest.drop n, 0)) := by simp [textA]
theorem textA_e (most : Int) (b : List Int) {e : Int} (he : ¬ e = 0) : textA most (b, e) = ([], (b, e)) := by simp [textA, he]
theorem digA_0 (b : List Int) : digA (b, 0) = if b.length < 32 then (List.replicate 32 0, (b, 40)) else (b.take 32, (b.drop 32, 0)) := by simp [digA]
theorem digA_e (b : List Int) {e : Int} (he : ¬ e = 0) : digA (b, e) = (List.replicate 32 0, (b, e)) := by simp [digA, he]
theorem getN_ne {most : Int} {b : List Int} {q : Int} (hg : getN most b = .inl q) : ¬ q = 0 := by
  cases b with
  | nil => simp only [getN] at hg; injection hg with hg; rw [← hg]; decide
  | cons d t =>
    rw [getN] at hg
    split at hg
    · injection hg with hg; rw [← hg]; decide
    · split at hg
      · injection hg with hg; rw [← hg]; decide
      · split at hg
        · injection hg with hg; rw [← hg]; decide
        · split at hg
          · injection hg with hg; rw [← hg]; decide
          · cases hg
theorem rNum_f {s : RS} (h : Ok s) (most : Int) : Ev (fun k => juratref04_Reader_Num.f k ⟨s.1, s.2⟩ most) ((numA most s).1, (⟨(numA most s).2.1, (numA most s).2.2⟩ : TReader_)) := by
  obtain ⟨b, e⟩ := s
  have hl := h.l
  have hb := h.b
  dsimp only at hl hb
  unfold juratref04_Reader_Num.f
  dsimp only
  by_cases he : e = 0
  · subst he
    rw [numA_0]
    refine Ev.iteT rfl ?_
    cases b with
    | nil => simp only [getN]; exact Ev.iteT rfl (Ev.pure _)
    | cons d t =>
      have hd := hb d (by simp)
      unfold B8 at hd
      have ed : wi64 d = d := wi64_id (by omega) (by omega)
      rw [List.length_cons] at hl
      have e1 : wi64 (((d :: t).length : Int) - 1) = (t.length : Int) := by rw [List.length_cons, wi64_id (by omega) (by omega)]; omega
      refine Ev.iteF (by rw [List.length_cons]; omega) (Ev.iteT (by rw [List.length_cons]; omega) ?_)
      simp only [Int.toNat_zero, List.getD_cons_zero, ed, e1, getN]
      by_cases h8 : d > 8
      · simp only [if_pos h8]; exact Ev.pure _
      simp only [if_neg h8]
      by_cases hs : d > (t.length : Int)
      · simp only [if_pos hs]; exact Ev.pure _
      simp only [if_neg hs]
      have e2 : wi64 (1 + d) = 1 + d := wi64_id (by omega) (by omega)
      have e3 : (1 + d).toNat = d.toNat + 1 := by omega
      have e4 : ((d :: t).take (d.toNat + 1)).drop 1 = t.take d.toNat := by rw [List.take_succ_cons]; rfl
      have e5 : (d :: t).drop (d.toNat + 1) = t.drop d.toNat := rfl
      have hnum := number_ref (l := t.take d.toNat) (by rw [List.length_take]; omega) (hb.tail.take _)
      by_cases hz : 0 < d ∧ t.getD 0 0 = 0
      · simp only [if_pos hz]
        refine Ev.bind (a := true) (Ev.iteT hz.1 (Ev.iteT (by rw [List.length_cons]; omega) ?_)) (Ev.iteT rfl (Ev.pure _))
        simp only [show ((1 : Int).toNat) = 1 from rfl, List.getD_cons_succ]
        rw [decide_eq_true hz.2]; exact Ev.pure _
      · simp only [if_neg hz]
        refine Ev.bind (a := false) ?_ (Ev.iteF (by simp) ?_)
        · by_cases hd0 : d > 0
          · refine Ev.iteT hd0 (Ev.iteT (by rw [List.length_cons]; omega) ?_)
            simp only [show ((1 : Int).toNat) = 1 from rfl, List.getD_cons_succ]
            rw [decide_eq_false fun e => hz ⟨hd0, e⟩]; exact Ev.pure _
          · exact Ev.iteF hd0 (Ev.pure _)
        · simp only [e2, e3, show ((1 : Int).toNat) = 1 from rfl, e4, e5]
          refine Ev.iteT (by rw [List.length_cons]; omega) (Ev.bind hnum ?_)
          by_cases hm : (numV (t.take d.toNat) : Int) > most
          · simp only [if_pos hm]; exact Ev.pure _
          · simp only [if_neg hm]
            exact Ev.iteT (by rw [List.length_cons]; omega) (Ev.pure _)
  · rw [numA_e _ _ he]
    exact Ev.iteF he (Ev.pure _)
theorem rText_f {s : RS} (h : Ok s) {most : Int} (h0 : 0 ≤ most ∧ most ≤ 1000000) : Ev (fun k => juratref04_Reader_Text.f k ⟨s.1, s.2⟩ most) ((textA most s).1, (⟨(textA most s).2.1, (textA most s).2.2⟩ : TReader_)) := by
  have hn := rNum_f h 18446744073709551615
  have hok := numA_ok (most := 18446744073709551615) h
  obtain ⟨b, e⟩ := s
  have hl := h.l
  have hb := h.b
  dsimp only at hl hb hn
  unfold juratref04_Reader_Text.f
  dsimp only
  refine Ev.bind hn ?_
  by_cases he : e = 0
  · subst he
    rw [numA_0] at hok
    rw [numA_0, textA_0]
    cases hg : getN 18446744073709551615 b with
    | inl q => exact Ev.iteF (getN_ne hg) (Ev.pure _)
    | inr p =>
      obtain ⟨x, rest⟩ := p
      rw [hg] at hok
      have hrl := hok.l
      dsimp only at hrl ⊢
      have ew : wu64 most = most := wu64_id h0.1 (by omega)
      have el : wu64 (rest.length : Int) = (rest.length : Int) := wu64_id (by omega) (by omega)
      simp only [ew, el, Int.toNat_natCast]
      refine Ev.iteT trivial ?_
      by_cases hm : (x : Int) > most
      · rw [show (if (x : Int) > most then (([] : List Int), (b, (42 : Int))) else if x > rest.length then ([], (b, 40)) else (rest.take x, (rest.drop x, 0))) = ([], (b, 42)) from if_pos hm]
        exact Ev.iteT (by simp; omega) (Ev.pure _)
      · rw [show (if (x : Int) > most then (([] : List Int), (b, (42 : Int))) else if x > rest.length then ([], (b, 40)) else (rest.take x, (rest.drop x, 0))) = (if x > rest.length then ([], (b, 40)) else (rest.take x, (rest.drop x, 0))) from if_neg hm]
        refine Ev.iteF (by simp; omega) ?_
        by_cases hx : x > rest.length
        · rw [if_pos hx]; exact Ev.iteT (by omega) (Ev.pure _)
        · rw [if_neg hx]
          exact Ev.iteF (by omega) (Ev.iteT (by omega) (Ev.iteT (by rw [List.length_take]; omega) (Ev.iteT (by omega) (Ev.pure _))))
  · rw [numA_e _ _ he, textA_e _ _ he]
    exact Ev.iteF he (Ev.pure _)
theorem rDig_f {s : RS} (h : Ok s) : Ev (fun k => juratref04_Reader_Digest.f k ⟨s.1, s.2⟩) ((digA s).1, (⟨(digA s).2.1, (digA s).2.2⟩ : TReader_)) := by
  obtain ⟨b, e⟩ := s
  have hl := h.l
  dsimp only at hl
  unfold juratref04_Reader_Digest.f
  dsimp only
  by_cases he : e = 0
  · subst he
    rw [digA_0]
    refine Ev.iteT rfl ?_
    by_cases h32 : b.length < 32
    · rw [if_pos h32]; exact Ev.iteT (by omega) (Ev.pure _)
    · rw [if_neg h32]
      refine Ev.iteF (by omega) ?_
      have hloop : Ev (fun k => juratref04_Reader_Digest.l1 k ⟨b, 0⟩ 0 (List.replicate 32 0)) (b.take 32) := by
        refine Ev.loop (n := 32) (F := fun k i (x : List Int) => juratref04_Reader_Digest.l1 k ⟨b, 0⟩ (i : Int) x) (fun i x => x = b.take i ++ List.replicate (32 - i) 0) (fun i x hi hI => ?_) (fun x hI => ?_) _ rfl
        · subst hI
          have htl : (b.take i).length = i := by rw [List.length_take]; omega
          have es : (b.take i ++ List.replicate (32 - i) 0).set i (b.getD i 0) = b.take (i + 1) ++ List.replicate (32 - (i + 1)) 0 := by
            rw [List.set_append_right _ _ (by omega), htl, Nat.sub_self, take_succ 0 (by omega), show 32 - i = (32 - (i + 1)) + 1 by omega, List.replicate_succ, List.set_cons_zero, List.append_assoc]; rfl
          refine .inr ⟨_, rfl, fun k => ?_⟩
          rw [← es] at k
          simp only [juratref04_Reader_Digest.l1, Int.toNat_natCast, wi64_j (show i < 9223372036854775807 by omega)]
          exact Ev.iteT (by omega) (Ev.iteT (by omega) (Ev.iteT (by omega) k))
        · subst hI
          simp only [juratref04_Reader_Digest.l1, Nat.sub_self, List.replicate_zero, List.append_nil]
          exact Ev.iteF (by decide) (Ev.pure _)
      exact Ev.bind hloop (Ev.iteT (by omega) (Ev.pure _))
  · rw [digA_e _ he]
    exact Ev.iteF he (Ev.pure _)
theorem rEnd_f (s : RS) (k : Nat) : ∃ r, juratref04_Reader_End.f k ⟨s.1, s.2⟩ = some (endA s, r) := by
  obtain ⟨b, e⟩ := s
  unfold juratref04_Reader_End.f endA
  dsimp only
  by_cases he : e = 0
  · by_cases hb : b = []
    · exact ⟨⟨b, e⟩, by rw [if_pos he, Option.bind_some, hb]; simp⟩
    · have : 0 < b.length := List.length_pos_iff.2 hb
      exact ⟨⟨b, 43⟩, by rw [if_pos he, Option.bind_some, if_pos (by simp; omega), if_pos ⟨he, hb⟩]⟩
  · exact ⟨⟨b, e⟩, by rw [if_neg he, Option.bind_some, if_neg (by simp), if_neg fun k => he k.1]⟩
end Go.Proofs.YtobdpbnadjkhiaaGreat.Rc
