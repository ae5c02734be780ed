/- Plain laws of bytes: the program's readers. -/
import Derived.Test.YtobdpbnadjkhiaaGreatTRc
namespace Go.Proofs.YtobdpbnadjkhiaaGreat.Rc
open Go.WG Go.Proofs.YtobdpbnadjkhiaaGreat
set_option linter.unusedSimpArgs false
set_option linter.unusedVariables false
/-- The program's reader is at what the document's has left. -/
structure At (r : TReader) (s : RS) : Prop where
  a : 0 ≤ r.at_ ∧ r.at_ ≤ (r.b.length : Int)
  l : r.b.length ≤ 1000
  d : r.b.drop r.at_.toNat = s.1
  q : r.e = s.2
  w : AllB r.b
theorem At.good {r : TReader} {s : RS} (h : At r s) : Ok s := ⟨by rw [← h.d]; exact h.w.drop _, by rw [← h.d, List.length_drop]; have := h.l; omega⟩
theorem At.len {r : TReader} {s : RS} (h : At r s) : (s.1.length : Int) = (r.b.length : Int) - r.at_ := by
  rw [← h.d, List.length_drop]; have := h.a; omega
theorem At.err {r : TReader} {s : RS} (h : At r s) (e : Int) : At ⟨r.b, r.at_, e⟩ (s.1, e) := ⟨h.a, h.l, h.d, rfl, h.w⟩
theorem At.fwd {r : TReader} {s : RS} (h : At r s) (n : Nat) (hn : n ≤ s.1.length) : At ⟨r.b, r.at_ + n, r.e⟩ (s.1.drop n, s.2) := by
  have := h.len
  have ha := h.a
  refine ⟨by dsimp only; omega, h.l, ?_, h.q, h.w⟩
  dsimp only
  rw [← h.d, List.drop_drop]
  congr 1
  omega
theorem take_f {r : TReader} {s : RS} (h : At r s) {n : Int} (h0 : 0 ≤ n ∧ n < 18446744073709551616) (k : Nat) :
    wire_Reader_take.f k r n = some (if n > (s.1.length : Int) then ([], false, r) else (s.1.take n.toNat, true, ⟨r.b, r.at_ + n, r.e⟩)) := by
  unfold wire_Reader_take.f
  have hl := h.len; have ha := h.a; have hb := h.l
  have e1 : wu64 (wi64 ((r.b.length : Int) - r.at_)) = (s.1.length : Int) := by rw [wi64_id (by omega) (by omega), wu64_id (by omega) (by omega)]; omega
  rw [e1]
  by_cases g : n > (s.1.length : Int)
  · rw [if_pos g, if_pos g]
  · rw [if_neg g, if_neg g]
    have e2 : wi64 n = n := wi64_id (by omega) (by omega)
    have e3 : wi64 (r.at_ + n) = r.at_ + n := wi64_id (by omega) (by omega)
    rw [e2, e3, if_pos (by omega), ← h.d, List.take_drop]
    congr 3
    congr 1
    omega
theorem off_f (r : TReader) (k : Nat) : wire_Reader_off.f k r = some (!decide (r.e = 0)) := rfl
theorem fails_f (r : TReader) (e w : Int) (k : Nat) : wire_Reader_fails.f k r e w = some ⟨r.b, w, e⟩ := rfl
theorem pNum_f {r : TReader} {s : RS} (h : At r s) {most : Int} (hm0 : 0 ≤ most) : ∃ r', Ev (fun k => wire_Reader_Num.f k r most) ((numA most s).1, r') ∧ At r' (numA most s).2 ∧ r'.b = r.b := by
  unfold wire_Reader_Num.f
  simp only [off_f, Option.bind_some, fails_f]
  obtain ⟨b, e⟩ := s
  have he' := h.q
  dsimp only at he'
  by_cases he : e = 0
  · subst he
    rw [numA_0]
    have h1 := take_f h (n := 1) (by omega)
    have hb : AllB b := by have := h.good.b; exact this
    have hl1 : b.length ≤ 1000 := h.good.l
    rw [decide_eq_true he']
    simp only [h1, Option.bind_some]
    cases b with
    | nil =>
      simp only [getN, List.length_nil]
      exact ⟨⟨r.b, r.at_, 40⟩, Ev.iteF (by simp) (by rw [if_pos (by decide)]; exact Ev.iteF (by simp) (Ev.pure _)), h.err 40, rfl⟩
    | cons d t =>
      have hd := hb d (by simp)
      unfold B8 at hd
      rw [List.length_cons] at hl1
      have hF := h.fwd 1 (by rw [List.length_cons]; omega)
      have e1 : (List.take (Int.toNat 1) (d :: t)) = [d] := rfl
      have hF' : At ⟨r.b, r.at_ + 1, r.e⟩ (t, 0) := hF
      have ew : wu64 d = d := wu64_id (by omega) (by omega)
      have h2 := take_f hF' (n := d) (by omega)
      rw [if_neg (show ¬ (1 : Int) > (((d :: t, (0 : Int)) : RS).1.length : Int) by simp only [List.length_cons]; omega)]
      simp only [e1, List.getD_cons_zero, Int.toNat_zero, ew, h2, Option.bind_some, getN]
      have fin : ∀ {f : Nat → Option (Int × TReader)} {x : Int} {r' : TReader} {s' : RS}, Ev f (x, r') → At r' s' → r'.b = r.b → ∃ r', Ev (fun k => if (!true) = true then some (0, r) else if true = true then (if 0 ≤ (0 : Int) ∧ (0 : Int) < ([d].length : Int) then f k else none) else some (0, (⟨r.b, r.at_, 40⟩ : TReader))) (x, r') ∧ At r' s' ∧ r'.b = r.b := fun hf ha hb => ⟨_, Ev.iteF (by simp) (Ev.iteT rfl (Ev.iteT (by simp) hf)), ha, hb⟩
      by_cases h8 : d > 8
      · simp only [if_pos h8]; exact fin (Ev.pure _) (h.err 41) rfl
      simp only [if_neg h8]
      by_cases hs : d > (t.length : Int)
      · simp only [if_pos hs]
        refine fin ?_ (h.err 40) rfl
        exact Ev.bind (number_prog (l := []) (by simp) (fun y hy => by cases hy)) (Ev.iteF (by simp) (Ev.pure _))
      simp only [if_neg hs]
      have hnum := number_prog (l := t.take d.toNat) (by rw [List.length_take]; omega) (hb.tail.take _)
      have htl : (t.take d.toNat).length = d.toNat := by rw [List.length_take]; omega
      by_cases hz : 0 < d ∧ t.getD 0 0 = 0
      · simp only [if_pos hz]
        refine fin ?_ (h.err 41) rfl
        refine Ev.bind hnum (Ev.iteT trivial (Ev.bind (a := true) (Ev.iteT (by omega) (Ev.iteT (by omega) ?_)) (Ev.iteT rfl (Ev.pure _))))
        have : (t.take d.toNat).getD 0 0 = 0 := by
          rw [List.getD_eq_getElem?_getD, List.getElem?_take, if_pos (by omega), ← List.getD_eq_getElem?_getD]; exact hz.2
        rw [decide_eq_true this]; exact Ev.pure _
      · simp only [if_neg hz]
        have hgo : Ev (fun k => if ((t.take d.toNat).length : Int) > 0 then (if 0 ≤ (0 : Int) ∧ (0 : Int) < ((t.take d.toNat).length : Int) then (some (decide ((t.take d.toNat).getD 0 0 = 0))) else none) else (some false)) false := by
          by_cases hd0 : d > 0
          · refine Ev.iteT (by omega) (Ev.iteT (by omega) ?_)
            have : ¬ (t.take d.toNat).getD 0 0 = 0 := fun e => hz ⟨hd0, by
              rw [List.getD_eq_getElem?_getD, List.getElem?_take, if_pos (by omega), ← List.getD_eq_getElem?_getD] at e; exact e⟩
            rw [decide_eq_false this]; exact Ev.pure _
          · exact Ev.iteF (by omega) (Ev.pure _)
        have hA : At ⟨r.b, r.at_ + 1 + d, r.e⟩ (t.drop d.toNat, 0) := by
          have := hF'.fwd d.toNat (by dsimp only; omega)
          have e : (r.at_ + 1 + ((d.toNat : Nat) : Int)) = r.at_ + 1 + d := by omega
          rw [e] at this
          exact this
        by_cases hm : (numV (t.take d.toNat) : Int) > most
        · simp only [if_pos hm]
          exact fin (Ev.bind hnum (Ev.iteT trivial (Ev.bind hgo (Ev.iteF (by simp) (Ev.iteT hm (Ev.pure _)))))) (h.err 42) rfl
        · simp only [if_neg hm]
          exact fin (Ev.bind hnum (Ev.iteT trivial (Ev.bind hgo (Ev.iteF (by simp) (Ev.iteF hm (Ev.pure _)))))) hA rfl
  · rw [numA_e _ _ he]
    refine ⟨r, ?_, h, rfl⟩
    rw [decide_eq_false (by rw [he']; exact he)]
    exact Ev.iteT rfl (Ev.pure _)
theorem pText_f {r : TReader} {s : RS} (h : At r s) {most : Int} (h0 : 0 ≤ most ∧ most ≤ 1000000) : ∃ r', Ev (fun k => wire_Reader_Text.f k r most) ((textA most s).1, r') ∧ At r' (textA most s).2 := by
  obtain ⟨r1, hn, h1, hbb⟩ := pNum_f h (most := 18446744073709551615) (by decide)
  unfold wire_Reader_Text.f wire_Reader_count.f
  simp only [off_f, Option.bind_some, fails_f]
  obtain ⟨b, e⟩ := s
  have he' := h.q
  dsimp only at he'
  by_cases he : e = 0
  · subst he
    rw [textA_0]
    rw [numA_0] at hn h1
    rw [decide_eq_true he']
    have ew : wu64 most = most := wu64_id h0.1 (by omega)
    simp only [ew]
    cases hg : getN 18446744073709551615 b with
    | inl q =>
      have hq := getN_ne hg
      rw [hg] at hn h1
      have he1 := h1.q
      dsimp only at he1 hn h1 ⊢
      refine ⟨r1, Ev.iteF (by simp) (Ev.bind (a := (0, r1)) (Ev.bind hn (Ev.iteF (by simp [he1, hq]) (Ev.pure _))) ?_), h1⟩
      rw [decide_eq_false (by rw [he1]; exact hq)]
      exact Ev.iteT rfl (Ev.pure _)
    | inr p =>
      obtain ⟨x, rest⟩ := p
      rw [hg] at hn h1
      have he1 := h1.q
      have hlr := h1.good.l
      have hx64 := getN_inr h.good.b hg
      dsimp only at he1 hn h1 hlr ⊢
      by_cases hm : (x : Int) > most
      · rw [show (if (x : Int) > most then (([] : List Int), (b, (42 : Int))) else if x > rest.length then ([], (b, 40)) else (rest.take x, (rest.drop x, 0))) = ([], (b, 42)) from if_pos hm]
        have hA : At ⟨r1.b, r.at_, 42⟩ (b, 42) := by rw [hbb]; exact h.err 42
        refine ⟨⟨r1.b, r.at_, 42⟩, Ev.iteF (by simp) (Ev.bind (a := ((x : Int), ⟨r1.b, r.at_, 42⟩)) (Ev.bind hn (Ev.iteT (by simp [he1]; omega) (Ev.pure _))) ?_), hA⟩
        exact Ev.iteT rfl (Ev.pure _)
      · rw [show (if (x : Int) > most then (([] : List Int), (b, (42 : Int))) else if x > rest.length then ([], (b, 40)) else (rest.take x, (rest.drop x, 0))) = (if x > rest.length then ([], (b, 40)) else (rest.take x, (rest.drop x, 0))) from if_neg hm]
        have ht := take_f h1 (n := (x : Int)) (by omega)
        have hoff : Ev (fun k => some (!decide (r1.e = 0))) false := by rw [decide_eq_true he1]; exact Ev.pure _
        by_cases hx : x > rest.length
        · rw [if_pos hx]
          rw [if_pos (by dsimp only; omega)] at ht
          have hA : At ⟨r1.b, r.at_, 40⟩ (b, 40) := by rw [hbb]; exact h.err 40
          refine ⟨⟨r1.b, r.at_, 40⟩, Ev.iteF (by simp) (Ev.bind (a := ((x : Int), r1)) (Ev.bind hn (Ev.iteF (by simp [he1]; omega) (Ev.pure _))) ?_), hA⟩
          rw [decide_eq_true he1]
          simp only [ht, Option.bind_some]
          exact Ev.iteF (by simp) (Ev.iteF (by simp) (Ev.pure _))
        · rw [if_neg hx]
          rw [if_neg (by dsimp only; omega)] at ht
          have hF := h1.fwd x (by dsimp only; omega)
          refine ⟨⟨r1.b, r1.at_ + x, r1.e⟩, Ev.iteF (by simp) (Ev.bind (a := ((x : Int), r1)) (Ev.bind hn (Ev.iteF (by simp [he1]; omega) (Ev.pure _))) ?_), hF⟩
          rw [decide_eq_true he1]
          simp only [ht, Option.bind_some, Int.toNat_natCast]
          exact Ev.iteF (by simp) (Ev.iteT trivial (Ev.iteT (by rw [List.length_take]; omega) (Ev.pure _)))
  · rw [textA_e _ _ he]
    refine ⟨r, ?_, h⟩
    rw [decide_eq_false (by rw [he']; exact he)]
    exact Ev.iteT rfl (Ev.pure _)
theorem pDig_f {r : TReader} {s : RS} (h : At r s) : ∃ r', Ev (fun k => wire_Reader_Digest.f k r) ((digA s).1, r') ∧ At r' (digA s).2 := by
  unfold wire_Reader_Digest.f
  have ht := take_f h (n := 32) (by decide)
  obtain ⟨b, e⟩ := s
  have he' := h.q
  dsimp only at he' ht
  by_cases he : e = 0
  · subst he
    rw [digA_0]
    by_cases h32 : b.length < 32
    · rw [if_pos h32]
      rw [if_pos (by omega)] at ht
      simp only [off_f, Option.bind_some, fails_f, ht]
      rw [decide_eq_true he']
      exact ⟨⟨r.b, r.at_, 40⟩, Ev.iteF (by simp) (Ev.iteF (by simp) (Ev.pure _)), h.err 40⟩
    · rw [if_neg h32]
      rw [if_neg (by omega)] at ht
      have e1 : copyL 32 (List.replicate 32 0) (b.take 32) = b.take 32 := by
        have : (b.take 32).length = 32 := by rw [List.length_take]; omega
        unfold copyL
        rw [this, List.take_of_length_le (by omega)]
        simp
      simp only [off_f, Option.bind_some, fails_f, ht, show ((32 : Int).toNat) = 32 from rfl, e1]
      rw [decide_eq_true he']
      exact ⟨⟨r.b, r.at_ + 32, r.e⟩, Ev.iteF (by simp) (Ev.iteT trivial (Ev.pure _)), h.fwd 32 (by dsimp only; omega)⟩
  · rw [digA_e _ he]
    simp only [off_f, Option.bind_some]
    rw [decide_eq_false (by rw [he']; exact he)]
    exact ⟨r, Ev.iteT rfl (Ev.pure _), h⟩
theorem pEnd_f {r : TReader} {s : RS} (h : At r s) : ∃ r', Ev (fun k => wire_Reader_End.f k r) (endA s, r') := by
  unfold wire_Reader_End.f wire_Reader_Left.f wire_Reader_Err.f
  have hl := h.len; have ha := h.a; have hb := h.l
  have e1 : wi64 ((r.b.length : Int) - r.at_) = (s.1.length : Int) := by rw [wi64_id (by omega) (by omega)]; omega
  simp only [off_f, Option.bind_some, fails_f, e1]
  obtain ⟨b, e⟩ := s
  have he' := h.q
  dsimp only at he' ⊢
  unfold endA
  dsimp only
  by_cases he : e = 0
  · rw [decide_eq_true (by rw [he']; exact he)]
    by_cases hb : b = []
    · refine ⟨r, Ev.bind (a := false) (Ev.iteF (by simp) ?_) (Ev.iteF (by simp) ?_)⟩
      · rw [hb]; exact Ev.pure _
      · rw [if_neg fun k => k.2 hb, he']; exact Ev.pure _
    · have : 0 < b.length := List.length_pos_iff.2 hb
      refine ⟨⟨r.b, r.at_, 43⟩, Ev.bind (a := true) (Ev.iteF (by simp) ?_) (Ev.iteT rfl ?_)⟩
      · rw [decide_eq_true (by omega)]; exact Ev.pure _
      · rw [if_pos ⟨he, hb⟩]; exact Ev.pure _
  · rw [decide_eq_false (by rw [he']; exact he)]
    refine ⟨r, Ev.bind (a := false) (Ev.iteT rfl (Ev.pure _)) (Ev.iteF (by simp) ?_)⟩
    rw [if_neg fun k => he k.1, he']; exact Ev.pure _
end Go.Proofs.YtobdpbnadjkhiaaGreat.Rc
