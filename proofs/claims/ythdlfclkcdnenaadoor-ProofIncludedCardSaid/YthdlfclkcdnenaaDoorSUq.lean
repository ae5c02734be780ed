/- Plain laws of proofs: what the laws compare. -/
import Derived.Test.YthdlfclkcdnenaaDoorSUp
import Derived.Test.YthdlfclkcdnenaaDoorSUt
import Derived.Test.YthdlfclkcdnenaaDoorSUf
import Derived.Test.YthdlfclkcdnenaaDoorSGr
set_option linter.unusedSimpArgs false
set_option linter.unusedVariables false
namespace Go.Proofs.YthdlfclkcdnenaaDoor.Pure
open Go.WG Go.Proofs.YthdlfclkcdnenaaDoor
theorem okB33 {x : List Int} (h : ok33 x) : x.length = 32 ∧ AllB x := ⟨h.1, fun y hy => wf8 (h.2 y hy)⟩
theorem okB28 {x : List Int} (h : ok28 x) : AllB x := fun y hy => wf8 (h.2 y hy)
theorem okE {l : List (List Int)} (h : ok31 l) : AllE l := fun d hd => okB33 (h.2 d hd)
/-- The proof of a place, or the error, either way. -/
theorem include_both (l : List (List Int)) (i : Int) (hl : l.length ≤ 256) (hE : AllE l) : ∃ r : List (List Int) × Int, r.1.length ≤ 1000 ∧ Ev (fun k => proof_Include.f k l i) r ∧ Ev (fun k => juratref08_Include.f k l i) r := by
  by_cases hi : i < 0 ∨ (l.length : Int) ≤ i
  · exact ⟨([], 1), by simp, (Ev.pure _).congr fun k => include_bad k l i hi, (Ev.pure _).congr fun k => Include_bad k l i hi⟩
  · obtain ⟨j, rfl⟩ : ∃ j : Nat, i = (j : Int) := ⟨i.toNat, by omega⟩
    have := incF_len l.length l j
    exact ⟨(incD l j, 0), by unfold incD; simp only; omega, include_f l j (by omega) hl hE.d, Include_ref l j (by omega) (by omega) hE⟩
theorem consist_both (l : List (List Int)) (i : Int) (hl : l.length ≤ 256) (hE : AllE l) : ∃ r : List (List Int) × Int, r.1.length ≤ 1000 ∧ Ev (fun k => proof_Consist.f k l i) r ∧ Ev (fun k => juratref08_Consist.f k l i) r := by
  by_cases hi : i < 0 ∨ (l.length : Int) < i
  · exact ⟨([], 1), by simp, (Ev.pure _).congr fun k => consist_bad k l i hi, (Ev.pure _).congr fun k => Consist_bad k l i hi⟩
  · obtain ⟨j, rfl⟩ : ∃ j : Nat, i = (j : Int) := ⟨i.toNat, by omega⟩
    have h1 := partF_len l.length l j true
    refine ⟨(conD l j, 0), ?_, consist_f l j (by omega) hl hE.d, Consist_ref l j (by omega) (by omega) hE⟩
    unfold conD
    split
    · simp
    · simp only; omega
/-- A proof of a place, checked, either way. -/
theorem included_both (x : List Int) (i n : Int) (P : List (List Int)) (root : List Int) (hn : n < 9223372036854775808) (hE : AllE P) (hb : P.length ≤ 1000000) (hx : x.length = 32) (hxB : AllB x) :
    ∃ r, Ev (fun k => proof_Included.f k x i n P root) r ∧ Ev (fun k => juratref08_Included.f k x i n P root) r := by
  by_cases hi : i < 0 ∨ n ≤ i
  · exact ⟨false, (Ev.pure _).congr fun k => included_bad k x i n P root hi, (Ev.pure _).congr fun k => Included_bad k x i n P root hi⟩
  · obtain ⟨j, rfl⟩ : ∃ j : Nat, i = (j : Int) := ⟨i.toNat, by omega⟩
    obtain ⟨m, rfl⟩ : ∃ j : Nat, n = (j : Int) := ⟨n.toNat, by omega⟩
    exact ⟨_, included_f x j m P root (by omega) (by omega) hE.d hb hx, Included_ref x j m P root (by omega) (by omega) hE hb hx hxB⟩
/-- A proof of a beginning, checked, either way. -/
theorem consistent_both (m n : Int) (P : List (List Int)) (old root : List Int) (hn : n < 9223372036854775808) (hE : AllE P) (hb : P.length ≤ 1000000) (ho : old.length = 32) (hoB : AllB old) :
    ∃ r, Ev (fun k => proof_Consistent.f k m n P old root) r ∧ Ev (fun k => juratref08_Consistent.f k m n P old root) r := by
  by_cases hi : m < 0 ∨ n < m
  · have g1 : (decide (m < 0) || decide (m > n)) = true := by simp; omega
    exact ⟨false, Ev.iteT g1 (Ev.pure _), Ev.iteT g1 (Ev.pure _)⟩
  · obtain ⟨a, rfl⟩ : ∃ j : Nat, m = (j : Int) := ⟨m.toNat, by omega⟩
    obtain ⟨b, rfl⟩ : ∃ j : Nat, n = (j : Int) := ⟨n.toNat, by omega⟩
    have g1 : ¬ (decide ((a : Int) < 0) || decide ((a : Int) > (b : Int))) = true := by simp; omega
    by_cases h0 : a = 0
    · have g2 : (a : Int) = 0 := by omega
      have hnil : AllE [] := fun d hd => by cases hd
      have hr := root_f [] (by simp) hnil.d
      have hr' := (root_ref 0 [] (by simp) (by omega) hnil).2
      by_cases hP : (P.length : Int) = 0
      · refine ⟨decide (old = rootD []), Ev.iteF g1 (Ev.iteT g2 ?_), Ev.iteF g1 (Ev.iteT g2 ?_)⟩
        · simp only [if_pos hP]
          refine Ev.bind (a := decide (old = rootD [])) ?_ (Ev.pure _)
          refine Ev.bind hr ?_
          exact Ev.pure _
        · simp only [if_pos hP]
          refine Ev.bind (a := decide (old = rootD [])) ?_ (Ev.pure _)
          refine Ev.bind hr' ?_
          exact Ev.pure _
      · refine ⟨false, Ev.iteF g1 (Ev.iteT g2 ?_), Ev.iteF g1 (Ev.iteT g2 ?_)⟩
        · simp only [if_neg hP]; exact Ev.pure _
        · simp only [if_neg hP]; exact Ev.pure _
    · have g2 : ¬ (a : Int) = 0 := by omega
      by_cases hab : a = b
      · have g3 : (a : Int) = (b : Int) := by omega
        by_cases hP : (P.length : Int) = 0
        · refine ⟨decide (old = root), Ev.iteF g1 (Ev.iteF g2 (Ev.iteT g3 ?_)), Ev.iteF g1 (Ev.iteF g2 (Ev.iteT g3 ?_))⟩
          · simp only [if_pos hP]; exact Ev.pure _
          · simp only [if_pos hP]; exact Ev.pure _
        · refine ⟨false, Ev.iteF g1 (Ev.iteF g2 (Ev.iteT g3 ?_)), Ev.iteF g1 (Ev.iteF g2 (Ev.iteT g3 ?_))⟩
          · simp only [if_neg hP]; exact Ev.pure _
          · simp only [if_neg hP]; exact Ev.pure _
      · have g3 : ¬ (a : Int) = (b : Int) := by omega
        obtain ⟨x, r, c, _, _, _, _, h, hb1, hb2⟩ := leads_ref old ho hoB P.length a b true P rfl (by omega) (by omega) (.inl (by omega)) (by omega) hb hE
        have hiff : (c && (decide (x = old) && decide (r = root))) = true ↔ ConOk a b P old root := by
          rw [Bool.and_eq_true, Bool.and_eq_true, decide_eq_true_iff, decide_eq_true_iff, hb1]
          constructor
          · rintro ⟨h1, h2, h3⟩
            obtain ⟨q1, q2⟩ := hb2 (hb1.2 h1)
            unfold PartOk at h1
            unfold PartA at q1
            unfold PartB at q2
            unfold ConOk
            by_cases hs : (startN a b).1 = 0
            · rw [if_pos ⟨rfl, hs⟩] at h1 q1 q2
              rw [if_pos hs]; exact ⟨h1, q1 ▸ h2, q2 ▸ h3⟩
            · have hs' : ¬ (true = true ∧ (startN a b).1 = 0) := fun h => hs h.2
              rw [if_neg hs'] at h1 q1 q2
              rw [if_neg hs]; exact ⟨h1.1, h1.2, q1 ▸ h2, q2 ▸ h3⟩
          · intro hc
            unfold ConOk at hc
            by_cases hs : (startN a b).1 = 0
            · rw [if_pos hs] at hc
              have h1 : PartOk a b true P := by unfold PartOk; rw [if_pos ⟨rfl, hs⟩]; exact hc.1
              obtain ⟨q1, q2⟩ := hb2 (hb1.2 h1)
              unfold PartA at q1
              unfold PartB at q2
              rw [if_pos ⟨rfl, hs⟩] at q1 q2
              exact ⟨h1, q1.trans hc.2.1, q2.trans hc.2.2⟩
            · have hs' : ¬ (true = true ∧ (startN a b).1 = 0) := fun h => hs h.2
              rw [if_neg hs] at hc
              have h1 : PartOk a b true P := by unfold PartOk; rw [if_neg hs']; exact ⟨hc.1, hc.2.1⟩
              obtain ⟨q1, q2⟩ := hb2 (hb1.2 h1)
              unfold PartA at q1
              unfold PartB at q2
              rw [if_neg hs'] at q1 q2
              exact ⟨h1, q1.trans hc.2.2.1, q2.trans hc.2.2.2⟩
        refine ⟨_, consistent_f a b P old root (by omega) (by omega) (by omega) hE.d hb ho _ hiff, Ev.iteF g1 (Ev.iteF g2 (Ev.iteF g3 (Ev.bind h ?_)))⟩
        refine (Ev.pure _).congr fun k => ?_
        cases c with
        | false => simp
        | true =>
          by_cases hx : x = old
          · simp [hx]
          · simp [hx]
end Go.Proofs.YthdlfclkcdnenaaDoor.Pure
