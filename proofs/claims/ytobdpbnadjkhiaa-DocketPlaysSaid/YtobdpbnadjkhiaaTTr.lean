/- Plain laws of tallies: the document's. -/
import Derived.Test.YtobdpbnadjkhiaaTTb
namespace Go.Proofs.Ytobdpbnadjkhiaa.Ta
open Go.WG Go.Proofs.Ytobdpbnadjkhiaa
set_option linter.unusedSimpArgs false
set_option linter.unusedVariables false
theorem same18_f (a b : List Int) (hb : a.length ≤ 1000000000) : Ev (fun k => juratref18_Same.f k a b) (decide (a = b)) := by
 unfold juratref18_Same.f
 by_cases he : a.length = b.length
 ·refine Ev.iteT (by omega) ?_
  have hloop : Ev (fun k => juratref18_Same.l1 k a b 0) (if a = b then Sum.inl () else Sum.inr false) := by
   refine Ev.loop (n := a.length) (F := fun k j (_ : Unit) => juratref18_Same.l1 k a b (j : Int)) (fun j _ => a.take j = b.take j) (fun j _ hj hI => ?_) (fun _ hI => ?_) () rfl
   ·simp only [juratref18_Same.l1]
    by_cases h0 : a.getD j 0 = b.getD j 0
    ·refine .inr ⟨(), by rw [take_succ 0 hj, take_succ 0 (by omega), hI, h0], fun h => Ev.iteT (by omega) (Ev.iteT (by omega) (Ev.iteT (by omega) ?_))⟩
     simp only [Int.toNat_natCast, if_pos h0, wi64_j (show j < 9223372036854775807 by omega)]
     exact h
    ·refine .inl (Ev.iteT (by omega) (Ev.iteT (by omega) (Ev.iteT (by omega) ?_)))
     rw [if_neg (fun e : a = b => h0 (by rw [e]))]
     simp only [Int.toNat_natCast, if_neg h0]
     exact Ev.pure _
   ·simp only [juratref18_Same.l1]
    rw [List.take_length, List.take_of_length_le (by omega)] at hI
    rw [if_pos hI]
    exact Ev.iteF (by omega) (Ev.pure _)
  refine Ev.bind hloop ?_
  by_cases e : a = b
  ·simp only [if_pos e, decide_eq_true e, sumE]; exact Ev.pure _
  ·simp only [if_neg e, decide_eq_false e, sumE]; exact Ev.pure _
 ·rw [decide_eq_false (fun e => he (by rw [e]))]
  exact Ev.iteF (by omega) (Ev.pure _)
theorem first_f {l : List TCast} (hl : Votes l) {i : Nat} (hi : i < l.length) : Ev (fun k => juratref19_first.f k l (i : Int)) (!decide ((l.getD i TCast.z).Worker ∈ who (l.take i) (l.getD i TCast.z).Value)) := by
 unfold juratref19_first.f
 have hloop : Ev (fun k => juratref19_first.l1 k l (i : Int) 0) (if (l.getD i TCast.z).Worker ∈ who (l.take i) (l.getD i TCast.z).Value then Sum.inr false else Sum.inl ()) := by
  refine Ev.loop (n := i) (F := fun k j (_ : Unit) => juratref19_first.l1 k l (i : Int) (j : Int)) (fun j _ => ¬ (l.getD i TCast.z).Worker ∈ who (l.take j) (l.getD i TCast.z).Value) (fun j _ hj hI => ?_) (fun _ hI => ?_) () (by simp [who])
  ·simp only [juratref19_first.l1, Int.toNat_natCast, wi64_j (show j < 9223372036854775807 by have := hl.1; omega)]
   have hv := (hl.at (show j < l.length by omega)).1
   by_cases h1 : (l.getD j TCast.z).Worker = (l.getD i TCast.z).Worker
   ·by_cases h2 : (l.getD j TCast.z).Value = (l.getD i TCast.z).Value
    ·rw [if_pos ((who_mem _ _ _).2 ⟨l.getD j TCast.z, (mem_take TCast.z (by omega)).2 ⟨j, hj, rfl⟩, h2, h1⟩)]
     left
     repeat' (first | assumption | exact Ev.pure _ | apply Ev.iteT (by first | assumption | omega | exact trivial | exact Bool.false_ne_true | exact rfl | (simp only [decide_eq_true_eq]; assumption) | (simp only [decide_eq_true_eq]; omega)) | apply Ev.iteF (by first | assumption | omega | exact trivial | exact Bool.false_ne_true | exact rfl | (simp only [decide_eq_true_eq]; assumption) | (simp only [decide_eq_true_eq]; omega)) | (apply Ev.bind (same1_f _ _ (by omega)); try dsimp only; try simp only [Int.toNat_natCast]) | exact (same1_f _ _ (by omega)) | apply Ev.bind)
    ·refine .inr ⟨(), ?_, fun h => ?_⟩
     ·rw [take_succ TCast.z (by omega), who_snoc, if_neg h2]; exact hI
     repeat' (first | assumption | exact Ev.pure _ | apply Ev.iteT (by first | assumption | omega | exact trivial | exact Bool.false_ne_true | exact rfl | (simp only [decide_eq_true_eq]; assumption) | (simp only [decide_eq_true_eq]; omega)) | apply Ev.iteF (by first | assumption | omega | exact trivial | exact Bool.false_ne_true | exact rfl | (simp only [decide_eq_true_eq]; assumption) | (simp only [decide_eq_true_eq]; omega)) | (apply Ev.bind (same1_f _ _ (by omega)); try dsimp only; try simp only [Int.toNat_natCast]) | exact (same1_f _ _ (by omega)) | apply Ev.bind)
   ·refine .inr ⟨(), ?_, fun h => ?_⟩
    ·rw [take_succ TCast.z (by omega), who_snoc]
     split
     ·rw [List.mem_append, List.mem_singleton]
      rintro (h | h)
      ·exact hI h
      ·exact h1 h.symm
     ·exact hI
    repeat' (first | assumption | exact Ev.pure _ | apply Ev.iteT (by first | assumption | omega | exact trivial | exact Bool.false_ne_true | exact rfl | (simp only [decide_eq_true_eq]; assumption) | (simp only [decide_eq_true_eq]; omega)) | apply Ev.iteF (by first | assumption | omega | exact trivial | exact Bool.false_ne_true | exact rfl | (simp only [decide_eq_true_eq]; assumption) | (simp only [decide_eq_true_eq]; omega)) | apply Ev.bind)
  ·simp only [juratref19_first.l1]
   rw [if_neg hI]
   exact Ev.iteF (by omega) (Ev.pure _)
 refine Ev.bind hloop ?_
 by_cases h : (l.getD i TCast.z).Worker ∈ who (l.take i) (l.getD i TCast.z).Value
 ·rw [if_pos h, decide_eq_true h]; exact Ev.pure _
 ·rw [if_neg h, decide_eq_false h]; exact Ev.pure _
theorem refCount_f {l : List TCast} (hl : Votes l) {v : List Int} (hv : Byt v) : Ev (fun k => juratref19_Count.f k l v) (cnt l v : Int) := by
 unfold juratref19_Count.f
 have hloop : Ev (fun k => juratref19_Count.l1 k l v 0 0) (cnt l v : Int) := by
  refine Ev.loop (n := l.length) (F := fun k j (s : Int) => juratref19_Count.l1 k l v s (j : Int)) (fun j s => s = (cnt (l.take j) v : Int)) (fun j s hj hI => ?_) (fun s hI => ?_) 0 (by simp [cnt, who, ded])
  ·simp only [juratref19_Count.l1, Int.toNat_natCast, wi64_j (show j < 9223372036854775807 by have := hl.1; omega)]
   have hvj := (hl.at hj).1
   have hcl : cnt (l.take j) v ≤ 60 := by
    have h1 := ded_len (who (l.take j) v)
    have h2 : (who (l.take j) v).length ≤ (l.take j).length := by unfold who; rw [List.length_map]; exact List.length_filter_le _ _
    rw [List.length_take] at h2
    have := hl.1
    unfold cnt
    omega
   subst hI
   by_cases h1 : (l.getD j TCast.z).Value = v
   ·by_cases h2 : (l.getD j TCast.z).Worker ∈ who (l.take j) (l.getD j TCast.z).Value
    ·have hf := first_f hl hj
     rw [decide_eq_true h2, Bool.not_true] at hf
     refine .inr ⟨(cnt (l.take j) v : Int), ?_, fun h => ?_⟩
     ·unfold cnt
      rw [take_succ TCast.z hj, who_snoc, if_pos h1, ded_snoc, if_pos (by rw [ded_mem, ← h1]; exact h2)]
     have hs := same1_f (l.getD j TCast.z).Value v (by omega)
     rw [decide_eq_true h1] at hs
     repeat' (first | assumption | exact Ev.pure _ | apply Ev.iteT (by first | assumption | omega | exact trivial | exact Bool.false_ne_true | exact rfl | (simp only [decide_eq_true_eq]; assumption) | (simp only [decide_eq_true_eq]; omega)) | apply Ev.iteF (by first | assumption | omega | exact trivial | exact Bool.false_ne_true | exact rfl | (simp only [decide_eq_true_eq]; assumption) | (simp only [decide_eq_true_eq]; omega)) | (apply Ev.bind (hs); try dsimp only; try simp only [Int.toNat_natCast]) | (apply Ev.bind (hf); try dsimp only; try simp only [Int.toNat_natCast]) | exact (hs) | exact (hf) | apply Ev.bind)
    ·have hf := first_f hl hj
     rw [decide_eq_false h2, Bool.not_false] at hf
     refine .inr ⟨((cnt (l.take j) v + 1 : Nat) : Int), ?_, fun h => ?_⟩
     ·unfold cnt
      rw [take_succ TCast.z hj, who_snoc, if_pos h1, ded_snoc, if_neg (by rw [ded_mem, ← h1]; exact h2), List.length_append]
      rfl
     have hs := same1_f (l.getD j TCast.z).Value v (by omega)
     rw [decide_eq_true h1] at hs
     rw [← wi64_j (show cnt (l.take j) v < 9223372036854775807 by omega)] at h
     repeat' (first | assumption | exact Ev.pure _ | apply Ev.iteT (by first | assumption | omega | exact trivial | exact Bool.false_ne_true | exact rfl | (simp only [decide_eq_true_eq]; assumption) | (simp only [decide_eq_true_eq]; omega)) | apply Ev.iteF (by first | assumption | omega | exact trivial | exact Bool.false_ne_true | exact rfl | (simp only [decide_eq_true_eq]; assumption) | (simp only [decide_eq_true_eq]; omega)) | (apply Ev.bind (hs); try dsimp only; try simp only [Int.toNat_natCast]) | (apply Ev.bind (hf); try dsimp only; try simp only [Int.toNat_natCast]) | exact (hs) | exact (hf) | apply Ev.bind)
   ·refine .inr ⟨(cnt (l.take j) v : Int), ?_, fun h => ?_⟩
    ·unfold cnt
     rw [take_succ TCast.z hj, who_snoc, if_neg h1]
    have hs := same1_f (l.getD j TCast.z).Value v (by omega)
    rw [decide_eq_false h1] at hs
    repeat' (first | assumption | exact Ev.pure _ | apply Ev.iteT (by first | assumption | omega | exact trivial | exact Bool.false_ne_true | exact rfl | (simp only [decide_eq_true_eq]; assumption) | (simp only [decide_eq_true_eq]; omega)) | apply Ev.iteF (by first | assumption | omega | exact trivial | exact Bool.false_ne_true | exact rfl | (simp only [decide_eq_true_eq]; assumption) | (simp only [decide_eq_true_eq]; omega)) | (apply Ev.bind (hs); try dsimp only; try simp only [Int.toNat_natCast]) | exact (hs) | apply Ev.bind)
  ·simp only [juratref19_Count.l1]
   rw [List.take_length] at hI
   subst hI
   exact Ev.iteF (by omega) (Ev.pure _)
 repeat' (first | assumption | exact Ev.pure _ | apply Ev.iteT (by first | assumption | omega | exact trivial | exact Bool.false_ne_true | exact rfl | (simp only [decide_eq_true_eq]; assumption) | (simp only [decide_eq_true_eq]; omega)) | apply Ev.iteF (by first | assumption | omega | exact trivial | exact Bool.false_ne_true | exact rfl | (simp only [decide_eq_true_eq]; assumption) | (simp only [decide_eq_true_eq]; omega)) | (apply Ev.bind (hloop); try dsimp only; try simp only [Int.toNat_natCast]) | exact (hloop) | apply Ev.bind)
theorem refDecide_f {l : List TCast} (hl : Votes l) (f : Int) : Ev (fun k => juratref19_Decide.f k l f) (decV l f) := by
 unfold juratref19_Decide.f decV
 by_cases hf : f < 0
 ·rw [if_pos hf]
  have hloop : Ev (fun k => juratref19_Decide.l1 k l f 0) (Sum.inl ()) := by
   refine Ev.succ ?_
   simp only [juratref19_Decide.l1]
   refine Ev.iteF ?_ (Ev.pure _)
   rw [decide_eq_false (show ¬ f ≥ 0 by omega), Bool.and_false]
   simp
  exact Ev.bind hloop (Ev.pure _)
 ·rw [if_neg hf]
  have hloop : Ev (fun k => juratref19_Decide.l1 k l f 0) (if (dec l f l).2 = true then Sum.inr (dec l f l) else Sum.inl ()) := by
   refine Ev.loop (n := l.length) (F := fun k j (_ : Unit) => juratref19_Decide.l1 k l f (j : Int)) (fun j _ => dec l f (l.drop j) = dec l f l) (fun j _ hj hI => ?_) (fun _ hI => ?_) () rfl
   ·simp only [juratref19_Decide.l1, Int.toNat_natCast, wi64_j (show j < 9223372036854775807 by have := hl.1; omega), decide_eq_true (show (j : Int) < (l.length : Int) by omega), decide_eq_true (show f ≥ 0 by omega), Bool.true_and]
    rw [drop_cons TCast.z hj, dec] at hI
    by_cases hc : (cnt l (l.getD j TCast.z).Value : Int) > f
    ·rw [if_pos hc] at hI
     left
     rw [← hI]
     repeat' (first | assumption | exact Ev.pure _ | apply Ev.iteT (by first | assumption | omega | exact trivial | exact Bool.false_ne_true | exact rfl | (simp only [decide_eq_true_eq]; assumption) | (simp only [decide_eq_true_eq]; omega)) | apply Ev.iteF (by first | assumption | omega | exact trivial | exact Bool.false_ne_true | exact rfl | (simp only [decide_eq_true_eq]; assumption) | (simp only [decide_eq_true_eq]; omega)) | (apply Ev.bind (refCount_f hl (hl.at hj)); try dsimp only; try simp only [Int.toNat_natCast]) | exact (refCount_f hl (hl.at hj)) | apply Ev.bind)
    ·rw [if_neg hc] at hI
     refine .inr ⟨(), hI, fun h => ?_⟩
     repeat' (first | assumption | exact Ev.pure _ | apply Ev.iteT (by first | assumption | omega | exact trivial | exact Bool.false_ne_true | exact rfl | (simp only [decide_eq_true_eq]; assumption) | (simp only [decide_eq_true_eq]; omega)) | apply Ev.iteF (by first | assumption | omega | exact trivial | exact Bool.false_ne_true | exact rfl | (simp only [decide_eq_true_eq]; assumption) | (simp only [decide_eq_true_eq]; omega)) | (apply Ev.bind (refCount_f hl (hl.at hj)); try dsimp only; try simp only [Int.toNat_natCast]) | exact (refCount_f hl (hl.at hj)) | apply Ev.bind)
   ·simp only [juratref19_Decide.l1]
    rw [List.drop_length, dec] at hI
    rw [← hI]
    refine Ev.iteF ?_ (Ev.pure _)
    simp
  refine Ev.bind hloop ?_
  have hn : ∀ r : List TCast, (dec l f r).2 ≠ true → dec l f r = ([], false) := fun r => by
   induction r with
   | nil => intro _; rfl
   | cons c r ih =>
    unfold dec
    split
    ·intro h; exact absurd rfl h
    ·exact ih
  by_cases h : (dec l f l).2 = true
  ·rw [if_pos h]; exact Ev.pure _
  ·rw [if_neg h, hn l h]; exact Ev.pure _
theorem getD_append_len {T R : List Int} {r : Int} : (T ++ r :: R).getD T.length 0 = r := by
 rw [List.getD_eq_getElem?_getD, List.getElem?_append_right (Nat.le_refl _), Nat.sub_self]
 rfl
theorem tw_split (out : List Int) (w : Int) : ∃ T R, out = T ++ R ∧ (∀ x ∈ T, x < w) ∧ (∀ r R', R = r :: R' → ¬ r < w) := by
 induction out with
 | nil => exact ⟨[], [], rfl, by simp, fun _ _ h => by cases h⟩
 | cons a out ih =>
  by_cases h : a < w
  ·obtain ⟨T, R, rfl, hT, hR⟩ := ih
   refine ⟨a :: T, R, rfl, fun x hx => ?_, hR⟩
   rcases List.mem_cons.1 hx with rfl | hx
   ·exact h
   ·exact hT x hx
  ·exact ⟨[], a :: out, rfl, by simp, fun r R' e => by injection e with e _; rw [← e]; exact h⟩
theorem refLiars_l2 {l : List TCast} {T R : List Int} {i : Nat} (hi : i < l.length) (hb : (T ++ R).length ≤ 60) (hT : ∀ x ∈ T, x < (l.getD i TCast.z).Worker) (hR : ∀ r R', R = r :: R' → ¬ r < (l.getD i TCast.z).Worker) :
  Ev (fun k => juratref19_Liars.l2 k l (T ++ R) (i : Int) [] 0) (T, (T.length : Int)) := by
 have hlen : (T ++ R).length = T.length + R.length := List.length_append
 refine Ev.loop (n := T.length) (F := fun k j (s : List Int) => juratref19_Liars.l2 k l (T ++ R) (i : Int) s (j : Int)) (fun j s => s = T.take j) (fun j s hj hI => ?_) (fun s hI => ?_) [] rfl
 ·subst hI
  have hlt : (T ++ R).getD j 0 < (l.getD i TCast.z).Worker := by
   rw [List.getD_eq_getElem?_getD, List.getElem?_append_left hj, List.getElem?_eq_getElem hj]
   exact hT _ (List.getElem_mem hj)
  have hget : (T ++ R).getD j 0 = T.getD j 0 := by
   rw [List.getD_eq_getElem?_getD, List.getD_eq_getElem?_getD, List.getElem?_append_left hj]
  have htl : (T.take j).length = j := by rw [List.length_take]; omega
  simp only [juratref19_Liars.l2, Int.toNat_natCast, wi64_j (show j < 9223372036854775807 by omega), decide_eq_true hlt]
  refine .inr ⟨T.take (j + 1), rfl, fun h => ?_⟩
  rw [take_succ 0 hj, ← hget] at h
  repeat' (first | assumption | exact Ev.pure _ | apply Ev.iteT (by first | assumption | omega | exact trivial | exact Bool.false_ne_true | exact rfl | (simp only [decide_eq_true_eq]; assumption) | (simp only [decide_eq_true_eq]; omega)) | apply Ev.iteF (by first | assumption | omega | exact trivial | exact Bool.false_ne_true | exact rfl | (simp only [decide_eq_true_eq]; assumption) | (simp only [decide_eq_true_eq]; omega)) | apply Ev.bind)
 ·subst hI
  rw [List.take_length]
  simp only [juratref19_Liars.l2, Int.toNat_natCast]
  cases R with
  | nil =>
   have h0 : (T ++ ([] : List Int)).length = T.length := by simp
   repeat' (first | assumption | exact Ev.pure _ | apply Ev.iteT (by first | assumption | omega | exact trivial | exact Bool.false_ne_true | exact rfl | (simp only [decide_eq_true_eq]; assumption) | (simp only [decide_eq_true_eq]; omega)) | apply Ev.iteF (by first | assumption | omega | exact trivial | exact Bool.false_ne_true | exact rfl | (simp only [decide_eq_true_eq]; assumption) | (simp only [decide_eq_true_eq]; omega)) | apply Ev.bind)
  | cons r R' =>
   have hge : ¬ (T ++ r :: R').getD T.length 0 < (l.getD i TCast.z).Worker := by rw [getD_append_len]; exact hR r R' rfl
   rw [List.length_cons] at hlen
   simp only [decide_eq_false hge]
   repeat' (first | assumption | exact Ev.pure _ | apply Ev.iteT (by first | assumption | omega | exact trivial | exact Bool.false_ne_true | exact rfl | (simp only [decide_eq_true_eq]; assumption) | (simp only [decide_eq_true_eq]; omega)) | apply Ev.iteF (by first | assumption | omega | exact trivial | exact Bool.false_ne_true | exact rfl | (simp only [decide_eq_true_eq]; assumption) | (simp only [decide_eq_true_eq]; omega)) | apply Ev.bind)
theorem ins_lt {T R : List Int} {w : Int} (h : (T ++ R).Pairwise (· < ·)) (hT : ∀ x ∈ T, x < w) (hR : ∀ r R', R = r :: R' → w < r) : ((T ++ [w]) ++ R).Pairwise (· < ·) := by
 obtain ⟨h1, h2, h3⟩ := List.pairwise_append.1 h
 have hw : ∀ r ∈ R, w < r := fun r hr => by
  cases R with
  | nil => cases hr
  | cons a R' =>
   have ha := hR a R' rfl
   rcases List.mem_cons.1 hr with rfl | hr
   ·exact ha
   ·have := (List.pairwise_cons.1 h2).1 r hr
    omega
 rw [List.append_assoc]
 refine List.pairwise_append.2 ⟨h1, List.pairwise_cons.2 ⟨hw, h2⟩, fun a ha b hb => ?_⟩
 rcases List.mem_cons.1 hb with rfl | hb
 ·exact hT a ha
 ·exact h3 a ha b hb
theorem refLiars_f {l : List TCast} (hl : Votes l) {v : List Int} (hv : v.length ≤ 200) : Ev (fun k => juratref19_Liars.f k l v) (lies l v) := by
 unfold juratref19_Liars.f
 have hloop : Ev (fun k => juratref19_Liars.l1 k l v [] 0) (lies l v) := by
  refine Ev.loop (n := l.length) (F := fun k j (s : List Int) => juratref19_Liars.l1 k l v s (j : Int)) (fun j s => s = lies (l.take j) v) (fun j s hj hI => ?_) (fun s hI => ?_) [] (by simp [lies, lie, ded, sortI])
  ·have hlt := lies_lt (l.take j) v
   have hmem := lies_mem (l.take j) v
   have hsl : s.length ≤ 60 := by
    have h1 := lies_len (l.take j) v
    rw [List.length_take] at h1
    have := hl.1
    rw [hI]; omega
   rw [← hI] at hlt hmem
   have hvj := (hl.at hj).1
   have hs := same1_f (l.getD j TCast.z).Value v (by omega)
   by_cases h1 : (l.getD j TCast.z).Value = v
   ·rw [decide_eq_true h1] at hs
    refine .inr ⟨s, ?_, fun h => ?_⟩
    ·rw [hI]
     unfold lies
     rw [take_succ TCast.z hj, lie_snoc, if_pos h1]
    simp only [juratref19_Liars.l1, Int.toNat_natCast, wi64_j (show j < 9223372036854775807 by have := hl.1; omega)]
    repeat' (first | assumption | exact Ev.pure _ | apply Ev.iteT (by first | assumption | omega | exact trivial | exact Bool.false_ne_true | exact rfl | (simp only [decide_eq_true_eq]; assumption) | (simp only [decide_eq_true_eq]; omega)) | apply Ev.iteF (by first | assumption | omega | exact trivial | exact Bool.false_ne_true | exact rfl | (simp only [decide_eq_true_eq]; assumption) | (simp only [decide_eq_true_eq]; omega)) | (apply Ev.bind (hs); try dsimp only; try simp only [Int.toNat_natCast]) | exact (hs) | apply Ev.bind)
   ·rw [decide_eq_false h1] at hs
    have hnew : ∀ out : List Int, out.Pairwise (· < ·) → (∀ x, x ∈ out ↔ x ∈ s ∨ x = (l.getD j TCast.z).Worker) → out = lies (l.take (j + 1)) v := fun out ho hm => by
     refine lt_unique ho (lies_lt _ _) fun x => ?_
     rw [hm, lies_mem, hmem, take_succ TCast.z hj]
     constructor
     ·rintro (⟨c, hc, h⟩ | rfl)
      ·exact ⟨c, List.mem_append_left _ hc, h⟩
      ·exact ⟨_, List.mem_append_right _ (by simp), h1, rfl⟩
     ·rintro ⟨c, hc, h2, rfl⟩
      rcases List.mem_append.1 hc with hc | hc
      ·exact .inl ⟨c, hc, h2, rfl⟩
      ·rw [List.mem_singleton.1 hc]; exact .inr rfl
    obtain ⟨T, R, rfl, hT, hR⟩ := tw_split s (l.getD j TCast.z).Worker
    have hl2 := refLiars_l2 hj hsl hT hR
    have hlen : (T ++ R).length = T.length + R.length := List.length_append
    have hl1 : (T ++ [(l.getD j TCast.z).Worker]).length = T.length + 1 := List.length_append
    have hd0 : (T ++ R).drop T.length = R := List.drop_left
    have hw1 := wi64_j (show T.length < 9223372036854775807 by omega)
    cases R with
    | nil =>
     rw [List.append_nil] at hlen hd0
     refine .inr ⟨(T ++ [(l.getD j TCast.z).Worker]) ++ [], hnew _ (ins_lt hlt hT (fun _ _ h => by cases h)) (fun x => by simp), fun h => ?_⟩
     simp only [juratref19_Liars.l1, Int.toNat_natCast, wi64_j (show j < 9223372036854775807 by have := hl.1; omega)]
     rw [List.append_nil] at hl2 hsl
     simp only [List.append_nil] at h ⊢
     have hd1 : (T.drop T.length).length = 0 := by simp
     have h' : Ev (fun k => juratref19_Liars.l1 k l v (T ++ [(l.getD j TCast.z).Worker] ++ T.drop T.length) ((j + 1 : Nat) : Int)) (lies l v) := by rw [List.drop_length, List.append_nil]; exact h
     repeat' (first | assumption | exact Ev.pure _ | apply Ev.iteT (by first | assumption | omega | exact trivial | exact Bool.false_ne_true | exact rfl | (simp only [decide_eq_true_eq]; assumption) | (simp only [decide_eq_true_eq]; omega)) | apply Ev.iteF (by first | assumption | omega | exact trivial | exact Bool.false_ne_true | exact rfl | (simp only [decide_eq_true_eq]; assumption) | (simp only [decide_eq_true_eq]; omega)) | (apply Ev.bind (hs); try dsimp only; try simp only [Int.toNat_natCast]) | (apply Ev.bind (hl2); try dsimp only; try simp only [Int.toNat_natCast]) | exact (hs) | exact (hl2) | apply Ev.bind)
    | cons r R' =>
     rw [List.length_cons] at hlen
     have hge := hR r R' rfl
     have hgr : (T ++ r :: R').getD T.length 0 = r := getD_append_len
     have hd1 : (T ++ r :: R').drop (T.length + 1) = R' := by
      rw [← List.drop_drop, hd0]; rfl
     by_cases hrw : r = (l.getD j TCast.z).Worker
     ·have hlt' : (T ++ R').Pairwise (· < ·) := by
       obtain ⟨h2, h3, h4⟩ := List.pairwise_append.1 hlt
       exact List.pairwise_append.2 ⟨h2, (List.pairwise_cons.1 h3).2, fun a ha b hb => h4 a ha b (List.mem_cons_of_mem _ hb)⟩
      refine .inr ⟨(T ++ [(l.getD j TCast.z).Worker]) ++ (T ++ r :: R').drop (T.length + 1), hnew _ ?_ ?_, fun h => ?_⟩
      ·rw [hd1]
       refine ins_lt hlt' hT fun a A h => ?_
       rw [← hrw]
       exact (List.pairwise_cons.1 (List.pairwise_append.1 hlt).2.1).1 a (by rw [h]; simp)
      ·intro x
       rw [hd1]
       simp only [List.mem_append, List.mem_cons, List.mem_singleton, List.not_mem_nil, or_false]
       rw [← hrw]
       constructor
       ·rintro ((h | h) | h)
        ·exact .inl (.inl h)
        ·exact .inr h
        ·exact .inl (.inr (.inr h))
       ·rintro ((h | h | h) | h)
        ·exact .inl (.inl h)
        ·exact .inl (.inr h)
        ·exact .inr h
        ·exact .inl (.inr h)
      simp only [juratref19_Liars.l1, Int.toNat_natCast, wi64_j (show j < 9223372036854775807 by have := hl.1; omega)]
      have hdl : ((T ++ r :: R').drop (T.length + 1)).length = R'.length := by rw [hd1]
      have he : (T ++ r :: R').getD T.length 0 = (l.getD j TCast.z).Worker := by rw [hgr, hrw]
      have hbind : Ev (fun k => (if (T.length : Int) < ((T ++ r :: R').length : Int) then (if 0 ≤ (T.length : Int) ∧ (T.length : Int) < ((T ++ r :: R').length : Int) then (some (decide (((T ++ r :: R').getD T.length 0) = ((l.getD j TCast.z).Worker)))) else none) else (some (false)))) true := by
       rw [decide_eq_true he]
       repeat' (first | assumption | exact Ev.pure _ | apply Ev.iteT (by first | assumption | omega | exact trivial | exact Bool.false_ne_true | exact rfl | (simp only [decide_eq_true_eq]; assumption) | (simp only [decide_eq_true_eq]; omega)) | apply Ev.iteF (by first | assumption | omega | exact trivial | exact Bool.false_ne_true | exact rfl | (simp only [decide_eq_true_eq]; assumption) | (simp only [decide_eq_true_eq]; omega)) | apply Ev.bind)
      refine Ev.iteT (by omega) (Ev.iteT (by omega) (Ev.bind hs (Ev.iteF (by simp) (Ev.bind hl2 ?_))))
      dsimp only
      refine Ev.iteT (by omega) (Ev.bind hbind (Ev.iteT rfl ?_))
      simp only [Int.toNat_natCast, hw1]
      refine Ev.iteT (by omega) (Ev.iteT ?_ h)
      rw [hl1, hdl]; omega
     ·refine .inr ⟨(T ++ [(l.getD j TCast.z).Worker]) ++ (T ++ r :: R').drop T.length, hnew _ ?_ ?_, fun h => ?_⟩
      ·rw [hd0]
       refine ins_lt hlt hT fun a A h => ?_
       injection h with h _
       subst h
       omega
      ·intro x
       rw [hd0]
       simp only [List.mem_append, List.mem_cons, List.mem_singleton, List.not_mem_nil, or_false]
       constructor
       ·rintro ((h | h) | h)
        ·exact .inl (.inl h)
        ·exact .inr h
        ·exact .inl (.inr h)
       ·rintro ((h | h) | h)
        ·exact .inl (.inl h)
        ·exact .inr h
        ·exact .inl (.inr h)
      simp only [juratref19_Liars.l1, Int.toNat_natCast, wi64_j (show j < 9223372036854775807 by have := hl.1; omega)]
      have hdl : ((T ++ r :: R').drop T.length).length = R'.length + 1 := by rw [hd0]; rfl
      have he : ¬ (T ++ r :: R').getD T.length 0 = (l.getD j TCast.z).Worker := by rw [hgr]; exact hrw
      have hbind : Ev (fun k => (if (T.length : Int) < ((T ++ r :: R').length : Int) then (if 0 ≤ (T.length : Int) ∧ (T.length : Int) < ((T ++ r :: R').length : Int) then (some (decide (((T ++ r :: R').getD T.length 0) = ((l.getD j TCast.z).Worker)))) else none) else (some (false)))) false := by
       rw [decide_eq_false he]
       repeat' (first | assumption | exact Ev.pure _ | apply Ev.iteT (by first | assumption | omega | exact trivial | exact Bool.false_ne_true | exact rfl | (simp only [decide_eq_true_eq]; assumption) | (simp only [decide_eq_true_eq]; omega)) | apply Ev.iteF (by first | assumption | omega | exact trivial | exact Bool.false_ne_true | exact rfl | (simp only [decide_eq_true_eq]; assumption) | (simp only [decide_eq_true_eq]; omega)) | apply Ev.bind)
      refine Ev.iteT (by omega) (Ev.iteT (by omega) (Ev.bind hs (Ev.iteF (by simp) (Ev.bind hl2 ?_))))
      dsimp only
      refine Ev.iteT (by omega) (Ev.bind hbind (Ev.iteF (by simp) ?_))
      simp only [Int.toNat_natCast]
      refine Ev.iteT (by omega) (Ev.iteT ?_ h)
      rw [hl1, hdl]; omega
  ·rw [List.take_length] at hI
   subst hI
   simp only [juratref19_Liars.l1]
   exact Ev.iteF (by omega) (Ev.pure _)
 repeat' (first | assumption | exact Ev.pure _ | apply Ev.iteT (by first | assumption | omega | exact trivial | exact Bool.false_ne_true | exact rfl | (simp only [decide_eq_true_eq]; assumption) | (simp only [decide_eq_true_eq]; omega)) | apply Ev.iteF (by first | assumption | omega | exact trivial | exact Bool.false_ne_true | exact rfl | (simp only [decide_eq_true_eq]; assumption) | (simp only [decide_eq_true_eq]; omega)) | (apply Ev.bind (hloop); try dsimp only; try simp only [Int.toNat_natCast]) | exact (hloop) | apply Ev.bind)
theorem copy_f {l : List TCast} (hl : Votes l) : Ev (fun k => juratref19_Copy.f k l) l := by
 unfold juratref19_Copy.f
 have hloop : Ev (fun k => juratref19_Copy.l1 k l [] 0) l := by
  refine Ev.loop (n := l.length) (F := fun k j (s : List TCast) => juratref19_Copy.l1 k l s (j : Int)) (fun j s => s = l.take j) (fun j s hj hI => ?_) (fun s hI => ?_) [] rfl
  ·subst hI
   have htl : (l.take j).length = j := by rw [List.length_take]; omega
   have hvj := (hl.at hj).1
   have := hl.1
   refine .inr ⟨_, rfl, fun h => ?_⟩
   rw [take_succ TCast.z hj] at h
   simp only [juratref19_Copy.l1, Int.toNat_natCast, wi64_j (show j < 9223372036854775807 by omega)]
   repeat' (first | assumption | exact Ev.pure _ | apply Ev.iteT (by first | assumption | omega | exact trivial | exact Bool.false_ne_true | exact rfl | (simp only [decide_eq_true_eq]; assumption) | (simp only [decide_eq_true_eq]; omega)) | apply Ev.iteF (by first | assumption | omega | exact trivial | exact Bool.false_ne_true | exact rfl | (simp only [decide_eq_true_eq]; assumption) | (simp only [decide_eq_true_eq]; omega)) | apply Ev.bind)
  ·subst hI
   rw [List.take_length]
   simp only [juratref19_Copy.l1]
   exact Ev.iteF (by omega) (Ev.pure _)
 repeat' (first | assumption | exact Ev.pure _ | apply Ev.iteT (by first | assumption | omega | exact trivial | exact Bool.false_ne_true | exact rfl | (simp only [decide_eq_true_eq]; assumption) | (simp only [decide_eq_true_eq]; omega)) | apply Ev.iteF (by first | assumption | omega | exact trivial | exact Bool.false_ne_true | exact rfl | (simp only [decide_eq_true_eq]; assumption) | (simp only [decide_eq_true_eq]; omega)) | (apply Ev.bind (hloop); try dsimp only; try simp only [Int.toNat_natCast]) | exact (hloop) | apply Ev.bind)
theorem refCast_f {l : List TCast} (hl : Votes l) (c : TCast) : Ev (fun k => juratref19_Cast.f k l c) (castV l c) := by
 unfold juratref19_Cast.f castV
 have h60 := hl.1
 by_cases h1 : c.Worker < 0
 ·rw [if_pos h1]; exact Ev.iteT h1 (Ev.pure _)
 rw [if_neg h1]
 refine Ev.iteF h1 ?_
 by_cases h2 : (c.Value.length : Int) > 32
 ·rw [if_pos h2]; exact Ev.iteT h2 (Ev.pure _)
 rw [if_neg h2]
 refine Ev.iteF h2 ?_
 have hloop : Ev (fun k => juratref19_Cast.l1 k l c 0) (if ∃ d ∈ l, d.Worker = c.Worker then Sum.inr ([], 190) else Sum.inl ()) := by
  refine Ev.loop (n := l.length) (F := fun k j (_ : Unit) => juratref19_Cast.l1 k l c (j : Int)) (fun j _ => ∀ d ∈ l.take j, ¬ d.Worker = c.Worker) (fun j _ hj hI => ?_) (fun _ hI => ?_) () (by simp)
  ·have hm : l.getD j TCast.z ∈ l := by rw [List.getD_eq_getElem?_getD, List.getElem?_eq_getElem hj]; exact List.getElem_mem hj
   simp only [juratref19_Cast.l1, Int.toNat_natCast, wi64_j (show j < 9223372036854775807 by omega)]
   by_cases h4 : (l.getD j TCast.z).Worker = c.Worker
   ·rw [if_pos ⟨_, hm, h4⟩]
    left
    repeat' (first | assumption | exact Ev.pure _ | apply Ev.iteT (by first | assumption | omega | exact trivial | exact Bool.false_ne_true | exact rfl | (simp only [decide_eq_true_eq]; assumption) | (simp only [decide_eq_true_eq]; omega)) | apply Ev.iteF (by first | assumption | omega | exact trivial | exact Bool.false_ne_true | exact rfl | (simp only [decide_eq_true_eq]; assumption) | (simp only [decide_eq_true_eq]; omega)) | apply Ev.bind)
   ·refine .inr ⟨(), fun d hd => ?_, fun h => ?_⟩
    ·rw [take_succ TCast.z hj] at hd
     rcases List.mem_append.1 hd with h | h
     ·exact hI d h
     ·rw [List.mem_singleton.1 h]; exact h4
    repeat' (first | assumption | exact Ev.pure _ | apply Ev.iteT (by first | assumption | omega | exact trivial | exact Bool.false_ne_true | exact rfl | (simp only [decide_eq_true_eq]; assumption) | (simp only [decide_eq_true_eq]; omega)) | apply Ev.iteF (by first | assumption | omega | exact trivial | exact Bool.false_ne_true | exact rfl | (simp only [decide_eq_true_eq]; assumption) | (simp only [decide_eq_true_eq]; omega)) | apply Ev.bind)
  ·rw [List.take_length] at hI
   rw [if_neg (fun ⟨d, hd, he⟩ => hI d hd he)]
   simp only [juratref19_Cast.l1]
   exact Ev.iteF (by omega) (Ev.pure _)
 refine Ev.bind hloop ?_
 by_cases h3 : ∃ d ∈ l, d.Worker = c.Worker
 ·rw [if_pos h3, if_pos h3]; exact Ev.pure _
 ·rw [if_neg h3, if_neg h3]
  simp only [sumE]
  repeat' (first | assumption | exact Ev.pure _ | apply Ev.iteT (by first | assumption | omega | exact trivial | exact Bool.false_ne_true | exact rfl | (simp only [decide_eq_true_eq]; assumption) | (simp only [decide_eq_true_eq]; omega)) | apply Ev.iteF (by first | assumption | omega | exact trivial | exact Bool.false_ne_true | exact rfl | (simp only [decide_eq_true_eq]; assumption) | (simp only [decide_eq_true_eq]; omega)) | apply Ev.bind)
theorem same19_f {a : List TCast} (ha : Votes a) : Ev (fun k => juratref19_Same.f k a a) true := by
 unfold juratref19_Same.f
 have h60 := ha.1
 have hloop : Ev (fun k => juratref19_Same.l1 k a a 0) (Sum.inl ()) := by
  refine Ev.loop (n := a.length) (F := fun k j (_ : Unit) => juratref19_Same.l1 k a a (j : Int)) (fun j _ => True) (fun j _ hj hI => ?_) (fun _ hI => ?_) () trivial
  ·have hs := same1_f (a.getD j TCast.z).Value (a.getD j TCast.z).Value (by have := (ha.at hj).1; omega)
   rw [decide_eq_true rfl] at hs
   refine .inr ⟨(), trivial, fun h => ?_⟩
   simp only [juratref19_Same.l1, Int.toNat_natCast, wi64_j (show j < 9223372036854775807 by omega)]
   refine Ev.iteT (by omega) (Ev.iteT (by omega) (Ev.iteT (by omega) (Ev.bind (a := false) (Ev.iteT trivial (Ev.bind hs (Ev.pure _))) (Ev.iteF (by simp) h))))
  ·simp only [juratref19_Same.l1]
   exact Ev.iteF (by omega) (Ev.pure _)
 exact Ev.iteT rfl (Ev.bind hloop (Ev.pure _))
end Go.Proofs.Ytobdpbnadjkhiaa.Ta
