/- Plain laws of tallies: liars, votes that are cast. -/
import Derived.Test.YtobdpbnadjkhiaaTTa
namespace Go.Proofs.Ytobdpbnadjkhiaa.Ta
open Go.WG Go.Proofs.Ytobdpbnadjkhiaa
set_option linter.unusedSimpArgs false
set_option linter.unusedVariables false
theorem who_mem (l : List TCast) (v : List Int) (x : Int) : x ∈ who l v ↔ ∃ c ∈ l, c.Value = v ∧ c.Worker = x := by
 unfold who
 rw [List.mem_map]
 constructor
 ·rintro ⟨c, hc, rfl⟩
  rw [List.mem_filter] at hc
  exact ⟨c, hc.1, of_decide_eq_true hc.2, rfl⟩
 ·rintro ⟨c, hc, h, rfl⟩
  exact ⟨c, List.mem_filter.2 ⟨hc, decide_eq_true h⟩, rfl⟩
theorem mem_take {α : Type} {l : List α} {n : Nat} {x : α} (d : α) (hn : n ≤ l.length) : x ∈ l.take n ↔ ∃ k, k < n ∧ l.getD k d = x := by
 rw [List.mem_iff_getElem?]
 constructor
 ·rintro ⟨k, hk⟩
  rw [List.getElem?_take] at hk
  split at hk
  ·rename_i h
   exact ⟨k, h, by rw [List.getD_eq_getElem?_getD, hk]; rfl⟩
  ·cases hk
 ·rintro ⟨k, hk, rfl⟩
  refine ⟨k, ?_⟩
  rw [List.getElem?_take, if_pos hk, List.getElem?_eq_getElem (by omega), List.getD_eq_getElem?_getD, List.getElem?_eq_getElem (by omega)]
  rfl
/-- Who voted for another value. -/
def lie (l : List TCast) (v : List Int) : List Int := (l.filter fun c => decide (¬ c.Value = v)).map (·.Worker)
theorem lie_mem (l : List TCast) (v : List Int) (x : Int) : x ∈ lie l v ↔ ∃ c ∈ l, ¬ c.Value = v ∧ c.Worker = x := by
 unfold lie
 rw [List.mem_map]
 constructor
 ·rintro ⟨c, hc, rfl⟩
  rw [List.mem_filter] at hc
  exact ⟨c, hc.1, of_decide_eq_true hc.2, rfl⟩
 ·rintro ⟨c, hc, h, rfl⟩
  exact ⟨c, List.mem_filter.2 ⟨hc, decide_eq_true h⟩, rfl⟩
theorem lie_snoc (l : List TCast) (c : TCast) (v : List Int) : lie (l ++ [c]) v = if c.Value = v then lie l v else lie l v ++ [c.Worker] := by
 unfold lie
 rw [List.filter_append, List.map_append]
 by_cases h : c.Value = v
 ·simp [h]
 ·simp [h]
theorem lie_len (l : List TCast) (v : List Int) : (lie l v).length ≤ l.length := by unfold lie; rw [List.length_map]; exact List.length_filter_le _ _
/-- In order, each once. -/
def lies (l : List TCast) (v : List Int) : List Int := sortI (ded (lie l v))
theorem sortI_lt {xs : List Int} (h : xs.Nodup) : (sortI xs).Pairwise (· < ·) := by
 have tr : ∀ a b c : Int, decide (a ≤ b) = true → decide (b ≤ c) = true → decide (a ≤ c) = true := fun a b c h1 h2 => decide_eq_true (Int.le_trans (of_decide_eq_true h1) (of_decide_eq_true h2))
 have to : ∀ a b : Int, (decide (a ≤ b) || decide (b ≤ a)) = true := fun a b => by rcases Int.le_total a b with h | h <;> simp [h]
 have h1 : (sortI xs).Pairwise (fun a b => decide (a ≤ b) = true) := List.pairwise_mergeSort tr to xs
 have h2 : (sortI xs).Nodup := (List.mergeSort_perm xs _).nodup_iff.2 h
 refine (h1.and h2).imp fun h => ?_
 have := of_decide_eq_true h.1
 have := h.2
 omega
theorem sortI_mem (xs : List Int) (x : Int) : x ∈ sortI xs ↔ x ∈ xs := (List.mergeSort_perm xs _).mem_iff
theorem lies_lt (l : List TCast) (v : List Int) : (lies l v).Pairwise (· < ·) := sortI_lt (ded_nodup _)
theorem lies_mem (l : List TCast) (v : List Int) (x : Int) : x ∈ lies l v ↔ ∃ c ∈ l, ¬ c.Value = v ∧ c.Worker = x := by
 unfold lies
 rw [sortI_mem, ded_mem, lie_mem]
theorem lies_len (l : List TCast) (v : List Int) : (lies l v).length ≤ l.length := by
 unfold lies
 rw [sortI_length]
 exact Nat.le_trans (ded_len _) (lie_len _ _)
theorem lt_unique {xs ys : List Int} (hx : xs.Pairwise (· < ·)) (hy : ys.Pairwise (· < ·)) (h : ∀ a, a ∈ xs ↔ a ∈ ys) : xs = ys := by
 have nx : xs.Nodup := hx.imp fun h => by omega
 have ny : ys.Nodup := hy.imp fun h => by omega
 exact List.Perm.eq_of_pairwise (le := (· < ·)) (fun a b _ _ h1 h2 => by omega) hx hy ((List.perm_ext_iff_of_nodup nx ny).2 h)
theorem liars_f {l : List TCast} (hl : Votes l) {v : List Int} (hv : Byt v) : Ev (fun k => tally_Liars.f k l v) (lies l v) := by
 unfold tally_Liars.f
 have hloop : ∃ x : List (Int × Int), x.map (·.1) = ded (lie l v) ∧ Ev (fun k => tally_Liars.l1 k l v [] 0) x := by
  have : ∀ m j, l.length - j = m → j ≤ l.length → ∀ x : List (Int × Int), x.map (·.1) = ded (lie (l.take j) v) → ∃ r : List (Int × Int), r.map (·.1) = ded (lie l v) ∧ Ev (fun k => tally_Liars.l1 k l v x (j : Int)) r := by
   intro m
   induction m with
   | zero =>
    intro j hm hj x hx
    obtain rfl : j = l.length := by omega
    rw [List.take_length] at hx
    refine ⟨x, hx, Ev.succ ?_⟩
    simp only [tally_Liars.l1]
    exact Ev.iteF (by omega) (Ev.pure _)
   | succ m ih =>
    intro j hm hj x hx
    have hjl : j < l.length := by omega
    have hE := equal_f (hl.at hjl) hv
    by_cases h : (l.getD j TCast.z).Value = v
    ·obtain ⟨r, hr, hi⟩ := ih (j + 1) (by omega) (by omega) x (by rw [take_succ TCast.z hjl, lie_snoc, if_pos h]; exact hx)
     refine ⟨r, hr, Ev.succ ?_⟩
     simp only [tally_Liars.l1, Int.toNat_natCast, wi64_j (show j < 9223372036854775807 by have := hl.1; omega)]
     rw [decide_eq_true h] at hE
     repeat' (first | assumption | exact Ev.pure _ | apply Ev.iteT (by first | assumption | omega | exact trivial | exact Bool.false_ne_true | exact rfl | (simp only [decide_eq_true_eq]; assumption) | (simp only [decide_eq_true_eq]; omega)) | apply Ev.iteF (by first | assumption | omega | exact trivial | exact Bool.false_ne_true | exact rfl | (simp only [decide_eq_true_eq]; assumption) | (simp only [decide_eq_true_eq]; omega)) | (apply Ev.bind (hE); try dsimp only; try simp only [Int.toNat_natCast]) | exact (hE) | apply Ev.bind)
    ·obtain ⟨r, hr, hi⟩ := ih (j + 1) (by omega) (by omega) (mset x (l.getD j TCast.z).Worker (j : Int)) (by rw [take_succ TCast.z hjl, lie_snoc, if_neg h, ded_snoc, mset_keys, hx])
     refine ⟨r, hr, Ev.succ ?_⟩
     simp only [tally_Liars.l1, Int.toNat_natCast, wi64_j (show j < 9223372036854775807 by have := hl.1; omega)]
     rw [decide_eq_false h] at hE
     repeat' (first | assumption | exact Ev.pure _ | apply Ev.iteT (by first | assumption | omega | exact trivial | exact Bool.false_ne_true | exact rfl | (simp only [decide_eq_true_eq]; assumption) | (simp only [decide_eq_true_eq]; omega)) | apply Ev.iteF (by first | assumption | omega | exact trivial | exact Bool.false_ne_true | exact rfl | (simp only [decide_eq_true_eq]; assumption) | (simp only [decide_eq_true_eq]; omega)) | (apply Ev.bind (hE); try dsimp only; try simp only [Int.toNat_natCast]) | exact (hE) | apply Ev.bind)
  exact this _ 0 rfl (Nat.zero_le _) [] (by simp [lie, ded])
 obtain ⟨x, hx, hE⟩ := hloop
 refine Ev.bind hE (Ev.iteT ?_ ?_)
 ·have h1 := congrArg List.length hx
  rw [List.length_map] at h1
  have h2 := ded_len (lie l v)
  have h3 := lie_len l v
  have := hl.1
  omega
 ·rw [hx]; exact Ev.pure _
/-- One vote of each. -/
def Once (l : List TCast) : Prop := (l.map (·.Worker)).Nodup
/-- A vote more, or an error. -/
def castV (l : List TCast) (c : TCast) : List TCast × Int :=
 if c.Worker < 0 then ([], 1) else if (c.Value.length : Int) > 32 then ([], 42) else if ∃ d ∈ l, d.Worker = c.Worker then ([], 190) else (l ++ [c], 0)
theorem cast_f {l : List TCast} (hl : Votes l) (c : TCast) : Ev (fun k => tally_Cast.f k l c) (castV l c) := by
 unfold tally_Cast.f castV
 have h60 := hl.1
 by_cases h1 : c.Worker < 0
 ·rw [if_pos h1]; exact Ev.iteT h1 (Ev.pure _)
 rw [if_neg h1]
 refine Ev.iteF h1 ?_
 by_cases h2 : (c.Value.length : Int) > 32
 ·rw [if_pos h2]; exact Ev.iteT h2 (Ev.pure _)
 rw [if_neg h2]
 refine Ev.iteF h2 ?_
 by_cases h3 : ∃ d ∈ l, d.Worker = c.Worker
 ·rw [if_pos h3]
  have hloop : Ev (fun k => tally_Cast.l1 k l c [] 0) (Sum.inr ([], 190)) := by
   refine Ev.loop (n := l.length) (F := fun k j (s : List TCast) => tally_Cast.l1 k l c s (j : Int)) (fun j s => s.length = j ∧ ∀ d ∈ l.take j, ¬ d.Worker = c.Worker) (fun j s hj hI => ?_) (fun s hI => ?_) [] ⟨rfl, by simp⟩
   ·obtain ⟨hs, hI⟩ := hI
    simp only [tally_Cast.l1, Int.toNat_natCast, wi64_j (show j < 9223372036854775807 by omega)]
    by_cases h4 : (l.getD j TCast.z).Worker = c.Worker
    ·left
     repeat' (first | assumption | exact Ev.pure _ | apply Ev.iteT (by first | assumption | omega | exact trivial | exact Bool.false_ne_true | exact rfl | (simp only [decide_eq_true_eq]; assumption) | (simp only [decide_eq_true_eq]; omega)) | apply Ev.iteF (by first | assumption | omega | exact trivial | exact Bool.false_ne_true | exact rfl | (simp only [decide_eq_true_eq]; assumption) | (simp only [decide_eq_true_eq]; omega)) | apply Ev.bind)
    ·refine .inr ⟨s ++ [(⟨(l.getD j TCast.z).Worker, (l.getD j TCast.z).Value⟩ : TCast)], ⟨by rw [List.length_append, hs]; rfl, fun d hd => ?_⟩, fun h => ?_⟩
     ·rw [take_succ TCast.z hj] at hd
      rcases List.mem_append.1 hd with h | h
      ·exact hI d h
      ·rw [List.mem_singleton.1 h]; exact h4
     ·repeat' (first | assumption | exact Ev.pure _ | apply Ev.iteT (by first | assumption | omega | exact trivial | exact Bool.false_ne_true | exact rfl | (simp only [decide_eq_true_eq]; assumption) | (simp only [decide_eq_true_eq]; omega)) | apply Ev.iteF (by first | assumption | omega | exact trivial | exact Bool.false_ne_true | exact rfl | (simp only [decide_eq_true_eq]; assumption) | (simp only [decide_eq_true_eq]; omega)) | (apply Ev.bind (own_f _ (hl.at hj).1); try dsimp only; try simp only [Int.toNat_natCast]) | exact (own_f _ (hl.at hj).1) | apply Ev.bind)
   ·rw [List.take_length] at hI
    obtain ⟨d, hd, he⟩ := h3
    exact absurd he (hI.2 d hd)
  exact Ev.bind hloop (Ev.pure _)
 ·rw [if_neg h3]
  have hloop : Ev (fun k => tally_Cast.l1 k l c [] 0) (Sum.inl l) := by
   refine Ev.loop (n := l.length) (F := fun k j (s : List TCast) => tally_Cast.l1 k l c s (j : Int)) (fun j s => s = l.take j) (fun j s hj hI => ?_) (fun s hI => ?_) [] rfl
   ·subst hI
    have htl : (l.take j).length = j := by rw [List.length_take]; omega
    have h4 : ¬ (l.getD j TCast.z).Worker = c.Worker := fun e => h3 ⟨_, by
     rw [List.getD_eq_getElem?_getD, List.getElem?_eq_getElem hj]; exact List.getElem_mem hj, e⟩
    simp only [tally_Cast.l1, Int.toNat_natCast, wi64_j (show j < 9223372036854775807 by omega)]
    refine .inr ⟨_, rfl, fun h => ?_⟩
    rw [take_succ TCast.z hj] at h
    repeat' (first | assumption | exact Ev.pure _ | apply Ev.iteT (by first | assumption | omega | exact trivial | exact Bool.false_ne_true | exact rfl | (simp only [decide_eq_true_eq]; assumption) | (simp only [decide_eq_true_eq]; omega)) | apply Ev.iteF (by first | assumption | omega | exact trivial | exact Bool.false_ne_true | exact rfl | (simp only [decide_eq_true_eq]; assumption) | (simp only [decide_eq_true_eq]; omega)) | (apply Ev.bind (own_f _ (hl.at hj).1); try dsimp only; try simp only [Int.toNat_natCast]) | exact (own_f _ (hl.at hj).1) | apply Ev.bind)
   ·subst hI
    rw [List.take_length]
    simp only [tally_Cast.l1]
    exact Ev.iteF (by omega) (Ev.pure _)
  refine Ev.bind hloop ?_
  simp only [sumE]
  refine Ev.bind (own_f _ (by omega)) ?_
  repeat' (first | assumption | exact Ev.pure _ | apply Ev.iteT (by first | assumption | omega | exact trivial | exact Bool.false_ne_true | exact rfl | (simp only [decide_eq_true_eq]; assumption) | (simp only [decide_eq_true_eq]; omega)) | apply Ev.iteF (by first | assumption | omega | exact trivial | exact Bool.false_ne_true | exact rfl | (simp only [decide_eq_true_eq]; assumption) | (simp only [decide_eq_true_eq]; omega)) | apply Ev.bind)
end Go.Proofs.Ytobdpbnadjkhiaa.Ta
