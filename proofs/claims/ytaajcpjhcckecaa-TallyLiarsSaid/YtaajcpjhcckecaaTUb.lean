/- Plain laws of tallies: the document's count, liars, copies. -/
import Derived.Test.YtaajcpjhcckecaaTUa
namespace Go.Proofs.Ytaajcpjhcckecaa.Pure
open Go.WG Go.Proofs.Ytaajcpjhcckecaa
set_option linter.unusedSimpArgs false
set_option linter.unusedVariables false
theorem who_mem (l : List TCast) (v : List Int) (x : Int) : x ∈ who l v ↔ ∃ c ∈ l, c.Value = v ∧ c.Worker = x := by
  unfold who
  rw [List.mem_map]
  constructor
  · rintro ⟨c, hc, rfl⟩
    rw [List.mem_filter] at hc
    exact ⟨c, hc.1, of_decide_eq_true hc.2, rfl⟩
  · rintro ⟨c, hc, h, rfl⟩
    exact ⟨c, List.mem_filter.2 ⟨hc, decide_eq_true h⟩, rfl⟩
theorem mem_take {α : Type} {l : List α} {n : Nat} {x : α} (d : α) (hn : n ≤ l.length) : x ∈ l.take n ↔ ∃ k, k < n ∧ l.getD k d = x := by
  rw [List.mem_iff_getElem?]
  constructor
  · rintro ⟨k, hk⟩
    rw [List.getElem?_take] at hk
    split at hk
    · rename_i h
      exact ⟨k, h, by rw [List.getD_eq_getElem?_getD, hk]; rfl⟩
    · cases hk
  · rintro ⟨k, hk, rfl⟩
    refine ⟨k, ?_⟩
    rw [List.getElem?_take, if_pos hk, List.getElem?_eq_getElem (by omega), List.getD_eq_getElem?_getD, List.getElem?_eq_getElem (by omega)]
    rfl
theorem first_f {l : List TCast} (hl : Votes l) {i : Nat} (hi : i < l.length) : Ev (fun k => juratref19_first.f k l (i : Int)) (!decide ((l.getD i TCast.z).Worker ∈ who (l.take i) (l.getD i TCast.z).Value)) := by
  unfold juratref19_first.f
  have hloop : Ev (fun k => juratref19_first.l1 k l (i : Int) 0) (if (l.getD i TCast.z).Worker ∈ who (l.take i) (l.getD i TCast.z).Value then Sum.inr false else Sum.inl ()) := by
    refine Ev.loop (n := i) (F := fun k j (_ : Unit) => juratref19_first.l1 k l (i : Int) (j : Int)) (fun j _ => ¬ (l.getD i TCast.z).Worker ∈ who (l.take j) (l.getD i TCast.z).Value) (fun j _ hj hI => ?_) (fun _ hI => ?_) () (by simp [who])
    · simp only [juratref19_first.l1, Int.toNat_natCast, wi64_j (show j < 9223372036854775807 by have := hl.1; omega)]
      have hv := (hl.at (show j < l.length by omega)).1
      by_cases h1 : (l.getD j TCast.z).Worker = (l.getD i TCast.z).Worker
      · by_cases h2 : (l.getD j TCast.z).Value = (l.getD i TCast.z).Value
        · rw [if_pos ((who_mem _ _ _).2 ⟨l.getD j TCast.z, (mem_take TCast.z (by omega)).2 ⟨j, hj, rfl⟩, h2, h1⟩)]
          left
          repeat' (first | assumption | exact Ev.pure _ | apply Ev.iteT (by first | assumption | omega | exact trivial | exact Bool.false_ne_true | exact rfl | (simp only [decide_eq_true_eq]; assumption) | (simp only [decide_eq_true_eq]; omega)) | apply Ev.iteF (by first | assumption | omega | exact trivial | exact Bool.false_ne_true | exact rfl | (simp only [decide_eq_true_eq]; assumption) | (simp only [decide_eq_true_eq]; omega)) | (apply Ev.bind (same1_f _ _ (by omega)); try dsimp only; try simp only [Int.toNat_natCast]) | exact (same1_f _ _ (by omega)) | apply Ev.bind)
        · refine .inr ⟨(), ?_, fun h => ?_⟩
          · rw [take_succ TCast.z (by omega), who_snoc, if_neg h2]; exact hI
          repeat' (first | assumption | exact Ev.pure _ | apply Ev.iteT (by first | assumption | omega | exact trivial | exact Bool.false_ne_true | exact rfl | (simp only [decide_eq_true_eq]; assumption) | (simp only [decide_eq_true_eq]; omega)) | apply Ev.iteF (by first | assumption | omega | exact trivial | exact Bool.false_ne_true | exact rfl | (simp only [decide_eq_true_eq]; assumption) | (simp only [decide_eq_true_eq]; omega)) | (apply Ev.bind (same1_f _ _ (by omega)); try dsimp only; try simp only [Int.toNat_natCast]) | exact (same1_f _ _ (by omega)) | apply Ev.bind)
      · refine .inr ⟨(), ?_, fun h => ?_⟩
        · rw [take_succ TCast.z (by omega), who_snoc]
          split
          · rw [List.mem_append, List.mem_singleton]
            rintro (h | h)
            · exact hI h
            · exact h1 h.symm
          · exact hI
        repeat' (first | assumption | exact Ev.pure _ | apply Ev.iteT (by first | assumption | omega | exact trivial | exact Bool.false_ne_true | exact rfl | (simp only [decide_eq_true_eq]; assumption) | (simp only [decide_eq_true_eq]; omega)) | apply Ev.iteF (by first | assumption | omega | exact trivial | exact Bool.false_ne_true | exact rfl | (simp only [decide_eq_true_eq]; assumption) | (simp only [decide_eq_true_eq]; omega)) | apply Ev.bind)
    · simp only [juratref19_first.l1]
      rw [if_neg hI]
      exact Ev.iteF (by omega) (Ev.pure _)
  refine Ev.bind hloop ?_
  by_cases h : (l.getD i TCast.z).Worker ∈ who (l.take i) (l.getD i TCast.z).Value
  · rw [if_pos h, decide_eq_true h]; exact Ev.pure _
  · rw [if_neg h, decide_eq_false h]; exact Ev.pure _
theorem refCount_f {l : List TCast} (hl : Votes l) {v : List Int} (hv : Byt v) : Ev (fun k => juratref19_Count.f k l v) (cnt l v : Int) := by
  unfold juratref19_Count.f
  have hloop : Ev (fun k => juratref19_Count.l1 k l v 0 0) (cnt l v : Int) := by
    refine Ev.loop (n := l.length) (F := fun k j (s : Int) => juratref19_Count.l1 k l v s (j : Int)) (fun j s => s = (cnt (l.take j) v : Int)) (fun j s hj hI => ?_) (fun s hI => ?_) 0 (by simp [cnt, who, ded])
    · simp only [juratref19_Count.l1, Int.toNat_natCast, wi64_j (show j < 9223372036854775807 by have := hl.1; omega)]
      have hvj := (hl.at hj).1
      have hcl : cnt (l.take j) v ≤ 60 := by
        have h1 := ded_len (who (l.take j) v)
        have h2 : (who (l.take j) v).length ≤ (l.take j).length := by unfold who; rw [List.length_map]; exact List.length_filter_le _ _
        rw [List.length_take] at h2
        have := hl.1
        unfold cnt
        omega
      subst hI
      by_cases h1 : (l.getD j TCast.z).Value = v
      · by_cases h2 : (l.getD j TCast.z).Worker ∈ who (l.take j) (l.getD j TCast.z).Value
        · have hf := first_f hl hj
          rw [decide_eq_true h2, Bool.not_true] at hf
          refine .inr ⟨(cnt (l.take j) v : Int), ?_, fun h => ?_⟩
          · unfold cnt
            rw [take_succ TCast.z hj, who_snoc, if_pos h1, ded_snoc, if_pos (by rw [ded_mem, ← h1]; exact h2)]
          have hs := same1_f (l.getD j TCast.z).Value v (by omega)
          rw [decide_eq_true h1] at hs
          repeat' (first | assumption | exact Ev.pure _ | apply Ev.iteT (by first | assumption | omega | exact trivial | exact Bool.false_ne_true | exact rfl | (simp only [decide_eq_true_eq]; assumption) | (simp only [decide_eq_true_eq]; omega)) | apply Ev.iteF (by first | assumption | omega | exact trivial | exact Bool.false_ne_true | exact rfl | (simp only [decide_eq_true_eq]; assumption) | (simp only [decide_eq_true_eq]; omega)) | (apply Ev.bind (hs); try dsimp only; try simp only [Int.toNat_natCast]) | (apply Ev.bind (hf); try dsimp only; try simp only [Int.toNat_natCast]) | exact (hs) | exact (hf) | apply Ev.bind)
        · have hf := first_f hl hj
          rw [decide_eq_false h2, Bool.not_false] at hf
          refine .inr ⟨((cnt (l.take j) v + 1 : Nat) : Int), ?_, fun h => ?_⟩
          · unfold cnt
            rw [take_succ TCast.z hj, who_snoc, if_pos h1, ded_snoc, if_neg (by rw [ded_mem, ← h1]; exact h2), List.length_append]
            rfl
          have hs := same1_f (l.getD j TCast.z).Value v (by omega)
          rw [decide_eq_true h1] at hs
          rw [← wi64_j (show cnt (l.take j) v < 9223372036854775807 by omega)] at h
          repeat' (first | assumption | exact Ev.pure _ | apply Ev.iteT (by first | assumption | omega | exact trivial | exact Bool.false_ne_true | exact rfl | (simp only [decide_eq_true_eq]; assumption) | (simp only [decide_eq_true_eq]; omega)) | apply Ev.iteF (by first | assumption | omega | exact trivial | exact Bool.false_ne_true | exact rfl | (simp only [decide_eq_true_eq]; assumption) | (simp only [decide_eq_true_eq]; omega)) | (apply Ev.bind (hs); try dsimp only; try simp only [Int.toNat_natCast]) | (apply Ev.bind (hf); try dsimp only; try simp only [Int.toNat_natCast]) | exact (hs) | exact (hf) | apply Ev.bind)
      · refine .inr ⟨(cnt (l.take j) v : Int), ?_, fun h => ?_⟩
        · unfold cnt
          rw [take_succ TCast.z hj, who_snoc, if_neg h1]
        have hs := same1_f (l.getD j TCast.z).Value v (by omega)
        rw [decide_eq_false h1] at hs
        repeat' (first | assumption | exact Ev.pure _ | apply Ev.iteT (by first | assumption | omega | exact trivial | exact Bool.false_ne_true | exact rfl | (simp only [decide_eq_true_eq]; assumption) | (simp only [decide_eq_true_eq]; omega)) | apply Ev.iteF (by first | assumption | omega | exact trivial | exact Bool.false_ne_true | exact rfl | (simp only [decide_eq_true_eq]; assumption) | (simp only [decide_eq_true_eq]; omega)) | (apply Ev.bind (hs); try dsimp only; try simp only [Int.toNat_natCast]) | exact (hs) | apply Ev.bind)
    · simp only [juratref19_Count.l1]
      rw [List.take_length] at hI
      subst hI
      exact Ev.iteF (by omega) (Ev.pure _)
  repeat' (first | assumption | exact Ev.pure _ | apply Ev.iteT (by first | assumption | omega | exact trivial | exact Bool.false_ne_true | exact rfl | (simp only [decide_eq_true_eq]; assumption) | (simp only [decide_eq_true_eq]; omega)) | apply Ev.iteF (by first | assumption | omega | exact trivial | exact Bool.false_ne_true | exact rfl | (simp only [decide_eq_true_eq]; assumption) | (simp only [decide_eq_true_eq]; omega)) | (apply Ev.bind (hloop); try dsimp only; try simp only [Int.toNat_natCast]) | exact (hloop) | apply Ev.bind)
theorem refDecide_f {l : List TCast} (hl : Votes l) (f : Int) : Ev (fun k => juratref19_Decide.f k l f) (decV l f) := by
  unfold juratref19_Decide.f decV
  by_cases hf : f < 0
  · rw [if_pos hf]
    have hloop : Ev (fun k => juratref19_Decide.l1 k l f 0) (Sum.inl ()) := by
      refine Ev.succ ?_
      simp only [juratref19_Decide.l1]
      refine Ev.iteF ?_ (Ev.pure _)
      rw [decide_eq_false (show ¬ f ≥ 0 by omega), Bool.and_false]
      simp
    exact Ev.bind hloop (Ev.pure _)
  · rw [if_neg hf]
    have hloop : Ev (fun k => juratref19_Decide.l1 k l f 0) (if (dec l f l).2 = true then Sum.inr (dec l f l) else Sum.inl ()) := by
      refine Ev.loop (n := l.length) (F := fun k j (_ : Unit) => juratref19_Decide.l1 k l f (j : Int)) (fun j _ => dec l f (l.drop j) = dec l f l) (fun j _ hj hI => ?_) (fun _ hI => ?_) () rfl
      · simp only [juratref19_Decide.l1, Int.toNat_natCast, wi64_j (show j < 9223372036854775807 by have := hl.1; omega), decide_eq_true (show (j : Int) < (l.length : Int) by omega), decide_eq_true (show f ≥ 0 by omega), Bool.true_and]
        rw [drop_cons TCast.z hj, dec] at hI
        by_cases hc : (cnt l (l.getD j TCast.z).Value : Int) > f
        · rw [if_pos hc] at hI
          left
          rw [← hI]
          repeat' (first | assumption | exact Ev.pure _ | apply Ev.iteT (by first | assumption | omega | exact trivial | exact Bool.false_ne_true | exact rfl | (simp only [decide_eq_true_eq]; assumption) | (simp only [decide_eq_true_eq]; omega)) | apply Ev.iteF (by first | assumption | omega | exact trivial | exact Bool.false_ne_true | exact rfl | (simp only [decide_eq_true_eq]; assumption) | (simp only [decide_eq_true_eq]; omega)) | (apply Ev.bind (refCount_f hl (hl.at hj)); try dsimp only; try simp only [Int.toNat_natCast]) | exact (refCount_f hl (hl.at hj)) | apply Ev.bind)
        · rw [if_neg hc] at hI
          refine .inr ⟨(), hI, fun h => ?_⟩
          repeat' (first | assumption | exact Ev.pure _ | apply Ev.iteT (by first | assumption | omega | exact trivial | exact Bool.false_ne_true | exact rfl | (simp only [decide_eq_true_eq]; assumption) | (simp only [decide_eq_true_eq]; omega)) | apply Ev.iteF (by first | assumption | omega | exact trivial | exact Bool.false_ne_true | exact rfl | (simp only [decide_eq_true_eq]; assumption) | (simp only [decide_eq_true_eq]; omega)) | (apply Ev.bind (refCount_f hl (hl.at hj)); try dsimp only; try simp only [Int.toNat_natCast]) | exact (refCount_f hl (hl.at hj)) | apply Ev.bind)
      · simp only [juratref19_Decide.l1]
        rw [List.drop_length, dec] at hI
        rw [← hI]
        refine Ev.iteF ?_ (Ev.pure _)
        simp
    refine Ev.bind hloop ?_
    have hn : ∀ r : List TCast, (dec l f r).2 ≠ true → dec l f r = ([], false) := fun r => by
      induction r with
      | nil => intro _; rfl
      | cons c r ih =>
        unfold dec
        split
        · intro h; exact absurd rfl h
        · exact ih
    by_cases h : (dec l f l).2 = true
    · rw [if_pos h]; exact Ev.pure _
    · rw [if_neg h, hn l h]; exact Ev.pure _
/-- Who voted for another value. -/
def lie (l : List TCast) (v : List Int) : List Int := (l.filter fun c => decide (¬ c.Value = v)).map (·.Worker)
theorem lie_mem (l : List TCast) (v : List Int) (x : Int) : x ∈ lie l v ↔ ∃ c ∈ l, ¬ c.Value = v ∧ c.Worker = x := by
  unfold lie
  rw [List.mem_map]
  constructor
  · rintro ⟨c, hc, rfl⟩
    rw [List.mem_filter] at hc
    exact ⟨c, hc.1, of_decide_eq_true hc.2, rfl⟩
  · rintro ⟨c, hc, h, rfl⟩
    exact ⟨c, List.mem_filter.2 ⟨hc, decide_eq_true h⟩, rfl⟩
theorem lie_snoc (l : List TCast) (c : TCast) (v : List Int) : lie (l ++ [c]) v = if c.Value = v then lie l v else lie l v ++ [c.Worker] := by
  unfold lie
  rw [List.filter_append, List.map_append]
  by_cases h : c.Value = v
  · simp [h]
  · simp [h]
theorem lie_len (l : List TCast) (v : List Int) : (lie l v).length ≤ l.length := by unfold lie; rw [List.length_map]; exact List.length_filter_le _ _
/-- In order, each once. -/
def lies (l : List TCast) (v : List Int) : List Int := sortI (ded (lie l v))
theorem sortI_lt {xs : List Int} (h : xs.Nodup) : (sortI xs).Pairwise (· < ·) := by
  have tr : ∀ a b c : Int, decide (a ≤ b) = true → decide (b ≤ c) = true → decide (a ≤ c) = true := fun a b c h1 h2 => decide_eq_true (Int.le_trans (of_decide_eq_true h1) (of_decide_eq_true h2))
  have to : ∀ a b : Int, (decide (a ≤ b) || decide (b ≤ a)) = true := fun a b => by rcases Int.le_total a b with h | h <;> simp [h]
  have h1 : (sortI xs).Pairwise (fun a b => decide (a ≤ b) = true) := List.pairwise_mergeSort tr to xs
  have h2 : (sortI xs).Nodup := (List.mergeSort_perm xs _).nodup_iff.2 h
  refine (h1.and h2).imp fun h => ?_
  have := of_decide_eq_true h.1
  have := h.2
  omega
theorem sortI_mem (xs : List Int) (x : Int) : x ∈ sortI xs ↔ x ∈ xs := (List.mergeSort_perm xs _).mem_iff
theorem lies_lt (l : List TCast) (v : List Int) : (lies l v).Pairwise (· < ·) := sortI_lt (ded_nodup _)
theorem lies_mem (l : List TCast) (v : List Int) (x : Int) : x ∈ lies l v ↔ ∃ c ∈ l, ¬ c.Value = v ∧ c.Worker = x := by
  unfold lies
  rw [sortI_mem, ded_mem, lie_mem]
theorem lies_len (l : List TCast) (v : List Int) : (lies l v).length ≤ l.length := by
  unfold lies
  rw [sortI_length]
  exact Nat.le_trans (ded_len _) (lie_len _ _)
theorem lt_unique {xs ys : List Int} (hx : xs.Pairwise (· < ·)) (hy : ys.Pairwise (· < ·)) (h : ∀ a, a ∈ xs ↔ a ∈ ys) : xs = ys := by
  have nx : xs.Nodup := hx.imp fun h => by omega
  have ny : ys.Nodup := hy.imp fun h => by omega
  exact List.Perm.eq_of_pairwise (le := (· < ·)) (fun a b _ _ h1 h2 => by omega) hx hy ((List.perm_ext_iff_of_nodup nx ny).2 h)
theorem liars_f {l : List TCast} (hl : Votes l) {v : List Int} (hv : Byt v) : Ev (fun k => tally_Liars.f k l v) (lies l v) := by
  unfold tally_Liars.f
  have hloop : ∃ x : List (Int × Int), x.map (·.1) = ded (lie l v) ∧ Ev (fun k => tally_Liars.l1 k l v [] 0) x := by
    have : ∀ m j, l.length - j = m → j ≤ l.length → ∀ x : List (Int × Int), x.map (·.1) = ded (lie (l.take j) v) → ∃ r : List (Int × Int), r.map (·.1) = ded (lie l v) ∧ Ev (fun k => tally_Liars.l1 k l v x (j : Int)) r := by
      intro m
      induction m with
      | zero =>
        intro j hm hj x hx
        obtain rfl : j = l.length := by omega
        rw [List.take_length] at hx
        refine ⟨x, hx, Ev.succ ?_⟩
        simp only [tally_Liars.l1]
        exact Ev.iteF (by omega) (Ev.pure _)
      | succ m ih =>
        intro j hm hj x hx
        have hjl : j < l.length := by omega
        have hE := equal_f (hl.at hjl) hv
        by_cases h : (l.getD j TCast.z).Value = v
        · obtain ⟨r, hr, hi⟩ := ih (j + 1) (by omega) (by omega) x (by rw [take_succ TCast.z hjl, lie_snoc, if_pos h]; exact hx)
          refine ⟨r, hr, Ev.succ ?_⟩
          simp only [tally_Liars.l1, Int.toNat_natCast, wi64_j (show j < 9223372036854775807 by have := hl.1; omega)]
          rw [decide_eq_true h] at hE
          repeat' (first | assumption | exact Ev.pure _ | apply Ev.iteT (by first | assumption | omega | exact trivial | exact Bool.false_ne_true | exact rfl | (simp only [decide_eq_true_eq]; assumption) | (simp only [decide_eq_true_eq]; omega)) | apply Ev.iteF (by first | assumption | omega | exact trivial | exact Bool.false_ne_true | exact rfl | (simp only [decide_eq_true_eq]; assumption) | (simp only [decide_eq_true_eq]; omega)) | (apply Ev.bind (hE); try dsimp only; try simp only [Int.toNat_natCast]) | exact (hE) | apply Ev.bind)
        · obtain ⟨r, hr, hi⟩ := ih (j + 1) (by omega) (by omega) (mset x (l.getD j TCast.z).Worker (j : Int)) (by rw [take_succ TCast.z hjl, lie_snoc, if_neg h, ded_snoc, mset_keys, hx])
          refine ⟨r, hr, Ev.succ ?_⟩
          simp only [tally_Liars.l1, Int.toNat_natCast, wi64_j (show j < 9223372036854775807 by have := hl.1; omega)]
          rw [decide_eq_false h] at hE
          repeat' (first | assumption | exact Ev.pure _ | apply Ev.iteT (by first | assumption | omega | exact trivial | exact Bool.false_ne_true | exact rfl | (simp only [decide_eq_true_eq]; assumption) | (simp only [decide_eq_true_eq]; omega)) | apply Ev.iteF (by first | assumption | omega | exact trivial | exact Bool.false_ne_true | exact rfl | (simp only [decide_eq_true_eq]; assumption) | (simp only [decide_eq_true_eq]; omega)) | (apply Ev.bind (hE); try dsimp only; try simp only [Int.toNat_natCast]) | exact (hE) | apply Ev.bind)
    exact this _ 0 rfl (Nat.zero_le _) [] (by simp [lie, ded])
  obtain ⟨x, hx, hE⟩ := hloop
  refine Ev.bind hE (Ev.iteT ?_ ?_)
  · have h1 := congrArg List.length hx
    rw [List.length_map] at h1
    have h2 := ded_len (lie l v)
    have h3 := lie_len l v
    have := hl.1
    omega
  · rw [hx]; exact Ev.pure _
end Go.Proofs.Ytaajcpjhcckecaa.Pure
