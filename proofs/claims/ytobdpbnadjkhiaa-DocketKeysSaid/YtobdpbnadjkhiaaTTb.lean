/- Plain laws of tallies: liars, votes that are cast. -/
import Derived.Test.YtobdpbnadjkhiaaTTa
namespace Go.Proofs.Ytobdpbnadjkhiaa.Ta
open Go.WG Go.Proofs.Ytobdpbnadjkhiaa
set_option linter.unusedSimpArgs false
set_option linter.unusedVariables false
theorem who_mem (l : List TCast) (v : List Int) (x : Int) : x ∈ who l v ↔ ∃ c ∈ l, c.Value = v ∧ c.Worker = x := by
  unfold who
  rw [List.mem_map]
  constructor
  · rintro ⟨c, hc, rfl⟩
    rw [List.mem_filter] at hc
    exact ⟨c, hc.1, of_decide_eq_true hc.2, rfl⟩
  · rintro ⟨c, hc, h, rfl⟩
    exact ⟨c, List.mem_filter.2 ⟨hc, decide_eq_true h⟩, rfl⟩
theorem mem_take {α : Type} {l : List α} {n : Nat} {x : α} (d : α) (hn : n ≤ l.length) : x ∈ l.take n ↔ ∃ k, k < n ∧ l.getD k d = x := by
  rw [List.mem_iff_getElem?]
  constructor
  · rintro ⟨k, hk⟩
    rw [List.getElem?_take] at hk
    split at hk
    · rename_i h
      exact ⟨k, h, by rw [List.getD_eq_getElem?_getD, hk]; rfl⟩
    · cases hk
  · rintro ⟨k, hk, rfl⟩
    refine ⟨k, ?_⟩
    rw [List.getElem?_take, if_pos hk, List.getElem?_eq_getElem (by omega), List.getD_eq_getElem?_getD, List.getElem?_eq_getElem (by omega)]
    rfl
/-- Who voted for another value. -/
def lie (l : List TCast) (v : List Int) : List Int := (l.filter fun c => decide (¬ c.Value = v)).map (·.Worker)
theorem lie_mem (l : List TCast) (v : List Int) (x : Int) : x ∈ lie l v ↔ ∃ c ∈ l, ¬ c.Value = v ∧ c.Worker = x := by
  unfold lie
  rw [List.mem_map]
  constructor
  · rintro ⟨c, hc, rfl⟩
    rw [List.mem_filter] at hc
    exact ⟨c, hc.1, of_decide_eq_true hc.2, rfl⟩
  · rintro ⟨c, hc, h, rfl⟩
    exact ⟨c, List.mem_filter.2 ⟨hc, decide_eq_true h⟩, rfl⟩
theorem lie_snoc (l : List TCast) (c : TCast) (v : List Int) : lie (l ++ [c]) v = if c.Value = v then lie l v else lie l v ++ [c.Worker] := by
  unfold lie
  rw [List.filter_append, List.map_append]
  by_cases h : c.Value = v
  · simp [h]
  · simp [h]
theorem lie_len (l : List TCast) (v : List Int) : (lie l v).length ≤ l.length := by unfold lie; rw [List.length_map]; exact List.length_filter_le _ _
/-- In order, each once. -/
def lies (l : List TCast) (v : List Int) : List Int := sortI (ded (lie l v))
theorem sortI_mem (xs : List Int) (x : Int) : x ∈ sortI xs ↔ x ∈ xs := (List.mergeSort_perm xs _).mem_iff
theorem lies_mem (l : List TCast) (v : List Int) (x : Int) : x ∈ lies l v ↔ ∃ c ∈ l, ¬ c.Value = v ∧ c.Worker = x := by
  unfold lies
  rw [sortI_mem, ded_mem, lie_mem]
theorem lies_len (l : List TCast) (v : List Int) : (lies l v).length ≤ l.length := by
  unfold lies
  rw [sortI_length]
  exact Nat.le_trans (ded_len _) (lie_len _ _)
theorem liars_f {l : List TCast} (hl : Votes l) {v : List Int} (hv : Byt v) : Ev (fun k => tally_Liars.f k l v) (lies l v) := by
  unfold tally_Liars.f
  have hloop : ∃ x : List (Int × Int), x.map (·.1) = ded (lie l v) ∧ Ev (fun k => tally_Liars.l1 k l v [] 0) x := by
    have : ∀ m j, l.length - j = m → j ≤ l.length → ∀ x : List (Int × Int), x.map (·.1) = ded (lie (l.take j) v) → ∃ r : List (Int × Int), r.map (·.1) = ded (lie l v) ∧ Ev (fun k => tally_Liars.l1 k l v x (j : Int)) r := by
      intro m
      induction m with
      | zero =>
        intro j hm hj x hx
        obtain rfl : j = l.length := by omega
        rw [List.take_length] at hx
        refine ⟨x, hx, Ev.succ ?_⟩
        simp only [tally_Liars.l1]
        exact Ev.iteF (by omega) (Ev.pure _)
      | succ m ih =>
        intro j hm hj x hx
        have hjl : j < l.length := by omega
        have hE := equal_f (hl.at hjl) hv
        by_cases h : (l.getD j TCast.z).Value = v
        · obtain ⟨r, hr, hi⟩ := ih (j + 1) (by omega) (by omega) x (by rw [take_succ TCast.z hjl, lie_snoc, if_pos h]; exact hx)
          refine ⟨r, hr, Ev.succ ?_⟩
          simp only [tally_Liars.l1, Int.toNat_natCast, wi64_j (show j < 9223372036854775807 by have := hl.1; omega)]
          rw [decide_eq_true h] at hE
          repeat' (first | assumption | exact Ev.pure _ | apply Ev.iteT (by first | assumption | omega | exact trivial | exact Bool.false_ne_true | exact rfl | (simp only [decide_eq_true_eq]; assumption) | (simp only [decide_eq_true_eq]; omega)) | apply Ev.iteF (by first | assumption | omega | exact trivial | exact Bool.false_ne_true | exact rfl | (simp only [decide_eq_true_eq]; assumption) | (simp only [decide_eq_true_eq]; omega)) | (apply Ev.bind (hE); try dsimp only; try simp only [Int.toNat_natCast]) | exact (hE) | apply Ev.bind)
        · obtain ⟨r, hr, hi⟩ := ih (j + 1) (by omega) (by omega) (mset x (l.getD j TCast.z).Worker (j : Int)) (by rw [take_succ TCast.z hjl, lie_snoc, if_neg h, ded_snoc, mset_keys, hx])
          refine ⟨r, hr, Ev.succ ?_⟩
          simp only [tally_Liars.l1, Int.toNat_natCast, wi64_j (show j < 9223372036854775807 by have := hl.1; omega)]
          rw [decide_eq_false h] at hE
          repeat' (first | assumption | exact Ev.pure _ | apply Ev.iteT (by first | assumption | omega | exact trivial | exact Bool.false_ne_true | exact rfl | (simp only [decide_eq_true_eq]; assumption) | (simp only [decide_eq_true_eq]; omega)) | apply Ev.iteF (by first | assumption | omega | exact trivial | exact Bool.false_ne_true | exact rfl | (simp only [decide_eq_true_eq]; assumption) | (simp only [decide_eq_true_eq]; omega)) | (apply Ev.bind (hE); try dsimp only; try simp only [Int.toNat_natCast]) | exact (hE) | apply Ev.bind)
    exact this _ 0 rfl (Nat.zero_le _) [] (by simp [lie, ded])
  obtain ⟨x, hx, hE⟩ := hloop
  refine Ev.bind hE (Ev.iteT ?_ ?_)
  · have h1 := congrArg List.length hx
    rw [List.length_map] at h1
    have h2 := ded_len (lie l v)
    have h3 := lie_len l v
    have := hl.1
    omega
  · rw [hx]; exact Ev.pure _
/-- One vote of each. -/
def Once (l : List TCast) : Prop := (l.map (·.Worker)).Nodup
theorem nodup_map_filter {l : List TCast} (p : TCast → Bool) (h : Once l) : ((l.filter p).map (·.Worker)).Nodup := List.Nodup.sublist ((List.filter_sublist).map _) h
theorem cnt_once {l : List TCast} (h : Once l) (v : List Int) : cnt l v = (l.filter fun c => decide (c.Value = v)).length := by
  unfold cnt who
  rw [ded_id (nodup_map_filter _ h), List.length_map]
theorem two_filters (l : List TCast) {v w : List Int} (h : v ≠ w) : (l.filter fun c => decide (c.Value = v)).length + (l.filter fun c => decide (c.Value = w)).length ≤ l.length := by
  induction l with
  | nil => simp
  | cons c l ih =>
    rw [List.filter_cons, List.filter_cons]
    by_cases h1 : c.Value = v
    · have h2 : ¬ c.Value = w := fun e => h (h1.symm.trans e)
      simp [h1, h]; omega
    · by_cases h2 : c.Value = w
      · simp [h1, h2]
        have : ¬ w = v := fun e => h e.symm
        simp [this]
        omega
      · simp [h1, h2]; omega
/-- No two values have more than f of at most 2f + 1 votes, one each. -/
theorem most_one {l : List TCast} (h : Once l) {f : Int} (hl : (l.length : Int) ≤ 2 * f + 1) {v w : List Int} (hv : (cnt l v : Int) > f) (hw : (cnt l w : Int) > f) : v = w := by
  refine Classical.byContradiction fun hne => ?_
  have := two_filters l hne
  rw [cnt_once h] at hv hw
  omega
theorem dec_true (l : List TCast) (f : Int) : ∀ r : List TCast, (dec l f r).2 = true → (∃ c ∈ r, c.Value = (dec l f r).1) ∧ (cnt l (dec l f r).1 : Int) > f := by
  intro r
  induction r with
  | nil => intro h; cases h
  | cons c r ih =>
    unfold dec
    split
    · rename_i hc
      exact fun _ => ⟨⟨c, by simp, rfl⟩, hc⟩
    · intro h
      obtain ⟨⟨d, hd, he⟩, h2⟩ := ih h
      exact ⟨⟨d, List.mem_cons_of_mem _ hd, he⟩, h2⟩
theorem dec_some (l : List TCast) (f : Int) : ∀ r : List TCast, (∃ c ∈ r, (cnt l c.Value : Int) > f) → (dec l f r).2 = true := by
  intro r
  induction r with
  | nil => rintro ⟨c, hc, _⟩; cases hc
  | cons c r ih =>
    rintro ⟨d, hd, h⟩
    unfold dec
    split
    · rfl
    · rename_i hc
      rcases List.mem_cons.1 hd with rfl | hd
      · exact absurd h hc
      · exact ih ⟨d, hd, h⟩
theorem cnt_pos {l : List TCast} {v : List Int} (h : 0 < cnt l v) : ∃ c ∈ l, c.Value = v := by
  unfold cnt at h
  obtain ⟨x, hx⟩ := List.exists_mem_of_length_pos h
  rw [ded_mem, who_mem] at hx
  obtain ⟨c, hc, h1, _⟩ := hx
  exact ⟨c, hc, h1⟩
/-- What is decided of at most 2f + 1 votes, one each: the value that has more than f. -/
theorem decV_eq {l : List TCast} (h : Once l) {f : Int} (hf : 0 ≤ f) (hl : (l.length : Int) ≤ 2 * f + 1) {v : List Int} (hv : (cnt l v : Int) > f) : decV l f = (v, true) := by
  unfold decV
  rw [if_neg (by omega)]
  obtain ⟨c, hc, rfl⟩ := cnt_pos (l := l) (v := v) (by omega)
  have h1 := dec_some l f l ⟨c, hc, hv⟩
  obtain ⟨_, h2⟩ := dec_true l f l h1
  have := most_one h hl hv h2
  rw [this]
  exact Prod.ext rfl h1
/-- A vote more, or an error. -/
def castV (l : List TCast) (c : TCast) : List TCast × Int :=
  if c.Worker < 0 then ([], 1) else if (c.Value.length : Int) > 32 then ([], 42) else if ∃ d ∈ l, d.Worker = c.Worker then ([], 190) else (l ++ [c], 0)
theorem cast_f {l : List TCast} (hl : Votes l) (c : TCast) : Ev (fun k => tally_Cast.f k l c) (castV l c) := by
  unfold tally_Cast.f castV
  have h60 := hl.1
  by_cases h1 : c.Worker < 0
  · rw [if_pos h1]; exact Ev.iteT h1 (Ev.pure _)
  rw [if_neg h1]
  refine Ev.iteF h1 ?_
  by_cases h2 : (c.Value.length : Int) > 32
  · rw [if_pos h2]; exact Ev.iteT h2 (Ev.pure _)
  rw [if_neg h2]
  refine Ev.iteF h2 ?_
  by_cases h3 : ∃ d ∈ l, d.Worker = c.Worker
  · rw [if_pos h3]
    have hloop : Ev (fun k => tally_Cast.l1 k l c [] 0) (Sum.inr ([], 190)) := by
      refine Ev.loop (n := l.length) (F := fun k j (s : List TCast) => tally_Cast.l1 k l c s (j : Int)) (fun j s => s.length = j ∧ ∀ d ∈ l.take j, ¬ d.Worker = c.Worker) (fun j s hj hI => ?_) (fun s hI => ?_) [] ⟨rfl, by simp⟩
      · obtain ⟨hs, hI⟩ := hI
        simp only [tally_Cast.l1, Int.toNat_natCast, wi64_j (show j < 9223372036854775807 by omega)]
        by_cases h4 : (l.getD j TCast.z).Worker = c.Worker
        · left
          repeat' (first | assumption | exact Ev.pure _ | apply Ev.iteT (by first | assumption | omega | exact trivial | exact Bool.false_ne_true | exact rfl | (simp only [decide_eq_true_eq]; assumption) | (simp only [decide_eq_true_eq]; omega)) | apply Ev.iteF (by first | assumption | omega | exact trivial | exact Bool.false_ne_true | exact rfl | (simp only [decide_eq_true_eq]; assumption) | (simp only [decide_eq_true_eq]; omega)) | apply Ev.bind)
        · refine .inr ⟨s ++ [(⟨(l.getD j TCast.z).Worker, (l.getD j TCast.z).Value⟩ : TCast)], ⟨by rw [List.length_append, hs]; rfl, fun d hd => ?_⟩, fun h => ?_⟩
          · rw [take_succ TCast.z hj] at hd
            rcases List.mem_append.1 hd with h | h
            · exact hI d h
            · rw [List.mem_singleton.1 h]; exact h4
          · repeat' (first | assumption | exact Ev.pure _ | apply Ev.iteT (by first | assumption | omega | exact trivial | exact Bool.false_ne_true | exact rfl | (simp only [decide_eq_true_eq]; assumption) | (simp only [decide_eq_true_eq]; omega)) | apply Ev.iteF (by first | assumption | omega | exact trivial | exact Bool.false_ne_true | exact rfl | (simp only [decide_eq_true_eq]; assumption) | (simp only [decide_eq_true_eq]; omega)) | (apply Ev.bind (own_f _ (hl.at hj).1); try dsimp only; try simp only [Int.toNat_natCast]) | exact (own_f _ (hl.at hj).1) | apply Ev.bind)
      · rw [List.take_length] at hI
        obtain ⟨d, hd, he⟩ := h3
        exact absurd he (hI.2 d hd)
    exact Ev.bind hloop (Ev.pure _)
  · rw [if_neg h3]
    have hloop : Ev (fun k => tally_Cast.l1 k l c [] 0) (Sum.inl l) := by
      refine Ev.loop (n := l.length) (F := fun k j (s : List TCast) => tally_Cast.l1 k l c s (j : Int)) (fun j s => s = l.take j) (fun j s hj hI => ?_) (fun s hI => ?_) [] rfl
      · subst hI
        have htl : (l.take j).length = j := by rw [List.length_take]; omega
        have h4 : ¬ (l.getD j TCast.z).Worker = c.Worker := fun e => h3 ⟨_, by
          rw [List.getD_eq_getElem?_getD, List.getElem?_eq_getElem hj]; exact List.getElem_mem hj, e⟩
        simp only [tally_Cast.l1, Int.toNat_natCast, wi64_j (show j < 9223372036854775807 by omega)]
        refine .inr ⟨_, rfl, fun h => ?_⟩
        rw [take_succ TCast.z hj] at h
        repeat' (first | assumption | exact Ev.pure _ | apply Ev.iteT (by first | assumption | omega | exact trivial | exact Bool.false_ne_true | exact rfl | (simp only [decide_eq_true_eq]; assumption) | (simp only [decide_eq_true_eq]; omega)) | apply Ev.iteF (by first | assumption | omega | exact trivial | exact Bool.false_ne_true | exact rfl | (simp only [decide_eq_true_eq]; assumption) | (simp only [decide_eq_true_eq]; omega)) | (apply Ev.bind (own_f _ (hl.at hj).1); try dsimp only; try simp only [Int.toNat_natCast]) | exact (own_f _ (hl.at hj).1) | apply Ev.bind)
      · subst hI
        rw [List.take_length]
        simp only [tally_Cast.l1]
        exact Ev.iteF (by omega) (Ev.pure _)
    refine Ev.bind hloop ?_
    simp only [sumE]
    refine Ev.bind (own_f _ (by omega)) ?_
    repeat' (first | assumption | exact Ev.pure _ | apply Ev.iteT (by first | assumption | omega | exact trivial | exact Bool.false_ne_true | exact rfl | (simp only [decide_eq_true_eq]; assumption) | (simp only [decide_eq_true_eq]; omega)) | apply Ev.iteF (by first | assumption | omega | exact trivial | exact Bool.false_ne_true | exact rfl | (simp only [decide_eq_true_eq]; assumption) | (simp only [decide_eq_true_eq]; omega)) | apply Ev.bind)
end Go.Proofs.Ytobdpbnadjkhiaa.Ta
