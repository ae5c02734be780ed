/- Plain laws of tallies: votes of the workers 0, 1, 2 ..; what has more than f. -/
import Derived.Test.YtaajcpjhcckecaaTUc
namespace Go.Proofs.Ytaajcpjhcckecaa.Pure
open Go.WG Go.Proofs.Ytaajcpjhcckecaa
set_option linter.unusedSimpArgs false
set_option linter.unusedVariables false
/-- One vote of each. -/
def Once (l : List TCast) : Prop := (l.map (·.Worker)).Nodup
theorem nodup_map_filter {l : List TCast} (p : TCast → Bool) (h : Once l) : ((l.filter p).map (·.Worker)).Nodup := List.Nodup.sublist ((List.filter_sublist).map _) h
theorem cnt_once {l : List TCast} (h : Once l) (v : List Int) : cnt l v = (l.filter fun c => decide (c.Value = v)).length := by
  unfold cnt who
  rw [ded_id (nodup_map_filter _ h), List.length_map]
theorem lies_once {l : List TCast} (h : Once l) (v : List Int) : (lies l v).length = (l.filter fun c => decide (¬ c.Value = v)).length := by
  unfold lies lie
  rw [sortI_length, ded_id (nodup_map_filter _ h), List.length_map]
theorem two_filters (l : List TCast) {v w : List Int} (h : v ≠ w) : (l.filter fun c => decide (c.Value = v)).length + (l.filter fun c => decide (c.Value = w)).length ≤ l.length := by
  induction l with
  | nil => simp
  | cons c l ih =>
    rw [List.filter_cons, List.filter_cons]
    by_cases h1 : c.Value = v
    · have h2 : ¬ c.Value = w := fun e => h (h1.symm.trans e)
      simp [h1, h]; omega
    · by_cases h2 : c.Value = w
      · simp [h1, h2]
        have : ¬ w = v := fun e => h e.symm
        simp [this]
        omega
      · simp [h1, h2]; omega
theorem both_filters (l : List TCast) (v : List Int) : (l.filter fun c => decide (c.Value = v)).length + (l.filter fun c => decide (¬ c.Value = v)).length = l.length := by
  induction l with
  | nil => simp
  | cons c l ih =>
    rw [List.filter_cons, List.filter_cons]
    by_cases h1 : c.Value = v
    · rw [if_pos (decide_eq_true h1), if_neg (by simpa using h1), List.length_cons, List.length_cons]; omega
    · rw [if_neg (by simpa using h1), if_pos (decide_eq_true h1), List.length_cons, List.length_cons]; omega
/-- No two values have more than f of at most 2f + 1 votes, one each. -/
theorem most_one {l : List TCast} (h : Once l) {f : Int} (hl : (l.length : Int) ≤ 2 * f + 1) {v w : List Int} (hv : (cnt l v : Int) > f) (hw : (cnt l w : Int) > f) : v = w := by
  refine Classical.byContradiction fun hne => ?_
  have := two_filters l hne
  rw [cnt_once h] at hv hw
  omega
theorem dec_true (l : List TCast) (f : Int) : ∀ r : List TCast, (dec l f r).2 = true → (∃ c ∈ r, c.Value = (dec l f r).1) ∧ (cnt l (dec l f r).1 : Int) > f := by
  intro r
  induction r with
  | nil => intro h; cases h
  | cons c r ih =>
    unfold dec
    split
    · rename_i hc
      exact fun _ => ⟨⟨c, by simp, rfl⟩, hc⟩
    · intro h
      obtain ⟨⟨d, hd, he⟩, h2⟩ := ih h
      exact ⟨⟨d, List.mem_cons_of_mem _ hd, he⟩, h2⟩
theorem dec_some (l : List TCast) (f : Int) : ∀ r : List TCast, (∃ c ∈ r, (cnt l c.Value : Int) > f) → (dec l f r).2 = true := by
  intro r
  induction r with
  | nil => rintro ⟨c, hc, _⟩; cases hc
  | cons c r ih =>
    rintro ⟨d, hd, h⟩
    unfold dec
    split
    · rfl
    · rename_i hc
      rcases List.mem_cons.1 hd with rfl | hd
      · exact absurd h hc
      · exact ih ⟨d, hd, h⟩
theorem cnt_pos {l : List TCast} {v : List Int} (h : 0 < cnt l v) : ∃ c ∈ l, c.Value = v := by
  unfold cnt at h
  obtain ⟨x, hx⟩ := List.exists_mem_of_length_pos h
  rw [ded_mem, who_mem] at hx
  obtain ⟨c, hc, h1, _⟩ := hx
  exact ⟨c, hc, h1⟩
/-- What is decided of at most 2f + 1 votes, one each: the value that has more than f. -/
theorem decV_eq {l : List TCast} (h : Once l) {f : Int} (hf : 0 ≤ f) (hl : (l.length : Int) ≤ 2 * f + 1) {v : List Int} (hv : (cnt l v : Int) > f) : decV l f = (v, true) := by
  unfold decV
  rw [if_neg (by omega)]
  obtain ⟨c, hc, rfl⟩ := cnt_pos (l := l) (v := v) (by omega)
  have h1 := dec_some l f l ⟨c, hc, hv⟩
  obtain ⟨_, h2⟩ := dec_true l f l h1
  have := most_one h hl hv h2
  rw [this]
  exact Prod.ext rfl h1
/-- The votes of values, of the workers 0, 1, 2 .. -/
def vl (vs : List (List Int)) : List TCast := vs.zipIdx.map fun p => ⟨(p.2 : Int), p.1⟩
theorem vl_length (vs : List (List Int)) : (vl vs).length = vs.length := by simp [vl]
theorem vl_get (vs : List (List Int)) {i : Nat} (hi : i < vs.length) : (vl vs).getD i TCast.z = ⟨(i : Int), vs.getD i []⟩ := by
  unfold vl
  rw [List.getD_eq_getElem?_getD, List.getD_eq_getElem?_getD, List.getElem?_map, List.getElem?_zipIdx, List.getElem?_eq_getElem hi]
  simp
theorem vl_snoc (vs : List (List Int)) {j : Nat} (hj : j < vs.length) : vl (vs.take (j + 1)) = vl (vs.take j) ++ [⟨(j : Int), vs.getD j []⟩] := by
  unfold vl
  rw [take_succ [] hj, List.zipIdx_append, List.map_append]
  have : (vs.take j).length = j := by rw [List.length_take]; omega
  rw [this]
  simp
theorem vl_once (vs : List (List Int)) : Once (vl vs) := by
  unfold Once vl
  rw [List.map_map]
  have h : (vs.zipIdx.map ((fun c : TCast => c.Worker) ∘ fun p : List Int × Nat => (⟨(p.2 : Int), p.1⟩ : TCast))) = (List.range' 0 vs.length).map (fun n : Nat => (n : Int)) := by
    rw [← List.zipIdx_map_snd 0 vs, List.map_map]
    rfl
  rw [h]
  exact List.Pairwise.map _ (fun a b hab e => hab (by omega)) (List.nodup_range' (step := 1))
theorem vl_mem {vs : List (List Int)} {c : TCast} (h : c ∈ vl vs) : c.Value ∈ vs := by
  unfold vl at h
  obtain ⟨p, hp, rfl⟩ := List.mem_map.1 h
  exact (List.mem_zipIdx' hp).2 ▸ List.getElem_mem _
theorem vl_filter (p : List Int → Bool) (vs : List (List Int)) : ((vl vs).filter fun c => p c.Value).length = (vs.filter p).length := by
  unfold vl
  have h : ∀ (vs : List (List Int)) (n : Nat), (((vs.zipIdx n).map fun p => (⟨(p.2 : Int), p.1⟩ : TCast)).filter fun c => p c.Value).length = (vs.filter p).length := by
    intro vs
    induction vs with
    | nil => intro n; rfl
    | cons v vs ih =>
      intro n
      rw [List.zipIdx_cons, List.map_cons, List.filter_cons, List.filter_cons]
      by_cases hp : p v = true
      · rw [if_pos hp, if_pos hp, List.length_cons, List.length_cons, ih]
      · rw [if_neg hp, if_neg hp, ih]
  exact h vs 0
theorem votes_f {vs : List (List Int)} (h0 : vs.length * 24 ≤ Go.reachBytes) (h1 : ∀ v ∈ vs, v.length ≤ Go.reachBytes) : Ev (fun k => juratlaw19_votes.f k vs) (vl vs) := by
  unfold juratlaw19_votes.f
  unfold Go.reachBytes at h0 h1
  have hloop : Ev (fun k => juratlaw19_votes.l1 k vs [] 0) (vl vs) := by
    refine Ev.loop (n := vs.length) (F := fun k j (s : List TCast) => juratlaw19_votes.l1 k vs s (j : Int)) (fun j s => s = vl (vs.take j)) (fun j s hj hI => ?_) (fun s hI => ?_) [] rfl
    · subst hI
      have hl : (vl (vs.take j)).length = j := by rw [vl_length, List.length_take]; omega
      have hv : (vs.getD j []).length ≤ 140737488351232 := by
        rw [List.getD_eq_getElem?_getD, List.getElem?_eq_getElem hj]
        exact h1 _ (List.getElem_mem hj)
      refine .inr ⟨_, rfl, fun h => ?_⟩
      rw [vl_snoc vs hj] at h
      simp only [juratlaw19_votes.l1, Int.toNat_natCast, wi64_j (show j < 9223372036854775807 by omega)]
      repeat' (first | assumption | exact Ev.pure _ | apply Ev.iteT (by first | assumption | omega | exact trivial | exact Bool.false_ne_true | exact rfl | (simp only [decide_eq_true_eq]; assumption) | (simp only [decide_eq_true_eq]; omega)) | apply Ev.iteF (by first | assumption | omega | exact trivial | exact Bool.false_ne_true | exact rfl | (simp only [decide_eq_true_eq]; assumption) | (simp only [decide_eq_true_eq]; omega)) | apply Ev.bind)
    · subst hI
      rw [List.take_length]
      simp only [juratlaw19_votes.l1]
      exact Ev.iteF (by omega) (Ev.pure _)
  repeat' (first | assumption | exact Ev.pure _ | apply Ev.iteT (by first | assumption | omega | exact trivial | exact Bool.false_ne_true | exact rfl | (simp only [decide_eq_true_eq]; assumption) | (simp only [decide_eq_true_eq]; omega)) | apply Ev.iteF (by first | assumption | omega | exact trivial | exact Bool.false_ne_true | exact rfl | (simp only [decide_eq_true_eq]; assumption) | (simp only [decide_eq_true_eq]; omega)) | (apply Ev.bind (hloop); try dsimp only; try simp only [Int.toNat_natCast]) | exact (hloop) | apply Ev.bind)
theorem okValues {vs : List (List Int)} (h : ok22 vs) : vs.length * 24 ≤ Go.reachBytes ∧ (∀ v ∈ vs, v.length ≤ Go.reachBytes) ∧ ∀ v ∈ vs, ∀ x ∈ v, 0 ≤ x ∧ x < 256 :=
  ⟨h.1, fun v hv => by have := (h.2 v hv).1; simpa using this, fun v hv => okBytes (h.2 v hv)⟩
theorem lawGreat_f {vs : List (List Int)} (h : ok22 vs) : ∃ b, Ev (fun k => juratlaw19_great.f k vs) b ∧ (b = false → Votes (vl vs)) := by
  obtain ⟨h0, h1, h2⟩ := okValues h
  obtain ⟨b, hb, hV⟩ := great_f (vl vs) (fun c hc => h2 _ (vl_mem hc))
  refine ⟨b, ?_, hV⟩
  unfold juratlaw19_great.f
  exact Ev.bind (votes_f h0 h1) (Ev.bind hb (Ev.pure _))
end Go.Proofs.Ytaajcpjhcckecaa.Pure
