/- Plain laws of tallies: the document's liars, copies; the example. -/
import Derived.Test.YtaajcpjhcckecaaTUb
namespace Go.Proofs.Ytaajcpjhcckecaa.Pure
open Go.WG Go.Proofs.Ytaajcpjhcckecaa
set_option linter.unusedSimpArgs false
set_option linter.unusedVariables false
theorem okBytes {v : List Int} (h : ok23 v) : ∀ x ∈ v, 0 ≤ x ∧ x < 256 := fun x hx => wf8 (h.2 x hx)
theorem okVotes {l : List TCast} (h : ok26 l) : ∀ c ∈ l, ∀ x ∈ c.Value, 0 ≤ x ∧ x < 256 := fun c hc => okBytes (h.2 c hc).2
theorem getD_append_len {T R : List Int} {r : Int} : (T ++ r :: R).getD T.length 0 = r := by
  rw [List.getD_eq_getElem?_getD, List.getElem?_append_right (Nat.le_refl _), Nat.sub_self]
  rfl
theorem tw_split (out : List Int) (w : Int) : ∃ T R, out = T ++ R ∧ (∀ x ∈ T, x < w) ∧ (∀ r R', R = r :: R' → ¬ r < w) := by
  induction out with
  | nil => exact ⟨[], [], rfl, by simp, fun _ _ h => by cases h⟩
  | cons a out ih =>
    by_cases h : a < w
    · obtain ⟨T, R, rfl, hT, hR⟩ := ih
      refine ⟨a :: T, R, rfl, fun x hx => ?_, hR⟩
      rcases List.mem_cons.1 hx with rfl | hx
      · exact h
      · exact hT x hx
    · exact ⟨[], a :: out, rfl, by simp, fun r R' e => by injection e with e _; rw [← e]; exact h⟩
theorem refLiars_l2 {l : List TCast} {T R : List Int} {i : Nat} (hi : i < l.length) (hb : (T ++ R).length ≤ 60) (hT : ∀ x ∈ T, x < (l.getD i TCast.z).Worker) (hR : ∀ r R', R = r :: R' → ¬ r < (l.getD i TCast.z).Worker) :
    Ev (fun k => juratref19_Liars.l2 k l (T ++ R) (i : Int) [] 0) (T, (T.length : Int)) := by
  have hlen : (T ++ R).length = T.length + R.length := List.length_append
  refine Ev.loop (n := T.length) (F := fun k j (s : List Int) => juratref19_Liars.l2 k l (T ++ R) (i : Int) s (j : Int)) (fun j s => s = T.take j) (fun j s hj hI => ?_) (fun s hI => ?_) [] rfl
  · subst hI
    have hlt : (T ++ R).getD j 0 < (l.getD i TCast.z).Worker := by
      rw [List.getD_eq_getElem?_getD, List.getElem?_append_left hj, List.getElem?_eq_getElem hj]
      exact hT _ (List.getElem_mem hj)
    have hget : (T ++ R).getD j 0 = T.getD j 0 := by
      rw [List.getD_eq_getElem?_getD, List.getD_eq_getElem?_getD, List.getElem?_append_left hj]
    have htl : (T.take j).length = j := by rw [List.length_take]; omega
    simp only [juratref19_Liars.l2, Int.toNat_natCast, wi64_j (show j < 9223372036854775807 by omega), decide_eq_true hlt]
    refine .inr ⟨T.take (j + 1), rfl, fun h => ?_⟩
    rw [take_succ 0 hj, ← hget] at h
    repeat' (first | assumption | exact Ev.pure _ | apply Ev.iteT (by first | assumption | omega | exact trivial | exact Bool.false_ne_true | exact rfl | (simp only [decide_eq_true_eq]; assumption) | (simp only [decide_eq_true_eq]; omega)) | apply Ev.iteF (by first | assumption | omega | exact trivial | exact Bool.false_ne_true | exact rfl | (simp only [decide_eq_true_eq]; assumption) | (simp only [decide_eq_true_eq]; omega)) | apply Ev.bind)
  · subst hI
    rw [List.take_length]
    simp only [juratref19_Liars.l2, Int.toNat_natCast]
    cases R with
    | nil =>
      have h0 : (T ++ ([] : List Int)).length = T.length := by simp
      repeat' (first | assumption | exact Ev.pure _ | apply Ev.iteT (by first | assumption | omega | exact trivial | exact Bool.false_ne_true | exact rfl | (simp only [decide_eq_true_eq]; assumption) | (simp only [decide_eq_true_eq]; omega)) | apply Ev.iteF (by first | assumption | omega | exact trivial | exact Bool.false_ne_true | exact rfl | (simp only [decide_eq_true_eq]; assumption) | (simp only [decide_eq_true_eq]; omega)) | apply Ev.bind)
    | cons r R' =>
      have hge : ¬ (T ++ r :: R').getD T.length 0 < (l.getD i TCast.z).Worker := by rw [getD_append_len]; exact hR r R' rfl
      rw [List.length_cons] at hlen
      simp only [decide_eq_false hge]
      repeat' (first | assumption | exact Ev.pure _ | apply Ev.iteT (by first | assumption | omega | exact trivial | exact Bool.false_ne_true | exact rfl | (simp only [decide_eq_true_eq]; assumption) | (simp only [decide_eq_true_eq]; omega)) | apply Ev.iteF (by first | assumption | omega | exact trivial | exact Bool.false_ne_true | exact rfl | (simp only [decide_eq_true_eq]; assumption) | (simp only [decide_eq_true_eq]; omega)) | apply Ev.bind)
theorem ins_lt {T R : List Int} {w : Int} (h : (T ++ R).Pairwise (· < ·)) (hT : ∀ x ∈ T, x < w) (hR : ∀ r R', R = r :: R' → w < r) : ((T ++ [w]) ++ R).Pairwise (· < ·) := by
  obtain ⟨h1, h2, h3⟩ := List.pairwise_append.1 h
  have hw : ∀ r ∈ R, w < r := fun r hr => by
    cases R with
    | nil => cases hr
    | cons a R' =>
      have ha := hR a R' rfl
      rcases List.mem_cons.1 hr with rfl | hr
      · exact ha
      · have := (List.pairwise_cons.1 h2).1 r hr
        omega
  rw [List.append_assoc]
  refine List.pairwise_append.2 ⟨h1, List.pairwise_cons.2 ⟨hw, h2⟩, fun a ha b hb => ?_⟩
  rcases List.mem_cons.1 hb with rfl | hb
  · exact hT a ha
  · exact h3 a ha b hb
theorem refLiars_f {l : List TCast} (hl : Votes l) {v : List Int} (hv : v.length ≤ 200) : Ev (fun k => juratref19_Liars.f k l v) (lies l v) := by
  unfold juratref19_Liars.f
  have hloop : Ev (fun k => juratref19_Liars.l1 k l v [] 0) (lies l v) := by
    refine Ev.loop (n := l.length) (F := fun k j (s : List Int) => juratref19_Liars.l1 k l v s (j : Int)) (fun j s => s = lies (l.take j) v) (fun j s hj hI => ?_) (fun s hI => ?_) [] (by simp [lies, lie, ded, sortI])
    · have hlt := lies_lt (l.take j) v
      have hmem := lies_mem (l.take j) v
      have hsl : s.length ≤ 60 := by
        have h1 := lies_len (l.take j) v
        rw [List.length_take] at h1
        have := hl.1
        rw [hI]; omega
      rw [← hI] at hlt hmem
      have hvj := (hl.at hj).1
      have hs := same1_f (l.getD j TCast.z).Value v (by omega)
      by_cases h1 : (l.getD j TCast.z).Value = v
      · rw [decide_eq_true h1] at hs
        refine .inr ⟨s, ?_, fun h => ?_⟩
        · rw [hI]
          unfold lies
          rw [take_succ TCast.z hj, lie_snoc, if_pos h1]
        simp only [juratref19_Liars.l1, Int.toNat_natCast, wi64_j (show j < 9223372036854775807 by have := hl.1; omega)]
        repeat' (first | assumption | exact Ev.pure _ | apply Ev.iteT (by first | assumption | omega | exact trivial | exact Bool.false_ne_true | exact rfl | (simp only [decide_eq_true_eq]; assumption) | (simp only [decide_eq_true_eq]; omega)) | apply Ev.iteF (by first | assumption | omega | exact trivial | exact Bool.false_ne_true | exact rfl | (simp only [decide_eq_true_eq]; assumption) | (simp only [decide_eq_true_eq]; omega)) | (apply Ev.bind (hs); try dsimp only; try simp only [Int.toNat_natCast]) | exact (hs) | apply Ev.bind)
      · rw [decide_eq_false h1] at hs
        have hnew : ∀ out : List Int, out.Pairwise (· < ·) → (∀ x, x ∈ out ↔ x ∈ s ∨ x = (l.getD j TCast.z).Worker) → out = lies (l.take (j + 1)) v := fun out ho hm => by
          refine lt_unique ho (lies_lt _ _) fun x => ?_
          rw [hm, lies_mem, hmem, take_succ TCast.z hj]
          constructor
          · rintro (⟨c, hc, h⟩ | rfl)
            · exact ⟨c, List.mem_append_left _ hc, h⟩
            · exact ⟨_, List.mem_append_right _ (by simp), h1, rfl⟩
          · rintro ⟨c, hc, h2, rfl⟩
            rcases List.mem_append.1 hc with hc | hc
            · exact .inl ⟨c, hc, h2, rfl⟩
            · rw [List.mem_singleton.1 hc]; exact .inr rfl
        obtain ⟨T, R, rfl, hT, hR⟩ := tw_split s (l.getD j TCast.z).Worker
        have hl2 := refLiars_l2 hj hsl hT hR
        have hlen : (T ++ R).length = T.length + R.length := List.length_append
        have hl1 : (T ++ [(l.getD j TCast.z).Worker]).length = T.length + 1 := List.length_append
        have hd0 : (T ++ R).drop T.length = R := List.drop_left
        have hw1 := wi64_j (show T.length < 9223372036854775807 by omega)
        cases R with
        | nil =>
          rw [List.append_nil] at hlen hd0
          refine .inr ⟨(T ++ [(l.getD j TCast.z).Worker]) ++ [], hnew _ (ins_lt hlt hT (fun _ _ h => by cases h)) (fun x => by simp), fun h => ?_⟩
          simp only [juratref19_Liars.l1, Int.toNat_natCast, wi64_j (show j < 9223372036854775807 by have := hl.1; omega)]
          rw [List.append_nil] at hl2 hsl
          simp only [List.append_nil] at h ⊢
          have hd1 : (T.drop T.length).length = 0 := by simp
          have h' : Ev (fun k => juratref19_Liars.l1 k l v (T ++ [(l.getD j TCast.z).Worker] ++ T.drop T.length) ((j + 1 : Nat) : Int)) (lies l v) := by rw [List.drop_length, List.append_nil]; exact h
          repeat' (first | assumption | exact Ev.pure _ | apply Ev.iteT (by first | assumption | omega | exact trivial | exact Bool.false_ne_true | exact rfl | (simp only [decide_eq_true_eq]; assumption) | (simp only [decide_eq_true_eq]; omega)) | apply Ev.iteF (by first | assumption | omega | exact trivial | exact Bool.false_ne_true | exact rfl | (simp only [decide_eq_true_eq]; assumption) | (simp only [decide_eq_true_eq]; omega)) | (apply Ev.bind (hs); try dsimp only; try simp only [Int.toNat_natCast]) | (apply Ev.bind (hl2); try dsimp only; try simp only [Int.toNat_natCast]) | exact (hs) | exact (hl2) | apply Ev.bind)
        | cons r R' =>
          rw [List.length_cons] at hlen
          have hge := hR r R' rfl
          have hgr : (T ++ r :: R').getD T.length 0 = r := getD_append_len
          have hd1 : (T ++ r :: R').drop (T.length + 1) = R' := by
            rw [← List.drop_drop, hd0]; rfl
          by_cases hrw : r = (l.getD j TCast.z).Worker
          · have hlt' : (T ++ R').Pairwise (· < ·) := by
              obtain ⟨h2, h3, h4⟩ := List.pairwise_append.1 hlt
              exact List.pairwise_append.2 ⟨h2, (List.pairwise_cons.1 h3).2, fun a ha b hb => h4 a ha b (List.mem_cons_of_mem _ hb)⟩
            refine .inr ⟨(T ++ [(l.getD j TCast.z).Worker]) ++ (T ++ r :: R').drop (T.length + 1), hnew _ ?_ ?_, fun h => ?_⟩
            · rw [hd1]
              refine ins_lt hlt' hT fun a A h => ?_
              rw [← hrw]
              exact (List.pairwise_cons.1 (List.pairwise_append.1 hlt).2.1).1 a (by rw [h]; simp)
            · intro x
              rw [hd1]
              simp only [List.mem_append, List.mem_cons, List.mem_singleton, List.not_mem_nil, or_false]
              rw [← hrw]
              constructor
              · rintro ((h | h) | h)
                · exact .inl (.inl h)
                · exact .inr h
                · exact .inl (.inr (.inr h))
              · rintro ((h | h | h) | h)
                · exact .inl (.inl h)
                · exact .inl (.inr h)
                · exact .inr h
                · exact .inl (.inr h)
            simp only [juratref19_Liars.l1, Int.toNat_natCast, wi64_j (show j < 9223372036854775807 by have := hl.1; omega)]
            have hdl : ((T ++ r :: R').drop (T.length + 1)).length = R'.length := by rw [hd1]
            have he : (T ++ r :: R').getD T.length 0 = (l.getD j TCast.z).Worker := by rw [hgr, hrw]
            have hbind : Ev (fun k => (if (T.length : Int) < ((T ++ r :: R').length : Int) then (if 0 ≤ (T.length : Int) ∧ (T.length : Int) < ((T ++ r :: R').length : Int) then (some (decide (((T ++ r :: R').getD T.length 0) = ((l.getD j TCast.z).Worker)))) else none) else (some (false)))) true := by
              rw [decide_eq_true he]
              repeat' (first | assumption | exact Ev.pure _ | apply Ev.iteT (by first | assumption | omega | exact trivial | exact Bool.false_ne_true | exact rfl | (simp only [decide_eq_true_eq]; assumption) | (simp only [decide_eq_true_eq]; omega)) | apply Ev.iteF (by first | assumption | omega | exact trivial | exact Bool.false_ne_true | exact rfl | (simp only [decide_eq_true_eq]; assumption) | (simp only [decide_eq_true_eq]; omega)) | apply Ev.bind)
            refine Ev.iteT (by omega) (Ev.iteT (by omega) (Ev.bind hs (Ev.iteF (by simp) (Ev.bind hl2 ?_))))
            dsimp only
            refine Ev.iteT (by omega) (Ev.bind hbind (Ev.iteT rfl ?_))
            simp only [Int.toNat_natCast, hw1]
            refine Ev.iteT (by omega) (Ev.iteT ?_ h)
            rw [hl1, hdl]; omega
          · refine .inr ⟨(T ++ [(l.getD j TCast.z).Worker]) ++ (T ++ r :: R').drop T.length, hnew _ ?_ ?_, fun h => ?_⟩
            · rw [hd0]
              refine ins_lt hlt hT fun a A h => ?_
              injection h with h _
              subst h
              omega
            · intro x
              rw [hd0]
              simp only [List.mem_append, List.mem_cons, List.mem_singleton, List.not_mem_nil, or_false]
              constructor
              · rintro ((h | h) | h)
                · exact .inl (.inl h)
                · exact .inr h
                · exact .inl (.inr h)
              · rintro ((h | h) | h)
                · exact .inl (.inl h)
                · exact .inr h
                · exact .inl (.inr h)
            simp only [juratref19_Liars.l1, Int.toNat_natCast, wi64_j (show j < 9223372036854775807 by have := hl.1; omega)]
            have hdl : ((T ++ r :: R').drop T.length).length = R'.length + 1 := by rw [hd0]; rfl
            have he : ¬ (T ++ r :: R').getD T.length 0 = (l.getD j TCast.z).Worker := by rw [hgr]; exact hrw
            have hbind : Ev (fun k => (if (T.length : Int) < ((T ++ r :: R').length : Int) then (if 0 ≤ (T.length : Int) ∧ (T.length : Int) < ((T ++ r :: R').length : Int) then (some (decide (((T ++ r :: R').getD T.length 0) = ((l.getD j TCast.z).Worker)))) else none) else (some (false)))) false := by
              rw [decide_eq_false he]
              repeat' (first | assumption | exact Ev.pure _ | apply Ev.iteT (by first | assumption | omega | exact trivial | exact Bool.false_ne_true | exact rfl | (simp only [decide_eq_true_eq]; assumption) | (simp only [decide_eq_true_eq]; omega)) | apply Ev.iteF (by first | assumption | omega | exact trivial | exact Bool.false_ne_true | exact rfl | (simp only [decide_eq_true_eq]; assumption) | (simp only [decide_eq_true_eq]; omega)) | apply Ev.bind)
            refine Ev.iteT (by omega) (Ev.iteT (by omega) (Ev.bind hs (Ev.iteF (by simp) (Ev.bind hl2 ?_))))
            dsimp only
            refine Ev.iteT (by omega) (Ev.bind hbind (Ev.iteF (by simp) ?_))
            simp only [Int.toNat_natCast]
            refine Ev.iteT (by omega) (Ev.iteT ?_ h)
            rw [hl1, hdl]; omega
    · rw [List.take_length] at hI
      subst hI
      simp only [juratref19_Liars.l1]
      exact Ev.iteF (by omega) (Ev.pure _)
  repeat' (first | assumption | exact Ev.pure _ | apply Ev.iteT (by first | assumption | omega | exact trivial | exact Bool.false_ne_true | exact rfl | (simp only [decide_eq_true_eq]; assumption) | (simp only [decide_eq_true_eq]; omega)) | apply Ev.iteF (by first | assumption | omega | exact trivial | exact Bool.false_ne_true | exact rfl | (simp only [decide_eq_true_eq]; assumption) | (simp only [decide_eq_true_eq]; omega)) | (apply Ev.bind (hloop); try dsimp only; try simp only [Int.toNat_natCast]) | exact (hloop) | apply Ev.bind)
theorem copy_f {l : List TCast} (hl : Votes l) : Ev (fun k => juratref19_Copy.f k l) l := by
  unfold juratref19_Copy.f
  have hloop : Ev (fun k => juratref19_Copy.l1 k l [] 0) l := by
    refine Ev.loop (n := l.length) (F := fun k j (s : List TCast) => juratref19_Copy.l1 k l s (j : Int)) (fun j s => s = l.take j) (fun j s hj hI => ?_) (fun s hI => ?_) [] rfl
    · subst hI
      have htl : (l.take j).length = j := by rw [List.length_take]; omega
      have hvj := (hl.at hj).1
      have := hl.1
      refine .inr ⟨_, rfl, fun h => ?_⟩
      rw [take_succ TCast.z hj] at h
      simp only [juratref19_Copy.l1, Int.toNat_natCast, wi64_j (show j < 9223372036854775807 by omega)]
      repeat' (first | assumption | exact Ev.pure _ | apply Ev.iteT (by first | assumption | omega | exact trivial | exact Bool.false_ne_true | exact rfl | (simp only [decide_eq_true_eq]; assumption) | (simp only [decide_eq_true_eq]; omega)) | apply Ev.iteF (by first | assumption | omega | exact trivial | exact Bool.false_ne_true | exact rfl | (simp only [decide_eq_true_eq]; assumption) | (simp only [decide_eq_true_eq]; omega)) | apply Ev.bind)
    · subst hI
      rw [List.take_length]
      simp only [juratref19_Copy.l1]
      exact Ev.iteF (by omega) (Ev.pure _)
  repeat' (first | assumption | exact Ev.pure _ | apply Ev.iteT (by first | assumption | omega | exact trivial | exact Bool.false_ne_true | exact rfl | (simp only [decide_eq_true_eq]; assumption) | (simp only [decide_eq_true_eq]; omega)) | apply Ev.iteF (by first | assumption | omega | exact trivial | exact Bool.false_ne_true | exact rfl | (simp only [decide_eq_true_eq]; assumption) | (simp only [decide_eq_true_eq]; omega)) | (apply Ev.bind (hloop); try dsimp only; try simp only [Int.toNat_natCast]) | exact (hloop) | apply Ev.bind)
theorem great_f (l : List TCast) (hv : ∀ c ∈ l, ∀ x ∈ c.Value, 0 ≤ x ∧ x < 256) : ∃ b, Ev (fun k => juratref19_Great.f k l) b ∧ (b = false → Votes l) := by
  unfold juratref19_Great.f
  by_cases h60 : (l.length : Int) > 60
  · exact ⟨true, Ev.iteT h60 (Ev.pure _), fun h => by cases h⟩
  · by_cases hall : ∀ c ∈ l, c.Value.length ≤ 200
    · refine ⟨false, Ev.iteF h60 ?_, fun _ => ⟨by omega, fun c hc => ⟨hall c hc, hv c hc⟩⟩⟩
      have hloop : Ev (fun k => juratref19_Great.l1 k l 0) (Sum.inl ()) := by
        refine Ev.loop (n := l.length) (F := fun k j (_ : Unit) => juratref19_Great.l1 k l (j : Int)) (fun j s => True) (fun j s hj hI => ?_) (fun s hI => ?_) () trivial
        · have hvj : (l.getD j TCast.z).Value.length ≤ 200 := by
            rw [List.getD_eq_getElem?_getD, List.getElem?_eq_getElem hj]
            exact hall _ (List.getElem_mem hj)
          refine .inr ⟨(), trivial, fun h => ?_⟩
          simp only [juratref19_Great.l1, Int.toNat_natCast, wi64_j (show j < 9223372036854775807 by omega)]
          repeat' (first | assumption | exact Ev.pure _ | apply Ev.iteT (by first | assumption | omega | exact trivial | exact Bool.false_ne_true | exact rfl | (simp only [decide_eq_true_eq]; assumption) | (simp only [decide_eq_true_eq]; omega)) | apply Ev.iteF (by first | assumption | omega | exact trivial | exact Bool.false_ne_true | exact rfl | (simp only [decide_eq_true_eq]; assumption) | (simp only [decide_eq_true_eq]; omega)) | apply Ev.bind)
        · simp only [juratref19_Great.l1]
          exact Ev.iteF (by omega) (Ev.pure _)
      exact Ev.bind hloop (Ev.pure _)
    · refine ⟨true, Ev.iteF h60 ?_, fun h => by cases h⟩
      have hloop : Ev (fun k => juratref19_Great.l1 k l 0) (Sum.inr true) := by
        refine Ev.loop (n := l.length) (F := fun k j (_ : Unit) => juratref19_Great.l1 k l (j : Int)) (fun j s => ∀ c ∈ l.take j, c.Value.length ≤ 200) (fun j s hj hI => ?_) (fun s hI => ?_) () (by simp)
        · by_cases hvj : (l.getD j TCast.z).Value.length ≤ 200
          · refine .inr ⟨(), fun c hc => ?_, fun h => ?_⟩
            · rw [take_succ TCast.z hj] at hc
              rcases List.mem_append.1 hc with h | h
              · exact hI c h
              · rw [List.mem_singleton.1 h]; exact hvj
            simp only [juratref19_Great.l1, Int.toNat_natCast, wi64_j (show j < 9223372036854775807 by omega)]
            repeat' (first | assumption | exact Ev.pure _ | apply Ev.iteT (by first | assumption | omega | exact trivial | exact Bool.false_ne_true | exact rfl | (simp only [decide_eq_true_eq]; assumption) | (simp only [decide_eq_true_eq]; omega)) | apply Ev.iteF (by first | assumption | omega | exact trivial | exact Bool.false_ne_true | exact rfl | (simp only [decide_eq_true_eq]; assumption) | (simp only [decide_eq_true_eq]; omega)) | apply Ev.bind)
          · left
            simp only [juratref19_Great.l1, Int.toNat_natCast, wi64_j (show j < 9223372036854775807 by omega)]
            repeat' (first | assumption | exact Ev.pure _ | apply Ev.iteT (by first | assumption | omega | exact trivial | exact Bool.false_ne_true | exact rfl | (simp only [decide_eq_true_eq]; assumption) | (simp only [decide_eq_true_eq]; omega)) | apply Ev.iteF (by first | assumption | omega | exact trivial | exact Bool.false_ne_true | exact rfl | (simp only [decide_eq_true_eq]; assumption) | (simp only [decide_eq_true_eq]; omega)) | apply Ev.bind)
        · rw [List.take_length] at hI
          exact absurd hI hall
      exact Ev.bind hloop (Ev.pure _)
theorem awake_f : Ev (fun k => juratlaw19_awake.f k) true := by
  unfold juratlaw19_awake.f
  have hV : Votes [(⟨0, [97]⟩ : TCast), (⟨1, [98]⟩ : TCast), (⟨2, [97]⟩ : TCast)] := ⟨by decide, fun c hc => by
    simp only [List.mem_cons, List.not_mem_nil, or_false] at hc
    rcases hc with rfl | rfl | rfl <;> exact ⟨by decide, by decide⟩⟩
  refine Ev.bind (decide_f hV 1) ?_
  have hd : decV [(⟨0, [97]⟩ : TCast), (⟨1, [98]⟩ : TCast), (⟨2, [97]⟩ : TCast)] 1 = ([97], true) := by decide
  rw [hd]
  dsimp only
  refine Ev.bind (a := true) (Ev.iteT rfl (Ev.bind (same1_f _ _ (by decide)) ?_)) (Ev.pure _)
  refine Ev.iteT (by decide) (Ev.bind (liars_f hV ⟨by decide, by decide⟩) (Ev.bind (same18_f _ _ ?_) ?_))
  · exact Nat.le_trans (lies_len _ _) (by decide)
  · have : lies [(⟨0, [97]⟩ : TCast), (⟨1, [98]⟩ : TCast), (⟨2, [97]⟩ : TCast)] [97] = [1] := by
      unfold lies
      have : ded (lie [(⟨0, [97]⟩ : TCast), (⟨1, [98]⟩ : TCast), (⟨2, [97]⟩ : TCast)] [97]) = [1] := by decide
      rw [this]
      simp [sortI]
    rw [this]
    exact Ev.pure _
end Go.Proofs.Ytaajcpjhcckecaa.Pure
