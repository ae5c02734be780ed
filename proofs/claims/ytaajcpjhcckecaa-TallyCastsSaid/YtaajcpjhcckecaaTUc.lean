/- Plain laws of tallies: the document's liars, copies; the example. -/
import Derived.Test.YtaajcpjhcckecaaTUb
namespace Go.Proofs.Ytaajcpjhcckecaa.Pure
open Go.WG Go.Proofs.Ytaajcpjhcckecaa
set_option linter.unusedSimpArgs false
set_option linter.unusedVariables false
theorem okBytes {v : List Int} (h : ok23 v) : ∀ x ∈ v, 0 ≤ x ∧ x < 256 := fun x hx => wf8 (h.2 x hx)
theorem okVotes {l : List TCast} (h : ok26 l) : ∀ c ∈ l, ∀ x ∈ c.Value, 0 ≤ x ∧ x < 256 := fun c hc => okBytes (h.2 c hc).2
theorem copy_f {l : List TCast} (hl : Votes l) : Ev (fun k => juratref19_Copy.f k l) l := by
  unfold juratref19_Copy.f
  have hloop : Ev (fun k => juratref19_Copy.l1 k l [] 0) l := by
    refine Ev.loop (n := l.length) (F := fun k j (s : List TCast) => juratref19_Copy.l1 k l s (j : Int)) (fun j s => s = l.take j) (fun j s hj hI => ?_) (fun s hI => ?_) [] rfl
    · subst hI
      have htl : (l.take j).length = j := by rw [List.length_take]; omega
      have hvj := (hl.at hj).1
      have := hl.1
      refine .inr ⟨_, rfl, fun h => ?_⟩
      rw [take_succ TCast.z hj] at h
      simp only [juratref19_Copy.l1, Int.toNat_natCast, wi64_j (show j < 9223372036854775807 by omega)]
      repeat' (first | assumption | exact Ev.pure _ | apply Ev.iteT (by first | assumption | omega | exact trivial | exact Bool.false_ne_true | exact rfl | (simp only [decide_eq_true_eq]; assumption) | (simp only [decide_eq_true_eq]; omega)) | apply Ev.iteF (by first | assumption | omega | exact trivial | exact Bool.false_ne_true | exact rfl | (simp only [decide_eq_true_eq]; assumption) | (simp only [decide_eq_true_eq]; omega)) | apply Ev.bind)
    · subst hI
      rw [List.take_length]
      simp only [juratref19_Copy.l1]
      exact Ev.iteF (by omega) (Ev.pure _)
  repeat' (first | assumption | exact Ev.pure _ | apply Ev.iteT (by first | assumption | omega | exact trivial | exact Bool.false_ne_true | exact rfl | (simp only [decide_eq_true_eq]; assumption) | (simp only [decide_eq_true_eq]; omega)) | apply Ev.iteF (by first | assumption | omega | exact trivial | exact Bool.false_ne_true | exact rfl | (simp only [decide_eq_true_eq]; assumption) | (simp only [decide_eq_true_eq]; omega)) | (apply Ev.bind (hloop); try dsimp only; try simp only [Int.toNat_natCast]) | exact (hloop) | apply Ev.bind)
theorem great_f (l : List TCast) (hv : ∀ c ∈ l, ∀ x ∈ c.Value, 0 ≤ x ∧ x < 256) : ∃ b, Ev (fun k => juratref19_Great.f k l) b ∧ (b = false → Votes l) := by
  unfold juratref19_Great.f
  by_cases h60 : (l.length : Int) > 60
  · exact ⟨true, Ev.iteT h60 (Ev.pure _), fun h => by cases h⟩
  · by_cases hall : ∀ c ∈ l, c.Value.length ≤ 200
    · refine ⟨false, Ev.iteF h60 ?_, fun _ => ⟨by omega, fun c hc => ⟨hall c hc, hv c hc⟩⟩⟩
      have hloop : Ev (fun k => juratref19_Great.l1 k l 0) (Sum.inl ()) := by
        refine Ev.loop (n := l.length) (F := fun k j (_ : Unit) => juratref19_Great.l1 k l (j : Int)) (fun j s => True) (fun j s hj hI => ?_) (fun s hI => ?_) () trivial
        · have hvj : (l.getD j TCast.z).Value.length ≤ 200 := by
            rw [List.getD_eq_getElem?_getD, List.getElem?_eq_getElem hj]
            exact hall _ (List.getElem_mem hj)
          refine .inr ⟨(), trivial, fun h => ?_⟩
          simp only [juratref19_Great.l1, Int.toNat_natCast, wi64_j (show j < 9223372036854775807 by omega)]
          repeat' (first | assumption | exact Ev.pure _ | apply Ev.iteT (by first | assumption | omega | exact trivial | exact Bool.false_ne_true | exact rfl | (simp only [decide_eq_true_eq]; assumption) | (simp only [decide_eq_true_eq]; omega)) | apply Ev.iteF (by first | assumption | omega | exact trivial | exact Bool.false_ne_true | exact rfl | (simp only [decide_eq_true_eq]; assumption) | (simp only [decide_eq_true_eq]; omega)) | apply Ev.bind)
        · simp only [juratref19_Great.l1]
          exact Ev.iteF (by omega) (Ev.pure _)
      exact Ev.bind hloop (Ev.pure _)
    · refine ⟨true, Ev.iteF h60 ?_, fun h => by cases h⟩
      have hloop : Ev (fun k => juratref19_Great.l1 k l 0) (Sum.inr true) := by
        refine Ev.loop (n := l.length) (F := fun k j (_ : Unit) => juratref19_Great.l1 k l (j : Int)) (fun j s => ∀ c ∈ l.take j, c.Value.length ≤ 200) (fun j s hj hI => ?_) (fun s hI => ?_) () (by simp)
        · by_cases hvj : (l.getD j TCast.z).Value.length ≤ 200
          · refine .inr ⟨(), fun c hc => ?_, fun h => ?_⟩
            · rw [take_succ TCast.z hj] at hc
              rcases List.mem_append.1 hc with h | h
              · exact hI c h
              · rw [List.mem_singleton.1 h]; exact hvj
            simp only [juratref19_Great.l1, Int.toNat_natCast, wi64_j (show j < 9223372036854775807 by omega)]
            repeat' (first | assumption | exact Ev.pure _ | apply Ev.iteT (by first | assumption | omega | exact trivial | exact Bool.false_ne_true | exact rfl | (simp only [decide_eq_true_eq]; assumption) | (simp only [decide_eq_true_eq]; omega)) | apply Ev.iteF (by first | assumption | omega | exact trivial | exact Bool.false_ne_true | exact rfl | (simp only [decide_eq_true_eq]; assumption) | (simp only [decide_eq_true_eq]; omega)) | apply Ev.bind)
          · left
            simp only [juratref19_Great.l1, Int.toNat_natCast, wi64_j (show j < 9223372036854775807 by omega)]
            repeat' (first | assumption | exact Ev.pure _ | apply Ev.iteT (by first | assumption | omega | exact trivial | exact Bool.false_ne_true | exact rfl | (simp only [decide_eq_true_eq]; assumption) | (simp only [decide_eq_true_eq]; omega)) | apply Ev.iteF (by first | assumption | omega | exact trivial | exact Bool.false_ne_true | exact rfl | (simp only [decide_eq_true_eq]; assumption) | (simp only [decide_eq_true_eq]; omega)) | apply Ev.bind)
        · rw [List.take_length] at hI
          exact absurd hI hall
      exact Ev.bind hloop (Ev.pure _)
theorem awake_f : Ev (fun k => juratlaw19_awake.f k) true := by
  unfold juratlaw19_awake.f
  have hV : Votes [(⟨0, [97]⟩ : TCast), (⟨1, [98]⟩ : TCast), (⟨2, [97]⟩ : TCast)] := ⟨by decide, fun c hc => by
    simp only [List.mem_cons, List.not_mem_nil, or_false] at hc
    rcases hc with rfl | rfl | rfl <;> exact ⟨by decide, by decide⟩⟩
  refine Ev.bind (decide_f hV 1) ?_
  have hd : decV [(⟨0, [97]⟩ : TCast), (⟨1, [98]⟩ : TCast), (⟨2, [97]⟩ : TCast)] 1 = ([97], true) := by decide
  rw [hd]
  dsimp only
  refine Ev.bind (a := true) (Ev.iteT rfl (Ev.bind (same1_f _ _ (by decide)) ?_)) (Ev.pure _)
  refine Ev.iteT (by decide) (Ev.bind (liars_f hV ⟨by decide, by decide⟩) (Ev.bind (same18_f _ _ ?_) ?_))
  · exact Nat.le_trans (lies_len _ _) (by decide)
  · have : lies [(⟨0, [97]⟩ : TCast), (⟨1, [98]⟩ : TCast), (⟨2, [97]⟩ : TCast)] [97] = [1] := by
      unfold lies
      have : ded (lie [(⟨0, [97]⟩ : TCast), (⟨1, [98]⟩ : TCast), (⟨2, [97]⟩ : TCast)] [97]) = [1] := by decide
      rw [this]
      simp [sortI]
    rw [this]
    exact Ev.pure _
end Go.Proofs.Ytaajcpjhcckecaa.Pure
