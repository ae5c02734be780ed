/- Plain laws of records: which may be. -/
import Derived.Test.YtobdpbnadjkhiaaTDa
import Derived.Test.YtobdpbnadjkhiaaTGi
namespace Go.Proofs.Ytobdpbnadjkhiaa.Pure
open Go.WG Go.Proofs.Ytobdpbnadjkhiaa Go.Proofs.Ytobdpbnadjkhiaa.Ta
set_option linter.unusedSimpArgs false
set_option linter.unusedVariables false
/-- A record that may be. -/
def MayOk (r : TRecord) : Prop :=
  (r.Kind = 1 ∧ 1 ≤ r.Epoch ∧ r.Epoch ≤ 1099511627776 ∧ (r.Data.length : Int) = 0 ∧ r.Job = 0 ∧ r.Time = 0 ∧ r.By = 0) ∨
  (r.Nonce = List.replicate 32 0 ∧ r.Epoch = 0 ∧
    ((r.Kind = 2 ∧ (r.Data.length : Int) ≤ 64 ∧ r.Job = 0 ∧ r.Time = 0 ∧ r.By = 0) ∨
     ((r.Kind = 3 ∨ r.Kind = 5) ∧ (r.Data.length : Int) = 0 ∧ (0 ≤ r.Job ∧ r.Job ≤ 1099511627776) ∧ (0 ≤ r.Time ∧ r.Time ≤ 1099511627776) ∧ r.By = 0) ∨
     (r.Kind = 4 ∧ (r.Data.length : Int) ≤ 32 ∧ (0 ≤ r.Job ∧ r.Job ≤ 1099511627776) ∧ r.Time = 0 ∧ (0 ≤ r.By ∧ r.By ≤ 1099511627776)) ∨
     (r.Kind = 6 ∧ (r.Data.length : Int) = 0 ∧ r.Job = 0 ∧ r.Time = 0 ∧ r.By = 0)))
instance (r : TRecord) : Decidable (MayOk r) := by unfold MayOk; infer_instance
def AllIn (r : TRecord) : Prop := (0 ≤ r.Epoch ∧ r.Epoch ≤ 1099511627776) ∧ (0 ≤ r.Job ∧ r.Job ≤ 1099511627776) ∧ (0 ≤ r.Time ∧ r.Time ≤ 1099511627776) ∧ (0 ≤ r.By ∧ r.By ≤ 1099511627776)
instance (r : TRecord) : Decidable (AllIn r) := by unfold AllIn; infer_instance
theorem may_l1 (r : TRecord) : Ev (fun k => docket_may.l1 k r 0) (if AllIn r then Sum.inl () else Sum.inr false) := by
  have st : ∀ (i : Nat) (x : Int), i < 4 → [r.Epoch, r.Job, r.Time, r.By].getD i 0 = x → ∀ k, docket_may.l1 (k + 1) r (i : Int) = if 0 ≤ x ∧ x ≤ 1099511627776 then docket_may.l1 k r ((i + 1 : Nat) : Int) else some (Sum.inr false) := by
    intro i x hi hg k
    simp only [docket_may.l1, Int.toNat_natCast, hg, btw, Option.bind_some]
    rw [if_pos (by omega), if_pos (by omega), wi64_j (by omega)]
    simp only [decide_eq_true_eq]
  have en : ∀ k, docket_may.l1 (k + 1) r ((4 : Nat) : Int) = some (Sum.inl ()) := fun k => by
    simp only [docket_may.l1]
    rw [if_neg (by omega)]
  refine ⟨5, fun k hk => ?_⟩
  obtain ⟨m, rfl⟩ : ∃ m, k = m + 5 := ⟨k - 5, by omega⟩
  show docket_may.l1 (m + 4 + 1) r ((0 : Nat) : Int) = _
  rw [st 0 r.Epoch (by omega) rfl]
  by_cases h0 : 0 ≤ r.Epoch ∧ r.Epoch ≤ 1099511627776
  · rw [if_pos h0, show m + 4 = m + 3 + 1 from rfl, st 1 r.Job (by omega) rfl]
    by_cases h1 : 0 ≤ r.Job ∧ r.Job ≤ 1099511627776
    · rw [if_pos h1, show m + 3 = m + 2 + 1 from rfl, st 2 r.Time (by omega) rfl]
      by_cases h2 : 0 ≤ r.Time ∧ r.Time ≤ 1099511627776
      · rw [if_pos h2, show m + 2 = m + 1 + 1 from rfl, st 3 r.By (by omega) rfl]
        by_cases h3 : 0 ≤ r.By ∧ r.By ≤ 1099511627776
        · rw [if_pos h3, en, if_pos ⟨h0, h1, h2, h3⟩]
        · rw [if_neg h3, if_neg fun k : AllIn r => h3 k.2.2.2]
      · rw [if_neg h2, if_neg fun k : AllIn r => h2 k.2.2.1]
    · rw [if_neg h1, if_neg fun k : AllIn r => h1 k.2.1]
  · rw [if_neg h0, if_neg fun k : AllIn r => h0 k.1]
theorem may_last (r : TRecord) (d : Int) (w : TRecord) : Ev (fun k => (docket_may.l1 k r 0).bind fun o_ => sumE o_ (fun _ => (if (r.Data.length : Int) ≤ d then (if r.Epoch = w.Epoch then (if r.Nonce = w.Nonce then (if r.Job = w.Job then (if r.Time = w.Time then (some (decide (r.By = w.By))) else (some (false))) else (some (false))) else (some (false))) else (some (false))) else (some (false))).bind fun g318 => some g318) (fun p_ => some p_))
    (decide (AllIn r ∧ (r.Data.length : Int) ≤ d ∧ r.Epoch = w.Epoch ∧ r.Nonce = w.Nonce ∧ r.Job = w.Job ∧ r.Time = w.Time ∧ r.By = w.By)) := by
  refine Ev.bind (may_l1 r) ?_
  by_cases ha : AllIn r
  · simp only [if_pos ha, sumE]
    have : (if (r.Data.length : Int) ≤ d then (if r.Epoch = w.Epoch then (if r.Nonce = w.Nonce then (if r.Job = w.Job then (if r.Time = w.Time then (some (decide (r.By = w.By))) else (some (false))) else (some (false))) else (some (false))) else (some (false))) else (some (false))) = some (decide (AllIn r ∧ (r.Data.length : Int) ≤ d ∧ r.Epoch = w.Epoch ∧ r.Nonce = w.Nonce ∧ r.Job = w.Job ∧ r.Time = w.Time ∧ r.By = w.By)) := by
      by_cases h1 : (r.Data.length : Int) ≤ d
      · by_cases h2 : r.Epoch = w.Epoch
        · by_cases h3 : r.Nonce = w.Nonce
          · by_cases h4 : r.Job = w.Job
            · by_cases h5 : r.Time = w.Time
              · simp [ha, h1, h2, h3, h4, h5]
              · simp [h1, h2, h3, h4, h5]
            · simp [h1, h2, h3, h4]
          · simp [h1, h2, h3]
        · simp [h1, h2]
      · simp [h1]
    rw [this]
    exact Ev.pure _
  · simp only [if_neg ha, sumE]
    rw [decide_eq_false fun k => ha k.1]
    exact Ev.pure _
theorem mayIs_f (r : TRecord) : Ev (fun k => docket_may.f k r) (decide (MayOk r)) := by
  unfold docket_may.f
  have go : ∀ (d : Int) (w : TRecord), (AllIn r ∧ (r.Data.length : Int) ≤ d ∧ r.Epoch = w.Epoch ∧ r.Nonce = w.Nonce ∧ r.Job = w.Job ∧ r.Time = w.Time ∧ r.By = w.By ↔ MayOk r) → Ev (fun k => sumE (Sum.inl (d, w) : Sum (Int × TRecord) Bool) (fun (x : Int × TRecord) => (docket_may.l1 k r 0).bind fun o_ => sumE o_ (fun _ => (if (r.Data.length : Int) ≤ x.1 then (if r.Epoch = x.2.Epoch then (if r.Nonce = x.2.Nonce then (if r.Job = x.2.Job then (if r.Time = x.2.Time then (some (decide (r.By = x.2.By))) else (some (false))) else (some (false))) else (some (false))) else (some (false))) else (some (false))).bind fun g318 => some g318) (fun p_ => some p_)) (fun p_ => some p_)) (decide (MayOk r)) := fun d w h => by
    rw [← decide_eq_decide.2 h]
    exact may_last r d w
  by_cases h1 : r.Kind = 1
  · by_cases h0 : r.Epoch < 1
    · refine Ev.bind (Ev.iteT h1 (Ev.iteT h0 (Ev.pure _))) ?_
      rw [decide_eq_false (by unfold MayOk; omega)]
      exact Ev.pure _
    · refine Ev.bind (Ev.iteT h1 (Ev.iteF h0 (Ev.pure _))) (go _ _ ?_)
      unfold MayOk AllIn
      try dsimp only
      generalize (r.Nonce = List.replicate 32 0) = N
      by_cases hN : N <;> simp only [hN, true_and, false_and, and_true, or_false, and_false, false_or] <;> (constructor <;> intro h <;> first | omega | exact h.elim)
  · by_cases h2 : r.Kind = 2
    · refine Ev.bind (Ev.iteF h1 (Ev.iteT h2 (Ev.pure _))) (go _ _ ?_)
      unfold MayOk AllIn
      try dsimp only
      generalize (r.Nonce = List.replicate 32 0) = N
      by_cases hN : N <;> simp only [hN, true_and, false_and, and_true, or_false, and_false, false_or] <;> (constructor <;> intro h <;> first | omega | exact h.elim)
    · have h35 : (if r.Kind = 3 then some (decide (r.Kind = 3)) else some (decide (r.Kind = 5))) = some (decide (r.Kind = 3 ∨ r.Kind = 5)) := by
        by_cases h3 : r.Kind = 3 <;> simp [h3]
      by_cases h : r.Kind = 3 ∨ r.Kind = 5
      · refine Ev.bind (Ev.iteF h1 (Ev.iteF h2 (by rw [h35]; exact Ev.bind (Ev.pure _) (Ev.iteT (decide_eq_true h) (Ev.pure _))))) (go _ _ ?_)
        unfold MayOk AllIn
        try dsimp only
        generalize (r.Nonce = List.replicate 32 0) = N
        by_cases hN : N <;> simp only [hN, true_and, false_and, and_true, or_false, and_false, false_or] <;> (constructor <;> intro h <;> first | omega | exact h.elim)
      · by_cases h4 : r.Kind = 4
        · refine Ev.bind (Ev.iteF h1 (Ev.iteF h2 (by rw [h35]; exact Ev.bind (Ev.pure _) (Ev.iteF (by simpa using h) (Ev.iteT h4 (Ev.pure _)))))) (go _ _ ?_)
          unfold MayOk AllIn
          try dsimp only
          generalize (r.Nonce = List.replicate 32 0) = N
          by_cases hN : N <;> simp only [hN, true_and, false_and, and_true, or_false, and_false, false_or] <;> (constructor <;> intro h <;> first | omega | exact h.elim)
        · by_cases h6 : r.Kind = 6
          · refine Ev.bind (Ev.iteF h1 (Ev.iteF h2 (by rw [h35]; exact Ev.bind (Ev.pure _) (Ev.iteF (by simpa using h) (Ev.iteF h4 (Ev.iteT h6 (Ev.pure _))))))) (go _ _ ?_)
            unfold MayOk AllIn
            try dsimp only
            generalize (r.Nonce = List.replicate 32 0) = N
            by_cases hN : N <;> simp only [hN, true_and, false_and, and_true, or_false, and_false, false_or] <;> (constructor <;> intro h <;> first | omega | exact h.elim)
          · refine Ev.bind (Ev.iteF h1 (Ev.iteF h2 (by rw [h35]; exact Ev.bind (Ev.pure _) (Ev.iteF (by simpa using h) (Ev.iteF h4 (Ev.iteF h6 (Ev.pure _))))))) ?_
            rw [decide_eq_false (by unfold MayOk; omega)]
            exact Ev.pure _
theorem zero_f (x : TRecord) (k : Nat) : juratref21_zero.f k x = some (decide (x.Epoch = 0 ∧ x.Nonce = List.replicate 32 0 ∧ (x.Data.length : Int) = 0 ∧ x.Job = 0 ∧ x.Time = 0 ∧ x.By = 0)) := by
  unfold juratref21_zero.f
  by_cases h1 : x.Epoch = 0
  · by_cases h2 : x.Nonce = List.replicate 32 0
    · by_cases h3 : (x.Data.length : Int) = 0
      · by_cases h4 : x.Job = 0
        · by_cases h5 : x.Time = 0
          · simp [h1, h2, h3, h4, h5]
          · simp [h1, h2, h3, h4, h5]
        · simp [h1, h2, h3, h4]
      · rw [if_pos h1, if_pos h2, if_neg h3, Option.bind_some, decide_eq_false fun k => h3 k.2.2.1]
    · rw [if_pos h1, if_neg h2, Option.bind_some, decide_eq_false fun k => h2 k.2.1]
  · rw [if_neg h1, Option.bind_some, decide_eq_false fun k => h1 k.1]
theorem in_f (k : Nat) (n a b : Int) : juratref21_in.f k n a b = some (decide (a ≤ n ∧ n ≤ b)) := by
  unfold juratref21_in.f
  congr 1
  simp only [ge_iff_le, Bool.decide_and]
theorem refMay_f (r : TRecord) (k : Nat) : juratref21_May.f k r = some (decide (MayOk r)) := by
  unfold juratref21_May.f
  simp only [zero_f, in_f, Option.bind_some, decide_eq_true_eq]
  have fin : ∀ {p : Prop} [Decidable p], (p ↔ MayOk r) → some (decide p) = some (decide (MayOk r)) := fun h => by rw [decide_eq_decide.2 h]
  have non : ¬ MayOk r → some false = some (decide (MayOk r)) := fun h => by rw [decide_eq_false h]
  have n0 : ((([] : List Int).length : Int) = 0) = True := by simp
  by_cases h1 : r.Kind = 1
  · rw [if_pos h1]
    by_cases g : 1 ≤ r.Epoch ∧ r.Epoch ≤ 1099511627776
    · rw [if_pos g, Option.bind_some]
      refine fin ?_
      unfold MayOk
      try dsimp only
      generalize (r.Nonce = List.replicate 32 0) = N
      by_cases hN : N <;> simp only [hN, true_and, false_and, and_true, or_false, and_false, false_or] <;> (constructor <;> intro h <;> first | omega | exact h.elim)
    · rw [if_neg g, Option.bind_some]
      exact non (by unfold MayOk; omega)
  · rw [if_neg h1]
    by_cases h2 : r.Kind = 2
    · rw [if_pos h2]
      by_cases g : (r.Data.length : Int) ≤ 64
      · rw [if_pos g, Option.bind_some]
        refine fin ?_
        unfold MayOk
        try dsimp only
        simp only [n0]
        generalize (r.Nonce = List.replicate 32 0) = N
        by_cases hN : N <;> simp only [hN, true_and, false_and, and_true, or_false, and_false, false_or] <;> (constructor <;> intro h <;> first | omega | exact h.elim)
      · rw [if_neg g, Option.bind_some]
        exact non (by unfold MayOk; omega)
    · have h35 : (if r.Kind = 3 then some (decide (r.Kind = 3)) else some (decide (r.Kind = 5))) = some (decide (r.Kind = 3 ∨ r.Kind = 5)) := by
        by_cases h3 : r.Kind = 3 <;> simp [h3]
      rw [if_neg h2, h35, Option.bind_some]
      simp only [decide_eq_true_eq]
      by_cases h : r.Kind = 3 ∨ r.Kind = 5
      · rw [if_pos h]
        by_cases g : 0 ≤ r.Job ∧ r.Job ≤ 1099511627776
        · rw [if_pos g]
          by_cases g2 : 0 ≤ r.Time ∧ r.Time ≤ 1099511627776
          · rw [if_pos g2, Option.bind_some]
            refine fin ?_
            unfold MayOk
            try dsimp only
            generalize (r.Nonce = List.replicate 32 0) = N
            by_cases hN : N <;> simp only [hN, true_and, false_and, and_true, or_false, and_false, false_or] <;> (constructor <;> intro h <;> first | omega | exact h.elim)
          · rw [if_neg g2, Option.bind_some]
            exact non (by unfold MayOk; omega)
        · rw [if_neg g, Option.bind_some]
          exact non (by unfold MayOk; omega)
      · rw [if_neg h]
        by_cases h4 : r.Kind = 4
        · rw [if_pos h4]
          by_cases g : 0 ≤ r.Job ∧ r.Job ≤ 1099511627776
          · rw [if_pos g]
            by_cases g2 : 0 ≤ r.By ∧ r.By ≤ 1099511627776
            · rw [if_pos g2]
              by_cases g3 : (r.Data.length : Int) ≤ 32
              · rw [if_pos g3, Option.bind_some]
                refine fin ?_
                unfold MayOk
                try dsimp only
                simp only [n0]
                generalize (r.Nonce = List.replicate 32 0) = N
                by_cases hN : N <;> simp only [hN, true_and, false_and, and_true, or_false, and_false, false_or] <;> (constructor <;> intro h <;> first | omega | exact h.elim)
              · rw [if_neg g3, Option.bind_some]
                exact non (by unfold MayOk; omega)
            · rw [if_neg g2, Option.bind_some]
              exact non (by unfold MayOk; omega)
          · rw [if_neg g, Option.bind_some]
            exact non (by unfold MayOk; omega)
        · rw [if_neg h4]
          by_cases h6 : r.Kind = 6
          · rw [if_pos h6]
            refine fin ?_
            unfold MayOk
            try dsimp only
            generalize (r.Nonce = List.replicate 32 0) = N
            by_cases hN : N <;> simp only [hN, true_and, false_and, and_true, or_false, and_false, false_or] <;> (constructor <;> intro h <;> first | omega | exact h.elim)
          · rw [if_neg h6]
            exact non (by unfold MayOk; omega)
end Go.Proofs.Ytobdpbnadjkhiaa.Pure
