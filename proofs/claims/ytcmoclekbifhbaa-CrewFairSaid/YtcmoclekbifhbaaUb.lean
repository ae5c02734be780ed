/- Plain laws of crews: who is able, the heap, who is picked. -/
import Derived.Test.YtcmoclekbifhbaaUa
set_option linter.unusedSimpArgs false
set_option linter.unusedVariables false
namespace Go.Proofs.Ytcmoclekbifhbaa.Pure
open Go.WG Go.Proofs.Ytcmoclekbifhbaa
theorem refRight_l1 (a0 : List Int) (hb : a0.length < 9223372036854775807) : ∀ (m j : Nat), a0.length - j = m → j ≤ a0.length → Ev (fun k => juratref18_Right.l1 k a0 (j : Int)) (if (a0.drop j).all (fun x => decide (0 ≤ x)) = true then Sum.inl () else Sum.inr false) := by
  intro m
  induction m with
  | zero =>
    intro j hm hj
    have hj' : j = a0.length := by omega
    subst hj'
    refine Ev.succ ((Ev.pure _).congr fun k => ?_)
    simp [juratref18_Right.l1]
  | succ m ih =>
    intro j hm hj
    have hlt : j < a0.length := by omega
    rw [drop_cons 0 hlt, List.all_cons]
    have h1 : (j : Int) < (a0.length : Int) := by omega
    have h2 : 0 ≤ (j : Int) ∧ (j : Int) < (a0.length : Int) := by omega
    by_cases h0 : a0.getD j 0 < 0
    · refine Ev.succ ((Ev.pure _).congr fun k => ?_)
      have h0' : ¬ 0 ≤ a0.getD j 0 := by omega
      simp only [juratref18_Right.l1, if_pos h1, if_pos h2, Int.toNat_natCast, if_pos h0, decide_eq_false h0']
      rfl
    · have h0' : 0 ≤ a0.getD j 0 := by omega
      rw [decide_eq_true h0', Bool.true_and]
      refine Ev.succ ((ih (j + 1) (by omega) (by omega)).congr fun k => ?_)
      simp only [juratref18_Right.l1, if_pos h1, if_pos h2, Int.toNat_natCast, if_neg h0, wi64_succ (show j < 9223372036854775807 by omega)]
theorem refRight_f (a0 : List Int) (a1 : List Bool) (hb : a0.length < 9223372036854775807) : Ev (fun k => juratref18_Right.f k a0 a1) (rightL a0 a1) := by
  have h := refRight_l1 a0 hb _ 0 rfl (Nat.zero_le _)
  rw [List.drop_zero] at h
  unfold rightL
  by_cases he : a0.length = a1.length
  · have he' : (a0.length : Int) = (a1.length : Int) := by omega
    by_cases h8 : a0.length ≤ 8
    · have h8' : decide ((a0.length : Int) > 8) = false := decide_eq_false (by omega)
      rw [decide_eq_true he, decide_eq_true h8, Bool.and_true, Bool.and_true]
      refine (Ev.bind (g := fun _ o_ => sumE o_ (fun _ => some true) (fun p_ => some p_)) h (r := a0.all (fun x => decide (0 ≤ x))) ?_).congr fun k => ?_
      · cases ha : a0.all (fun x => decide (0 ≤ x)) with
        | false => exact Ev.pure _
        | true => exact Ev.pure _
      · simp [juratref18_Right.f, if_pos he', h8']
    · have h8' : decide ((a0.length : Int) > 8) = true := decide_eq_true (by omega)
      rw [decide_eq_false h8, Bool.and_false]
      refine (Ev.pure false).congr fun k => ?_
      simp [juratref18_Right.f, if_pos he', h8']
  · have he' : ¬ (a0.length : Int) = (a1.length : Int) := by omega
    rw [decide_eq_false he, Bool.and_false, Bool.false_and]
    refine (Ev.pure false).congr fun k => ?_
    simp [juratref18_Right.f, if_neg he']
theorem rightL_len {a0 : List Int} {a1 : List Bool} (h : rightL a0 a1 = true) : a0.length = a1.length ∧ a0.length ≤ 8 ∧ ∀ x ∈ a0, 0 ≤ x := by
  simp only [rightL, Bool.and_eq_true, decide_eq_true_eq, List.all_eq_true] at h
  exact ⟨h.1.2, h.2, h.1.1⟩
/-- Who is able, from a place on, and how many are free. -/
def ables (a0 : List Int) (a1 : List Bool) (a2 : Int) : Nat → Nat → List Thand
  | 0, _ => []
  | m + 1, j => if a1.getD j false = true then ables a0 a1 a2 m (j + 1) else if a0.getD j 0 < a2 then ⟨a0.getD j 0, (j : Int)⟩ :: ables a0 a1 a2 m (j + 1) else ables a0 a1 a2 m (j + 1)
def frees (a1 : List Bool) : Nat → Nat → Nat
  | 0, _ => 0
  | m + 1, j => if a1.getD j false = true then frees a1 m (j + 1) else frees a1 m (j + 1) + 1
theorem able_l1 (a0 : List Int) (a1 : List Bool) (a2 : Int) (he : a0.length = a1.length) (h8 : a0.length ≤ 8) : ∀ (m j : Nat) (acc : List Thand) (fr : Nat), a0.length - j = m → j ≤ a0.length → acc.length ≤ j → fr ≤ j →
    Ev (fun k => crew_able.l1 k a0 a1 a2 acc (fr : Int) (j : Int)) (acc ++ ables a0 a1 a2 m j, ((fr + frees a1 m j : Nat) : Int)) := by
  intro m
  induction m with
  | zero =>
    intro j acc fr hm hj _ _
    have hn : ¬ (j : Int) < (a0.length : Int) := by omega
    refine Ev.succ ((Ev.pure _).congr fun k => ?_)
    simp only [crew_able.l1, if_neg hn, ables, frees, List.append_nil, Nat.add_zero]
  | succ m ih =>
    intro j acc fr hm hj ha hf
    have h1 : (j : Int) < (a0.length : Int) := by omega
    have h2 : 0 ≤ (j : Int) ∧ (j : Int) < (a0.length : Int) := by omega
    have h3 : 0 ≤ (j : Int) ∧ (j : Int) < (a1.length : Int) := by omega
    by_cases hb : a1.getD j false = true
    · have := ih (j + 1) acc fr (by omega) (by omega) (by omega) (by omega)
      refine Ev.succ (Ev.congr (r := _) (f := fun k => crew_able.l1 k a0 a1 a2 acc (fr : Int) ((j + 1 : Nat) : Int)) ?_ fun k => ?_)
      · simp only [ables, frees, if_pos hb]
        exact this
      · simp only [crew_able.l1, if_pos h1, if_pos h2, if_pos h3, Int.toNat_natCast, if_pos hb, wi64_succ (show j < 9223372036854775807 by omega)]
    · by_cases hk : a0.getD j 0 < a2
      · have hlim : (acc.length + 1) * 16 ≤ 140737488355328 := by omega
        have := ih (j + 1) (acc ++ [⟨a0.getD j 0, (j : Int)⟩]) (fr + 1) (by omega) (by omega) (by simp; omega) (by omega)
        refine Ev.succ (Ev.congr (r := _) (f := fun k => crew_able.l1 k a0 a1 a2 (acc ++ [⟨a0.getD j 0, (j : Int)⟩]) ((fr + 1 : Nat) : Int) ((j + 1 : Nat) : Int)) ?_ fun k => ?_)
        · simp only [ables, frees, if_neg hb, if_pos hk]
          rw [List.append_assoc, List.singleton_append, Nat.add_assoc, Nat.add_comm 1] at this
          exact this
        · simp only [crew_able.l1, if_pos h1, if_pos h2, if_pos h3, Int.toNat_natCast, if_neg hb, if_pos hk, if_pos hlim, wi64_succ (show j < 9223372036854775807 by omega), wi64_succ (show fr < 9223372036854775807 by omega)]
      · have := ih (j + 1) acc (fr + 1) (by omega) (by omega) (by omega) (by omega)
        refine Ev.succ (Ev.congr (r := _) (f := fun k => crew_able.l1 k a0 a1 a2 acc ((fr + 1 : Nat) : Int) ((j + 1 : Nat) : Int)) ?_ fun k => ?_)
        · simp only [ables, frees, if_neg hb, if_neg hk]
          rw [Nat.add_assoc, Nat.add_comm 1] at this
          exact this
        · simp only [crew_able.l1, if_pos h1, if_pos h2, if_pos h3, Int.toNat_natCast, if_neg hb, if_neg hk, wi64_succ (show j < 9223372036854775807 by omega), wi64_succ (show fr < 9223372036854775807 by omega)]
theorem able_f (a0 : List Int) (a1 : List Bool) (a2 : Int) (he : a0.length = a1.length) (h8 : a0.length ≤ 8) : Ev (fun k => crew_able.f k a0 a1 a2) (ables a0 a1 a2 a0.length 0, ((frees a1 a0.length 0 : Nat) : Int)) := by
  have h := able_l1 a0 a1 a2 he h8 a0.length 0 [] 0 (by omega) (by omega) (by simp) (by simp)
  rw [List.nil_append, Nat.zero_add] at h
  exact Ev.bind (g := fun _ p => some (p.1, p.2)) h (Ev.pure _)
theorem ables_len (a0 : List Int) (a1 : List Bool) (a2 : Int) : ∀ m j, (ables a0 a1 a2 m j).length ≤ frees a1 m j ∧ frees a1 m j ≤ m := by
  intro m
  induction m with
  | zero => intro j; exact ⟨Nat.le_refl _, Nat.le_refl _⟩
  | succ m ih =>
    intro j
    have := ih (j + 1)
    simp only [ables, frees]
    split
    · omega
    · split
      · simp only [List.length_cons]; omega
      · omega
theorem left_f (a0 : List Int) (a1 : List Bool) (a2 : Int) (hb : a0.length < 9223372036854775807) : Ev (fun k => crew_Left.f k a0 a1 a2) (if rightL a0 a1 = true then ((ables a0 a1 a2 a0.length 0).length : Int) else 0) := by
  cases hr : rightL a0 a1 with
  | false =>
    have h := right_f a0 a1 hb
    rw [hr] at h
    exact Ev.bind (g := fun k r16 => if r16 = true then (crew_able.f k a0 a1 a2).bind fun p => some (p.1.length : Int) else some 0) h (Ev.pure _)
  | true =>
    have h := right_f a0 a1 hb
    rw [hr] at h
    obtain ⟨h1, h2, _⟩ := rightL_len hr
    exact Ev.bind (g := fun k r16 => if r16 = true then (crew_able.f k a0 a1 a2).bind fun p => some (p.1.length : Int) else some 0) h (Ev.iteT rfl (Ev.bind (g := fun _ p => some (p.1.length : Int)) (able_f a0 a1 a2 h1 h2) (by rw [if_pos rfl]; exact Ev.pure _)))
theorem refLeft_l1 (a0 : List Int) (a1 : List Bool) (a2 : Int) (hr : rightL a0 a1 = true) : ∀ (m j c : Nat), a0.length - j = m → j ≤ a0.length → c ≤ j →
    Ev (fun k => juratref18_Left.l1 k a0 a1 a2 (c : Int) (j : Int)) ((c + (ables a0 a1 a2 m j).length : Nat) : Int) := by
  obtain ⟨he, h8, _⟩ := rightL_len hr
  intro m
  induction m with
  | zero =>
    intro j c hm hj _
    have hn : ¬ (j : Int) < (a0.length : Int) := by omega
    refine Ev.succ ((Ev.pure _).congr fun k => ?_)
    simp only [juratref18_Left.l1, if_neg hn, Option.bind_some]
    simp [ables]
  | succ m ih =>
    intro j c hm hj hc
    have h1 : (j : Int) < (a0.length : Int) := by omega
    have h2 : 0 ≤ (j : Int) ∧ (j : Int) < (a0.length : Int) := by omega
    have h3 : 0 ≤ (j : Int) ∧ (j : Int) < (a1.length : Int) := by omega
    have hR := refRight_f a0 a1 (by omega)
    rw [hr] at hR
    have hb : Ev (fun k => (juratref18_Right.f k a0 a1).bind fun r => some r) true := Ev.bind (g := fun _ r => some r) hR (Ev.pure _)
    have key : ∀ (X : Int), Ev (fun k => if 0 ≤ (j : Int) ∧ (j : Int) < (a1.length : Int) then ((if (a1.getD j false) = true then (some (false)) else (if 0 ≤ (j : Int) ∧ (j : Int) < (a0.length : Int) then (some (decide ((a0.getD j 0) < a2))) else none)).bind fun g200 => if g200 = true then (juratref18_Left.l1 k a0 a1 a2 (wi64 ((c : Int) + 1)) (wi64 ((j : Int) + 1))) else (juratref18_Left.l1 k a0 a1 a2 (c : Int) (wi64 ((j : Int) + 1)))) else none) X →
        Ev (fun k => juratref18_Left.l1 (k + 1) a0 a1 a2 (c : Int) (j : Int)) X := fun X hX => by
      refine (Ev.bind (f := fun k => (juratref18_Right.f k a0 a1).bind fun r => some r) (g := fun k g175 => if g175 = true then (if 0 ≤ (j : Int) ∧ (j : Int) < (a1.length : Int) then ((if (a1.getD j false) = true then (some (false)) else (if 0 ≤ (j : Int) ∧ (j : Int) < (a0.length : Int) then (some (decide ((a0.getD j 0) < a2))) else none)).bind fun g200 => if g200 = true then (juratref18_Left.l1 k a0 a1 a2 (wi64 ((c : Int) + 1)) (wi64 ((j : Int) + 1))) else (juratref18_Left.l1 k a0 a1 a2 (c : Int) (wi64 ((j : Int) + 1)))) else none) else some (c : Int)) hb (Ev.iteT rfl hX)).congr fun k => ?_
      simp only [juratref18_Left.l1, if_pos h1, Int.toNat_natCast]
    refine Ev.succ (key _ ?_)
    by_cases hbar : a1.getD j false = true
    · have := ih (j + 1) c (by omega) (by omega) (by omega)
      simp only [ables, if_pos hbar]
      refine this.congr fun k => ?_
      simp only [if_pos h3, if_pos hbar, Option.bind_some, wi64_succ (show j < 9223372036854775807 by omega)]
      simp
    · by_cases hk : a0.getD j 0 < a2
      · have := ih (j + 1) (c + 1) (by omega) (by omega) (by omega)
        simp only [ables, if_neg hbar, if_pos hk, List.length_cons]
        rw [Nat.add_assoc, Nat.add_comm 1] at this
        refine this.congr fun k => ?_
        simp only [if_pos h3, if_pos h2, if_neg hbar, Option.bind_some, decide_eq_true hk, if_true, wi64_succ (show j < 9223372036854775807 by omega), wi64_succ (show c < 9223372036854775807 by omega)]
      · have := ih (j + 1) c (by omega) (by omega) (by omega)
        simp only [ables, if_neg hbar, if_neg hk]
        refine this.congr fun k => ?_
        simp only [if_pos h3, if_pos h2, if_neg hbar, Option.bind_some, decide_eq_false hk, wi64_succ (show j < 9223372036854775807 by omega)]
        simp
theorem refLeft_f (a0 : List Int) (a1 : List Bool) (a2 : Int) (hb : a0.length < 9223372036854775807) : Ev (fun k => juratref18_Left.f k a0 a1 a2) (if rightL a0 a1 = true then ((ables a0 a1 a2 a0.length 0).length : Int) else 0) := by
  cases hr : rightL a0 a1 with
  | true =>
    have h := refLeft_l1 a0 a1 a2 hr a0.length 0 0 (by omega) (by omega) (by omega)
    rw [Nat.zero_add] at h
    exact Ev.bind (g := fun _ x => some x) h (Ev.pure _)
  | false =>
    refine Ev.bind (g := fun _ x => some x) (a := 0) (Ev.succ ?_) (Ev.pure _)
    have hR := refRight_f a0 a1 hb
    rw [hr] at hR
    have hb : Ev (fun k => if (0 : Int) < (a0.length : Int) then (juratref18_Right.f k a0 a1).bind fun r => some r else some false) false := by
      by_cases h0 : (0 : Int) < (a0.length : Int)
      · exact Ev.iteT h0 (Ev.bind (g := fun _ r => some r) hR (Ev.pure _))
      · exact Ev.iteF h0 (Ev.pure _)
    obtain ⟨K, hK⟩ := hb
    refine ⟨K, fun k hk => ?_⟩
    have := hK k hk
    simp only at this
    simp only [juratref18_Left.l1, this, Option.bind_some]
    simp
end Go.Proofs.Ytcmoclekbifhbaa.Pure
