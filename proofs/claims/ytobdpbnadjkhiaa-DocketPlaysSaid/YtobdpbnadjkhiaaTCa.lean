/- Plain laws of crews: who may be picked. -/
import Derived.Test.YtobdpbnadjkhiaaTGc
import Derived.Test.YtobdpbnadjkhiaaTLk
namespace Go.Proofs.Ytobdpbnadjkhiaa.Cr
open Go.WG Go.Proofs.Ytobdpbnadjkhiaa
set_option linter.unusedSimpArgs false
set_option linter.unusedVariables false
theorem drop_cons {α : Type} {l : List α} {j : Nat} (d : α) (h : j < l.length) : l.drop j = l.getD j d :: l.drop (j + 1) := by
 rw [List.getD_eq_getElem?_getD, List.getElem?_eq_getElem h, Option.getD_some]
 exact List.drop_eq_getElem_cons h
def rightL (a0 : List Int) (a1 : List Bool) : Bool := a0.all (fun x => decide (0 ≤ x)) && decide (a0.length = a1.length) && decide (a0.length ≤ 8)
theorem wi64_succ {j : Nat} (h : j < 9223372036854775807) : wi64 ((j : Int) + 1) = ((j + 1 : Nat) : Int) := by
 rw [wi64_id (by omega) (by omega)]
 omega
theorem right_l1 (a0 : List Int) (hb : a0.length < 9223372036854775807) : ∀ (m j : Nat), a0.length - j = m → j ≤ a0.length → Ev (fun k => crew_right.l1 k a0 (j : Int)) (if (a0.drop j).all (fun x => decide (0 ≤ x)) = true then Sum.inl () else Sum.inr false) := by
 intro m
 induction m with
 | zero =>
  intro j hm hj
  have hj' : j = a0.length := by omega
  subst hj'
  refine Ev.succ ((Ev.pure _).congr fun k => ?_)
  simp [crew_right.l1]
 | succ m ih =>
  intro j hm hj
  have hlt : j < a0.length := by omega
  rw [drop_cons 0 hlt, List.all_cons]
  have h1 : (j : Int) < (a0.length : Int) := by omega
  have h2 : 0 ≤ (j : Int) ∧ (j : Int) < (a0.length : Int) := by omega
  by_cases h0 : a0.getD j 0 < 0
  ·refine Ev.succ ((Ev.pure _).congr fun k => ?_)
   have h0' : ¬ 0 ≤ a0.getD j 0 := by omega
   simp only [crew_right.l1, if_pos h1, if_pos h2, Int.toNat_natCast, if_pos h0, decide_eq_false h0']
   rfl
  ·have h0' : 0 ≤ a0.getD j 0 := by omega
   rw [decide_eq_true h0', Bool.true_and]
   refine Ev.succ ((ih (j + 1) (by omega) (by omega)).congr fun k => ?_)
   simp only [crew_right.l1, if_pos h1, if_pos h2, Int.toNat_natCast, if_neg h0, wi64_succ (show j < 9223372036854775807 by omega)]
theorem right_f (a0 : List Int) (a1 : List Bool) (hb : a0.length < 9223372036854775807) : Ev (fun k => crew_right.f k a0 a1) (rightL a0 a1) := by
 have h := right_l1 a0 hb _ 0 rfl (Nat.zero_le _)
 rw [List.drop_zero] at h
 refine Ev.bind (g := fun _ _ => _) h ?_
 unfold rightL
 cases ha : a0.all (fun x => decide (0 ≤ x)) with
 | false => simpa [sumE] using Ev.pure false
 | true =>
  simp only [if_true, sumE, Bool.true_and]
  by_cases he : a0.length = a1.length
  ·have he' : (a0.length : Int) = (a1.length : Int) := by omega
   simp only [if_pos he', decide_eq_true he, Bool.true_and, Option.bind_some]
   rw [show decide ((a0.length : Int) ≤ 8) = decide (a0.length ≤ 8) from decide_eq_decide.2 (by omega)]
   exact Ev.pure _
  ·have he' : ¬ (a0.length : Int) = (a1.length : Int) := by omega
   simp only [if_neg he', decide_eq_false he, Bool.false_and, Option.bind_some]
   exact Ev.pure _
theorem rightL_len {a0 : List Int} {a1 : List Bool} (h : rightL a0 a1 = true) : a0.length = a1.length ∧ a0.length ≤ 8 ∧ ∀ x ∈ a0, 0 ≤ x := by
 simp only [rightL, Bool.and_eq_true, decide_eq_true_eq, List.all_eq_true] at h
 exact ⟨h.1.2, h.2, h.1.1⟩
/-- Who is able, from a place on, and how many are free. -/
def ables (a0 : List Int) (a1 : List Bool) (a2 : Int) : Nat → Nat → List Thand
 | 0, _ => []
 | m + 1, j => if a1.getD j false = true then ables a0 a1 a2 m (j + 1) else if a0.getD j 0 < a2 then ⟨a0.getD j 0, (j : Int)⟩ :: ables a0 a1 a2 m (j + 1) else ables a0 a1 a2 m (j + 1)
def frees (a1 : List Bool) : Nat → Nat → Nat
 | 0, _ => 0
 | m + 1, j => if a1.getD j false = true then frees a1 m (j + 1) else frees a1 m (j + 1) + 1
theorem able_l1 (a0 : List Int) (a1 : List Bool) (a2 : Int) (he : a0.length = a1.length) (h8 : a0.length ≤ 8) : ∀ (m j : Nat) (acc : List Thand) (fr : Nat), a0.length - j = m → j ≤ a0.length → acc.length ≤ j → fr ≤ j →
  Ev (fun k => crew_able.l1 k a0 a1 a2 acc (fr : Int) (j : Int)) (acc ++ ables a0 a1 a2 m j, ((fr + frees a1 m j : Nat) : Int)) := by
 intro m
 induction m with
 | zero =>
  intro j acc fr hm hj _ _
  have hn : ¬ (j : Int) < (a0.length : Int) := by omega
  refine Ev.succ ((Ev.pure _).congr fun k => ?_)
  simp only [crew_able.l1, if_neg hn, ables, frees, List.append_nil, Nat.add_zero]
 | succ m ih =>
  intro j acc fr hm hj ha hf
  have h1 : (j : Int) < (a0.length : Int) := by omega
  have h2 : 0 ≤ (j : Int) ∧ (j : Int) < (a0.length : Int) := by omega
  have h3 : 0 ≤ (j : Int) ∧ (j : Int) < (a1.length : Int) := by omega
  by_cases hb : a1.getD j false = true
  ·have := ih (j + 1) acc fr (by omega) (by omega) (by omega) (by omega)
   refine Ev.succ (Ev.congr (r := _) (f := fun k => crew_able.l1 k a0 a1 a2 acc (fr : Int) ((j + 1 : Nat) : Int)) ?_ fun k => ?_)
   ·simp only [ables, frees, if_pos hb]
    exact this
   ·simp only [crew_able.l1, if_pos h1, if_pos h2, if_pos h3, Int.toNat_natCast, if_pos hb, wi64_succ (show j < 9223372036854775807 by omega)]
  ·by_cases hk : a0.getD j 0 < a2
   ·have hlim : (acc.length + 1 + (acc.length + 1) / 4 + 192) * 16 ≤ 281474976710656 := by omega
    have := ih (j + 1) (acc ++ [⟨a0.getD j 0, (j : Int)⟩]) (fr + 1) (by omega) (by omega) (by simp; omega) (by omega)
    refine Ev.succ (Ev.congr (r := _) (f := fun k => crew_able.l1 k a0 a1 a2 (acc ++ [⟨a0.getD j 0, (j : Int)⟩]) ((fr + 1 : Nat) : Int) ((j + 1 : Nat) : Int)) ?_ fun k => ?_)
    ·simp only [ables, frees, if_neg hb, if_pos hk]
     rw [List.append_assoc, List.singleton_append, Nat.add_assoc, Nat.add_comm 1] at this
     exact this
    ·simp only [crew_able.l1, if_pos h1, if_pos h2, if_pos h3, Int.toNat_natCast, if_neg hb, if_pos hk, if_pos hlim, wi64_succ (show j < 9223372036854775807 by omega), wi64_succ (show fr < 9223372036854775807 by omega)]
   ·have := ih (j + 1) acc (fr + 1) (by omega) (by omega) (by omega) (by omega)
    refine Ev.succ (Ev.congr (r := _) (f := fun k => crew_able.l1 k a0 a1 a2 acc ((fr + 1 : Nat) : Int) ((j + 1 : Nat) : Int)) ?_ fun k => ?_)
    ·simp only [ables, frees, if_neg hb, if_neg hk]
     rw [Nat.add_assoc, Nat.add_comm 1] at this
     exact this
    ·simp only [crew_able.l1, if_pos h1, if_pos h2, if_pos h3, Int.toNat_natCast, if_neg hb, if_neg hk, wi64_succ (show j < 9223372036854775807 by omega), wi64_succ (show fr < 9223372036854775807 by omega)]
theorem able_f (a0 : List Int) (a1 : List Bool) (a2 : Int) (he : a0.length = a1.length) (h8 : a0.length ≤ 8) : Ev (fun k => crew_able.f k a0 a1 a2) (ables a0 a1 a2 a0.length 0, ((frees a1 a0.length 0 : Nat) : Int)) := by
 have h := able_l1 a0 a1 a2 he h8 a0.length 0 [] 0 (by omega) (by omega) (by simp) (by simp)
 rw [List.nil_append, Nat.zero_add] at h
 exact Ev.bind (g := fun _ p => some (p.1, p.2)) h (Ev.pure _)
theorem ables_len (a0 : List Int) (a1 : List Bool) (a2 : Int) : ∀ m j, (ables a0 a1 a2 m j).length ≤ frees a1 m j ∧ frees a1 m j ≤ m := by
 intro m
 induction m with
 | zero => intro j; exact ⟨Nat.le_refl _, Nat.le_refl _⟩
 | succ m ih =>
  intro j
  have := ih (j + 1)
  simp only [ables, frees]
  split
  ·omega
  ·split
   ·simp only [List.length_cons]; omega
   ·omega
end Go.Proofs.Ytobdpbnadjkhiaa.Cr
