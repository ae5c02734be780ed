/- Plain laws of crews: the document's. -/
import Derived.Test.YtobdpbnadjkhiaaTCc
import Derived.Test.YtobdpbnadjkhiaaTGa
namespace Go.Proofs.Ytobdpbnadjkhiaa.Cr
open Go.WG Go.Proofs.Ytobdpbnadjkhiaa
set_option linter.unusedSimpArgs false
set_option linter.unusedVariables false
theorem refRight_l1 (a0 : List Int) (hb : a0.length < 9223372036854775807) : ∀ (m j : Nat), a0.length - j = m → j ≤ a0.length → Ev (fun k => juratref18_Right.l1 k a0 (j : Int)) (if (a0.drop j).all (fun x => decide (0 ≤ x)) = true then Sum.inl () else Sum.inr false) := by
 intro m
 induction m with
 | zero =>
  intro j hm hj
  have hj' : j = a0.length := by omega
  subst hj'
  refine Ev.succ ((Ev.pure _).congr fun k => ?_)
  simp [juratref18_Right.l1]
 | succ m ih =>
  intro j hm hj
  have hlt : j < a0.length := by omega
  rw [drop_cons 0 hlt, List.all_cons]
  have h1 : (j : Int) < (a0.length : Int) := by omega
  have h2 : 0 ≤ (j : Int) ∧ (j : Int) < (a0.length : Int) := by omega
  by_cases h0 : a0.getD j 0 < 0
  ·refine Ev.succ ((Ev.pure _).congr fun k => ?_)
   have h0' : ¬ 0 ≤ a0.getD j 0 := by omega
   simp only [juratref18_Right.l1, if_pos h1, if_pos h2, Int.toNat_natCast, if_pos h0, decide_eq_false h0']
   rfl
  ·have h0' : 0 ≤ a0.getD j 0 := by omega
   rw [decide_eq_true h0', Bool.true_and]
   refine Ev.succ ((ih (j + 1) (by omega) (by omega)).congr fun k => ?_)
   simp only [juratref18_Right.l1, if_pos h1, if_pos h2, Int.toNat_natCast, if_neg h0, wi64_succ (show j < 9223372036854775807 by omega)]
theorem refRight_f (a0 : List Int) (a1 : List Bool) (hb : a0.length < 9223372036854775807) : Ev (fun k => juratref18_Right.f k a0 a1) (rightL a0 a1) := by
 have h := refRight_l1 a0 hb _ 0 rfl (Nat.zero_le _)
 rw [List.drop_zero] at h
 unfold rightL
 by_cases he : a0.length = a1.length
 ·have he' : (a0.length : Int) = (a1.length : Int) := by omega
  by_cases h8 : a0.length ≤ 8
  ·have h8' : decide ((a0.length : Int) > 8) = false := decide_eq_false (by omega)
   rw [decide_eq_true he, decide_eq_true h8, Bool.and_true, Bool.and_true]
   refine (Ev.bind (g := fun _ o_ => sumE o_ (fun _ => some true) (fun p_ => some p_)) h (r := a0.all (fun x => decide (0 ≤ x))) ?_).congr fun k => ?_
   ·cases ha : a0.all (fun x => decide (0 ≤ x)) with
    | false => exact Ev.pure _
    | true => exact Ev.pure _
   ·simp [juratref18_Right.f, if_pos he', h8']
  ·have h8' : decide ((a0.length : Int) > 8) = true := decide_eq_true (by omega)
   rw [decide_eq_false h8, Bool.and_false]
   refine (Ev.pure false).congr fun k => ?_
   simp [juratref18_Right.f, if_pos he', h8']
 ·have he' : ¬ (a0.length : Int) = (a1.length : Int) := by omega
  rw [decide_eq_false he, Bool.and_false, Bool.false_and]
  refine (Ev.pure false).congr fun k => ?_
  simp [juratref18_Right.f, if_neg he']
theorem refLeft_l1 (a0 : List Int) (a1 : List Bool) (a2 : Int) (hr : rightL a0 a1 = true) : ∀ (m j c : Nat), a0.length - j = m → j ≤ a0.length → c ≤ j →
  Ev (fun k => juratref18_Left.l1 k a0 a1 a2 (c : Int) (j : Int)) ((c + (ables a0 a1 a2 m j).length : Nat) : Int) := by
 obtain ⟨he, h8, _⟩ := rightL_len hr
 intro m
 induction m with
 | zero =>
  intro j c hm hj _
  have hn : ¬ (j : Int) < (a0.length : Int) := by omega
  refine Ev.succ ((Ev.pure _).congr fun k => ?_)
  simp only [juratref18_Left.l1, if_neg hn, Option.bind_some]
  simp [ables]
 | succ m ih =>
  intro j c hm hj hc
  have h1 : (j : Int) < (a0.length : Int) := by omega
  have h2 : 0 ≤ (j : Int) ∧ (j : Int) < (a0.length : Int) := by omega
  have h3 : 0 ≤ (j : Int) ∧ (j : Int) < (a1.length : Int) := by omega
  have hR := refRight_f a0 a1 (by omega)
  rw [hr] at hR
  have hb : Ev (fun k => (juratref18_Right.f k a0 a1).bind fun r => some r) true := Ev.bind (g := fun _ r => some r) hR (Ev.pure _)
  have key : ∀ (X : Int), Ev (fun k => if 0 ≤ (j : Int) ∧ (j : Int) < (a1.length : Int) then ((if (a1.getD j false) = true then (some (false)) else (if 0 ≤ (j : Int) ∧ (j : Int) < (a0.length : Int) then (some (decide ((a0.getD j 0) < a2))) else none)).bind fun g200 => if g200 = true then (juratref18_Left.l1 k a0 a1 a2 (wi64 ((c : Int) + 1)) (wi64 ((j : Int) + 1))) else (juratref18_Left.l1 k a0 a1 a2 (c : Int) (wi64 ((j : Int) + 1)))) else none) X →
    Ev (fun k => juratref18_Left.l1 (k + 1) a0 a1 a2 (c : Int) (j : Int)) X := fun X hX => by
   refine (Ev.bind (f := fun k => (juratref18_Right.f k a0 a1).bind fun r => some r) (g := fun k g175 => if g175 = true then (if 0 ≤ (j : Int) ∧ (j : Int) < (a1.length : Int) then ((if (a1.getD j false) = true then (some (false)) else (if 0 ≤ (j : Int) ∧ (j : Int) < (a0.length : Int) then (some (decide ((a0.getD j 0) < a2))) else none)).bind fun g200 => if g200 = true then (juratref18_Left.l1 k a0 a1 a2 (wi64 ((c : Int) + 1)) (wi64 ((j : Int) + 1))) else (juratref18_Left.l1 k a0 a1 a2 (c : Int) (wi64 ((j : Int) + 1)))) else none) else some (c : Int)) hb (Ev.iteT rfl hX)).congr fun k => ?_
   simp only [juratref18_Left.l1, if_pos h1, Int.toNat_natCast]
  refine Ev.succ (key _ ?_)
  by_cases hbar : a1.getD j false = true
  ·have := ih (j + 1) c (by omega) (by omega) (by omega)
   simp only [ables, if_pos hbar]
   refine this.congr fun k => ?_
   simp only [if_pos h3, if_pos hbar, Option.bind_some, wi64_succ (show j < 9223372036854775807 by omega)]
   simp
  ·by_cases hk : a0.getD j 0 < a2
   ·have := ih (j + 1) (c + 1) (by omega) (by omega) (by omega)
    simp only [ables, if_neg hbar, if_pos hk, List.length_cons]
    rw [Nat.add_assoc, Nat.add_comm 1] at this
    refine this.congr fun k => ?_
    simp only [if_pos h3, if_pos h2, if_neg hbar, Option.bind_some, decide_eq_true hk, if_true, wi64_succ (show j < 9223372036854775807 by omega), wi64_succ (show c < 9223372036854775807 by omega)]
   ·have := ih (j + 1) c (by omega) (by omega) (by omega)
    simp only [ables, if_neg hbar, if_neg hk]
    refine this.congr fun k => ?_
    simp only [if_pos h3, if_pos h2, if_neg hbar, Option.bind_some, decide_eq_false hk, wi64_succ (show j < 9223372036854775807 by omega)]
    simp
theorem refLeft_f (a0 : List Int) (a1 : List Bool) (a2 : Int) (hb : a0.length < 9223372036854775807) : Ev (fun k => juratref18_Left.f k a0 a1 a2) (if rightL a0 a1 = true then ((ables a0 a1 a2 a0.length 0).length : Int) else 0) := by
 cases hr : rightL a0 a1 with
 | true =>
  have h := refLeft_l1 a0 a1 a2 hr a0.length 0 0 (by omega) (by omega) (by omega)
  rw [Nat.zero_add] at h
  exact Ev.bind (g := fun _ x => some x) h (Ev.pure _)
 | false =>
  refine Ev.bind (g := fun _ x => some x) (a := 0) (Ev.succ ?_) (Ev.pure _)
  have hR := refRight_f a0 a1 hb
  rw [hr] at hR
  have hb : Ev (fun k => if (0 : Int) < (a0.length : Int) then (juratref18_Right.f k a0 a1).bind fun r => some r else some false) false := by
   by_cases h0 : (0 : Int) < (a0.length : Int)
   ·exact Ev.iteT h0 (Ev.bind (g := fun _ r => some r) hR (Ev.pure _))
   ·exact Ev.iteF h0 (Ev.pure _)
  obtain ⟨K, hK⟩ := hb
  refine ⟨K, fun k hk => ?_⟩
  have := hK k hk
  simp only at this
  simp only [juratref18_Left.l1, this, Option.bind_some]
  simp
theorem refPick_l1 (a1 : List Bool) (hb : a1.length ≤ 8) : ∀ (m j c : Nat), a1.length - j = m → j ≤ a1.length → c ≤ j → Ev (fun k => juratref18_Pick.l1 k a1 (c : Int) (j : Int)) ((c + frees a1 m j : Nat) : Int) := by
 intro m
 induction m with
 | zero =>
  intro j c hm hj _
  have hn : ¬ (j : Int) < (a1.length : Int) := by omega
  refine Ev.succ ((Ev.pure _).congr fun k => ?_)
  simp only [juratref18_Pick.l1, if_neg hn, frees, Nat.add_zero]
 | succ m ih =>
  intro j c hm hj hc
  have h1 : (j : Int) < (a1.length : Int) := by omega
  have h2 : 0 ≤ (j : Int) ∧ (j : Int) < (a1.length : Int) := by omega
  by_cases hbar : a1.getD j false = true
  ·have := ih (j + 1) c (by omega) (by omega) (by omega)
   refine Ev.succ (Ev.congr (f := fun k => juratref18_Pick.l1 k a1 (c : Int) ((j + 1 : Nat) : Int)) (by simpa only [frees, if_pos hbar] using this) fun k => ?_)
   simp only [juratref18_Pick.l1, if_pos h1, if_pos h2, Int.toNat_natCast, if_pos hbar, wi64_succ (show j < 9223372036854775807 by omega)]
  ·have := ih (j + 1) (c + 1) (by omega) (by omega) (by omega)
   rw [Nat.add_assoc, Nat.add_comm 1] at this
   refine Ev.succ (Ev.congr (f := fun k => juratref18_Pick.l1 k a1 ((c + 1 : Nat) : Int) ((j + 1 : Nat) : Int)) (by simpa only [frees, if_neg hbar] using this) fun k => ?_)
   simp only [juratref18_Pick.l1, if_pos h1, if_pos h2, Int.toNat_natCast, if_neg hbar, wi64_succ (show j < 9223372036854775807 by omega), wi64_succ (show c < 9223372036854775807 by omega)]
def nx (L : Int) : Int → List Thand → Int
 | next, [] => next
 | next, h :: r => nx L (if h.used > L then (if h.used < next then h.used else next) else next) r
theorem nx_spec (L : Int) : ∀ (l : List Thand) (next : Int), nx L next l ≤ next ∧ (∀ h ∈ l, h.used > L → nx L next l ≤ h.used) ∧ (L < next → L < nx L next l) := by
 intro l
 induction l with
 | nil => intro next; exact ⟨Int.le_refl _, fun h hh => by simp at hh, fun h => h⟩
 | cons a l ih =>
  intro next
  simp only [nx]
  generalize hv : (if a.used > L then (if a.used < next then a.used else next) else next) = v
  have hv1 : v ≤ next ∧ (a.used > L → v ≤ a.used) ∧ (L < next → L < v) := by
   subst hv
   split
   ·split <;> omega
   ·omega
  obtain ⟨h1, h2, h3⟩ := ih v
  refine ⟨by omega, fun h hh hu => ?_, fun hL => h3 (hv1.2.2 hL)⟩
  rcases List.mem_cons.1 hh with rfl | hh
  ·have := hv1.2.1 hu
   omega
  ·exact h2 h hh hu
theorem refPick_l3 (a0 : List Int) (a1 : List Bool) (a2 : Int) (n : Nat) (L : Int) (he : a0.length = a1.length) (h8 : a0.length ≤ 8) (hn8 : n ≤ 8) : ∀ (m j : Nat) (out : List Int) (next : Int), a0.length - j = m → j ≤ a0.length → out.length ≤ n →
  Ev (fun k => juratref18_Pick.l3 k a0 a1 a2 (n : Int) L out next (j : Int)) (out ++ ((((ables a0 a1 a2 m j).filter (fun h => decide (h.used = L))).map (·.id)).take (n - out.length)), nx L next (ables a0 a1 a2 m j)) := by
 intro m
 induction m with
 | zero =>
  intro j out next hm hj ho
  have hno : ¬ (j : Int) < (a0.length : Int) := by omega
  refine Ev.succ ((Ev.pure _).congr fun k => ?_)
  simp only [juratref18_Pick.l3, if_neg hno, ables, nx, List.filter_nil, List.map_nil, List.take_nil, List.append_nil]
 | succ m ih =>
  intro j out next hm hj ho
  have h1 : (j : Int) < (a0.length : Int) := by omega
  have h2 : 0 ≤ (j : Int) ∧ (j : Int) < (a0.length : Int) := by omega
  have h3 : 0 ≤ (j : Int) ∧ (j : Int) < (a1.length : Int) := by omega
  have hj1 : wi64 ((j : Int) + 1) = ((j + 1 : Nat) : Int) := wi64_succ (by omega)
  by_cases hbar : a1.getD j false = true
  ·have := ih (j + 1) out next (by omega) (by omega) ho
   refine Ev.succ (Ev.congr (f := fun k => juratref18_Pick.l3 k a0 a1 a2 (n : Int) L out next ((j + 1 : Nat) : Int)) (by simpa only [ables, if_pos hbar] using this) fun k => ?_)
   simp only [juratref18_Pick.l3, if_pos h1, if_pos h3, Int.toNat_natCast, if_pos hbar, Option.bind_some, hj1]
   simp
  ·by_cases hk : a0.getD j 0 < a2
   ·have hk' : ¬ (a0.getD j 0 ≥ a2) := by omega
    simp only [ables, if_neg hbar, if_pos hk]
    -- what the place adds
    have hadd : ∃ out', out'.length ≤ n ∧ out' ++ ((((ables a0 a1 a2 m (j + 1)).filter (fun h => decide (h.used = L))).map (·.id)).take (n - out'.length)) = out ++ (((((⟨a0.getD j 0, (j : Int)⟩ : Thand) :: ables a0 a1 a2 m (j + 1)).filter (fun h => decide (h.used = L))).map (·.id)).take (n - out.length)) ∧
      ((if a0.getD j 0 = L then (some (decide ((out.length : Int) < (n : Int)))) else (some (false))).bind fun g => if g = true then (if (out.length + 1 + (out.length + 1) / 4 + 192) * 8 ≤ 281474976710656 then (some (out ++ [(j : Int)])) else none) else (some out)) = some out' := by
     by_cases hu : a0.getD j 0 = L
     ·by_cases hlt : out.length < n
      ·refine ⟨out ++ [(j : Int)], by simp; omega, ?_, ?_⟩
       ·rw [List.filter_cons_of_pos (by simpa using hu), List.map_cons, show n - out.length = (n - (out ++ [(j : Int)]).length) + 1 from by simp; omega, List.take_succ_cons, List.append_assoc, List.singleton_append]
       ·have h4 : (out.length : Int) < (n : Int) := by omega
        have h5 : (out.length + 1 + (out.length + 1) / 4 + 192) * 8 ≤ 281474976710656 := by omega
        simp only [if_pos hu, decide_eq_true h4, Option.bind_some, if_true, if_pos h5]
      ·refine ⟨out, ho, ?_, ?_⟩
       ·rw [show n - out.length = 0 from by omega, List.take_zero, List.take_zero]
       ·have h4 : ¬ (out.length : Int) < (n : Int) := by omega
        simp only [if_pos hu, decide_eq_false h4, Option.bind_some]
        simp
     ·refine ⟨out, ho, ?_, ?_⟩
      ·rw [List.filter_cons_of_neg (by simpa using hu)]
      ·simp only [if_neg hu, Option.bind_some]
       simp
    obtain ⟨out', ho', hout, hrun⟩ := hadd
    have hnext : (if a0.getD j 0 > L then (if a0.getD j 0 < next then a0.getD j 0 else next) else next) = (if a0.getD j 0 > L then (if a0.getD j 0 < next then a0.getD j 0 else next) else next) := rfl
    have := ih (j + 1) out' (if a0.getD j 0 > L then (if a0.getD j 0 < next then a0.getD j 0 else next) else next) (by omega) (by omega) ho'
    rw [hout] at this
    refine Ev.succ (Ev.congr this fun k => ?_)
    simp only [juratref18_Pick.l3, if_pos h1, if_pos h3, if_pos h2, Int.toNat_natCast, if_neg hbar, decide_eq_false hk', Option.bind_some, hj1]
    rw [if_neg (by simp), hrun]
    simp only [Option.bind_some]
    by_cases hg : a0.getD j 0 > L
    ·simp only [if_pos hg]
    ·simp only [if_neg hg]
   ·have hk' : a0.getD j 0 ≥ a2 := by omega
    have := ih (j + 1) out next (by omega) (by omega) ho
    refine Ev.succ (Ev.congr (f := fun k => juratref18_Pick.l3 k a0 a1 a2 (n : Int) L out next ((j + 1 : Nat) : Int)) (by simpa only [ables, if_neg hbar, if_neg hk] using this) fun k => ?_)
    simp only [juratref18_Pick.l3, if_pos h1, if_pos h3, if_pos h2, Int.toNat_natCast, if_neg hbar, decide_eq_true hk', Option.bind_some, hj1]
    simp
theorem sorted_split {S : List Thand} (hS : S.Pairwise fun a b => ltH b a = false) (p : Thand → Bool) (hp : ∀ a b, p a = true → p b = false → ltH b a = false) : S.filter p ++ S.filter (fun x => !p x) = S := by
 refine Heap.sorted_unique ltH_eq (List.filter_append_perm p S) (List.pairwise_append.2 ⟨hS.sublist List.filter_sublist, hS.sublist List.filter_sublist, fun a ha b hb => ?_⟩) hS
 exact hp a b (List.mem_filter.1 ha).2 (by simpa using (List.mem_filter.1 hb).2)
theorem level_eq (a0 : List Int) (a1 : List Bool) (a2 : Int) (L : Int) : (AA a0 a1 a2).filter (fun h => decide (h.used = L)) = (SS a0 a1 a2).filter (fun h => decide (h.used = L)) := by
 refine Heap.sorted_unique ltH_eq ((Heap.isort_perm _).symm.filter _) ?_ ((Heap.isort_sorted ltH_ord _).sublist List.filter_sublist)
 refine List.pairwise_filter.2 ((ables_ids a0 a1 a2 _ _).imp fun {a b} h ha hb => ?_)
 have h1 : a.used = L := of_decide_eq_true ha
 have h2 : b.used = L := of_decide_eq_true hb
 simp only [ltH, decide_eq_false_iff_not]
 omega
theorem refPick_l2 (a0 : List Int) (a1 : List Bool) (a2 : Int) (n : Nat) (he : a0.length = a1.length) (h8 : a0.length ≤ 8) (hn : n ≤ (SS a0 a1 a2).length) (hn8 : n ≤ 8) : ∀ (m : Nat) (L : Int), (a2 - L).toNat ≤ m →
  Ev (fun k => juratref18_Pick.l2 k a0 a1 a2 (n : Int) ((((SS a0 a1 a2).filter (fun h => decide (h.used < L))).take n).map (·.id)) L) (((SS a0 a1 a2).take n).map (·.id)) := by
 have hS : (SS a0 a1 a2).Pairwise fun a b => ltH b a = false := Heap.isort_sorted ltH_ord _
 have hlt : ∀ h ∈ SS a0 a1 a2, h.used < a2 := fun h hh => (ables_mem a0 a1 a2 _ _ h ((Heap.isort_perm _).mem_iff.1 hh)).1
 intro m
 induction m using Nat.strongRecOn with
 | ind m ih =>
  intro L hm
  by_cases hfull : n ≤ ((SS a0 a1 a2).filter (fun h => decide (h.used < L))).length
  ·refine Ev.succ ((Ev.pure _).congr fun k => ?_)
   have hno : ¬ ((((((SS a0 a1 a2).filter (fun h => decide (h.used < L))).take n).map (·.id)).length : Int) < (n : Int)) := by rw [List.length_map, List.length_take]; omega
   simp only [juratref18_Pick.l2, if_neg hno]
   have hsp := sorted_split hS (fun h => decide (h.used < L)) (fun a b ha hb => by
    simp only [decide_eq_true_eq, decide_eq_false_iff_not] at ha hb
    simp only [ltH, decide_eq_false_iff_not]
    omega)
   congr 2
   rw [← hsp, List.take_append_of_le_length hfull, List.filter_append, List.filter_filter]
   simp only [Bool.and_self]
   rw [show (List.filter (fun h => decide (h.used < L)) (List.filter (fun x => !decide (x.used < L)) (SS a0 a1 a2))) = [] from by
    rw [List.filter_filter, List.filter_eq_nil_iff]
    intro a _
    simp, List.append_nil]
  ·-- somebody is at this level or above: the level is below the keys
   have hX : ((SS a0 a1 a2).filter (fun h => decide (h.used < L))).length < n := by omega
   have hL : L < a2 := by
    rcases (by omega : L < a2 ∨ a2 ≤ L) with h | h
    ·exact h
    ·exfalso
     rw [List.filter_eq_self.2 (fun h' hh => by have := hlt h' hh; exact decide_eq_true (by omega))] at hX
     omega
   have hyes : ((((((SS a0 a1 a2).filter (fun h => decide (h.used < L))).take n).map (·.id)).length : Int) < (n : Int)) := by rw [List.length_map, List.length_take]; omega
   have h3 := refPick_l3 a0 a1 a2 n L he h8 hn8 a0.length 0 ((((SS a0 a1 a2).filter (fun h => decide (h.used < L))).take n).map (·.id)) a2 (by omega) (by omega) (by rw [List.length_map, List.length_take]; omega)
   obtain ⟨n1, n2, n3⟩ := nx_spec L (AA a0 a1 a2) a2
   have hnext : (((SS a0 a1 a2).filter (fun h => decide (h.used < L))).take n).map (·.id) ++ (((AA a0 a1 a2).filter (fun h => decide (h.used = L))).map (·.id)).take (n - ((((SS a0 a1 a2).filter (fun h => decide (h.used < L))).take n).map (·.id)).length) =
     (((SS a0 a1 a2).filter (fun h => decide (h.used < nx L a2 (AA a0 a1 a2)))).take n).map (·.id) := by
    rw [level_eq, List.take_of_length_le (by omega), List.length_map]
    have hT : (SS a0 a1 a2).filter (fun h => decide (h.used < nx L a2 (AA a0 a1 a2))) = (SS a0 a1 a2).filter (fun h => decide (h.used < L)) ++ (SS a0 a1 a2).filter (fun h => decide (h.used = L)) := by
     have e1 : (SS a0 a1 a2).filter (fun h => decide (h.used < nx L a2 (AA a0 a1 a2))) = (SS a0 a1 a2).filter (fun h => decide (h.used ≤ L)) := by
      refine List.filter_congr fun h hh => decide_eq_decide.2 ?_
      have hA : h ∈ AA a0 a1 a2 := (Heap.isort_perm _).mem_iff.1 hh
      have := n3 hL
      constructor
      ·intro h1
       rcases (by omega : L < h.used ∨ h.used ≤ L) with h2 | h2
       ·have := n2 h hA h2; omega
       ·exact h2
      ·intro h1; omega
     rw [e1]
     have hsp := sorted_split (S := (SS a0 a1 a2).filter (fun h => decide (h.used ≤ L))) (hS.sublist List.filter_sublist) (fun h => decide (h.used < L)) (fun a b ha hb => by
      simp only [decide_eq_true_eq, decide_eq_false_iff_not] at ha hb
      simp only [ltH, decide_eq_false_iff_not]
      omega)
     rw [← hsp, List.filter_filter, List.filter_filter]
     congr 1
     ·refine List.filter_congr fun h _ => ?_
      rw [← Bool.decide_and]
      exact decide_eq_decide.2 (by omega)
     ·refine List.filter_congr fun h _ => ?_
      rw [← decide_not, ← Bool.decide_and]
      exact decide_eq_decide.2 (by omega)
    rw [hT, List.take_append, List.map_append, List.take_of_length_le (l := (SS a0 a1 a2).filter (fun h => decide (h.used < L))) (i := n) (by omega), List.map_take]
   refine Ev.succ (Ev.congr (Ev.bind (g := fun k (p : List Int × Int) => juratref18_Pick.l2 k a0 a1 a2 (n : Int) p.1 p.2) h3 ?_) fun k => ?_)
   ·show Ev (fun k => juratref18_Pick.l2 k a0 a1 a2 (n : Int) _ _) _
    rw [hnext]
    exact ih (a2 - nx L a2 (AA a0 a1 a2)).toNat (by have := n3 hL; omega) _ (Nat.le_refl _)
   ·simp only [juratref18_Pick.l2, if_pos hyes]
    rfl
theorem refPick_f (a0 : List Int) (a1 : List Bool) (a2 a3 : Int) (hb : a0.length < 9223372036854775807) (hb1 : a1.length < 9223372036854775807) : Ev (fun k => juratref18_Pick.f k a0 a1 a2 a3) (pickL a0 a1 a2 a3) := by
 have hr := refRight_f a0 a1 hb
 unfold juratref18_Pick.f
 refine Ev.bind hr ?_
 unfold pickL
 by_cases hbad : rightL a0 a1 = false ∨ a3 < 1 ∨ a2 < 0
 ·rw [if_pos hbad]
  refine Ev.iteT ?_ (Ev.pure _)
  rcases hbad with h | h | h
  ·simp [h]
  ·simp [h]
  ·simp [h]
 ·rw [if_neg hbad]
  have hrt : rightL a0 a1 = true := by cases h : rightL a0 a1 with | true => rfl | false => exact absurd (.inl h) hbad
  have h3 : ¬ a3 < 1 := fun h => hbad (.inr (.inl h))
  have h2 : ¬ a2 < 0 := fun h => hbad (.inr (.inr h))
  obtain ⟨he, h8, hpos⟩ := rightL_len hrt
  refine Ev.iteF (by simp [hrt, h3, h2]) ?_
  have hf1 := refPick_l1 a1 (by omega) a1.length 0 0 (by omega) (by omega) (by omega)
  rw [Nat.zero_add, ← he] at hf1
  refine Ev.bind hf1 ?_
  by_cases hf : (frees a1 a0.length 0 : Int) < a3
  ·rw [if_pos hf]
   exact Ev.iteT hf (Ev.pure _)
  ·rw [if_neg hf]
   refine Ev.iteF hf ?_
   have hleft := refLeft_f a0 a1 a2 hb
   rw [if_pos hrt] at hleft
   refine Ev.bind hleft ?_
   by_cases hk : ((AA a0 a1 a2).length : Int) < a3
   ·rw [if_pos hk]
    exact Ev.iteT hk (Ev.pure _)
   ·rw [if_neg hk]
    refine Ev.iteF hk ?_
    have hlen : (AA a0 a1 a2).length ≤ frees a1 a0.length 0 ∧ frees a1 a0.length 0 ≤ a0.length := ables_len a0 a1 a2 a0.length 0
    have hp := Heap.isort_perm (lt := ltH) (AA a0 a1 a2)
    have h := refPick_l2 a0 a1 a2 a3.toNat he h8 (by rw [hp.length_eq]; omega) (by omega) _ 0 (Nat.le_refl _)
    have e0 : (SS a0 a1 a2).filter (fun h => decide (h.used < 0)) = [] := by
     rw [List.filter_eq_nil_iff]
     intro h hh
     obtain ⟨_, i, _, _, hi, _, hu⟩ := ables_mem a0 a1 a2 _ _ h (hp.mem_iff.1 hh)
     have hi' : i < a0.length := by omega
     have := hpos (a0.getD i 0) (by rw [List.getD_eq_getElem?_getD, List.getElem?_eq_getElem hi']; exact List.getElem_mem _)
     simp only [decide_eq_true_eq]
     omega
    have e3 : ((a3.toNat : Nat) : Int) = a3 := by omega
    rw [e0] at h
    simp only [List.take_nil, List.map_nil, e3] at h
    exact Ev.bind (g := fun _ x => some (x, 0)) h (Ev.pure _)
end Go.Proofs.Ytobdpbnadjkhiaa.Cr
