/- Plain laws of crews: heaps of hands. -/
import Derived.Test.YtobdpbnadjkhiaaTCa
namespace Go.Proofs.Ytobdpbnadjkhiaa.Cr
open Go.WG Go.Proofs.Ytobdpbnadjkhiaa
set_option linter.unusedSimpArgs false
set_option linter.unusedVariables false
def ltH (a b : Thand) : Bool := decide (a.used < b.used ∨ (a.used = b.used ∧ a.id < b.id))
theorem ltH_ord : Heap.Ord ltH where
 asymm := fun a b h => by
  simp only [ltH, decide_eq_true_eq] at h
  simp only [ltH, decide_eq_false_iff_not]
  omega
 trans := fun a b c h k => by
  simp only [ltH, decide_eq_false_iff_not] at *
  omega
theorem ltH_eq (a b : Thand) (h : ltH a b = false) (k : ltH b a = false) : a = b := by
 simp only [ltH, decide_eq_false_iff_not] at h k
 obtain ⟨u, i⟩ := a
 obtain ⟨v, j⟩ := b
 simp only at h k
 have h1 : u = v := by omega
 have h2 : i = j := by omega
 rw [h1, h2]
theorem ltH_irr (a : Thand) : ltH a a = false := by simp [ltH]
theorem lessAB (a b : Thand) : ((if a.used < b.used then some true else if a.used = b.used then some (decide (a.id < b.id)) else some false).bind fun g => some g) = some (ltH a b) := by
 by_cases hu : a.used < b.used
 ·simp [hu, ltH]
 ·by_cases he : a.used = b.used
  ·simp [he, ltH]
  ·simp [hu, he, ltH]
theorem less_f (k : Nat) (l : List Thand) (i j : Nat) (hi : i < l.length) (hj : j < l.length) : crew_idle_Less.f k l (i : Int) (j : Int) = some (ltH (l.getD i Thand.z) (l.getD j Thand.z)) := by
 have h1 : 0 ≤ (i : Int) ∧ (i : Int) < (l.length : Int) := by omega
 have h2 : 0 ≤ (j : Int) ∧ (j : Int) < (l.length : Int) := by omega
 simp only [crew_idle_Less.f, if_pos h1, if_pos h2, Int.toNat_natCast]
 exact lessAB _ _
theorem swap_f (k : Nat) (l : List Thand) (i j : Nat) (hi : i < l.length) (hj : j < l.length) : crew_idle_Swap.f k l (i : Int) (j : Int) = some (Heap.swap Thand.z l i j) := by
 have h1 : 0 ≤ (i : Int) ∧ (i : Int) < (l.length : Int) := by omega
 have h2 : 0 ≤ (j : Int) ∧ (j : Int) < (l.length : Int) := by omega
 have h3 : 0 ≤ (j : Int) ∧ (j : Int) < ((l.set i (l.getD j Thand.z)).length : Int) := by rw [List.length_set]; omega
 simp only [crew_idle_Swap.f, if_pos h1, if_pos h2, Int.toNat_natCast, Option.bind_some, if_pos h3]
 rfl
theorem down_l1 (n : Nat) (hn63 : n ≤ 1000000000000) : ∀ (f i : Nat) (l : List Thand), n ≤ l.length → n ≤ f + i → i < n ∨ f = 0 →  i ≤ n →
  Ev (fun k => heap_down.l1 k (n : Int) (i : Int) l) (((Heap.down ltH Thand.z f n i l).1 : Int), (Heap.down ltH Thand.z f n i l).2) := by
 intro f
 induction f with
 | zero =>
  intro i l hl hf _ hin
  have e1 : wi64 (2 * (i : Int)) = 2 * (i : Int) := wi64_id (by omega) (by omega)
  have e2 : wi64 (2 * (i : Int) + 1) = 2 * (i : Int) + 1 := wi64_id (by omega) (by omega)
  refine Ev.succ ((Ev.pure _).congr fun k => ?_)
  have h1 : 2 * (i : Int) + 1 ≥ (n : Int) := by omega
  simp only [heap_down.l1, e1, e2, decide_eq_true h1, Bool.true_or, if_true, Heap.down]
 | succ f ih =>
  intro i l hl hf hfi hin
  have hin' : i < n := by omega
  have e1 : wi64 (2 * (i : Int)) = 2 * (i : Int) := wi64_id (by omega) (by omega)
  have e2 : wi64 (2 * (i : Int) + 1) = 2 * (i : Int) + 1 := wi64_id (by omega) (by omega)
  have e3 : wi64 (2 * (i : Int) + 1 + 1) = 2 * (i : Int) + 1 + 1 := wi64_id (by omega) (by omega)
  by_cases hge : 2 * i + 1 ≥ n
  ·refine Ev.succ ((Ev.pure _).congr fun k => ?_)
   have h1 : 2 * (i : Int) + 1 ≥ (n : Int) := by omega
   simp only [heap_down.l1, e1, e2, decide_eq_true h1, Bool.true_or, if_true, Heap.down, if_pos hge]
  ·have h1 : ¬ 2 * (i : Int) + 1 ≥ (n : Int) := by omega
   have h2 : ¬ 2 * (i : Int) + 1 < 0 := by omega
   generalize hj : (if 2 * i + 2 < n ∧ ltH (l.getD (2 * i + 2) Thand.z) (l.getD (2 * i + 1) Thand.z) = true then 2 * i + 2 else 2 * i + 1) = j
   have hjc : (j = 2 * i + 1 ∨ j = 2 * i + 2) ∧ j < n := by split at hj <;> omega
   have hpick : ∀ k, ((if 2 * (i : Int) + 1 + 1 < (n : Int) then ((crew_idle_Less.f k l (2 * (i : Int) + 1 + 1) (2 * (i : Int) + 1)).bind fun r => some r) else some false).bind fun g => if g = true then some (2 * (i : Int) + 1 + 1) else some (2 * (i : Int) + 1)) = some (j : Int) := fun k => by
    by_cases h22 : 2 * i + 2 < n
    ·have h22' : 2 * (i : Int) + 1 + 1 < (n : Int) := by omega
     have hl2 := less_f k l (2 * i + 2) (2 * i + 1) (by omega) (by omega)
     rw [show ((2 * i + 2 : Nat) : Int) = 2 * (i : Int) + 1 + 1 from by omega, show ((2 * i + 1 : Nat) : Int) = 2 * (i : Int) + 1 from by omega] at hl2
     simp only [if_pos h22', hl2, Option.bind_some]
     cases hlt : ltH (l.getD (2 * i + 2) Thand.z) (l.getD (2 * i + 1) Thand.z) with
     | true =>
      rw [hlt] at hj
      rw [if_pos ⟨h22, rfl⟩] at hj
      subst hj
      simp only [if_true]
      congr 1
     | false =>
      rw [hlt] at hj
      rw [if_neg (by simp)] at hj
      subst hj
      simp
    ·have h22' : ¬ 2 * (i : Int) + 1 + 1 < (n : Int) := by omega
     rw [if_neg (fun h => h22 h.1)] at hj
     subst hj
     simp [if_neg h22']
   have hless := fun k => less_f k l j i (by omega) (by omega)
   have hswap := fun k => swap_f k l i j (by omega) (by omega)
   simp only [Heap.down, if_neg hge, hj]
   cases hlt : ltH (l.getD j Thand.z) (l.getD i Thand.z) with
   | true =>
    rw [if_pos rfl]
    have h := ih j (Heap.swap Thand.z l i j) (by rw [Heap.swap_length]; exact hl) (by omega) (by omega) (by omega)
    refine Ev.succ (h.congr fun k => ?_)
    simp only [heap_down.l1, e1, e2, e3, decide_eq_false h1, decide_eq_false h2, Bool.false_or, hpick k, Option.bind_some, hless k, hlt, if_true, hswap k]
    simp
   | false =>
    rw [if_neg (by simp)]
    refine Ev.succ ((Ev.pure _).congr fun k => ?_)
    simp only [heap_down.l1, e1, e2, e3, decide_eq_false h1, decide_eq_false h2, Bool.false_or, hpick k, Option.bind_some, hless k, hlt]
    simp
theorem down_f (n : Nat) (hn63 : n ≤ 1000000000000) (i : Nat) (l : List Thand) (hl : n ≤ l.length) (hi : i ≤ n) :
  ∃ b, Ev (fun k => heap_down.f k l (i : Int) (n : Int)) (b, (Heap.down ltH Thand.z (n - i) n i l).2) := by
 have h := down_l1 n hn63 (n - i) i l hl (by omega) (by omega) hi
 exact ⟨decide (((Heap.down ltH Thand.z (n - i) n i l).1 : Int) > (i : Int)), Ev.bind (g := fun _ (p : Int × List Thand) => some (decide (p.1 > (i : Int)), p.2)) h (Ev.pure _)⟩
theorem init_l1 (n : Nat) (hn63 : n ≤ 1000000000000) : ∀ (j : Nat) (l : List Thand), l.length = n → j ≤ n → Heap.Ok ltH Thand.z j n none l →
  ∃ r, Ev (fun k => heap_Init.l1 k (n : Int) ((j : Int) - 1) l) r ∧ r.Perm l ∧ Heap.Ok ltH Thand.z 0 n none r := by
 intro j
 induction j with
 | zero =>
  intro l hl hj hok
  refine ⟨l, Ev.succ ((Ev.pure _).congr fun k => ?_), .refl _, hok⟩
  have : ¬ (((0 : Nat) : Int) - 1 ≥ 0) := by omega
  simp only [heap_Init.l1, if_neg this]
 | succ j ih =>
  intro l hl hj hok
  obtain ⟨b, hd⟩ := down_f n hn63 j l (by omega) (by omega)
  obtain ⟨h1, h2, h3⟩ := Heap.down_spec ltH_ord j n (n - j) j l (by omega) (Nat.le_refl _) (by omega)
   (fun p c hp hpj hc hcn => hok p c (by have : p ≠ j := fun e => hpj (by rw [e]); omega) (by simp) hc hcn) (fun q c hq hjq _ _ => by omega)
  obtain ⟨r, h4, h5, h6⟩ := ih (Heap.down ltH Thand.z (n - j) n j l).2 (by rw [Heap.down_length]; exact hl) (by omega) h2
  refine ⟨r, Ev.succ ?_, h5.trans h1, h6⟩
  have hge : ((j + 1 : Nat) : Int) - 1 ≥ 0 := by omega
  have e1 : ((j + 1 : Nat) : Int) - 1 = (j : Int) := by omega
  have e2 : wi64 ((j : Int) - 1) = (j : Int) - 1 := wi64_id (by omega) (by omega)
  refine Ev.congr (Ev.bind (g := fun k p => heap_Init.l1 k (n : Int) (wi64 ((j : Int) - 1)) p.2) hd (by simpa only [e2] using h4)) fun k => ?_
  have hge' : (j : Int) ≥ 0 := by omega
  simp only [heap_Init.l1, e1, if_pos hge']
theorem init_f (l : List Thand) (hn63 : l.length ≤ 1000000000000) : ∃ r, Ev (fun k => heap_Init.f k l) r ∧ r.Perm l ∧ Heap.Ok ltH Thand.z 0 r.length none r := by
 have hok : Heap.Ok ltH Thand.z (l.length / 2) l.length none l := fun p c hp _ hc hcn => by omega
 obtain ⟨r, h1, h2, h3⟩ := init_l1 l.length hn63 (l.length / 2) l rfl (by omega) hok
 refine ⟨r, ?_, h2, by rw [h2.length_eq]; exact h3⟩
 have e1 : (l.length : Int).tdiv 2 = ((l.length / 2 : Nat) : Int) := by rw [Int.tdiv_eq_ediv_of_nonneg (by omega)]; omega
 have e2 : wi64 ((l.length / 2 : Nat) : Int) = ((l.length / 2 : Nat) : Int) := wi64_id (by omega) (by omega)
 have e3 : wi64 (((l.length / 2 : Nat) : Int) - 1) = ((l.length / 2 : Nat) : Int) - 1 := wi64_id (by omega) (by omega)
 refine Ev.congr (Ev.bind (g := fun _ x => some x) h1 (Ev.pure _)) fun k => ?_
 simp only [heap_Init.f, crew_idle_Len.f, Option.bind_some, e1, e2, e3]
theorem popLast_f (k : Nat) (l : List Thand) (h : 0 < l.length) (hn63 : l.length ≤ 1000000000000) : crew_idle_Pop.f k l = some (l.getD (l.length - 1) Thand.z, l.take (l.length - 1)) := by
 have e1 : wi64 ((l.length : Int) - 1) = ((l.length - 1 : Nat) : Int) := by rw [wi64_id (by omega) (by omega)]; omega
 have h1 : 0 ≤ ((l.length - 1 : Nat) : Int) ∧ ((l.length - 1 : Nat) : Int) < (l.length : Int) := by omega
 have h2 : 0 ≤ ((l.length - 1 : Nat) : Int) ∧ ((l.length - 1 : Nat) : Int) ≤ (l.length : Int) := by omega
 simp only [crew_idle_Pop.f, e1, if_pos h1, if_pos h2, Int.toNat_natCast]
theorem pop_f (l : List Thand) (h : 0 < l.length) (hn63 : l.length ≤ 1000000000000) : Ev (fun k => heap_Pop.f k l) (Heap.pop ltH Thand.z l) := by
 have e1 : wi64 ((l.length : Int) - 1) = ((l.length - 1 : Nat) : Int) := by rw [wi64_id (by omega) (by omega)]; omega
 obtain ⟨b, hd⟩ := down_f (l.length - 1) (by omega) 0 (Heap.swap Thand.z l 0 (l.length - 1)) (by rw [Heap.swap_length]; omega) (Nat.zero_le _)
 have hlen : (Heap.down ltH Thand.z (l.length - 1 - 0) (l.length - 1) 0 (Heap.swap Thand.z l 0 (l.length - 1))).2.length = l.length := by rw [Heap.down_length, Heap.swap_length]
 have hsw := fun k => swap_f k l 0 (l.length - 1) h (by omega)
 have hp := fun k => popLast_f k (Heap.down ltH Thand.z (l.length - 1 - 0) (l.length - 1) 0 (Heap.swap Thand.z l 0 (l.length - 1))).2 (by omega) (by omega)
 refine Ev.congr (Ev.bind (g := fun k p => (crew_idle_Pop.f k p.2).bind fun q => some (q.1, q.2)) hd (r := Heap.pop ltH Thand.z l) ?_) fun k => ?_
 ·refine (Ev.pure _).congr fun k => ?_
  simp only [hp k, Option.bind_some, hlen]
  rfl
 ·have := hsw k
  simp only [heap_Pop.f, crew_idle_Len.f, Option.bind_some, e1]
  rw [show (0 : Int) = ((0 : Nat) : Int) from rfl, this]
  rfl
end Go.Proofs.Ytobdpbnadjkhiaa.Cr
