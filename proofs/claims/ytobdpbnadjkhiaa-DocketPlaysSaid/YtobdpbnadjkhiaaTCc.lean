/- Plain laws of crews: who is picked. -/
import Derived.Test.YtobdpbnadjkhiaaTCb
namespace Go.Proofs.Ytobdpbnadjkhiaa.Cr
open Go.WG Go.Proofs.Ytobdpbnadjkhiaa
set_option linter.unusedSimpArgs false
set_option linter.unusedVariables false
abbrev AA (a0 : List Int) (a1 : List Bool) (a2 : Int) : List Thand := ables a0 a1 a2 a0.length 0
abbrev SS (a0 : List Int) (a1 : List Bool) (a2 : Int) : List Thand := Heap.isort ltH (AA a0 a1 a2)
def pickL (a0 : List Int) (a1 : List Bool) (a2 a3 : Int) : List Int × Int :=
 if rightL a0 a1 = false ∨ a3 < 1 ∨ a2 < 0 then ([], 1)
 else if (frees a1 a0.length 0 : Int) < a3 then ([], 180)
 else if ((AA a0 a1 a2).length : Int) < a3 then ([], 70)
 else (((SS a0 a1 a2).take a3.toNat).map (·.id), 0)
theorem pick_l1 (n : Nat) (S : List Thand) (hn : n ≤ S.length) (hn63 : S.length ≤ 1000000000000) (hS : S.Pairwise fun a b => ltH b a = false) : ∀ (m i : Nat) (hp : List Thand), n - i = m → i ≤ n → hp.Perm (S.drop i) → Heap.Ok ltH Thand.z 0 hp.length none hp →
  Ev (fun k => crew_Pick.l1 k (n : Int) ((S.take i).map (·.id) ++ List.replicate (n - i) (0 : Int)) (i : Int) hp) ((S.take n).map (·.id)) := by
 intro m
 induction m with
 | zero =>
  intro i hp hm hi hperm hok
  have : i = n := by omega
  subst this
  refine Ev.succ ((Ev.pure _).congr fun k => ?_)
  have hno : ¬ (i : Int) < ((List.replicate ((i : Int)).toNat (0 : Int)).length : Int) := by rw [List.length_replicate, Int.toNat_natCast]; omega
  simp only [crew_Pick.l1, if_neg hno, Nat.sub_self, List.replicate_zero, List.append_nil]
 | succ m ih =>
  intro i hp hm hi hperm hok
  have hin : i < n := by omega
  have hiS : i < S.length := by omega
  have hlen : hp.length = S.length - i := by rw [hperm.length_eq, List.length_drop]
  have hpop := pop_f hp (by omega) (by omega)
  obtain ⟨h1, h2, h3, h4⟩ := Heap.pop_spec ltH_ord (l := hp) (d := Thand.z) (by intro e; rw [e] at hlen; simp at hlen; omega) hok
  rw [List.drop_eq_getElem_cons hiS] at hperm
  have hsub : (S[i] :: S.drop (i + 1)).Pairwise fun a b => ltH b a = false := by rw [← List.drop_eq_getElem_cons hiS]; exact hS.sublist (List.drop_sublist _ _)
  obtain ⟨h5, h6⟩ := Heap.pop_sorted ltH_eq ltH_irr h2 h4 hperm hsub
  have h7 := ih (i + 1) (Heap.pop ltH Thand.z hp).2 (by omega) (by omega) h6 h3
  refine Ev.succ ?_
  have hyes : (i : Int) < ((List.replicate ((n : Int)).toNat (0 : Int)).length : Int) := by rw [List.length_replicate, Int.toNat_natCast]; omega
  have hl0 : ((S.take i).map (·.id)).length = i := by rw [List.length_map, List.length_take]; omega
  have hb : 0 ≤ (i : Int) ∧ (i : Int) < ((((S.take i).map (·.id)) ++ List.replicate (n - i) (0 : Int)).length : Int) := by rw [List.length_append, hl0, List.length_replicate]; omega
  have hset : (((S.take i).map (·.id)) ++ List.replicate (n - i) (0 : Int)).set i (S[i].id) = ((S.take (i + 1)).map (·.id)) ++ List.replicate (n - (i + 1)) (0 : Int) := by
   rw [List.set_append_right _ _ (by omega), hl0, Nat.sub_self, show n - i = (n - (i + 1)) + 1 from by omega, List.replicate_succ, List.set_cons_zero, List.take_succ_eq_append_getElem hiS, List.map_append]
   simp
  refine Ev.congr (Ev.bind (g := fun k (p : Thand × List Thand) => if 0 ≤ (i : Int) ∧ (i : Int) < ((((S.take i).map (·.id)) ++ List.replicate (n - i) (0 : Int)).length : Int) then crew_Pick.l1 k (n : Int) ((((S.take i).map (·.id)) ++ List.replicate (n - i) (0 : Int)).set (i : Int).toNat p.1.id) (wi64 ((i : Int) + 1)) p.2 else none) hpop (Ev.iteT hb ?_)) fun k => ?_
  ·rw [h5, Int.toNat_natCast, hset, wi64_succ (by omega)]
   exact h7
  ·simp only [crew_Pick.l1, if_pos hyes]
theorem pick_f (a0 : List Int) (a1 : List Bool) (a2 a3 : Int) (hb : a0.length < 9223372036854775807) : Ev (fun k => crew_Pick.f k a0 a1 a2 a3) (pickL a0 a1 a2 a3) := by
 have hr := right_f a0 a1 hb
 unfold crew_Pick.f
 refine Ev.bind hr ?_
 unfold pickL
 by_cases hbad : rightL a0 a1 = false ∨ a3 < 1 ∨ a2 < 0
 ·rw [if_pos hbad]
  refine Ev.iteT ?_ (Ev.pure _)
  rcases hbad with h | h | h
  ·simp [h]
  ·simp [h]
  ·simp [h]
 ·rw [if_neg hbad]
  have hrt : rightL a0 a1 = true := by cases h : rightL a0 a1 with | true => rfl | false => exact absurd (.inl h) hbad
  have h3 : ¬ a3 < 1 := fun h => hbad (.inr (.inl h))
  have h2 : ¬ a2 < 0 := fun h => hbad (.inr (.inr h))
  obtain ⟨he, h8, _⟩ := rightL_len hrt
  refine Ev.iteF (by simp [hrt, h3, h2]) ?_
  refine Ev.bind (able_f a0 a1 a2 he h8) ?_
  by_cases hf : (frees a1 a0.length 0 : Int) < a3
  ·rw [if_pos hf]
   exact Ev.iteT hf (Ev.pure _)
  ·rw [if_neg hf]
   refine Ev.iteF hf ?_
   by_cases hk : ((AA a0 a1 a2).length : Int) < a3
   ·rw [if_pos hk]
    exact Ev.iteT hk (Ev.pure _)
   ·rw [if_neg hk]
    refine Ev.iteF hk ?_
    have hlen : (AA a0 a1 a2).length ≤ frees a1 a0.length 0 ∧ frees a1 a0.length 0 ≤ a0.length := ables_len a0 a1 a2 a0.length 0
    have hp := Heap.isort_perm (lt := ltH) (AA a0 a1 a2)
    obtain ⟨r, h1, h4, h5⟩ := init_f (AA a0 a1 a2) (by omega)
    refine Ev.bind h1 ?_
    have hlim : 0 ≤ a3 ∧ a3 * 8 ≤ 140737488355328 := by omega
    refine Ev.iteT hlim ?_
    have h6 := pick_l1 a3.toNat (SS a0 a1 a2) (by rw [hp.length_eq]; omega) (by rw [hp.length_eq]; omega) (Heap.isort_sorted ltH_ord _) _ 0 r rfl (Nat.zero_le _) (by rw [List.drop_zero]; exact h4.trans hp.symm) h5
    have e3 : ((a3.toNat : Nat) : Int) = a3 := by omega
    simp only [e3, List.take_zero, List.map_nil, List.nil_append, Nat.sub_zero] at h6
    exact Ev.bind h6 (Ev.pure _)
theorem ables_mem (a0 : List Int) (a1 : List Bool) (a2 : Int) : ∀ m j, ∀ h ∈ ables a0 a1 a2 m j, h.used < a2 ∧ ∃ i : Nat, h.id = (i : Int) ∧ j ≤ i ∧ i < j + m ∧ a1.getD i false = false ∧ h.used = a0.getD i 0 := by
 intro m
 induction m with
 | zero => intro j h hh; simp [ables] at hh
 | succ m ih =>
  intro j h hh
  simp only [ables] at hh
  have go : h ∈ ables a0 a1 a2 m (j + 1) → h.used < a2 ∧ ∃ i : Nat, h.id = (i : Int) ∧ j ≤ i ∧ i < j + (m + 1) ∧ a1.getD i false = false ∧ h.used = a0.getD i 0 := fun hh => by
   obtain ⟨h1, i, h2, h3, h4, h5⟩ := ih (j + 1) h hh
   exact ⟨h1, i, h2, by omega, by omega, h5⟩
  split at hh
  ·exact go hh
  ·rename_i hb
   split at hh
   ·rename_i hk
    rcases List.mem_cons.1 hh with rfl | hh
    ·exact ⟨hk, j, rfl, Nat.le_refl _, by omega, by simpa using hb, rfl⟩
    ·exact go hh
   ·exact go hh
theorem ables_ids (a0 : List Int) (a1 : List Bool) (a2 : Int) : ∀ m j, (ables a0 a1 a2 m j).Pairwise fun a b => a.id < b.id := by
 intro m
 induction m with
 | zero => intro j; exact .nil
 | succ m ih =>
  intro j
  simp only [ables]
  split
  ·exact ih _
  ·split
   ·refine List.pairwise_cons.2 ⟨fun h hh => ?_, ih _⟩
    obtain ⟨_, i, h2, h3, _⟩ := ables_mem a0 a1 a2 m (j + 1) h hh
    rw [h2]
    show (j : Int) < (i : Int)
    omega
   ·exact ih _
theorem SS_ids (a0 : List Int) (a1 : List Bool) (a2 : Int) : (SS a0 a1 a2).Pairwise fun a b => a.id ≠ b.id :=
 (((Heap.isort_perm (lt := ltH) (AA a0 a1 a2)).pairwise_iff (R := fun a b : Thand => a.id ≠ b.id) (fun h => Ne.symm h)).2 ((ables_ids a0 a1 a2 _ _).imp fun h => by omega))
end Go.Proofs.Ytobdpbnadjkhiaa.Cr
