/- Plain laws of crews: who is picked is right. -/
import Derived.Test.YtcmoclekbifhbaaUf
set_option linter.unusedSimpArgs false
set_option linter.unusedVariables false
namespace Go.Proofs.Ytcmoclekbifhbaa.Pure
open Go.WG Go.Proofs.Ytcmoclekbifhbaa
theorem ables_has (a0 : List Int) (a1 : List Bool) (a2 : Int) : ∀ m j i, j ≤ i → i < j + m → a1.getD i false = false → a0.getD i 0 < a2 → (⟨a0.getD i 0, (i : Int)⟩ : Thand) ∈ ables a0 a1 a2 m j := by
  intro m
  induction m with
  | zero => intro j i h1 h2; omega
  | succ m ih =>
    intro j i h1 h2 hb hk
    simp only [ables]
    by_cases hij : i = j
    · subst hij
      rw [if_neg (by rw [hb]; simp), if_pos hk]
      exact List.mem_cons_self ..
    · have := ih (j + 1) i (by omega) (by omega) hb hk
      split
      · exact this
      · split
        · exact List.mem_cons_of_mem _ this
        · exact this
theorem SS_ids (a0 : List Int) (a1 : List Bool) (a2 : Int) : (SS a0 a1 a2).Pairwise fun a b => a.id ≠ b.id :=
  (((Heap.isort_perm (lt := ltH) (AA a0 a1 a2)).pairwise_iff (R := fun a b : Thand => a.id ≠ b.id) (fun h => Ne.symm h)).2 ((ables_ids a0 a1 a2 _ _).imp fun h => by omega))
theorem right_loop1 (a0 : List Int) (a1 : List Bool) (a2 : Int) (he : a0.length = a1.length) (h8 : a0.length ≤ 8) (n : Nat) (hn8 : n ≤ 8) (T : List Thand) (hT : T.length = n) (hid : T.Pairwise fun a b => a.id ≠ b.id)
    (hmem : ∀ h ∈ T, h.used < a2 ∧ ∃ i : Nat, h.id = (i : Int) ∧ i < a0.length ∧ a1.getD i false = false ∧ h.used = a0.getD i 0) :
    ∀ (m i : Nat) (most : Int) (picked : List Bool), n - i = m → i ≤ n → picked.length = 8 → (∀ w : Nat, w < 8 → (picked.getD w false = true ↔ ∃ h ∈ T.take i, h.id = (w : Int))) → (most = 0 ∨ ∃ h ∈ T, most = h.used) →
      ∃ most' picked', Ev (fun k => juratlaw18_CrewRight.l1 k a0 a1 a2 (n : Int) (T.map (·.id)) most picked (i : Int)) (Sum.inl (most', picked')) ∧ picked'.length = 8 ∧ (∀ w : Nat, w < 8 → (picked'.getD w false = true ↔ ∃ h ∈ T, h.id = (w : Int))) ∧ (most' = 0 ∨ ∃ h ∈ T, most' = h.used) := by
  intro m
  induction m with
  | zero =>
    intro i most picked hm hi hp hpk hmost
    have hno : ¬ (i : Int) < (n : Int) := by omega
    refine ⟨most, picked, Ev.succ ((Ev.pure _).congr fun k => ?_), hp, ?_, hmost⟩
    · simp only [juratlaw18_CrewRight.l1, if_neg hno]
    · rwa [List.take_of_length_le (by omega)] at hpk
  | succ m ih =>
    intro i most picked hm hi hp hpk hmost
    have hiT : i < T.length := by omega
    obtain ⟨hu, w, hw, hwl, hwb, hwu⟩ := hmem T[i] (List.getElem_mem _)
    have hget : (T.map (·.id)).getD i 0 = (w : Int) := by rw [List.getD_eq_getElem?_getD, List.getElem?_map, List.getElem?_eq_getElem hiT, Option.map_some, Option.getD_some, hw]
    have h1 : (i : Int) < (n : Int) := by omega
    have h2 : 0 ≤ (i : Int) ∧ (i : Int) < ((T.map (·.id)).length : Int) := by rw [List.length_map]; omega
    have c1 : ¬ ((w : Int) < 0) := by omega
    have c2 : ¬ ((w : Int) ≥ (a0.length : Int)) := by omega
    have c3 : 0 ≤ (w : Int) ∧ (w : Int) < (a1.length : Int) := by omega
    have c4 : 0 ≤ (w : Int) ∧ (w : Int) < (a0.length : Int) := by omega
    have c5 : ¬ (a0.getD w 0 ≥ a2) := by omega
    have c6 : 0 ≤ (w : Int) ∧ (w : Int) < (picked.length : Int) := by omega
    have c7 : picked.getD w false = false := by
      cases hpw : picked.getD w false with
      | false => rfl
      | true =>
        exfalso
        obtain ⟨h, hh, hhid⟩ := (hpk w (by omega)).1 hpw
        obtain ⟨q, hq, rfl⟩ := List.getElem_of_mem hh
        rw [List.length_take] at hq
        have := List.pairwise_iff_getElem.1 hid q i (by omega) hiT (by omega)
        rw [List.getElem_take] at hhid
        exact this (hhid.trans hw.symm)
    have e1 : n - (i + 1) = m ∧ i + 1 ≤ n := by clear hmost; omega
    obtain ⟨most', picked', g1, g2, g3, g4⟩ := ih (i + 1) (if a0.getD w 0 > most then a0.getD w 0 else most) (picked.set w true) e1.1 e1.2 (by rw [List.length_set]; exact hp) (fun v hv => by
        rw [List.take_succ_eq_append_getElem hiT]
        rw [List.getD_eq_getElem?_getD, List.getElem?_set]
        by_cases hvw : w = v
        · subst hvw
          rw [if_pos rfl, if_pos (by omega)]
          simp only [Option.getD_some, true_iff]
          exact ⟨T[i], List.mem_append_right _ (List.mem_singleton.2 rfl), hw⟩
        · rw [if_neg hvw, ← List.getD_eq_getElem?_getD, hpk v hv]
          constructor
          · rintro ⟨h, hh, hhid⟩
            exact ⟨h, List.mem_append_left _ hh, hhid⟩
          · rintro ⟨h, hh, hhid⟩
            rcases List.mem_append.1 hh with hh | hh
            · exact ⟨h, hh, hhid⟩
            · rw [List.mem_singleton] at hh
              subst hh
              rw [hw] at hhid
              omega) (by
        split
        · exact .inr ⟨T[i], List.getElem_mem _, hwu.symm⟩
        · exact hmost)
    refine ⟨most', picked', Ev.succ (g1.congr fun k => ?_), g2, g3, g4⟩
    simp only [juratlaw18_CrewRight.l1, if_pos h1, if_pos h2, Int.toNat_natCast, hget, if_neg c1, if_neg c2, if_pos c3, hwb, if_pos c4, if_neg c5, if_pos c6, c7, Option.bind_some, wi64_succ (show i < 9223372036854775807 by clear hmost; omega)]
    simp
theorem right_loop2 (a0 : List Int) (a1 : List Bool) (he : a0.length = a1.length) (h8 : a0.length ≤ 8) (most : Int) (picked : List Bool) (hp : picked.length = 8) (hall : ∀ w : Nat, w < a0.length → a1.getD w false = false → picked.getD w false = false → ¬ a0.getD w 0 < most) :
    ∀ (m j : Nat), a0.length - j = m → j ≤ a0.length → Ev (fun k => juratlaw18_CrewRight.l2 k a0 a1 most picked (j : Int)) (Sum.inl ()) := by
  intro m
  induction m with
  | zero =>
    intro j hm hj
    have hno : ¬ (j : Int) < (a0.length : Int) := by omega
    exact Ev.succ ((Ev.pure _).congr fun k => by simp only [juratlaw18_CrewRight.l2, if_neg hno])
  | succ m ih =>
    intro j hm hj
    have h1 : (j : Int) < (a0.length : Int) := by omega
    have h2 : 0 ≤ (j : Int) ∧ (j : Int) < (a1.length : Int) := by omega
    have h3 : 0 ≤ (j : Int) ∧ (j : Int) < (picked.length : Int) := by omega
    have h4 : 0 ≤ (j : Int) ∧ (j : Int) < (a0.length : Int) := by omega
    refine Ev.succ ((ih (j + 1) (by omega) (by omega)).congr fun k => ?_)
    simp only [juratlaw18_CrewRight.l2, if_pos h1, if_pos h2, if_pos h3, if_pos h4, Int.toNat_natCast, wi64_succ (show j < 9223372036854775807 by omega)]
    cases hb : a1.getD j false with
    | true => simp
    | false =>
      cases hk : picked.getD j false with
      | true => simp
      | false =>
        have := hall j (by omega) hb hk
        simp only [decide_eq_false this]
        simp
theorem CrewRight (a0 : List Int) (a1 : List Bool) (a2 : Int) (a3 : Int) (h0 : ok22 a0) (h1 : ok23 a1) (h2 : (Lit.int .i64 a2).wf = true) (h3 : (Lit.int .i64 a3).wf = true) : ∃ k, juratlaw18_CrewRight.f k a0 a1 a2 a3 = some true := by
  refine Ev.one ?_
  obtain ⟨r0, b0⟩ := reach22 h0
  obtain ⟨r1, b1⟩ := reach23 h1
  have haw : Ev (fun k => (juratlaw18_awake.f k).bind fun r26 => some r26) true := Ev.bind (g := fun _ r => some r) awake_f (Ev.pure _)
  unfold juratlaw18_CrewRight.f
  by_cases hbig : (a0.length : Int) > 8 ∨ (a1.length : Int) > 8
  · refine Ev.bind (f := fun _ => _) (a := true) ?_ (Ev.iteT rfl haw)
    rcases hbig with h | h
    · exact Ev.iteT h (Ev.pure _)
    · by_cases h' : (a0.length : Int) > 8
      · exact Ev.iteT h' (Ev.pure _)
      · refine Ev.iteF h' ?_
        rw [decide_eq_true h]
        exact Ev.pure _
  · have g1 : ¬ (a0.length : Int) > 8 := fun h => hbig (.inl h)
    have g2 : ¬ (a1.length : Int) > 8 := fun h => hbig (.inr h)
    refine Ev.bind (f := fun _ => _) (a := false) (Ev.iteF g1 (by rw [decide_eq_false g2]; exact Ev.pure _)) (Ev.iteF (by simp) ?_)
    refine Ev.iteT r0 (Ev.iteT r1 ?_)
    have hpk := pick_f a0 a1 a2 a3 b0
    have herr : ∀ e : Int, e ≠ 0 → pickL a0 a1 a2 a3 = ([], e) → Ev (fun k => (crew_Pick.f k a0 a1 a2 a3).bind fun p => if p.2 = 0 then (if (p.1.length : Int) = a3 then (if 0 ≤ (8 : Int) ∧ (8 : Int) * 1 ≤ 140737488355328 then ((juratlaw18_CrewRight.l1 k a0 a1 a2 a3 p.1 0 (List.replicate (8 : Int).toNat (false : Bool)) 0).bind fun o_ => sumE o_ (fun q => (juratlaw18_CrewRight.l2 k a0 a1 q.1 q.2 0).bind fun o_ => sumE o_ (fun _ => (juratlaw18_awake.f k ).bind fun r782 => some r782) (fun p_ => some p_)) (fun p_ => some p_)) else none) else (some false)) else ((if (p.1.length : Int) = 0 then ((juratlaw18_awake.f k ).bind fun r796 => some (r796)) else (some (false))).bind fun g792 => some g792)) true := fun e he hp => by
      rw [hp] at hpk
      refine Ev.bind hpk (Ev.iteF he ?_)
      exact Ev.bind (f := fun k => if ((([] : List Int).length : Int)) = 0 then _ else _) (g := fun _ g => some g) (a := true) (Ev.iteT rfl haw) (Ev.pure _)
    by_cases hbad : rightL a0 a1 = false ∨ a3 < 1 ∨ a2 < 0
    · exact herr 1 (by decide) (by unfold pickL; rw [if_pos hbad])
    · by_cases hf : (frees a1 a0.length 0 : Int) < a3
      · exact herr 180 (by decide) (by unfold pickL; rw [if_neg hbad, if_pos hf])
      · by_cases hk : ((AA a0 a1 a2).length : Int) < a3
        · exact herr 70 (by decide) (by unfold pickL; rw [if_neg hbad, if_neg hf, if_pos hk])
        · rw [show pickL a0 a1 a2 a3 = (((SS a0 a1 a2).take a3.toNat).map (·.id), 0) from by unfold pickL; rw [if_neg hbad, if_neg hf, if_neg hk]] at hpk
          have hrt : rightL a0 a1 = true := by cases h : rightL a0 a1 with | true => rfl | false => exact absurd (.inl h) hbad
          have hc3 : ¬ a3 < 1 := fun h => hbad (.inr (.inl h))
          obtain ⟨he, h8, hpos⟩ := rightL_len hrt
          have hperm := Heap.isort_perm (lt := ltH) (AA a0 a1 a2)
          have hlen : (SS a0 a1 a2).length = (AA a0 a1 a2).length := hperm.length_eq
          have hTl : ((SS a0 a1 a2).take a3.toNat).length = a3.toNat := by rw [List.length_take]; omega
          have e3 : ((a3.toNat : Nat) : Int) = a3 := by omega
          refine Ev.bind hpk (Ev.iteT rfl (Ev.iteT (by rw [List.length_map, hTl]; omega) (Ev.iteT (by decide) ?_)))
          have hsplit : (SS a0 a1 a2).Pairwise fun a b => ltH b a = false := Heap.isort_sorted ltH_ord _
          obtain ⟨most, picked, q1, q2, q3, q4⟩ := right_loop1 a0 a1 a2 he h8 a3.toNat (by have : (AA a0 a1 a2).length ≤ frees a1 a0.length 0 ∧ frees a1 a0.length 0 ≤ a0.length := ables_len a0 a1 a2 a0.length 0; omega) ((SS a0 a1 a2).take a3.toNat) hTl ((SS_ids a0 a1 a2).sublist (List.take_sublist _ _)) (fun h hh => by
              obtain ⟨z1, i, z2, _, z3, z4, z5⟩ := ables_mem a0 a1 a2 _ _ h (hperm.mem_iff.1 (List.mem_of_mem_take hh))
              exact ⟨z1, i, z2, by omega, z4, z5⟩) _ 0 0 (List.replicate (8 : Int).toNat (false : Bool)) rfl (Nat.zero_le _) (by decide) (fun w hw => by
              rw [List.take_zero]
              simp only [List.not_mem_nil, false_and, exists_false, iff_false]
              rw [List.getD_eq_getElem?_getD, List.getElem?_replicate]
              split <;> simp) (.inl rfl)
          rw [e3] at q1
          refine Ev.bind q1 ?_
          have hl2 := right_loop2 a0 a1 he h8 most picked q2 (fun w hw hwb hwp hlt => by
            have hnot : ¬ ∃ h ∈ (SS a0 a1 a2).take a3.toNat, h.id = (w : Int) := fun hex => by
              have := (q3 w (by omega)).2 hex
              rw [hwp] at this
              cases this
            have hw0 : 0 ≤ a0.getD w 0 := hpos _ (by rw [List.getD_eq_getElem?_getD, List.getElem?_eq_getElem hw]; exact List.getElem_mem _)
            rcases q4 with h | ⟨h, hh, hmost⟩
            · omega
            · have hhk := (ables_mem a0 a1 a2 _ _ h (hperm.mem_iff.1 (List.mem_of_mem_take hh))).1
              have hin : (⟨a0.getD w 0, (w : Int)⟩ : Thand) ∈ SS a0 a1 a2 := hperm.mem_iff.2 (ables_has a0 a1 a2 _ 0 w (Nat.zero_le _) (by omega) hwb (by omega))
              rw [← List.take_append_drop a3.toNat (SS a0 a1 a2)] at hin hsplit
              rcases List.mem_append.1 hin with hin | hin
              · exact hnot ⟨_, hin, rfl⟩
              · have := (List.pairwise_append.1 hsplit).2.2 h hh _ hin
                simp only [ltH, decide_eq_false_iff_not] at this
                omega) _ 0 rfl (Nat.zero_le _)
          exact Ev.bind (g := fun k o_ => sumE o_ (fun _ => (juratlaw18_awake.f k ).bind fun r782 => some r782) (fun p_ => some p_)) hl2 haw
end Go.Proofs.Ytcmoclekbifhbaa.Pure
