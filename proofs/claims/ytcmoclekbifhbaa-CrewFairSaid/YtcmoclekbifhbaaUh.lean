/- Plain laws of crews: picks are fair. -/
import Derived.Test.YtcmoclekbifhbaaUg
set_option linter.unusedSimpArgs false
set_option linter.unusedVariables false
namespace Go.Proofs.Ytcmoclekbifhbaa.Pure
open Go.WG Go.Proofs.Ytcmoclekbifhbaa
structure Fair (a0 : List Bool) (a1 : Int) (q : Int) (u : List Int) : Prop where
  len : u.length = a0.length
  bar : ∀ w : Nat, w < a0.length → a0.getD w false = true → u.getD w 0 = a1
  lo : ∀ w : Nat, w < a0.length → 0 ≤ u.getD w 0
  hi : ∀ w : Nat, w < a0.length → u.getD w 0 ≤ 1000 + q
  near : ∀ v w : Nat, v < a0.length → w < a0.length → a0.getD v false = false → a0.getD w false = false → u.getD v 0 ≤ u.getD w 0 + 1
theorem fair_l1 (a1 : Int) : ∀ (m j : Nat) (u : List Int), u.length - j = m → j ≤ u.length → u.length < 9223372036854775807 →
    ∃ u', Ev (fun k => juratlaw18_CrewFair.l1 k a1 u (j : Int)) u' ∧ u'.length = u.length ∧ (∀ w : Nat, w < u.length → u'.getD w 0 = if j ≤ w then a1 else u.getD w 0) := by
  intro m
  induction m with
  | zero =>
    intro j u hm hj hb
    have hno : ¬ (j : Int) < (u.length : Int) := by omega
    exact ⟨u, Ev.succ ((Ev.pure _).congr fun k => by simp only [juratlaw18_CrewFair.l1, if_neg hno]), rfl, fun w hw => by rw [if_neg (by omega)]⟩
  | succ m ih =>
    intro j u hm hj hb
    have h1 : (j : Int) < (u.length : Int) := by omega
    have h2 : 0 ≤ (j : Int) ∧ (j : Int) < (u.length : Int) := by omega
    obtain ⟨u', g1, g2, g3⟩ := ih (j + 1) (u.set j a1) (by rw [List.length_set]; omega) (by rw [List.length_set]; omega) (by rw [List.length_set]; omega)
    rw [List.length_set] at g2 g3
    refine ⟨u', Ev.succ (g1.congr fun k => ?_), g2, fun w hw => ?_⟩
    · simp only [juratlaw18_CrewFair.l1, if_pos h1, if_pos h2, Int.toNat_natCast, wi64_succ (show j < 9223372036854775807 by omega)]
    · rw [g3 w hw]
      by_cases hjw : w = j
      · subst hjw
        rw [if_neg (by omega), if_pos (Nat.le_refl _), List.getD_eq_getElem?_getD, List.getElem?_set_self hw, Option.getD_some]
      · by_cases hlt : j + 1 ≤ w
        · rw [if_pos hlt, if_pos (by omega)]
        · rw [if_neg hlt, if_neg (by omega), List.getD_eq_getElem?_getD, List.getElem?_set_ne (Ne.symm hjw), ← List.getD_eq_getElem?_getD]
theorem fair_l3 (n : Nat) (T : List Thand) (N8 : Nat) (hN : N8 ≤ 8) (hn8 : n ≤ 8) (hT : T.length = n) (hid : T.Pairwise fun a b => a.id ≠ b.id) (hmem : ∀ h ∈ T, ∃ i : Nat, h.id = (i : Int) ∧ i < N8) :
    ∀ (m i : Nat) (u : List Int), n - i = m → i ≤ n → u.length = N8 → (∀ w : Nat, w < N8 → -1000000 ≤ u.getD w 0 ∧ u.getD w 0 + (m : Int) ≤ 1000000) →
      ∃ u', Ev (fun k => juratlaw18_CrewFair.l3 k (T.map (·.id)) u (i : Int)) (Sum.inl u') ∧ u'.length = N8 ∧ (∀ w : Nat, w < N8 → ((∃ h ∈ T.drop i, h.id = (w : Int)) → u'.getD w 0 = u.getD w 0 + 1) ∧ ((¬ ∃ h ∈ T.drop i, h.id = (w : Int)) → u'.getD w 0 = u.getD w 0)) := by
  intro m
  induction m with
  | zero =>
    intro i u hm hi hl hb
    have hno : ¬ (i : Int) < ((T.map (·.id)).length : Int) := by rw [List.length_map]; omega
    refine ⟨u, Ev.succ ((Ev.pure _).congr fun k => by simp only [juratlaw18_CrewFair.l3, if_neg hno]), hl, fun w hw => ⟨fun h => ?_, fun _ => rfl⟩⟩
    rw [List.drop_eq_nil_of_le (by omega)] at h
    obtain ⟨h, hh, _⟩ := h
    simp at hh
  | succ m ih =>
    intro i u hm hi hl hb
    have hiT : i < T.length := by omega
    obtain ⟨w, hw, hwl⟩ := hmem T[i] (List.getElem_mem _)
    have hget : (T.map (·.id)).getD i 0 = (w : Int) := by rw [List.getD_eq_getElem?_getD, List.getElem?_map, List.getElem?_eq_getElem hiT, Option.map_some, Option.getD_some, hw]
    have h1 : (i : Int) < ((T.map (·.id)).length : Int) := by rw [List.length_map]; omega
    have h2 : 0 ≤ (i : Int) ∧ (i : Int) < ((T.map (·.id)).length : Int) := by rw [List.length_map]; omega
    have c1 : ¬ ((w : Int) < 0) := by omega
    have c2 : ¬ ((w : Int) ≥ (u.length : Int)) := by omega
    have c3 : 0 ≤ (w : Int) ∧ (w : Int) < (u.length : Int) := by omega
    have hbw := hb w hwl
    have e1 : wi64 (u.getD w 0 + 1) = u.getD w 0 + 1 := wi64_id (by omega) (by omega)
    have hset : ∀ v : Nat, v < N8 → (u.set w (u.getD w 0 + 1)).getD v 0 = if w = v then u.getD w 0 + 1 else u.getD v 0 := fun v hv => by
      rw [List.getD_eq_getElem?_getD, List.getElem?_set]
      by_cases hwv : w = v
      · rw [if_pos hwv, if_pos hwv, if_pos (by omega), Option.getD_some]
      · rw [if_neg hwv, if_neg hwv, ← List.getD_eq_getElem?_getD]
    have hnot : ¬ ∃ h ∈ T.drop (i + 1), h.id = (w : Int) := by
      rintro ⟨h, hh, hhid⟩
      have hp := hid.sublist (List.drop_sublist i T)
      rw [List.drop_eq_getElem_cons hiT] at hp
      exact (List.pairwise_cons.1 hp).1 h hh (hw.trans hhid.symm)
    have e2 : n - (i + 1) = m ∧ i + 1 ≤ n := by omega
    obtain ⟨u', g1, g2, g3⟩ := ih (i + 1) (u.set w (u.getD w 0 + 1)) e2.1 e2.2 (by rw [List.length_set]; exact hl) (fun v hv => by
      rw [hset v hv]
      have := hb v hv
      split <;> omega)
    refine ⟨u', Ev.succ (g1.congr fun k => ?_), g2, fun v hv => ?_⟩
    · simp only [juratlaw18_CrewFair.l3, if_pos h1, if_pos h2, hget, Int.toNat_natCast, if_neg c1, decide_eq_false c2, Option.bind_some, if_pos c3, e1, wi64_succ (show i < 9223372036854775807 by omega)]
      simp
    · obtain ⟨g4, g5⟩ := g3 v hv
      rw [hset v hv] at g4 g5
      rw [List.drop_eq_getElem_cons hiT]
      by_cases hwv : w = v
      · subst hwv
        rw [if_pos rfl] at g5
        exact ⟨fun _ => g5 hnot, fun h => absurd ⟨T[i], List.mem_cons_self .., hw⟩ h⟩
      · rw [if_neg hwv] at g4 g5
        refine ⟨fun ⟨h, hh, hhid⟩ => g4 ?_, fun h => g5 fun ⟨x, hx, hxid⟩ => h ⟨x, List.mem_cons_of_mem _ hx, hxid⟩⟩
        rcases List.mem_cons.1 hh with rfl | hh
        · rw [hw] at hhid
          omega
        · exact ⟨h, hh, hhid⟩
theorem fair_l5 (a0 : List Bool) (a1 q : Int) (hq : 0 ≤ q ∧ q ≤ 1000) (h8 : a0.length ≤ 8) (u : List Int) (hf : Fair a0 a1 q u) (i : Nat) (hi : i < a0.length) : ∀ (m j : Nat), a0.length - j = m → j ≤ a0.length → Ev (fun k => juratlaw18_CrewFair.l5 k a0 a1 u (i : Int) (j : Int)) (Sum.inl ()) := by
  have hlen := hf.len
  intro m
  induction m with
  | zero =>
    intro j hm hj
    have hno : ¬ (j : Int) < (u.length : Int) := by omega
    exact Ev.succ ((Ev.pure _).congr fun k => by simp only [juratlaw18_CrewFair.l5, if_neg hno])
  | succ m ih =>
    intro j hm hj
    have hja : j < a0.length := by omega
    have h1 : (j : Int) < (u.length : Int) := by omega
    have h2 : 0 ≤ (i : Int) ∧ (i : Int) < (a0.length : Int) := by omega
    have h3 : 0 ≤ (i : Int) ∧ (i : Int) < (u.length : Int) := by omega
    have h4 : 0 ≤ (j : Int) ∧ (j : Int) < (a0.length : Int) := by omega
    have h5 : 0 ≤ (j : Int) ∧ (j : Int) < (u.length : Int) := by omega
    have hlo := hf.lo j hja
    have hhi := hf.hi j hja
    have e1 : wi64 (u.getD j 0 + 1) = u.getD j 0 + 1 := wi64_id (by omega) (by omega)
    refine Ev.succ ((ih (j + 1) (by omega) (by omega)).congr fun k => ?_)
    simp only [juratlaw18_CrewFair.l5, if_pos h1, if_pos h2, if_pos h3, if_pos h4, if_pos h5, Int.toNat_natCast, e1, wi64_succ (show j < 9223372036854775807 by omega)]
    cases hbi : a0.getD i false with
    | true =>
      have := hf.bar i hi hbi
      rw [if_pos rfl, decide_eq_true this]
      simp
    | false =>
      rw [if_neg (by simp)]
      cases hbj : a0.getD j false with
      | true => simp
      | false =>
        have := hf.near i j hi hja hbi hbj
        rw [if_neg (show ¬ false = true by simp), if_neg (show ¬ u.getD i 0 > u.getD j 0 + 1 by omega)]
        simp
theorem fair_l4 (a0 : List Bool) (a1 q : Int) (hq : 0 ≤ q ∧ q ≤ 1000) (h8 : a0.length ≤ 8) (u : List Int) (hf : Fair a0 a1 q u) : ∀ (m i : Nat), a0.length - i = m → i ≤ a0.length → Ev (fun k => juratlaw18_CrewFair.l4 k a0 a1 u (i : Int)) (Sum.inl ()) := by
  have hlen := hf.len
  intro m
  induction m with
  | zero =>
    intro i hm hi
    have hno : ¬ (i : Int) < (u.length : Int) := by omega
    exact Ev.succ ((Ev.pure _).congr fun k => by simp only [juratlaw18_CrewFair.l4, if_neg hno])
  | succ m ih =>
    intro i hm hi
    have h1 : (i : Int) < (u.length : Int) := by omega
    have h5 := fair_l5 a0 a1 q hq h8 u hf i (by omega) a0.length 0 (by omega) (by omega)
    refine Ev.succ (Ev.congr (Ev.bind (g := fun k o_ => sumE o_ (fun _ => juratlaw18_CrewFair.l4 k a0 a1 u ((i + 1 : Nat) : Int)) (fun p_ => some (Sum.inr p_))) h5 (ih (i + 1) (by omega) (by omega))) fun k => ?_)
    simp only [juratlaw18_CrewFair.l4, if_pos h1, wi64_succ (show i < 9223372036854775807 by omega)]
    rfl
theorem fair_step (a0 : List Bool) (a1 a2 q : Int) (h8 : a0.length ≤ 8) (u u' : List Int) (hf : Fair a0 a1 q u) (n : Nat) (hl : u'.length = a0.length)
    (hu : ∀ w : Nat, w < a0.length → ((∃ h ∈ (SS u a0 a2).take n, h.id = (w : Int)) → u'.getD w 0 = u.getD w 0 + 1) ∧ ((¬ ∃ h ∈ (SS u a0 a2).take n, h.id = (w : Int)) → u'.getD w 0 = u.getD w 0)) : Fair a0 a1 (q + 1) u' := by
  have hperm := Heap.isort_perm (lt := ltH) (AA u a0 a2)
  have hS : (SS u a0 a2).Pairwise fun a b => ltH b a = false := Heap.isort_sorted ltH_ord _
  have hmem : ∀ h ∈ (SS u a0 a2).take n, h.used < a2 ∧ ∃ i : Nat, h.id = (i : Int) ∧ i < a0.length ∧ a0.getD i false = false ∧ h.used = u.getD i 0 := fun h hh => by
    obtain ⟨z1, i, z2, _, z3, z4, z5⟩ := ables_mem u a0 a2 _ _ h (hperm.mem_iff.1 (List.mem_of_mem_take hh))
    exact ⟨z1, i, z2, by have := hf.len; omega, z4, z5⟩
  have hval : ∀ w : Nat, w < a0.length → u'.getD w 0 = u.getD w 0 ∨ (u'.getD w 0 = u.getD w 0 + 1 ∧ a0.getD w false = false) := fun w hw => by
    by_cases hp : ∃ h ∈ (SS u a0 a2).take n, h.id = (w : Int)
    · refine .inr ⟨(hu w hw).1 hp, ?_⟩
      obtain ⟨h, hh, hid⟩ := hp
      obtain ⟨_, i, z2, _, z4, _⟩ := hmem h hh
      have : i = w := by omega
      subst this
      exact z4
    · exact .inl ((hu w hw).2 hp)
  refine ⟨hl, fun w hw hb => ?_, fun w hw => ?_, fun w hw => ?_, fun v w hv hw hbv hbw => ?_⟩
  · rcases hval w hw with h | ⟨_, h⟩
    · rw [h]; exact hf.bar w hw hb
    · rw [hb] at h; cases h
  · have := hf.lo w hw
    rcases hval w hw with h | ⟨h, _⟩ <;> omega
  · have := hf.hi w hw
    rcases hval w hw with h | ⟨h, _⟩ <;> omega
  · have hnear := hf.near v w hv hw hbv hbw
    by_cases hpw : ∃ h ∈ (SS u a0 a2).take n, h.id = (w : Int)
    · have := (hu w hw).1 hpw
      rcases hval v hv with h | ⟨h, _⟩ <;> omega
    · have hw' := (hu w hw).2 hpw
      by_cases hpv : ∃ h ∈ (SS u a0 a2).take n, h.id = (v : Int)
      · have hv' := (hu v hv).1 hpv
        obtain ⟨h, hh, hid⟩ := hpv
        obtain ⟨hk, i, z2, z3, z4, z5⟩ := hmem h hh
        have hiv : i = v := by omega
        subst hiv
        suffices hle : u.getD i 0 ≤ u.getD w 0 by omega
        by_cases hkw : u.getD w 0 < a2
        · have hin : (⟨u.getD w 0, (w : Int)⟩ : Thand) ∈ SS u a0 a2 := hperm.mem_iff.2 (ables_has u a0 a2 _ 0 w (Nat.zero_le _) (by have := hf.len; omega) hbw hkw)
          rw [← List.take_append_drop n (SS u a0 a2)] at hin hS
          rcases List.mem_append.1 hin with hin | hin
          · exact absurd ⟨_, hin, rfl⟩ hpw
          · have := (List.pairwise_append.1 hS).2.2 h hh _ hin
            simp only [ltH, decide_eq_false_iff_not] at this
            omega
        · omega
      · have := (hu v hv).2 hpv
        omega
theorem fair_l2 (a0 : List Bool) (a1 a2 : Int) (h8 : a0.length ≤ 8) (a3 : List Int) (h100 : a3.length ≤ 100) : ∀ (m i : Nat) (u : List Int), a3.length - i = m → i ≤ a3.length → Fair a0 a1 (i : Int) u → Ev (fun k => juratlaw18_CrewFair.l2 k a0 a1 a2 a3 u (i : Int)) (Sum.inl ()) := by
  intro m
  induction m with
  | zero =>
    intro i u hm hi hf
    have hno : ¬ (i : Int) < (a3.length : Int) := by omega
    exact Ev.succ ((Ev.pure _).congr fun k => by simp only [juratlaw18_CrewFair.l2, if_neg hno])
  | succ m ih =>
    intro i u hm hi hf
    have hlen := hf.len
    have h1 : (i : Int) < (a3.length : Int) := by omega
    have h2 : 0 ≤ (i : Int) ∧ (i : Int) < (a3.length : Int) := by omega
    have h3 : u.length * 8 ≤ 140737488355328 := by omega
    have h4 : (([] : List Bool).length + a0.length) * 1 ≤ 140737488355328 := by simp; omega
    have hpk := pick_f u a0 a2 (a3.getD i 0) (by omega)
    have hwi := wi64_succ (show i < 9223372036854775807 by omega)
    have hgo : ∀ (u' : List Int), Fair a0 a1 (i : Int) u' → Ev (fun k => juratlaw18_CrewFair.l2 k a0 a1 a2 a3 u' ((i + 1 : Nat) : Int)) (Sum.inl ()) := fun u' hf' => by
      refine ih (i + 1) u' (by omega) (by omega) ⟨hf'.len, hf'.bar, hf'.lo, fun w hw => ?_, hf'.near⟩
      have := hf'.hi w hw
      omega
    have main : Ev (fun k => (crew_Pick.f k u a0 a2 (a3.getD i 0)).bind fun p => if p.2 = 0 then ((juratlaw18_CrewFair.l3 k p.1 u 0).bind fun o_ => sumE o_ (fun x => (juratlaw18_CrewFair.l4 k a0 a1 x 0).bind fun o_ => sumE o_ (fun _ => juratlaw18_CrewFair.l2 k a0 a1 a2 a3 x (wi64 ((i : Int) + 1))) (fun p_ => some (Sum.inr p_))) (fun p_ => some (Sum.inr p_))) else (juratlaw18_CrewFair.l2 k a0 a1 a2 a3 u (wi64 ((i : Int) + 1)))) (Sum.inl ()) := by
      simp only [hwi]
      have herr : ∀ e : Int, e ≠ 0 → pickL u a0 a2 (a3.getD i 0) = ([], e) → Ev (fun k => (crew_Pick.f k u a0 a2 (a3.getD i 0)).bind fun p => if p.2 = 0 then ((juratlaw18_CrewFair.l3 k p.1 u 0).bind fun o_ => sumE o_ (fun x => (juratlaw18_CrewFair.l4 k a0 a1 x 0).bind fun o_ => sumE o_ (fun _ => juratlaw18_CrewFair.l2 k a0 a1 a2 a3 x ((i + 1 : Nat) : Int)) (fun p_ => some (Sum.inr p_))) (fun p_ => some (Sum.inr p_))) else (juratlaw18_CrewFair.l2 k a0 a1 a2 a3 u ((i + 1 : Nat) : Int))) (Sum.inl ()) := fun e he hp => by
        rw [hp] at hpk
        exact Ev.bind hpk (Ev.iteF he (hgo u hf))
      by_cases hbad : rightL u a0 = false ∨ a3.getD i 0 < 1 ∨ a2 < 0
      · exact herr 1 (by decide) (by unfold pickL; rw [if_pos hbad])
      · by_cases hfr : (frees a0 u.length 0 : Int) < a3.getD i 0
        · exact herr 180 (by decide) (by unfold pickL; rw [if_neg hbad, if_pos hfr])
        · by_cases hk : ((AA u a0 a2).length : Int) < a3.getD i 0
          · exact herr 70 (by decide) (by unfold pickL; rw [if_neg hbad, if_neg hfr, if_pos hk])
          · rw [show pickL u a0 a2 (a3.getD i 0) = (((SS u a0 a2).take (a3.getD i 0).toNat).map (·.id), 0) from by unfold pickL; rw [if_neg hbad, if_neg hfr, if_neg hk]] at hpk
            refine Ev.bind hpk (Ev.iteT rfl ?_)
            have hperm := Heap.isort_perm (lt := ltH) (AA u a0 a2)
            have hSl : (SS u a0 a2).length = (AA u a0 a2).length := hperm.length_eq
            have hal : (AA u a0 a2).length ≤ frees a0 u.length 0 ∧ frees a0 u.length 0 ≤ u.length := ables_len u a0 a2 u.length 0
            have hTl : ((SS u a0 a2).take (a3.getD i 0).toNat).length = (a3.getD i 0).toNat := by rw [List.length_take]; omega
            obtain ⟨u', g1, g2, g3⟩ := fair_l3 (a3.getD i 0).toNat ((SS u a0 a2).take (a3.getD i 0).toNat) a0.length h8 (by omega) hTl ((SS_ids u a0 a2).sublist (List.take_sublist _ _)) (fun h hh => by
                obtain ⟨_, j, z2, _, z3, _, _⟩ := ables_mem u a0 a2 _ _ h (hperm.mem_iff.1 (List.mem_of_mem_take hh))
                exact ⟨j, z2, by omega⟩) _ 0 u rfl (Nat.zero_le _) hlen (fun w hw => by
                have := hf.lo w hw
                have := hf.hi w hw
                omega)
            refine Ev.bind g1 ?_
            rw [List.drop_zero] at g3
            have hf' : Fair a0 a1 ((i : Int) + 1) u' := fair_step a0 a1 a2 (i : Int) h8 u u' hf _ g2 g3
            have hl4 := fair_l4 a0 a1 ((i : Int) + 1) (by omega) h8 u' hf' a0.length 0 (by omega) (by omega)
            refine Ev.bind (g := fun k o_ => sumE o_ (fun _ => juratlaw18_CrewFair.l2 k a0 a1 a2 a3 u' ((i + 1 : Nat) : Int)) (fun p_ => some (Sum.inr p_))) hl4 ?_
            exact ih (i + 1) u' (by omega) (by omega) (by simpa using hf')
    refine Ev.succ (main.congr fun k => ?_)
    simp only [juratlaw18_CrewFair.l2, if_pos h1, if_pos h2, if_pos h3, if_pos h4, Int.toNat_natCast]
theorem CrewFair (a0 : List Bool) (a1 : Int) (a2 : Int) (a3 : List Int) (h0 : ok23 a0) (h1 : (Lit.int .i64 a1).wf = true) (h2 : (Lit.int .i64 a2).wf = true) (h3 : ok22 a3) : ∃ k, juratlaw18_CrewFair.f k a0 a1 a2 a3 = some true := by
  refine Ev.one ?_
  have haw : Ev (fun k => (juratlaw18_awake.f k).bind fun r26 => some r26) true := Ev.bind (g := fun _ r => some r) awake_f (Ev.pure _)
  unfold juratlaw18_CrewFair.f
  by_cases hbig : (a0.length : Int) > 8 ∨ (a3.length : Int) > 100 ∨ a1 < 0 ∨ a1 > 1000
  · refine Ev.bind (f := fun _ => _) (a := true) ?_ (Ev.iteT rfl haw)
    refine (Ev.pure true).congr fun k => ?_
    by_cases g1 : (a0.length : Int) > 8
    · rw [if_pos g1]
    · rw [if_neg g1]
      by_cases g2 : (a3.length : Int) > 100
      · rw [if_pos g2]
      · rw [if_neg g2]
        by_cases g3 : a1 < 0
        · rw [if_pos g3]
        · rw [if_neg g3, decide_eq_true (by omega : a1 > 1000)]
  · have g1 : ¬ (a0.length : Int) > 8 := fun h => hbig (.inl h)
    have g2 : ¬ (a3.length : Int) > 100 := fun h => hbig (.inr (.inl h))
    have g3 : ¬ a1 < 0 := fun h => hbig (.inr (.inr (.inl h)))
    have g4 : ¬ a1 > 1000 := fun h => hbig (.inr (.inr (.inr h)))
    refine Ev.bind (f := fun _ => _) (a := false) (Ev.iteF g1 (Ev.iteF g2 (Ev.iteF g3 (by rw [decide_eq_false g4]; exact Ev.pure _)))) (Ev.iteF (by simp) ?_)
    refine Ev.iteT (by omega) ?_
    obtain ⟨u, q1, q2, q3⟩ := fair_l1 a1 _ 0 (List.replicate (a0.length : Int).toNat (0 : Int)) rfl (Nat.zero_le _) (by rw [List.length_replicate, Int.toNat_natCast]; omega)
    rw [List.length_replicate, Int.toNat_natCast] at q2 q3
    refine Ev.bind q1 ?_
    have hall : ∀ w : Nat, w < a0.length → u.getD w 0 = a1 := fun w hw => by rw [q3 w hw, if_pos (Nat.zero_le _)]
    have hf : Fair a0 a1 ((0 : Nat) : Int) u := ⟨q2, fun w hw _ => hall w hw, fun w hw => by rw [hall w hw]; omega, fun w hw => by rw [hall w hw]; omega, fun v w hv hw _ _ => by rw [hall v hv, hall w hw]; omega⟩
    have hl2 := fair_l2 a0 a1 a2 (by omega) a3 (by omega) _ 0 u rfl (Nat.zero_le _) hf
    exact Ev.bind (g := fun k o_ => sumE o_ (fun _ => (juratlaw18_awake.f k ).bind fun r10070 => some r10070) (fun p_ => some p_)) hl2 haw
end Go.Proofs.Ytcmoclekbifhbaa.Pure
