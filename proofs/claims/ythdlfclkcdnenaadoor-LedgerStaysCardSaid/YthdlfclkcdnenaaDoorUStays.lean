/- The law LedgerStays, as a plain function: true for every input. -/
import Derived.Test.YthdlfclkcdnenaaDoorUj
import Derived.Test.YthdlfclkcdnenaaDoorPStays
import Derived.Test.YthdlfclkcdnenaaDoorGr
set_option linter.unusedSimpArgs false
set_option linter.unusedVariables false
namespace Go.Proofs.YthdlfclkcdnenaaDoor.Pure
open Go.WG Go.Proofs.YthdlfclkcdnenaaDoor
theorem stays_l1 (a1 : List (List Int)) (hb : a1.length ≤ 100) (hr : ∀ b ∈ a1, b.length ≤ 140737488355328) : ∀ (m j : Nat) (L M : List (List Int)), a1.length - j = m → j ≤ a1.length → L.length + M.length ≤ 100 + j → AllS (L ++ M) →
    (∃ M', (L ++ M').length ≤ 200 ∧ AllS (L ++ M') ∧ Ev (fun k => juratlaw09_LedgerStays.l1 k a1 (j : Int) (ledgerOf (L ++ M))) (Sum.inl (ledgerOf (L ++ M')))) ∨ Ev (fun k => juratlaw09_LedgerStays.l1 k a1 (j : Int) (ledgerOf (L ++ M))) (Sum.inr true) := by
  intro m
  induction m with
  | zero =>
    intro j L M hm hj hl hs
    refine .inl ⟨M, by rw [List.length_append]; omega, hs, Ev.succ ((Ev.pure _).congr fun k => ?_)⟩
    have : ¬ (j : Int) < (a1.length : Int) := by omega
    simp only [juratlaw09_LedgerStays.l1, if_neg this]
  | succ m ih =>
    intro j L M hm hj hl hs
    have hlt : j < a1.length := by omega
    have h1 : (j : Int) < (a1.length : Int) := by omega
    have h2 : 0 ≤ (j : Int) ∧ (j : Int) < (a1.length : Int) := by omega
    have hmem : a1.getD j [] ∈ a1 := by rw [List.getD_eq_getElem?_getD, List.getElem?_eq_getElem hlt, Option.getD_some]; exact List.getElem_mem hlt
    by_cases hlong : (a1.getD j []).length > 500
    · refine .inr (Ev.succ (Ev.congr (Ev.bind (g := fun _ r615 => some (Sum.inr r615)) awake9_ev (Ev.pure _)) fun k => ?_))
      have g1 : ((a1.getD j []).length : Int) > 500 := by omega
      simp only [juratlaw09_LedgerStays.l1, if_pos h1, if_pos h2, Int.toNat_natCast, if_pos g1]
    · have g1 : ¬ ((a1.getD j []).length : Int) > 500 := by omega
      have ha := append_f (L ++ M) (a1.getD j []) (by rw [List.length_append]; omega)
      rw [if_neg (by omega), if_neg (by rw [List.length_append]; omega), List.append_assoc] at ha
      have hs2 : AllS (L ++ (M ++ [a1.getD j []])) := fun b hb' => by
        rw [← List.append_assoc] at hb'
        rcases List.mem_append.1 hb' with h | h
        · exact hs b h
        · rw [List.mem_singleton.1 h]; omega
      have step : ∀ r, Ev (fun k => juratlaw09_LedgerStays.l1 k a1 ((j + 1 : Nat) : Int) (ledgerOf (L ++ (M ++ [a1.getD j []])))) r → Ev (fun k => juratlaw09_LedgerStays.l1 k a1 (j : Int) (ledgerOf (L ++ M))) r := fun r hr' => by
        refine Ev.succ (Ev.congr (Ev.bind (g := fun k (x : Int × Int × TLedger) => juratlaw09_LedgerStays.l1 k a1 (wi64 ((j : Int) + 1)) x.2.2) ha (hr'.congr fun k => ?_)) fun k => ?_)
        · simp only [wi64_succ (show j < 9223372036854775807 by omega)]
        · simp only [juratlaw09_LedgerStays.l1, if_pos h1, if_pos h2, Int.toNat_natCast, if_neg g1, own9_f k _ (hr _ hmem), Option.bind_some]
      rcases ih (j + 1) L (M ++ [a1.getD j []]) (by omega) (by omega) (by rw [List.length_append, List.length_singleton]; omega) hs2 with ⟨M', q1, q2, q3⟩ | q
      · exact .inl ⟨M', q1, q2, step _ q3⟩
      · exact .inr (step _ q)
theorem stays_l2 (a0 M : List (List Int)) (hb : a0.length ≤ 100) (hs : AllS (a0 ++ M)) : ∀ (m j : Nat), a0.length - j = m → j ≤ a0.length → Ev (fun k => juratlaw09_LedgerStays.l2 k a0 (ledgerOf (a0 ++ M)) (j : Int)) (Sum.inl ()) := by
  intro m
  induction m with
  | zero =>
    intro j hm hj
    refine Ev.succ ((Ev.pure _).congr fun k => ?_)
    have : ¬ (j : Int) < (a0.length : Int) := by omega
    simp only [juratlaw09_LedgerStays.l2, if_neg this]
  | succ m ih =>
    intro j hm hj
    have hlt : j < a0.length := by omega
    have h1 : (j : Int) < (a0.length : Int) := by omega
    have h2 : 0 ≤ (j : Int) ∧ (j : Int) < (a0.length : Int) := by omega
    have hlf := fun k => lleaf_f k (a0 ++ M) j (by rw [List.length_append]; omega) hs
    have hg : (a0 ++ M).getD j [] = a0.getD j [] := by
      rw [List.getD_eq_getElem?_getD, List.getElem?_append_left hlt, List.getD_eq_getElem?_getD]
    have hlen : (a0.getD j []).length ≤ 4096 := hs _ (List.mem_append.2 (.inl (by rw [List.getD_eq_getElem?_getD, List.getElem?_eq_getElem hlt, Option.getD_some]; exact List.getElem_mem hlt)))
    have hsm := same1_f (a0.getD j []) (a0.getD j []) (by omega)
    rw [decide_eq_true rfl] at hsm
    refine Ev.succ (Ev.congr (Ev.bind (g := fun k g975 => if g975 = true then (some (Sum.inr false)) else (juratlaw09_LedgerStays.l2 k a0 (ledgerOf (a0 ++ M)) (wi64 ((j : Int) + 1)))) (Ev.bind (g := fun _ r997 => some (!r997)) hsm (Ev.pure _)) (Ev.iteF (by simp) ((ih (j + 1) (by omega) (by omega)).congr fun k => ?_))) fun k => ?_)
    · simp only [wi64_succ (show j < 9223372036854775807 by omega)]
    · simp only [juratlaw09_LedgerStays.l2, if_pos h1, hlf, Option.bind_some, if_true, if_pos h2, Int.toNat_natCast, hg]
theorem LedgerStays (a0 : List (List Int)) (a1 : List (List Int)) (a2 : Int) (a3 : Int) (h0 : ok49 a0) (h1 : ok49 a1) (h2 : (Lit.int .i64 a2).wf = true) (h3 : (Lit.int .i64 a3).wf = true) : ∃ k, juratlaw09_LedgerStays.f k a0 a1 a2 a3 = some true := by
  have skip : ∀ L' b, Ev (fun k => juratlaw09_made.f k a0) (ledgerOf L', b) → (b = false ∨ a1.length > 100) → ∃ k, juratlaw09_LedgerStays.f k a0 a1 a2 a3 = some true := fun L' b hM hb => by
    obtain ⟨K1, hM⟩ := hM
    obtain ⟨K2, hA⟩ := awake9_ev
    refine ⟨K1 + K2, ?_⟩
    generalize hkk : K1 + K2 = k
    have b1 := hM k (by omega)
    have b2 := hA k (by omega)
    simp only at b1 b2
    have hg : (if b = true then some (decide ((a1.length : Int) > 100)) else some true) = some true := by
      rcases hb with hb | hb
      · subst hb; rfl
      · have : decide ((a1.length : Int) > 100) = true := decide_eq_true (by omega)
        rw [this]; cases b <;> rfl
    simp only [juratlaw09_LedgerStays.f, b1, Option.bind_some, hg, if_true, b2]
  rcases made_f a0 (fun b hb => reach28 (h0.2 b hb).1) with ⟨hlen, hs, hM⟩ | ⟨L', hM⟩
  · by_cases hl1 : a1.length > 100
    · exact skip _ _ hM (.inr hl1)
    · have en : wi64 ((a0.length : Int) + 1) = ((a0.length + 1 : Nat) : Int) := wi64_succ (by omega)
      obtain ⟨n, hn, eni⟩ := pickI a3 (n := a0.length + 1) (by omega) (by omega)
      have hw := wu64_pos (n := a0.length + 1) (by omega) (by omega)
      obtain ⟨r1, hr1, hI⟩ := include_any 0 a0 a2 n (by omega) (by omega) hs
      obtain ⟨r2, hr2, hC⟩ := consist_any 0 a0 a2 n (by omega) (by omega) hs
      obtain ⟨u1, v1⟩ := r1
      obtain ⟨u2, v2⟩ := r2
      simp only at hr1 hr2
      have hH := head_f a0 n (by omega) (by omega) hs
      have hI0 := hI [] (by rw [List.append_nil]; omega) (by rw [List.append_nil]; exact hs)
      have hC0 := hC [] (by rw [List.append_nil]; omega) (by rw [List.append_nil]; exact hs)
      rw [List.append_nil] at hI0 hC0
      have hS1 := same5_f u1 u1 (by omega)
      have hS2 := same5_f u2 u2 (by omega)
      rw [decide_eq_true rfl] at hS1 hS2
      have hg : (if (true : Bool) = true then some (decide ((a1.length : Int) > 100)) else some true) = some false := by
        rw [if_pos rfl, decide_eq_false (by omega)]
      have hd1 : decide ((a1.length : Int) > 100) = false := decide_eq_false (by omega)
      obtain ⟨K1, hM⟩ := hM
      obtain ⟨K2, hA⟩ := awake9_ev
      obtain ⟨K3, hH⟩ := hH
      obtain ⟨K4, hI0⟩ := hI0
      obtain ⟨K5, hC0⟩ := hC0
      rcases stays_l1 a1 (by omega) (fun b hb => reach28 (h1.2 b hb).1) a1.length 0 a0 [] rfl (Nat.zero_le _) (by simp; omega) (by rw [List.append_nil]; exact hs) with ⟨M', q1, q2, q3⟩ | q3
      · rw [List.append_nil] at q3
        have hH' := head_f (a0 ++ M') n (by rw [List.length_append]; omega) (by omega) q2
        rw [take_grown a0 M' (by omega)] at hH'
        have hI' := hI M' (by omega) q2
        have hC' := hC M' (by omega) q2
        have hl2 := stays_l2 a0 M' hlen q2 a0.length 0 rfl (Nat.zero_le _)
        obtain ⟨K6, q3⟩ := q3
        obtain ⟨K7, hH'⟩ := hH'
        obtain ⟨K8, hI'⟩ := hI'
        obtain ⟨K9, hC'⟩ := hC'
        obtain ⟨K10, hS1⟩ := hS1
        obtain ⟨K11, hS2⟩ := hS2
        obtain ⟨K12, hl2⟩ := hl2
        refine ⟨K1 + K2 + K3 + K4 + K5 + K6 + K7 + K8 + K9 + K10 + K11 + K12, ?_⟩
        generalize hkk : K1 + K2 + K3 + K4 + K5 + K6 + K7 + K8 + K9 + K10 + K11 + K12 = k
        have b1 := hM k (by omega)
        have b2 := hA k (by omega)
        have b3 := hH k (by omega)
        have b4 := hI0 k (by omega)
        have b5 := hC0 k (by omega)
        have b6 := q3 k (by omega)
        have b7 := hH' k (by omega)
        have b8 := hI' k (by omega)
        have b9 := hC' k (by omega)
        have b10 := hS1 k (by omega)
        have b11 := hS2 k (by omega)
        have b12 := hl2 k (by omega)
        simp only at b1 b2 b3 b4 b5 b6 b7 b8 b9 b10 b11 b12
        rw [show ((0 : Nat) : Int) = 0 from rfl] at b6 b12
        simp only [juratlaw09_LedgerStays.f, b1, Option.bind_some, hd1, if_true, Bool.false_eq_true, if_false, en, if_pos hw, eni, b3, b4, b5, b6, sumE, b7, b8, b9, if_true, and_self, b10, b11, b12, b2, decide_true, Bool.not_true]
      · rw [List.append_nil] at q3
        obtain ⟨K6, q3⟩ := q3
        refine ⟨K1 + K2 + K3 + K4 + K5 + K6, ?_⟩
        generalize hkk : K1 + K2 + K3 + K4 + K5 + K6 = k
        have b1 := hM k (by omega)
        have b2 := hA k (by omega)
        have b3 := hH k (by omega)
        have b4 := hI0 k (by omega)
        have b5 := hC0 k (by omega)
        have b6 := q3 k (by omega)
        simp only at b1 b2 b3 b4 b5 b6
        rw [show ((0 : Nat) : Int) = 0 from rfl] at b6
        simp only [juratlaw09_LedgerStays.f, b1, Option.bind_some, hd1, if_true, Bool.false_eq_true, if_false, en, if_pos hw, eni, b3, b4, b5, b6, sumE]
  · exact skip _ _ hM (.inl rfl)
end Go.Proofs.YthdlfclkcdnenaaDoor.Pure
