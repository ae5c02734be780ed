/- The law ProofGrows, as a plain function: true for every input. -/
import Derived.Test.YthdlfclkcdnenaaDoorUf
import Derived.Test.YthdlfclkcdnenaaDoorPGrows
import Derived.Test.YthdlfclkcdnenaaDoorGr
set_option linter.unusedSimpArgs false
set_option linter.unusedVariables false
namespace Go.Proofs.YthdlfclkcdnenaaDoor.Pure
open Go.WG Go.Proofs.YthdlfclkcdnenaaDoor
/-- The power of two below. -/
theorem grows_l1 (l : List (List Int)) (h2 : 2 ≤ l.length) (hb : l.length ≤ 1000000) : ∀ (m h : Nat), l.length - 2 ^ h = m → 2 ^ h < l.length → Ev (fun k => juratlaw08_ProofGrows.l1 k l ((2 ^ h : Nat) : Int)) ((sp l.length : Nat) : Int) := by
  intro m
  induction m using Nat.strongRecOn with
  | ind m ih =>
    intro h hm hlt
    have hpos : 0 < 2 ^ h := Nat.two_pow_pos h
    have e1 : wi64 (2 * ((2 ^ h : Nat) : Int)) = ((2 ^ (h + 1) : Nat) : Int) := by rw [Nat.pow_succ, wi64_id (by omega) (by omega)]; omega
    by_cases hc : 2 ^ (h + 1) < l.length
    · have hI := ih (l.length - 2 ^ (h + 1)) (by rw [Nat.pow_succ] at *; omega) (h + 1) rfl hc
      have g1 : ((2 ^ (h + 1) : Nat) : Int) < (l.length : Int) := by omega
      refine Ev.succ (hI.congr fun k => ?_)
      simp only [juratlaw08_ProofGrows.l1, e1, if_pos g1]
    · have g1 : ¬ ((2 ^ (h + 1) : Nat) : Int) < (l.length : Int) := by omega
      have hs : sp l.length = 2 ^ h := by
        unfold sp
        rw [log2_unique (a := h) (by omega) (by omega)]
      rw [hs]
      refine Ev.succ ((Ev.pure _).congr fun k => ?_)
      simp only [juratlaw08_ProofGrows.l1, e1, if_neg g1]
theorem ProofGrows (a0 : List (List Int)) (a1 : List Int) (h0 : ok31 a0) (h1 : ok33 a1) : ∃ k, juratlaw08_ProofGrows.f k a0 a1 = some true := by
  have hall : AllD a0 := fun d hd => (h0.2 d hd).1
  have hd : a1.length = 32 := h1.1
  by_cases hb : (a0.length : Int) > 200 ∨ (a0.length : Int) < 2
  · have hg : (if (a0.length : Int) > 200 then (some true) else (some (decide ((a0.length : Int) < 2)))) = some true := by
      by_cases h2 : (a0.length : Int) > 200
      · rw [if_pos h2]
      · rw [if_neg h2, decide_eq_true (hb.resolve_left h2)]
    obtain ⟨K1, hr⟩ := root_f [a1] (by simp) (AllD.one hd)
    obtain ⟨K2, hA⟩ := awake8_ev
    refine ⟨K1 + K2, ?_⟩
    generalize hkk : K1 + K2 = k
    have b1 := hr k (by omega)
    have b2 := hA k (by omega)
    simp only at b1 b2
    rw [rootD_one] at b1
    simp only [juratlaw08_ProofGrows.f, hg, Option.bind_some, if_true, b1, b2]
  · have hlen : 2 ≤ a0.length ∧ a0.length ≤ 200 := by omega
    have hg : (if (a0.length : Int) > 200 then (some true) else (some (decide ((a0.length : Int) < 2)))) = some false := by
      rw [if_neg (fun h => hb (.inl h)), decide_eq_false (fun h => hb (.inr h))]
    have hs := sp_facts hlen.1
    have hL := grows_l1 a0 hlen.1 (by omega) _ 0 rfl (by simp; omega)
    have hr := root_f a0 (by omega) hall
    have hr2 := rootD_two hlen.1
    have hn2 : 2 * sp a0.length = a0.length → rootD (a0 ++ [a1]) = nodeD (rootD a0) a1 := fun he => by
      have hl : (a0 ++ [a1]).length = 2 * sp a0.length + 1 := by rw [List.length_append, List.length_singleton, he]
      have hsp : sp (2 * sp a0.length + 1) = 2 * sp a0.length := by
        show up2 (2 * sp a0.length) = _
        rw [up2_double hs.1]
        congr 1
        show 2 ^ Nat.log2 (2 ^ Nat.log2 (a0.length - 1)) = _
        rw [Nat.log2_two_pow]; rfl
      rw [rootD_two (l := a0 ++ [a1]) (by omega), hl, hsp, List.take_append_of_le_length (by omega), List.drop_append_of_le_length (by omega), he, List.take_of_length_le (Nat.le_refl _), List.drop_eq_nil_of_le (Nat.le_refl _)]
      rfl
    generalize hsp : sp a0.length = s at *
    have hra := root_f (a0.take s) (by rw [List.length_take]; omega) (hall.take s)
    have hrb := root_f (a0.drop s) (by rw [List.length_drop]; omega) (hall.drop s)
    have hno := node_f (rootD (a0.take s)) (rootD (a0.drop s)) (rootD_len _ _ rfl (hall.take s)) (rootD_len _ _ rfl (hall.drop s))
    rw [← hr2] at hno
    have hrc := root_f (a0 ++ [a1]) (by rw [List.length_append, List.length_singleton]; omega) (hall.append (AllD.one hd))
    have hnd := node_f (rootD a0) a1 (rootD_len _ _ rfl hall) hd
    obtain ⟨K1, hL⟩ := hL
    obtain ⟨K2, hr⟩ := hr
    obtain ⟨K3, hra⟩ := hra
    obtain ⟨K4, hrb⟩ := hrb
    obtain ⟨K5, hno⟩ := hno
    obtain ⟨K6, hrc⟩ := hrc
    obtain ⟨K7, hnd⟩ := hnd
    obtain ⟨K8, hA⟩ := awake8_ev
    refine ⟨K1 + K2 + K3 + K4 + K5 + K6 + K7 + K8, ?_⟩
    generalize hkk : K1 + K2 + K3 + K4 + K5 + K6 + K7 + K8 = k
    have b1 := hL k (by omega)
    have b2 := hr k (by omega)
    have b3 := hra k (by omega)
    have b4 := hrb k (by omega)
    have b5 := hno k (by omega)
    have b6 := hrc k (by omega)
    have b7 := hnd k (by omega)
    have b8 := hA k (by omega)
    simp only at b1 b2 b3 b4 b5 b6 b7 b8
    rw [show ((2 ^ 0 : Nat) : Int) = 1 from rfl] at b1
    have g1 : 0 ≤ (s : Int) ∧ (s : Int) ≤ (a0.length : Int) := by omega
    have g2 : 0 ≤ (s : Int) ∧ (s : Int) ≤ (a0.length : Int) ∧ (a0.length : Int) ≤ (a0.length : Int) := by omega
    have g3 : (a0.length + [a1].length) * 32 ≤ 140737488355328 := by rw [List.length_singleton]; omega
    have e1 : wi64 (2 * (s : Int)) = ((2 * s : Nat) : Int) := by rw [wi64_id (by omega) (by omega)]; omega
    simp only [juratlaw08_ProofGrows.f, hg, Option.bind_some, Bool.false_eq_true, if_false, b1, own8_f k a0 (by omega), b2, if_pos g1, if_pos g2, Int.toNat_natCast, own8_f k (a0.take s) (by rw [List.length_take]; omega), own8_f k (a0.drop s) (by rw [List.length_drop]; omega), b3, b4, b5, if_true, e1, if_pos g3]
    by_cases he : 2 * s = a0.length
    · have he' : ((2 * s : Nat) : Int) = (a0.length : Int) := by omega
      rw [hn2 he] at b6
      simp only [if_pos he', b6, b7, Option.bind_some, if_true, b8]
    · have he' : ¬ ((2 * s : Nat) : Int) = (a0.length : Int) := by omega
      simp only [if_neg he', b8, Option.bind_some]
end Go.Proofs.YthdlfclkcdnenaaDoor.Pure
