/- The law LedgerConsists, as a plain function: true for every input. -/
import Derived.Test.YthdlfclkcdnenaaDoorUl
import Derived.Test.YthdlfclkcdnenaaDoorUi
import Derived.Test.YthdlfclkcdnenaaDoorPConsists
import Derived.Test.YthdlfclkcdnenaaDoorGr
set_option linter.unusedSimpArgs false
set_option linter.unusedVariables false
namespace Go.Proofs.YthdlfclkcdnenaaDoor.Pure
open Go.WG Go.Proofs.YthdlfclkcdnenaaDoor
theorem LedgerConsists (a0 : List (List Int)) (a1 : Int) (a2 : Int) (h0 : ok49 a0) (h1 : (Lit.int .i64 a1).wf = true) (h2 : (Lit.int .i64 a2).wf = true) : ∃ k, juratlaw09_LedgerConsists.f k a0 a1 a2 = some true := by
  rcases made_f a0 (fun b hb => reach28 (h0.2 b hb).1) with ⟨hlen, hs, hM⟩ | ⟨L', hM⟩
  · have en : wi64 ((a0.length : Int) + 1) = ((a0.length + 1 : Nat) : Int) := wi64_succ (by omega)
    obtain ⟨n, hn, eni⟩ := pickI a2 (n := a0.length + 1) (by omega) (by omega)
    have en2 : wi64 ((n : Int) + 1) = ((n + 1 : Nat) : Int) := wi64_succ (by omega)
    obtain ⟨m, hm, emi⟩ := pickI a1 (n := n + 1) (by omega) (by omega)
    have hw1 := wu64_pos (n := a0.length + 1) (by omega) (by omega)
    have hw2 := wu64_pos (n := n + 1) (by omega) (by omega)
    have hH1 := head_f a0 m (by omega) (by omega) hs
    have hH2 := head_f a0 n (by omega) (by omega) hs
    have hC := lconsist_f a0 m n (by omega) (by omega) (by omega) hs
    have hll : ((a0.map leafD).take n).length = n := by rw [List.length_take, List.length_map]; omega
    have hok := consistent_any ((a0.map leafD).take n) m (by omega) (by omega) (hs.all.take n)
    rw [hll, List.take_take, Nat.min_eq_left (by omega)] at hok
    obtain ⟨K1, hM⟩ := hM
    obtain ⟨K2, hA⟩ := awake9_ev
    obtain ⟨K3, hH1⟩ := hH1
    obtain ⟨K4, hH2⟩ := hH2
    obtain ⟨K5, hC⟩ := hC
    obtain ⟨K6, hok⟩ := hok
    refine ⟨K1 + K2 + K3 + K4 + K5 + K6, ?_⟩
    generalize hkk : K1 + K2 + K3 + K4 + K5 + K6 = k
    have b1 := hM k (by omega)
    have b2 := hA k (by omega)
    have b3 := hH1 k (by omega)
    have b4 := hH2 k (by omega)
    have b5 := hC k (by omega)
    have b6 := hok k (by omega)
    simp only at b1 b2 b3 b4 b5 b6
    simp only [juratlaw09_LedgerConsists.f, b1, Option.bind_some, if_true, en, if_pos hw1, eni, en2, if_pos hw2, emi, b3, b4, b5, b6, b2]
  · obtain ⟨K1, hM⟩ := hM
    obtain ⟨K2, hA⟩ := awake9_ev
    refine ⟨K1 + K2, ?_⟩
    generalize hkk : K1 + K2 = k
    have b1 := hM k (by omega)
    have b2 := hA k (by omega)
    simp only at b1 b2
    simp only [juratlaw09_LedgerConsists.f, b1, Option.bind_some, Bool.false_eq_true, if_false, b2]
end Go.Proofs.YthdlfclkcdnenaaDoor.Pure
