/- Plain laws of proofs: the document's example; how long proofs are. -/
import Derived.Test.YthdlfclkcdnenaaDoorRUe
import Derived.Test.YthdlfclkcdnenaaDoorRGg
import Derived.KernelRfl
set_option linter.unusedSimpArgs false
set_option linter.unusedVariables false
namespace Go.Proofs.YthdlfclkcdnenaaDoor.Pure
open Go.WG Go.Proofs.YthdlfclkcdnenaaDoor
theorem leaf1 (k : Nat) : proof_Leaf.f (k + 80) [1] = some [180, 19, 244, 125, 19, 238, 47, 230, 200, 69, 178, 238, 20, 26, 248, 29, 232, 88, 223, 78, 197, 73, 165, 139, 121, 112, 187, 150, 100, 91, 200, 210] := by kernel_rfl
theorem leaf2 (k : Nat) : proof_Leaf.f (k + 80) [2] = some [252, 240, 166, 199, 0, 221, 19, 226, 116, 182, 251, 168, 222, 234, 141, 217, 178, 110, 78, 237, 222, 52, 149, 113, 124, 172, 132, 8, 201, 197, 23, 127] := by kernel_rfl
theorem leaf_ne : leafD [1] ≠ leafD [2] := by
  obtain ⟨K1, h1⟩ := leaf_f [1] (by simp)
  obtain ⟨K2, h2⟩ := leaf_f [2] (by simp)
  have e1 := h1 (K1 + 80) (by omega)
  have e2 := h2 (K2 + 80) (by omega)
  simp only at e1 e2
  rw [leaf1] at e1
  rw [leaf2] at e2
  injection e1 with e1
  injection e2 with e2
  rw [← e1, ← e2]
  decide
theorem sp_two : sp 2 = 1 := by decide +kernel
theorem sp_three : sp 3 = 2 := by decide +kernel
theorem awake8_ev : Ev (fun k => juratlaw08_awake.f k) true := by
  have h1 := leaf_f [1] (by simp)
  have h2 := leaf_f [2] (by simp)
  have h3 := leaf_f [3] (by simp)
  have hne := leaf_ne
  have l1 := leafD_len [1] (by simp)
  have l2 := leafD_len [2] (by simp)
  have l3 := leafD_len [3] (by simp)
  generalize leafD [1] = a at *
  generalize leafD [2] = b at *
  generalize leafD [3] = c at *
  have hall : AllD [a, b, c] := fun d hd => by
    simp only [List.mem_cons, List.not_mem_nil, or_false] at hd
    rcases hd with rfl | rfl | rfl <;> assumption
  have hc := consist_f [a, b, c] 2 (by simp) (by simp) hall
  have hcon : conD [a, b, c] 2 = [c] := by
    unfold conD
    rw [if_neg (by decide)]
    show partF (2 + 1) [a, b, c] 2 true = _
    unfold partF
    rw [show ([a, b, c] : List (List Int)).length = 3 from rfl, sp_three, if_neg (by decide), if_pos (by decide)]
    show partF (1 + 1) [a, b] 2 true ++ [rootD [c]] = _
    unfold partF
    rw [show ([a, b] : List (List Int)).length = 2 from rfl, if_pos (by decide), if_pos rfl, rootD_one]
    rfl
  have hr := root_f [a, b, c] (by simp) hall
  have hroot : rootD [a, b, c] = nodeD (nodeD a b) c := by
    rw [rootD_two (by simp), show ([a, b, c] : List (List Int)).length = 3 from rfl, sp_three]
    show nodeD (rootD [a, b]) (rootD [c]) = _
    rw [rootD_two (l := [a, b]) (by simp), show ([a, b] : List (List Int)).length = 2 from rfl, sp_two]
    rfl
  have hn1 := node_f a b l1 l2
  have hn2 := node_f (nodeD a b) c (nodeD_len a b l1 l2) l3
  rw [hcon] at hc
  rw [hroot] at hr
  obtain ⟨K1, h1⟩ := h1
  obtain ⟨K2, h2⟩ := h2
  obtain ⟨K3, h3⟩ := h3
  obtain ⟨K4, hc⟩ := hc
  obtain ⟨K5, hr⟩ := hr
  obtain ⟨K6, hn1⟩ := hn1
  obtain ⟨K7, hn2⟩ := hn2
  refine ⟨K1 + K2 + K3 + K4 + K5 + K6 + K7, fun k hk => ?_⟩
  have a1 := h1 k (by omega)
  have a2 := h2 k (by omega)
  have a3 := h3 k (by omega)
  have a4 := hc k (by omega)
  have a5 := hr k (by omega)
  have a6 := hn1 k (by omega)
  have a7 := hn2 k (by omega)
  simp only at a1 a2 a3 a4 a5 a6 a7
  rw [show ((2 : Nat) : Int) = 2 from rfl] at a4
  simp only [juratlaw08_awake.f, a1, a2, a3, Option.bind_some, a4, a5, a6, a7, if_true]
  simp [hne]
theorem own8_f (k : Nat) (l : List (List Int)) (h : l.length ≤ 1000000) : juratlaw08_own.f k l = some l := by
  simp only [juratlaw08_own.f]
  rw [if_pos (by omega)]
end Go.Proofs.YthdlfclkcdnenaaDoor.Pure
