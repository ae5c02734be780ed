/- Plain laws of proofs: the document's example; how long proofs are. -/
import Derived.Test.YthdlfclkcdnenaaDoorUe
import Derived.Test.YthdlfclkcdnenaaDoorGg
import Derived.KernelRfl
set_option linter.unusedSimpArgs false
set_option linter.unusedVariables false
namespace Go.Proofs.YthdlfclkcdnenaaDoor.Pure
open Go.WG Go.Proofs.YthdlfclkcdnenaaDoor
theorem leaf1 (k : Nat) : proof_Leaf.f (k + 80) [1] = some [180, 19, 244, 125, 19, 238, 47, 230, 200, 69, 178, 238, 20, 26, 248, 29, 232, 88, 223, 78, 197, 73, 165, 139, 121, 112, 187, 150, 100, 91, 200, 210] := by kernel_rfl
theorem leaf2 (k : Nat) : proof_Leaf.f (k + 80) [2] = some [252, 240, 166, 199, 0, 221, 19, 226, 116, 182, 251, 168, 222, 234, 141, 217, 178, 110, 78, 237, 222, 52, 149, 113, 124, 172, 132, 8, 201, 197, 23, 127] := by kernel_rfl
theorem leaf_ne : leafD [1] ≠ leafD [2] := by
  obtain ⟨K1, h1⟩ := leaf_f [1] (by simp)
  obtain ⟨K2, h2⟩ := leaf_f [2] (by simp)
  have e1 := h1 (K1 + 80) (by omega)
  have e2 := h2 (K2 + 80) (by omega)
  simp only at e1 e2
  rw [leaf1] at e1
  rw [leaf2] at e2
  injection e1 with e1
  injection e2 with e2
  rw [← e1, ← e2]
  decide
theorem sp_two : sp 2 = 1 := by decide +kernel
theorem sp_three : sp 3 = 2 := by decide +kernel
theorem awake8_ev : Ev (fun k => juratlaw08_awake.f k) true := by
  have h1 := leaf_f [1] (by simp)
  have h2 := leaf_f [2] (by simp)
  have h3 := leaf_f [3] (by simp)
  have hne := leaf_ne
  have l1 := leafD_len [1] (by simp)
  have l2 := leafD_len [2] (by simp)
  have l3 := leafD_len [3] (by simp)
  generalize leafD [1] = a at *
  generalize leafD [2] = b at *
  generalize leafD [3] = c at *
  have hall : AllD [a, b, c] := fun d hd => by
    simp only [List.mem_cons, List.not_mem_nil, or_false] at hd
    rcases hd with rfl | rfl | rfl <;> assumption
  have hc := consist_f [a, b, c] 2 (by simp) (by simp) hall
  have hcon : conD [a, b, c] 2 = [c] := by
    unfold conD
    rw [if_neg (by decide)]
    show partF (2 + 1) [a, b, c] 2 true = _
    unfold partF
    rw [show ([a, b, c] : List (List Int)).length = 3 from rfl, sp_three, if_neg (by decide), if_pos (by decide)]
    show partF (1 + 1) [a, b] 2 true ++ [rootD [c]] = _
    unfold partF
    rw [show ([a, b] : List (List Int)).length = 2 from rfl, if_pos (by decide), if_pos rfl, rootD_one]
    rfl
  have hr := root_f [a, b, c] (by simp) hall
  have hroot : rootD [a, b, c] = nodeD (nodeD a b) c := by
    rw [rootD_two (by simp), show ([a, b, c] : List (List Int)).length = 3 from rfl, sp_three]
    show nodeD (rootD [a, b]) (rootD [c]) = _
    rw [rootD_two (l := [a, b]) (by simp), show ([a, b] : List (List Int)).length = 2 from rfl, sp_two]
    rfl
  have hn1 := node_f a b l1 l2
  have hn2 := node_f (nodeD a b) c (nodeD_len a b l1 l2) l3
  rw [hcon] at hc
  rw [hroot] at hr
  obtain ⟨K1, h1⟩ := h1
  obtain ⟨K2, h2⟩ := h2
  obtain ⟨K3, h3⟩ := h3
  obtain ⟨K4, hc⟩ := hc
  obtain ⟨K5, hr⟩ := hr
  obtain ⟨K6, hn1⟩ := hn1
  obtain ⟨K7, hn2⟩ := hn2
  refine ⟨K1 + K2 + K3 + K4 + K5 + K6 + K7, fun k hk => ?_⟩
  have a1 := h1 k (by omega)
  have a2 := h2 k (by omega)
  have a3 := h3 k (by omega)
  have a4 := hc k (by omega)
  have a5 := hr k (by omega)
  have a6 := hn1 k (by omega)
  have a7 := hn2 k (by omega)
  simp only at a1 a2 a3 a4 a5 a6 a7
  rw [show ((2 : Nat) : Int) = 2 from rfl] at a4
  simp only [juratlaw08_awake.f, a1, a2, a3, Option.bind_some, a4, a5, a6, a7, if_true]
  simp [hne]
theorem own8_f (k : Nat) (l : List (List Int)) (h : l.length ≤ 1000000) : juratlaw08_own.f k l = some l := by
  simp only [juratlaw08_own.f]
  rw [if_pos (by omega)]
/-- A number's binary digits. -/
def dg (x : Nat) : Nat := if x = 0 then 0 else Nat.log2 x + 1
theorem dg_half {x : Nat} (h : 0 < x) : dg x = dg (x / 2) + 1 := by
  unfold dg
  rw [if_neg (by omega)]
  by_cases h1 : x / 2 = 0
  · rw [if_pos h1]
    have : x = 1 := by omega
    subst this; decide +kernel
  · rw [if_neg h1, Nat.log2_def x, if_pos (by omega)]
theorem dg_le {x h : Nat} (hx : x < 2 ^ h) : dg x ≤ h := by
  unfold dg
  split
  · omega
  · rename_i h0
    have h3 : 2 ^ Nat.log2 x ≤ x := Nat.log2_self_le h0
    exact (Nat.pow_lt_pow_iff_right (by decide : 1 < 2)).1 (Nat.lt_of_le_of_lt h3 hx)
theorem incF_dg : ∀ (n : Nat) (l : List (List Int)) (i : Nat), (incF n l i).length ≤ dg (l.length - 1) := by
  intro n
  induction n with
  | zero => intro l i; exact Nat.zero_le _
  | succ n ih =>
    intro l i
    unfold incF
    by_cases hone : l.length ≤ 1
    · rw [if_pos hone]; exact Nat.zero_le _
    · rw [if_neg hone]
      have hs := sp_facts (n := l.length) (by omega)
      have hd : dg (l.length - 1) = Nat.log2 (l.length - 1) + 1 := by unfold dg; rw [if_neg (by omega)]
      split
      · rw [List.length_append, List.length_singleton]
        have h1 := ih (l.take (sp l.length)) i
        have h2 : dg ((l.take (sp l.length)).length - 1) ≤ Nat.log2 (l.length - 1) := dg_le (by rw [List.length_take]; show _ < sp l.length; omega)
        omega
      · rw [List.length_append, List.length_singleton]
        have h1 := ih (l.drop (sp l.length)) (i - sp l.length)
        have h2 : dg ((l.drop (sp l.length)).length - 1) ≤ Nat.log2 (l.length - 1) := dg_le (by rw [List.length_drop]; show _ < sp l.length; omega)
        omega
theorem partF_dg : ∀ (n : Nat) (l : List (List Int)) (m : Nat) (w : Bool), 0 < m → (partF n l m w).length ≤ dg (l.length - 1) + 1 := by
  intro n
  induction n with
  | zero => intro l m w _; exact Nat.zero_le _
  | succ n ih =>
    intro l m w hm
    unfold partF
    by_cases hone : l.length ≤ m
    · rw [if_pos hone]
      split <;> simp
    · rw [if_neg hone]
      have hs := sp_facts (n := l.length) (by omega)
      have hd : dg (l.length - 1) = Nat.log2 (l.length - 1) + 1 := by unfold dg; rw [if_neg (by omega)]
      by_cases hms : m ≤ sp l.length
      · rw [if_pos hms, List.length_append, List.length_singleton]
        have h1 := ih (l.take (sp l.length)) m w hm
        have h2 : dg ((l.take (sp l.length)).length - 1) ≤ Nat.log2 (l.length - 1) := dg_le (by rw [List.length_take]; show _ < sp l.length; omega)
        omega
      · rw [if_neg hms, List.length_append, List.length_singleton]
        have h1 := ih (l.drop (sp l.length)) (m - sp l.length) false (by omega)
        have h2 : dg ((l.drop (sp l.length)).length - 1) ≤ Nat.log2 (l.length - 1) := dg_le (by rw [List.length_drop]; show _ < sp l.length; omega)
        omega
end Go.Proofs.YthdlfclkcdnenaaDoor.Pure
