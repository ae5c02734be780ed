/- Plain laws of ledgers: what is told of the first n; ledgers that are made. -/
import Derived.Test.YthdlfclkcdnenaaDoorTUc
import Derived.Test.YthdlfclkcdnenaaDoorTUe
set_option linter.unusedSimpArgs false
set_option linter.unusedVariables false
namespace Go.Proofs.YthdlfclkcdnenaaDoor.Pure
open Go.WG Go.Proofs.YthdlfclkcdnenaaDoor
/-- Short leaves. -/
def AllS (L : List (List Int)) : Prop := ∀ b ∈ L, b.length ≤ 4096
theorem AllS.all {L : List (List Int)} (h : AllS L) : AllD (L.map leafD) := fun d hd => by
  obtain ⟨b, hb, rfl⟩ := List.mem_map.1 hd
  exact leafD_len b (Nat.le_trans (h b hb) (by decide))
theorem head_f (L : List (List Int)) (n : Nat) (hn : n ≤ L.length) (hL : L.length ≤ 4096) (hs : AllS L) : Ev (fun k => ledger_Ledger_Head.f k (ledgerOf L) (n : Int)) (⟨(n : Int), rootD ((L.map leafD).take n)⟩, 0) := by
  have hr := root_f ((L.map leafD).take n) (by rw [List.length_take]; omega) (hs.all.take n)
  refine Ev.congr (Ev.bind (g := fun _ r36 => some ((⟨(n : Int), r36⟩ : THead), (0 : Int))) hr (Ev.pure _)) fun k => ?_
  simp only [ledger_Ledger_Head.f, part_f k L n hn, Option.bind_some, if_true]
theorem lleaf_f (k : Nat) (L : List (List Int)) (i : Nat) (hi : i < L.length) (hs : AllS L) : ledger_Ledger_Leaf.f k (ledgerOf L) (i : Int) = some (L.getD i [], 0) := by
  have g1 : ¬ (i : Int) < 0 := by omega
  have g2 : decide ((i : Int) ≥ (L.length : Int)) = false := decide_eq_false (by omega)
  have g3 : 0 ≤ (i : Int) ∧ (i : Int) < (L.length : Int) := by omega
  have hg : (L.getD i []).length ≤ 4096 := hs _ (by rw [List.getD_eq_getElem?_getD, List.getElem?_eq_getElem hi, Option.getD_some]; exact List.getElem_mem hi)
  have g4 : (L.getD i []).length * 1 ≤ 140737488355328 := by omega
  show (if (i : Int) < 0 then some true else some (decide ((i : Int) ≥ (L.length : Int)))).bind _ = _
  rw [if_neg g1, g2]
  simp only [Option.bind_some, Bool.false_eq_true, if_false, Int.toNat_natCast]
  show (if 0 ≤ (i : Int) ∧ (i : Int) < (L.length : Int) then if (L.getD i []).length * 1 ≤ 140737488355328 then some (L.getD i [], (0 : Int)) else none else none) = _
  rw [if_pos g3, if_pos g4]
theorem own9_f (k : Nat) (b : List Int) (h : b.length ≤ 140737488355328) : juratlaw09_own.f k b = some b := by
  simp only [juratlaw09_own.f]
  rw [if_pos (by omega)]
end Go.Proofs.YthdlfclkcdnenaaDoor.Pure
namespace Go.Proofs.YthdlfclkcdnenaaDoor.Pure
open Go.WG Go.Proofs.YthdlfclkcdnenaaDoor
end Go.Proofs.YthdlfclkcdnenaaDoor.Pure
