/- The law LedgerNil, as a plain function: true for every input. -/
import Derived.Test.YthdlfclkcdnenaaDoorUc
import Derived.Test.YthdlfclkcdnenaaDoorPNil
import Derived.Test.YthdlfclkcdnenaaDoorGr
set_option linter.unusedSimpArgs false
set_option linter.unusedVariables false
namespace Go.Proofs.YthdlfclkcdnenaaDoor.Pure
open Go.WG Go.Proofs.YthdlfclkcdnenaaDoor
theorem reach_le {n : Nat} (h : n * 1 ≤ reachBytes) : n * 1 ≤ 140737488355328 := Nat.le_trans h (by decide)
theorem LedgerNil (a0 : List Int) (a1 : Int) (a2 : Int) (h0 : ok28 a0) (h1 : (Lit.int .i64 a1).wf = true) (h2 : (Lit.int .i64 a2).wf = true) : ∃ k, juratlaw09_LedgerNil.f k a0 a1 a2 = some true := by
  obtain ⟨K, hK⟩ := awake9_ev
  refine ⟨K, ?_⟩
  have h := hK K (Nat.le_refl _)
  simp only at h
  have hl := reach_le h0.1
  simp only [juratlaw09_LedgerNil.f, juratlaw09_own.f, if_pos hl, Option.bind_some, ledger_Ledger_Append_nil.f, ledger_Ledger_Leaf_nil.f, ledger_Ledger_Head_nil.f, ledger_Ledger_Include_nil.f, ledger_Ledger_Consist_nil.f, ledger_Ledger_part_nil.f, ledger_Ledger_Size_nil.f, h]
  rfl
end Go.Proofs.YthdlfclkcdnenaaDoor.Pure
