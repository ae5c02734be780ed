/- Plain laws of agendas: the document's example. -/
import Derived.Test.YtnoocbdpkddpbaaGe
import Derived.Test.YtnoocbdpkddpbaaGr
namespace Go.Proofs.Ytnoocbdpkddpbaa.Pure
open Go.WG Go.Proofs.Ytnoocbdpkddpbaa
set_option linter.unusedVariables false
set_option linter.unusedSimpArgs false
set_option maxRecDepth 100000 in
theorem awake_ev : Ev (fun k => juratlaw13_awake.f k) true := by
  refine ⟨12, fun k hk => ?_⟩
  obtain ⟨m, rfl⟩ : ∃ m, k = m + 12 := ⟨k - 12, by omega⟩
  rfl
end Go.Proofs.Ytnoocbdpkddpbaa.Pure
