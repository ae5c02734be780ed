/- ReplicaNil: closed runs. -/
import Derived.Test.YtnlpmnegjgjiiaaGreatDoorEy0
import Derived.KernelRfl
namespace Go.CE.Nil
open Go Go.RowKit Go.Proofs Go.CE
set_option linter.all false
set_option maxRecDepth 1000000
theorem run21 : isT ((fuel 100000).f (cfg (fun _ _ => none) (ivF (some 40) (some 1000))) 7 [.x 0, .x 1, .i .i64 (.ofNat 1), .x 3] ⟨.e, 0⟩) = true := by kernel_rfl
theorem run22 : isT ((fuel 100000).f (cfg (fun _ _ => none) (ivF (some 40) (some 1000))) 7 [.x 0, .x 1, .i .i64 (.ofNat 2), .x 3] ⟨.e, 0⟩) = true := by kernel_rfl
theorem run23 : isT ((fuel 100000).f (cfg (fun _ _ => none) (ivF (some 40) (some 1000))) 7 [.x 0, .x 1, .i .i64 (.ofNat 3), .x 3] ⟨.e, 0⟩) = true := by kernel_rfl
theorem run24 : isT ((fuel 100000).f (cfg (fun _ _ => none) (ivF (some 40) (some 1000))) 7 [.x 0, .x 1, .i .i64 (.ofNat 4), .x 3] ⟨.e, 0⟩) = true := by kernel_rfl
theorem run25 : isT ((fuel 100000).f (cfg (fun _ _ => none) (ivF (some 40) (some 1000))) 7 [.x 0, .x 1, .i .i64 (.ofNat 5), .x 3] ⟨.e, 0⟩) = true := by kernel_rfl
theorem run2l : isT ((fuel 100000).f (cfg (ivF none (some 0)) (ivF (some 40) (some 1000))) 7 [.x 0, .x 1, .x 2, .x 3] ⟨.e, 0⟩) = true := by kernel_rfl
theorem run2h : isT ((fuel 100000).f (cfg (ivF (some 6) none) (ivF (some 40) (some 1000))) 7 [.x 0, .x 1, .x 2, .x 3] ⟨.e, 0⟩) = true := by kernel_rfl
end Go.CE.Nil
