/- ReplicaNil: closed runs. -/
import Derived.Test.YtnlpmnegjgjiiaaGreatDoorEy0
import Derived.KernelRfl
namespace Go.CE.Nil
open Go Go.RowKit Go.Proofs Go.CE
set_option linter.all false
set_option maxRecDepth 1000000
theorem run01 : isT ((fuel 100000).f (cfg (fun _ _ => none) (ivF (none) (some 0))) 7 [.x 0, .x 1, .i .i64 (.ofNat 1), .x 3] ⟨.e, 0⟩) = true := by kernel_rfl
theorem run03 : isT ((fuel 100000).f (cfg (fun _ _ => none) (ivF (none) (some 0))) 7 [.x 0, .x 1, .i .i64 (.ofNat 3), .x 3] ⟨.e, 0⟩) = true := by kernel_rfl
theorem run05 : isT ((fuel 100000).f (cfg (fun _ _ => none) (ivF (none) (some 0))) 7 [.x 0, .x 1, .i .i64 (.ofNat 5), .x 3] ⟨.e, 0⟩) = true := by kernel_rfl
theorem run0o : isT ((fuel 100000).f (cfg (neF [1, 3, 5]) (ivF (none) (some 0))) 7 [.x 0, .x 1, .x 2, .x 3] ⟨.e, 0⟩) = true := by kernel_rfl
theorem run11 : isT ((fuel 100000).f (cfg (fun _ _ => none) (ivF (some 1) (some 39))) 7 [.x 0, .x 1, .i .i64 (.ofNat 1), .x 3] ⟨.e, 0⟩) = true := by kernel_rfl
theorem run13 : isT ((fuel 100000).f (cfg (fun _ _ => none) (ivF (some 1) (some 39))) 7 [.x 0, .x 1, .i .i64 (.ofNat 3), .x 3] ⟨.e, 0⟩) = true := by kernel_rfl
theorem run15 : isT ((fuel 100000).f (cfg (fun _ _ => none) (ivF (some 1) (some 39))) 7 [.x 0, .x 1, .i .i64 (.ofNat 5), .x 3] ⟨.e, 0⟩) = true := by kernel_rfl
theorem run1o : isT ((fuel 100000).f (cfg (neF [1, 3, 5]) (ivF (some 1) (some 39))) 7 [.x 0, .x 1, .x 2, .x 3] ⟨.e, 0⟩) = true := by kernel_rfl
theorem run31 : isT ((fuel 100000).f (cfg (fun _ _ => none) (ivF (some 1001) (none))) 7 [.x 0, .x 1, .i .i64 (.ofNat 1), .x 3] ⟨.e, 0⟩) = true := by kernel_rfl
theorem run33 : isT ((fuel 100000).f (cfg (fun _ _ => none) (ivF (some 1001) (none))) 7 [.x 0, .x 1, .i .i64 (.ofNat 3), .x 3] ⟨.e, 0⟩) = true := by kernel_rfl
theorem run35 : isT ((fuel 100000).f (cfg (fun _ _ => none) (ivF (some 1001) (none))) 7 [.x 0, .x 1, .i .i64 (.ofNat 5), .x 3] ⟨.e, 0⟩) = true := by kernel_rfl
theorem run3o : isT ((fuel 100000).f (cfg (neF [1, 3, 5]) (ivF (some 1001) (none))) 7 [.x 0, .x 1, .x 2, .x 3] ⟨.e, 0⟩) = true := by kernel_rfl
end Go.CE.Nil
