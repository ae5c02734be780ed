/-
  DERIVED. GIVEN WITH THE SEED: THE PROGRAM's TIES (one call each: nine closed facts by the kernel) AND EACH ROW's TIE, after the 31st guide's Derived/Test/Toyas{Tie, Card}.lean. No idea stands in it: it is a product of the set-up. Laid BY PROGRAM, IN A SANDBOX (cutbox-door.mjs). By AI agents, Wed Nov 11 2026. No macro, syntax, notation, axiom, sorry.
-/
import Derived.Test.YtnlpmnegjgjiiaaGreatDoorRows
import Derived.LaidByTextLater
import Derived.SevenTiedAt
import Derived.LaidSub
import Derived.LaidOnce
namespace Go.Proofs.YtnlpmnegjgjiiaaGreatDoor
open Go
set_option maxRecDepth 100000
theorem seatTie1 : Tryz.prog.laidByTextLater [("jurat/juratref02.first", Rows.laid_jurat_juratref02_first), ("jurat/juratref02.constants", Rows.laid_jurat_juratref02_constants), ("jurat/sha.k", Rows.laid_jurat_sha_k), ("jurat/sha.begin", Rows.laid_jurat_sha_begin)] [.data, .data, .data, .data] true :=
  Program.laidByTextLater_by_one 29 8 65 (by kernel_rfl) (by kernel_rfl) (by kernel_rfl) (by kernel_rfl) (by kernel_rfl) (by kernel_rfl) (fun _ _ => by kernel_rfl)
theorem noOwnUnsafe : Tryz.pinned.checked.prog.headLifts.contains "ownunsafe" = false := by kernel_rfl
theorem tie : Tryz.prog.laidByTextLater [("jurat/juratref02.first", Rows.laid_jurat_juratref02_first), ("jurat/juratref02.constants", Rows.laid_jurat_juratref02_constants), ("jurat/sha.k", Rows.laid_jurat_sha_k), ("jurat/sha.begin", Rows.laid_jurat_sha_begin)] [.data, .data, .data, .data] true :=
  Program.laidByTextLater.sub seatTie1 ["jurat/juratref02.first", "jurat/juratref02.constants", "jurat/sha.k", "jurat/sha.begin"] (by kernel_rfl) (by kernel_rfl)
theorem replicaPosts_row_tie : Rows.replicaPostsRow.laidByTextAt .later Tryz.pinned [.data, .data, .data, .data] true :=
  OpenClaim.laidByTextAt_later rfl rfl tie noOwnUnsafe
theorem replicaRefuses_row_tie : Rows.replicaRefusesRow.laidByTextAt .later Tryz.pinned [.data, .data, .data, .data] true :=
  OpenClaim.laidByTextAt_later rfl rfl tie noOwnUnsafe
theorem tie2 : Tryz.prog.laidByTextLater [("jurat/sha.k", Rows.laid_jurat_sha_k), ("jurat/sha.begin", Rows.laid_jurat_sha_begin)] [.data, .data] true :=
  Program.laidByTextLater.sub seatTie1 ["jurat/sha.k", "jurat/sha.begin"] (by kernel_rfl) (by kernel_rfl)
theorem replicaPromises_row_tie : Rows.replicaPromisesRow.laidByTextAt .later Tryz.pinned [.data, .data] true :=
  OpenClaim.laidByTextAt_later rfl rfl tie2 noOwnUnsafe
theorem replicaAlone_row_tie : Rows.replicaAloneRow.laidByTextAt .later Tryz.pinned [.data, .data] true :=
  OpenClaim.laidByTextAt_later rfl rfl tie2 noOwnUnsafe
theorem replicaNil_row_tie : Rows.replicaNilRow.laidByTextAt .later Tryz.pinned [.data, .data] true :=
  OpenClaim.laidByTextAt_later rfl rfl tie2 noOwnUnsafe
theorem replicaPostsUpto_row_tie : Rows.replicaPostsUptoRow.laidByTextAt .later Tryz.pinned [.data, .data, .data, .data] true :=
  OpenClaim.laidByTextAt_later rfl rfl tie noOwnUnsafe
theorem replicaRefusesUpto_row_tie : Rows.replicaRefusesUptoRow.laidByTextAt .later Tryz.pinned [.data, .data, .data, .data] true :=
  OpenClaim.laidByTextAt_later rfl rfl tie noOwnUnsafe
theorem replicaPromisesUpto_row_tie : Rows.replicaPromisesUptoRow.laidByTextAt .later Tryz.pinned [.data, .data] true :=
  OpenClaim.laidByTextAt_later rfl rfl tie2 noOwnUnsafe
theorem replicaAloneUpto_row_tie : Rows.replicaAloneUptoRow.laidByTextAt .later Tryz.pinned [.data, .data] true :=
  OpenClaim.laidByTextAt_later rfl rfl tie2 noOwnUnsafe
theorem replicaNilUpto_row_tie : Rows.replicaNilUptoRow.laidByTextAt .later Tryz.pinned [.data, .data] true :=
  OpenClaim.laidByTextAt_later rfl rfl tie2 noOwnUnsafe
end Go.Proofs.YtnlpmnegjgjiiaaGreatDoor
