/-
  DERIVED. GIVEN WITH THE SEED: THE CARDS: each row of YtnlpmnegjgjiiaaGreatDoorRows.lean that lists a variable, with what it lists TIED to the program's text (the seventh form; the later family's looks); each row that meets fmt, with fmt's text TOLD by the authors' own Lean function (tested against real Go, not proved from fmt's source: count such statements apart). THE CARD IS WHAT COUNTS. Prove the row's statement (the work); the ties are given (YtnlpmnegjgjiiaaGreatDoorTie.lean); close each card by the builder's one call (the guide's Derived/Test/ToyasCard.lean, 'card_holds'). Laid BY PROGRAM, IN A SANDBOX (cutbox-door.mjs). By AI agents, Wed Nov 11 2026. No macro, syntax, notation, axiom, sorry.
-/
import Derived.Test.YtnlpmnegjgjiiaaGreatDoorRows
import GoSem.ClaimSeven
namespace Go.Proofs.YtnlpmnegjgjiiaaGreatDoor
namespace Rows

/-- THE TIED CARD OF 'juratlaw25.ReplicaPosts'. -/
def replicaPostsCard : Claim7 := { stood := { row := replicaPostsRow, standIns := [], harness := (true, "cd94e2086b56147431af471398003894c21664250035a6e65772c29a5cca9b67"), looks := true }, kinds := [], alts := [], laidByText := true, laidKinds := [.data, .data, .data, .data], laidTests := true, laidLooks := .later }
def ReplicaPostsCardSaid : Prop := Claim7.holds Tryz.pinned (.plain (OpenSpec.ofChange replicaPostsSpec)) replicaPostsCard

/-- THE TIED CARD OF 'juratlaw25.ReplicaRefuses'. -/
def replicaRefusesCard : Claim7 := { stood := { row := replicaRefusesRow, standIns := [], harness := (true, "cd94e2086b56147431af471398003894c21664250035a6e65772c29a5cca9b67"), looks := true }, kinds := [], alts := [], laidByText := true, laidKinds := [.data, .data, .data, .data], laidTests := true, laidLooks := .later }
def ReplicaRefusesCardSaid : Prop := Claim7.holds Tryz.pinned (.plain (OpenSpec.ofChange replicaRefusesSpec)) replicaRefusesCard

/-- THE TIED CARD OF 'juratlaw25.ReplicaPromises'. -/
def replicaPromisesCard : Claim7 := { stood := { row := replicaPromisesRow, standIns := [], harness := (true, "cd94e2086b56147431af471398003894c21664250035a6e65772c29a5cca9b67"), looks := true }, kinds := [], alts := [], laidByText := true, laidKinds := [.data, .data], laidTests := true, laidLooks := .later }
def ReplicaPromisesCardSaid : Prop := Claim7.holds Tryz.pinned (.plain (OpenSpec.ofChange replicaPromisesSpec)) replicaPromisesCard

/-- THE TIED CARD OF 'juratlaw25.ReplicaAlone'. -/
def replicaAloneCard : Claim7 := { stood := { row := replicaAloneRow, standIns := [], harness := (true, "cd94e2086b56147431af471398003894c21664250035a6e65772c29a5cca9b67"), looks := true }, kinds := [], alts := [], laidByText := true, laidKinds := [.data, .data], laidTests := true, laidLooks := .later }
def ReplicaAloneCardSaid : Prop := Claim7.holds Tryz.pinned (.plain (OpenSpec.ofChange replicaAloneSpec)) replicaAloneCard

/-- THE TIED CARD OF 'juratlaw25.ReplicaNil'. -/
def replicaNilCard : Claim7 := { stood := { row := replicaNilRow, standIns := [], harness := (true, "cd94e2086b56147431af471398003894c21664250035a6e65772c29a5cca9b67"), looks := true }, kinds := [], alts := [], laidByText := true, laidKinds := [.data, .data], laidTests := true, laidLooks := .later }
def ReplicaNilCardSaid : Prop := Claim7.holds Tryz.pinned (.plain (OpenSpec.ofChange replicaNilSpec)) replicaNilCard

/-- THE SECOND FORM's CARD OF 'juratlaw25.ReplicaPosts'. -/
def replicaPostsUptoCard : Claim7 := { stood := { row := replicaPostsUptoRow, standIns := [], harness := (true, "cd94e2086b56147431af471398003894c21664250035a6e65772c29a5cca9b67"), looks := true }, kinds := [], alts := [], laidByText := true, laidKinds := [.data, .data, .data, .data], laidTests := true, laidLooks := .later }
def ReplicaPostsUptoCardSaid : Prop := Claim7.holds Tryz.pinned (.plain (OpenSpec.upto replicaPostsSpec)) replicaPostsUptoCard

/-- THE SECOND FORM's CARD OF 'juratlaw25.ReplicaRefuses'. -/
def replicaRefusesUptoCard : Claim7 := { stood := { row := replicaRefusesUptoRow, standIns := [], harness := (true, "cd94e2086b56147431af471398003894c21664250035a6e65772c29a5cca9b67"), looks := true }, kinds := [], alts := [], laidByText := true, laidKinds := [.data, .data, .data, .data], laidTests := true, laidLooks := .later }
def ReplicaRefusesUptoCardSaid : Prop := Claim7.holds Tryz.pinned (.plain (OpenSpec.upto replicaRefusesSpec)) replicaRefusesUptoCard

/-- THE SECOND FORM's CARD OF 'juratlaw25.ReplicaPromises'. -/
def replicaPromisesUptoCard : Claim7 := { stood := { row := replicaPromisesUptoRow, standIns := [], harness := (true, "cd94e2086b56147431af471398003894c21664250035a6e65772c29a5cca9b67"), looks := true }, kinds := [], alts := [], laidByText := true, laidKinds := [.data, .data], laidTests := true, laidLooks := .later }
def ReplicaPromisesUptoCardSaid : Prop := Claim7.holds Tryz.pinned (.plain (OpenSpec.upto replicaPromisesSpec)) replicaPromisesUptoCard

/-- THE SECOND FORM's CARD OF 'juratlaw25.ReplicaAlone'. -/
def replicaAloneUptoCard : Claim7 := { stood := { row := replicaAloneUptoRow, standIns := [], harness := (true, "cd94e2086b56147431af471398003894c21664250035a6e65772c29a5cca9b67"), looks := true }, kinds := [], alts := [], laidByText := true, laidKinds := [.data, .data], laidTests := true, laidLooks := .later }
def ReplicaAloneUptoCardSaid : Prop := Claim7.holds Tryz.pinned (.plain (OpenSpec.upto replicaAloneSpec)) replicaAloneUptoCard

/-- THE SECOND FORM's CARD OF 'juratlaw25.ReplicaNil'. -/
def replicaNilUptoCard : Claim7 := { stood := { row := replicaNilUptoRow, standIns := [], harness := (true, "cd94e2086b56147431af471398003894c21664250035a6e65772c29a5cca9b67"), looks := true }, kinds := [], alts := [], laidByText := true, laidKinds := [.data, .data], laidTests := true, laidLooks := .later }
def ReplicaNilUptoCardSaid : Prop := Claim7.holds Tryz.pinned (.plain (OpenSpec.upto replicaNilSpec)) replicaNilUptoCard
end Rows
end Go.Proofs.YtnlpmnegjgjiiaaGreatDoor
