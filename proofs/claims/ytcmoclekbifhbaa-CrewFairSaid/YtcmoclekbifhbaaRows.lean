/-
  No cell of these rows narrows 'for every input' (looked for: loops, veiled, ifaces, maps, wideKeys, modest, calm, conditions, laid).
  DERIVED. THE GIVEN ROWS OF THIS SEAT. 4 by the template 'for every input the law returns true; each argument reads behind the call as it read before'; 0 by the template 'total and deterministic' (their statements: YtcmoclekbifhbaaTotals.lean).
  GIVEN WITH THE SEED: the statements are not yours to turn. If you find one false, say at which input.
  Laid BY PROGRAM, IN A SANDBOX (cutbox-rows.mjs): the forced cells as the released guide's own fill.sh prints them over the translation dc59c3d28735ad87… (all of the seat's roots in one cut). By AI agents, Wed Nov 11 2026. No macro, syntax, notation, axiom, sorry.
-/
import Derived.Test.YtcmoclekbifhbaaChecked
import GoSem.Claim
import GoSem.ClaimJoined
import GoSem.ClaimMapViews
import Derived.JoinedTies
import Derived.KernelRfl
namespace Go.Proofs.Ytcmoclekbifhbaa
/- THE CELL 'sum', in the pinned program and in every row, IS THE sha256 OF THE DUMP (.gsa) THAT YtcmoclekbifhbaaProg.lean LOADS. Nothing in Lean hashes anything: it is a label: what it is worth is what the hold of that sum in a sandbox is worth. -/
noncomputable def Try.pinned : Pinned := { name := "ytcmoclekbifhbaa", sum := "dc59c3d28735ad870d931e932c9ae913c32c143a7bb7b7df836e7e613d78ecf8", checked := Try.checked }
namespace Rows
def none {H : Type} : Left H := { results := [], args := [] }

/-- 'juratlaw18.CrewRight': WHATEVER THE INPUT: true; the input reads as it did. -/
def crewRightSpec : ChangeSpec := { name := "crewRight", fn := fun _ => fun
  | [d1, d2, d3, d4] => { results := [.lit (.bool true)], args := [d1, d2, d3, d4] }
  | _ => none }
def crewRightRow : OpenClaim := { program := "ytcmoclekbifhbaa", sum := "dc59c3d28735ad870d931e932c9ae913c32c143a7bb7b7df836e7e613d78ecf8", func := "jurat/juratlaw18.CrewRight", spec := "crewRight", unfollowed := true, recurses := true, apart := false }
def CrewRightSaid : Prop := crewRightRow.holds Try.pinned (OpenSpec.ofChange crewRightSpec)

/-- ITS FALSE NEIGHBOUR: 'it returns false'. Refute it at one input. -/
def crewRightWrong : ChangeSpec := { name := "crewRight", fn := fun _ => fun
  | [d1, d2, d3, d4] => { results := [.lit (.bool false)], args := [d1, d2, d3, d4] }
  | _ => none }
def CrewRightWrongFalsely : Prop := crewRightRow.holds Try.pinned (OpenSpec.ofChange crewRightWrong)

/-- 'juratlaw18.CrewFair': WHATEVER THE INPUT: true; the input reads as it did. -/
def crewFairSpec : ChangeSpec := { name := "crewFair", fn := fun _ => fun
  | [d1, d2, d3, d4] => { results := [.lit (.bool true)], args := [d1, d2, d3, d4] }
  | _ => none }
def crewFairRow : OpenClaim := { program := "ytcmoclekbifhbaa", sum := "dc59c3d28735ad870d931e932c9ae913c32c143a7bb7b7df836e7e613d78ecf8", func := "jurat/juratlaw18.CrewFair", spec := "crewFair", unfollowed := true, recurses := true, apart := false }
def CrewFairSaid : Prop := crewFairRow.holds Try.pinned (OpenSpec.ofChange crewFairSpec)

/-- ITS FALSE NEIGHBOUR: 'it returns false'. Refute it at one input. -/
def crewFairWrong : ChangeSpec := { name := "crewFair", fn := fun _ => fun
  | [d1, d2, d3, d4] => { results := [.lit (.bool false)], args := [d1, d2, d3, d4] }
  | _ => none }
def CrewFairWrongFalsely : Prop := crewFairRow.holds Try.pinned (OpenSpec.ofChange crewFairWrong)

/-- 'juratlaw18.CrewPicks': WHATEVER THE INPUT: true; the input reads as it did. -/
def crewPicksSpec : ChangeSpec := { name := "crewPicks", fn := fun _ => fun
  | [d1, d2, d3, d4] => { results := [.lit (.bool true)], args := [d1, d2, d3, d4] }
  | _ => none }
def crewPicksRow : OpenClaim := { program := "ytcmoclekbifhbaa", sum := "dc59c3d28735ad870d931e932c9ae913c32c143a7bb7b7df836e7e613d78ecf8", func := "jurat/juratlaw18.CrewPicks", spec := "crewPicks", unfollowed := true, recurses := true, apart := false }
def CrewPicksSaid : Prop := crewPicksRow.holds Try.pinned (OpenSpec.ofChange crewPicksSpec)

/-- ITS FALSE NEIGHBOUR: 'it returns false'. Refute it at one input. -/
def crewPicksWrong : ChangeSpec := { name := "crewPicks", fn := fun _ => fun
  | [d1, d2, d3, d4] => { results := [.lit (.bool false)], args := [d1, d2, d3, d4] }
  | _ => none }
def CrewPicksWrongFalsely : Prop := crewPicksRow.holds Try.pinned (OpenSpec.ofChange crewPicksWrong)

/-- 'juratlaw18.CrewLeft': WHATEVER THE INPUT: true; the input reads as it did. -/
def crewLeftSpec : ChangeSpec := { name := "crewLeft", fn := fun _ => fun
  | [d1, d2, d3, d4] => { results := [.lit (.bool true)], args := [d1, d2, d3, d4] }
  | _ => none }
def crewLeftRow : OpenClaim := { program := "ytcmoclekbifhbaa", sum := "dc59c3d28735ad870d931e932c9ae913c32c143a7bb7b7df836e7e613d78ecf8", func := "jurat/juratlaw18.CrewLeft", spec := "crewLeft", unfollowed := true, recurses := true, apart := false }
def CrewLeftSaid : Prop := crewLeftRow.holds Try.pinned (OpenSpec.ofChange crewLeftSpec)

/-- ITS FALSE NEIGHBOUR: 'it returns false'. Refute it at one input. -/
def crewLeftWrong : ChangeSpec := { name := "crewLeft", fn := fun _ => fun
  | [d1, d2, d3, d4] => { results := [.lit (.bool false)], args := [d1, d2, d3, d4] }
  | _ => none }
def CrewLeftWrongFalsely : Prop := crewLeftRow.holds Try.pinned (OpenSpec.ofChange crewLeftWrong)

/- THE SECOND FORM. 'bulk': how many values and letters a reading holds, each counted each time it is reached (what is shared counts as often as it is met; a slice's spare places count too). A statement '..UptoSaid' is the law's where the arguments, and the package variables that the reading takes, are together of bulk at most 1048576: NARROWER than '..Said'. Prove '..Said' where nothing that the law and all that it calls make is longer than what came in: it says more and counts as full. Else prove '..UptoSaid'. A law counts once. -/
mutual
def uptoBulk {H : Type} : DataW H → Nat
  | .lit (.string bytes) => bytes.length + 1
  | .lit _ => 1
  | .nil => 1
  | .ptr d => uptoBulk d + 1
  | .slice elems spare => uptoBulkAll elems + uptoBulkAll spare + 1
  | .agg parts => uptoBulkAll parts + 1
  | .iface _ d => uptoBulk d + 1
  | .map entries => uptoBulkEntries entries + 1
  | .held _ => 1
def uptoBulkAll {H : Type} : List (DataW H) → Nat
  | [] => 0
  | d :: r => uptoBulk d + uptoBulkAll r
def uptoBulkEntries {H : Type} : List (Lit × DataW H) → Nat
  | [] => 0
  | x :: r => uptoBulkEntry x + uptoBulkEntries r
def uptoBulkEntry {H : Type} : Lit × DataW H → Nat
  | (.string bytes, d) => bytes.length + uptoBulk d + 1
  | (_, d) => uptoBulk d + 1
 end
def uptoSmall : (H : Type) → List (DataW H) → Bool := fun _ ds => decide (uptoBulkAll ds ≤ 1048576)
def OpenSpec.upto (s : _root_.Go.ChangeSpec) : _root_.Go.OpenSpec := { _root_.Go.OpenSpec.ofChange s with cond := some uptoSmall }

/-- 'juratlaw18.CrewRight', WHERE WHAT IT READS IS OF BULK AT MOST 1048576: true; the input reads as it did. -/
def crewRightUptoRow : OpenClaim := { program := "ytcmoclekbifhbaa", sum := "dc59c3d28735ad870d931e932c9ae913c32c143a7bb7b7df836e7e613d78ecf8", func := "jurat/juratlaw18.CrewRight", spec := "crewRight", unfollowed := true, recurses := true, apart := false, narrowed := true }
def CrewRightUptoSaid : Prop := crewRightUptoRow.holds Try.pinned (OpenSpec.upto crewRightSpec)

/-- 'juratlaw18.CrewFair', WHERE WHAT IT READS IS OF BULK AT MOST 1048576: true; the input reads as it did. -/
def crewFairUptoRow : OpenClaim := { program := "ytcmoclekbifhbaa", sum := "dc59c3d28735ad870d931e932c9ae913c32c143a7bb7b7df836e7e613d78ecf8", func := "jurat/juratlaw18.CrewFair", spec := "crewFair", unfollowed := true, recurses := true, apart := false, narrowed := true }
def CrewFairUptoSaid : Prop := crewFairUptoRow.holds Try.pinned (OpenSpec.upto crewFairSpec)

/-- 'juratlaw18.CrewPicks', WHERE WHAT IT READS IS OF BULK AT MOST 1048576: true; the input reads as it did. -/
def crewPicksUptoRow : OpenClaim := { program := "ytcmoclekbifhbaa", sum := "dc59c3d28735ad870d931e932c9ae913c32c143a7bb7b7df836e7e613d78ecf8", func := "jurat/juratlaw18.CrewPicks", spec := "crewPicks", unfollowed := true, recurses := true, apart := false, narrowed := true }
def CrewPicksUptoSaid : Prop := crewPicksUptoRow.holds Try.pinned (OpenSpec.upto crewPicksSpec)

/-- 'juratlaw18.CrewLeft', WHERE WHAT IT READS IS OF BULK AT MOST 1048576: true; the input reads as it did. -/
def crewLeftUptoRow : OpenClaim := { program := "ytcmoclekbifhbaa", sum := "dc59c3d28735ad870d931e932c9ae913c32c143a7bb7b7df836e7e613d78ecf8", func := "jurat/juratlaw18.CrewLeft", spec := "crewLeft", unfollowed := true, recurses := true, apart := false, narrowed := true }
def CrewLeftUptoSaid : Prop := crewLeftUptoRow.holds Try.pinned (OpenSpec.upto crewLeftSpec)

end Rows
end Go.Proofs.Ytcmoclekbifhbaa
