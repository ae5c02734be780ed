/-
  No cell of these rows narrows 'for every input' (looked for: loops, veiled, ifaces, maps, wideKeys, modest, calm, conditions, laid).
  DERIVED. THE GIVEN ROWS OF THIS SEAT. 2 by the template 'for every input the law returns true; each argument reads behind the call as it read before'; 0 by the template 'total and deterministic' (their statements: YtobdpbnadjkhiaaGreatTotals.lean).
  GIVEN WITH THE SEED: the statements are not yours to turn. If you find one false, say at which input.
  Laid BY PROGRAM, IN A SANDBOX (cutbox-rows.mjs): the forced cells as the released guide's own fill.sh prints them over the translation fa77a6a20d0b5a58… (all of the seat's roots in one cut). By AI agents, Wed Nov 11 2026. No macro, syntax, notation, axiom, sorry.
-/
import Derived.Test.YtobdpbnadjkhiaaGreatChecked
import GoSem.Claim
import GoSem.ClaimJoined
import GoSem.ClaimMapViews
import Derived.JoinedTies
import Derived.KernelRfl
namespace Go.Proofs.YtobdpbnadjkhiaaGreat
/- THE CELL 'sum', in the pinned program and in every row, IS THE sha256 OF THE DUMP (.gsa) THAT YtobdpbnadjkhiaaGreatProg.lean LOADS. Nothing in Lean hashes anything: it is a label: what it is worth is what the hold of that sum in a sandbox is worth. -/
noncomputable def Tryz.pinned : Pinned := { name := "ytobdpbnadjkhiaagreat", sum := "fa77a6a20d0b5a581ec4617c1d6a61315385bd23bfcc0ce05ffe53eb36a5fb1f", checked := Tryz.checked }
namespace Rows
def none {H : Type} : Left H := { results := [], args := [] }

/-- 'juratlaw21.DocketRecords': WHATEVER THE INPUT: true; the input reads as it did. -/
def docketRecordsSpec : ChangeSpec := { name := "docketRecords", fn := fun _ => fun
  | [d1, d2] => { results := [.lit (.bool true)], args := [d1, d2] }
  | _ => none }
def docketRecordsRow : OpenClaim := { program := "ytobdpbnadjkhiaagreat", sum := "fa77a6a20d0b5a581ec4617c1d6a61315385bd23bfcc0ce05ffe53eb36a5fb1f", func := "jurat/juratlaw21.DocketRecords", spec := "docketRecords", unfollowed := true, recurses := true, apart := false }
def DocketRecordsSaid : Prop := docketRecordsRow.holds Tryz.pinned (OpenSpec.ofChange docketRecordsSpec)

/-- ITS FALSE NEIGHBOUR: 'it returns false'. Refute it at one input. -/
def docketRecordsWrong : ChangeSpec := { name := "docketRecords", fn := fun _ => fun
  | [d1, d2] => { results := [.lit (.bool false)], args := [d1, d2] }
  | _ => none }
def DocketRecordsWrongFalsely : Prop := docketRecordsRow.holds Tryz.pinned (OpenSpec.ofChange docketRecordsWrong)

/-- 'juratlaw21.DocketStates': WHATEVER THE INPUT: true; the input reads as it did. -/
def docketStatesSpec : ChangeSpec := { name := "docketStates", fn := fun _ => fun
  | [d1, d2, d3] => { results := [.lit (.bool true)], args := [d1, d2, d3] }
  | _ => none }
def docketStatesRow : OpenClaim := { program := "ytobdpbnadjkhiaagreat", sum := "fa77a6a20d0b5a581ec4617c1d6a61315385bd23bfcc0ce05ffe53eb36a5fb1f", func := "jurat/juratlaw21.DocketStates", spec := "docketStates", unfollowed := true, recurses := true, apart := false }
def DocketStatesSaid : Prop := docketStatesRow.holds Tryz.pinned (OpenSpec.ofChange docketStatesSpec)

/-- ITS FALSE NEIGHBOUR: 'it returns false'. Refute it at one input. -/
def docketStatesWrong : ChangeSpec := { name := "docketStates", fn := fun _ => fun
  | [d1, d2, d3] => { results := [.lit (.bool false)], args := [d1, d2, d3] }
  | _ => none }
def DocketStatesWrongFalsely : Prop := docketStatesRow.holds Tryz.pinned (OpenSpec.ofChange docketStatesWrong)

/- THE SECOND FORM. 'bulk': how many values and letters a reading holds, each counted each time it is reached (what is shared counts as often as it is met; a slice's spare places count too). A statement '..UptoSaid' is the law's where the arguments, and the package variables that the reading takes, are together of bulk at most 1048576: NARROWER than '..Said'. Prove '..Said' where nothing that the law and all that it calls make is longer than what came in: it says more and counts as full. Else prove '..UptoSaid'. A law counts once. -/
mutual
def uptoBulk {H : Type} : DataW H → Nat
  | .lit (.string bytes) => bytes.length + 1
  | .lit _ => 1
  | .nil => 1
  | .ptr d => uptoBulk d + 1
  | .slice elems spare => uptoBulkAll elems + uptoBulkAll spare + 1
  | .agg parts => uptoBulkAll parts + 1
  | .iface _ d => uptoBulk d + 1
  | .map entries => uptoBulkEntries entries + 1
  | .held _ => 1
def uptoBulkAll {H : Type} : List (DataW H) → Nat
  | [] => 0
  | d :: r => uptoBulk d + uptoBulkAll r
def uptoBulkEntries {H : Type} : List (Lit × DataW H) → Nat
  | [] => 0
  | x :: r => uptoBulkEntry x + uptoBulkEntries r
def uptoBulkEntry {H : Type} : Lit × DataW H → Nat
  | (.string bytes, d) => bytes.length + uptoBulk d + 1
  | (_, d) => uptoBulk d + 1
 end
def uptoSmall : (H : Type) → List (DataW H) → Bool := fun _ ds => decide (uptoBulkAll ds ≤ 1048576)
def OpenSpec.upto (s : _root_.Go.ChangeSpec) : _root_.Go.OpenSpec := { _root_.Go.OpenSpec.ofChange s with cond := some uptoSmall }

/-- 'juratlaw21.DocketRecords', WHERE WHAT IT READS IS OF BULK AT MOST 1048576: true; the input reads as it did. -/
def docketRecordsUptoRow : OpenClaim := { program := "ytobdpbnadjkhiaagreat", sum := "fa77a6a20d0b5a581ec4617c1d6a61315385bd23bfcc0ce05ffe53eb36a5fb1f", func := "jurat/juratlaw21.DocketRecords", spec := "docketRecords", unfollowed := true, recurses := true, apart := false, narrowed := true }
def DocketRecordsUptoSaid : Prop := docketRecordsUptoRow.holds Tryz.pinned (OpenSpec.upto docketRecordsSpec)

/-- 'juratlaw21.DocketStates', WHERE WHAT IT READS IS OF BULK AT MOST 1048576: true; the input reads as it did. -/
def docketStatesUptoRow : OpenClaim := { program := "ytobdpbnadjkhiaagreat", sum := "fa77a6a20d0b5a581ec4617c1d6a61315385bd23bfcc0ce05ffe53eb36a5fb1f", func := "jurat/juratlaw21.DocketStates", spec := "docketStates", unfollowed := true, recurses := true, apart := false, narrowed := true }
def DocketStatesUptoSaid : Prop := docketStatesUptoRow.holds Tryz.pinned (OpenSpec.upto docketStatesSpec)

end Rows
end Go.Proofs.YtobdpbnadjkhiaaGreat
