/-
  No cell of these rows narrows 'for every input' (looked for: loops, veiled, ifaces, maps, wideKeys, modest, calm, conditions, laid).
  DERIVED. THE GIVEN ROWS OF THIS SEAT. 4 by the template 'for every input the law returns true; each argument reads behind the call as it read before'; 0 by the template 'total and deterministic' (their statements: YtobdpbnadjkhiaaTotals.lean).
  GIVEN WITH THE SEED: the statements are not yours to turn. If you find one false, say at which input.
  Laid BY PROGRAM, IN A SANDBOX (cutbox-rows.mjs): the forced cells as the released guide's own fill.sh prints them over the translation b2b5d4f073649423… (all of the seat's roots in one cut). By AI agents, Wed Nov 11 2026. No macro, syntax, notation, axiom, sorry.
-/
import Derived.Test.YtobdpbnadjkhiaaChecked
import GoSem.Claim
import GoSem.ClaimJoined
import GoSem.ClaimMapViews
import Derived.JoinedTies
import Derived.KernelRfl
namespace Go.Proofs.Ytobdpbnadjkhiaa
/- THE CELL 'sum', in the pinned program and in every row, IS THE sha256 OF THE DUMP (.gsa) THAT YtobdpbnadjkhiaaProg.lean LOADS. Nothing in Lean hashes anything: it is a label: what it is worth is what the hold of that sum in a sandbox is worth. -/
noncomputable def Try.pinned : Pinned := { name := "ytobdpbnadjkhiaa", sum := "b2b5d4f0736494237c22557e35caab4ac4dc9e2d83503fb1c2640d2a232ec9d0", checked := Try.checked }
namespace Rows
def none {H : Type} : Left H := { results := [], args := [] }

/-- 'juratlaw21.DocketPlays': WHATEVER THE INPUT: true; the input reads as it did. -/
def docketPlaysSpec : ChangeSpec := { name := "docketPlays", fn := fun _ => fun
  | [d1, d2] => { results := [.lit (.bool true)], args := [d1, d2] }
  | _ => none }
def docketPlaysRow : OpenClaim := { program := "ytobdpbnadjkhiaa", sum := "b2b5d4f0736494237c22557e35caab4ac4dc9e2d83503fb1c2640d2a232ec9d0", func := "jurat/juratlaw21.DocketPlays", spec := "docketPlays", unfollowed := true, recurses := true, apart := false }
def DocketPlaysSaid : Prop := docketPlaysRow.holds Try.pinned (OpenSpec.ofChange docketPlaysSpec)

/-- ITS FALSE NEIGHBOUR: 'it returns false'. Refute it at one input. -/
def docketPlaysWrong : ChangeSpec := { name := "docketPlays", fn := fun _ => fun
  | [d1, d2] => { results := [.lit (.bool false)], args := [d1, d2] }
  | _ => none }
def DocketPlaysWrongFalsely : Prop := docketPlaysRow.holds Try.pinned (OpenSpec.ofChange docketPlaysWrong)

/-- 'juratlaw21.DocketStays': WHATEVER THE INPUT: true; the input reads as it did. -/
def docketStaysSpec : ChangeSpec := { name := "docketStays", fn := fun _ => fun
  | [d1, d2] => { results := [.lit (.bool true)], args := [d1, d2] }
  | _ => none }
def docketStaysRow : OpenClaim := { program := "ytobdpbnadjkhiaa", sum := "b2b5d4f0736494237c22557e35caab4ac4dc9e2d83503fb1c2640d2a232ec9d0", func := "jurat/juratlaw21.DocketStays", spec := "docketStays", unfollowed := true, recurses := true, apart := false }
def DocketStaysSaid : Prop := docketStaysRow.holds Try.pinned (OpenSpec.ofChange docketStaysSpec)

/-- ITS FALSE NEIGHBOUR: 'it returns false'. Refute it at one input. -/
def docketStaysWrong : ChangeSpec := { name := "docketStays", fn := fun _ => fun
  | [d1, d2] => { results := [.lit (.bool false)], args := [d1, d2] }
  | _ => none }
def DocketStaysWrongFalsely : Prop := docketStaysRow.holds Try.pinned (OpenSpec.ofChange docketStaysWrong)

/-- 'juratlaw21.DocketKeys': WHATEVER THE INPUT: true; the input reads as it did. -/
def docketKeysSpec : ChangeSpec := { name := "docketKeys", fn := fun _ => fun
  | [d1, d2] => { results := [.lit (.bool true)], args := [d1, d2] }
  | _ => none }
def docketKeysRow : OpenClaim := { program := "ytobdpbnadjkhiaa", sum := "b2b5d4f0736494237c22557e35caab4ac4dc9e2d83503fb1c2640d2a232ec9d0", func := "jurat/juratlaw21.DocketKeys", spec := "docketKeys", unfollowed := true, recurses := true, apart := false }
def DocketKeysSaid : Prop := docketKeysRow.holds Try.pinned (OpenSpec.ofChange docketKeysSpec)

/-- ITS FALSE NEIGHBOUR: 'it returns false'. Refute it at one input. -/
def docketKeysWrong : ChangeSpec := { name := "docketKeys", fn := fun _ => fun
  | [d1, d2] => { results := [.lit (.bool false)], args := [d1, d2] }
  | _ => none }
def DocketKeysWrongFalsely : Prop := docketKeysRow.holds Try.pinned (OpenSpec.ofChange docketKeysWrong)

/-- 'juratlaw21.DocketHonest': WHATEVER THE INPUT: true; the input reads as it did. -/
def docketHonestSpec : ChangeSpec := { name := "docketHonest", fn := fun _ => fun
  | [d1, d2, d3] => { results := [.lit (.bool true)], args := [d1, d2, d3] }
  | _ => none }
def docketHonestRow : OpenClaim := { program := "ytobdpbnadjkhiaa", sum := "b2b5d4f0736494237c22557e35caab4ac4dc9e2d83503fb1c2640d2a232ec9d0", func := "jurat/juratlaw21.DocketHonest", spec := "docketHonest", unfollowed := true, recurses := true, apart := false }
def DocketHonestSaid : Prop := docketHonestRow.holds Try.pinned (OpenSpec.ofChange docketHonestSpec)

/-- ITS FALSE NEIGHBOUR: 'it returns false'. Refute it at one input. -/
def docketHonestWrong : ChangeSpec := { name := "docketHonest", fn := fun _ => fun
  | [d1, d2, d3] => { results := [.lit (.bool false)], args := [d1, d2, d3] }
  | _ => none }
def DocketHonestWrongFalsely : Prop := docketHonestRow.holds Try.pinned (OpenSpec.ofChange docketHonestWrong)

/- THE SECOND FORM. 'bulk': how many values and letters a reading holds, each counted each time it is reached (what is shared counts as often as it is met; a slice's spare places count too). A statement '..UptoSaid' is the law's where the arguments, and the package variables that the reading takes, are together of bulk at most 1048576: NARROWER than '..Said'. Prove '..Said' where nothing that the law and all that it calls make is longer than what came in: it says more and counts as full. Else prove '..UptoSaid'. A law counts once. -/
mutual
def uptoBulk {H : Type} : DataW H → Nat
  | .lit (.string bytes) => bytes.length + 1
  | .lit _ => 1
  | .nil => 1
  | .ptr d => uptoBulk d + 1
  | .slice elems spare => uptoBulkAll elems + uptoBulkAll spare + 1
  | .agg parts => uptoBulkAll parts + 1
  | .iface _ d => uptoBulk d + 1
  | .map entries => uptoBulkEntries entries + 1
  | .held _ => 1
def uptoBulkAll {H : Type} : List (DataW H) → Nat
  | [] => 0
  | d :: r => uptoBulk d + uptoBulkAll r
def uptoBulkEntries {H : Type} : List (Lit × DataW H) → Nat
  | [] => 0
  | x :: r => uptoBulkEntry x + uptoBulkEntries r
def uptoBulkEntry {H : Type} : Lit × DataW H → Nat
  | (.string bytes, d) => bytes.length + uptoBulk d + 1
  | (_, d) => uptoBulk d + 1
 end
def uptoSmall : (H : Type) → List (DataW H) → Bool := fun _ ds => decide (uptoBulkAll ds ≤ 1048576)
def OpenSpec.upto (s : _root_.Go.ChangeSpec) : _root_.Go.OpenSpec := { _root_.Go.OpenSpec.ofChange s with cond := some uptoSmall }

/-- 'juratlaw21.DocketPlays', WHERE WHAT IT READS IS OF BULK AT MOST 1048576: true; the input reads as it did. -/
def docketPlaysUptoRow : OpenClaim := { program := "ytobdpbnadjkhiaa", sum := "b2b5d4f0736494237c22557e35caab4ac4dc9e2d83503fb1c2640d2a232ec9d0", func := "jurat/juratlaw21.DocketPlays", spec := "docketPlays", unfollowed := true, recurses := true, apart := false, narrowed := true }
def DocketPlaysUptoSaid : Prop := docketPlaysUptoRow.holds Try.pinned (OpenSpec.upto docketPlaysSpec)

/-- 'juratlaw21.DocketStays', WHERE WHAT IT READS IS OF BULK AT MOST 1048576: true; the input reads as it did. -/
def docketStaysUptoRow : OpenClaim := { program := "ytobdpbnadjkhiaa", sum := "b2b5d4f0736494237c22557e35caab4ac4dc9e2d83503fb1c2640d2a232ec9d0", func := "jurat/juratlaw21.DocketStays", spec := "docketStays", unfollowed := true, recurses := true, apart := false, narrowed := true }
def DocketStaysUptoSaid : Prop := docketStaysUptoRow.holds Try.pinned (OpenSpec.upto docketStaysSpec)

/-- 'juratlaw21.DocketKeys', WHERE WHAT IT READS IS OF BULK AT MOST 1048576: true; the input reads as it did. -/
def docketKeysUptoRow : OpenClaim := { program := "ytobdpbnadjkhiaa", sum := "b2b5d4f0736494237c22557e35caab4ac4dc9e2d83503fb1c2640d2a232ec9d0", func := "jurat/juratlaw21.DocketKeys", spec := "docketKeys", unfollowed := true, recurses := true, apart := false, narrowed := true }
def DocketKeysUptoSaid : Prop := docketKeysUptoRow.holds Try.pinned (OpenSpec.upto docketKeysSpec)

/-- 'juratlaw21.DocketHonest', WHERE WHAT IT READS IS OF BULK AT MOST 1048576: true; the input reads as it did. -/
def docketHonestUptoRow : OpenClaim := { program := "ytobdpbnadjkhiaa", sum := "b2b5d4f0736494237c22557e35caab4ac4dc9e2d83503fb1c2640d2a232ec9d0", func := "jurat/juratlaw21.DocketHonest", spec := "docketHonest", unfollowed := true, recurses := true, apart := false, narrowed := true }
def DocketHonestUptoSaid : Prop := docketHonestUptoRow.holds Try.pinned (OpenSpec.upto docketHonestSpec)

end Rows
end Go.Proofs.Ytobdpbnadjkhiaa
