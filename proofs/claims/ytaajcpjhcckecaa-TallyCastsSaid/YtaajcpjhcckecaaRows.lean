/-
  No cell of these rows narrows 'for every input' (looked for: loops, veiled, ifaces, maps, wideKeys, modest, calm, conditions, laid).
  DERIVED. THE GIVEN ROWS OF THIS SEAT. 6 by the template 'for every input the law returns true; each argument reads behind the call as it read before'; 0 by the template 'total and deterministic' (their statements: YtaajcpjhcckecaaTotals.lean).
  GIVEN WITH THE SEED: the statements are not yours to turn. If you find one false, say at which input.
  Laid BY PROGRAM, IN A SANDBOX (cutbox-rows.mjs): the forced cells as the released guide's own fill.sh prints them over the translation c7bf19d3da3bdc19… (all of the seat's roots in one cut). By AI agents, Wed Nov 11 2026. No macro, syntax, notation, axiom, sorry.
-/
import Derived.Test.YtaajcpjhcckecaaChecked
import GoSem.Claim
import GoSem.ClaimJoined
import GoSem.ClaimMapViews
import Derived.JoinedTies
import Derived.KernelRfl
namespace Go.Proofs.Ytaajcpjhcckecaa
/- THE CELL 'sum', in the pinned program and in every row, IS THE sha256 OF THE DUMP (.gsa) THAT YtaajcpjhcckecaaProg.lean LOADS. Nothing in Lean hashes anything: it is a label: what it is worth is what the hold of that sum in a sandbox is worth. -/
noncomputable def Try.pinned : Pinned := { name := "ytaajcpjhcckecaa", sum := "c7bf19d3da3bdc197b7ef3934baff31060a646abd68255c9ab5588332555de55", checked := Try.checked }
namespace Rows
def none {H : Type} : Left H := { results := [], args := [] }

/-- 'juratlaw19.TallyHonest': WHATEVER THE INPUT: true; the input reads as it did. -/
def tallyHonestSpec : ChangeSpec := { name := "tallyHonest", fn := fun _ => fun
  | [d1, d2, d3] => { results := [.lit (.bool true)], args := [d1, d2, d3] }
  | _ => none }
def tallyHonestRow : OpenClaim := { program := "ytaajcpjhcckecaa", sum := "c7bf19d3da3bdc197b7ef3934baff31060a646abd68255c9ab5588332555de55", func := "jurat/juratlaw19.TallyHonest", spec := "tallyHonest", recurses := true, apart := false }
def TallyHonestSaid : Prop := tallyHonestRow.holds Try.pinned (OpenSpec.ofChange tallyHonestSpec)

/-- ITS FALSE NEIGHBOUR: 'it returns false'. Refute it at one input. -/
def tallyHonestWrong : ChangeSpec := { name := "tallyHonest", fn := fun _ => fun
  | [d1, d2, d3] => { results := [.lit (.bool false)], args := [d1, d2, d3] }
  | _ => none }
def TallyHonestWrongFalsely : Prop := tallyHonestRow.holds Try.pinned (OpenSpec.ofChange tallyHonestWrong)

/-- 'juratlaw19.TallyLiars': WHATEVER THE INPUT: true; the input reads as it did. -/
def tallyLiarsSpec : ChangeSpec := { name := "tallyLiars", fn := fun _ => fun
  | [d1, d2] => { results := [.lit (.bool true)], args := [d1, d2] }
  | _ => none }
def tallyLiarsRow : OpenClaim := { program := "ytaajcpjhcckecaa", sum := "c7bf19d3da3bdc197b7ef3934baff31060a646abd68255c9ab5588332555de55", func := "jurat/juratlaw19.TallyLiars", spec := "tallyLiars", recurses := true, apart := false }
def TallyLiarsSaid : Prop := tallyLiarsRow.holds Try.pinned (OpenSpec.ofChange tallyLiarsSpec)

/-- ITS FALSE NEIGHBOUR: 'it returns false'. Refute it at one input. -/
def tallyLiarsWrong : ChangeSpec := { name := "tallyLiars", fn := fun _ => fun
  | [d1, d2] => { results := [.lit (.bool false)], args := [d1, d2] }
  | _ => none }
def TallyLiarsWrongFalsely : Prop := tallyLiarsRow.holds Try.pinned (OpenSpec.ofChange tallyLiarsWrong)

/-- 'juratlaw19.TallyTells': WHATEVER THE INPUT: true; the input reads as it did. -/
def tallyTellsSpec : ChangeSpec := { name := "tallyTells", fn := fun _ => fun
  | [d1, d2, d3] => { results := [.lit (.bool true)], args := [d1, d2, d3] }
  | _ => none }
def tallyTellsRow : OpenClaim := { program := "ytaajcpjhcckecaa", sum := "c7bf19d3da3bdc197b7ef3934baff31060a646abd68255c9ab5588332555de55", func := "jurat/juratlaw19.TallyTells", spec := "tallyTells", recurses := true, apart := false }
def TallyTellsSaid : Prop := tallyTellsRow.holds Try.pinned (OpenSpec.ofChange tallyTellsSpec)

/-- ITS FALSE NEIGHBOUR: 'it returns false'. Refute it at one input. -/
def tallyTellsWrong : ChangeSpec := { name := "tallyTells", fn := fun _ => fun
  | [d1, d2, d3] => { results := [.lit (.bool false)], args := [d1, d2, d3] }
  | _ => none }
def TallyTellsWrongFalsely : Prop := tallyTellsRow.holds Try.pinned (OpenSpec.ofChange tallyTellsWrong)

/-- 'juratlaw19.TallyOne': WHATEVER THE INPUT: true; the input reads as it did. -/
def tallyOneSpec : ChangeSpec := { name := "tallyOne", fn := fun _ => fun
  | [d1, d2] => { results := [.lit (.bool true)], args := [d1, d2] }
  | _ => none }
def tallyOneRow : OpenClaim := { program := "ytaajcpjhcckecaa", sum := "c7bf19d3da3bdc197b7ef3934baff31060a646abd68255c9ab5588332555de55", func := "jurat/juratlaw19.TallyOne", spec := "tallyOne", recurses := true, apart := false }
def TallyOneSaid : Prop := tallyOneRow.holds Try.pinned (OpenSpec.ofChange tallyOneSpec)

/-- ITS FALSE NEIGHBOUR: 'it returns false'. Refute it at one input. -/
def tallyOneWrong : ChangeSpec := { name := "tallyOne", fn := fun _ => fun
  | [d1, d2] => { results := [.lit (.bool false)], args := [d1, d2] }
  | _ => none }
def TallyOneWrongFalsely : Prop := tallyOneRow.holds Try.pinned (OpenSpec.ofChange tallyOneWrong)

/-- 'juratlaw19.TallyCasts': WHATEVER THE INPUT: true; the input reads as it did. -/
def tallyCastsSpec : ChangeSpec := { name := "tallyCasts", fn := fun _ => fun
  | [d] => { results := [.lit (.bool true)], args := [d] }
  | _ => none }
def tallyCastsRow : OpenClaim := { program := "ytaajcpjhcckecaa", sum := "c7bf19d3da3bdc197b7ef3934baff31060a646abd68255c9ab5588332555de55", func := "jurat/juratlaw19.TallyCasts", spec := "tallyCasts", recurses := true, apart := false }
def TallyCastsSaid : Prop := tallyCastsRow.holds Try.pinned (OpenSpec.ofChange tallyCastsSpec)

/-- ITS FALSE NEIGHBOUR: 'it returns false'. Refute it at one input. -/
def tallyCastsWrong : ChangeSpec := { name := "tallyCasts", fn := fun _ => fun
  | [d] => { results := [.lit (.bool false)], args := [d] }
  | _ => none }
def TallyCastsWrongFalsely : Prop := tallyCastsRow.holds Try.pinned (OpenSpec.ofChange tallyCastsWrong)

/-- 'juratlaw19.TallyStays': WHATEVER THE INPUT: true; the input reads as it did. -/
def tallyStaysSpec : ChangeSpec := { name := "tallyStays", fn := fun _ => fun
  | [d1, d2] => { results := [.lit (.bool true)], args := [d1, d2] }
  | _ => none }
def tallyStaysRow : OpenClaim := { program := "ytaajcpjhcckecaa", sum := "c7bf19d3da3bdc197b7ef3934baff31060a646abd68255c9ab5588332555de55", func := "jurat/juratlaw19.TallyStays", spec := "tallyStays", recurses := true, apart := false }
def TallyStaysSaid : Prop := tallyStaysRow.holds Try.pinned (OpenSpec.ofChange tallyStaysSpec)

/-- ITS FALSE NEIGHBOUR: 'it returns false'. Refute it at one input. -/
def tallyStaysWrong : ChangeSpec := { name := "tallyStays", fn := fun _ => fun
  | [d1, d2] => { results := [.lit (.bool false)], args := [d1, d2] }
  | _ => none }
def TallyStaysWrongFalsely : Prop := tallyStaysRow.holds Try.pinned (OpenSpec.ofChange tallyStaysWrong)

/- THE SECOND FORM. 'bulk': how many values and letters a reading holds, each counted each time it is reached (what is shared counts as often as it is met; a slice's spare places count too). A statement '..UptoSaid' is the law's where the arguments, and the package variables that the reading takes, are together of bulk at most 1048576: NARROWER than '..Said'. Prove '..Said' where nothing that the law and all that it calls make is longer than what came in: it says more and counts as full. Else prove '..UptoSaid'. A law counts once. -/
mutual
def uptoBulk {H : Type} : DataW H → Nat
  | .lit (.string bytes) => bytes.length + 1
  | .lit _ => 1
  | .nil => 1
  | .ptr d => uptoBulk d + 1
  | .slice elems spare => uptoBulkAll elems + uptoBulkAll spare + 1
  | .agg parts => uptoBulkAll parts + 1
  | .iface _ d => uptoBulk d + 1
  | .map entries => uptoBulkEntries entries + 1
  | .held _ => 1
def uptoBulkAll {H : Type} : List (DataW H) → Nat
  | [] => 0
  | d :: r => uptoBulk d + uptoBulkAll r
def uptoBulkEntries {H : Type} : List (Lit × DataW H) → Nat
  | [] => 0
  | x :: r => uptoBulkEntry x + uptoBulkEntries r
def uptoBulkEntry {H : Type} : Lit × DataW H → Nat
  | (.string bytes, d) => bytes.length + uptoBulk d + 1
  | (_, d) => uptoBulk d + 1
 end
def uptoSmall : (H : Type) → List (DataW H) → Bool := fun _ ds => decide (uptoBulkAll ds ≤ 1048576)
def OpenSpec.upto (s : _root_.Go.ChangeSpec) : _root_.Go.OpenSpec := { _root_.Go.OpenSpec.ofChange s with cond := some uptoSmall }

/-- 'juratlaw19.TallyHonest', WHERE WHAT IT READS IS OF BULK AT MOST 1048576: true; the input reads as it did. -/
def tallyHonestUptoRow : OpenClaim := { program := "ytaajcpjhcckecaa", sum := "c7bf19d3da3bdc197b7ef3934baff31060a646abd68255c9ab5588332555de55", func := "jurat/juratlaw19.TallyHonest", spec := "tallyHonest", recurses := true, apart := false, narrowed := true }
def TallyHonestUptoSaid : Prop := tallyHonestUptoRow.holds Try.pinned (OpenSpec.upto tallyHonestSpec)

/-- 'juratlaw19.TallyLiars', WHERE WHAT IT READS IS OF BULK AT MOST 1048576: true; the input reads as it did. -/
def tallyLiarsUptoRow : OpenClaim := { program := "ytaajcpjhcckecaa", sum := "c7bf19d3da3bdc197b7ef3934baff31060a646abd68255c9ab5588332555de55", func := "jurat/juratlaw19.TallyLiars", spec := "tallyLiars", recurses := true, apart := false, narrowed := true }
def TallyLiarsUptoSaid : Prop := tallyLiarsUptoRow.holds Try.pinned (OpenSpec.upto tallyLiarsSpec)

/-- 'juratlaw19.TallyTells', WHERE WHAT IT READS IS OF BULK AT MOST 1048576: true; the input reads as it did. -/
def tallyTellsUptoRow : OpenClaim := { program := "ytaajcpjhcckecaa", sum := "c7bf19d3da3bdc197b7ef3934baff31060a646abd68255c9ab5588332555de55", func := "jurat/juratlaw19.TallyTells", spec := "tallyTells", recurses := true, apart := false, narrowed := true }
def TallyTellsUptoSaid : Prop := tallyTellsUptoRow.holds Try.pinned (OpenSpec.upto tallyTellsSpec)

/-- 'juratlaw19.TallyOne', WHERE WHAT IT READS IS OF BULK AT MOST 1048576: true; the input reads as it did. -/
def tallyOneUptoRow : OpenClaim := { program := "ytaajcpjhcckecaa", sum := "c7bf19d3da3bdc197b7ef3934baff31060a646abd68255c9ab5588332555de55", func := "jurat/juratlaw19.TallyOne", spec := "tallyOne", recurses := true, apart := false, narrowed := true }
def TallyOneUptoSaid : Prop := tallyOneUptoRow.holds Try.pinned (OpenSpec.upto tallyOneSpec)

/-- 'juratlaw19.TallyCasts', WHERE WHAT IT READS IS OF BULK AT MOST 1048576: true; the input reads as it did. -/
def tallyCastsUptoRow : OpenClaim := { program := "ytaajcpjhcckecaa", sum := "c7bf19d3da3bdc197b7ef3934baff31060a646abd68255c9ab5588332555de55", func := "jurat/juratlaw19.TallyCasts", spec := "tallyCasts", recurses := true, apart := false, narrowed := true }
def TallyCastsUptoSaid : Prop := tallyCastsUptoRow.holds Try.pinned (OpenSpec.upto tallyCastsSpec)

/-- 'juratlaw19.TallyStays', WHERE WHAT IT READS IS OF BULK AT MOST 1048576: true; the input reads as it did. -/
def tallyStaysUptoRow : OpenClaim := { program := "ytaajcpjhcckecaa", sum := "c7bf19d3da3bdc197b7ef3934baff31060a646abd68255c9ab5588332555de55", func := "jurat/juratlaw19.TallyStays", spec := "tallyStays", recurses := true, apart := false, narrowed := true }
def TallyStaysUptoSaid : Prop := tallyStaysUptoRow.holds Try.pinned (OpenSpec.upto tallyStaysSpec)

end Rows
end Go.Proofs.Ytaajcpjhcckecaa
