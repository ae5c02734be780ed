/-
  NARROWER THAN 'FOR EVERY INPUT', by the rows' own cells (each row's printed sentence says how): LedgerFull: laid · ProofRoots: laid · ProofGrows: laid · ProofMakes: laid · ProofShort: laid · ProofIncluded: laid · ProofConsistent: laid · LedgerIncludes: laid · LedgerOwn: laid · ProofBack: laid · LedgerPlays: laid · LedgerStays: laid · LedgerNil: laid · LedgerConsists: laid.
  DERIVED. THE GIVEN ROWS OF THIS SEAT. 14 by the template 'for every input the law returns true; each argument reads behind the call as it read before'; 0 by the template 'total and deterministic' (their statements: YthdlfclkcdnenaaDoorTotals.lean).
  GIVEN WITH THE SEED: the statements are not yours to turn. If you find one false, say at which input.
  Laid BY PROGRAM, IN A SANDBOX (cutbox-rows.mjs): the forced cells as the released guide's own fill.sh prints them over the translation a29ca470a23f081b… (all of the seat's roots in one cut). By AI agents, Wed Nov 11 2026. No macro, syntax, notation, axiom, sorry.
-/
import Derived.Test.YthdlfclkcdnenaaDoorChecked
import GoSem.Claim
import GoSem.ClaimJoined
import GoSem.ClaimMapViews
import Derived.JoinedTies
import Derived.KernelRfl
namespace Go.Proofs.YthdlfclkcdnenaaDoor
/- THE CELL 'sum', in the pinned program and in every row, IS THE sha256 OF THE DUMP (.gsa) THAT YthdlfclkcdnenaaDoorProg.lean LOADS. Nothing in Lean hashes anything: it is a label: what it is worth is what the hold of that sum in a sandbox is worth. -/
noncomputable def Tryd.pinned : Pinned := { name := "ythdlfclkcdnenaadoor", sum := "a29ca470a23f081b7e7ef2865c770ba2e74206c3e119ab976ee53b6623315c42", checked := Tryd.checked }
namespace Rows
def none {H : Type} : Left H := { results := [], args := [] }

/- WHAT THE LISTED PACKAGE-LEVEL VARIABLES READ AS WHEN THE CALL BEGINS. Each datum BY PROGRAM (the guide's laid-datum.mjs) off the statement by which the dump's own 'gosem.cut.vars' lays the variable. In a bare row this is a premise. The card (YthdlfclkcdnenaaDoorCards.lean) ties it to the program's text. -/
def laid_jurat_sha_k {H : Type} : DataW H := .agg [.lit (.int .u32 1116352408), .lit (.int .u32 1899447441), .lit (.int .u32 3049323471), .lit (.int .u32 3921009573), .lit (.int .u32 961987163), .lit (.int .u32 1508970993), .lit (.int .u32 2453635748), .lit (.int .u32 2870763221), .lit (.int .u32 3624381080), .lit (.int .u32 310598401), .lit (.int .u32 607225278), .lit (.int .u32 1426881987), .lit (.int .u32 1925078388), .lit (.int .u32 2162078206), .lit (.int .u32 2614888103), .lit (.int .u32 3248222580), .lit (.int .u32 3835390401), .lit (.int .u32 4022224774), .lit (.int .u32 264347078), .lit (.int .u32 604807628), .lit (.int .u32 770255983), .lit (.int .u32 1249150122), .lit (.int .u32 1555081692), .lit (.int .u32 1996064986), .lit (.int .u32 2554220882), .lit (.int .u32 2821834349), .lit (.int .u32 2952996808), .lit (.int .u32 3210313671), .lit (.int .u32 3336571891), .lit (.int .u32 3584528711), .lit (.int .u32 113926993), .lit (.int .u32 338241895), .lit (.int .u32 666307205), .lit (.int .u32 773529912), .lit (.int .u32 1294757372), .lit (.int .u32 1396182291), .lit (.int .u32 1695183700), .lit (.int .u32 1986661051), .lit (.int .u32 2177026350), .lit (.int .u32 2456956037), .lit (.int .u32 2730485921), .lit (.int .u32 2820302411), .lit (.int .u32 3259730800), .lit (.int .u32 3345764771), .lit (.int .u32 3516065817), .lit (.int .u32 3600352804), .lit (.int .u32 4094571909), .lit (.int .u32 275423344), .lit (.int .u32 430227734), .lit (.int .u32 506948616), .lit (.int .u32 659060556), .lit (.int .u32 883997877), .lit (.int .u32 958139571), .lit (.int .u32 1322822218), .lit (.int .u32 1537002063), .lit (.int .u32 1747873779), .lit (.int .u32 1955562222), .lit (.int .u32 2024104815), .lit (.int .u32 2227730452), .lit (.int .u32 2361852424), .lit (.int .u32 2428436474), .lit (.int .u32 2756734187), .lit (.int .u32 3204031479), .lit (.int .u32 3329325298)]
def laid_jurat_sha_begin {H : Type} : DataW H := .agg [.lit (.int .u32 1779033703), .lit (.int .u32 3144134277), .lit (.int .u32 1013904242), .lit (.int .u32 2773480762), .lit (.int .u32 1359893119), .lit (.int .u32 2600822924), .lit (.int .u32 528734635), .lit (.int .u32 1541459225)]
def laid_jurat_juratref02_first {H : Type} : DataW H := .agg [.lit (.int .u32 1779033703), .lit (.int .u32 3144134277), .lit (.int .u32 1013904242), .lit (.int .u32 2773480762), .lit (.int .u32 1359893119), .lit (.int .u32 2600822924), .lit (.int .u32 528734635), .lit (.int .u32 1541459225)]
def laid_jurat_juratref02_constants {H : Type} : DataW H := .agg [.lit (.int .u32 1116352408), .lit (.int .u32 1899447441), .lit (.int .u32 3049323471), .lit (.int .u32 3921009573), .lit (.int .u32 961987163), .lit (.int .u32 1508970993), .lit (.int .u32 2453635748), .lit (.int .u32 2870763221), .lit (.int .u32 3624381080), .lit (.int .u32 310598401), .lit (.int .u32 607225278), .lit (.int .u32 1426881987), .lit (.int .u32 1925078388), .lit (.int .u32 2162078206), .lit (.int .u32 2614888103), .lit (.int .u32 3248222580), .lit (.int .u32 3835390401), .lit (.int .u32 4022224774), .lit (.int .u32 264347078), .lit (.int .u32 604807628), .lit (.int .u32 770255983), .lit (.int .u32 1249150122), .lit (.int .u32 1555081692), .lit (.int .u32 1996064986), .lit (.int .u32 2554220882), .lit (.int .u32 2821834349), .lit (.int .u32 2952996808), .lit (.int .u32 3210313671), .lit (.int .u32 3336571891), .lit (.int .u32 3584528711), .lit (.int .u32 113926993), .lit (.int .u32 338241895), .lit (.int .u32 666307205), .lit (.int .u32 773529912), .lit (.int .u32 1294757372), .lit (.int .u32 1396182291), .lit (.int .u32 1695183700), .lit (.int .u32 1986661051), .lit (.int .u32 2177026350), .lit (.int .u32 2456956037), .lit (.int .u32 2730485921), .lit (.int .u32 2820302411), .lit (.int .u32 3259730800), .lit (.int .u32 3345764771), .lit (.int .u32 3516065817), .lit (.int .u32 3600352804), .lit (.int .u32 4094571909), .lit (.int .u32 275423344), .lit (.int .u32 430227734), .lit (.int .u32 506948616), .lit (.int .u32 659060556), .lit (.int .u32 883997877), .lit (.int .u32 958139571), .lit (.int .u32 1322822218), .lit (.int .u32 1537002063), .lit (.int .u32 1747873779), .lit (.int .u32 1955562222), .lit (.int .u32 2024104815), .lit (.int .u32 2227730452), .lit (.int .u32 2361852424), .lit (.int .u32 2428436474), .lit (.int .u32 2756734187), .lit (.int .u32 3204031479), .lit (.int .u32 3329325298)]

/-- 'juratlaw09.LedgerFull': WHATEVER THE INPUT: true; the input reads as it did. -/
def ledgerFullSpec : ChangeSpec := { name := "ledgerFull", fn := fun _ => fun
  | [d] => { results := [.lit (.bool true)], args := [d] }
  | _ => none }
def ledgerFullRow : OpenClaim := { program := "ythdlfclkcdnenaadoor", sum := "a29ca470a23f081b7e7ef2865c770ba2e74206c3e119ab976ee53b6623315c42", func := "jurat/juratlaw09.LedgerFull", spec := "ledgerFull", named := ["jurat/sha.begin", "jurat/sha.k"], apart := false, laid := [("jurat/sha.k", laid_jurat_sha_k), ("jurat/sha.begin", laid_jurat_sha_begin)] }
def LedgerFullSaid : Prop := ledgerFullRow.holds Tryd.pinned (OpenSpec.ofChange ledgerFullSpec)

/-- ITS FALSE NEIGHBOUR: 'it returns false'. Refute it at one input. -/
def ledgerFullWrong : ChangeSpec := { name := "ledgerFull", fn := fun _ => fun
  | [d] => { results := [.lit (.bool false)], args := [d] }
  | _ => none }
def LedgerFullWrongFalsely : Prop := ledgerFullRow.holds Tryd.pinned (OpenSpec.ofChange ledgerFullWrong)

/-- 'juratlaw08.ProofRoots': WHATEVER THE INPUT: true; the input reads as it did. -/
def proofRootsSpec : ChangeSpec := { name := "proofRoots", fn := fun _ => fun
  | [d1, d2, d3, d4] => { results := [.lit (.bool true)], args := [d1, d2, d3, d4] }
  | _ => none }
def proofRootsRow : OpenClaim := { program := "ythdlfclkcdnenaadoor", sum := "a29ca470a23f081b7e7ef2865c770ba2e74206c3e119ab976ee53b6623315c42", func := "jurat/juratlaw08.ProofRoots", spec := "proofRoots", recurses := true, named := ["jurat/sha.begin", "jurat/sha.k", "jurat/juratref02.first", "jurat/juratref02.constants"], apart := false, laid := [("jurat/juratref02.first", laid_jurat_juratref02_first), ("jurat/juratref02.constants", laid_jurat_juratref02_constants), ("jurat/sha.k", laid_jurat_sha_k), ("jurat/sha.begin", laid_jurat_sha_begin)] }
def ProofRootsSaid : Prop := proofRootsRow.holds Tryd.pinned (OpenSpec.ofChange proofRootsSpec)

/-- ITS FALSE NEIGHBOUR: 'it returns false'. Refute it at one input. -/
def proofRootsWrong : ChangeSpec := { name := "proofRoots", fn := fun _ => fun
  | [d1, d2, d3, d4] => { results := [.lit (.bool false)], args := [d1, d2, d3, d4] }
  | _ => none }
def ProofRootsWrongFalsely : Prop := proofRootsRow.holds Tryd.pinned (OpenSpec.ofChange proofRootsWrong)

/-- 'juratlaw08.ProofGrows': WHATEVER THE INPUT: true; the input reads as it did. -/
def proofGrowsSpec : ChangeSpec := { name := "proofGrows", fn := fun _ => fun
  | [d1, d2] => { results := [.lit (.bool true)], args := [d1, d2] }
  | _ => none }
def proofGrowsRow : OpenClaim := { program := "ythdlfclkcdnenaadoor", sum := "a29ca470a23f081b7e7ef2865c770ba2e74206c3e119ab976ee53b6623315c42", func := "jurat/juratlaw08.ProofGrows", spec := "proofGrows", named := ["jurat/sha.begin", "jurat/sha.k"], apart := false, laid := [("jurat/sha.k", laid_jurat_sha_k), ("jurat/sha.begin", laid_jurat_sha_begin)] }
def ProofGrowsSaid : Prop := proofGrowsRow.holds Tryd.pinned (OpenSpec.ofChange proofGrowsSpec)

/-- ITS FALSE NEIGHBOUR: 'it returns false'. Refute it at one input. -/
def proofGrowsWrong : ChangeSpec := { name := "proofGrows", fn := fun _ => fun
  | [d1, d2] => { results := [.lit (.bool false)], args := [d1, d2] }
  | _ => none }
def ProofGrowsWrongFalsely : Prop := proofGrowsRow.holds Tryd.pinned (OpenSpec.ofChange proofGrowsWrong)

/-- 'juratlaw08.ProofMakes': WHATEVER THE INPUT: true; the input reads as it did. -/
def proofMakesSpec : ChangeSpec := { name := "proofMakes", fn := fun _ => fun
  | [d1, d2] => { results := [.lit (.bool true)], args := [d1, d2] }
  | _ => none }
def proofMakesRow : OpenClaim := { program := "ythdlfclkcdnenaadoor", sum := "a29ca470a23f081b7e7ef2865c770ba2e74206c3e119ab976ee53b6623315c42", func := "jurat/juratlaw08.ProofMakes", spec := "proofMakes", recurses := true, named := ["jurat/sha.begin", "jurat/sha.k", "jurat/juratref02.first", "jurat/juratref02.constants"], apart := false, laid := [("jurat/juratref02.first", laid_jurat_juratref02_first), ("jurat/juratref02.constants", laid_jurat_juratref02_constants), ("jurat/sha.k", laid_jurat_sha_k), ("jurat/sha.begin", laid_jurat_sha_begin)] }
def ProofMakesSaid : Prop := proofMakesRow.holds Tryd.pinned (OpenSpec.ofChange proofMakesSpec)

/-- ITS FALSE NEIGHBOUR: 'it returns false'. Refute it at one input. -/
def proofMakesWrong : ChangeSpec := { name := "proofMakes", fn := fun _ => fun
  | [d1, d2] => { results := [.lit (.bool false)], args := [d1, d2] }
  | _ => none }
def ProofMakesWrongFalsely : Prop := proofMakesRow.holds Tryd.pinned (OpenSpec.ofChange proofMakesWrong)

/-- 'juratlaw08.ProofShort': WHATEVER THE INPUT: true; the input reads as it did. -/
def proofShortSpec : ChangeSpec := { name := "proofShort", fn := fun _ => fun
  | [d1, d2] => { results := [.lit (.bool true)], args := [d1, d2] }
  | _ => none }
def proofShortRow : OpenClaim := { program := "ythdlfclkcdnenaadoor", sum := "a29ca470a23f081b7e7ef2865c770ba2e74206c3e119ab976ee53b6623315c42", func := "jurat/juratlaw08.ProofShort", spec := "proofShort", named := ["jurat/sha.begin", "jurat/sha.k"], apart := false, laid := [("jurat/sha.k", laid_jurat_sha_k), ("jurat/sha.begin", laid_jurat_sha_begin)] }
def ProofShortSaid : Prop := proofShortRow.holds Tryd.pinned (OpenSpec.ofChange proofShortSpec)

/-- ITS FALSE NEIGHBOUR: 'it returns false'. Refute it at one input. -/
def proofShortWrong : ChangeSpec := { name := "proofShort", fn := fun _ => fun
  | [d1, d2] => { results := [.lit (.bool false)], args := [d1, d2] }
  | _ => none }
def ProofShortWrongFalsely : Prop := proofShortRow.holds Tryd.pinned (OpenSpec.ofChange proofShortWrong)

/-- 'juratlaw08.ProofIncluded': WHATEVER THE INPUT: true; the input reads as it did. -/
def proofIncludedSpec : ChangeSpec := { name := "proofIncluded", fn := fun _ => fun
  | [d1, d2, d3, d4, d5] => { results := [.lit (.bool true)], args := [d1, d2, d3, d4, d5] }
  | _ => none }
def proofIncludedRow : OpenClaim := { program := "ythdlfclkcdnenaadoor", sum := "a29ca470a23f081b7e7ef2865c770ba2e74206c3e119ab976ee53b6623315c42", func := "jurat/juratlaw08.ProofIncluded", spec := "proofIncluded", recurses := true, named := ["jurat/sha.begin", "jurat/sha.k", "jurat/juratref02.first", "jurat/juratref02.constants"], apart := false, laid := [("jurat/juratref02.first", laid_jurat_juratref02_first), ("jurat/juratref02.constants", laid_jurat_juratref02_constants), ("jurat/sha.k", laid_jurat_sha_k), ("jurat/sha.begin", laid_jurat_sha_begin)] }
def ProofIncludedSaid : Prop := proofIncludedRow.holds Tryd.pinned (OpenSpec.ofChange proofIncludedSpec)

/-- ITS FALSE NEIGHBOUR: 'it returns false'. Refute it at one input. -/
def proofIncludedWrong : ChangeSpec := { name := "proofIncluded", fn := fun _ => fun
  | [d1, d2, d3, d4, d5] => { results := [.lit (.bool false)], args := [d1, d2, d3, d4, d5] }
  | _ => none }
def ProofIncludedWrongFalsely : Prop := proofIncludedRow.holds Tryd.pinned (OpenSpec.ofChange proofIncludedWrong)

/-- 'juratlaw08.ProofConsistent': WHATEVER THE INPUT: true; the input reads as it did. -/
def proofConsistentSpec : ChangeSpec := { name := "proofConsistent", fn := fun _ => fun
  | [d1, d2, d3, d4, d5] => { results := [.lit (.bool true)], args := [d1, d2, d3, d4, d5] }
  | _ => none }
def proofConsistentRow : OpenClaim := { program := "ythdlfclkcdnenaadoor", sum := "a29ca470a23f081b7e7ef2865c770ba2e74206c3e119ab976ee53b6623315c42", func := "jurat/juratlaw08.ProofConsistent", spec := "proofConsistent", recurses := true, named := ["jurat/sha.begin", "jurat/sha.k", "jurat/juratref02.first", "jurat/juratref02.constants"], apart := false, laid := [("jurat/juratref02.first", laid_jurat_juratref02_first), ("jurat/juratref02.constants", laid_jurat_juratref02_constants), ("jurat/sha.k", laid_jurat_sha_k), ("jurat/sha.begin", laid_jurat_sha_begin)] }
def ProofConsistentSaid : Prop := proofConsistentRow.holds Tryd.pinned (OpenSpec.ofChange proofConsistentSpec)

/-- ITS FALSE NEIGHBOUR: 'it returns false'. Refute it at one input. -/
def proofConsistentWrong : ChangeSpec := { name := "proofConsistent", fn := fun _ => fun
  | [d1, d2, d3, d4, d5] => { results := [.lit (.bool false)], args := [d1, d2, d3, d4, d5] }
  | _ => none }
def ProofConsistentWrongFalsely : Prop := proofConsistentRow.holds Tryd.pinned (OpenSpec.ofChange proofConsistentWrong)

/-- 'juratlaw09.LedgerIncludes': WHATEVER THE INPUT: true; the input reads as it did. -/
def ledgerIncludesSpec : ChangeSpec := { name := "ledgerIncludes", fn := fun _ => fun
  | [d1, d2, d3] => { results := [.lit (.bool true)], args := [d1, d2, d3] }
  | _ => none }
def ledgerIncludesRow : OpenClaim := { program := "ythdlfclkcdnenaadoor", sum := "a29ca470a23f081b7e7ef2865c770ba2e74206c3e119ab976ee53b6623315c42", func := "jurat/juratlaw09.LedgerIncludes", spec := "ledgerIncludes", named := ["jurat/sha.begin", "jurat/sha.k"], apart := false, laid := [("jurat/sha.k", laid_jurat_sha_k), ("jurat/sha.begin", laid_jurat_sha_begin)] }
def LedgerIncludesSaid : Prop := ledgerIncludesRow.holds Tryd.pinned (OpenSpec.ofChange ledgerIncludesSpec)

/-- ITS FALSE NEIGHBOUR: 'it returns false'. Refute it at one input. -/
def ledgerIncludesWrong : ChangeSpec := { name := "ledgerIncludes", fn := fun _ => fun
  | [d1, d2, d3] => { results := [.lit (.bool false)], args := [d1, d2, d3] }
  | _ => none }
def LedgerIncludesWrongFalsely : Prop := ledgerIncludesRow.holds Tryd.pinned (OpenSpec.ofChange ledgerIncludesWrong)

/-- 'juratlaw09.LedgerOwn': WHATEVER THE INPUT: true; the input reads as it did. -/
def ledgerOwnSpec : ChangeSpec := { name := "ledgerOwn", fn := fun _ => fun
  | [d1, d2] => { results := [.lit (.bool true)], args := [d1, d2] }
  | _ => none }
def ledgerOwnRow : OpenClaim := { program := "ythdlfclkcdnenaadoor", sum := "a29ca470a23f081b7e7ef2865c770ba2e74206c3e119ab976ee53b6623315c42", func := "jurat/juratlaw09.LedgerOwn", spec := "ledgerOwn", named := ["jurat/sha.begin", "jurat/sha.k"], apart := false, laid := [("jurat/sha.k", laid_jurat_sha_k), ("jurat/sha.begin", laid_jurat_sha_begin)] }
def LedgerOwnSaid : Prop := ledgerOwnRow.holds Tryd.pinned (OpenSpec.ofChange ledgerOwnSpec)

/-- ITS FALSE NEIGHBOUR: 'it returns false'. Refute it at one input. -/
def ledgerOwnWrong : ChangeSpec := { name := "ledgerOwn", fn := fun _ => fun
  | [d1, d2] => { results := [.lit (.bool false)], args := [d1, d2] }
  | _ => none }
def LedgerOwnWrongFalsely : Prop := ledgerOwnRow.holds Tryd.pinned (OpenSpec.ofChange ledgerOwnWrong)

/-- 'juratlaw08.ProofBack': WHATEVER THE INPUT: true; the input reads as it did. -/
def proofBackSpec : ChangeSpec := { name := "proofBack", fn := fun _ => fun
  | [d1, d2] => { results := [.lit (.bool true)], args := [d1, d2] }
  | _ => none }
def proofBackRow : OpenClaim := { program := "ythdlfclkcdnenaadoor", sum := "a29ca470a23f081b7e7ef2865c770ba2e74206c3e119ab976ee53b6623315c42", func := "jurat/juratlaw08.ProofBack", spec := "proofBack", named := ["jurat/sha.begin", "jurat/sha.k"], apart := false, laid := [("jurat/sha.k", laid_jurat_sha_k), ("jurat/sha.begin", laid_jurat_sha_begin)] }
def ProofBackSaid : Prop := proofBackRow.holds Tryd.pinned (OpenSpec.ofChange proofBackSpec)

/-- ITS FALSE NEIGHBOUR: 'it returns false'. Refute it at one input. -/
def proofBackWrong : ChangeSpec := { name := "proofBack", fn := fun _ => fun
  | [d1, d2] => { results := [.lit (.bool false)], args := [d1, d2] }
  | _ => none }
def ProofBackWrongFalsely : Prop := proofBackRow.holds Tryd.pinned (OpenSpec.ofChange proofBackWrong)

/-- 'juratlaw09.LedgerPlays': WHATEVER THE INPUT: true; the input reads as it did. -/
def ledgerPlaysSpec : ChangeSpec := { name := "ledgerPlays", fn := fun _ => fun
  | [d] => { results := [.lit (.bool true)], args := [d] }
  | _ => none }
def ledgerPlaysRow : OpenClaim := { program := "ythdlfclkcdnenaadoor", sum := "a29ca470a23f081b7e7ef2865c770ba2e74206c3e119ab976ee53b6623315c42", func := "jurat/juratlaw09.LedgerPlays", spec := "ledgerPlays", recurses := true, named := ["jurat/sha.begin", "jurat/sha.k", "jurat/juratref02.first", "jurat/juratref02.constants"], apart := false, laid := [("jurat/juratref02.first", laid_jurat_juratref02_first), ("jurat/juratref02.constants", laid_jurat_juratref02_constants), ("jurat/sha.k", laid_jurat_sha_k), ("jurat/sha.begin", laid_jurat_sha_begin)] }
def LedgerPlaysSaid : Prop := ledgerPlaysRow.holds Tryd.pinned (OpenSpec.ofChange ledgerPlaysSpec)

/-- ITS FALSE NEIGHBOUR: 'it returns false'. Refute it at one input. -/
def ledgerPlaysWrong : ChangeSpec := { name := "ledgerPlays", fn := fun _ => fun
  | [d] => { results := [.lit (.bool false)], args := [d] }
  | _ => none }
def LedgerPlaysWrongFalsely : Prop := ledgerPlaysRow.holds Tryd.pinned (OpenSpec.ofChange ledgerPlaysWrong)

/-- 'juratlaw09.LedgerStays': WHATEVER THE INPUT: true; the input reads as it did. -/
def ledgerStaysSpec : ChangeSpec := { name := "ledgerStays", fn := fun _ => fun
  | [d1, d2, d3, d4] => { results := [.lit (.bool true)], args := [d1, d2, d3, d4] }
  | _ => none }
def ledgerStaysRow : OpenClaim := { program := "ythdlfclkcdnenaadoor", sum := "a29ca470a23f081b7e7ef2865c770ba2e74206c3e119ab976ee53b6623315c42", func := "jurat/juratlaw09.LedgerStays", spec := "ledgerStays", named := ["jurat/sha.begin", "jurat/sha.k"], apart := false, laid := [("jurat/sha.k", laid_jurat_sha_k), ("jurat/sha.begin", laid_jurat_sha_begin)] }
def LedgerStaysSaid : Prop := ledgerStaysRow.holds Tryd.pinned (OpenSpec.ofChange ledgerStaysSpec)

/-- ITS FALSE NEIGHBOUR: 'it returns false'. Refute it at one input. -/
def ledgerStaysWrong : ChangeSpec := { name := "ledgerStays", fn := fun _ => fun
  | [d1, d2, d3, d4] => { results := [.lit (.bool false)], args := [d1, d2, d3, d4] }
  | _ => none }
def LedgerStaysWrongFalsely : Prop := ledgerStaysRow.holds Tryd.pinned (OpenSpec.ofChange ledgerStaysWrong)

/-- 'juratlaw09.LedgerNil': WHATEVER THE INPUT: true; the input reads as it did. -/
def ledgerNilSpec : ChangeSpec := { name := "ledgerNil", fn := fun _ => fun
  | [d1, d2, d3] => { results := [.lit (.bool true)], args := [d1, d2, d3] }
  | _ => none }
def ledgerNilRow : OpenClaim := { program := "ythdlfclkcdnenaadoor", sum := "a29ca470a23f081b7e7ef2865c770ba2e74206c3e119ab976ee53b6623315c42", func := "jurat/juratlaw09.LedgerNil", spec := "ledgerNil", named := ["jurat/sha.begin", "jurat/sha.k"], apart := false, laid := [("jurat/sha.k", laid_jurat_sha_k), ("jurat/sha.begin", laid_jurat_sha_begin)] }
def LedgerNilSaid : Prop := ledgerNilRow.holds Tryd.pinned (OpenSpec.ofChange ledgerNilSpec)

/-- ITS FALSE NEIGHBOUR: 'it returns false'. Refute it at one input. -/
def ledgerNilWrong : ChangeSpec := { name := "ledgerNil", fn := fun _ => fun
  | [d1, d2, d3] => { results := [.lit (.bool false)], args := [d1, d2, d3] }
  | _ => none }
def LedgerNilWrongFalsely : Prop := ledgerNilRow.holds Tryd.pinned (OpenSpec.ofChange ledgerNilWrong)

/-- 'juratlaw09.LedgerConsists': WHATEVER THE INPUT: true; the input reads as it did. -/
def ledgerConsistsSpec : ChangeSpec := { name := "ledgerConsists", fn := fun _ => fun
  | [d1, d2, d3] => { results := [.lit (.bool true)], args := [d1, d2, d3] }
  | _ => none }
def ledgerConsistsRow : OpenClaim := { program := "ythdlfclkcdnenaadoor", sum := "a29ca470a23f081b7e7ef2865c770ba2e74206c3e119ab976ee53b6623315c42", func := "jurat/juratlaw09.LedgerConsists", spec := "ledgerConsists", named := ["jurat/sha.begin", "jurat/sha.k"], apart := false, laid := [("jurat/sha.k", laid_jurat_sha_k), ("jurat/sha.begin", laid_jurat_sha_begin)] }
def LedgerConsistsSaid : Prop := ledgerConsistsRow.holds Tryd.pinned (OpenSpec.ofChange ledgerConsistsSpec)

/-- ITS FALSE NEIGHBOUR: 'it returns false'. Refute it at one input. -/
def ledgerConsistsWrong : ChangeSpec := { name := "ledgerConsists", fn := fun _ => fun
  | [d1, d2, d3] => { results := [.lit (.bool false)], args := [d1, d2, d3] }
  | _ => none }
def LedgerConsistsWrongFalsely : Prop := ledgerConsistsRow.holds Tryd.pinned (OpenSpec.ofChange ledgerConsistsWrong)

/- THE SECOND FORM. 'bulk': how many values and letters a reading holds, each counted each time it is reached (what is shared counts as often as it is met; a slice's spare places count too). A statement '..UptoSaid' is the law's where the arguments, and the package variables that the reading takes, are together of bulk at most 1048576: NARROWER than '..Said'. Prove '..Said' where nothing that the law and all that it calls make is longer than what came in: it says more and counts as full. Else prove '..UptoSaid'. A law counts once. -/
mutual
def uptoBulk {H : Type} : DataW H → Nat
  | .lit (.string bytes) => bytes.length + 1
  | .lit _ => 1
  | .nil => 1
  | .ptr d => uptoBulk d + 1
  | .slice elems spare => uptoBulkAll elems + uptoBulkAll spare + 1
  | .agg parts => uptoBulkAll parts + 1
  | .iface _ d => uptoBulk d + 1
  | .map entries => uptoBulkEntries entries + 1
  | .held _ => 1
def uptoBulkAll {H : Type} : List (DataW H) → Nat
  | [] => 0
  | d :: r => uptoBulk d + uptoBulkAll r
def uptoBulkEntries {H : Type} : List (Lit × DataW H) → Nat
  | [] => 0
  | x :: r => uptoBulkEntry x + uptoBulkEntries r
def uptoBulkEntry {H : Type} : Lit × DataW H → Nat
  | (.string bytes, d) => bytes.length + uptoBulk d + 1
  | (_, d) => uptoBulk d + 1
 end
def uptoSmall : (H : Type) → List (DataW H) → Bool := fun _ ds => decide (uptoBulkAll ds ≤ 1048576)
def OpenSpec.upto (s : _root_.Go.ChangeSpec) : _root_.Go.OpenSpec := { _root_.Go.OpenSpec.ofChange s with cond := some uptoSmall }

/-- 'juratlaw09.LedgerFull', WHERE WHAT IT READS IS OF BULK AT MOST 1048576: true; the input reads as it did. -/
def ledgerFullUptoRow : OpenClaim := { program := "ythdlfclkcdnenaadoor", sum := "a29ca470a23f081b7e7ef2865c770ba2e74206c3e119ab976ee53b6623315c42", func := "jurat/juratlaw09.LedgerFull", spec := "ledgerFull", named := ["jurat/sha.begin", "jurat/sha.k"], apart := false, laid := [("jurat/sha.k", laid_jurat_sha_k), ("jurat/sha.begin", laid_jurat_sha_begin)], narrowed := true }
def LedgerFullUptoSaid : Prop := ledgerFullUptoRow.holds Tryd.pinned (OpenSpec.upto ledgerFullSpec)

/-- 'juratlaw08.ProofRoots', WHERE WHAT IT READS IS OF BULK AT MOST 1048576: true; the input reads as it did. -/
def proofRootsUptoRow : OpenClaim := { program := "ythdlfclkcdnenaadoor", sum := "a29ca470a23f081b7e7ef2865c770ba2e74206c3e119ab976ee53b6623315c42", func := "jurat/juratlaw08.ProofRoots", spec := "proofRoots", recurses := true, named := ["jurat/sha.begin", "jurat/sha.k", "jurat/juratref02.first", "jurat/juratref02.constants"], apart := false, laid := [("jurat/juratref02.first", laid_jurat_juratref02_first), ("jurat/juratref02.constants", laid_jurat_juratref02_constants), ("jurat/sha.k", laid_jurat_sha_k), ("jurat/sha.begin", laid_jurat_sha_begin)], narrowed := true }
def ProofRootsUptoSaid : Prop := proofRootsUptoRow.holds Tryd.pinned (OpenSpec.upto proofRootsSpec)

/-- 'juratlaw08.ProofGrows', WHERE WHAT IT READS IS OF BULK AT MOST 1048576: true; the input reads as it did. -/
def proofGrowsUptoRow : OpenClaim := { program := "ythdlfclkcdnenaadoor", sum := "a29ca470a23f081b7e7ef2865c770ba2e74206c3e119ab976ee53b6623315c42", func := "jurat/juratlaw08.ProofGrows", spec := "proofGrows", named := ["jurat/sha.begin", "jurat/sha.k"], apart := false, laid := [("jurat/sha.k", laid_jurat_sha_k), ("jurat/sha.begin", laid_jurat_sha_begin)], narrowed := true }
def ProofGrowsUptoSaid : Prop := proofGrowsUptoRow.holds Tryd.pinned (OpenSpec.upto proofGrowsSpec)

/-- 'juratlaw08.ProofMakes', WHERE WHAT IT READS IS OF BULK AT MOST 1048576: true; the input reads as it did. -/
def proofMakesUptoRow : OpenClaim := { program := "ythdlfclkcdnenaadoor", sum := "a29ca470a23f081b7e7ef2865c770ba2e74206c3e119ab976ee53b6623315c42", func := "jurat/juratlaw08.ProofMakes", spec := "proofMakes", recurses := true, named := ["jurat/sha.begin", "jurat/sha.k", "jurat/juratref02.first", "jurat/juratref02.constants"], apart := false, laid := [("jurat/juratref02.first", laid_jurat_juratref02_first), ("jurat/juratref02.constants", laid_jurat_juratref02_constants), ("jurat/sha.k", laid_jurat_sha_k), ("jurat/sha.begin", laid_jurat_sha_begin)], narrowed := true }
def ProofMakesUptoSaid : Prop := proofMakesUptoRow.holds Tryd.pinned (OpenSpec.upto proofMakesSpec)

/-- 'juratlaw08.ProofShort', WHERE WHAT IT READS IS OF BULK AT MOST 1048576: true; the input reads as it did. -/
def proofShortUptoRow : OpenClaim := { program := "ythdlfclkcdnenaadoor", sum := "a29ca470a23f081b7e7ef2865c770ba2e74206c3e119ab976ee53b6623315c42", func := "jurat/juratlaw08.ProofShort", spec := "proofShort", named := ["jurat/sha.begin", "jurat/sha.k"], apart := false, laid := [("jurat/sha.k", laid_jurat_sha_k), ("jurat/sha.begin", laid_jurat_sha_begin)], narrowed := true }
def ProofShortUptoSaid : Prop := proofShortUptoRow.holds Tryd.pinned (OpenSpec.upto proofShortSpec)

/-- 'juratlaw08.ProofIncluded', WHERE WHAT IT READS IS OF BULK AT MOST 1048576: true; the input reads as it did. -/
def proofIncludedUptoRow : OpenClaim := { program := "ythdlfclkcdnenaadoor", sum := "a29ca470a23f081b7e7ef2865c770ba2e74206c3e119ab976ee53b6623315c42", func := "jurat/juratlaw08.ProofIncluded", spec := "proofIncluded", recurses := true, named := ["jurat/sha.begin", "jurat/sha.k", "jurat/juratref02.first", "jurat/juratref02.constants"], apart := false, laid := [("jurat/juratref02.first", laid_jurat_juratref02_first), ("jurat/juratref02.constants", laid_jurat_juratref02_constants), ("jurat/sha.k", laid_jurat_sha_k), ("jurat/sha.begin", laid_jurat_sha_begin)], narrowed := true }
def ProofIncludedUptoSaid : Prop := proofIncludedUptoRow.holds Tryd.pinned (OpenSpec.upto proofIncludedSpec)

/-- 'juratlaw08.ProofConsistent', WHERE WHAT IT READS IS OF BULK AT MOST 1048576: true; the input reads as it did. -/
def proofConsistentUptoRow : OpenClaim := { program := "ythdlfclkcdnenaadoor", sum := "a29ca470a23f081b7e7ef2865c770ba2e74206c3e119ab976ee53b6623315c42", func := "jurat/juratlaw08.ProofConsistent", spec := "proofConsistent", recurses := true, named := ["jurat/sha.begin", "jurat/sha.k", "jurat/juratref02.first", "jurat/juratref02.constants"], apart := false, laid := [("jurat/juratref02.first", laid_jurat_juratref02_first), ("jurat/juratref02.constants", laid_jurat_juratref02_constants), ("jurat/sha.k", laid_jurat_sha_k), ("jurat/sha.begin", laid_jurat_sha_begin)], narrowed := true }
def ProofConsistentUptoSaid : Prop := proofConsistentUptoRow.holds Tryd.pinned (OpenSpec.upto proofConsistentSpec)

/-- 'juratlaw09.LedgerIncludes', WHERE WHAT IT READS IS OF BULK AT MOST 1048576: true; the input reads as it did. -/
def ledgerIncludesUptoRow : OpenClaim := { program := "ythdlfclkcdnenaadoor", sum := "a29ca470a23f081b7e7ef2865c770ba2e74206c3e119ab976ee53b6623315c42", func := "jurat/juratlaw09.LedgerIncludes", spec := "ledgerIncludes", named := ["jurat/sha.begin", "jurat/sha.k"], apart := false, laid := [("jurat/sha.k", laid_jurat_sha_k), ("jurat/sha.begin", laid_jurat_sha_begin)], narrowed := true }
def LedgerIncludesUptoSaid : Prop := ledgerIncludesUptoRow.holds Tryd.pinned (OpenSpec.upto ledgerIncludesSpec)

/-- 'juratlaw09.LedgerOwn', WHERE WHAT IT READS IS OF BULK AT MOST 1048576: true; the input reads as it did. -/
def ledgerOwnUptoRow : OpenClaim := { program := "ythdlfclkcdnenaadoor", sum := "a29ca470a23f081b7e7ef2865c770ba2e74206c3e119ab976ee53b6623315c42", func := "jurat/juratlaw09.LedgerOwn", spec := "ledgerOwn", named := ["jurat/sha.begin", "jurat/sha.k"], apart := false, laid := [("jurat/sha.k", laid_jurat_sha_k), ("jurat/sha.begin", laid_jurat_sha_begin)], narrowed := true }
def LedgerOwnUptoSaid : Prop := ledgerOwnUptoRow.holds Tryd.pinned (OpenSpec.upto ledgerOwnSpec)

/-- 'juratlaw08.ProofBack', WHERE WHAT IT READS IS OF BULK AT MOST 1048576: true; the input reads as it did. -/
def proofBackUptoRow : OpenClaim := { program := "ythdlfclkcdnenaadoor", sum := "a29ca470a23f081b7e7ef2865c770ba2e74206c3e119ab976ee53b6623315c42", func := "jurat/juratlaw08.ProofBack", spec := "proofBack", named := ["jurat/sha.begin", "jurat/sha.k"], apart := false, laid := [("jurat/sha.k", laid_jurat_sha_k), ("jurat/sha.begin", laid_jurat_sha_begin)], narrowed := true }
def ProofBackUptoSaid : Prop := proofBackUptoRow.holds Tryd.pinned (OpenSpec.upto proofBackSpec)

/-- 'juratlaw09.LedgerPlays', WHERE WHAT IT READS IS OF BULK AT MOST 1048576: true; the input reads as it did. -/
def ledgerPlaysUptoRow : OpenClaim := { program := "ythdlfclkcdnenaadoor", sum := "a29ca470a23f081b7e7ef2865c770ba2e74206c3e119ab976ee53b6623315c42", func := "jurat/juratlaw09.LedgerPlays", spec := "ledgerPlays", recurses := true, named := ["jurat/sha.begin", "jurat/sha.k", "jurat/juratref02.first", "jurat/juratref02.constants"], apart := false, laid := [("jurat/juratref02.first", laid_jurat_juratref02_first), ("jurat/juratref02.constants", laid_jurat_juratref02_constants), ("jurat/sha.k", laid_jurat_sha_k), ("jurat/sha.begin", laid_jurat_sha_begin)], narrowed := true }
def LedgerPlaysUptoSaid : Prop := ledgerPlaysUptoRow.holds Tryd.pinned (OpenSpec.upto ledgerPlaysSpec)

/-- 'juratlaw09.LedgerStays', WHERE WHAT IT READS IS OF BULK AT MOST 1048576: true; the input reads as it did. -/
def ledgerStaysUptoRow : OpenClaim := { program := "ythdlfclkcdnenaadoor", sum := "a29ca470a23f081b7e7ef2865c770ba2e74206c3e119ab976ee53b6623315c42", func := "jurat/juratlaw09.LedgerStays", spec := "ledgerStays", named := ["jurat/sha.begin", "jurat/sha.k"], apart := false, laid := [("jurat/sha.k", laid_jurat_sha_k), ("jurat/sha.begin", laid_jurat_sha_begin)], narrowed := true }
def LedgerStaysUptoSaid : Prop := ledgerStaysUptoRow.holds Tryd.pinned (OpenSpec.upto ledgerStaysSpec)

/-- 'juratlaw09.LedgerNil', WHERE WHAT IT READS IS OF BULK AT MOST 1048576: true; the input reads as it did. -/
def ledgerNilUptoRow : OpenClaim := { program := "ythdlfclkcdnenaadoor", sum := "a29ca470a23f081b7e7ef2865c770ba2e74206c3e119ab976ee53b6623315c42", func := "jurat/juratlaw09.LedgerNil", spec := "ledgerNil", named := ["jurat/sha.begin", "jurat/sha.k"], apart := false, laid := [("jurat/sha.k", laid_jurat_sha_k), ("jurat/sha.begin", laid_jurat_sha_begin)], narrowed := true }
def LedgerNilUptoSaid : Prop := ledgerNilUptoRow.holds Tryd.pinned (OpenSpec.upto ledgerNilSpec)

/-- 'juratlaw09.LedgerConsists', WHERE WHAT IT READS IS OF BULK AT MOST 1048576: true; the input reads as it did. -/
def ledgerConsistsUptoRow : OpenClaim := { program := "ythdlfclkcdnenaadoor", sum := "a29ca470a23f081b7e7ef2865c770ba2e74206c3e119ab976ee53b6623315c42", func := "jurat/juratlaw09.LedgerConsists", spec := "ledgerConsists", named := ["jurat/sha.begin", "jurat/sha.k"], apart := false, laid := [("jurat/sha.k", laid_jurat_sha_k), ("jurat/sha.begin", laid_jurat_sha_begin)], narrowed := true }
def LedgerConsistsUptoSaid : Prop := ledgerConsistsUptoRow.holds Tryd.pinned (OpenSpec.upto ledgerConsistsSpec)

end Rows
end Go.Proofs.YthdlfclkcdnenaaDoor
