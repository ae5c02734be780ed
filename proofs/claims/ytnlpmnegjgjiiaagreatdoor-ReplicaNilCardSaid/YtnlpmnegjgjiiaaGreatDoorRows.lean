/-
  NARROWER THAN 'FOR EVERY INPUT', by the rows' own cells (each row's printed sentence says how): ReplicaPosts: laid · ReplicaRefuses: laid · ReplicaPromises: laid · ReplicaAlone: laid · ReplicaNil: laid.
  DERIVED. THE GIVEN ROWS OF THIS SEAT. 5 by the template 'for every input the law returns true; each argument reads behind the call as it read before'; 0 by the template 'total and deterministic' (their statements: YtnlpmnegjgjiiaaGreatDoorTotals.lean).
  GIVEN WITH THE SEED: the statements are not yours to turn. If you find one false, say at which input.
  Laid BY PROGRAM, IN A SANDBOX (cutbox-rows.mjs): the forced cells as the released guide's own fill.sh prints them over the translation a886dd830cf8d662… (all of the seat's roots in one cut). By AI agents, Wed Nov 11 2026. No macro, syntax, notation, axiom, sorry.
-/
import Derived.Test.YtnlpmnegjgjiiaaGreatDoorChecked
import GoSem.Claim
import GoSem.ClaimJoined
import GoSem.ClaimMapViews
import Derived.JoinedTies
import Derived.KernelRfl
namespace Go.Proofs.YtnlpmnegjgjiiaaGreatDoor
/- THE CELL 'sum', in the pinned program and in every row, IS THE sha256 OF THE DUMP (.gsa) THAT YtnlpmnegjgjiiaaGreatDoorProg.lean LOADS. Nothing in Lean hashes anything: it is a label: what it is worth is what the hold of that sum in a sandbox is worth. -/
noncomputable def Tryz.pinned : Pinned := { name := "ytnlpmnegjgjiiaagreatdoor", sum := "a886dd830cf8d66217ef0985a6789abd4e6891ef824c088fb756c1bccf22ccbc", checked := Tryz.checked }
namespace Rows
def none {H : Type} : Left H := { results := [], args := [] }

/- WHAT THE LISTED PACKAGE-LEVEL VARIABLES READ AS WHEN THE CALL BEGINS. Each datum BY PROGRAM (the guide's laid-datum.mjs) off the statement by which the dump's own 'gosem.cut.vars' lays the variable. In a bare row this is a premise. The card (YtnlpmnegjgjiiaaGreatDoorCards.lean) ties it to the program's text. -/
def laid_jurat_juratref02_first {H : Type} : DataW H := .agg [.lit (.int .u32 1779033703), .lit (.int .u32 3144134277), .lit (.int .u32 1013904242), .lit (.int .u32 2773480762), .lit (.int .u32 1359893119), .lit (.int .u32 2600822924), .lit (.int .u32 528734635), .lit (.int .u32 1541459225)]
def laid_jurat_juratref02_constants {H : Type} : DataW H := .agg [.lit (.int .u32 1116352408), .lit (.int .u32 1899447441), .lit (.int .u32 3049323471), .lit (.int .u32 3921009573), .lit (.int .u32 961987163), .lit (.int .u32 1508970993), .lit (.int .u32 2453635748), .lit (.int .u32 2870763221), .lit (.int .u32 3624381080), .lit (.int .u32 310598401), .lit (.int .u32 607225278), .lit (.int .u32 1426881987), .lit (.int .u32 1925078388), .lit (.int .u32 2162078206), .lit (.int .u32 2614888103), .lit (.int .u32 3248222580), .lit (.int .u32 3835390401), .lit (.int .u32 4022224774), .lit (.int .u32 264347078), .lit (.int .u32 604807628), .lit (.int .u32 770255983), .lit (.int .u32 1249150122), .lit (.int .u32 1555081692), .lit (.int .u32 1996064986), .lit (.int .u32 2554220882), .lit (.int .u32 2821834349), .lit (.int .u32 2952996808), .lit (.int .u32 3210313671), .lit (.int .u32 3336571891), .lit (.int .u32 3584528711), .lit (.int .u32 113926993), .lit (.int .u32 338241895), .lit (.int .u32 666307205), .lit (.int .u32 773529912), .lit (.int .u32 1294757372), .lit (.int .u32 1396182291), .lit (.int .u32 1695183700), .lit (.int .u32 1986661051), .lit (.int .u32 2177026350), .lit (.int .u32 2456956037), .lit (.int .u32 2730485921), .lit (.int .u32 2820302411), .lit (.int .u32 3259730800), .lit (.int .u32 3345764771), .lit (.int .u32 3516065817), .lit (.int .u32 3600352804), .lit (.int .u32 4094571909), .lit (.int .u32 275423344), .lit (.int .u32 430227734), .lit (.int .u32 506948616), .lit (.int .u32 659060556), .lit (.int .u32 883997877), .lit (.int .u32 958139571), .lit (.int .u32 1322822218), .lit (.int .u32 1537002063), .lit (.int .u32 1747873779), .lit (.int .u32 1955562222), .lit (.int .u32 2024104815), .lit (.int .u32 2227730452), .lit (.int .u32 2361852424), .lit (.int .u32 2428436474), .lit (.int .u32 2756734187), .lit (.int .u32 3204031479), .lit (.int .u32 3329325298)]
def laid_jurat_sha_k {H : Type} : DataW H := .agg [.lit (.int .u32 1116352408), .lit (.int .u32 1899447441), .lit (.int .u32 3049323471), .lit (.int .u32 3921009573), .lit (.int .u32 961987163), .lit (.int .u32 1508970993), .lit (.int .u32 2453635748), .lit (.int .u32 2870763221), .lit (.int .u32 3624381080), .lit (.int .u32 310598401), .lit (.int .u32 607225278), .lit (.int .u32 1426881987), .lit (.int .u32 1925078388), .lit (.int .u32 2162078206), .lit (.int .u32 2614888103), .lit (.int .u32 3248222580), .lit (.int .u32 3835390401), .lit (.int .u32 4022224774), .lit (.int .u32 264347078), .lit (.int .u32 604807628), .lit (.int .u32 770255983), .lit (.int .u32 1249150122), .lit (.int .u32 1555081692), .lit (.int .u32 1996064986), .lit (.int .u32 2554220882), .lit (.int .u32 2821834349), .lit (.int .u32 2952996808), .lit (.int .u32 3210313671), .lit (.int .u32 3336571891), .lit (.int .u32 3584528711), .lit (.int .u32 113926993), .lit (.int .u32 338241895), .lit (.int .u32 666307205), .lit (.int .u32 773529912), .lit (.int .u32 1294757372), .lit (.int .u32 1396182291), .lit (.int .u32 1695183700), .lit (.int .u32 1986661051), .lit (.int .u32 2177026350), .lit (.int .u32 2456956037), .lit (.int .u32 2730485921), .lit (.int .u32 2820302411), .lit (.int .u32 3259730800), .lit (.int .u32 3345764771), .lit (.int .u32 3516065817), .lit (.int .u32 3600352804), .lit (.int .u32 4094571909), .lit (.int .u32 275423344), .lit (.int .u32 430227734), .lit (.int .u32 506948616), .lit (.int .u32 659060556), .lit (.int .u32 883997877), .lit (.int .u32 958139571), .lit (.int .u32 1322822218), .lit (.int .u32 1537002063), .lit (.int .u32 1747873779), .lit (.int .u32 1955562222), .lit (.int .u32 2024104815), .lit (.int .u32 2227730452), .lit (.int .u32 2361852424), .lit (.int .u32 2428436474), .lit (.int .u32 2756734187), .lit (.int .u32 3204031479), .lit (.int .u32 3329325298)]
def laid_jurat_sha_begin {H : Type} : DataW H := .agg [.lit (.int .u32 1779033703), .lit (.int .u32 3144134277), .lit (.int .u32 1013904242), .lit (.int .u32 2773480762), .lit (.int .u32 1359893119), .lit (.int .u32 2600822924), .lit (.int .u32 528734635), .lit (.int .u32 1541459225)]

/-- 'juratlaw25.ReplicaPosts': WHATEVER THE INPUT: true; the input reads as it did. -/
def replicaPostsSpec : ChangeSpec := { name := "replicaPosts", fn := fun _ => fun
  | [d1, d2, d3, d4] => { results := [.lit (.bool true)], args := [d1, d2, d3, d4] }
  | _ => none }
def replicaPostsRow : OpenClaim := { program := "ytnlpmnegjgjiiaagreatdoor", sum := "a886dd830cf8d66217ef0985a6789abd4e6891ef824c088fb756c1bccf22ccbc", func := "jurat/juratlaw25.ReplicaPosts", spec := "replicaPosts", unfollowed := true, recurses := true, named := ["jurat/sha.begin", "jurat/sha.k", "jurat/juratref02.first", "jurat/juratref02.constants"], apart := false, laid := [("jurat/juratref02.first", laid_jurat_juratref02_first), ("jurat/juratref02.constants", laid_jurat_juratref02_constants), ("jurat/sha.k", laid_jurat_sha_k), ("jurat/sha.begin", laid_jurat_sha_begin)] }
def ReplicaPostsSaid : Prop := replicaPostsRow.holds Tryz.pinned (OpenSpec.ofChange replicaPostsSpec)

/-- ITS FALSE NEIGHBOUR: 'it returns false'. Refute it at one input. -/
def replicaPostsWrong : ChangeSpec := { name := "replicaPosts", fn := fun _ => fun
  | [d1, d2, d3, d4] => { results := [.lit (.bool false)], args := [d1, d2, d3, d4] }
  | _ => none }
def ReplicaPostsWrongFalsely : Prop := replicaPostsRow.holds Tryz.pinned (OpenSpec.ofChange replicaPostsWrong)

/-- 'juratlaw25.ReplicaRefuses': WHATEVER THE INPUT: true; the input reads as it did. -/
def replicaRefusesSpec : ChangeSpec := { name := "replicaRefuses", fn := fun _ => fun
  | [d] => { results := [.lit (.bool true)], args := [d] }
  | _ => none }
def replicaRefusesRow : OpenClaim := { program := "ytnlpmnegjgjiiaagreatdoor", sum := "a886dd830cf8d66217ef0985a6789abd4e6891ef824c088fb756c1bccf22ccbc", func := "jurat/juratlaw25.ReplicaRefuses", spec := "replicaRefuses", unfollowed := true, recurses := true, named := ["jurat/sha.begin", "jurat/sha.k", "jurat/juratref02.first", "jurat/juratref02.constants"], apart := false, laid := [("jurat/juratref02.first", laid_jurat_juratref02_first), ("jurat/juratref02.constants", laid_jurat_juratref02_constants), ("jurat/sha.k", laid_jurat_sha_k), ("jurat/sha.begin", laid_jurat_sha_begin)] }
def ReplicaRefusesSaid : Prop := replicaRefusesRow.holds Tryz.pinned (OpenSpec.ofChange replicaRefusesSpec)

/-- ITS FALSE NEIGHBOUR: 'it returns false'. Refute it at one input. -/
def replicaRefusesWrong : ChangeSpec := { name := "replicaRefuses", fn := fun _ => fun
  | [d] => { results := [.lit (.bool false)], args := [d] }
  | _ => none }
def ReplicaRefusesWrongFalsely : Prop := replicaRefusesRow.holds Tryz.pinned (OpenSpec.ofChange replicaRefusesWrong)

/-- 'juratlaw25.ReplicaPromises': WHATEVER THE INPUT: true; the input reads as it did. -/
def replicaPromisesSpec : ChangeSpec := { name := "replicaPromises", fn := fun _ => fun
  | [d] => { results := [.lit (.bool true)], args := [d] }
  | _ => none }
def replicaPromisesRow : OpenClaim := { program := "ytnlpmnegjgjiiaagreatdoor", sum := "a886dd830cf8d66217ef0985a6789abd4e6891ef824c088fb756c1bccf22ccbc", func := "jurat/juratlaw25.ReplicaPromises", spec := "replicaPromises", unfollowed := true, recurses := true, named := ["jurat/sha.begin", "jurat/sha.k"], apart := false, laid := [("jurat/sha.k", laid_jurat_sha_k), ("jurat/sha.begin", laid_jurat_sha_begin)] }
def ReplicaPromisesSaid : Prop := replicaPromisesRow.holds Tryz.pinned (OpenSpec.ofChange replicaPromisesSpec)

/-- ITS FALSE NEIGHBOUR: 'it returns false'. Refute it at one input. -/
def replicaPromisesWrong : ChangeSpec := { name := "replicaPromises", fn := fun _ => fun
  | [d] => { results := [.lit (.bool false)], args := [d] }
  | _ => none }
def ReplicaPromisesWrongFalsely : Prop := replicaPromisesRow.holds Tryz.pinned (OpenSpec.ofChange replicaPromisesWrong)

/-- 'juratlaw25.ReplicaAlone': WHATEVER THE INPUT: true; the input reads as it did. -/
def replicaAloneSpec : ChangeSpec := { name := "replicaAlone", fn := fun _ => fun
  | [d1, d2] => { results := [.lit (.bool true)], args := [d1, d2] }
  | _ => none }
def replicaAloneRow : OpenClaim := { program := "ytnlpmnegjgjiiaagreatdoor", sum := "a886dd830cf8d66217ef0985a6789abd4e6891ef824c088fb756c1bccf22ccbc", func := "jurat/juratlaw25.ReplicaAlone", spec := "replicaAlone", unfollowed := true, recurses := true, named := ["jurat/sha.begin", "jurat/sha.k"], apart := false, laid := [("jurat/sha.k", laid_jurat_sha_k), ("jurat/sha.begin", laid_jurat_sha_begin)] }
def ReplicaAloneSaid : Prop := replicaAloneRow.holds Tryz.pinned (OpenSpec.ofChange replicaAloneSpec)

/-- ITS FALSE NEIGHBOUR: 'it returns false'. Refute it at one input. -/
def replicaAloneWrong : ChangeSpec := { name := "replicaAlone", fn := fun _ => fun
  | [d1, d2] => { results := [.lit (.bool false)], args := [d1, d2] }
  | _ => none }
def ReplicaAloneWrongFalsely : Prop := replicaAloneRow.holds Tryz.pinned (OpenSpec.ofChange replicaAloneWrong)

/-- 'juratlaw25.ReplicaNil': WHATEVER THE INPUT: true; the input reads as it did. -/
def replicaNilSpec : ChangeSpec := { name := "replicaNil", fn := fun _ => fun
  | [d1, d2, d3, d4] => { results := [.lit (.bool true)], args := [d1, d2, d3, d4] }
  | _ => none }
def replicaNilRow : OpenClaim := { program := "ytnlpmnegjgjiiaagreatdoor", sum := "a886dd830cf8d66217ef0985a6789abd4e6891ef824c088fb756c1bccf22ccbc", func := "jurat/juratlaw25.ReplicaNil", spec := "replicaNil", unfollowed := true, recurses := true, named := ["jurat/sha.begin", "jurat/sha.k"], apart := false, laid := [("jurat/sha.k", laid_jurat_sha_k), ("jurat/sha.begin", laid_jurat_sha_begin)] }
def ReplicaNilSaid : Prop := replicaNilRow.holds Tryz.pinned (OpenSpec.ofChange replicaNilSpec)

/-- ITS FALSE NEIGHBOUR: 'it returns false'. Refute it at one input. -/
def replicaNilWrong : ChangeSpec := { name := "replicaNil", fn := fun _ => fun
  | [d1, d2, d3, d4] => { results := [.lit (.bool false)], args := [d1, d2, d3, d4] }
  | _ => none }
def ReplicaNilWrongFalsely : Prop := replicaNilRow.holds Tryz.pinned (OpenSpec.ofChange replicaNilWrong)

/- THE SECOND FORM. 'bulk': how many values and letters a reading holds, each counted each time it is reached (what is shared counts as often as it is met; a slice's spare places count too). A statement '..UptoSaid' is the law's where the arguments, and the package variables that the reading takes, are together of bulk at most 1048576: NARROWER than '..Said'. Prove '..Said' where nothing that the law and all that it calls make is longer than what came in: it says more and counts as full. Else prove '..UptoSaid'. A law counts once. -/
mutual
def uptoBulk {H : Type} : DataW H → Nat
  | .lit (.string bytes) => bytes.length + 1
  | .lit _ => 1
  | .nil => 1
  | .ptr d => uptoBulk d + 1
  | .slice elems spare => uptoBulkAll elems + uptoBulkAll spare + 1
  | .agg parts => uptoBulkAll parts + 1
  | .iface _ d => uptoBulk d + 1
  | .map entries => uptoBulkEntries entries + 1
  | .held _ => 1
def uptoBulkAll {H : Type} : List (DataW H) → Nat
  | [] => 0
  | d :: r => uptoBulk d + uptoBulkAll r
def uptoBulkEntries {H : Type} : List (Lit × DataW H) → Nat
  | [] => 0
  | x :: r => uptoBulkEntry x + uptoBulkEntries r
def uptoBulkEntry {H : Type} : Lit × DataW H → Nat
  | (.string bytes, d) => bytes.length + uptoBulk d + 1
  | (_, d) => uptoBulk d + 1
 end
def uptoSmall : (H : Type) → List (DataW H) → Bool := fun _ ds => decide (uptoBulkAll ds ≤ 1048576)
def OpenSpec.upto (s : _root_.Go.ChangeSpec) : _root_.Go.OpenSpec := { _root_.Go.OpenSpec.ofChange s with cond := some uptoSmall }

/-- 'juratlaw25.ReplicaPosts', WHERE WHAT IT READS IS OF BULK AT MOST 1048576: true; the input reads as it did. -/
def replicaPostsUptoRow : OpenClaim := { program := "ytnlpmnegjgjiiaagreatdoor", sum := "a886dd830cf8d66217ef0985a6789abd4e6891ef824c088fb756c1bccf22ccbc", func := "jurat/juratlaw25.ReplicaPosts", spec := "replicaPosts", unfollowed := true, recurses := true, named := ["jurat/sha.begin", "jurat/sha.k", "jurat/juratref02.first", "jurat/juratref02.constants"], apart := false, laid := [("jurat/juratref02.first", laid_jurat_juratref02_first), ("jurat/juratref02.constants", laid_jurat_juratref02_constants), ("jurat/sha.k", laid_jurat_sha_k), ("jurat/sha.begin", laid_jurat_sha_begin)], narrowed := true }
def ReplicaPostsUptoSaid : Prop := replicaPostsUptoRow.holds Tryz.pinned (OpenSpec.upto replicaPostsSpec)

/-- 'juratlaw25.ReplicaRefuses', WHERE WHAT IT READS IS OF BULK AT MOST 1048576: true; the input reads as it did. -/
def replicaRefusesUptoRow : OpenClaim := { program := "ytnlpmnegjgjiiaagreatdoor", sum := "a886dd830cf8d66217ef0985a6789abd4e6891ef824c088fb756c1bccf22ccbc", func := "jurat/juratlaw25.ReplicaRefuses", spec := "replicaRefuses", unfollowed := true, recurses := true, named := ["jurat/sha.begin", "jurat/sha.k", "jurat/juratref02.first", "jurat/juratref02.constants"], apart := false, laid := [("jurat/juratref02.first", laid_jurat_juratref02_first), ("jurat/juratref02.constants", laid_jurat_juratref02_constants), ("jurat/sha.k", laid_jurat_sha_k), ("jurat/sha.begin", laid_jurat_sha_begin)], narrowed := true }
def ReplicaRefusesUptoSaid : Prop := replicaRefusesUptoRow.holds Tryz.pinned (OpenSpec.upto replicaRefusesSpec)

/-- 'juratlaw25.ReplicaPromises', WHERE WHAT IT READS IS OF BULK AT MOST 1048576: true; the input reads as it did. -/
def replicaPromisesUptoRow : OpenClaim := { program := "ytnlpmnegjgjiiaagreatdoor", sum := "a886dd830cf8d66217ef0985a6789abd4e6891ef824c088fb756c1bccf22ccbc", func := "jurat/juratlaw25.ReplicaPromises", spec := "replicaPromises", unfollowed := true, recurses := true, named := ["jurat/sha.begin", "jurat/sha.k"], apart := false, laid := [("jurat/sha.k", laid_jurat_sha_k), ("jurat/sha.begin", laid_jurat_sha_begin)], narrowed := true }
def ReplicaPromisesUptoSaid : Prop := replicaPromisesUptoRow.holds Tryz.pinned (OpenSpec.upto replicaPromisesSpec)

/-- 'juratlaw25.ReplicaAlone', WHERE WHAT IT READS IS OF BULK AT MOST 1048576: true; the input reads as it did. -/
def replicaAloneUptoRow : OpenClaim := { program := "ytnlpmnegjgjiiaagreatdoor", sum := "a886dd830cf8d66217ef0985a6789abd4e6891ef824c088fb756c1bccf22ccbc", func := "jurat/juratlaw25.ReplicaAlone", spec := "replicaAlone", unfollowed := true, recurses := true, named := ["jurat/sha.begin", "jurat/sha.k"], apart := false, laid := [("jurat/sha.k", laid_jurat_sha_k), ("jurat/sha.begin", laid_jurat_sha_begin)], narrowed := true }
def ReplicaAloneUptoSaid : Prop := replicaAloneUptoRow.holds Tryz.pinned (OpenSpec.upto replicaAloneSpec)

/-- 'juratlaw25.ReplicaNil', WHERE WHAT IT READS IS OF BULK AT MOST 1048576: true; the input reads as it did. -/
def replicaNilUptoRow : OpenClaim := { program := "ytnlpmnegjgjiiaagreatdoor", sum := "a886dd830cf8d66217ef0985a6789abd4e6891ef824c088fb756c1bccf22ccbc", func := "jurat/juratlaw25.ReplicaNil", spec := "replicaNil", unfollowed := true, recurses := true, named := ["jurat/sha.begin", "jurat/sha.k"], apart := false, laid := [("jurat/sha.k", laid_jurat_sha_k), ("jurat/sha.begin", laid_jurat_sha_begin)], narrowed := true }
def ReplicaNilUptoSaid : Prop := replicaNilUptoRow.holds Tryz.pinned (OpenSpec.upto replicaNilSpec)

end Rows
end Go.Proofs.YtnlpmnegjgjiiaaGreatDoor
