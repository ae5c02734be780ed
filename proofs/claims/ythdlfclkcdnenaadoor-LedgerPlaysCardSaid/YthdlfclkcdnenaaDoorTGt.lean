/- The program's types as plain structures, and closed facts of the program's types. Nothing is assumed. -/
import Derived.Test.YthdlfclkcdnenaaDoorProg
import Derived.Test.YthdlfclkcdnenaaDoorTLo
import Derived.KernelRfl
namespace Go.Proofs.YthdlfclkcdnenaaDoor
open Go.RowKit Go.WG
set_option linter.unusedVariables false
set_option linter.unusedSimpArgs false
theorem sz3 : (Tryd.prog.info? 3).map (·.size) = some 1 := by kernel_rfl
theorem sz5 : (Tryd.prog.info? 5).map (·.size) = some 1 := by kernel_rfl
theorem sz28 : (Tryd.prog.info? 28).map (·.size) = some 1 := by kernel_rfl
theorem sz31 : (Tryd.prog.info? 31).map (·.size) = some 1 := by kernel_rfl
theorem sz33 : (Tryd.prog.info? 33).map (·.size) = some 32 := by kernel_rfl
theorem sz49 : (Tryd.prog.info? 49).map (·.size) = some 1 := by kernel_rfl
theorem sz53 : (Tryd.prog.info? 53).map (·.size) = some 33 := by kernel_rfl
theorem sz68 : (Tryd.prog.info? 68).map (·.size) = some 4 := by kernel_rfl
theorem sz80 : (Tryd.prog.info? 80).map (·.size) = some 1 := by kernel_rfl
theorem sz101 : (Tryd.prog.info? 101).map (·.size) = some 1 := by kernel_rfl
theorem sz102 : (Tryd.prog.info? 102).map (·.size) = some 8 := by kernel_rfl
theorem sz114 : (Tryd.prog.info? 114).map (·.size) = some 64 := by kernel_rfl
theorem ti5 : TI Tryd.prog 5 (.int .u8 0) 1 1 := (by kernel_rfl : (Tryd.prog.info? 5).map (fun i => (i.zero, i.size, i.bytes)) = some (some (.int .u8 0), 1, 1))
theorem zo5 : ∀ u ∈ (.int .u8 0 : Value).cells.toList, u.oneCell' = true := fun u hu => List.all_eq_true.1 (rfl : ((.int .u8 0 : Value).cells.toList).all (·.oneCell') = true) u hu
theorem ti28 : TI Tryd.prog 28 (.slice none 0 0) 1 24 := (by kernel_rfl : (Tryd.prog.info? 28).map (fun i => (i.zero, i.size, i.bytes)) = some (some (.slice none 0 0), 1, 24))
theorem zo28 : ∀ u ∈ (.slice none 0 0 : Value).cells.toList, u.oneCell' = true := fun u hu => List.all_eq_true.1 (rfl : ((.slice none 0 0 : Value).cells.toList).all (·.oneCell') = true) u hu
theorem ti33 : TI Tryd.prog 33 (.agg #[.int .u8 0, .int .u8 0, .int .u8 0, .int .u8 0, .int .u8 0, .int .u8 0, .int .u8 0, .int .u8 0, .int .u8 0, .int .u8 0, .int .u8 0, .int .u8 0, .int .u8 0, .int .u8 0, .int .u8 0, .int .u8 0, .int .u8 0, .int .u8 0, .int .u8 0, .int .u8 0, .int .u8 0, .int .u8 0, .int .u8 0, .int .u8 0, .int .u8 0, .int .u8 0, .int .u8 0, .int .u8 0, .int .u8 0, .int .u8 0, .int .u8 0, .int .u8 0]) 32 32 := (by kernel_rfl : (Tryd.prog.info? 33).map (fun i => (i.zero, i.size, i.bytes)) = some (some (.agg #[.int .u8 0, .int .u8 0, .int .u8 0, .int .u8 0, .int .u8 0, .int .u8 0, .int .u8 0, .int .u8 0, .int .u8 0, .int .u8 0, .int .u8 0, .int .u8 0, .int .u8 0, .int .u8 0, .int .u8 0, .int .u8 0, .int .u8 0, .int .u8 0, .int .u8 0, .int .u8 0, .int .u8 0, .int .u8 0, .int .u8 0, .int .u8 0, .int .u8 0, .int .u8 0, .int .u8 0, .int .u8 0, .int .u8 0, .int .u8 0, .int .u8 0, .int .u8 0]), 32, 32))
theorem zo33 : ∀ u ∈ (.agg #[.int .u8 0, .int .u8 0, .int .u8 0, .int .u8 0, .int .u8 0, .int .u8 0, .int .u8 0, .int .u8 0, .int .u8 0, .int .u8 0, .int .u8 0, .int .u8 0, .int .u8 0, .int .u8 0, .int .u8 0, .int .u8 0, .int .u8 0, .int .u8 0, .int .u8 0, .int .u8 0, .int .u8 0, .int .u8 0, .int .u8 0, .int .u8 0, .int .u8 0, .int .u8 0, .int .u8 0, .int .u8 0, .int .u8 0, .int .u8 0, .int .u8 0, .int .u8 0] : Value).cells.toList, u.oneCell' = true := fun u hu => List.all_eq_true.1 (rfl : ((.agg #[.int .u8 0, .int .u8 0, .int .u8 0, .int .u8 0, .int .u8 0, .int .u8 0, .int .u8 0, .int .u8 0, .int .u8 0, .int .u8 0, .int .u8 0, .int .u8 0, .int .u8 0, .int .u8 0, .int .u8 0, .int .u8 0, .int .u8 0, .int .u8 0, .int .u8 0, .int .u8 0, .int .u8 0, .int .u8 0, .int .u8 0, .int .u8 0, .int .u8 0, .int .u8 0, .int .u8 0, .int .u8 0, .int .u8 0, .int .u8 0, .int .u8 0, .int .u8 0] : Value).cells.toList).all (·.oneCell') = true) u hu
theorem zr33 : (Tryd.prog.info? 33).map (·.zero) = some (some (.agg #[.int .u8 0, .int .u8 0, .int .u8 0, .int .u8 0, .int .u8 0, .int .u8 0, .int .u8 0, .int .u8 0, .int .u8 0, .int .u8 0, .int .u8 0, .int .u8 0, .int .u8 0, .int .u8 0, .int .u8 0, .int .u8 0, .int .u8 0, .int .u8 0, .int .u8 0, .int .u8 0, .int .u8 0, .int .u8 0, .int .u8 0, .int .u8 0, .int .u8 0, .int .u8 0, .int .u8 0, .int .u8 0, .int .u8 0, .int .u8 0, .int .u8 0, .int .u8 0])) := by kernel_rfl
theorem zr53 : (Tryd.prog.info? 53).map (·.zero) = some (some (.agg #[.int .i64 0, .int .u8 0, .int .u8 0, .int .u8 0, .int .u8 0, .int .u8 0, .int .u8 0, .int .u8 0, .int .u8 0, .int .u8 0, .int .u8 0, .int .u8 0, .int .u8 0, .int .u8 0, .int .u8 0, .int .u8 0, .int .u8 0, .int .u8 0, .int .u8 0, .int .u8 0, .int .u8 0, .int .u8 0, .int .u8 0, .int .u8 0, .int .u8 0, .int .u8 0, .int .u8 0, .int .u8 0, .int .u8 0, .int .u8 0, .int .u8 0, .int .u8 0, .int .u8 0])) := by kernel_rfl
theorem zr66 : (Tryd.prog.info? 66).map (·.zero) = some (some (.agg #[.slice none 0 0, .slice none 0 0])) := by kernel_rfl
theorem zr68 : (Tryd.prog.info? 68).map (·.zero) = some (some (.agg #[.int .i64 0, .int .i64 0, .int .i64 0, .slice none 0 0])) := by kernel_rfl
theorem zr82 : (Tryd.prog.info? 82).map (·.zero) = some (some (.agg #[.slice none 0 0, .slice none 0 0])) := by kernel_rfl
theorem zr102 : (Tryd.prog.info? 102).map (·.zero) = some (some (.agg #[.int .u32 0, .int .u32 0, .int .u32 0, .int .u32 0, .int .u32 0, .int .u32 0, .int .u32 0, .int .u32 0])) := by kernel_rfl
theorem zr109 : (Tryd.prog.info? 109).map (·.zero) = some (some (.agg #[.int .u32 0, .int .u32 0, .int .u32 0, .int .u32 0, .int .u32 0, .int .u32 0, .int .u32 0, .int .u32 0, .slice none 0 0, .int .i64 0])) := by kernel_rfl
theorem zr114 : (Tryd.prog.info? 114).map (·.zero) = some (some (.agg #[.int .u32 0, .int .u32 0, .int .u32 0, .int .u32 0, .int .u32 0, .int .u32 0, .int .u32 0, .int .u32 0, .int .u32 0, .int .u32 0, .int .u32 0, .int .u32 0, .int .u32 0, .int .u32 0, .int .u32 0, .int .u32 0, .int .u32 0, .int .u32 0, .int .u32 0, .int .u32 0, .int .u32 0, .int .u32 0, .int .u32 0, .int .u32 0, .int .u32 0, .int .u32 0, .int .u32 0, .int .u32 0, .int .u32 0, .int .u32 0, .int .u32 0, .int .u32 0, .int .u32 0, .int .u32 0, .int .u32 0, .int .u32 0, .int .u32 0, .int .u32 0, .int .u32 0, .int .u32 0, .int .u32 0, .int .u32 0, .int .u32 0, .int .u32 0, .int .u32 0, .int .u32 0, .int .u32 0, .int .u32 0, .int .u32 0, .int .u32 0, .int .u32 0, .int .u32 0, .int .u32 0, .int .u32 0, .int .u32 0, .int .u32 0, .int .u32 0, .int .u32 0, .int .u32 0, .int .u32 0, .int .u32 0, .int .u32 0, .int .u32 0, .int .u32 0])) := by kernel_rfl
theorem pl53 : ∀ fs, Tryd.prog.underlying 53 = some (.struct fs) → fs.toList.map (fun f => (Tryd.prog.info? f.type).map (fun i => (f.offset, i.size))) = [(0, 1), (1, 32)].map some := by
  intro fs h
  rw [Tryd.underlying53] at h
  cases h
  kernel_rfl
theorem pl66 : ∀ fs, Tryd.prog.underlying 66 = some (.struct fs) → fs.toList.map (fun f => (Tryd.prog.info? f.type).map (fun i => (f.offset, i.size))) = [(0, 1), (1, 1)].map some := by
  intro fs h
  rw [Tryd.underlying66] at h
  cases h
  kernel_rfl
theorem pl82 : ∀ fs, Tryd.prog.underlying 82 = some (.struct fs) → fs.toList.map (fun f => (Tryd.prog.info? f.type).map (fun i => (f.offset, i.size))) = [(0, 1), (1, 1)].map some := by
  intro fs h
  rw [Tryd.underlying82] at h
  cases h
  kernel_rfl
theorem pl109 : ∀ fs, Tryd.prog.underlying 109 = some (.struct fs) → fs.toList.map (fun f => (Tryd.prog.info? f.type).map (fun i => (f.offset, i.size))) = [(0, 8), (8, 1), (9, 1)].map some := by
  intro fs h
  rw [Tryd.underlying109] at h
  cases h
  kernel_rfl
theorem eg33 : Tryd.prog.eqGuardType Tryd.prog.depth 33 = false := by kernel_rfl
theorem eg53 : Tryd.prog.eqGuardType Tryd.prog.depth 53 = false := by kernel_rfl
theorem sh53 : Tryd.prog.stoodInHeld 53 = false := by kernel_rfl
def text0 : ByteArray := ⟨#[0, 1, 2, 2, 3, 3, 3, 3, 4, 4, 4, 4, 4, 4, 4, 4, 5, 5, 5, 5, 5, 5, 5, 5, 5, 5, 5, 5, 5, 5, 5, 5, 6, 6, 6, 6, 6, 6, 6, 6, 6, 6, 6, 6, 6, 6, 6, 6, 6, 6, 6, 6, 6, 6, 6, 6, 6, 6, 6, 6, 6, 6, 6, 6, 7, 7, 7, 7, 7, 7, 7, 7, 7, 7, 7, 7, 7, 7, 7, 7, 7, 7, 7, 7, 7, 7, 7, 7, 7, 7, 7, 7, 7, 7, 7, 7, 7, 7, 7, 7, 7, 7, 7, 7, 7, 7, 7, 7, 7, 7, 7, 7, 7, 7, 7, 7, 7, 7, 7, 7, 7, 7, 7, 7, 7, 7, 7, 7, 8, 8, 8, 8, 8, 8, 8, 8, 8, 8, 8, 8, 8, 8, 8, 8, 8, 8, 8, 8, 8, 8, 8, 8, 8, 8, 8, 8, 8, 8, 8, 8, 8, 8, 8, 8, 8, 8, 8, 8, 8, 8, 8, 8, 8, 8, 8, 8, 8, 8, 8, 8, 8, 8, 8, 8, 8, 8, 8, 8, 8, 8, 8, 8, 8, 8, 8, 8, 8, 8, 8, 8, 8, 8, 8, 8, 8, 8, 8, 8, 8, 8, 8, 8, 8, 8, 8, 8, 8, 8, 8, 8, 8, 8, 8, 8, 8, 8, 8, 8, 8, 8, 8, 8, 8, 8, 8, 8, 8, 8, 8, 8, 8, 8, 8, 8, 8, 8, 8, 8, 8, 8, 8, 8, 8, 8, 8, 8]⟩
def glob0 : List Int := [1779033703, 3144134277, 1013904242, 2773480762, 1359893119, 2600822924, 528734635, 1541459225]
theorem glob0_len : glob0.length = 8 := rfl
def glob1 : List Int := [1779033703, 3144134277, 1013904242, 2773480762, 1359893119, 2600822924, 528734635, 1541459225]
theorem glob1_len : glob1.length = 8 := rfl
def glob2 : List Int := [1116352408, 1899447441, 3049323471, 3921009573, 961987163, 1508970993, 2453635748, 2870763221, 3624381080, 310598401, 607225278, 1426881987, 1925078388, 2162078206, 2614888103, 3248222580, 3835390401, 4022224774, 264347078, 604807628, 770255983, 1249150122, 1555081692, 1996064986, 2554220882, 2821834349, 2952996808, 3210313671, 3336571891, 3584528711, 113926993, 338241895, 666307205, 773529912, 1294757372, 1396182291, 1695183700, 1986661051, 2177026350, 2456956037, 2730485921, 2820302411, 3259730800, 3345764771, 3516065817, 3600352804, 4094571909, 275423344, 430227734, 506948616, 659060556, 883997877, 958139571, 1322822218, 1537002063, 1747873779, 1955562222, 2024104815, 2227730452, 2361852424, 2428436474, 2756734187, 3204031479, 3329325298]
theorem glob2_len : glob2.length = 64 := rfl
def glob3 : List Int := [1116352408, 1899447441, 3049323471, 3921009573, 961987163, 1508970993, 2453635748, 2870763221, 3624381080, 310598401, 607225278, 1426881987, 1925078388, 2162078206, 2614888103, 3248222580, 3835390401, 4022224774, 264347078, 604807628, 770255983, 1249150122, 1555081692, 1996064986, 2554220882, 2821834349, 2952996808, 3210313671, 3336571891, 3584528711, 113926993, 338241895, 666307205, 773529912, 1294757372, 1396182291, 1695183700, 1986661051, 2177026350, 2456956037, 2730485921, 2820302411, 3259730800, 3345764771, 3516065817, 3600352804, 4094571909, 275423344, 430227734, 506948616, 659060556, 883997877, 958139571, 1322822218, 1537002063, 1747873779, 1955562222, 2024104815, 2227730452, 2361852424, 2428436474, 2756734187, 3204031479, 3329325298]
theorem glob3_len : glob3.length = 64 := rfl
structure THash where
  words : List Int
  rest : List Int
  n : Int
def THash.K : Kd THash := Kd.iso (Kd.pair (Kd.arrI 8 .u32) (Kd.pair (Kd.slice (Kd.int .u8)) (Kd.int .i64))) (fun x : THash => (x.words, (x.rest, x.n)))
theorem THash.open {F : CH} {x : THash} {cs : List Value} (h : THash.K.rep F x cs) : ∃ (A2 : Option Addr) (c3 : Nat) (n4 : Nat), cs = x.words.map (Value.int .u32) ++ [.slice A2 n4 c3, .int .i64 x.n] ∧ x.words.length = 8 ∧ n4 = x.rest.length ∧ x.rest.length ≤ c3 ∧ c3 ≤ maxLen ∧ Sl (Kd.int .u8) F F A2 x.rest := by
  obtain ⟨_, _, rfl, u9, t10⟩ := h
  obtain ⟨rfl, q11⟩ := u9
  obtain ⟨_, _, rfl, u12, t13⟩ := t10
  obtain ⟨A14, c15, rfl, q16, q17, q18⟩ := u12
  obtain rfl := t13
  exact ⟨A14, c15, _, rfl, q11, rfl, q16, q17, q18⟩
structure Tclimb where
  at_ : Int
  last : Int
def Tclimb.K : Kd Tclimb := Kd.iso (Kd.pair (Kd.int .i64) (Kd.int .i64)) (fun x : Tclimb => (x.at_, x.last))
theorem Tclimb.open {F : CH} {x : Tclimb} {cs : List Value} (h : Tclimb.K.rep F x cs) : cs = [.int .i64 x.at_, .int .i64 x.last] := by
  obtain ⟨_, _, rfl, u1, t2⟩ := h
  obtain rfl := u1
  obtain rfl := t2
  exact rfl
structure Tdigests where
  sums : List (List Int)
def Tdigests.K : Kd Tdigests := Kd.iso (Kd.slice (Kd.arrI 32 .u8)) (fun x : Tdigests => x.sums)
theorem Tdigests.open {F : CH} {x : Tdigests} {cs : List Value} (h : Tdigests.K.rep F x cs) : ∃ (A1 : Option Addr) (c2 : Nat) (n3 : Nat), cs = [.slice A1 n3 c2] ∧ n3 = x.sums.length ∧ x.sums.length ≤ c2 ∧ c2 ≤ maxLen ∧ Sl (Kd.arrI 32 .u8) F F A1 x.sums := by
  obtain ⟨A8, c9, rfl, q10, q11, q12⟩ := h
  exact ⟨A8, c9, _, rfl, rfl, q10, q11, q12⟩
structure TLedger where
  digests : Tdigests
  leaves : List (List Int)
def TLedger.K : Kd TLedger := Kd.iso (Kd.pair Tdigests.K (Kd.slice (Kd.slice (Kd.int .u8)))) (fun x : TLedger => (x.digests, x.leaves))
theorem TLedger.open {F : CH} {x : TLedger} {cs : List Value} (h : TLedger.K.rep F x cs) : ∃ (A1 : Option Addr) (c2 : Nat) (n3 : Nat) (A8 : Option Addr) (c9 : Nat) (n10 : Nat), cs = [.slice A1 n3 c2, .slice A8 n10 c9] ∧ n3 = x.digests.sums.length ∧ x.digests.sums.length ≤ c2 ∧ c2 ≤ maxLen ∧ Sl (Kd.arrI 32 .u8) F F A1 x.digests.sums ∧ n10 = x.leaves.length ∧ x.leaves.length ≤ c9 ∧ c9 ≤ maxLen ∧ Sl (Kd.slice (Kd.int .u8)) F F A8 x.leaves := by
  obtain ⟨_, _, rfl, u15, t16⟩ := h
  obtain ⟨A24, A25, A26, rfl, q27, q28, q29, q30⟩ := Tdigests.open u15
  obtain ⟨A31, c32, rfl, q33, q34, q35⟩ := t16
  exact ⟨A24, A25, A26, A31, c32, _, rfl, q27, q28, q29, q30, rfl, q33, q34, q35⟩
structure THead where
  Size : Int
  Root : List Int
def THead.K : Kd THead := Kd.iso (Kd.pair (Kd.int .i64) (Kd.arrI 32 .u8)) (fun x : THead => (x.Size, x.Root))
theorem THead.open {F : CH} {x : THead} {cs : List Value} (h : THead.K.rep F x cs) : cs = [.int .i64 x.Size] ++ (x.Root.map (Value.int .u8)) ∧ x.Root.length = 32 := by
  obtain ⟨_, _, rfl, u2, t3⟩ := h
  obtain rfl := u2
  obtain ⟨rfl, q4⟩ := t3
  exact ⟨rfl, q4⟩
structure TLedger_ where
  L : List (List Int)
  D : List (List Int)
def TLedger_.K : Kd TLedger_ := Kd.iso (Kd.pair (Kd.slice (Kd.slice (Kd.int .u8))) (Kd.slice (Kd.arrI 32 .u8))) (fun x : TLedger_ => (x.L, x.D))
theorem TLedger_.open {F : CH} {x : TLedger_} {cs : List Value} (h : TLedger_.K.rep F x cs) : ∃ (A1 : Option Addr) (c2 : Nat) (n3 : Nat) (A8 : Option Addr) (c9 : Nat) (n10 : Nat), cs = [.slice A1 n3 c2, .slice A8 n10 c9] ∧ n3 = x.L.length ∧ x.L.length ≤ c2 ∧ c2 ≤ maxLen ∧ Sl (Kd.slice (Kd.int .u8)) F F A1 x.L ∧ n10 = x.D.length ∧ x.D.length ≤ c9 ∧ c9 ≤ maxLen ∧ Sl (Kd.arrI 32 .u8) F F A8 x.D := by
  obtain ⟨_, _, rfl, u15, t16⟩ := h
  obtain ⟨A17, c18, rfl, q19, q20, q21⟩ := u15
  obtain ⟨A22, c23, rfl, q24, q25, q26⟩ := t16
  exact ⟨A17, c18, _, A22, c23, _, rfl, rfl, q19, q20, q21, rfl, q24, q25, q26⟩
structure TAsk where
  Kind : Int
  I : Int
  N : Int
  Leaf : List Int
def TAsk.z : TAsk := ⟨0, 0, 0, []⟩
def TAsk.K : Kd TAsk := Kd.iso (Kd.pair (Kd.int .i64) (Kd.pair (Kd.int .i64) (Kd.pair (Kd.int .i64) (Kd.slice (Kd.int .u8))))) (fun x : TAsk => (x.Kind, (x.I, (x.N, x.Leaf))))
theorem TAsk.open {F : CH} {x : TAsk} {cs : List Value} (h : TAsk.K.rep F x cs) : ∃ (A1 : Option Addr) (c2 : Nat) (n3 : Nat), cs = [.int .i64 x.Kind, .int .i64 x.I, .int .i64 x.N, .slice A1 n3 c2] ∧ n3 = x.Leaf.length ∧ x.Leaf.length ≤ c2 ∧ c2 ≤ maxLen ∧ Sl (Kd.int .u8) F F A1 x.Leaf := by
  obtain ⟨_, _, rfl, u8, t9⟩ := h
  obtain rfl := u8
  obtain ⟨_, _, rfl, u10, t11⟩ := t9
  obtain rfl := u10
  obtain ⟨_, _, rfl, u12, t13⟩ := t11
  obtain rfl := u12
  obtain ⟨A14, c15, rfl, q16, q17, q18⟩ := t13
  exact ⟨A14, c15, _, rfl, rfl, q16, q17, q18⟩
end Go.Proofs.YthdlfclkcdnenaaDoor
