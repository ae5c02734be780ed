/- The program's types as plain structures, and closed facts of the program's types. Nothing is assumed. -/
import Derived.Test.YtnlpmnegjgjiiaaGreatDoorProg
import Derived.Test.YtnlpmnegjgjiiaaGreatDoorLs
import Derived.KernelRfl
namespace Go.Proofs.YtnlpmnegjgjiiaaGreatDoor
open Go.RowKit Go.WG
set_option linter.unusedVariables false
set_option linter.unusedSimpArgs false

theorem sz3 : (Tryz.prog.info? 3).map (·.size) = some 1 := by kernel_rfl
theorem sz5 : (Tryz.prog.info? 5).map (·.size) = some 1 := by kernel_rfl
theorem sz23 : (Tryz.prog.info? 23).map (·.size) = some 32 := by kernel_rfl
theorem sz30 : (Tryz.prog.info? 30).map (·.size) = some 1 := by kernel_rfl
theorem sz247 : (Tryz.prog.info? 247).map (·.size) = some 1 := by kernel_rfl
theorem sz248 : (Tryz.prog.info? 248).map (·.size) = some 8 := by kernel_rfl
theorem sz309 : (Tryz.prog.info? 309).map (·.size) = some 64 := by kernel_rfl
theorem ti5 : TI Tryz.prog 5 (.int .u8 0) 1 1 := (by kernel_rfl : (Tryz.prog.info? 5).map (fun i => (i.zero, i.size, i.bytes)) = some (some (.int .u8 0), 1, 1))
theorem zo5 : ∀ u ∈ (.int .u8 0 : Value).cells.toList, u.oneCell' = true := fun u hu => List.all_eq_true.1 (rfl : ((.int .u8 0 : Value).cells.toList).all (·.oneCell') = true) u hu
theorem zr23 : (Tryz.prog.info? 23).map (·.zero) = some (some (.agg #[.int .u8 0, .int .u8 0, .int .u8 0, .int .u8 0, .int .u8 0, .int .u8 0, .int .u8 0, .int .u8 0, .int .u8 0, .int .u8 0, .int .u8 0, .int .u8 0, .int .u8 0, .int .u8 0, .int .u8 0, .int .u8 0, .int .u8 0, .int .u8 0, .int .u8 0, .int .u8 0, .int .u8 0, .int .u8 0, .int .u8 0, .int .u8 0, .int .u8 0, .int .u8 0, .int .u8 0, .int .u8 0, .int .u8 0, .int .u8 0, .int .u8 0, .int .u8 0])) := by kernel_rfl
theorem zr248 : (Tryz.prog.info? 248).map (·.zero) = some (some (.agg #[.int .u32 0, .int .u32 0, .int .u32 0, .int .u32 0, .int .u32 0, .int .u32 0, .int .u32 0, .int .u32 0])) := by kernel_rfl
theorem zr306 : (Tryz.prog.info? 306).map (·.zero) = some (some (.agg #[.int .u32 0, .int .u32 0, .int .u32 0, .int .u32 0, .int .u32 0, .int .u32 0, .int .u32 0, .int .u32 0, .slice none 0 0, .int .i64 0])) := by kernel_rfl
theorem zr309 : (Tryz.prog.info? 309).map (·.zero) = some (some (.agg #[.int .u32 0, .int .u32 0, .int .u32 0, .int .u32 0, .int .u32 0, .int .u32 0, .int .u32 0, .int .u32 0, .int .u32 0, .int .u32 0, .int .u32 0, .int .u32 0, .int .u32 0, .int .u32 0, .int .u32 0, .int .u32 0, .int .u32 0, .int .u32 0, .int .u32 0, .int .u32 0, .int .u32 0, .int .u32 0, .int .u32 0, .int .u32 0, .int .u32 0, .int .u32 0, .int .u32 0, .int .u32 0, .int .u32 0, .int .u32 0, .int .u32 0, .int .u32 0, .int .u32 0, .int .u32 0, .int .u32 0, .int .u32 0, .int .u32 0, .int .u32 0, .int .u32 0, .int .u32 0, .int .u32 0, .int .u32 0, .int .u32 0, .int .u32 0, .int .u32 0, .int .u32 0, .int .u32 0, .int .u32 0, .int .u32 0, .int .u32 0, .int .u32 0, .int .u32 0, .int .u32 0, .int .u32 0, .int .u32 0, .int .u32 0, .int .u32 0, .int .u32 0, .int .u32 0, .int .u32 0, .int .u32 0, .int .u32 0, .int .u32 0, .int .u32 0])) := by kernel_rfl
theorem pl306 : ∀ fs, Tryz.prog.underlying 306 = some (.struct fs) → fs.toList.map (fun f => (Tryz.prog.info? f.type).map (fun i => (f.offset, i.size))) = [(0, 8), (8, 1), (9, 1)].map some := by
  intro fs h
  rw [Tryz.underlying306] at h
  cases h
  kernel_rfl
def text0 : ByteArray := ⟨#[0, 1, 2, 2, 3, 3, 3, 3, 4, 4, 4, 4, 4, 4, 4, 4, 5, 5, 5, 5, 5, 5, 5, 5, 5, 5, 5, 5, 5, 5, 5, 5, 6, 6, 6, 6, 6, 6, 6, 6, 6, 6, 6, 6, 6, 6, 6, 6, 6, 6, 6, 6, 6, 6, 6, 6, 6, 6, 6, 6, 6, 6, 6, 6, 7, 7, 7, 7, 7, 7, 7, 7, 7, 7, 7, 7, 7, 7, 7, 7, 7, 7, 7, 7, 7, 7, 7, 7, 7, 7, 7, 7, 7, 7, 7, 7, 7, 7, 7, 7, 7, 7, 7, 7, 7, 7, 7, 7, 7, 7, 7, 7, 7, 7, 7, 7, 7, 7, 7, 7, 7, 7, 7, 7, 7, 7, 7, 7, 8, 8, 8, 8, 8, 8, 8, 8, 8, 8, 8, 8, 8, 8, 8, 8, 8, 8, 8, 8, 8, 8, 8, 8, 8, 8, 8, 8, 8, 8, 8, 8, 8, 8, 8, 8, 8, 8, 8, 8, 8, 8, 8, 8, 8, 8, 8, 8, 8, 8, 8, 8, 8, 8, 8, 8, 8, 8, 8, 8, 8, 8, 8, 8, 8, 8, 8, 8, 8, 8, 8, 8, 8, 8, 8, 8, 8, 8, 8, 8, 8, 8, 8, 8, 8, 8, 8, 8, 8, 8, 8, 8, 8, 8, 8, 8, 8, 8, 8, 8, 8, 8, 8, 8, 8, 8, 8, 8, 8, 8, 8, 8, 8, 8, 8, 8, 8, 8, 8, 8, 8, 8, 8, 8, 8, 8, 8, 8]⟩
def glob1 : List Int := [1779033703, 3144134277, 1013904242, 2773480762, 1359893119, 2600822924, 528734635, 1541459225]
theorem glob1_len : glob1.length = 8 := rfl
def glob3 : List Int := [1116352408, 1899447441, 3049323471, 3921009573, 961987163, 1508970993, 2453635748, 2870763221, 3624381080, 310598401, 607225278, 1426881987, 1925078388, 2162078206, 2614888103, 3248222580, 3835390401, 4022224774, 264347078, 604807628, 770255983, 1249150122, 1555081692, 1996064986, 2554220882, 2821834349, 2952996808, 3210313671, 3336571891, 3584528711, 113926993, 338241895, 666307205, 773529912, 1294757372, 1396182291, 1695183700, 1986661051, 2177026350, 2456956037, 2730485921, 2820302411, 3259730800, 3345764771, 3516065817, 3600352804, 4094571909, 275423344, 430227734, 506948616, 659060556, 883997877, 958139571, 1322822218, 1537002063, 1747873779, 1955562222, 2024104815, 2227730452, 2361852424, 2428436474, 2756734187, 3204031479, 3329325298]
theorem glob3_len : glob3.length = 64 := rfl
structure THash where
  words : List Int
  rest : List Int
  n : Int
def THash.z : THash := ⟨List.replicate 8 0, [], 0⟩
def THash.K : Kd THash := Kd.iso (Kd.pair (Kd.arrI 8 .u32) (Kd.pair (Kd.slice (Kd.int .u8)) (Kd.int .i64))) (fun x : THash => (x.words, (x.rest, x.n)))
theorem THash.open {F : CH} {x : THash} {cs : List Go.Value} (h : THash.K.rep F x cs) : ∃ (A2 : Option Addr) (c3 : Nat) (n4 : Nat), cs = x.words.map (Value.int .u32) ++ [.slice A2 n4 c3, .int .i64 x.n] ∧ x.words.length = 8 ∧ n4 = x.rest.length ∧ x.rest.length ≤ c3 ∧ c3 ≤ maxLen ∧ Sl (Kd.int .u8) F F A2 x.rest := by
  obtain ⟨_, _, rfl, u9, t10⟩ := h
  obtain ⟨rfl, q11⟩ := u9
  obtain ⟨_, _, rfl, u12, t13⟩ := t10
  obtain ⟨A14, c15, rfl, q16, q17, q18⟩ := u12
  obtain rfl := t13
  exact ⟨A14, c15, _, rfl, q11, rfl, q16, q17, q18⟩
theorem THash.mk' (F : CH) (x : THash) (A2 : Option Addr) (c3 : Nat) (n4 : Nat) (ha1 : x.words.length = 8) (hn5 : n4 = x.rest.length) (hl6 : x.rest.length ≤ c3) (hm7 : c3 ≤ maxLen) (hS8 : Sl (Kd.int .u8) F F A2 x.rest) : THash.K.rep F x (x.words.map (Value.int .u32) ++ [.slice A2 n4 c3, .int .i64 x.n]) := ⟨(x.words.map (Value.int .u32)), [.slice A2 n4 c3, .int .i64 x.n], rfl, ⟨rfl, ha1⟩, ⟨[.slice A2 n4 c3], [.int .i64 x.n], rfl, (slice_rep' A2 c3 n4 hn5 hl6 hm7 hS8), rfl⟩⟩
end Go.Proofs.YtnlpmnegjgjiiaaGreatDoor
