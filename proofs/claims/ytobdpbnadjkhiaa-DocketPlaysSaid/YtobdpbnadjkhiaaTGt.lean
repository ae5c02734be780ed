/- The program's types as plain structures, and closed facts of the program's types. Nothing is assumed. -/
import Derived.Test.YtobdpbnadjkhiaaProg
import Derived.Test.YtobdpbnadjkhiaaTLt
import Derived.KernelRfl
namespace Go.Proofs.Ytobdpbnadjkhiaa
open Go.RowKit Go.WG
set_option linter.unusedVariables false
set_option linter.unusedSimpArgs false
set_option maxRecDepth 100000
set_option maxHeartbeats 4000000
theorem sz3 : (Try.prog.info? 3).map (·.size) = some 1 := by kernel_rfl
theorem sz4 : (Try.prog.info? 4).map (·.size) = some 1 := by kernel_rfl
theorem sz5 : (Try.prog.info? 5).map (·.size) = some 1 := by kernel_rfl
theorem sz23 : (Try.prog.info? 23).map (·.size) = some 7 := by kernel_rfl
theorem sz27 : (Try.prog.info? 27).map (·.size) = some 1 := by kernel_rfl
theorem sz28 : (Try.prog.info? 28).map (·.size) = some 1 := by kernel_rfl
theorem sz29 : (Try.prog.info? 29).map (·.size) = some 1 := by kernel_rfl
theorem sz30 : (Try.prog.info? 30).map (·.size) = some 1 := by kernel_rfl
theorem sz32 : (Try.prog.info? 32).map (·.size) = some 5 := by kernel_rfl
theorem sz43 : (Try.prog.info? 43).map (·.size) = some 32 := by kernel_rfl
theorem sz44 : (Try.prog.info? 44).map (·.size) = some 1 := by kernel_rfl
theorem sz46 : (Try.prog.info? 46).map (·.size) = some 38 := by kernel_rfl
theorem sz53 : (Try.prog.info? 53).map (·.size) = some 1 := by kernel_rfl
theorem sz55 : (Try.prog.info? 55).map (·.size) = some 9 := by kernel_rfl
theorem sz65 : (Try.prog.info? 65).map (·.size) = some 33 := by kernel_rfl
theorem sz67 : (Try.prog.info? 67).map (·.size) = some 3 := by kernel_rfl
theorem sz79 : (Try.prog.info? 79).map (·.size) = some 2 := by kernel_rfl
theorem sz110 : (Try.prog.info? 110).map (·.size) = some 1 := by kernel_rfl
theorem sz116 : (Try.prog.info? 116).map (·.size) = some 2 := by kernel_rfl
theorem ti3 : TI Try.prog 3 (.int .i64 0) 1 8 := (by kernel_rfl : (Try.prog.info? 3).map (fun i => (i.zero, i.size, i.bytes)) = some (some (.int .i64 0), 1, 8))
theorem zo3 : ∀ u ∈ (.int .i64 0 : Value).cells.toList, u.oneCell' = true := fun u hu => List.all_eq_true.1 (rfl : ((.int .i64 0 : Value).cells.toList).all (·.oneCell') = true) u hu
theorem ti4 : TI Try.prog 4 (.bool false) 1 1 := (by kernel_rfl : (Try.prog.info? 4).map (fun i => (i.zero, i.size, i.bytes)) = some (some (.bool false), 1, 1))
theorem zo4 : ∀ u ∈ (.bool false : Value).cells.toList, u.oneCell' = true := fun u hu => List.all_eq_true.1 (rfl : ((.bool false : Value).cells.toList).all (·.oneCell') = true) u hu
theorem ti5 : TI Try.prog 5 (.int .u8 0) 1 1 := (by kernel_rfl : (Try.prog.info? 5).map (fun i => (i.zero, i.size, i.bytes)) = some (some (.int .u8 0), 1, 1))
theorem zo5 : ∀ u ∈ (.int .u8 0 : Value).cells.toList, u.oneCell' = true := fun u hu => List.all_eq_true.1 (rfl : ((.int .u8 0 : Value).cells.toList).all (·.oneCell') = true) u hu
theorem ti46 : TI Try.prog 46 (.agg #[.int .i64 0, .int .i64 0, .int .u8 0, .int .u8 0, .int .u8 0, .int .u8 0, .int .u8 0, .int .u8 0, .int .u8 0, .int .u8 0, .int .u8 0, .int .u8 0, .int .u8 0, .int .u8 0, .int .u8 0, .int .u8 0, .int .u8 0, .int .u8 0, .int .u8 0, .int .u8 0, .int .u8 0, .int .u8 0, .int .u8 0, .int .u8 0, .int .u8 0, .int .u8 0, .int .u8 0, .int .u8 0, .int .u8 0, .int .u8 0, .int .u8 0, .int .u8 0, .int .u8 0, .int .u8 0, .slice none 0 0, .int .i64 0, .int .i64 0, .int .i64 0]) 38 96 := (by kernel_rfl : (Try.prog.info? 46).map (fun i => (i.zero, i.size, i.bytes)) = some (some (.agg #[.int .i64 0, .int .i64 0, .int .u8 0, .int .u8 0, .int .u8 0, .int .u8 0, .int .u8 0, .int .u8 0, .int .u8 0, .int .u8 0, .int .u8 0, .int .u8 0, .int .u8 0, .int .u8 0, .int .u8 0, .int .u8 0, .int .u8 0, .int .u8 0, .int .u8 0, .int .u8 0, .int .u8 0, .int .u8 0, .int .u8 0, .int .u8 0, .int .u8 0, .int .u8 0, .int .u8 0, .int .u8 0, .int .u8 0, .int .u8 0, .int .u8 0, .int .u8 0, .int .u8 0, .int .u8 0, .slice none 0 0, .int .i64 0, .int .i64 0, .int .i64 0]), 38, 96))
theorem ti55 : TI Try.prog 55 (.agg #[.slice none 0 0, .int .i64 0, .int .i64 0, .int .i64 0, .int .i64 0, .slice none 0 0, .slice none 0 0, .slice none 0 0, .slice none 0 0]) 9 152 := (by kernel_rfl : (Try.prog.info? 55).map (fun i => (i.zero, i.size, i.bytes)) = some (some (.agg #[.slice none 0 0, .int .i64 0, .int .i64 0, .int .i64 0, .int .i64 0, .slice none 0 0, .slice none 0 0, .slice none 0 0, .slice none 0 0]), 9, 152))
theorem zo55 : ∀ u ∈ (.agg #[.slice none 0 0, .int .i64 0, .int .i64 0, .int .i64 0, .int .i64 0, .slice none 0 0, .slice none 0 0, .slice none 0 0, .slice none 0 0] : Value).cells.toList, u.oneCell' = true := fun u hu => List.all_eq_true.1 (rfl : ((.agg #[.slice none 0 0, .int .i64 0, .int .i64 0, .int .i64 0, .int .i64 0, .slice none 0 0, .slice none 0 0, .slice none 0 0, .slice none 0 0] : Value).cells.toList).all (·.oneCell') = true) u hu
theorem ti65 : TI Try.prog 65 (.agg #[.int .i64 0, .int .u8 0, .int .u8 0, .int .u8 0, .int .u8 0, .int .u8 0, .int .u8 0, .int .u8 0, .int .u8 0, .int .u8 0, .int .u8 0, .int .u8 0, .int .u8 0, .int .u8 0, .int .u8 0, .int .u8 0, .int .u8 0, .int .u8 0, .int .u8 0, .int .u8 0, .int .u8 0, .int .u8 0, .int .u8 0, .int .u8 0, .int .u8 0, .int .u8 0, .int .u8 0, .int .u8 0, .int .u8 0, .int .u8 0, .int .u8 0, .int .u8 0, .int .u8 0]) 33 40 := (by kernel_rfl : (Try.prog.info? 65).map (fun i => (i.zero, i.size, i.bytes)) = some (some (.agg #[.int .i64 0, .int .u8 0, .int .u8 0, .int .u8 0, .int .u8 0, .int .u8 0, .int .u8 0, .int .u8 0, .int .u8 0, .int .u8 0, .int .u8 0, .int .u8 0, .int .u8 0, .int .u8 0, .int .u8 0, .int .u8 0, .int .u8 0, .int .u8 0, .int .u8 0, .int .u8 0, .int .u8 0, .int .u8 0, .int .u8 0, .int .u8 0, .int .u8 0, .int .u8 0, .int .u8 0, .int .u8 0, .int .u8 0, .int .u8 0, .int .u8 0, .int .u8 0, .int .u8 0]), 33, 40))
theorem zo65 : ∀ u ∈ (.agg #[.int .i64 0, .int .u8 0, .int .u8 0, .int .u8 0, .int .u8 0, .int .u8 0, .int .u8 0, .int .u8 0, .int .u8 0, .int .u8 0, .int .u8 0, .int .u8 0, .int .u8 0, .int .u8 0, .int .u8 0, .int .u8 0, .int .u8 0, .int .u8 0, .int .u8 0, .int .u8 0, .int .u8 0, .int .u8 0, .int .u8 0, .int .u8 0, .int .u8 0, .int .u8 0, .int .u8 0, .int .u8 0, .int .u8 0, .int .u8 0, .int .u8 0, .int .u8 0, .int .u8 0] : Value).cells.toList, u.oneCell' = true := fun u hu => List.all_eq_true.1 (rfl : ((.agg #[.int .i64 0, .int .u8 0, .int .u8 0, .int .u8 0, .int .u8 0, .int .u8 0, .int .u8 0, .int .u8 0, .int .u8 0, .int .u8 0, .int .u8 0, .int .u8 0, .int .u8 0, .int .u8 0, .int .u8 0, .int .u8 0, .int .u8 0, .int .u8 0, .int .u8 0, .int .u8 0, .int .u8 0, .int .u8 0, .int .u8 0, .int .u8 0, .int .u8 0, .int .u8 0, .int .u8 0, .int .u8 0, .int .u8 0, .int .u8 0, .int .u8 0, .int .u8 0, .int .u8 0] : Value).cells.toList).all (·.oneCell') = true) u hu
theorem ti79 : TI Try.prog 79 (.agg #[.int .i64 0, .slice none 0 0]) 2 32 := (by kernel_rfl : (Try.prog.info? 79).map (fun i => (i.zero, i.size, i.bytes)) = some (some (.agg #[.int .i64 0, .slice none 0 0]), 2, 32))
theorem zo79 : ∀ u ∈ (.agg #[.int .i64 0, .slice none 0 0] : Value).cells.toList, u.oneCell' = true := fun u hu => List.all_eq_true.1 (rfl : ((.agg #[.int .i64 0, .slice none 0 0] : Value).cells.toList).all (·.oneCell') = true) u hu
theorem ti116 : TI Try.prog 116 (.agg #[.int .i64 0, .int .i64 0]) 2 16 := (by kernel_rfl : (Try.prog.info? 116).map (fun i => (i.zero, i.size, i.bytes)) = some (some (.agg #[.int .i64 0, .int .i64 0]), 2, 16))
theorem zo116 : ∀ u ∈ (.agg #[.int .i64 0, .int .i64 0] : Value).cells.toList, u.oneCell' = true := fun u hu => List.all_eq_true.1 (rfl : ((.agg #[.int .i64 0, .int .i64 0] : Value).cells.toList).all (·.oneCell') = true) u hu
theorem zr3 : (Try.prog.info? 3).map (·.zero) = some (some (.int .i64 0)) := by kernel_rfl
theorem zr23 : (Try.prog.info? 23).map (·.zero) = some (some (.agg #[.int .i64 0, .int .i64 0, .int .i64 0, .int .i64 0, .int .i64 0, .int .i64 0, .int .i64 0])) := by kernel_rfl
theorem zr32 : (Try.prog.info? 32).map (·.zero) = some (some (.agg #[.slice none 0 0, .slice none 0 0, .slice none 0 0, .slice none 0 0, .int .i64 0])) := by kernel_rfl
theorem zr43 : (Try.prog.info? 43).map (·.zero) = some (some (.agg #[.int .u8 0, .int .u8 0, .int .u8 0, .int .u8 0, .int .u8 0, .int .u8 0, .int .u8 0, .int .u8 0, .int .u8 0, .int .u8 0, .int .u8 0, .int .u8 0, .int .u8 0, .int .u8 0, .int .u8 0, .int .u8 0, .int .u8 0, .int .u8 0, .int .u8 0, .int .u8 0, .int .u8 0, .int .u8 0, .int .u8 0, .int .u8 0, .int .u8 0, .int .u8 0, .int .u8 0, .int .u8 0, .int .u8 0, .int .u8 0, .int .u8 0, .int .u8 0])) := by kernel_rfl
theorem zr46 : (Try.prog.info? 46).map (·.zero) = some (some (.agg #[.int .i64 0, .int .i64 0, .int .u8 0, .int .u8 0, .int .u8 0, .int .u8 0, .int .u8 0, .int .u8 0, .int .u8 0, .int .u8 0, .int .u8 0, .int .u8 0, .int .u8 0, .int .u8 0, .int .u8 0, .int .u8 0, .int .u8 0, .int .u8 0, .int .u8 0, .int .u8 0, .int .u8 0, .int .u8 0, .int .u8 0, .int .u8 0, .int .u8 0, .int .u8 0, .int .u8 0, .int .u8 0, .int .u8 0, .int .u8 0, .int .u8 0, .int .u8 0, .int .u8 0, .int .u8 0, .slice none 0 0, .int .i64 0, .int .i64 0, .int .i64 0])) := by kernel_rfl
theorem zr55 : (Try.prog.info? 55).map (·.zero) = some (some (.agg #[.slice none 0 0, .int .i64 0, .int .i64 0, .int .i64 0, .int .i64 0, .slice none 0 0, .slice none 0 0, .slice none 0 0, .slice none 0 0])) := by kernel_rfl
theorem zr65 : (Try.prog.info? 65).map (·.zero) = some (some (.agg #[.int .i64 0, .int .u8 0, .int .u8 0, .int .u8 0, .int .u8 0, .int .u8 0, .int .u8 0, .int .u8 0, .int .u8 0, .int .u8 0, .int .u8 0, .int .u8 0, .int .u8 0, .int .u8 0, .int .u8 0, .int .u8 0, .int .u8 0, .int .u8 0, .int .u8 0, .int .u8 0, .int .u8 0, .int .u8 0, .int .u8 0, .int .u8 0, .int .u8 0, .int .u8 0, .int .u8 0, .int .u8 0, .int .u8 0, .int .u8 0, .int .u8 0, .int .u8 0, .int .u8 0])) := by kernel_rfl
theorem zr67 : (Try.prog.info? 67).map (·.zero) = some (some (.agg #[.int .i64 0, .int .i64 0, .int .i64 0])) := by kernel_rfl
theorem zr68 : (Try.prog.info? 68).map (·.zero) = some (some (.agg #[.int .i64 0, .int .i64 0, .int .i64 0, .int .i64 0, .int .i64 0, .int .i64 0, .int .i64 0, .int .i64 0, .int .i64 0, .int .i64 0, .int .i64 0, .int .i64 0, .int .i64 0, .int .i64 0, .int .i64 0, .int .i64 0, .int .i64 0, .int .i64 0, .int .i64 0, .int .i64 0, .int .i64 0])) := by kernel_rfl
theorem zr75 : (Try.prog.info? 75).map (·.zero) = some (some (.agg #[.int .i64 0, .int .i64 0, .int .i64 0, .int .i64 0, .int .i64 0, .int .i64 0, .int .i64 0, .slice none 0 0, .slice none 0 0, .slice none 0 0, .slice none 0 0, .int .i64 0])) := by kernel_rfl
theorem zr79 : (Try.prog.info? 79).map (·.zero) = some (some (.agg #[.int .i64 0, .slice none 0 0])) := by kernel_rfl
theorem zr81 : (Try.prog.info? 81).map (·.zero) = some (some (.agg #[.int .i64 0, .int .i64 0, .int .i64 0, .int .i64 0])) := by kernel_rfl
theorem zr106 : (Try.prog.info? 106).map (·.zero) = some (some (.map none)) := by kernel_rfl
theorem zr110 : (Try.prog.info? 110).map (·.zero) = some (some (.slice none 0 0)) := by kernel_rfl
theorem zr116 : (Try.prog.info? 116).map (·.zero) = some (some (.agg #[.int .i64 0, .int .i64 0])) := by kernel_rfl
theorem pl23 : ∀ fs, Try.prog.underlying 23 = some (.struct fs) → fs.toList.map (fun f => (Try.prog.info? f.type).map (fun i => (f.offset, i.size))) = [(0, 1), (1, 1), (2, 1), (3, 1), (4, 1), (5, 1), (6, 1)].map some := by
  intro fs h
  rw [Try.underlying23] at h
  cases h
  kernel_rfl
theorem pl32 : ∀ fs, Try.prog.underlying 32 = some (.struct fs) → fs.toList.map (fun f => (Try.prog.info? f.type).map (fun i => (f.offset, i.size))) = [(0, 1), (1, 1), (2, 1), (3, 1), (4, 1)].map some := by
  intro fs h
  rw [Try.underlying32] at h
  cases h
  kernel_rfl
theorem pl46 : ∀ fs, Try.prog.underlying 46 = some (.struct fs) → fs.toList.map (fun f => (Try.prog.info? f.type).map (fun i => (f.offset, i.size))) = [(0, 1), (1, 1), (2, 32), (34, 1), (35, 1), (36, 1), (37, 1)].map some := by
  intro fs h
  rw [Try.underlying46] at h
  cases h
  kernel_rfl
theorem pl55 : ∀ fs, Try.prog.underlying 55 = some (.struct fs) → fs.toList.map (fun f => (Try.prog.info? f.type).map (fun i => (f.offset, i.size))) = [(0, 1), (1, 1), (2, 1), (3, 1), (4, 1), (5, 1), (6, 1), (7, 1), (8, 1)].map some := by
  intro fs h
  rw [Try.underlying55] at h
  cases h
  kernel_rfl
theorem pl65 : ∀ fs, Try.prog.underlying 65 = some (.struct fs) → fs.toList.map (fun f => (Try.prog.info? f.type).map (fun i => (f.offset, i.size))) = [(0, 1), (1, 32)].map some := by
  intro fs h
  rw [Try.underlying65] at h
  cases h
  kernel_rfl
theorem pl75 : ∀ fs, Try.prog.underlying 75 = some (.struct fs) → fs.toList.map (fun f => (Try.prog.info? f.type).map (fun i => (f.offset, i.size))) = [(0, 7), (7, 5)].map some := by
  intro fs h
  rw [Try.underlying75] at h
  cases h
  kernel_rfl
theorem pl79 : ∀ fs, Try.prog.underlying 79 = some (.struct fs) → fs.toList.map (fun f => (Try.prog.info? f.type).map (fun i => (f.offset, i.size))) = [(0, 1), (1, 1)].map some := by
  intro fs h
  rw [Try.underlying79] at h
  cases h
  kernel_rfl
theorem pl116 : ∀ fs, Try.prog.underlying 116 = some (.struct fs) → fs.toList.map (fun f => (Try.prog.info? f.type).map (fun i => (f.offset, i.size))) = [(0, 1), (1, 1)].map some := by
  intro fs h
  rw [Try.underlying116] at h
  cases h
  kernel_rfl
def tbP : List (Nat × List Nat) := [(23, [0, 1, 2, 3, 4, 5, 6]), (32, [0, 1, 2, 3, 4]), (46, [0, 1, 2, 34, 35, 36, 37]), (55, [0, 1, 2, 3, 4, 5, 6, 7, 8]), (59, [0, 1]), (65, [0, 1]), (75, [0, 7]), (79, [0, 1]), (116, [0, 1])]
theorem to : PlaceOk Try.prog tbP := PlaceOk.of (by kernel_rfl)
theorem ne : EntOk Try.prog [7, 8, 9, 10, 11, 12, 13, 14, 15, 16, 17, 18, 19, 20, 21, 22, 23, 24, 25, 26, 27, 28, 29, 30, 31, 32, 33, 34, 35, 36, 43, 44, 45, 46, 47, 48, 49, 50, 51, 52, 53, 54, 55, 56, 57, 58, 59, 60, 61, 62, 63, 64, 65, 66, 67, 68, 69, 70, 71, 73, 74, 75, 76, 79] := EntOk.of (by kernel_rfl)
theorem eg43 : Try.prog.eqGuardType Try.prog.depth 43 = false := by kernel_rfl
theorem eg65 : Try.prog.eqGuardType Try.prog.depth 65 = false := by kernel_rfl
theorem sh65 : Try.prog.stoodInHeld 65 = false := by kernel_rfl
structure TCast where
  Worker : Int
  Value : List Int
def TCast.z : TCast := ⟨0, []⟩
def TCast.K : Kd TCast := Kd.iso (Kd.pair (Kd.int .i64) (Kd.slice (Kd.int .u8))) (fun x : TCast => (x.Worker, x.Value))
theorem TCast.open {F : CH} {x : TCast} {cs : List Go.Value} (h : TCast.K.rep F x cs) : ∃ (A1 : Option Addr) (c2 : Nat) (n3 : Nat), cs = [.int .i64 x.Worker, .slice A1 n3 c2] ∧ n3 = x.Value.length ∧ x.Value.length ≤ c2 ∧ c2 ≤ maxLen ∧ Sl (Kd.int .u8) F F A1 x.Value := by
  obtain ⟨_, _, rfl, u8, t9⟩ := h
  obtain rfl := u8
  obtain ⟨A10, c11, rfl, q12, q13, q14⟩ := t9
  exact ⟨A10, c11, _, rfl, rfl, q12, q13, q14⟩
theorem TCast.mk' (F : CH) (x : TCast) (A1 : Option Addr) (c2 : Nat) (n3 : Nat) (hn4 : n3 = x.Value.length) (hl5 : x.Value.length ≤ c2) (hm6 : c2 ≤ maxLen) (hS7 : Sl (Kd.int .u8) F F A1 x.Value) : TCast.K.rep F x ([.int .i64 x.Worker, .slice A1 n3 c2]) := ⟨_, _, rfl, rfl, (slice_rep' A1 c2 n3 hn4 hl5 hm6 hS7)⟩
structure Thand where
  used : Int
  id : Int
def Thand.z : Thand := ⟨0, 0⟩
def Thand.K : Kd Thand := Kd.iso (Kd.pair (Kd.int .i64) (Kd.int .i64)) (fun x : Thand => (x.used, x.id))
theorem Thand.open {F : CH} {x : Thand} {cs : List Go.Value} (h : Thand.K.rep F x cs) : cs = [.int .i64 x.used, .int .i64 x.id] := by
  obtain ⟨_, _, rfl, u1, t2⟩ := h
  obtain rfl := u1
  obtain rfl := t2
  exact rfl
theorem Thand.mk' (F : CH) (x : Thand)   : Thand.K.rep F x ([.int .i64 x.used, .int .i64 x.id]) := ⟨_, _, rfl, rfl, rfl⟩
structure TConfig where
  Faulty : Int
  Workers : Int
  Height : Int
  Bits : Int
  Jobs : Int
  Term : Int
  Heads : Int
def TConfig.K : Kd TConfig := Kd.iso (Kd.pair (Kd.int .i64) (Kd.pair (Kd.int .i64) (Kd.pair (Kd.int .i64) (Kd.pair (Kd.int .i64) (Kd.pair (Kd.int .i64) (Kd.pair (Kd.int .i64) (Kd.int .i64))))))) (fun x : TConfig => (x.Faulty, (x.Workers, (x.Height, (x.Bits, (x.Jobs, (x.Term, x.Heads)))))))
theorem TConfig.open {F : CH} {x : TConfig} {cs : List Go.Value} (h : TConfig.K.rep F x cs) : cs = [.int .i64 x.Faulty, .int .i64 x.Workers, .int .i64 x.Height, .int .i64 x.Bits, .int .i64 x.Jobs, .int .i64 x.Term, .int .i64 x.Heads] := by
  obtain ⟨_, _, rfl, u1, t2⟩ := h
  obtain rfl := u1
  obtain ⟨_, _, rfl, u3, t4⟩ := t2
  obtain rfl := u3
  obtain ⟨_, _, rfl, u5, t6⟩ := t4
  obtain rfl := u5
  obtain ⟨_, _, rfl, u7, t8⟩ := t6
  obtain rfl := u7
  obtain ⟨_, _, rfl, u9, t10⟩ := t8
  obtain rfl := u9
  obtain ⟨_, _, rfl, u11, t12⟩ := t10
  obtain rfl := u11
  obtain rfl := t12
  exact rfl
theorem TConfig.mk' (F : CH) (x : TConfig)   : TConfig.K.rep F x ([.int .i64 x.Faulty, .int .i64 x.Workers, .int .i64 x.Height, .int .i64 x.Bits, .int .i64 x.Jobs, .int .i64 x.Term, .int .i64 x.Heads]) := ⟨_, _, rfl, rfl, ⟨_, _, rfl, rfl, ⟨_, _, rfl, rfl, ⟨_, _, rfl, rfl, ⟨_, _, rfl, rfl, ⟨_, _, rfl, rfl, rfl⟩⟩⟩⟩⟩⟩
structure TEra where
  Epoch : Int
  Nonce : List Int
def TEra.z : TEra := ⟨0, List.replicate 32 0⟩
def TEra.K : Kd TEra := Kd.iso (Kd.pair (Kd.int .i64) (Kd.arrI 32 .u8)) (fun x : TEra => (x.Epoch, x.Nonce))
theorem TEra.open {F : CH} {x : TEra} {cs : List Go.Value} (h : TEra.K.rep F x cs) : cs = [.int .i64 x.Epoch] ++ (x.Nonce.map (Value.int .u8)) ∧ x.Nonce.length = 32 := by
  obtain ⟨_, _, rfl, u2, t3⟩ := h
  obtain rfl := u2
  obtain ⟨rfl, q4⟩ := t3
  exact ⟨rfl, q4⟩
theorem TEra.mk' (F : CH) (x : TEra)  (ha1 : x.Nonce.length = 32) : TEra.K.rep F x ([.int .i64 x.Epoch] ++ (x.Nonce.map (Value.int .u8))) := ⟨[.int .i64 x.Epoch], (x.Nonce.map (Value.int .u8)), rfl, rfl, ⟨rfl, ha1⟩⟩
structure TJob where
  Payload : List Int
  State : Int
  Attempt : Int
  Epoch : Int
  Until : Int
  Workers : List Int
  Indexes : List Int
  Votes : List TCast
  Value : List Int
def TJob.z : TJob := ⟨[], 0, 0, 0, 0, [], [], [], []⟩
def TJob.K : Kd TJob := Kd.iso (Kd.pair (Kd.slice (Kd.int .u8)) (Kd.pair (Kd.int .i64) (Kd.pair (Kd.int .i64) (Kd.pair (Kd.int .i64) (Kd.pair (Kd.int .i64) (Kd.pair (Kd.slice (Kd.int .i64)) (Kd.pair (Kd.slice (Kd.int .i64)) (Kd.pair (Kd.slice TCast.K) (Kd.slice (Kd.int .u8)))))))))) (fun x : TJob => (x.Payload, (x.State, (x.Attempt, (x.Epoch, (x.Until, (x.Workers, (x.Indexes, (x.Votes, x.Value)))))))))
theorem TJob.open {F : CH} {x : TJob} {cs : List Go.Value} (h : TJob.K.rep F x cs) : ∃ (A1 : Option Addr) (c2 : Nat) (n3 : Nat) (A8 : Option Addr) (c9 : Nat) (n10 : Nat) (A15 : Option Addr) (c16 : Nat) (n17 : Nat) (A22 : Option Addr) (c23 : Nat) (n24 : Nat) (A29 : Option Addr) (c30 : Nat) (n31 : Nat), cs = [.slice A1 n3 c2, .int .i64 x.State, .int .i64 x.Attempt, .int .i64 x.Epoch, .int .i64 x.Until, .slice A8 n10 c9, .slice A15 n17 c16, .slice A22 n24 c23, .slice A29 n31 c30] ∧ n3 = x.Payload.length ∧ x.Payload.length ≤ c2 ∧ c2 ≤ maxLen ∧ Sl (Kd.int .u8) F F A1 x.Payload ∧ n10 = x.Workers.length ∧ x.Workers.length ≤ c9 ∧ c9 ≤ maxLen ∧ Sl (Kd.int .i64) F F A8 x.Workers ∧ n17 = x.Indexes.length ∧ x.Indexes.length ≤ c16 ∧ c16 ≤ maxLen ∧ Sl (Kd.int .i64) F F A15 x.Indexes ∧ n24 = x.Votes.length ∧ x.Votes.length ≤ c23 ∧ c23 ≤ maxLen ∧ Sl TCast.K F F A22 x.Votes ∧ n31 = x.Value.length ∧ x.Value.length ≤ c30 ∧ c30 ≤ maxLen ∧ Sl (Kd.int .u8) F F A29 x.Value := by
  obtain ⟨_, _, rfl, u36, t37⟩ := h
  obtain ⟨A38, c39, rfl, q40, q41, q42⟩ := u36
  obtain ⟨_, _, rfl, u43, t44⟩ := t37
  obtain rfl := u43
  obtain ⟨_, _, rfl, u45, t46⟩ := t44
  obtain rfl := u45
  obtain ⟨_, _, rfl, u47, t48⟩ := t46
  obtain rfl := u47
  obtain ⟨_, _, rfl, u49, t50⟩ := t48
  obtain rfl := u49
  obtain ⟨_, _, rfl, u51, t52⟩ := t50
  obtain ⟨A53, c54, rfl, q55, q56, q57⟩ := u51
  obtain ⟨_, _, rfl, u58, t59⟩ := t52
  obtain ⟨A60, c61, rfl, q62, q63, q64⟩ := u58
  obtain ⟨_, _, rfl, u65, t66⟩ := t59
  obtain ⟨A67, c68, rfl, q69, q70, q71⟩ := u65
  obtain ⟨A72, c73, rfl, q74, q75, q76⟩ := t66
  exact ⟨A38, c39, _, A53, c54, _, A60, c61, _, A67, c68, _, A72, c73, _, rfl, rfl, q40, q41, q42, rfl, q55, q56, q57, rfl, q62, q63, q64, rfl, q69, q70, q71, rfl, q74, q75, q76⟩
theorem TJob.mk' (F : CH) (x : TJob) (A1 : Option Addr) (c2 : Nat) (n3 : Nat) (A8 : Option Addr) (c9 : Nat) (n10 : Nat) (A15 : Option Addr) (c16 : Nat) (n17 : Nat) (A22 : Option Addr) (c23 : Nat) (n24 : Nat) (A29 : Option Addr) (c30 : Nat) (n31 : Nat) (hn4 : n3 = x.Payload.length) (hl5 : x.Payload.length ≤ c2) (hm6 : c2 ≤ maxLen) (hS7 : Sl (Kd.int .u8) F F A1 x.Payload) (hn11 : n10 = x.Workers.length) (hl12 : x.Workers.length ≤ c9) (hm13 : c9 ≤ maxLen) (hS14 : Sl (Kd.int .i64) F F A8 x.Workers) (hn18 : n17 = x.Indexes.length) (hl19 : x.Indexes.length ≤ c16) (hm20 : c16 ≤ maxLen) (hS21 : Sl (Kd.int .i64) F F A15 x.Indexes) (hn25 : n24 = x.Votes.length) (hl26 : x.Votes.length ≤ c23) (hm27 : c23 ≤ maxLen) (hS28 : Sl TCast.K F F A22 x.Votes) (hn32 : n31 = x.Value.length) (hl33 : x.Value.length ≤ c30) (hm34 : c30 ≤ maxLen) (hS35 : Sl (Kd.int .u8) F F A29 x.Value) : TJob.K.rep F x ([.slice A1 n3 c2, .int .i64 x.State, .int .i64 x.Attempt, .int .i64 x.Epoch, .int .i64 x.Until, .slice A8 n10 c9, .slice A15 n17 c16, .slice A22 n24 c23, .slice A29 n31 c30]) := ⟨_, _, rfl, (slice_rep' A1 c2 n3 hn4 hl5 hm6 hS7), ⟨_, _, rfl, rfl, ⟨_, _, rfl, rfl, ⟨_, _, rfl, rfl, ⟨_, _, rfl, rfl, ⟨_, _, rfl, (slice_rep' A8 c9 n10 hn11 hl12 hm13 hS14), ⟨_, _, rfl, (slice_rep' A15 c16 n17 hn18 hl19 hm20 hS21), ⟨_, _, rfl, (slice_rep' A22 c23 n24 hn25 hl26 hm27 hS28), (slice_rep' A29 c30 n31 hn32 hl33 hm34 hS35)⟩⟩⟩⟩⟩⟩⟩⟩
structure TState where
  Eras : List TEra
  Jobs : List TJob
  Used : List Int
  Barred : List Bool
  Heads : Int
def TState.K : Kd TState := Kd.iso (Kd.pair (Kd.slice TEra.K) (Kd.pair (Kd.slice TJob.K) (Kd.pair (Kd.slice (Kd.int .i64)) (Kd.pair (Kd.slice Kd.bool) (Kd.int .i64))))) (fun x : TState => (x.Eras, (x.Jobs, (x.Used, (x.Barred, x.Heads)))))
theorem TState.open {F : CH} {x : TState} {cs : List Go.Value} (h : TState.K.rep F x cs) : ∃ (A1 : Option Addr) (c2 : Nat) (n3 : Nat) (A8 : Option Addr) (c9 : Nat) (n10 : Nat) (A15 : Option Addr) (c16 : Nat) (n17 : Nat) (A22 : Option Addr) (c23 : Nat) (n24 : Nat), cs = [.slice A1 n3 c2, .slice A8 n10 c9, .slice A15 n17 c16, .slice A22 n24 c23, .int .i64 x.Heads] ∧ n3 = x.Eras.length ∧ x.Eras.length ≤ c2 ∧ c2 ≤ maxLen ∧ Sl TEra.K F F A1 x.Eras ∧ n10 = x.Jobs.length ∧ x.Jobs.length ≤ c9 ∧ c9 ≤ maxLen ∧ Sl TJob.K F F A8 x.Jobs ∧ n17 = x.Used.length ∧ x.Used.length ≤ c16 ∧ c16 ≤ maxLen ∧ Sl (Kd.int .i64) F F A15 x.Used ∧ n24 = x.Barred.length ∧ x.Barred.length ≤ c23 ∧ c23 ≤ maxLen ∧ Sl Kd.bool F F A22 x.Barred := by
  obtain ⟨_, _, rfl, u29, t30⟩ := h
  obtain ⟨A31, c32, rfl, q33, q34, q35⟩ := u29
  obtain ⟨_, _, rfl, u36, t37⟩ := t30
  obtain ⟨A38, c39, rfl, q40, q41, q42⟩ := u36
  obtain ⟨_, _, rfl, u43, t44⟩ := t37
  obtain ⟨A45, c46, rfl, q47, q48, q49⟩ := u43
  obtain ⟨_, _, rfl, u50, t51⟩ := t44
  obtain ⟨A52, c53, rfl, q54, q55, q56⟩ := u50
  obtain rfl := t51
  exact ⟨A31, c32, _, A38, c39, _, A45, c46, _, A52, c53, _, rfl, rfl, q33, q34, q35, rfl, q40, q41, q42, rfl, q47, q48, q49, rfl, q54, q55, q56⟩
theorem TState.mk' (F : CH) (x : TState) (A1 : Option Addr) (c2 : Nat) (n3 : Nat) (A8 : Option Addr) (c9 : Nat) (n10 : Nat) (A15 : Option Addr) (c16 : Nat) (n17 : Nat) (A22 : Option Addr) (c23 : Nat) (n24 : Nat) (hn4 : n3 = x.Eras.length) (hl5 : x.Eras.length ≤ c2) (hm6 : c2 ≤ maxLen) (hS7 : Sl TEra.K F F A1 x.Eras) (hn11 : n10 = x.Jobs.length) (hl12 : x.Jobs.length ≤ c9) (hm13 : c9 ≤ maxLen) (hS14 : Sl TJob.K F F A8 x.Jobs) (hn18 : n17 = x.Used.length) (hl19 : x.Used.length ≤ c16) (hm20 : c16 ≤ maxLen) (hS21 : Sl (Kd.int .i64) F F A15 x.Used) (hn25 : n24 = x.Barred.length) (hl26 : x.Barred.length ≤ c23) (hm27 : c23 ≤ maxLen) (hS28 : Sl Kd.bool F F A22 x.Barred) : TState.K.rep F x ([.slice A1 n3 c2, .slice A8 n10 c9, .slice A15 n17 c16, .slice A22 n24 c23, .int .i64 x.Heads]) := ⟨_, _, rfl, (slice_rep' A1 c2 n3 hn4 hl5 hm6 hS7), ⟨_, _, rfl, (slice_rep' A8 c9 n10 hn11 hl12 hm13 hS14), ⟨_, _, rfl, (slice_rep' A15 c16 n17 hn18 hl19 hm20 hS21), ⟨_, _, rfl, (slice_rep' A22 c23 n24 hn25 hl26 hm27 hS28), rfl⟩⟩⟩⟩
structure TRecord where
  Kind : Int
  Epoch : Int
  Nonce : List Int
  Data : List Int
  Job : Int
  Time : Int
  By : Int
def TRecord.z : TRecord := ⟨0, 0, List.replicate 32 0, [], 0, 0, 0⟩
def TRecord.K : Kd TRecord := Kd.iso (Kd.pair (Kd.int .i64) (Kd.pair (Kd.int .i64) (Kd.pair (Kd.arrI 32 .u8) (Kd.pair (Kd.slice (Kd.int .u8)) (Kd.pair (Kd.int .i64) (Kd.pair (Kd.int .i64) (Kd.int .i64))))))) (fun x : TRecord => (x.Kind, (x.Epoch, (x.Nonce, (x.Data, (x.Job, (x.Time, x.By)))))))
theorem TRecord.open {F : CH} {x : TRecord} {cs : List Go.Value} (h : TRecord.K.rep F x cs) : ∃ (A2 : Option Addr) (c3 : Nat) (n4 : Nat), cs = [.int .i64 x.Kind, .int .i64 x.Epoch] ++ (x.Nonce.map (Value.int .u8) ++ [.slice A2 n4 c3, .int .i64 x.Job, .int .i64 x.Time, .int .i64 x.By]) ∧ x.Nonce.length = 32 ∧ n4 = x.Data.length ∧ x.Data.length ≤ c3 ∧ c3 ≤ maxLen ∧ Sl (Kd.int .u8) F F A2 x.Data := by
  obtain ⟨_, _, rfl, u9, t10⟩ := h
  obtain rfl := u9
  obtain ⟨_, _, rfl, u11, t12⟩ := t10
  obtain rfl := u11
  obtain ⟨_, _, rfl, u13, t14⟩ := t12
  obtain ⟨rfl, q15⟩ := u13
  obtain ⟨_, _, rfl, u16, t17⟩ := t14
  obtain ⟨A18, c19, rfl, q20, q21, q22⟩ := u16
  obtain ⟨_, _, rfl, u23, t24⟩ := t17
  obtain rfl := u23
  obtain ⟨_, _, rfl, u25, t26⟩ := t24
  obtain rfl := u25
  obtain rfl := t26
  exact ⟨A18, c19, _, rfl, q15, rfl, q20, q21, q22⟩
theorem TRecord.mk' (F : CH) (x : TRecord) (A2 : Option Addr) (c3 : Nat) (n4 : Nat) (ha1 : x.Nonce.length = 32) (hn5 : n4 = x.Data.length) (hl6 : x.Data.length ≤ c3) (hm7 : c3 ≤ maxLen) (hS8 : Sl (Kd.int .u8) F F A2 x.Data) : TRecord.K.rep F x ([.int .i64 x.Kind, .int .i64 x.Epoch] ++ (x.Nonce.map (Value.int .u8) ++ [.slice A2 n4 c3, .int .i64 x.Job, .int .i64 x.Time, .int .i64 x.By])) := ⟨[.int .i64 x.Kind], ([.int .i64 x.Epoch] ++ (x.Nonce.map (Value.int .u8) ++ [.slice A2 n4 c3, .int .i64 x.Job, .int .i64 x.Time, .int .i64 x.By])), rfl, rfl, ⟨[.int .i64 x.Epoch], (x.Nonce.map (Value.int .u8) ++ [.slice A2 n4 c3, .int .i64 x.Job, .int .i64 x.Time, .int .i64 x.By]), rfl, rfl, ⟨(x.Nonce.map (Value.int .u8)), [.slice A2 n4 c3, .int .i64 x.Job, .int .i64 x.Time, .int .i64 x.By], rfl, ⟨rfl, ha1⟩, ⟨[.slice A2 n4 c3], [.int .i64 x.Job, .int .i64 x.Time, .int .i64 x.By], rfl, (slice_rep' A2 c3 n4 hn5 hl6 hm7 hS8), ⟨[.int .i64 x.Job], [.int .i64 x.Time, .int .i64 x.By], rfl, rfl, ⟨[.int .i64 x.Time], [.int .i64 x.By], rfl, rfl, rfl⟩⟩⟩⟩⟩⟩
structure Twork where
  c : TConfig
  State : TState
def Twork.K : Kd Twork := Kd.iso (Kd.pair TConfig.K TState.K) (fun x : Twork => (x.c, x.State))
theorem Twork.open {F : CH} {x : Twork} {cs : List Go.Value} (h : Twork.K.rep F x cs) : ∃ (A1 : Option Addr) (c2 : Nat) (n3 : Nat) (A8 : Option Addr) (c9 : Nat) (n10 : Nat) (A15 : Option Addr) (c16 : Nat) (n17 : Nat) (A22 : Option Addr) (c23 : Nat) (n24 : Nat), cs = [.int .i64 x.c.Faulty, .int .i64 x.c.Workers, .int .i64 x.c.Height, .int .i64 x.c.Bits, .int .i64 x.c.Jobs, .int .i64 x.c.Term, .int .i64 x.c.Heads, .slice A1 n3 c2, .slice A8 n10 c9, .slice A15 n17 c16, .slice A22 n24 c23, .int .i64 x.State.Heads] ∧ n3 = x.State.Eras.length ∧ x.State.Eras.length ≤ c2 ∧ c2 ≤ maxLen ∧ Sl TEra.K F F A1 x.State.Eras ∧ n10 = x.State.Jobs.length ∧ x.State.Jobs.length ≤ c9 ∧ c9 ≤ maxLen ∧ Sl TJob.K F F A8 x.State.Jobs ∧ n17 = x.State.Used.length ∧ x.State.Used.length ≤ c16 ∧ c16 ≤ maxLen ∧ Sl (Kd.int .i64) F F A15 x.State.Used ∧ n24 = x.State.Barred.length ∧ x.State.Barred.length ≤ c23 ∧ c23 ≤ maxLen ∧ Sl Kd.bool F F A22 x.State.Barred := by
  obtain ⟨_, _, rfl, u29, t30⟩ := h
  obtain ⟨rfl⟩ := TConfig.open u29
  obtain ⟨A59, A60, A61, A62, A63, A64, A65, A66, A67, A68, A69, A70, rfl, q71, q72, q73, q74, q75, q76, q77, q78, q79, q80, q81, q82, q83, q84, q85, q86⟩ := TState.open t30
  exact ⟨A59, A60, A61, A62, A63, A64, A65, A66, A67, A68, A69, A70, rfl, q71, q72, q73, q74, q75, q76, q77, q78, q79, q80, q81, q82, q83, q84, q85, q86⟩
theorem Twork.mk' (F : CH) (x : Twork) (A1 : Option Addr) (c2 : Nat) (n3 : Nat) (A8 : Option Addr) (c9 : Nat) (n10 : Nat) (A15 : Option Addr) (c16 : Nat) (n17 : Nat) (A22 : Option Addr) (c23 : Nat) (n24 : Nat) (hn4 : n3 = x.State.Eras.length) (hl5 : x.State.Eras.length ≤ c2) (hm6 : c2 ≤ maxLen) (hS7 : Sl TEra.K F F A1 x.State.Eras) (hn11 : n10 = x.State.Jobs.length) (hl12 : x.State.Jobs.length ≤ c9) (hm13 : c9 ≤ maxLen) (hS14 : Sl TJob.K F F A8 x.State.Jobs) (hn18 : n17 = x.State.Used.length) (hl19 : x.State.Used.length ≤ c16) (hm20 : c16 ≤ maxLen) (hS21 : Sl (Kd.int .i64) F F A15 x.State.Used) (hn25 : n24 = x.State.Barred.length) (hl26 : x.State.Barred.length ≤ c23) (hm27 : c23 ≤ maxLen) (hS28 : Sl Kd.bool F F A22 x.State.Barred) : Twork.K.rep F x ([.int .i64 x.c.Faulty, .int .i64 x.c.Workers, .int .i64 x.c.Height, .int .i64 x.c.Bits, .int .i64 x.c.Jobs, .int .i64 x.c.Term, .int .i64 x.c.Heads, .slice A1 n3 c2, .slice A8 n10 c9, .slice A15 n17 c16, .slice A22 n24 c23, .int .i64 x.State.Heads]) := ⟨_, _, rfl, (TConfig.mk' F _  ), (TState.mk' F _ A1 c2 n3 A8 c9 n10 A15 c16 n17 A22 c23 n24 hn4 hl5 hm6 hS7 hn11 hl12 hm13 hS14 hn18 hl19 hm20 hS21 hn25 hl26 hm27 hS28)⟩
structure TGiven where
  Worker : Int
  Index : Int
def TGiven.K : Kd TGiven := Kd.iso (Kd.pair (Kd.int .i64) (Kd.int .i64)) (fun x : TGiven => (x.Worker, x.Index))
theorem TGiven.open {F : CH} {x : TGiven} {cs : List Go.Value} (h : TGiven.K.rep F x cs) : cs = [.int .i64 x.Worker, .int .i64 x.Index] := by
  obtain ⟨_, _, rfl, u1, t2⟩ := h
  obtain rfl := u1
  obtain rfl := t2
  exact rfl
theorem TGiven.mk' (F : CH) (x : TGiven)   : TGiven.K.rep F x ([.int .i64 x.Worker, .int .i64 x.Index]) := ⟨_, _, rfl, rfl, rfl⟩
abbrev iv (x : Int) : Value := .int .i64 x
abbrev TConfig.q (x : TConfig) : List Go.Value := [.int .i64 x.Faulty, .int .i64 x.Workers, .int .i64 x.Height, .int .i64 x.Bits, .int .i64 x.Jobs, .int .i64 x.Term, .int .i64 x.Heads]
abbrev TJob.q (x : TJob) (A1 : Option Addr) (n3 c2 : Nat) (A8 : Option Addr) (n10 c9 : Nat) (A15 : Option Addr) (n17 c16 : Nat) (A22 : Option Addr) (n24 c23 : Nat) (A29 : Option Addr) (n31 c30 : Nat) : List Go.Value := [.slice A1 n3 c2, .int .i64 x.State, .int .i64 x.Attempt, .int .i64 x.Epoch, .int .i64 x.Until, .slice A8 n10 c9, .slice A15 n17 c16, .slice A22 n24 c23, .slice A29 n31 c30]
abbrev TState.q (x : TState) (A1 : Option Addr) (n3 c2 : Nat) (A8 : Option Addr) (n10 c9 : Nat) (A15 : Option Addr) (n17 c16 : Nat) (A22 : Option Addr) (n24 c23 : Nat) : List Go.Value := [.slice A1 n3 c2, .slice A8 n10 c9, .slice A15 n17 c16, .slice A22 n24 c23, .int .i64 x.Heads]
abbrev TRecord.q (x : TRecord) (A2 : Option Addr) (n4 c3 : Nat) : List Go.Value := [.int .i64 x.Kind, .int .i64 x.Epoch] ++ (x.Nonce.map (Go.Value.int .u8) ++ [.slice A2 n4 c3, .int .i64 x.Job, .int .i64 x.Time, .int .i64 x.By])
abbrev Twork.q (x : Twork) (A1 : Option Addr) (n3 c2 : Nat) (A8 : Option Addr) (n10 c9 : Nat) (A15 : Option Addr) (n17 c16 : Nat) (A22 : Option Addr) (n24 c23 : Nat) : List Go.Value := [.int .i64 x.c.Faulty, .int .i64 x.c.Workers, .int .i64 x.c.Height, .int .i64 x.c.Bits, .int .i64 x.c.Jobs, .int .i64 x.c.Term, .int .i64 x.c.Heads, .slice A1 n3 c2, .slice A8 n10 c9, .slice A15 n17 c16, .slice A22 n24 c23, .int .i64 x.State.Heads]
abbrev TGiven.q (x : TGiven) : List Go.Value := [.int .i64 x.Worker, .int .i64 x.Index]
end Go.Proofs.Ytobdpbnadjkhiaa
