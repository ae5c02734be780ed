/- The program's types as plain structures, and closed facts of the program's types. Nothing is assumed. -/
import Derived.Test.YtcmoclekbifhbaaProg
import Derived.Test.YtcmoclekbifhbaaLi
import Derived.KernelRfl
namespace Go.Proofs.Ytcmoclekbifhbaa
open Go.RowKit Go.WG
set_option linter.unusedVariables false
set_option linter.unusedSimpArgs false

theorem sz3 : (Try.prog.info? 3).map (·.size) = some 1 := by kernel_rfl
theorem sz4 : (Try.prog.info? 4).map (·.size) = some 1 := by kernel_rfl
theorem sz36 : (Try.prog.info? 36).map (·.size) = some 1 := by kernel_rfl
theorem sz42 : (Try.prog.info? 42).map (·.size) = some 2 := by kernel_rfl
theorem ti3 : TI Try.prog 3 (.int .i64 0) 1 8 := (by kernel_rfl : (Try.prog.info? 3).map (fun i => (i.zero, i.size, i.bytes)) = some (some (.int .i64 0), 1, 8))
theorem zo3 : ∀ u ∈ (.int .i64 0 : Value).cells.toList, u.oneCell' = true := fun u hu => List.all_eq_true.1 (rfl : ((.int .i64 0 : Value).cells.toList).all (·.oneCell') = true) u hu
theorem ti4 : TI Try.prog 4 (.bool false) 1 1 := (by kernel_rfl : (Try.prog.info? 4).map (fun i => (i.zero, i.size, i.bytes)) = some (some (.bool false), 1, 1))
theorem zo4 : ∀ u ∈ (.bool false : Value).cells.toList, u.oneCell' = true := fun u hu => List.all_eq_true.1 (rfl : ((.bool false : Value).cells.toList).all (·.oneCell') = true) u hu
theorem ti42 : TI Try.prog 42 (.agg #[.int .i64 0, .int .i64 0]) 2 16 := (by kernel_rfl : (Try.prog.info? 42).map (fun i => (i.zero, i.size, i.bytes)) = some (some (.agg #[.int .i64 0, .int .i64 0]), 2, 16))
theorem zo42 : ∀ u ∈ (.agg #[.int .i64 0, .int .i64 0] : Value).cells.toList, u.oneCell' = true := fun u hu => List.all_eq_true.1 (rfl : ((.agg #[.int .i64 0, .int .i64 0] : Value).cells.toList).all (·.oneCell') = true) u hu
theorem zr36 : (Try.prog.info? 36).map (·.zero) = some (some (.slice none 0 0)) := by kernel_rfl
theorem zr42 : (Try.prog.info? 42).map (·.zero) = some (some (.agg #[.int .i64 0, .int .i64 0])) := by kernel_rfl
theorem pl42 : ∀ fs, Try.prog.underlying 42 = some (.struct fs) → fs.toList.map (fun f => (Try.prog.info? f.type).map (fun i => (f.offset, i.size))) = [(0, 1), (1, 1)].map some := by
  intro fs h
  rw [Try.underlying42] at h
  cases h
  kernel_rfl
structure Thand where
  used : Int
  id : Int
def Thand.z : Thand := ⟨0, 0⟩
def Thand.K : Kd Thand := Kd.iso (Kd.pair (Kd.int .i64) (Kd.int .i64)) (fun x : Thand => (x.used, x.id))
theorem Thand.open {F : CH} {x : Thand} {cs : List Value} (h : Thand.K.rep F x cs) : cs = [.int .i64 x.used, .int .i64 x.id] := by
  obtain ⟨_, _, rfl, u1, t2⟩ := h
  obtain rfl := u1
  obtain rfl := t2
  exact rfl
theorem Thand.mk' (F : CH) (x : Thand)   : Thand.K.rep F x ([.int .i64 x.used, .int .i64 x.id]) := ⟨_, _, rfl, rfl, rfl⟩
end Go.Proofs.Ytcmoclekbifhbaa
