/- The program's types as plain structures, and closed facts of the program's types. Nothing is assumed. -/
import Derived.Test.YtaajcpjhcckecaaProg
import Derived.Test.YtaajcpjhcckecaaTLq
import Derived.KernelRfl
namespace Go.Proofs.Ytaajcpjhcckecaa
open Go.RowKit Go.WG
set_option linter.unusedVariables false
set_option linter.unusedSimpArgs false
theorem sz3 : (Try.prog.info? 3).map (·.size) = some 1 := by kernel_rfl
theorem sz5 : (Try.prog.info? 5).map (·.size) = some 1 := by kernel_rfl
theorem sz23 : (Try.prog.info? 23).map (·.size) = some 1 := by kernel_rfl
theorem sz37 : (Try.prog.info? 37).map (·.size) = some 2 := by kernel_rfl
theorem ti3 : TI Try.prog 3 (.int .i64 0) 1 8 := (by kernel_rfl : (Try.prog.info? 3).map (fun i => (i.zero, i.size, i.bytes)) = some (some (.int .i64 0), 1, 8))
theorem zo3 : ∀ u ∈ (.int .i64 0 : Value).cells.toList, u.oneCell' = true := fun u hu => List.all_eq_true.1 (rfl : ((.int .i64 0 : Value).cells.toList).all (·.oneCell') = true) u hu
theorem ti5 : TI Try.prog 5 (.int .u8 0) 1 1 := (by kernel_rfl : (Try.prog.info? 5).map (fun i => (i.zero, i.size, i.bytes)) = some (some (.int .u8 0), 1, 1))
theorem zo5 : ∀ u ∈ (.int .u8 0 : Value).cells.toList, u.oneCell' = true := fun u hu => List.all_eq_true.1 (rfl : ((.int .u8 0 : Value).cells.toList).all (·.oneCell') = true) u hu
theorem ti37 : TI Try.prog 37 (.agg #[.int .i64 0, .slice none 0 0]) 2 32 := (by kernel_rfl : (Try.prog.info? 37).map (fun i => (i.zero, i.size, i.bytes)) = some (some (.agg #[.int .i64 0, .slice none 0 0]), 2, 32))
theorem zo37 : ∀ u ∈ (.agg #[.int .i64 0, .slice none 0 0] : Value).cells.toList, u.oneCell' = true := fun u hu => List.all_eq_true.1 (rfl : ((.agg #[.int .i64 0, .slice none 0 0] : Value).cells.toList).all (·.oneCell') = true) u hu
theorem zr37 : (Try.prog.info? 37).map (·.zero) = some (some (.agg #[.int .i64 0, .slice none 0 0])) := by kernel_rfl
theorem zr52 : (Try.prog.info? 52).map (·.zero) = some (some (.map none)) := by kernel_rfl
theorem pl37 : ∀ fs, Try.prog.underlying 37 = some (.struct fs) → fs.toList.map (fun f => (Try.prog.info? f.type).map (fun i => (f.offset, i.size))) = [(0, 1), (1, 1)].map some := by
  intro fs h
  rw [Try.underlying37] at h
  cases h
  kernel_rfl
structure TCast where
  Worker : Int
  Value : List Int
def TCast.z : TCast := ⟨0, []⟩
def TCast.K : Kd TCast := Kd.iso (Kd.pair (Kd.int .i64) (Kd.slice (Kd.int .u8))) (fun x : TCast => (x.Worker, x.Value))
theorem TCast.open {F : CH} {x : TCast} {cs : List Go.Value} (h : TCast.K.rep F x cs) : ∃ (A1 : Option Addr) (c2 : Nat) (n3 : Nat), cs = [.int .i64 x.Worker, .slice A1 n3 c2] ∧ n3 = x.Value.length ∧ x.Value.length ≤ c2 ∧ c2 ≤ maxLen ∧ Sl (Kd.int .u8) F F A1 x.Value := by
  obtain ⟨_, _, rfl, u8, t9⟩ := h
  obtain rfl := u8
  obtain ⟨A10, c11, rfl, q12, q13, q14⟩ := t9
  exact ⟨A10, c11, _, rfl, rfl, q12, q13, q14⟩
theorem TCast.mk' (F : CH) (x : TCast) (A1 : Option Addr) (c2 : Nat) (n3 : Nat) (hn4 : n3 = x.Value.length) (hl5 : x.Value.length ≤ c2) (hm6 : c2 ≤ maxLen) (hS7 : Sl (Kd.int .u8) F F A1 x.Value) : TCast.K.rep F x ([.int .i64 x.Worker, .slice A1 n3 c2]) := ⟨_, _, rfl, rfl, (slice_rep' A1 c2 n3 hn4 hl5 hm6 hS7)⟩
end Go.Proofs.Ytaajcpjhcckecaa
