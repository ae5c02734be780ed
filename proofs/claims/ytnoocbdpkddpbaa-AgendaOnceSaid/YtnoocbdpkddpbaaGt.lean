/- The program's types as plain structures, and closed facts of the program's types. Nothing is assumed. -/
import Derived.Test.YtnoocbdpkddpbaaProg
import Derived.Test.YtnoocbdpkddpbaaLn
import Derived.KernelRfl
namespace Go.Proofs.Ytnoocbdpkddpbaa
open Go.RowKit Go.WG
set_option linter.unusedVariables false
set_option linter.unusedSimpArgs false

theorem sz3 : (Try.prog.info? 3).map (·.size) = some 1 := by kernel_rfl
theorem sz22 : (Try.prog.info? 22).map (·.size) = some 1 := by kernel_rfl
theorem sz29 : (Try.prog.info? 29).map (·.size) = some 2 := by kernel_rfl
theorem sz41 : (Try.prog.info? 41).map (·.size) = some 3 := by kernel_rfl
theorem sz49 : (Try.prog.info? 49).map (·.size) = some 1 := by kernel_rfl
theorem sz51 : (Try.prog.info? 51).map (·.size) = some 2 := by kernel_rfl
theorem ti29 : TI Try.prog 29 (.agg #[.int .i64 0, .int .i64 0]) 2 16 := (by kernel_rfl : (Try.prog.info? 29).map (fun i => (i.zero, i.size, i.bytes)) = some (some (.agg #[.int .i64 0, .int .i64 0]), 2, 16))
theorem zo29 : ∀ u ∈ (.agg #[.int .i64 0, .int .i64 0] : Value).cells.toList, u.oneCell' = true := fun u hu => List.all_eq_true.1 (rfl : ((.agg #[.int .i64 0, .int .i64 0] : Value).cells.toList).all (·.oneCell') = true) u hu
theorem zr3 : (Try.prog.info? 3).map (·.zero) = some (some (.int .i64 0)) := by kernel_rfl
theorem zr29 : (Try.prog.info? 29).map (·.zero) = some (some (.agg #[.int .i64 0, .int .i64 0])) := by kernel_rfl
theorem zr39 : (Try.prog.info? 39).map (·.zero) = some (some (.agg #[.slice none 0 0])) := by kernel_rfl
theorem zr41 : (Try.prog.info? 41).map (·.zero) = some (some (.agg #[.int .i64 0, .int .i64 0, .int .i64 0])) := by kernel_rfl
theorem zr51 : (Try.prog.info? 51).map (·.zero) = some (some (.agg #[.slice none 0 0, .map none])) := by kernel_rfl
theorem zr53 : (Try.prog.info? 53).map (·.zero) = some (some (.agg #[.slice none 0 0, .map none])) := by kernel_rfl
theorem pl29 : ∀ fs, Try.prog.underlying 29 = some (.struct fs) → fs.toList.map (fun f => (Try.prog.info? f.type).map (fun i => (f.offset, i.size))) = [(0, 1), (1, 1)].map some := by
  intro fs h
  rw [Try.underlying29] at h
  cases h
  kernel_rfl
theorem pl39 : ∀ fs, Try.prog.underlying 39 = some (.struct fs) → fs.toList.map (fun f => (Try.prog.info? f.type).map (fun i => (f.offset, i.size))) = [(0, 1)].map some := by
  intro fs h
  rw [Try.underlying39] at h
  cases h
  kernel_rfl
theorem pl51 : ∀ fs, Try.prog.underlying 51 = some (.struct fs) → fs.toList.map (fun f => (Try.prog.info? f.type).map (fun i => (f.offset, i.size))) = [(0, 1), (1, 1)].map some := by
  intro fs h
  rw [Try.underlying51] at h
  cases h
  kernel_rfl
theorem pl53 : ∀ fs, Try.prog.underlying 53 = some (.struct fs) → fs.toList.map (fun f => (Try.prog.info? f.type).map (fun i => (f.offset, i.size))) = [(0, 2)].map some := by
  intro fs h
  rw [Try.underlying53] at h
  cases h
  kernel_rfl
theorem eg29 : Try.prog.eqGuardType Try.prog.depth 29 = false := by kernel_rfl
theorem sh29 : Try.prog.stoodInHeld 29 = false := by kernel_rfl
structure TEntry where
  At : Int
  ID : Int
def TEntry.z : TEntry := ⟨0, 0⟩
def TEntry.K : Kd TEntry := Kd.iso (Kd.pair (Kd.int .i64) (Kd.int .i64)) (fun x : TEntry => (x.At, x.ID))
theorem TEntry.open {F : CH} {x : TEntry} {cs : List Value} (h : TEntry.K.rep F x cs) : cs = [.int .i64 x.At, .int .i64 x.ID] := by
  obtain ⟨_, _, rfl, u1, t2⟩ := h
  obtain rfl := u1
  obtain rfl := t2
  exact rfl
theorem TEntry.mk' (F : CH) (x : TEntry)   : TEntry.K.rep F x ([.int .i64 x.At, .int .i64 x.ID]) := ⟨_, _, rfl, rfl, rfl⟩
structure Tqueue where
  l : List TEntry
  place : List (Int × Int)
def Tqueue.z : Tqueue := ⟨[], []⟩
structure TAgenda where
  q : Tqueue
def TAgenda.z : TAgenda := ⟨Tqueue.z⟩
structure TAgenda_ where
  L : List TEntry
def TAgenda_.z : TAgenda_ := ⟨[]⟩
def TAgenda_.K : Kd TAgenda_ := Kd.iso (Kd.slice TEntry.K) (fun x : TAgenda_ => x.L)
theorem TAgenda_.open {F : CH} {x : TAgenda_} {cs : List Value} (h : TAgenda_.K.rep F x cs) : ∃ (A1 : Option Addr) (c2 : Nat) (n3 : Nat), cs = [.slice A1 n3 c2] ∧ n3 = x.L.length ∧ x.L.length ≤ c2 ∧ c2 ≤ maxLen ∧ Sl TEntry.K F F A1 x.L := by
  obtain ⟨A8, c9, rfl, q10, q11, q12⟩ := h
  exact ⟨A8, c9, _, rfl, rfl, q10, q11, q12⟩
theorem TAgenda_.mk' (F : CH) (x : TAgenda_) (A1 : Option Addr) (c2 : Nat) (n3 : Nat) (hn4 : n3 = x.L.length) (hl5 : x.L.length ≤ c2) (hm6 : c2 ≤ maxLen) (hS7 : Sl TEntry.K F F A1 x.L) : TAgenda_.K.rep F x ([.slice A1 n3 c2]) := (slice_rep' A1 c2 n3 hn4 hl5 hm6 hS7)
structure TCall where
  Kind : Int
  At : Int
  ID : Int
def TCall.z : TCall := ⟨0, 0, 0⟩
def TCall.K : Kd TCall := Kd.iso (Kd.pair (Kd.int .i64) (Kd.pair (Kd.int .i64) (Kd.int .i64))) (fun x : TCall => (x.Kind, (x.At, x.ID)))
theorem TCall.open {F : CH} {x : TCall} {cs : List Value} (h : TCall.K.rep F x cs) : cs = [.int .i64 x.Kind, .int .i64 x.At, .int .i64 x.ID] := by
  obtain ⟨_, _, rfl, u1, t2⟩ := h
  obtain rfl := u1
  obtain ⟨_, _, rfl, u3, t4⟩ := t2
  obtain rfl := u3
  obtain rfl := t4
  exact rfl
theorem TCall.mk' (F : CH) (x : TCall)   : TCall.K.rep F x ([.int .i64 x.Kind, .int .i64 x.At, .int .i64 x.ID]) := ⟨_, _, rfl, rfl, ⟨_, _, rfl, rfl, rfl⟩⟩
end Go.Proofs.Ytnoocbdpkddpbaa
