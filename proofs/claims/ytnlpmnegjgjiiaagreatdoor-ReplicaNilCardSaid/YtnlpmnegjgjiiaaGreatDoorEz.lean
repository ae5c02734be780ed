/- Numbers that are not known but for their bounds; a closed run as a function that a contract tells. -/
import Derived.Test.YtnlpmnegjgjiiaaGreatDoorEw
namespace Go.CE
open Go Go.RowKit Go.Proofs.YtnlpmnegjgjiiaaGreatDoor
set_option linter.all false
def hiB (hi : Option Int) (y : Int) : Bool := match hi with | none => false | some h => decide (h < y)
def loB (lo : Option Int) (y : Int) : Bool := match lo with | none => false | some l => decide (y ≤ l)
/-- Surely below y; surely not. -/
def ltB (lo hi : Option Int) (y : Int) : Option Bool := if hiB hi y = true then some true else if loB lo y = true then some false else none
/-- How a number between two compares with y. -/
def ivF (lo hi : Option Int) : Nat → Int → Option Bool
  | 0, y => ltB lo hi y
  | 1, y => ltB lo hi (y + 1)
  | 2, y => (ltB lo hi (y + 1)).map not
  | 3, y => (ltB lo hi y).map not
  | 4, y => if ltB lo hi y = some true ∨ ltB lo hi (y + 1) = some false then some false else none
  | 5, y => if ltB lo hi y = some true ∨ ltB lo hi (y + 1) = some false then some true else none
  | _, _ => none
/-- It is none of these. -/
def neF (l : List Int) : Nat → Int → Option Bool
  | 4, y => if l.contains y = true then some false else none
  | 5, y => if l.contains y = true then some true else none
  | _, _ => none
def Within (lo hi : Option Int) (n : Int) : Prop := (∀ l, lo = some l → l ≤ n) ∧ ∀ h, hi = some h → n ≤ h
theorem ltB_ok {lo hi : Option Int} {y n : Int} {t : Bool} (hw : Within lo hi n) (h : ltB lo hi y = some t) : decide (n < y) = t := by
  unfold ltB at h
  by_cases h1 : hiB hi y = true
  · rw [if_pos h1] at h
    cases h
    cases hi with
    | none => cases h1
    | some u =>
      have h2 : u < y := of_decide_eq_true h1
      have := hw.2 u rfl
      exact decide_eq_true (by omega)
  · rw [if_neg h1] at h
    by_cases h1 : loB lo y = true
    · rw [if_pos h1] at h
      cases h
      cases lo with
      | none => cases h1
      | some u =>
        have h2 : y ≤ u := of_decide_eq_true h1
        have := hw.1 u rfl
        exact decide_eq_false (by omega)
    · rw [if_neg h1] at h
      cases h
def Fact (c : Nat) (n y : Int) (t : Bool) : Prop := (match c with | 0 => decide (n < y) | 1 => decide (n ≤ y) | 2 => decide (n > y) | 3 => decide (n ≥ y) | 4 => decide (n = y) | 5 => !decide (n = y) | _ => t) = t
theorem ivF_ok {lo hi : Option Int} {n : Int} (hw : Within lo hi n) : ∀ (c : Nat) (y : Int) (t : Bool), ivF lo hi c y = some t → Fact c n y t := by
  have ne : ∀ y, (ltB lo hi y = some true ∨ ltB lo hi (y + 1) = some false) → n ≠ y := fun y h => by
    rcases h with h | h
    · have := of_decide_eq_true (ltB_ok hw h); omega
    · have := of_decide_eq_false (ltB_ok hw h); omega
  intro c y t h
  match c with
  | 0 => exact ltB_ok hw h
  | 1 =>
    have h1 := ltB_ok hw (show ltB lo hi (y + 1) = some t from h)
    show decide (n ≤ y) = t
    rw [← h1]
    exact decide_eq_decide.2 (by omega)
  | 2 =>
    obtain ⟨u, h1, rfl⟩ := Option.map_eq_some_iff.1 (show (ltB lo hi (y + 1)).map not = some t from h)
    have h2 := ltB_ok hw h1
    show decide (n > y) = !u
    rw [← h2, ← decide_not]
    exact decide_eq_decide.2 (by omega)
  | 3 =>
    obtain ⟨u, h1, rfl⟩ := Option.map_eq_some_iff.1 (show (ltB lo hi y).map not = some t from h)
    have h2 := ltB_ok hw h1
    show decide (n ≥ y) = !u
    rw [← h2, ← decide_not]
    exact decide_eq_decide.2 (by omega)
  | 4 =>
    have h' : (if ltB lo hi y = some true ∨ ltB lo hi (y + 1) = some false then some false else none) = some t := h
    split at h'
    · rename_i h1
      cases h'
      exact decide_eq_false (ne y h1)
    · cases h'
  | 5 =>
    have h' : (if ltB lo hi y = some true ∨ ltB lo hi (y + 1) = some false then some true else none) = some t := h
    split at h'
    · rename_i h1
      cases h'
      show (!decide (n = y)) = true
      rw [decide_eq_false (ne y h1)]
      rfl
    · cases h'
  | c + 6 => cases h
theorem neF_ok {l : List Int} {n : Int} (hn : ∀ y ∈ l, n ≠ y) : ∀ (c : Nat) (y : Int) (t : Bool), neF l c y = some t → Fact c n y t := by
  intro c y t h
  match c with
  | 0 => cases h
  | 1 => cases h
  | 2 => cases h
  | 3 => cases h
  | 4 =>
    have h' : (if l.contains y = true then some false else none) = some t := h
    split at h'
    · rename_i h1
      cases h'
      exact decide_eq_false (hn y (by simpa using h1))
    · cases h'
  | 5 =>
    have h' : (if l.contains y = true then some true else none) = some t := h
    split at h'
    · rename_i h1
      cases h'
      show (!decide (n = y)) = true
      rw [decide_eq_false (hn y (by simpa using h1))]
      rfl
    · cases h'
  | c + 6 => cases h
/-- A function without arguments that answers true whatever the world, and leaves all as it was. -/
noncomputable def eTrue (l0 : List V) (M : Mem) : Cr := cond (Nat.beq (len l0) 0) (.ok (.b true) M) (.bad [("no arguments", 0)])
theorem eTrue_R {C : Cfg} {X : Nat → Value} {B : Nat} {w0 : World} {f : Nat} (hg : Gb X B w0 C) (hB : C.G 1 = mp (fun n => V.i .u32 (.ofNat n)) shaB) (hK : C.G 3 = mp (fun n => V.i .u32 (.ofNat n)) shaK)
    (h : ∀ w : World, WG.CH.le (WG.CH.row 1 0 (glob1.map (Value.int .u32))) (WG.whole w) → WG.CH.le (WG.CH.row 3 0 (glob3.map (Value.int .u32))) (WG.whole w) → Calls C.P f #[] w fun e w' => e = .returned (.bool true) ∧ Below w.heap.size w w') : ExtR C X B w0 f eTrue := by
  intro l0 M v M' hr ρ w xs hxs hw
  have hr' : cond (Nat.beq (len l0) 0) (Cr.ok (.b true) M) (.bad [("no arguments", 0)]) = .ok v M' := hr
  cases hl : Nat.beq (len l0) 0 with
  | false => rw [hl] at hr'; cases hr'
  | true =>
    rw [hl] at hr'
    cases hr'
    have h0 := nbeq.1 hl
    rw [len_eq] at h0
    have hx0 : xs = [] := List.eq_nil_of_length_eq_zero (by rw [← hxs.len]; exact h0)
    subst hx0
    refine (h w (by rw [glob_b]; exact laid_R hg hw hB (by decide)) (by rw [glob_k]; exact laid_R hg hw hK (by decide))).mono fun e w' hq => ?_
    obtain ⟨rfl, hb⟩ := hq
    exact ⟨_, rfl, ρ, .b true, Post.refl (hw.below hb)⟩
end Go.CE
