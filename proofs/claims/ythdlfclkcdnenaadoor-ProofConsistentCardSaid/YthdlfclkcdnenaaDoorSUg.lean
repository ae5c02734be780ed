/- Plain laws of proofs: the climb; inclusion proofs are right just where they lead to the root. -/
import Derived.Test.YthdlfclkcdnenaaDoorSUe
set_option linter.unusedSimpArgs false
set_option linter.unusedVariables false
namespace Go.Proofs.YthdlfclkcdnenaaDoor.Pure
open Go.WG Go.Proofs.YthdlfclkcdnenaaDoor
/-- From here up to where it stands on the right, or at the top. -/
def rise : Nat → Nat → Nat → Nat × Nat
  | 0, a, b => (a, b)
  | f + 1, a, b => if a % 2 = 0 ∧ a ≠ 0 then rise f (a / 2) (b / 2) else (a, b)
/-- Is it on the right? Where one stands behind the question. -/
def rightN (a b : Nat) : Bool × Nat × Nat := if a % 2 = 0 ∧ a ≠ b then (false, a, b) else (true, rise (a + 1) a b)
/-- The ways up from a, below b: right or left. -/
def climbN : Nat → Nat → Nat → List Bool
  | 0, _, _ => []
  | f + 1, a, b => if b = 0 then [] else (rightN a b).1 :: climbN f ((rightN a b).2.1 / 2) ((rightN a b).2.2 / 2)
theorem rise_le : ∀ (f a b : Nat), (rise f a b).2 ≤ b := by
  intro f
  induction f with
  | zero => intro a b; exact Nat.le_refl _
  | succ f ih =>
    intro a b
    unfold rise
    split
    · have := ih (a / 2) (b / 2); omega
    · exact Nat.le_refl _
theorem right_le (a b : Nat) : (rightN a b).2.2 ≤ b := by
  unfold rightN
  split
  · exact Nat.le_refl _
  · exact rise_le _ _ _
theorem climb_fuel : ∀ (f g a b : Nat), b ≤ f → b ≤ g → climbN f a b = climbN g a b := by
  intro f
  induction f with
  | zero =>
    intro g a b h1 h2
    have hb : b = 0 := by omega
    subst hb
    cases g <;> rfl
  | succ f ih =>
    intro g a b h1 h2
    by_cases hb : b = 0
    · subst hb
      cases g <;> rfl
    · cases g with
      | zero => omega
      | succ g =>
        unfold climbN
        rw [if_neg hb, if_neg hb]
        have := right_le a b
        rw [ih g _ _ (by omega) (by omega)]
theorem climb_step {f a b : Nat} (hb : 0 < b) (hf : b ≤ f) : climbN f a b = (rightN a b).1 :: climbN b ((rightN a b).2.1 / 2) ((rightN a b).2.2 / 2) := by
  cases f with
  | zero => omega
  | succ f =>
    unfold climbN
    rw [if_neg (by omega)]
    have := right_le a b
    rw [climb_fuel f b _ _ (by omega) (by omega)]
    cases b with
    | zero => omega
    | succ b =>
      show _ = (rightN a (b + 1)).1 :: climbN (b + 1) _ _
      rfl
theorem rise_odd (f a b : Nat) (h : a % 2 = 1) : rise f a b = (a, b) := by
  cases f with
  | zero => rfl
  | succ f => unfold rise; rw [if_neg (by omega)]
theorem right_odd {a b : Nat} (h : a % 2 = 1) : rightN a b = (true, a, b) := by
  unfold rightN
  rw [if_neg (by omega), rise_odd _ _ _ h]
theorem right_even {a b : Nat} (h : a % 2 = 0) (hne : a ≠ b) : rightN a b = (false, a, b) := by
  unfold rightN
  rw [if_pos ⟨h, hne⟩]
/-- The bits of a number, the lowest first. -/
def bitsN : Nat → Nat → List Bool
  | 0, _ => []
  | h + 1, a => (a % 2 == 1) :: bitsN h (a / 2)
theorem half_lt {a h : Nat} (ha : a < 2 ^ (h + 1)) : a / 2 < 2 ^ h := by rw [Nat.pow_succ] at ha; omega
/-- In the left part of a list: its bits, and left once more. -/
theorem climb_left : ∀ (h a b : Nat), a < 2 ^ h → 2 ^ h ≤ b → b < 2 ^ (h + 1) → climbN b a b = bitsN h a ++ [false] := by
  intro h
  induction h with
  | zero =>
    intro a b ha h1 h2
    have : a = 0 := by simpa using ha
    have hb : b = 1 := by simp at h1 h2; omega
    subst this; subst hb
    decide
  | succ h ih =>
    intro a b ha h1 h2
    have hpos := Nat.two_pow_pos h
    rw [Nat.pow_succ] at h1
    have hb : 0 < b := by omega
    rw [climb_step hb (Nat.le_refl _)]
    have hlt := half_lt ha
    have hb2 : 2 ^ h ≤ b / 2 := by omega
    have hb3 : b / 2 < 2 ^ (h + 1) := half_lt h2
    have hI := ih (a / 2) (b / 2) hlt hb2 hb3
    rcases Nat.mod_two_eq_zero_or_one a with h0 | h1'
    · have hne : a ≠ b := by rw [Nat.pow_succ] at ha; omega
      rw [right_even h0 hne]
      show false :: climbN b (a / 2) (b / 2) = _
      rw [climb_fuel b (b / 2) _ _ (by omega) (Nat.le_refl _), hI, bitsN, h0]
      rfl
    · rw [right_odd h1']
      show true :: climbN b (a / 2) (b / 2) = _
      rw [climb_fuel b (b / 2) _ _ (by omega) (Nat.le_refl _), hI, bitsN, h1']
      rfl
/-- A list of a power of two: its bits. -/
theorem climb_whole : ∀ (h a : Nat), a < 2 ^ h → climbN (2 ^ h - 1) a (2 ^ h - 1) = bitsN h a := by
  intro h
  induction h with
  | zero => intro a _; rfl
  | succ h ih =>
    intro a ha
    have hpos := Nat.two_pow_pos h
    have hp : 2 ^ (h + 1) = 2 * 2 ^ h := by rw [Nat.pow_succ]; omega
    have hb : 0 < 2 ^ (h + 1) - 1 := by omega
    rw [climb_step hb (Nat.le_refl _)]
    have hhalf : (2 ^ (h + 1) - 1) / 2 = 2 ^ h - 1 := by omega
    have hI := ih (a / 2) (half_lt ha)
    rcases Nat.mod_two_eq_zero_or_one a with h0 | h1
    · rw [right_even h0 (by omega)]
      show false :: climbN (2 ^ (h + 1) - 1) (a / 2) ((2 ^ (h + 1) - 1) / 2) = _
      rw [hhalf, climb_fuel _ (2 ^ h - 1) _ _ (by omega) (Nat.le_refl _), hI, bitsN, h0]
      rfl
    · rw [right_odd h1]
      show true :: climbN (2 ^ (h + 1) - 1) (a / 2) ((2 ^ (h + 1) - 1) / 2) = _
      rw [hhalf, climb_fuel _ (2 ^ h - 1) _ _ (by omega) (Nat.le_refl _), hI, bitsN, h1]
      rfl
theorem rise_pow : ∀ (h f : Nat), 2 ^ h < f → rise f (2 ^ h) (2 ^ h) = (1, 1) := by
  intro h
  induction h with
  | zero => intro f hf; exact rise_odd _ _ _ rfl
  | succ h ih =>
    intro f hf
    have hpos := Nat.two_pow_pos h
    have hp : 2 ^ (h + 1) = 2 * 2 ^ h := by rw [Nat.pow_succ]; omega
    cases f with
    | zero => omega
    | succ f =>
      unfold rise
      rw [if_pos (by omega), show 2 ^ (h + 1) / 2 = 2 ^ h by omega]
      exact ih f (by omega)
/-- In the right part of a list: as in this part, and right once more. -/
theorem climb_right : ∀ (h a b : Nat), a ≤ b → b < 2 ^ h → climbN (2 ^ h + b) (2 ^ h + a) (2 ^ h + b) = climbN b a b ++ [true] := by
  intro h
  induction h using Nat.strongRecOn with
  | ind h ihs =>
  cases h with
  | zero =>
    intro a b hab hb
    have h1 : b = 0 := by simpa using hb
    have h2 : a = 0 := by omega
    subst h1; subst h2
    decide
  | succ h =>
    intro a b hab hb
    have ih := ihs h (by omega)
    have hpos := Nat.two_pow_pos h
    have hp : 2 ^ (h + 1) = 2 * 2 ^ h := by rw [Nat.pow_succ]; omega
    by_cases hb0 : b = 0
    · have ha0 : a = 0 := by omega
      subst hb0; subst ha0
      rw [Nat.add_zero, climb_step (by omega) (Nat.le_refl _)]
      have hr : rightN (2 ^ (h + 1)) (2 ^ (h + 1)) = (true, 1, 1) := by
        unfold rightN
        rw [if_neg (by omega), rise_pow (h + 1) _ (by omega)]
      rw [hr]
      show true :: climbN (2 ^ (h + 1)) 0 0 = _
      rw [climb_fuel _ 0 _ _ (by omega) (Nat.le_refl _)]
      rfl
    · rw [climb_step (f := 2 ^ (h + 1) + b) (by omega) (Nat.le_refl _), climb_step (f := b) (a := a) (by omega) (Nat.le_refl _)]
      have hbd : (2 ^ (h + 1) + b) / 2 = 2 ^ h + b / 2 := by omega
      have had : (2 ^ (h + 1) + a) / 2 = 2 ^ h + a / 2 := by omega
      have hb2 : b / 2 < 2 ^ h := half_lt hb
      rcases Nat.mod_two_eq_zero_or_one a with h0 | h1
      · by_cases hne : a = b
        · subst hne
          -- the last one, alone on its level: both rise alike
          have hrise : ∀ (f g c hh : Nat), 0 < c → c < 2 ^ hh → c < f → 2 ^ hh + c < g → ∃ c' h', rise f c c = (c', c') ∧ rise g (2 ^ hh + c) (2 ^ hh + c) = (2 ^ h' + c', 2 ^ h' + c') ∧ c' % 2 = 1 ∧ c' < 2 ^ h' ∧ c' ≤ c ∧ h' ≤ hh := by
            intro f
            induction f with
            | zero => intro g c hh h1 h2 h3; omega
            | succ f ihf =>
              intro g c hh hc1 hc2 hc3 hc4
              cases g with
              | zero => omega
              | succ g =>
                cases hh with
                | zero => simp at hc2; omega
                | succ hh =>
                  have hp' : 2 ^ (hh + 1) = 2 * 2 ^ hh := by rw [Nat.pow_succ]; omega
                  have hpos' := Nat.two_pow_pos hh
                  rcases Nat.mod_two_eq_zero_or_one c with hc | hc
                  · obtain ⟨c', h', q1, q2, q3, q4, q5, q6⟩ := ihf g (c / 2) hh (by omega) (half_lt hc2) (by omega) (by omega)
                    refine ⟨c', h', ?_, ?_, q3, q4, by omega, by omega⟩
                    · unfold rise; rw [if_pos (by omega)]; exact q1
                    · unfold rise; rw [if_pos (by omega), show (2 ^ (hh + 1) + c) / 2 = 2 ^ hh + c / 2 by omega]; exact q2
                  · exact ⟨c, hh + 1, rise_odd _ _ _ hc, rise_odd _ _ _ (by omega), hc, hc2, Nat.le_refl _, Nat.le_refl _⟩
          obtain ⟨c', h', q1, q2, q3, q4, q5, q6⟩ := hrise (a + 1) (2 ^ (h + 1) + a + 1) a (h + 1) (by omega) hb (by omega) (by omega)
          have hr1 : rightN a a = (true, c', c') := by unfold rightN; rw [if_neg (by omega), q1]
          have hr2 : rightN (2 ^ (h + 1) + a) (2 ^ (h + 1) + a) = (true, 2 ^ h' + c', 2 ^ h' + c') := by unfold rightN; rw [if_neg (by omega), q2]
          rw [hr1, hr2]
          show true :: climbN _ ((2 ^ h' + c') / 2) ((2 ^ h' + c') / 2) = true :: climbN _ (c' / 2) (c' / 2) ++ [true]
          cases h' with
          | zero => simp at q4; omega
          | succ h' =>
            have hp' : 2 ^ (h' + 1) = 2 * 2 ^ h' := by rw [Nat.pow_succ]; omega
            rw [show (2 ^ (h' + 1) + c') / 2 = 2 ^ h' + c' / 2 by omega]
            have hmon : 2 ^ (h' + 1) ≤ 2 ^ (h + 1) := Nat.pow_le_pow_right (by decide) q6
            rw [climb_fuel _ (2 ^ h' + c' / 2) _ _ (by omega) (Nat.le_refl _), climb_fuel a (c' / 2) _ _ (by omega) (Nat.le_refl _)]
            rw [List.cons_append]
            congr 1
            exact ihs h' (by omega) (c' / 2) (c' / 2) (Nat.le_refl _) (half_lt q4)
        · rw [right_even h0 hne, right_even (show (2 ^ (h + 1) + a) % 2 = 0 by omega) (by omega)]
          show false :: climbN _ ((2 ^ (h + 1) + a) / 2) ((2 ^ (h + 1) + b) / 2) = false :: climbN b (a / 2) (b / 2) ++ [true]
          rw [hbd, had, climb_fuel _ (2 ^ h + b / 2) _ _ (by omega) (Nat.le_refl _), climb_fuel b (b / 2) _ _ (by omega) (Nat.le_refl _), ih (a / 2) (b / 2) (by omega) hb2]
          rfl
      · rw [right_odd h1, right_odd (show (2 ^ (h + 1) + a) % 2 = 1 by omega)]
        show true :: climbN _ ((2 ^ (h + 1) + a) / 2) ((2 ^ (h + 1) + b) / 2) = true :: climbN b (a / 2) (b / 2) ++ [true]
        rw [hbd, had, climb_fuel _ (2 ^ h + b / 2) _ _ (by omega) (Nat.le_refl _), climb_fuel b (b / 2) _ _ (by omega) (Nat.le_refl _), ih (a / 2) (b / 2) (by omega) hb2]
        rfl
end Go.Proofs.YthdlfclkcdnenaaDoor.Pure
