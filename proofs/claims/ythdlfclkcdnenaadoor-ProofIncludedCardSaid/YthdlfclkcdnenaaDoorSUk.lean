/- Plain laws of proofs: consistency, checked. -/
import Derived.Test.YthdlfclkcdnenaaDoorSUh
set_option linter.unusedSimpArgs false
set_option linter.unusedVariables false
namespace Go.Proofs.YthdlfclkcdnenaaDoor.Pure
open Go.WG Go.Proofs.YthdlfclkcdnenaaDoor
/-- As long as it is odd: up. -/
def stripN : Nat → Nat → Nat → Nat × Nat
  | 0, a, b => (a, b)
  | f + 1, a, b => if a % 2 = 1 then stripN f (a / 2) (b / 2) else (a, b)
/-- Where the climb begins, behind the first m of n. -/
def startN (m n : Nat) : Nat × Nat := stripN m (m - 1) (n - 1)
def cpathN (m n : Nat) : List Bool := climbN (startN m n).2 (startN m n).1 (startN m n).2
/-- In the left part. -/
theorem strip_left : ∀ (h f a b : Nat), a < 2 ^ h → 2 ^ h ≤ b → b < 2 ^ (h + 1) → a < f →
    ∃ g a' b', stripN f a b = (a', b') ∧ stripN f a (2 ^ h - 1) = (a', 2 ^ g - 1) ∧ a' < 2 ^ g ∧ 2 ^ g ≤ b' ∧ b' < 2 ^ (g + 1) := by
  intro h
  induction h with
  | zero =>
    intro f a b ha hb1 hb2 hf
    have : a = 0 := by simpa using ha
    subst this
    refine ⟨0, 0, b, ?_, ?_, by simp, hb1, hb2⟩
    · cases f <;> rfl
    · cases f <;> rfl
  | succ h ih =>
    intro f a b ha hb1 hb2 hf
    have hpos := Nat.two_pow_pos h
    have hp : 2 ^ (h + 1) = 2 * 2 ^ h := by rw [Nat.pow_succ]; omega
    by_cases ho : a % 2 = 1
    · cases f with
      | zero => omega
      | succ f =>
        obtain ⟨g, a', b', q1, q2, q3, q4, q5⟩ := ih f (a / 2) (b / 2) (half_lt ha) (by omega) (half_lt hb2) (by omega)
        refine ⟨g, a', b', ?_, ?_, q3, q4, q5⟩
        · unfold stripN; rw [if_pos ho]; exact q1
        · unfold stripN; rw [if_pos ho, show (2 ^ (h + 1) - 1) / 2 = 2 ^ h - 1 by omega]; exact q2
    · refine ⟨h + 1, a, b, ?_, ?_, ha, hb1, hb2⟩
      · cases f with
        | zero => rfl
        | succ f => unfold stripN; rw [if_neg ho]
      · cases f with
        | zero => rfl
        | succ f => unfold stripN; rw [if_neg ho]
/-- In the right part. -/
theorem strip_right : ∀ (h f g a b : Nat), a < b → b < 2 ^ h → a < f → 2 ^ h + a < g →
    ∃ j a' b', stripN f a b = (a', b') ∧ stripN g (2 ^ h + a) (2 ^ h + b) = (2 ^ j + a', 2 ^ j + b') ∧ a' ≤ b' ∧ b' < 2 ^ j := by
  intro h
  induction h with
  | zero => intro f g a b hab hb; simp at hb; omega
  | succ h ih =>
    intro f g a b hab hb hf hg
    have hpos := Nat.two_pow_pos h
    have hp : 2 ^ (h + 1) = 2 * 2 ^ h := by rw [Nat.pow_succ]; omega
    by_cases ho : a % 2 = 1
    · cases f with
      | zero => omega
      | succ f =>
        cases g with
        | zero => omega
        | succ g =>
          by_cases he : a / 2 = b / 2
          · omega
          · obtain ⟨j, a', b', q1, q2, q3, q4⟩ := ih f g (a / 2) (b / 2) (by omega) (half_lt hb) (by omega) (by omega)
            refine ⟨j, a', b', ?_, ?_, q3, q4⟩
            · unfold stripN; rw [if_pos ho]; exact q1
            · unfold stripN; rw [if_pos (by omega), show (2 ^ (h + 1) + a) / 2 = 2 ^ h + a / 2 by omega, show (2 ^ (h + 1) + b) / 2 = 2 ^ h + b / 2 by omega]; exact q2
    · refine ⟨h + 1, a, b, ?_, ?_, by omega, hb⟩
      · cases f with
        | zero => rfl
        | succ f => unfold stripN; rw [if_neg ho]
      · cases g with
        | zero => rfl
        | succ g => unfold stripN; rw [if_neg (by omega)]
theorem strip_ones : ∀ (h f : Nat), 2 ^ h - 1 < f → stripN f (2 ^ h - 1) (2 ^ h - 1) = (0, 0) := by
  intro h
  induction h with
  | zero => intro f _; cases f <;> rfl
  | succ h ih =>
    intro f hf
    have hpos := Nat.two_pow_pos h
    have hp : 2 ^ (h + 1) = 2 * 2 ^ h := by rw [Nat.pow_succ]; omega
    cases f with
    | zero => omega
    | succ f =>
      unfold stripN
      rw [if_pos (by omega), show (2 ^ (h + 1) - 1) / 2 = 2 ^ h - 1 by omega]
      exact ih f (by omega)
theorem cpath_left {m n : Nat} (hn : 2 ≤ n) (hm : 0 < m) (hmk : m ≤ sp n) : cpathN m n = cpathN m (sp n) ++ [false] ∧ (startN m n).1 = (startN m (sp n)).1 := by
  have hs := sp_facts hn
  obtain ⟨g, a', b', q1, q2, q3, q4, q5⟩ := strip_left (Nat.log2 (n - 1)) m (m - 1) (n - 1) (by show _ < sp n; omega) (by show sp n ≤ _; omega) (by rw [Nat.pow_succ]; show _ < sp n * 2; omega) (by omega)
  have e1 : startN m n = (a', b') := q1
  have e2 : startN m (sp n) = (a', 2 ^ g - 1) := q2
  refine ⟨?_, by rw [e1, e2]⟩
  unfold cpathN
  rw [e1, e2]
  show climbN b' a' b' = climbN (2 ^ g - 1) a' (2 ^ g - 1) ++ [false]
  rw [climb_left g a' b' q3 q4 q5, climb_whole g a' q3]
theorem cpath_right {m n : Nat} (hn : 2 ≤ n) (hmk : sp n < m) (hmn : m < n) : cpathN m n = cpathN (m - sp n) (n - sp n) ++ [true] ∧ (startN m n).1 ≠ 0 := by
  have hs := sp_facts hn
  have hps : 2 ^ Nat.log2 (n - 1) = sp n := rfl
  obtain ⟨j, a', b', q1, q2, q3, q4⟩ := strip_right (Nat.log2 (n - 1)) (m - sp n) m (m - sp n - 1) (n - sp n - 1) (by omega) (by rw [hps]; omega) (by omega) (by rw [hps]; omega)
  rw [hps, show sp n + (m - sp n - 1) = m - 1 by omega, show sp n + (n - sp n - 1) = n - 1 by omega] at q2
  have e1 : startN m n = (2 ^ j + a', 2 ^ j + b') := q2
  have e2 : startN (m - sp n) (n - sp n) = (a', b') := q1
  have hpos := Nat.two_pow_pos j
  refine ⟨?_, by rw [e1]; show 2 ^ j + a' ≠ 0; omega⟩
  unfold cpathN
  rw [e1, e2]
  exact climb_right j a' b' q3 q4
theorem cpath_pow (h : Nat) : cpathN (2 ^ h) (2 ^ h) = [] ∧ (startN (2 ^ h) (2 ^ h)).1 = 0 := by
  have hpos := Nat.two_pow_pos h
  have e : startN (2 ^ h) (2 ^ h) = (0, 0) := strip_ones h _ (by omega)
  unfold cpathN
  rw [e]
  exact ⟨rfl, rfl⟩
/-- Up along the ways, of the first ones alone. -/
noncomputable def foldA : List Bool → List (List Int) → List Int → List Int
  | d :: ds, p :: ps, x => foldA ds ps (if d = true then nodeD p x else x)
  | _, _, x => x
theorem foldA_snoc : ∀ (ds : List Bool) (ps : List (List Int)) (d : Bool) (p x : List Int), ds.length = ps.length → foldA (ds ++ [d]) (ps ++ [p]) x = (if d = true then nodeD p (foldA ds ps x) else foldA ds ps x)
  | [], [], d, p, x, _ => by simp [foldA]
  | [], p' :: ps, d, p, x, h => by simp at h
  | d' :: ds, [], d, p, x, h => by simp at h
  | d' :: ds, p' :: ps, d, p, x, h => by
    simp only [List.cons_append, foldA]
    exact foldA_snoc ds ps d p _ (by simpa using h)
theorem strip_l1 : ∀ (f a b : Nat), a < f → a < 9223372036854775808 → Ev (fun k => proof_Consistent.l1 k ⟨(a : Int), (b : Int)⟩) ⟨((stripN f a b).1 : Int), ((stripN f a b).2 : Int)⟩ := by
  intro f
  induction f with
  | zero => intro a b h; omega
  | succ f ih =>
    intro a b h hb
    unfold stripN
    by_cases hc : a % 2 = 1
    · rw [if_pos hc]
      have hI := ih (a / 2) (b / 2) (by omega) (by omega)
      have g1 : ((a % 2 : Nat) : Int) = 1 := by omega
      refine Ev.succ (hI.congr fun k => ?_)
      simp only [proof_Consistent.l1, and_one hb, if_pos g1, up_f, Option.bind_some]
    · rw [if_neg hc]
      have g1 : ¬ ((a % 2 : Nat) : Int) = 1 := by omega
      refine Ev.succ ((Ev.pure _).congr fun k => ?_)
      simp only [proof_Consistent.l1, and_one hb, if_neg g1]
theorem strip_le : ∀ (f a b : Nat), (stripN f a b).1 ≤ a ∧ (stripN f a b).2 ≤ b := by
  intro f
  induction f with
  | zero => intro a b; exact ⟨Nat.le_refl _, Nat.le_refl _⟩
  | succ f ih =>
    intro a b
    unfold stripN
    split
    · have := ih (a / 2) (b / 2); omega
    · exact ⟨Nat.le_refl _, Nat.le_refl _⟩
noncomputable def goC : List (List Int) → List Int → List Int → Nat → Nat → Option (Nat × Nat × List Int × List Int)
  | [], x, y, a, b => some (a, b, x, y)
  | p :: ps, x, y, a, b => if b = 0 then none else goC ps (if (rightN a b).1 = true then nodeD p x else x) (if (rightN a b).1 = true then nodeD p y else nodeD y p) ((rightN a b).2.1 / 2) ((rightN a b).2.2 / 2)
theorem goC_spec : ∀ (ps : List (List Int)) (x y : List Int) (a b : Nat), match goC ps x y a b with
    | none => ps.length ≠ (climbN b a b).length
    | some (_, b', x', y') => (b' = 0 ↔ ps.length = (climbN b a b).length) ∧ (b' = 0 → x' = foldA (climbN b a b) ps x ∧ y' = foldUp (climbN b a b) ps y)
  | [], x, y, a, b => by
    unfold goC
    by_cases hb : b = 0
    · subst hb
      exact ⟨⟨fun _ => rfl, fun _ => rfl⟩, fun _ => ⟨rfl, rfl⟩⟩
    · rw [climb_step (by omega) (Nat.le_refl _)]
      exact ⟨⟨fun h => absurd h hb, fun h => by simp at h⟩, fun h => absurd h hb⟩
  | p :: ps, x, y, a, b => by
    unfold goC
    by_cases hb : b = 0
    · subst hb
      rw [if_pos rfl]
      show _ ≠ ([] : List Bool).length
      simp
    · rw [if_neg hb, climb_step (by omega) (Nat.le_refl _)]
      have hle := right_le a b
      have h := goC_spec ps (if (rightN a b).1 = true then nodeD p x else x) (if (rightN a b).1 = true then nodeD p y else nodeD y p) ((rightN a b).2.1 / 2) ((rightN a b).2.2 / 2)
      rw [climb_fuel ((rightN a b).2.2 / 2) b _ _ (Nat.le_refl _) (by omega)] at h
      cases hg : goC ps (if (rightN a b).1 = true then nodeD p x else x) (if (rightN a b).1 = true then nodeD p y else nodeD y p) ((rightN a b).2.1 / 2) ((rightN a b).2.2 / 2) with
      | none =>
        rw [hg] at h
        simp only [List.length_cons, ne_eq, Nat.add_right_cancel_iff] at h ⊢
        exact h
      | some r =>
        obtain ⟨a', b', x', y'⟩ := r
        rw [hg] at h
        simp only [List.length_cons, Nat.add_right_cancel_iff, foldUp, foldA] at h ⊢
        exact h
theorem consistent_l2 (P : List (List Int)) (hP : AllD P) (hb : P.length ≤ 1000000) : ∀ (m j a b : Nat) (x y : List Int), P.length - j = m → j ≤ P.length → a < 9223372036854775808 → x.length = 32 → y.length = 32 →
    Ev (fun k => proof_Consistent.l2 k P (j : Int) ⟨(a : Int), (b : Int)⟩ x y) (match goC (P.drop j) x y a b with | none => Sum.inr false | some (a', b', x', y') => Sum.inl (⟨(a' : Int), (b' : Int)⟩, x', y')) := by
  intro m
  induction m with
  | zero =>
    intro j a b x y hm hj ha hx hy
    rw [List.drop_eq_nil_of_le (by omega)]
    refine Ev.succ ((Ev.pure _).congr fun k => ?_)
    have : ¬ (j : Int) < (P.length : Int) := by omega
    simp only [proof_Consistent.l2, if_neg this, goC]
  | succ m ih =>
    intro j a b x y hm hj ha hx hy
    have hlt : j < P.length := by omega
    have h1 : (j : Int) < (P.length : Int) := by omega
    have h2 : 0 ≤ (j : Int) ∧ (j : Int) < (P.length : Int) := by omega
    have hd : P.drop j = P.getD j [] :: P.drop (j + 1) := by
      rw [List.getD_eq_getElem?_getD, List.getElem?_eq_getElem hlt, Option.getD_some]
      exact List.drop_eq_getElem_cons hlt
    have hpl : (P.getD j []).length = 32 := hP _ (by rw [List.getD_eq_getElem?_getD, List.getElem?_eq_getElem hlt, Option.getD_some]; exact List.getElem_mem hlt)
    rw [hd, goC]
    by_cases hb0 : b = 0
    · rw [if_pos hb0]
      refine Ev.succ ((Ev.pure _).congr fun k => ?_)
      have g1 : (b : Int) = 0 := by omega
      simp only [proof_Consistent.l2, if_pos h1, if_pos h2, if_pos g1]
    · rw [if_neg hb0]
      have g1 : ¬ (b : Int) = 0 := by omega
      have hr := right_f a b ha
      have hle := right_fst_le a b
      cases hq : (rightN a b).1 with
      | true =>
        rw [hq] at hr
        have hI := ih (j + 1) ((rightN a b).2.1 / 2) ((rightN a b).2.2 / 2) (nodeD (P.getD j []) x) (nodeD (P.getD j []) y) (by omega) (by omega) (by omega) (nodeD_len _ _ hpl hx) (nodeD_len _ _ hpl hy)
        refine Ev.succ (Ev.congr (Ev.bind (g := fun k (z : Bool × Tclimb) => if z.1 = true then ((proof_Node.f k (P.getD j []) x).bind fun r819 => (proof_Node.f k (P.getD j []) y).bind fun r824 => (proof_climb_up.f k z.2).bind fun r837 => proof_Consistent.l2 k P (wi64 ((j : Int) + 1)) r837 r819 r824) else ((proof_Node.f k y (P.getD j [])).bind fun r842 => (proof_climb_up.f k z.2).bind fun r851 => proof_Consistent.l2 k P (wi64 ((j : Int) + 1)) r851 x r842)) hr (Ev.iteT rfl (Ev.bind (g := fun k r819 => (proof_Node.f k (P.getD j []) y).bind fun r824 => (proof_climb_up.f k ⟨((rightN a b).2.1 : Int), ((rightN a b).2.2 : Int)⟩).bind fun r837 => proof_Consistent.l2 k P (wi64 ((j : Int) + 1)) r837 r819 r824) (node_f _ _ hpl hx) (Ev.bind (g := fun k r824 => (proof_climb_up.f k ⟨((rightN a b).2.1 : Int), ((rightN a b).2.2 : Int)⟩).bind fun r837 => proof_Consistent.l2 k P (wi64 ((j : Int) + 1)) r837 (nodeD (P.getD j []) x) r824) (node_f _ _ hpl hy) (hI.congr fun k => ?_))))) fun k => ?_)
        · simp only [up_f, Option.bind_some, wi64_succ (show j < 9223372036854775807 by omega)]
        · simp only [proof_Consistent.l2, if_pos h1, if_pos h2, if_neg g1, Int.toNat_natCast]
      | false =>
        rw [hq] at hr
        have hI := ih (j + 1) ((rightN a b).2.1 / 2) ((rightN a b).2.2 / 2) x (nodeD y (P.getD j [])) (by omega) (by omega) (by omega) hx (nodeD_len _ _ hy hpl)
        refine Ev.succ (Ev.congr (Ev.bind (g := fun k (z : Bool × Tclimb) => if z.1 = true then ((proof_Node.f k (P.getD j []) x).bind fun r819 => (proof_Node.f k (P.getD j []) y).bind fun r824 => (proof_climb_up.f k z.2).bind fun r837 => proof_Consistent.l2 k P (wi64 ((j : Int) + 1)) r837 r819 r824) else ((proof_Node.f k y (P.getD j [])).bind fun r842 => (proof_climb_up.f k z.2).bind fun r851 => proof_Consistent.l2 k P (wi64 ((j : Int) + 1)) r851 x r842)) hr (Ev.iteF (by simp) (Ev.bind (g := fun k r842 => (proof_climb_up.f k ⟨((rightN a b).2.1 : Int), ((rightN a b).2.2 : Int)⟩).bind fun r851 => proof_Consistent.l2 k P (wi64 ((j : Int) + 1)) r851 x r842) (node_f _ _ hy hpl) (hI.congr fun k => ?_)))) fun k => ?_)
        · simp only [up_f, Option.bind_some, wi64_succ (show j < 9223372036854775807 by omega)]
        · simp only [proof_Consistent.l2, if_pos h1, if_pos h2, if_neg g1, Int.toNat_natCast]
/-- What a proof of the first m of n, 0 < m < n, has to be. -/
def ConOk (m n : Nat) (P : List (List Int)) (old root : List Int) : Prop :=
  if (startN m n).1 = 0 then P.length = (cpathN m n).length ∧ foldA (cpathN m n) P old = old ∧ foldUp (cpathN m n) P old = root
  else 0 < P.length ∧ (P.drop 1).length = (cpathN m n).length ∧ foldA (cpathN m n) (P.drop 1) (P.getD 0 []) = old ∧ foldUp (cpathN m n) (P.drop 1) (P.getD 0 []) = root
theorem con_core (R : List (List Int)) (x old root : List Int) (m n : Nat) (hn : n < 9223372036854775808) (hm : 0 < m) (hmn : m < n) (hR : AllD R) (hb : R.length ≤ 1000000) (hx : x.length = 32) (r : Bool)
    (hr : r = true ↔ (R.length = (cpathN m n).length ∧ foldA (cpathN m n) R x = old ∧ foldUp (cpathN m n) R x = root)) :
    Ev (fun k => (proof_Consistent.l2 k R 0 ⟨((startN m n).1 : Int), ((startN m n).2 : Int)⟩ x x).bind fun o_ => sumE o_ (fun (z : Tclimb × List Int × List Int) => (if z.1.last = 0 then (if z.2.1 = old then (some (decide (z.2.2 = root))) else (some (false))) else (some (false))).bind fun g855 => some g855) (fun p_ => some p_)) r := by
  have hsl := strip_le m (m - 1) (n - 1)
  have h := consistent_l2 R hR hb R.length 0 (startN m n).1 (startN m n).2 x x rfl (Nat.zero_le _) (by have := hsl.1; unfold startN; omega) hx hx
  rw [List.drop_zero] at h
  have hs := goC_spec R x x (startN m n).1 (startN m n).2
  refine Ev.bind (g := fun _ o_ => sumE o_ (fun (z : Tclimb × List Int × List Int) => (if z.1.last = 0 then (if z.2.1 = old then (some (decide (z.2.2 = root))) else (some (false))) else (some (false))).bind fun g855 => some g855) (fun p_ => some p_)) h ?_
  unfold cpathN at hr
  cases hg : goC R x x (startN m n).1 (startN m n).2 with
  | none =>
    rw [hg] at hs
    simp only at hs
    have : r = false := by
      cases r with
      | false => rfl
      | true => exact absurd (hr.1 rfl).1 hs
    rw [this]
    exact Ev.pure _
  | some q =>
    obtain ⟨a', b', x', y'⟩ := q
    rw [hg] at hs
    simp only at hs
    refine (Ev.pure _).congr fun k => ?_
    simp only [sumE]
    by_cases hb' : b' = 0
    · have g2 : ((b' : Nat) : Int) = 0 := by omega
      obtain ⟨e1, e2⟩ := hs.2 hb'
      have e3 := hs.1.1 hb'
      rw [if_pos g2, e1, e2]
      by_cases ho : foldA (climbN (startN m n).2 (startN m n).1 (startN m n).2) R x = old
      · rw [if_pos ho, Option.bind_some]
        congr 1
        cases hrr : r with
        | true => exact decide_eq_true (hr.1 hrr).2.2
        | false => exact decide_eq_false (fun h => by rw [hr.2 ⟨e3, ho, h⟩] at hrr; cases hrr)
      · rw [if_neg ho, Option.bind_some]
        congr 1
        cases hrr : r with
        | true => exact absurd (hr.1 hrr).2.1 ho
        | false => rfl
    · have g2 : ¬ ((b' : Nat) : Int) = 0 := by omega
      rw [if_neg g2, Option.bind_some]
      congr 1
      cases hrr : r with
      | true => exact absurd (hs.1.2 (hr.1 hrr).1) hb'
      | false => rfl
theorem consistent_f (m n : Nat) (P : List (List Int)) (old root : List Int) (hm : 0 < m) (hmn : m < n) (hn : n < 9223372036854775808) (hP : AllD P) (hb : P.length ≤ 1000000) (ho : old.length = 32) (r : Bool) (hr : r = true ↔ ConOk m n P old root) :
    Ev (fun k => proof_Consistent.f k (m : Int) (n : Int) P old root) r := by
  have e1 : wi64 ((m : Int) - 1) = ((m - 1 : Nat) : Int) := by rw [wi64_id (by omega) (by omega)]; omega
  have e2 : wi64 ((n : Int) - 1) = ((n - 1 : Nat) : Int) := by rw [wi64_id (by omega) (by omega)]; omega
  have g1 : ¬ (decide ((m : Int) < 0) || decide ((m : Int) > (n : Int))) = true := by simp; omega
  have g2 : ¬ (m : Int) = 0 := by omega
  have g3 : ¬ (m : Int) = (n : Int) := by omega
  have hst := strip_l1 m (m - 1) (n - 1) (by omega) (by omega)
  unfold ConOk at hr
  by_cases hz : (startN m n).1 = 0
  · rw [if_pos hz] at hr
    have hc := con_core P old old root m n hn hm hmn hP hb ho r hr
    refine Ev.congr (Ev.bind (g := fun k x122 => (if x122.at_ = 0 then (some (Sum.inl (P, old))) else (if (P.length : Int) = 0 then (some (Sum.inr false)) else (if 0 ≤ (0 : Int) ∧ (0 : Int) < (P.length : Int) then (if 0 ≤ (1 : Int) ∧ (1 : Int) ≤ (P.length : Int) ∧ (P.length : Int) ≤ (P.length : Int) then (some (Sum.inl (P.drop ((1 : Int).toNat), P.getD (0 : Int).toNat []))) else none) else none))).bind fun o_ => sumE o_ (fun (z : List (List Int) × List Int) => (proof_Consistent.l2 k z.1 0 x122 z.2 z.2).bind fun o_ => sumE o_ (fun (z : Tclimb × List Int × List Int) => (if z.1.last = 0 then (if z.2.1 = old then (some (decide (z.2.2 = root))) else (some (false))) else (some (false))).bind fun g855 => some g855) (fun p_ => some p_)) (fun p_ => some p_)) hst (hc.congr fun k => ?_)) fun k => ?_
    · have g4 : (((stripN m (m - 1) (n - 1)).1 : Nat) : Int) = 0 := by have : (stripN m (m - 1) (n - 1)).1 = 0 := hz; omega
      simp only [if_pos g4, Option.bind_some, sumE]
      rfl
    · simp only [proof_Consistent.f, if_neg g1, if_neg g2, if_neg g3, e1, e2]
  · rw [if_neg hz] at hr
    have g4 : ¬ (((stripN m (m - 1) (n - 1)).1 : Nat) : Int) = 0 := by have : ¬ (stripN m (m - 1) (n - 1)).1 = 0 := hz; omega
    by_cases hP0 : P.length = 0
    · have hrf : r = false := by
        cases r with
        | false => rfl
        | true => have := (hr.1 rfl).1; omega
      rw [hrf]
      have g5 : (P.length : Int) = 0 := by omega
      refine Ev.congr (Ev.bind (g := fun k x122 => (if x122.at_ = 0 then (some (Sum.inl (P, old))) else (if (P.length : Int) = 0 then (some (Sum.inr false)) else (if 0 ≤ (0 : Int) ∧ (0 : Int) < (P.length : Int) then (if 0 ≤ (1 : Int) ∧ (1 : Int) ≤ (P.length : Int) ∧ (P.length : Int) ≤ (P.length : Int) then (some (Sum.inl (P.drop ((1 : Int).toNat), P.getD (0 : Int).toNat []))) else none) else none))).bind fun o_ => sumE o_ (fun (z : List (List Int) × List Int) => (proof_Consistent.l2 k z.1 0 x122 z.2 z.2).bind fun o_ => sumE o_ (fun (z : Tclimb × List Int × List Int) => (if z.1.last = 0 then (if z.2.1 = old then (some (decide (z.2.2 = root))) else (some (false))) else (some (false))).bind fun g855 => some g855) (fun p_ => some p_)) (fun p_ => some p_)) hst ((Ev.pure false).congr fun k => ?_)) fun k => ?_
      · simp only [if_neg g4, if_pos g5, Option.bind_some, sumE]
      · simp only [proof_Consistent.f, if_neg g1, if_neg g2, if_neg g3, e1, e2]
    · have hp0 : (P.getD 0 []).length = 32 := hP _ (by rw [List.getD_eq_getElem?_getD, List.getElem?_eq_getElem (show 0 < P.length by omega), Option.getD_some]; exact List.getElem_mem _)
      have hc := con_core (P.drop 1) (P.getD 0 []) old root m n hn hm hmn (hP.drop 1) (by rw [List.length_drop]; omega) hp0 r (hr.trans ⟨fun h => h.2, fun h => ⟨by omega, h⟩⟩)
      have g5 : ¬ (P.length : Int) = 0 := by omega
      have g6 : 0 ≤ (0 : Int) ∧ (0 : Int) < (P.length : Int) := by omega
      have g7 : 0 ≤ (1 : Int) ∧ (1 : Int) ≤ (P.length : Int) ∧ (P.length : Int) ≤ (P.length : Int) := by omega
      refine Ev.congr (Ev.bind (g := fun k x122 => (if x122.at_ = 0 then (some (Sum.inl (P, old))) else (if (P.length : Int) = 0 then (some (Sum.inr false)) else (if 0 ≤ (0 : Int) ∧ (0 : Int) < (P.length : Int) then (if 0 ≤ (1 : Int) ∧ (1 : Int) ≤ (P.length : Int) ∧ (P.length : Int) ≤ (P.length : Int) then (some (Sum.inl (P.drop ((1 : Int).toNat), P.getD (0 : Int).toNat []))) else none) else none))).bind fun o_ => sumE o_ (fun (z : List (List Int) × List Int) => (proof_Consistent.l2 k z.1 0 x122 z.2 z.2).bind fun o_ => sumE o_ (fun (z : Tclimb × List Int × List Int) => (if z.1.last = 0 then (if z.2.1 = old then (some (decide (z.2.2 = root))) else (some (false))) else (some (false))).bind fun g855 => some g855) (fun p_ => some p_)) (fun p_ => some p_)) hst (hc.congr fun k => ?_)) fun k => ?_
      · simp only [if_neg g4, if_neg g5, if_pos g6, if_pos g7, Option.bind_some, sumE]
        rfl
      · simp only [proof_Consistent.f, if_neg g1, if_neg g2, if_neg g3, e1, e2]
end Go.Proofs.YthdlfclkcdnenaaDoor.Pure
