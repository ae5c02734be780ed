/- Plain laws of proofs: inclusion, checked. -/
import Derived.Test.YthdlfclkcdnenaaDoorSUg
set_option linter.unusedSimpArgs false
set_option linter.unusedVariables false
namespace Go.Proofs.YthdlfclkcdnenaaDoor.Pure
open Go.WG Go.Proofs.YthdlfclkcdnenaaDoor
/-- Up along the ways. -/
noncomputable def foldUp : List Bool → List (List Int) → List Int → List Int
  | d :: ds, p :: ps, x => foldUp ds ps (if d = true then nodeD p x else nodeD x p)
  | _, _, x => x
theorem foldUp_snoc : ∀ (ds : List Bool) (ps : List (List Int)) (d : Bool) (p x : List Int), ds.length = ps.length → foldUp (ds ++ [d]) (ps ++ [p]) x = (if d = true then nodeD p (foldUp ds ps x) else nodeD (foldUp ds ps x) p)
  | [], [], d, p, x, _ => by simp [foldUp]
  | [], p' :: ps, d, p, x, h => by simp at h
  | d' :: ds, [], d, p, x, h => by simp at h
  | d' :: ds, p' :: ps, d, p, x, h => by
    simp only [List.cons_append, foldUp]
    exact foldUp_snoc ds ps d p _ (by simpa using h)
/-- The ways up from a place of a list of n. -/
def pathN (i n : Nat) : List Bool := climbN (n - 1) i (n - 1)
theorem pathN_one (i : Nat) : pathN i 1 = [] := rfl
theorem pathN_left {i n : Nat} (hn : 2 ≤ n) (hi : i < sp n) : pathN i n = pathN i (sp n) ++ [false] := by
  have hs := sp_facts hn
  have h1 : climbN (n - 1) i (n - 1) = bitsN (Nat.log2 (n - 1)) i ++ [false] := by
    refine climb_left _ i (n - 1) hi ?_ ?_
    · show sp n ≤ _; omega
    · rw [Nat.pow_succ]; show _ < sp n * 2; omega
  have h2 : pathN i (sp n) = bitsN (Nat.log2 (n - 1)) i := climb_whole _ i hi
  rw [h2]; exact h1
theorem pathN_right {i n : Nat} (hn : 2 ≤ n) (hi : sp n ≤ i) (hin : i < n) : pathN i n = pathN (i - sp n) (n - sp n) ++ [true] := by
  have hs := sp_facts hn
  have h1 := climb_right (Nat.log2 (n - 1)) (i - sp n) (n - sp n - 1) (by omega) (by show _ < sp n; omega)
  have e1 : 2 ^ Nat.log2 (n - 1) + (n - sp n - 1) = n - 1 := by show sp n + _ = _; omega
  have e2 : 2 ^ Nat.log2 (n - 1) + (i - sp n) = i := by show sp n + _ = _; omega
  rw [e1, e2] at h1
  exact h1
theorem up_f (k a b : Nat) : proof_climb_up.f k ⟨(a : Int), (b : Int)⟩ = some ⟨((a / 2 : Nat) : Int), ((b / 2 : Nat) : Int)⟩ := by
  simp only [proof_climb_up.f, shr_one]
theorem rise_l1 : ∀ (f a b : Nat), a < f → a < 9223372036854775808 → Ev (fun k => proof_climb_right.l1 k ⟨(a : Int), (b : Int)⟩) ⟨((rise f a b).1 : Int), ((rise f a b).2 : Int)⟩ := by
  intro f
  induction f with
  | zero => intro a b h; omega
  | succ f ih =>
    intro a b h hb
    unfold rise
    by_cases hc : a % 2 = 0 ∧ a ≠ 0
    · rw [if_pos hc]
      have hI := ih (a / 2) (b / 2) (by omega) (by omega)
      have g1 : ((a % 2 : Nat) : Int) = 0 := by omega
      have g2 : decide ((a : Int) = 0) = false := decide_eq_false (by omega)
      refine Ev.succ (hI.congr fun k => ?_)
      simp only [proof_climb_right.l1, and_one hb, if_pos g1, g2, Option.bind_some, Bool.not_false, if_true, up_f]
    · rw [if_neg hc]
      refine Ev.succ ((Ev.pure _).congr fun k => ?_)
      by_cases h0 : a % 2 = 0
      · have ha : a = 0 := by
          rcases Nat.eq_zero_or_pos a with h | h
          · exact h
          · exact absurd ⟨h0, by omega⟩ hc
        subst ha
        simp [proof_climb_right.l1, and_one]
      · have g1 : ¬ ((a % 2 : Nat) : Int) = 0 := by omega
        simp only [proof_climb_right.l1, and_one hb, if_neg g1, Option.bind_some, Bool.false_eq_true, if_false]
theorem right_f (a b : Nat) (hb : a < 9223372036854775808) : Ev (fun k => proof_climb_right.f k ⟨(a : Int), (b : Int)⟩) ((rightN a b).1, ⟨((rightN a b).2.1 : Int), ((rightN a b).2.2 : Int)⟩) := by
  unfold rightN
  by_cases hc : a % 2 = 0 ∧ a ≠ b
  · rw [if_pos hc]
    have g1 : ((a % 2 : Nat) : Int) = 0 := by omega
    have g2 : decide ((a : Int) = (b : Int)) = false := decide_eq_false (by omega)
    refine (Ev.pure _).congr fun k => ?_
    simp only [proof_climb_right.f, and_one hb, if_pos g1, g2, Option.bind_some, Bool.not_false, if_true]
  · rw [if_neg hc]
    have hr := rise_l1 (a + 1) a b (by omega) hb
    refine Ev.congr (Ev.bind (g := fun _ x => some (true, x)) hr (Ev.pure _)) fun k => ?_
    by_cases h0 : a % 2 = 0
    · have ha : a = b := Decidable.byContradiction fun h => hc ⟨h0, h⟩
      have g1 : ((a % 2 : Nat) : Int) = 0 := by omega
      have g2 : decide ((a : Int) = (b : Int)) = true := decide_eq_true (by omega)
      simp only [proof_climb_right.f, and_one hb, if_pos g1, g2, Option.bind_some, Bool.not_true, Bool.false_eq_true, if_false]
    · have g1 : ¬ ((a % 2 : Nat) : Int) = 0 := by omega
      simp only [proof_climb_right.f, and_one hb, if_neg g1, Option.bind_some, Bool.false_eq_true, if_false]
theorem right_fst_le (a b : Nat) : (rightN a b).2.1 ≤ a := by
  have hr : ∀ (f a b : Nat), (rise f a b).1 ≤ a := by
    intro f
    induction f with
    | zero => intro a b; exact Nat.le_refl _
    | succ f ih =>
      intro a b
      unfold rise
      split
      · have := ih (a / 2) (b / 2); omega
      · exact Nat.le_refl _
  unfold rightN
  split
  · exact Nat.le_refl _
  · exact hr _ _ _
noncomputable def goN : List (List Int) → List Int → Nat → Nat → Option (List Int × Nat × Nat)
  | [], x, a, b => some (x, a, b)
  | p :: ps, x, a, b => if b = 0 then none else goN ps (if (rightN a b).1 = true then nodeD p x else nodeD x p) ((rightN a b).2.1 / 2) ((rightN a b).2.2 / 2)
theorem goN_spec : ∀ (ps : List (List Int)) (x : List Int) (a b : Nat), match goN ps x a b with
    | none => ps.length ≠ (climbN b a b).length
    | some (y, _, b') => (b' = 0 ↔ ps.length = (climbN b a b).length) ∧ (b' = 0 → y = foldUp (climbN b a b) ps x)
  | [], x, a, b => by
    unfold goN
    by_cases hb : b = 0
    · subst hb
      exact ⟨⟨fun _ => rfl, fun _ => rfl⟩, fun _ => rfl⟩
    · rw [climb_step (by omega) (Nat.le_refl _)]
      exact ⟨⟨fun h => absurd h hb, fun h => by simp at h⟩, fun h => absurd h hb⟩
  | p :: ps, x, a, b => by
    unfold goN
    by_cases hb : b = 0
    · subst hb
      rw [if_pos rfl]
      show _ ≠ ([] : List Bool).length
      simp
    · rw [if_neg hb, climb_step (by omega) (Nat.le_refl _)]
      have hle := right_le a b
      have h := goN_spec ps (if (rightN a b).1 = true then nodeD p x else nodeD x p) ((rightN a b).2.1 / 2) ((rightN a b).2.2 / 2)
      rw [climb_fuel ((rightN a b).2.2 / 2) b _ _ (Nat.le_refl _) (by omega)] at h
      cases hg : goN ps (if (rightN a b).1 = true then nodeD p x else nodeD x p) ((rightN a b).2.1 / 2) ((rightN a b).2.2 / 2) with
      | none =>
        rw [hg] at h
        simp only [List.length_cons, ne_eq, Nat.add_right_cancel_iff] at h ⊢
        exact h
      | some r =>
        obtain ⟨y, a', b'⟩ := r
        rw [hg] at h
        simp only [List.length_cons, Nat.add_right_cancel_iff, foldUp] at h ⊢
        exact h
theorem included_l1 (P : List (List Int)) (hP : AllD P) (hb : P.length ≤ 1000000) : ∀ (m j a b : Nat) (x : List Int), P.length - j = m → j ≤ P.length → a < 9223372036854775808 → x.length = 32 →
    Ev (fun k => proof_Included.l1 k P (j : Int) x ⟨(a : Int), (b : Int)⟩) (match goN (P.drop j) x a b with | none => Sum.inr false | some (y, a', b') => Sum.inl (y, ⟨(a' : Int), (b' : Int)⟩)) := by
  intro m
  induction m with
  | zero =>
    intro j a b x hm hj ha hx
    rw [List.drop_eq_nil_of_le (by omega)]
    refine Ev.succ ((Ev.pure _).congr fun k => ?_)
    have : ¬ (j : Int) < (P.length : Int) := by omega
    simp only [proof_Included.l1, if_neg this, goN]
  | succ m ih =>
    intro j a b x hm hj ha hx
    have hlt : j < P.length := by omega
    have h1 : (j : Int) < (P.length : Int) := by omega
    have h2 : 0 ≤ (j : Int) ∧ (j : Int) < (P.length : Int) := by omega
    have hd : P.drop j = P.getD j [] :: P.drop (j + 1) := by
      rw [List.getD_eq_getElem?_getD, List.getElem?_eq_getElem hlt, Option.getD_some]
      exact List.drop_eq_getElem_cons hlt
    have hpl : (P.getD j []).length = 32 := hP _ (by rw [List.getD_eq_getElem?_getD, List.getElem?_eq_getElem hlt, Option.getD_some]; exact List.getElem_mem hlt)
    rw [hd, goN]
    by_cases hb0 : b = 0
    · rw [if_pos hb0]
      refine Ev.succ ((Ev.pure _).congr fun k => ?_)
      have g1 : (b : Int) = 0 := by omega
      simp only [proof_Included.l1, if_pos h1, if_pos h2, if_pos g1]
    · rw [if_neg hb0]
      have g1 : ¬ (b : Int) = 0 := by omega
      have hr := right_f a b ha
      have hle := right_fst_le a b
      cases hq : (rightN a b).1 with
      | true =>
        rw [hq] at hr
        have hI := ih (j + 1) ((rightN a b).2.1 / 2) ((rightN a b).2.2 / 2) (nodeD (P.getD j []) x) (by omega) (by omega) (by omega) (nodeD_len _ _ hpl hx)
        refine Ev.succ (Ev.congr (Ev.bind (g := fun k (y : Bool × Tclimb) => if y.1 = true then ((proof_Node.f k (P.getD j []) x).bind fun r391 => (proof_climb_up.f k y.2).bind fun r400 => proof_Included.l1 k P (wi64 ((j : Int) + 1)) r391 r400) else ((proof_Node.f k x (P.getD j [])).bind fun r406 => (proof_climb_up.f k y.2).bind fun r415 => proof_Included.l1 k P (wi64 ((j : Int) + 1)) r406 r415)) hr (Ev.iteT rfl (Ev.bind (g := fun k r391 => (proof_climb_up.f k ⟨((rightN a b).2.1 : Int), ((rightN a b).2.2 : Int)⟩).bind fun r400 => proof_Included.l1 k P (wi64 ((j : Int) + 1)) r391 r400) (node_f _ _ hpl hx) (hI.congr fun k => ?_)))) fun k => ?_)
        · simp only [up_f, Option.bind_some, wi64_succ (show j < 9223372036854775807 by omega)]
        · simp only [proof_Included.l1, if_pos h1, if_pos h2, if_neg g1, Int.toNat_natCast]
      | false =>
        rw [hq] at hr
        have hI := ih (j + 1) ((rightN a b).2.1 / 2) ((rightN a b).2.2 / 2) (nodeD x (P.getD j [])) (by omega) (by omega) (by omega) (nodeD_len _ _ hx hpl)
        refine Ev.succ (Ev.congr (Ev.bind (g := fun k (y : Bool × Tclimb) => if y.1 = true then ((proof_Node.f k (P.getD j []) x).bind fun r391 => (proof_climb_up.f k y.2).bind fun r400 => proof_Included.l1 k P (wi64 ((j : Int) + 1)) r391 r400) else ((proof_Node.f k x (P.getD j [])).bind fun r406 => (proof_climb_up.f k y.2).bind fun r415 => proof_Included.l1 k P (wi64 ((j : Int) + 1)) r406 r415)) hr (Ev.iteF (by simp) (Ev.bind (g := fun k r406 => (proof_climb_up.f k ⟨((rightN a b).2.1 : Int), ((rightN a b).2.2 : Int)⟩).bind fun r415 => proof_Included.l1 k P (wi64 ((j : Int) + 1)) r406 r415) (node_f _ _ hx hpl) (hI.congr fun k => ?_)))) fun k => ?_)
        · simp only [up_f, Option.bind_some, wi64_succ (show j < 9223372036854775807 by omega)]
        · simp only [proof_Included.l1, if_pos h1, if_pos h2, if_neg g1, Int.toNat_natCast]
/-- A proof is right just where it has as many digests as there are ways up, and leads to the root. -/
theorem included_f (x : List Int) (i n : Nat) (P : List (List Int)) (root : List Int) (hi : i < n) (hn : n < 9223372036854775808) (hP : AllD P) (hb : P.length ≤ 1000000) (hx : x.length = 32) :
    Ev (fun k => proof_Included.f k x (i : Int) (n : Int) P root) (decide (P.length = (pathN i n).length ∧ foldUp (pathN i n) P x = root)) := by
  have h := included_l1 P hP hb P.length 0 i (n - 1) x rfl (Nat.zero_le _) (by omega) hx
  rw [List.drop_zero] at h
  have hs := goN_spec P x i (n - 1)
  have e1 : wi64 ((n : Int) - 1) = ((n - 1 : Nat) : Int) := by rw [wi64_id (by omega) (by omega)]; omega
  have g1 : ¬ (decide ((i : Int) < 0) || decide ((i : Int) ≥ (n : Int))) = true := by simp; omega
  refine Ev.iteF g1 ?_
  rw [e1]
  refine Ev.bind (g := fun _ o_ => sumE o_ (fun (x : List Int × Tclimb) => (if x.2.last = 0 then (some (decide (x.1 = root))) else (some (false))).bind fun g420 => some g420) (fun p_ => some p_)) h ?_
  unfold pathN
  cases hg : goN P x i (n - 1) with
  | none =>
    rw [hg] at hs
    simp only at hs
    have : decide (P.length = (climbN (n - 1) i (n - 1)).length ∧ foldUp (climbN (n - 1) i (n - 1)) P x = root) = false := decide_eq_false (fun h => hs h.1)
    rw [this]
    exact Ev.pure _
  | some r =>
    obtain ⟨y, a', b'⟩ := r
    rw [hg] at hs
    simp only at hs
    refine (Ev.pure _).congr fun k => ?_
    simp only [sumE]
    by_cases hb' : b' = 0
    · have g2 : ((b' : Nat) : Int) = 0 := by omega
      rw [if_pos g2, Option.bind_some, hs.2 hb']
      congr 1
      refine decide_eq_decide.2 ⟨fun h => ⟨hs.1.1 hb', h⟩, fun h => h.2⟩
    · have g2 : ¬ ((b' : Nat) : Int) = 0 := by omega
      rw [if_neg g2, Option.bind_some]
      congr 1
      exact (decide_eq_false (fun h => hb' (hs.1.2 h.1))).symm
theorem included_bad (k : Nat) (x : List Int) (i n : Int) (P : List (List Int)) (root : List Int) (h : i < 0 ∨ n ≤ i) : proof_Included.f k x i n P root = some false := by
  have g1 : (decide (i < 0) || decide (i ≥ n)) = true := by simp; omega
  simp only [proof_Included.f, if_pos g1]
end Go.Proofs.YthdlfclkcdnenaaDoor.Pure
