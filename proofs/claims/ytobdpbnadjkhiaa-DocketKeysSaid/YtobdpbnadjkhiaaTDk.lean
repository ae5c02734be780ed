/- Plain laws of dockets: keys that are used. -/
import Derived.Test.YtobdpbnadjkhiaaTDg
namespace Go.Proofs.Ytobdpbnadjkhiaa.Pure
open Go.WG Go.Proofs.Ytobdpbnadjkhiaa Go.Proofs.Ytobdpbnadjkhiaa.Ta
set_option linter.unusedSimpArgs false
set_option linter.unusedVariables false
/-- Who isn't among them has what he had. -/
theorem useL_other : ∀ (l u : List Int) (w : Int), 0 ≤ w → (∀ x ∈ l, 0 ≤ x) → ¬ w ∈ l → (useL u l).2.getD w.toNat 0 = u.getD w.toNat 0
  | [], _, _, _, _, _ => rfl
  | x :: r, u, w, hw, hl, hn => by
    rw [List.mem_cons, not_or] at hn
    have hx := hl x (by simp)
    rw [useL]
    show (useL (u.set x.toNat (u.getD x.toNat 0 + 1)) r).2.getD w.toNat 0 = _
    rw [useL_other r _ w hw (fun y hy => hl y (List.mem_cons_of_mem _ hy)) hn.2, getD_set_other _ _ (by omega)]
/-- The indexes that are given, and that they are used then. -/
theorem useL_at : ∀ (l u : List Int), l.Nodup → (∀ x ∈ l, 0 ≤ x ∧ x < (u.length : Int)) → ∀ q, q < l.length → (useL u l).1.getD q 0 = u.getD (l.getD q 0).toNat 0 ∧ (useL u l).2.getD (l.getD q 0).toNat 0 = u.getD (l.getD q 0).toNat 0 + 1
  | [], _, _, _, q, hq => by simp at hq
  | x :: r, u, hn, hl, 0, _ => by
    rw [List.nodup_cons] at hn
    have hx := hl x (by simp)
    refine ⟨rfl, ?_⟩
    show (useL (u.set x.toNat (u.getD x.toNat 0 + 1)) r).2.getD x.toNat 0 = _
    rw [useL_other r _ x hx.1 (fun y hy => (hl y (List.mem_cons_of_mem _ hy)).1) hn.1, getD_set_self _ _ (by omega)]
    rfl
  | x :: r, u, hn, hl, q + 1, hq => by
    rw [List.nodup_cons] at hn
    have hx := hl x (by simp)
    have hq' : q < r.length := by simpa using hq
    have hm := getD_mem (0 : Int) hq'
    have hy := hl _ (List.mem_cons_of_mem _ hm)
    obtain ⟨h1, h2⟩ := useL_at r (u.set x.toNat (u.getD x.toNat 0 + 1)) hn.2 (fun y hy => by rw [List.length_set]; exact hl y (List.mem_cons_of_mem _ hy)) q hq'
    have hne : x.toNat ≠ (r.getD q 0).toNat := fun e => hn.1 (by
      have : x = r.getD q 0 := by omega
      rw [this]; exact hm)
    rw [getD_set_other _ _ hne] at h1 h2
    exact ⟨h1, h2⟩
/-- Who picks no crew uses no key. -/
theorem run_used {c : TConfig} {s t : TState} {r : TRecord} (h3 : ¬ r.Kind = 3) (h : runL c s r = (0, t)) : t.Used = s.Used := by
  unfold runL at h
  split at h
  · unfold epochL at h
    split at h
    · cases h
    · split at h
      · cases h
      · injection h with _ h; subst h; rfl
  split at h
  · unfold submitL at h
    split at h
    · cases h
    · split at h
      · cases h
      · injection h with _ h; subst h; rfl
  split at h
  · unfold voteL at h
    split at h
    · split at h
      · cases h
      · split at h
        · split at h
          · split at h
            · injection h with _ h; subst h; rfl
            · injection h with _ h; subst h; rfl
          · rename_i g2; injection h with h _; exact absurd h g2
        · cases h
    · cases h
  split at h
  · unfold expireL at h
    split at h
    · split at h
      · split at h
        · cases h
        · injection h with _ h; subst h; rfl
      · cases h
    · cases h
  · unfold headL at h
    split at h
    · cases h
    · split at h
      · cases h
      · injection h with _ h; subst h; rfl
/-- What a crew that is picked makes. -/
theorem run_assign {c : TConfig} {s t : TState} {r : TRecord} (h3 : r.Kind = 3) (h : runL c s r = (0, t)) :
    (1 ≤ r.Job ∧ r.Job ≤ (s.Jobs.length : Int)) ∧ ∃ l, Cr.pickL s.Used s.Barred (keysN c) (2 * c.Faulty + 1) = (l, 0) ∧ t.Used = (useL s.Used l).2 ∧ t.Jobs.length = s.Jobs.length ∧ (t.Jobs.getD (r.Job - 1).toNat TJob.z).Workers = l ∧ (t.Jobs.getD (r.Job - 1).toNat TJob.z).Indexes = (useL s.Used l).1 := by
  unfold runL at h
  rw [if_neg (by rw [h3]; decide), if_neg (by rw [h3]; decide), if_pos h3] at h
  unfold assignL at h
  split at h
  · cases h
  · split at h
    · rename_i g
      split at h
      · split at h
        · cases h
        · split at h
          · rename_i g2
            injection h with _ h; subst h
            have hi : (r.Job - 1).toNat < s.Jobs.length := by omega
            refine ⟨g, (Cr.pickL s.Used s.Barred (keysN c) (2 * c.Faulty + 1)).1, Prod.ext rfl g2, rfl, by simp, ?_, ?_⟩
            · show (((s.Jobs.set _ _).getD _ TJob.z)).Workers = _; rw [getD_set_self _ _ hi]
            · show (((s.Jobs.set _ _).getD _ TJob.z)).Indexes = _; rw [getD_set_self _ _ hi]
          · rename_i g2; injection h with h _; exact absurd h g2
      · cases h
    · cases h
end Go.Proofs.Ytobdpbnadjkhiaa.Pure
