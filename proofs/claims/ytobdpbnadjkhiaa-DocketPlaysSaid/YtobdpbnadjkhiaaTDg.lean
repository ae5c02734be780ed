/- Plain laws of dockets: what records keep. -/
import Derived.Test.YtobdpbnadjkhiaaTDf
import Derived.Test.YtobdpbnadjkhiaaTGr
namespace Go.Proofs.Ytobdpbnadjkhiaa.Pure
open Go.WG Go.Proofs.Ytobdpbnadjkhiaa Go.Proofs.Ytobdpbnadjkhiaa.Ta
set_option linter.unusedSimpArgs false
set_option linter.unusedVariables false
theorem idle_ok {j : TJob} (h : JobOk j) : JobOk (idle j) := ⟨h.pay, ⟨by simp [idle], by simp [idle]⟩, ⟨by simp [idle], by simp [idle]⟩, by simp [idle], by simp [idle]⟩
theorem set_ok {J : List TJob} {i : Nat} {x : TJob} (h : ∀ j ∈ J, JobOk j) (hx : JobOk x) : ∀ j ∈ J.set i x, JobOk j := fun j hj => (List.mem_or_eq_of_mem_set hj).elim (h j) fun e => e ▸ hx
theorem run_ok {c : TConfig} (hc : CfgOk c) {s t : TState} (hs : StOk s) (hg : Good c s) {r : TRecord} (hr : Byt r.Data) (h : runL c s r = (0, t)) : StOk t := by
 unfold runL at h
 split at h
 ·unfold epochL at h
  split at h
  ·cases h
  ·split at h
   ·cases h
   ·injection h with _ h; subst h
    rename_i g
    refine ⟨?_, by simpa using hs.jobs, fun j hj => ?_, hs.used, hs.bar⟩
    ·simp only [List.length_append, List.length_singleton]; omega
    ·obtain ⟨x, hx, rfl⟩ := List.mem_map.1 hj
     unfold runIdle
     split
     ·exact idle_ok (hs.each x hx)
     ·exact hs.each x hx
 split at h
 ·unfold submitL at h
  split at h
  ·cases h
  ·split at h
   ·cases h
   ·injection h with _ h; subst h
    rename_i g
    have := hc.j
    refine ⟨hs.eras, by simp only [List.length_append, List.length_singleton]; omega, fun j hj => ?_, hs.used, hs.bar⟩
    rcases List.mem_append.1 hj with hj | hj
    ·exact hs.each j hj
    ·rw [List.mem_singleton.1 hj]
     exact ⟨hr, ⟨by simp, by simp⟩, ⟨by simp, by simp⟩, by simp, by simp⟩
 split at h
 ·unfold assignL at h
  split at h
  ·cases h
  ·split at h
   ·split at h
    ·split at h
     ·cases h
     ·split at h
      ·injection h with _ h; subst h
       rename_i g1 _ _ g2 _
       have hF := hc.f
       have hi : (r.Job - 1).toNat < s.Jobs.length := by omega
       have hj := hs.each _ (getD_mem TJob.z hi)
       obtain ⟨m1, _, _⟩ := pick_mem g2
       obtain ⟨u1, u2⟩ := useL_len (Cr.pickL s.Used s.Barred (keysN c) (2 * c.Faulty + 1)).1 s.Used
       refine ⟨hs.eras, by simpa using hs.jobs, set_ok hs.each ⟨hj.pay, hj.val, hj.votes, by dsimp only; omega, by dsimp only; omega⟩, by show _ ≤ 8; rw [u2]; exact hs.used, hs.bar⟩
      ·rename_i g2; injection h with h _; exact absurd h g2
    ·cases h
   ·cases h
 split at h
 ·unfold voteL at h
  split at h
  ·rename_i g1
   have hi : (r.Job - 1).toNat < s.Jobs.length := by omega
   have hj := hs.each _ (getD_mem TJob.z hi)
   have hsd := hg.jb _ hi
   generalize hi' : (r.Job - 1).toNat = i at hi hj hsd h
   generalize hje : s.Jobs.getD i TJob.z = j at hj hsd h
   split at h
   ·cases h
   ·rename_i gs
    have hb : Busy c s j := hsd.k.resolve_left fun k => gs k.s
    have hl := votes_len hb.vt.once fun v hv => (hb.vt.each v hv).2.2
    have hw := hj.wk
    have hV : Votes (castV j.Votes ⟨r.By, r.Data⟩).1 := castV_byt hj.votes (by omega) hr
    split at h
    ·split at h
     ·split at h
      ·injection h with _ h; subst h
       exact ⟨hs.eras, by simpa using hs.jobs, set_ok hs.each ⟨hj.pay, decV_byt hV _, hV, hj.wk, hj.ix⟩, hs.used, by rw [barL_len]; exact hs.bar⟩
      ·injection h with _ h; subst h
       exact ⟨hs.eras, by simpa using hs.jobs, set_ok hs.each ⟨hj.pay, hj.val, hV, hj.wk, hj.ix⟩, hs.used, hs.bar⟩
     ·rename_i g2; injection h with h _; exact absurd h g2
    ·cases h
  ·cases h
 split at h
 ·unfold expireL at h
  split at h
  ·split at h
   ·split at h
    ·cases h
    ·injection h with _ h; subst h
     rename_i g1 _ _ _
     have hi : (r.Job - 1).toNat < s.Jobs.length := by omega
     exact ⟨hs.eras, by simpa using hs.jobs, set_ok hs.each (idle_ok (hs.each _ (getD_mem TJob.z hi))), hs.used, hs.bar⟩
   ·cases h
  ·cases h
 ·unfold headL at h
  split at h
  ·cases h
  ·split at h
   ·cases h
   ·injection h with _ h; subst h
    exact ⟨hs.eras, hs.jobs, hs.each, hs.used, hs.bar⟩
theorem new_ok (c : TConfig) : StOk (newL c).1 := by
 unfold newL
 split
 ·rename_i h
  have := h.w
  exact ⟨by simp, by simp, by simp, by simp; omega, by simp; omega⟩
 ·exact ⟨by simp, by simp, by simp, by simp, by simp⟩
theorem okData {l : List TRecord} (h : ok24 l) : ∀ r ∈ l, ∀ x ∈ r.Data, 0 ≤ x ∧ x < 256 := fun r hr x hx => wf8 ((h.2 r hr).2.2.2.1.2 x hx)
end Go.Proofs.Ytobdpbnadjkhiaa.Pure
