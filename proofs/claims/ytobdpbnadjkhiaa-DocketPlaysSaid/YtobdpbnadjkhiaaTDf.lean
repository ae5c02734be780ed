/- Plain laws of dockets: who is picked; what a record makes of a state. -/
import Derived.Test.YtobdpbnadjkhiaaTDe
namespace Go.Proofs.Ytobdpbnadjkhiaa.Pure
open Go.WG Go.Proofs.Ytobdpbnadjkhiaa Go.Proofs.Ytobdpbnadjkhiaa.Ta
set_option linter.unusedSimpArgs false
set_option linter.unusedVariables false
theorem pick_mem {u : List Int} {b : List Bool} {k n : Int} (h : (Cr.pickL u b k n).2 = 0) : ((Cr.pickL u b k n).1.length : Int) = n ∧ (Cr.pickL u b k n).1.Nodup ∧ ∀ w ∈ (Cr.pickL u b k n).1, 0 ≤ w ∧ w < (u.length : Int) ∧ b.getD w.toNat false = false ∧ u.getD w.toNat 0 < k := by
 unfold Cr.pickL at h ⊢
 split at h
 ·cases h
 ·rename_i h1
  split at h
  ·cases h
  ·rename_i h2
   split at h
   ·cases h
   ·rename_i h3
    rw [if_neg h1, if_neg h2, if_neg h3]
    have hn : ¬ n < 1 := fun e => h1 (.inr (.inl e))
    have hp := Heap.isort_perm (lt := Cr.ltH) (Cr.AA u b k)
    refine ⟨?_, ?_, fun w hw => ?_⟩
    ·have := hp.length_eq
     rw [List.length_map, List.length_take, this]
     omega
    ·have := (Cr.SS_ids u b k).sublist (List.take_sublist n.toNat _)
     exact List.pairwise_map.2 this
    ·obtain ⟨x, hx, rfl⟩ := List.mem_map.1 hw
     obtain ⟨g1, i, g2, g3, g4, g5, g6⟩ := Cr.ables_mem u b k _ _ x (hp.mem_iff.1 (List.mem_of_mem_take hx))
     rw [g2]
     refine ⟨by omega, by omega, by simpa using g5, ?_⟩
     rw [g6] at g1
     simpa using g1
theorem assign_l1 (c : TConfig) (E : List TEra) (J : List TJob) (u : List Int) (b : List Bool) (h : Int) (j : TJob) (l : List Int) (hl : l.length ≤ 8) (hw : ∀ w ∈ l, 0 ≤ w ∧ w < (u.length : Int)) (hu : ∀ q, 0 ≤ u.getD q 0 ∧ u.getD q 0 ≤ 64) :
  Ev (fun k => docket_work_assign.l1 k l 0 ⟨c, ⟨E, J, u, b, h⟩⟩ { j with Indexes := [] }) ((⟨c, ⟨E, J, (useL u l).2, b, h⟩⟩ : Twork), { j with Indexes := (useL u l).1 }) := by
 refine Ev.loop (n := l.length) (F := fun k i (x : Twork × TJob) => docket_work_assign.l1 k l (i : Int) x.1 x.2) (fun i x => x = (⟨c, ⟨E, J, (useL u (l.take i)).2, b, h⟩⟩, { j with Indexes := (useL u (l.take i)).1 })) (fun i x hi hI => ?_) (fun x hI => ?_) (_, _) rfl
 ·subst hI
  have hwi := hw _ (getD_mem 0 hi)
  obtain ⟨h1, h2⟩ := useL_len (l.take i) u
  have h3 := useL_le (l.take i) u (l.getD i 0).toNat
  have h4 := hu (l.getD i 0).toNat
  rw [List.length_take] at h1 h3
  refine .inr ⟨_, rfl, fun k => ?_⟩
  rw [take_succ 0 hi, useL_snoc] at k
  simp only [docket_work_assign.l1, Int.toNat_natCast, wi64_j (show i < 9223372036854775807 by omega)]
  rw [wi64_id (x := (useL u (l.take i)).2.getD (l.getD i 0).toNat 0 + 1) (by omega) (by omega)]
  exact Ev.iteT (by omega) (Ev.iteT (by omega) (Ev.iteT (by rw [h2]; exact hwi) (Ev.iteT (by rw [h1]; omega) k)))
 ·subst hI
  simp only [docket_work_assign.l1, List.take_length]
  exact Ev.iteF (by omega) (Ev.pure _)
theorem used_le {c : TConfig} (hc : CfgOk c) {s : TState} (hg : Good c s) (q : Nat) : 0 ≤ s.Used.getD q 0 ∧ s.Used.getD q 0 ≤ 64 := by
 have hk := hc.keys
 by_cases h : q < s.Used.length
 ·have := hg.un q h; omega
 ·rw [List.getD_eq_getElem?_getD, List.getElem?_eq_none (by omega)]; simp
theorem assign_f {c : TConfig} (hc : CfgOk c) {s : TState} (hs : StOk s) (hg : Good c s) (r : TRecord) : Ev (fun k => docket_work_assign.f k ⟨c, s⟩ r) ((assignL c s r).1, ⟨c, (assignL c s r).2⟩) := by
 unfold docket_work_assign.f assignL
 simp only [era_f, Option.bind_some, job_f c hs, hands_f hc]
 have hF := hc.f
 by_cases g0 : s.Eras.length = 0
 ·simp only [if_pos g0]; exact Ev.iteF (by decide) (Ev.pure _)
 simp only [if_neg g0]
 refine Ev.iteT trivial ?_
 unfold jobL
 by_cases g : 1 ≤ r.Job ∧ r.Job ≤ (s.Jobs.length : Int)
 ·simp only [if_pos g]
  refine Ev.iteT (by omega) (Ev.iteT trivial ?_)
  have hi : (r.Job - 1).toNat < s.Jobs.length := by omega
  have hsd := hg.jb _ hi
  simp only [set_same]
  by_cases g1 : (s.Jobs.getD (r.Job - 1).toNat TJob.z).State = 1
  ·simp only [if_pos g1]
   by_cases g2 : r.Time = 0
   ·simp only [if_pos g2]; exact Ev.pure _
   ·simp only [if_neg g2]
    have hp := Cr.pick_f s.Used s.Barred (keysN c) (2 * c.Faulty + 1) (by have := hs.used; omega)
    refine Ev.iteT hc.h.1 (Ev.bind hp ?_)
    by_cases g3 : (Cr.pickL s.Used s.Barred (keysN c) (2 * c.Faulty + 1)).2 = 0
    ·obtain ⟨m1, m2, m3⟩ := pick_mem g3
     simp only [if_pos g3]
     refine Ev.bind (epoRaw_f s hs.eras) ?_
     have ea : wi64 ((s.Jobs.getD (r.Job - 1).toNat TJob.z).Attempt + 1) = (s.Jobs.getD (r.Job - 1).toNat TJob.z).Attempt + 1 := by
      have := hsd.a
      exact wi64_id (by omega) (by omega)
     rw [ea]
     have hl := assign_l1 c s.Eras s.Jobs s.Used s.Barred s.Heads ⟨(s.Jobs.getD (r.Job - 1).toNat TJob.z).Payload, 2, (s.Jobs.getD (r.Job - 1).toNat TJob.z).Attempt + 1, lastE s, r.Time, (Cr.pickL s.Used s.Barred (keysN c) (2 * c.Faulty + 1)).1, [], (s.Jobs.getD (r.Job - 1).toNat TJob.z).Votes, (s.Jobs.getD (r.Job - 1).toNat TJob.z).Value⟩ (Cr.pickL s.Used s.Barred (keysN c) (2 * c.Faulty + 1)).1 (by omega) (fun w hw => ⟨(m3 w hw).1, (m3 w hw).2.1⟩) (used_le hc hg)
     exact Ev.bind hl (Ev.pure _)
    ·simp only [if_neg g3]; exact Ev.pure _
  ·simp only [if_neg g1]; exact Ev.pure _
 ·simp only [if_neg g]
  exact Ev.iteF (by omega) (Ev.iteF (by decide) (Ev.pure _))
/-- What a record does. -/
def runL (c : TConfig) (s : TState) (r : TRecord) : Int × TState :=
 if r.Kind = 1 then epochL s r else if r.Kind = 2 then submitL c s r else if r.Kind = 3 then assignL c s r else if r.Kind = 4 then voteL c s r else if r.Kind = 5 then expireL s r else headL c s
def none_ : TState := ⟨[], [], [], [], 0⟩
end Go.Proofs.Ytobdpbnadjkhiaa.Pure
