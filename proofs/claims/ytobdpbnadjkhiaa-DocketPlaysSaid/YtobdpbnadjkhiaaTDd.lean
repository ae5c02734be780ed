/- Plain laws of dockets: copies; records that ask no crew. -/
import Derived.Test.YtobdpbnadjkhiaaTGe
import Derived.Test.YtobdpbnadjkhiaaTDc
namespace Go.Proofs.Ytobdpbnadjkhiaa.Pure
open Go.WG Go.Proofs.Ytobdpbnadjkhiaa Go.Proofs.Ytobdpbnadjkhiaa.Ta
set_option linter.unusedSimpArgs false
set_option linter.unusedVariables false
theorem clone_l2 {s : TState} {i : Nat} (hj : JobOk (s.Jobs.getD i TJob.z)) : Ev (fun k => docket_clone.l2 k s (i : Int) 0 { s.Jobs.getD i TJob.z with Votes := [] }) (s.Jobs.getD i TJob.z) := by
 have h60 := hj.votes.1
 refine Ev.loop (n := (s.Jobs.getD i TJob.z).Votes.length) (F := fun k q (x : TJob) => docket_clone.l2 k s (i : Int) (q : Int) x) (fun q x => x = { s.Jobs.getD i TJob.z with Votes := (s.Jobs.getD i TJob.z).Votes.take q }) (fun q x hq hI => ?_) (fun x hI => ?_) _ rfl
 ·subst hI
  have hv := (Ta.Votes.at hj.votes hq).1
  have htl : ((s.Jobs.getD i TJob.z).Votes.take q).length = q := by rw [List.length_take]; omega
  refine .inr ⟨_, rfl, fun h => ?_⟩
  rw [take_succ TCast.z hq] at h
  simp only [docket_clone.l2, Int.toNat_natCast, wi64_j (show q < 9223372036854775807 by omega)]
  refine Ev.iteT (by omega) (Ev.iteT (by omega) (Ev.iteT (by omega) (Ev.iteT ?_ h)))
  rw [htl]; omega
 ·subst hI
  simp only [docket_clone.l2, Int.toNat_natCast, List.take_length]
  exact Ev.iteF (by omega) (Ev.pure _)
theorem clone_f {s : TState} (hs : StOk s) : Ev (fun k => docket_clone.f k s) s := by
 unfold docket_clone.f
 have h1 := hs.eras; have h2 := hs.used; have h3 := hs.bar; have h4 := hs.jobs
 have hloop : Ev (fun k => docket_clone.l1 k s 0 ⟨s.Eras, [], s.Used, s.Barred, s.Heads⟩) s := by
  refine Ev.loop (n := s.Jobs.length) (F := fun k i (x : TState) => docket_clone.l1 k s (i : Int) x) (fun i x => x = ⟨s.Eras, s.Jobs.take i, s.Used, s.Barred, s.Heads⟩) (fun i x hi hI => ?_) (fun x hI => ?_) _ rfl
  ·subst hI
   have hj := hs.each _ (getD_mem TJob.z hi)
   have htl : (s.Jobs.take i).length = i := by rw [List.length_take]; omega
   have g1 := hj.pay.1; have g2 := hj.wk; have g3 := hj.ix; have g4 := hj.val.1
   refine .inr ⟨_, rfl, fun h => ?_⟩
   rw [take_succ TJob.z hi] at h
   simp only [docket_clone.l1, Int.toNat_natCast, wi64_j (show i < 9223372036854775807 by omega)]
   refine Ev.iteT (by omega) (Ev.iteT (by omega) (Ev.iteT (by omega) (Ev.iteT (by omega) (Ev.iteT (by omega) (Ev.iteT (by omega) (Ev.bind (clone_l2 hj) (Ev.iteT ?_ h)))))))
   rw [htl]; omega
  ·subst hI
   simp only [docket_clone.l1, List.take_length]
   exact Ev.iteF (by omega) (Ev.pure _)
 exact Ev.iteT (by omega) (Ev.iteT (by omega) (Ev.iteT (by omega) (Ev.bind hloop (Ev.pure _))))
/-- A job that waits again. -/
def idle (j : TJob) : TJob := ⟨j.Payload, 1, j.Attempt, 0, 0, [], [], [], []⟩
theorem again_f (k : Nat) (xs : List TJob) (i : Int) : docket_again.f k (xs, i) = some (xs.set i.toNat (idle (xs.getD i.toNat TJob.z))) := rfl
/-- The job of a record: its place, or an error. -/
def jobL (s : TState) (r : TRecord) : Int × Int := if 1 ≤ r.Job ∧ r.Job ≤ (s.Jobs.length : Int) then (r.Job - 1, 0) else (-1, 211)
theorem job_f (c : TConfig) {s : TState} (hs : StOk s) (r : TRecord) (k : Nat) : docket_work_job.f k ⟨c, s⟩ r = some (jobL s r) := by
 unfold docket_work_job.f jobL
 have := hs.jobs
 simp only [btw, Option.bind_some, decide_eq_true_eq]
 by_cases h : 1 ≤ r.Job ∧ r.Job ≤ (s.Jobs.length : Int)
 ·have e : wi64 (r.Job - 1) = r.Job - 1 := wi64_id (by omega) (by omega)
  rw [if_pos h, if_pos h, e, if_pos (by omega)]
 ·rw [if_neg h, if_neg h]
theorem era_f (c : TConfig) (s : TState) (k : Nat) : docket_work_era.f k ⟨c, s⟩ = some (if s.Eras.length = 0 then 210 else 0) := by
 unfold docket_work_era.f
 by_cases h : s.Eras.length = 0
 ·rw [if_pos h, if_pos (by simpa using h)]
 ·rw [if_neg h, if_neg (by simpa using h)]
def runIdle (j : TJob) : TJob := if j.State = 2 then idle j else j
/-- An epoch begins. -/
def epochL (s : TState) (r : TRecord) : Int × TState :=
 if r.Epoch ≤ lastE s then (210, s) else if s.Eras.length ≥ 256 then (90, s)
 else (0, ⟨s.Eras ++ [⟨r.Epoch, r.Nonce⟩], s.Jobs.map runIdle, s.Used, s.Barred, s.Heads⟩)
theorem set_mid {α : Type} (f : α → α) (l : List α) (d : α) {i : Nat} (hi : i < l.length) : ((l.take i).map f ++ l.drop i).set i (f (l.getD i d)) = (l.take (i + 1)).map f ++ l.drop (i + 1) := by
 have h1 : ((l.take i).map f).length = i := by rw [List.length_map, List.length_take]; omega
 rw [List.set_append_right _ _ (by omega), h1, Nat.sub_self, drop_cons d hi, List.set_cons_zero, take_succ d hi, List.map_append, List.append_assoc]
 rfl
theorem get_mid {α : Type} (f : α → α) (l : List α) (d : α) {i : Nat} (hi : i < l.length) : ((l.take i).map f ++ l.drop i).getD i d = l.getD i d := by
 have h1 : ((l.take i).map f).length = i := by rw [List.length_map, List.length_take]; omega
 rw [List.getD_eq_getElem?_getD, List.getElem?_append_right (by omega), h1, Nat.sub_self, List.getElem?_drop, Nat.add_zero, List.getD_eq_getElem?_getD]
theorem epoch_f (c : TConfig) {s : TState} (hs : StOk s) (r : TRecord) : Ev (fun k => docket_work_epoch.f k ⟨c, s⟩ r) ((epochL s r).1, ⟨c, (epochL s r).2⟩) := by
 unfold docket_work_epoch.f epochL
 have h1 := hs.eras; have h2 := hs.jobs
 refine Ev.bind (epo_f s h1) ?_
 by_cases g1 : r.Epoch ≤ lastE s
 ·rw [if_pos g1]; exact Ev.iteT g1 (Ev.pure _)
 rw [if_neg g1]
 refine Ev.iteF g1 ?_
 by_cases g2 : s.Eras.length ≥ 256
 ·rw [if_pos g2]; exact Ev.iteT (show (s.Eras.length : Int) ≥ 256 by omega) (Ev.pure _)
 rw [if_neg g2]
 refine Ev.iteF (by simp only [ge_iff_le]; omega) (Ev.iteT (by simp only; omega) ?_)
 have hloop : ∀ E : List TEra, Ev (fun k => docket_work_epoch.l1 k ⟨c, s⟩ 0 ⟨c, ⟨E, s.Jobs, s.Used, s.Barred, s.Heads⟩⟩) (⟨c, ⟨E, s.Jobs.map runIdle, s.Used, s.Barred, s.Heads⟩⟩ : Twork) := fun E => by
  refine Ev.loop (n := s.Jobs.length) (F := fun k i (x : Twork) => docket_work_epoch.l1 k ⟨c, s⟩ (i : Int) x) (fun i x => x = ⟨c, ⟨E, (s.Jobs.take i).map runIdle ++ s.Jobs.drop i, s.Used, s.Barred, s.Heads⟩⟩) (fun i x hi hI => ?_) (fun x hI => ?_) _ (by simp)
  ·subst hI
   have hl : ((s.Jobs.take i).map runIdle ++ s.Jobs.drop i).length = s.Jobs.length := by rw [List.length_append, List.length_map, List.length_take, List.length_drop]; omega
   simp only [docket_work_epoch.l1, Int.toNat_natCast, wi64_j (show i < 9223372036854775807 by omega), again_f, Option.bind_some, get_mid runIdle s.Jobs TJob.z hi]
   have hset := set_mid runIdle s.Jobs TJob.z hi
   by_cases g : (s.Jobs.getD i TJob.z).State = 2
   ·refine .inr ⟨_, rfl, fun h => ?_⟩
    rw [← hset] at h
    refine Ev.iteT (by omega) (Ev.iteT (by rw [hl]; omega) (Ev.iteT g ?_))
    rw [show idle (s.Jobs.getD i TJob.z) = runIdle (s.Jobs.getD i TJob.z) from by unfold runIdle; rw [if_pos g]]
    exact h
   ·refine .inr ⟨_, rfl, fun h => ?_⟩
    have e : (s.Jobs.take (i + 1)).map runIdle ++ s.Jobs.drop (i + 1) = (s.Jobs.take i).map runIdle ++ s.Jobs.drop i := by
     rw [take_succ TJob.z hi, drop_cons TJob.z hi, List.map_append, List.append_assoc]
     have : runIdle (s.Jobs.getD i TJob.z) = s.Jobs.getD i TJob.z := by unfold runIdle; rw [if_neg g]
     rw [List.map_singleton, this]; rfl
    rw [e] at h
    exact Ev.iteT (by omega) (Ev.iteT (by rw [hl]; omega) (Ev.iteF g h))
  ·subst hI
   simp only [docket_work_epoch.l1, List.take_length, List.drop_length, List.append_nil]
   exact Ev.iteF (by omega) (Ev.pure _)
 exact Ev.bind (hloop _) (Ev.pure _)
/-- A job comes. -/
def submitL (c : TConfig) (s : TState) (r : TRecord) : Int × TState :=
 if s.Eras.length = 0 then (210, s) else if (s.Jobs.length : Int) ≥ c.Jobs then (90, s)
 else (0, ⟨s.Eras, s.Jobs ++ [⟨r.Data, 1, 0, 0, 0, [], [], [], []⟩], s.Used, s.Barred, s.Heads⟩)
theorem submit_f (c : TConfig) {s : TState} (hs : StOk s) {r : TRecord} (hr : r.Data.length ≤ 200) : Ev (fun k => docket_work_submit.f k ⟨c, s⟩ r) ((submitL c s r).1, ⟨c, (submitL c s r).2⟩) := by
 unfold docket_work_submit.f submitL
 have h2 := hs.jobs
 simp only [era_f, Option.bind_some]
 by_cases g1 : s.Eras.length = 0
 ·simp only [if_pos g1]; exact Ev.iteF (by decide) (Ev.pure _)
 simp only [if_neg g1]
 by_cases g2 : (s.Jobs.length : Int) ≥ c.Jobs
 ·simp only [if_pos g2]; exact Ev.iteT trivial (Ev.pure _)
 simp only [if_neg g2]
 exact Ev.iteT trivial (Ev.iteT (by omega) (Ev.iteT (by omega) (Ev.pure _)))
/-- A head more. -/
def headL (c : TConfig) (s : TState) : Int × TState :=
 if s.Eras.length = 0 then (210, s) else if s.Heads = shlOp .i64 1 c.Heads then (70, s) else (0, ⟨s.Eras, s.Jobs, s.Used, s.Barred, s.Heads + 1⟩)
theorem head_f {c : TConfig} (hc : CfgOk c) {s : TState} (hh : 0 ≤ s.Heads ∧ s.Heads ≤ shlOp .i64 1 c.Heads) (r : TRecord) : Ev (fun k => docket_work_head.f k ⟨c, s⟩ r) ((headL c s).1, ⟨c, (headL c s).2⟩) := by
 unfold docket_work_head.f headL
 have h1 := shl_le hc.hd
 simp only [era_f, Option.bind_some]
 by_cases g1 : s.Eras.length = 0
 ·simp only [if_pos g1]; exact Ev.iteF (by decide) (Ev.pure _)
 simp only [if_neg g1]
 by_cases g2 : s.Heads = shlOp .i64 1 c.Heads
 ·simp only [if_pos g2]; exact Ev.iteT trivial (Ev.iteT hc.hd.1 (Ev.pure _))
 simp only [if_neg g2, wi64_id (x := s.Heads + 1) (by omega) (by omega)]
 exact Ev.iteT trivial (Ev.iteT hc.hd.1 (Ev.pure _))
/-- A job's time is over. -/
def expireL (s : TState) (r : TRecord) : Int × TState :=
 if 1 ≤ r.Job ∧ r.Job ≤ (s.Jobs.length : Int) then
  (if (s.Jobs.getD (r.Job - 1).toNat TJob.z).State = 2 then (if r.Time < (s.Jobs.getD (r.Job - 1).toNat TJob.z).Until then (213, s) else (0, ⟨s.Eras, s.Jobs.set (r.Job - 1).toNat (idle (s.Jobs.getD (r.Job - 1).toNat TJob.z)), s.Used, s.Barred, s.Heads⟩)) else (212, s))
 else (211, s)
theorem expire_f (c : TConfig) {s : TState} (hs : StOk s) (r : TRecord) : Ev (fun k => docket_work_expire.f k ⟨c, s⟩ r) ((expireL s r).1, ⟨c, (expireL s r).2⟩) := by
 unfold docket_work_expire.f expireL
 simp only [job_f c hs, Option.bind_some, again_f]
 unfold jobL
 by_cases g : 1 ≤ r.Job ∧ r.Job ≤ (s.Jobs.length : Int)
 ·simp only [if_pos g]
  refine Ev.iteT (by omega) (Ev.iteT trivial ?_)
  by_cases g1 : (s.Jobs.getD (r.Job - 1).toNat TJob.z).State = 2
  ·simp only [if_pos g1]
   by_cases g2 : r.Time < (s.Jobs.getD (r.Job - 1).toNat TJob.z).Until
   ·simp only [if_pos g2]; exact Ev.pure _
   ·simp only [if_neg g2]; exact Ev.pure _
  ·simp only [if_neg g1]; exact Ev.pure _
 ·simp only [if_neg g]
  exact Ev.iteF (by omega) (Ev.iteF (by decide) (Ev.pure _))
end Go.Proofs.Ytobdpbnadjkhiaa.Pure
