/- Plain laws of the document's dockets: what a record does. -/
import Derived.Test.YtobdpbnadjkhiaaTGj
import Derived.Test.YtobdpbnadjkhiaaTPb
import Derived.Test.YtobdpbnadjkhiaaTCr
import Derived.Test.YtobdpbnadjkhiaaTDg
namespace Go.Proofs.Ytobdpbnadjkhiaa.Pure
open Go.WG Go.Proofs.Ytobdpbnadjkhiaa Go.Proofs.Ytobdpbnadjkhiaa.Ta
set_option linter.unusedSimpArgs false
set_option linter.unusedVariables false
def jobR (s : TState) (r : TRecord) : Int × Int := if 1 ≤ r.Job ∧ r.Job ≤ (s.Jobs.length : Int) then (r.Job - 1, 0) else (0, 211)
theorem refJob_f {s : TState} (hs : StOk s) (r : TRecord) (k : Nat) : juratref21_job.f k s r = some (jobR s r) := by
 unfold juratref21_job.f jobR
 have := hs.jobs
 by_cases h : 1 ≤ r.Job ∧ r.Job ≤ (s.Jobs.length : Int)
 ·rw [if_pos h, if_neg (by omega), Option.bind_some, if_neg (by rw [decide_eq_true_eq]; omega), wi64_id (by omega) (by omega)]
 ·rw [if_neg h]
  by_cases h1 : r.Job < 1
  ·rw [if_pos h1]; rfl
  ·rw [if_neg h1, Option.bind_some, if_pos (by rw [decide_eq_true_eq]; omega)]
theorem refVote_l1 (E : List TEra) (J : List TJob) (U : List Int) (b : List Bool) (h : Int) (ls : List Int) (hl : ls.length ≤ 100) (hb : ∀ w ∈ ls, 0 ≤ w ∧ w < (b.length : Int)) :
  Ev (fun k => juratref21_vote.l1 k ls 0 ⟨E, J, U, b, h⟩) (⟨E, J, U, barL b ls, h⟩ : TState) := by
 refine Ev.loop (n := ls.length) (F := fun k i (x : TState) => juratref21_vote.l1 k ls (i : Int) x) (fun i x => x = ⟨E, J, U, barL b (ls.take i), h⟩) (fun i x hi hI => ?_) (fun x hI => ?_) _ rfl
 ·subst hI
  have hw := hb _ (getD_mem 0 hi)
  refine .inr ⟨_, rfl, fun k => ?_⟩
  rw [take_succ 0 hi, barL_snoc] at k
  simp only [juratref21_vote.l1, Int.toNat_natCast, wi64_j (show i < 9223372036854775807 by omega)]
  exact Ev.iteT (by omega) (Ev.iteT (by omega) (Ev.iteT (by rw [barL_len]; exact hw) k))
 ·subst hI
  simp only [juratref21_vote.l1, List.take_length]
  exact Ev.iteF (by omega) (Ev.pure _)
theorem refVote_f {c : TConfig} (hc : CfgOk c) {s : TState} (hs : StOk s) (hg : Good c s) {r : TRecord} (hr : Byt r.Data) : Ev (fun k => juratref21_vote.f k c s r) ((voteL c s r).2, (voteL c s r).1) := by
 unfold juratref21_vote.f voteL
 simp only [refJob_f hs, Option.bind_some]
 unfold jobR
 by_cases g : 1 ≤ r.Job ∧ r.Job ≤ (s.Jobs.length : Int)
 ·simp only [if_pos g]
  refine Ev.iteT trivial (Ev.iteT (by omega) ?_)
  have hi : (r.Job - 1).toNat < s.Jobs.length := by omega
  have hj := hs.each _ (getD_mem TJob.z hi)
  have hsd := hg.jb _ hi
  generalize hi' : (r.Job - 1).toNat = i at hi hj hsd ⊢
  generalize hje : s.Jobs.getD i TJob.z = j at hj hsd ⊢
  by_cases g1 : j.State = 1
  ·simp only [if_pos g1]; exact Ev.pure _
  simp only [if_neg g1]
  have hb : Busy c s j := hsd.k.resolve_left fun k => g1 k.s
  have hlen : j.Votes.length ≤ 8 := by
   have h1 := votes_len hb.vt.once fun v hv => (hb.vt.each v hv).2.2
   have := hj.wk
   omega
  have hge := (placeL_ge r.By j.Workers 0 (by omega)).1
  refine Ev.bind (place_f j.Workers r.By (by have := hj.wk; omega)) ?_
  by_cases g2 : r.By ∈ j.Workers
  ·simp only [if_pos g2]
   refine Ev.iteF (fun e => hge.1 e g2) (Ev.bind (refCast_f hj.votes ⟨r.By, r.Data⟩) ?_)
   have hV : Votes (castV j.Votes ⟨r.By, r.Data⟩).1 := castV_byt hj.votes (by omega) hr
   have hmem : ∀ d ∈ (castV j.Votes ⟨r.By, r.Data⟩).1, d.Worker ∈ j.Workers := fun d hd => by
    rcases castV_mem hd with h | rfl
    ·exact (hb.vt.each d h).2.2
    ·exact g2
   generalize castV j.Votes ⟨r.By, r.Data⟩ = cv at hV hmem ⊢
   by_cases g3 : cv.2 = 0
   ·simp only [if_pos g3]
    refine Ev.bind (refDecide_f hV c.Faulty) ?_
    by_cases g4 : (decV cv.1 c.Faulty).2 = true
    ·simp only [if_pos g4]
     refine Ev.bind (refLiars_f hV (decV_byt hV c.Faulty).1) ?_
     have hl1 := refVote_l1 s.Eras s.Jobs s.Used s.Barred s.Heads (lies cv.1 (decV cv.1 c.Faulty).1) (by have := lies_len cv.1 (decV cv.1 c.Faulty).1; have := hV.1; omega) (fun w hw => by
      obtain ⟨d, hd, _, rfl⟩ := (lies_mem _ _ _).1 hw
      have hm := hmem d hd
      obtain ⟨q, hq, he⟩ := List.mem_iff_getElem.1 hm
      have := hb.cr.w q hq
      rw [List.getD_eq_getElem?_getD, List.getElem?_eq_getElem hq, Option.getD_some, he] at this
      have := hg.b
      omega)
     refine Ev.bind hl1 (Ev.iteT (by dsimp only; omega) ?_)
     exact Ev.pure _
    ·simp only [if_neg g4]; exact Ev.pure _
   ·simp only [if_neg g3]; exact Ev.pure _
  ·simp only [if_neg g2]
   exact Ev.iteT (hge.2 g2) (Ev.pure _)
 ·simp only [if_neg g]
  exact Ev.iteF (by decide) (Ev.pure _)
theorem refAssign_l1 (E : List TEra) (J : List TJob) (u : List Int) (b : List Bool) (h : Int) (j : TJob) (l : List Int) (hl : l.length ≤ 8) (hw : ∀ w ∈ l, 0 ≤ w ∧ w < (u.length : Int)) (hu : ∀ q, 0 ≤ u.getD q 0 ∧ u.getD q 0 ≤ 64) :
  Ev (fun k => juratref21_assign.l1 k l 0 ⟨E, J, u, b, h⟩ { j with Indexes := [] }) ((⟨E, J, (useL u l).2, b, h⟩ : TState), { j with Indexes := (useL u l).1 }) := by
 refine Ev.loop (n := l.length) (F := fun k i (x : TState × TJob) => juratref21_assign.l1 k l (i : Int) x.1 x.2) (fun i x => x = (⟨E, J, (useL u (l.take i)).2, b, h⟩, { j with Indexes := (useL u (l.take i)).1 })) (fun i x hi hI => ?_) (fun x hI => ?_) (_, _) rfl
 ·subst hI
  have hwi := hw _ (getD_mem 0 hi)
  obtain ⟨h1, h2⟩ := useL_len (l.take i) u
  have h3 := useL_le (l.take i) u (l.getD i 0).toNat
  have h4 := hu (l.getD i 0).toNat
  rw [List.length_take] at h1 h3
  refine .inr ⟨_, rfl, fun k => ?_⟩
  rw [take_succ 0 hi, useL_snoc] at k
  simp only [juratref21_assign.l1, Int.toNat_natCast, wi64_j (show i < 9223372036854775807 by omega)]
  rw [wi64_id (x := (useL u (l.take i)).2.getD (l.getD i 0).toNat 0 + 1) (by omega) (by omega)]
  exact Ev.iteT (by omega) (Ev.iteT (by omega) (Ev.iteT (by rw [h2]; exact hwi) (Ev.iteT (by rw [h1]; omega) k)))
 ·subst hI
  simp only [juratref21_assign.l1, List.take_length]
  exact Ev.iteF (by omega) (Ev.pure _)
theorem refAssign_f {c : TConfig} (hc : CfgOk c) {s : TState} (hs : StOk s) (hg : Good c s) (r : TRecord) : Ev (fun k => juratref21_assign.f k c s r) ((assignL c s r).2, (assignL c s r).1) := by
 unfold juratref21_assign.f assignL
 have hF := hc.f
 have e3 : wi64 (wi64 (2 * c.Faulty) + 1) = 2 * c.Faulty + 1 := by rw [wi64_id (x := 2 * c.Faulty) (by omega) (by omega), wi64_id (x := 2 * c.Faulty + 1) (by omega) (by omega)]
 simp only [Option.bind_some, refJob_f hs, e3]
 by_cases g0 : s.Eras.length = 0
 ·simp only [if_pos g0]; exact Ev.iteT (by omega) (Ev.pure _)
 simp only [if_neg g0]
 refine Ev.iteF (by omega) ?_
 unfold jobR
 by_cases g : 1 ≤ r.Job ∧ r.Job ≤ (s.Jobs.length : Int)
 ·simp only [if_pos g]
  refine Ev.iteT trivial (Ev.iteT (by omega) ?_)
  have hi : (r.Job - 1).toNat < s.Jobs.length := by omega
  have hsd := hg.jb _ hi
  by_cases g1 : (s.Jobs.getD (r.Job - 1).toNat TJob.z).State = 1
  ·simp only [if_pos g1]
   have hid : Idle (s.Jobs.getD (r.Job - 1).toNat TJob.z) := hsd.k.elim id fun b => absurd g1 (by rcases b.st with h | h <;> (rw [h]; decide))
   by_cases g2 : r.Time = 0
   ·simp only [if_pos g2]; exact Ev.pure _
   ·simp only [if_neg g2]
    have hp := Cr.refPick_f s.Used s.Barred (keysN c) (2 * c.Faulty + 1) (by have := hs.used; omega) (by have := hs.bar; omega)
    refine Ev.iteT hc.h.1 (Ev.bind hp ?_)
    by_cases g3 : (Cr.pickL s.Used s.Barred (keysN c) (2 * c.Faulty + 1)).2 = 0
    ·obtain ⟨m1, m2, m3⟩ := pick_mem g3
     simp only [if_pos g3]
     refine Ev.bind (refEpo_f s hs.eras) ?_
     have ea : wi64 ((s.Jobs.getD (r.Job - 1).toNat TJob.z).Attempt + 1) = (s.Jobs.getD (r.Job - 1).toNat TJob.z).Attempt + 1 := by
      have := hsd.a
      exact wi64_id (by omega) (by omega)
     rw [ea]
     have hl := refAssign_l1 s.Eras s.Jobs s.Used s.Barred s.Heads ⟨(s.Jobs.getD (r.Job - 1).toNat TJob.z).Payload, 2, (s.Jobs.getD (r.Job - 1).toNat TJob.z).Attempt + 1, lastE s, r.Time, (Cr.pickL s.Used s.Barred (keysN c) (2 * c.Faulty + 1)).1, [], [], []⟩ (Cr.pickL s.Used s.Barred (keysN c) (2 * c.Faulty + 1)).1 (by omega) (fun w hw => ⟨(m3 w hw).1, (m3 w hw).2.1⟩) (used_le hc hg)
     refine Ev.bind hl (Ev.iteT (by dsimp only; omega) ?_)
     rw [hid.v, hid.x]
     exact Ev.pure _
    ·simp only [if_neg g3]; exact Ev.pure _
  ·simp only [if_neg g1]; exact Ev.pure _
 ·simp only [if_neg g]
  exact Ev.iteF (by decide) (Ev.pure _)
theorem refExpire_f {s : TState} (hs : StOk s) (r : TRecord) : Ev (fun k => juratref21_expire.f k s r) ((expireL s r).2, (expireL s r).1) := by
 unfold juratref21_expire.f expireL
 simp only [refJob_f hs, Option.bind_some]
 unfold jobR
 by_cases g : 1 ≤ r.Job ∧ r.Job ≤ (s.Jobs.length : Int)
 ·simp only [if_pos g]
  refine Ev.iteT trivial (Ev.iteT (by omega) ?_)
  by_cases g1 : (s.Jobs.getD (r.Job - 1).toNat TJob.z).State = 2
  ·simp only [if_pos g1]
   by_cases g2 : r.Time < (s.Jobs.getD (r.Job - 1).toNat TJob.z).Until
   ·simp only [if_pos g2]; exact Ev.pure _
   ·simp only [if_neg g2]; exact Ev.pure _
  ·simp only [if_neg g1]; exact Ev.pure _
 ·simp only [if_neg g]
  exact Ev.iteF (by decide) (Ev.pure _)
theorem does_l1 (s : TState) (h2 : s.Jobs.length ≤ 100) (E : List TEra) : Ev (fun k => juratref21_does.l1 k 0 ⟨E, s.Jobs, s.Used, s.Barred, s.Heads⟩) (⟨E, s.Jobs.map runIdle, s.Used, s.Barred, s.Heads⟩ : TState) := by
 refine Ev.loop (n := s.Jobs.length) (F := fun k i (x : TState) => juratref21_does.l1 k (i : Int) x) (fun i x => x = ⟨E, (s.Jobs.take i).map runIdle ++ s.Jobs.drop i, s.Used, s.Barred, s.Heads⟩) (fun i x hi hI => ?_) (fun x hI => ?_) _ (by simp)
 ·subst hI
  have hl : ((s.Jobs.take i).map runIdle ++ s.Jobs.drop i).length = s.Jobs.length := by rw [List.length_append, List.length_map, List.length_take, List.length_drop]; omega
  simp only [juratref21_does.l1, Int.toNat_natCast, wi64_j (show i < 9223372036854775807 by omega), Option.bind_some, get_mid runIdle s.Jobs TJob.z hi]
  have hset := set_mid runIdle s.Jobs TJob.z hi
  by_cases g : (s.Jobs.getD i TJob.z).State = 2
  ·refine .inr ⟨_, rfl, fun h => ?_⟩
   rw [← hset, show runIdle (s.Jobs.getD i TJob.z) = idle (s.Jobs.getD i TJob.z) from by unfold runIdle; rw [if_pos g]] at h
   exact Ev.iteT (by rw [hl]; omega) (Ev.iteT (by rw [hl]; omega) (Ev.iteT g h))
  ·refine .inr ⟨_, rfl, fun h => ?_⟩
   have e : (s.Jobs.take (i + 1)).map runIdle ++ s.Jobs.drop (i + 1) = (s.Jobs.take i).map runIdle ++ s.Jobs.drop i := by
    rw [take_succ TJob.z hi, drop_cons TJob.z hi, List.map_append, List.append_assoc]
    have : runIdle (s.Jobs.getD i TJob.z) = s.Jobs.getD i TJob.z := by unfold runIdle; rw [if_neg g]
    rw [List.map_singleton, this]; rfl
   rw [e] at h
   exact Ev.iteT (by rw [hl]; omega) (Ev.iteT (by rw [hl]; omega) (Ev.iteF g h))
 ·subst hI
  simp only [juratref21_does.l1, List.take_length, List.drop_length, List.append_nil, List.length_map]
  exact Ev.iteF (by omega) (Ev.pure _)
theorem does_f {c : TConfig} (hc : CfgOk c) {s : TState} (hs : StOk s) (hg : Good c s) {r : TRecord} (hr : Byt r.Data) (hm : MayOk r) : Ev (fun k => juratref21_does.f k c s r) ((runL c s r).2, (runL c s r).1) := by
 unfold juratref21_does.f runL
 have h1 := hs.eras; have h2 := hs.jobs
 have z0 : ((s.Eras.length : Int) = 0) = (s.Eras.length = 0) := propext (by omega)
 simp only [z0]
 by_cases k1 : r.Kind = 1
 ·simp only [if_pos k1]
  unfold epochL
  refine Ev.bind (refEpo_f s h1) ?_
  by_cases g1 : r.Epoch ≤ lastE s
  ·rw [if_pos g1]; exact Ev.iteT g1 (Ev.pure _)
  rw [if_neg g1]
  refine Ev.iteF g1 ?_
  by_cases g2 : s.Eras.length ≥ 256
  ·rw [if_pos g2]; exact Ev.iteT (show (s.Eras.length : Int) ≥ 256 by omega) (Ev.pure _)
  rw [if_neg g2]
  exact Ev.iteF (by omega) (Ev.iteT (by omega) (Ev.bind (does_l1 s h2 _) (Ev.pure _)))
 simp only [if_neg k1]
 by_cases k2 : r.Kind = 2
 ·simp only [if_pos k2]
  unfold submitL
  have := hr.1
  by_cases g1 : s.Eras.length = 0
  ·simp only [if_pos g1]; exact Ev.pure _
  simp only [if_neg g1]
  by_cases g2 : (s.Jobs.length : Int) ≥ c.Jobs
  ·simp only [if_pos g2]; exact Ev.pure _
  simp only [if_neg g2]
  exact Ev.iteT (by omega) (Ev.iteT (by omega) (Ev.pure _))
 simp only [if_neg k2]
 by_cases k3 : r.Kind = 3
 ·simp only [if_pos k3]; exact Ev.bind (refAssign_f hc hs hg r) (Ev.pure _)
 simp only [if_neg k3]
 by_cases k4 : r.Kind = 4
 ·simp only [if_pos k4]; exact Ev.bind (refVote_f hc hs hg hr) (Ev.pure _)
 simp only [if_neg k4]
 by_cases k5 : r.Kind = 5
 ·simp only [if_pos k5]; exact Ev.bind (refExpire_f hs r) (Ev.pure _)
 simp only [if_neg k5]
 have k6 : r.Kind = 6 := by unfold MayOk at hm; omega
 have h3 := shl_le hc.hd; have hh := hg.h
 simp only [if_pos k6]
 unfold headL
 by_cases g1 : s.Eras.length = 0
 ·simp only [if_pos g1]; exact Ev.pure _
 simp only [if_neg g1]
 by_cases g2 : s.Heads = shlOp .i64 1 c.Heads
 ·simp only [if_pos g2]; exact Ev.iteT hc.hd.1 (Ev.pure _)
 simp only [if_neg g2, wi64_id (x := s.Heads + 1) (by omega) (by omega)]
 exact Ev.iteT hc.hd.1 (Ev.pure _)
theorem none_ok : StOk none_ := ⟨by simp [none_], by simp [none_], by simp [none_], by simp [none_], by simp [none_]⟩
/-- The document's and the program's, of one state. -/
theorem both_f (c : TConfig) {s : TState} (hs : StOk s) {r : TRecord} (hr : Byt r.Data) :
  ∃ t e, Ev (fun k => docket_Apply.f k c s r) (t, e) ∧ Ev (fun k => juratref21_Apply.f k c s r) (t, e) ∧ StOk t := by
 unfold docket_Apply.f juratref21_Apply.f
 have hck := check_f c
 have hm := mayIs_f r
 simp only [refRight_f, refMay_f, Option.bind_some]
 by_cases hc : CfgOk c
 ·rw [if_pos hc] at hck
  have hrt := right_f hc hs
  have hrs := stateMay_f hc hs
  by_cases hg : Good c s
  ·rw [B_t hg] at hrt hrs
   by_cases hmo : MayOk r
   ·rw [decide_eq_true hmo] at hm ⊢
    have hrun : Ev (fun k => (docket_what.f k r.Kind).bind fun b => if b = 37 then ((docket_work_epoch.f k (⟨c, s⟩ : Twork) r).bind fun ⟨h, i⟩ => some (h, i)) else (if b = 38 then ((docket_work_submit.f k (⟨c, s⟩ : Twork) r).bind fun ⟨j, l⟩ => some (j, l)) else (if b = 39 then ((docket_work_assign.f k (⟨c, s⟩ : Twork) r).bind fun ⟨m, o⟩ => some (m, o)) else (if b = 40 then ((docket_work_vote.f k (⟨c, s⟩ : Twork) r).bind fun ⟨p, r⟩ => some (p, r)) else (if b = 41 then ((docket_work_expire.f k (⟨c, s⟩ : Twork) r).bind fun ⟨s, t⟩ => some (s, t)) else (if b = 42 then ((docket_work_head.f k (⟨c, s⟩ : Twork) r).bind fun ⟨u, v⟩ => some (u, v)) else (if False then (none) else none))))))) ((runL c s r).1, (⟨c, (runL c s r).2⟩ : Twork)) := by
     unfold docket_what.f runL
     by_cases k1 : r.Kind = 1
     ·simp only [if_pos k1, Option.bind_some]; exact Ev.iteT trivial (Ev.bind (epoch_f c hs r) (Ev.pure _))
     simp only [if_neg k1]
     by_cases k2 : r.Kind = 2
     ·simp only [if_pos k2, Option.bind_some]; exact Ev.iteF (by decide) (Ev.iteT trivial (Ev.bind (submit_f c hs hr.1) (Ev.pure _)))
     simp only [if_neg k2]
     by_cases k3 : r.Kind = 3
     ·simp only [if_pos k3, Option.bind_some]; exact Ev.iteF (by decide) (Ev.iteF (by decide) (Ev.iteT trivial (Ev.bind (assign_f hc hs hg r) (Ev.pure _))))
     simp only [if_neg k3]
     by_cases k4 : r.Kind = 4
     ·simp only [if_pos k4, Option.bind_some]; exact Ev.iteF (by decide) (Ev.iteF (by decide) (Ev.iteF (by decide) (Ev.iteT trivial (Ev.bind (vote_f hc hs hg hr) (Ev.pure _)))))
     simp only [if_neg k4]
     by_cases k5 : r.Kind = 5
     ·simp only [if_pos k5, Option.bind_some]; exact Ev.iteF (by decide) (Ev.iteF (by decide) (Ev.iteF (by decide) (Ev.iteF (by decide) (Ev.iteT trivial (Ev.bind (expire_f c hs r) (Ev.pure _))))))
     simp only [if_neg k5, Option.bind_some]
     exact Ev.iteF (by decide) (Ev.iteF (by decide) (Ev.iteF (by decide) (Ev.iteF (by decide) (Ev.iteF (by decide) (Ev.iteT trivial (Ev.bind (head_f hc hg.h r) (Ev.pure _)))))))
    have hdo := does_f hc hs hg hr hmo
    by_cases he : (runL c s r).1 = 0
    ·refine ⟨(runL c s r).2, 0, ?_, ?_, run_ok hc hs hg hr (Prod.ext he rfl)⟩
     ·exact Ev.bind (a := false) (Ev.bind hck (Ev.iteT rfl (Ev.bind hrt (Ev.iteT rfl (Ev.bind hm (Ev.pure _)))))) (Ev.iteF (by simp) (Ev.bind (clone_f hs) (Ev.bind hrun (Ev.iteT he (Ev.pure _)))))
     ·exact Ev.bind (a := false) (Ev.iteT (decide_eq_true hc) (Ev.bind hrs (Ev.iteT rfl (Ev.pure _)))) (Ev.iteF (by simp) (Ev.bind (copyS_f hs) (Ev.bind hdo (Ev.iteT he (Ev.pure _)))))
    ·refine ⟨none_, (runL c s r).1, ?_, ?_, none_ok⟩
     ·exact Ev.bind (a := false) (Ev.bind hck (Ev.iteT rfl (Ev.bind hrt (Ev.iteT rfl (Ev.bind hm (Ev.pure _)))))) (Ev.iteF (by simp) (Ev.bind (clone_f hs) (Ev.bind hrun (Ev.iteF he (Ev.pure _)))))
     ·exact Ev.bind (a := false) (Ev.iteT (decide_eq_true hc) (Ev.bind hrs (Ev.iteT rfl (Ev.pure _)))) (Ev.iteF (by simp) (Ev.bind (copyS_f hs) (Ev.bind hdo (Ev.iteF he (Ev.pure _)))))
   ·rw [decide_eq_false hmo] at hm ⊢
    refine ⟨none_, 1, ?_, ?_, none_ok⟩
    ·exact Ev.bind (a := true) (Ev.bind hck (Ev.iteT rfl (Ev.bind hrt (Ev.iteT rfl (Ev.bind hm (Ev.pure _)))))) (Ev.iteT rfl (Ev.pure _))
    ·exact Ev.bind (a := true) (Ev.iteT (decide_eq_true hc) (Ev.bind hrs (Ev.iteT rfl (Ev.pure _)))) (Ev.iteT rfl (Ev.pure _))
  ·rw [B_f hg] at hrt hrs
   refine ⟨none_, 1, ?_, ?_, none_ok⟩
   ·exact Ev.bind (a := true) (Ev.bind hck (Ev.iteT rfl (Ev.bind hrt (Ev.iteF (by simp) (Ev.pure _))))) (Ev.iteT rfl (Ev.pure _))
   ·exact Ev.bind (a := true) (Ev.iteT (decide_eq_true hc) (Ev.bind hrs (Ev.iteF (by simp) (Ev.pure _)))) (Ev.iteT rfl (Ev.pure _))
 ·rw [if_neg hc] at hck
  refine ⟨none_, 1, ?_, ?_, none_ok⟩
  ·exact Ev.bind (a := true) (Ev.bind hck (Ev.iteF (by decide) (Ev.pure _))) (Ev.iteT rfl (Ev.pure _))
  ·exact Ev.bind (a := true) (Ev.iteF (by simpa using hc) (Ev.pure _)) (Ev.iteT rfl (Ev.pure _))
end Go.Proofs.Ytobdpbnadjkhiaa.Pure
