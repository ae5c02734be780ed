/- DocketStays, as a plain law. -/
import Derived.Test.YtobdpbnadjkhiaaTPStays
import Derived.Test.YtobdpbnadjkhiaaTDg
import Derived.Test.YtobdpbnadjkhiaaTDw
namespace Go.Proofs.Ytobdpbnadjkhiaa.Pure
open Go.WG Go.Proofs.Ytobdpbnadjkhiaa Go.Proofs.Ytobdpbnadjkhiaa.Ta
set_option linter.unusedSimpArgs false
set_option linter.unusedVariables false
/-- What a job keeps. -/
structure Keep (a b : TJob) : Prop where
  p : b.Payload = a.Payload
  at' : a.Attempt ≤ b.Attempt
  d : a.State = 3 → b.State = 3 ∧ b.Value = a.Value ∧ b.Epoch = a.Epoch
theorem Keep.refl (a : TJob) : Keep a a := ⟨rfl, Int.le_refl _, fun h => ⟨h, rfl, rfl⟩⟩
theorem keep_set {J : List TJob} {i : Nat} {x : TJob} (hi : i < J.length) (h : Keep (J.getD i TJob.z) x) : J.length ≤ (J.set i x).length ∧ ∀ q < J.length, Keep (J.getD q TJob.z) ((J.set i x).getD q TJob.z) := by
  refine ⟨by rw [List.length_set]; exact Nat.le_refl _, fun q hq => ?_⟩
  by_cases e : i = q
  · subst e; rw [getD_set_self _ _ hi]; exact h
  · rw [getD_set_other _ _ e]; exact Keep.refl _
theorem run_keep {c : TConfig} (hc : CfgOk c) {s t : TState} (hs : StOk s) (hg : Good c s) {r : TRecord} (hr : Byt r.Data) (h : runL c s r = (0, t)) :
    s.Jobs.length ≤ t.Jobs.length ∧ ∀ i < s.Jobs.length, Keep (s.Jobs.getD i TJob.z) (t.Jobs.getD i TJob.z) := by
  have same : s.Jobs = t.Jobs → s.Jobs.length ≤ t.Jobs.length ∧ ∀ i < s.Jobs.length, Keep (s.Jobs.getD i TJob.z) (t.Jobs.getD i TJob.z) := fun e => by rw [e]; exact ⟨Nat.le_refl _, fun i _ => Keep.refl _⟩
  unfold runL at h
  split at h
  · unfold epochL at h
    split at h
    · cases h
    · split at h
      · cases h
      · injection h with _ h; subst h
        refine ⟨by simp, fun i hi => ?_⟩
        have e : (s.Jobs.map runIdle).getD i TJob.z = runIdle (s.Jobs.getD i TJob.z) := by
          rw [List.getD_eq_getElem?_getD, List.getElem?_map, List.getElem?_eq_getElem hi, List.getD_eq_getElem?_getD, List.getElem?_eq_getElem hi]; rfl
        rw [e]
        unfold runIdle
        split
        · rename_i g
          exact ⟨rfl, Int.le_refl _, fun k => by rw [g] at k; cases k⟩
        · exact Keep.refl _
  split at h
  · unfold submitL at h
    split at h
    · cases h
    · split at h
      · cases h
      · injection h with _ h; subst h
        refine ⟨by simp, fun i hi => ?_⟩
        have e : ∀ x : List TJob, (s.Jobs ++ x).getD i TJob.z = s.Jobs.getD i TJob.z := fun x => by
          rw [List.getD_eq_getElem?_getD, List.getElem?_append_left hi, List.getD_eq_getElem?_getD]
        rw [e]
        exact Keep.refl _
  split at h
  · unfold assignL at h
    split at h
    · cases h
    · split at h
      · split at h
        · split at h
          · cases h
          · split at h
            · injection h with _ h; subst h
              rename_i g1 g2 _ _ _
              refine keep_set (by omega) ⟨rfl, by show _ ≤ _ + 1; omega, fun k => by rw [g2] at k; cases k⟩
            · rename_i g2; injection h with h _; exact absurd h g2
        · cases h
      · cases h
  split at h
  · unfold voteL at h
    split at h
    · rename_i g1
      have hi : (r.Job - 1).toNat < s.Jobs.length := by omega
      have hj := hs.each _ (getD_mem TJob.z hi)
      have hsd := hg.jb _ hi
      split at h
      · cases h
      · rename_i gs
        have hb : Busy c s _ := hsd.k.resolve_left fun k => gs k.s
        split at h
        · rename_i gm
          split at h
          · rename_i gc
            -- the new votes
            have hnew : ∃ v : TCast, (castV (s.Jobs.getD (r.Job - 1).toNat TJob.z).Votes ⟨r.By, r.Data⟩).1 = (s.Jobs.getD (r.Job - 1).toNat TJob.z).Votes ++ [v] ∧ (¬ ∃ d ∈ (s.Jobs.getD (r.Job - 1).toNat TJob.z).Votes, d.Worker = v.Worker) ∧ v.Worker = r.By := by
              by_cases k : 0 ≤ (⟨r.By, r.Data⟩ : TCast).Worker ∧ (⟨r.By, r.Data⟩ : TCast).Value.length ≤ 32 ∧ ¬ ∃ d ∈ (s.Jobs.getD (r.Job - 1).toNat TJob.z).Votes, d.Worker = (⟨r.By, r.Data⟩ : TCast).Worker
              · exact ⟨_, by rw [castV_ok k.1 k.2.1 k.2.2], k.2.2, rfl⟩
              · exact absurd gc (castV_no k)
            obtain ⟨v, hv, hnd, hvb⟩ := hnew
            have honce : Once ((s.Jobs.getD (r.Job - 1).toNat TJob.z).Votes ++ [v]) := by
              unfold Once
              rw [List.map_append]
              refine nodup_snoc hb.vt.once fun e => hnd ?_
              obtain ⟨d, hd, he⟩ := List.mem_map.1 e
              exact ⟨d, hd, he⟩
            have hlen : (((s.Jobs.getD (r.Job - 1).toNat TJob.z).Votes ++ [v]).length : Int) ≤ 2 * c.Faulty + 1 := by
              have := votes_len honce (W := (s.Jobs.getD (r.Job - 1).toNat TJob.z).Workers) fun x hx => by
                rcases List.mem_append.1 hx with hx | hx
                · exact (hb.vt.each x hx).2.2
                · rw [List.mem_singleton.1 hx, hvb]; exact gm
              have := hb.cr.lw
              omega
            have hstay : (s.Jobs.getD (r.Job - 1).toNat TJob.z).State = 3 → decV ((s.Jobs.getD (r.Job - 1).toNat TJob.z).Votes ++ [v]) c.Faulty = ((s.Jobs.getD (r.Job - 1).toNat TJob.z).Value, true) := fun k => by
              have hd := hb.vt.dec
              rw [decide_eq_true k] at hd
              have hd2 : dec (s.Jobs.getD (r.Job - 1).toNat TJob.z).Votes c.Faulty (s.Jobs.getD (r.Job - 1).toNat TJob.z).Votes = ((s.Jobs.getD (r.Job - 1).toNat TJob.z).Value, true) := by
                unfold decV at hd
                rwa [if_neg (by have := hc.f; omega)] at hd
              obtain ⟨_, hcnt⟩ := dec_true _ c.Faulty _ (by rw [hd2])
              rw [hd2] at hcnt
              dsimp only at hcnt
              refine decV_eq honce hc.f.1 hlen ?_
              rw [cnt_once hb.vt.once] at hcnt
              rw [cnt_once honce, List.filter_append, List.length_append]
              omega
            split at h
            · injection h with _ h; subst h
              refine keep_set hi ⟨rfl, Int.le_refl _, fun k => ⟨rfl, ?_, rfl⟩⟩
              show (decV _ _).1 = _
              rw [hv, hstay k]
            · rename_i gd
              injection h with _ h; subst h
              refine keep_set hi ⟨rfl, Int.le_refl _, fun k => absurd ?_ gd⟩
              rw [hv, hstay k]
          · rename_i g2; injection h with h _; exact absurd h g2
        · cases h
    · cases h
  split at h
  · unfold expireL at h
    split at h
    · split at h
      · split at h
        · cases h
        · injection h with _ h; subst h
          rename_i g1 g2 _ _
          exact keep_set (by omega) ⟨rfl, Int.le_refl _, fun k => by rw [g2] at k; cases k⟩
      · cases h
    · cases h
  · unfold headL at h
    split at h
    · cases h
    · split at h
      · cases h
      · injection h with _ h; subst h
        exact same rfl
theorem DocketStays (a0 : TConfig) (a1 : List TRecord) (h0 : ok23 a0) (h1 : ok24 a1) : ∃ k, juratlaw21_DocketStays.f k a0 a1 = some true := by
  refine Ev.one (f := fun k => juratlaw21_DocketStays.f k a0 a1) ?_
  unfold juratlaw21_DocketStays.f
  obtain ⟨b, hb, hV⟩ := great_f (okData h1)
  refine Ev.bind hb ?_
  cases b with
  | true => exact Ev.iteT rfl (Ev.bind awake_f (Ev.pure _))
  | false =>
    obtain ⟨h80, hd⟩ := hV rfl
    refine Ev.iteF (by simp) (Ev.bind (new_f a0) ?_)
    have hloop : Ev (fun k => juratlaw21_DocketStays.l1 k a0 a1 0 (newL a0).1) (Sum.inl ()) := by
      refine Ev.loop (n := a1.length) (F := fun k i (s : TState) => juratlaw21_DocketStays.l1 k a0 a1 (i : Int) s) (fun i s => StOk s) (fun i s hi hI => ?_) (fun s hI => ?_) _ (new_ok a0)
      · have hr := hd _ (getD_mem TRecord.z hi)
        obtain ⟨t, e, hE, hok⟩ := apply_f a0 hI hr
        simp only [juratlaw21_DocketStays.l1, Int.toNat_natCast, wi64_j (show i < 9223372036854775807 by omega), own_f hr.1, Option.bind_some]
        by_cases he : e = 0
        · obtain ⟨hc, hg, hrun⟩ := hok he
          obtain ⟨hl, hk⟩ := run_keep hc hI hg hr hrun
          refine .inr ⟨t, run_ok hc hI hg hr hrun, fun h => ?_⟩
          refine Ev.iteT (by omega) (Ev.iteT (by omega) (Ev.bind hE (Ev.iteT he (Ev.iteF (by dsimp only; omega) ?_))))
          have hl2 : Ev (fun k => juratlaw21_DocketStays.l2 k s t 0) (Sum.inl ()) := by
            have hsj := hI.jobs
            refine Ev.loop (n := s.Jobs.length) (F := fun k q (_ : Unit) => juratlaw21_DocketStays.l2 k s t (q : Int)) (fun q _ => True) (fun q _ hq _ => ?_) (fun _ _ => ?_) () trivial
            · have kp := hk q hq
              have hj := hI.each _ (getD_mem TJob.z hq)
              have s1 := same1_f (s.Jobs.getD q TJob.z).Payload (t.Jobs.getD q TJob.z).Payload (by have := hj.pay.1; omega)
              rw [decide_eq_true kp.p.symm] at s1
              have s2 := same1_f (s.Jobs.getD q TJob.z).Value (t.Jobs.getD q TJob.z).Value (by have := hj.val.1; omega)
              have ka := kp.at'
              simp only [juratlaw21_DocketStays.l2, Int.toNat_natCast, wi64_j (show q < 9223372036854775807 by omega)]
              refine .inr ⟨(), trivial, fun k => Ev.iteT (by omega) (Ev.iteT (by omega) (Ev.iteT (by omega) (Ev.bind s1 (Ev.bind (a := false) (Ev.iteT rfl (Ev.iteF (by omega) ?_)) (Ev.iteF (by simp) k)))))⟩
              by_cases g : (s.Jobs.getD q TJob.z).State = 3
              · obtain ⟨d1, d2, d3⟩ := kp.d g
                rw [decide_eq_true d2.symm] at s2
                refine Ev.iteT g (Ev.iteT d1 (Ev.bind s2 (Ev.iteT rfl ?_)))
                rw [decide_eq_true d3.symm]
                exact Ev.pure _
              · exact Ev.iteF g (Ev.pure _)
            · simp only [juratlaw21_DocketStays.l2]
              exact Ev.iteF (by omega) (Ev.pure _)
          exact Ev.bind hl2 h
        · refine .inr ⟨s, hI, fun h => ?_⟩
          exact Ev.iteT (by omega) (Ev.iteT (by omega) (Ev.bind hE (Ev.iteF he h)))
      · simp only [juratlaw21_DocketStays.l1]
        exact Ev.iteF (by omega) (Ev.pure _)
    exact Ev.bind hloop (Ev.bind awake_f (Ev.pure _))
end Go.Proofs.Ytobdpbnadjkhiaa.Pure
