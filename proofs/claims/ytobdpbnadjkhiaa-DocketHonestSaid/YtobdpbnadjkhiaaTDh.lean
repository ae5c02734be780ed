/- Plain laws of dockets: who is not faulty votes for right values alone. -/
import Derived.Test.YtobdpbnadjkhiaaTDg
namespace Go.Proofs.Ytobdpbnadjkhiaa.Pure
open Go.WG Go.Proofs.Ytobdpbnadjkhiaa Go.Proofs.Ytobdpbnadjkhiaa.Ta
set_option linter.unusedSimpArgs false
set_option linter.unusedVariables false
/-- A loop, its answer not told ahead. -/
theorem loopE {σ ρ : Type} {n : Nat} {F : Nat → Nat → σ → Option ρ} (Inv : Nat → σ → Prop) (R : ρ → Prop)
    (hs : ∀ j s, j < n → Inv j s → (∃ r, Ev (fun k => F (k + 1) j s) r ∧ R r) ∨ ∃ s', Inv (j + 1) s' ∧ ∀ r, Ev (fun k => F k (j + 1) s') r → Ev (fun k => F (k + 1) j s) r)
    (he : ∀ s, Inv n s → ∃ r, Ev (fun k => F (k + 1) n s) r ∧ R r) : ∀ s, Inv 0 s → ∃ r, Ev (fun k => F k 0 s) r ∧ R r := by
  have key : ∀ m j s, n - j = m → j ≤ n → Inv j s → ∃ r, Ev (fun k => F k j s) r ∧ R r := by
    intro m
    induction m with
    | zero =>
      intro j s hm hj hI
      obtain rfl : j = n := by omega
      obtain ⟨r, h, hr⟩ := he s hI
      exact ⟨r, Ev.succ (f := fun k => F k j s) h, hr⟩
    | succ m ih =>
      intro j s hm hj hI
      rcases hs j s (by omega) hI with ⟨r, h, hr⟩ | ⟨s', hI', h⟩
      · exact ⟨r, Ev.succ (f := fun k => F k j s) h, hr⟩
      · obtain ⟨r, k, hr⟩ := ih (j + 1) s' (by omega) (by omega) hI'
        exact ⟨r, Ev.succ (f := fun k => F k j s) (h r k), hr⟩
  exact fun s hI => key n 0 s rfl (Nat.zero_le _) hI
/-- A job's right value. -/
def rightV (p : List Int) : List Int := 114 :: p.take 20
theorem rightV_byt {p : List Int} (h : Byt p) : Byt (rightV p) := by
  refine ⟨by simp only [rightV, List.length_cons, List.length_take]; omega, fun x hx => ?_⟩
  rcases List.mem_cons.1 hx with rfl | hx
  · decide
  · exact h.2 x (List.mem_of_mem_take hx)
/-- These are faulty, and no more than f. -/
structure Few (fa : List Bool) (f : Int) : Prop where
  t : ∃ T : List Int, (T.length : Int) ≤ f ∧ ∀ i : Nat, fa.getD i false = true → (i : Int) ∈ T
/-- What is right of a job. -/
structure JobFair (fa : List Bool) (j : TJob) : Prop where
  vt : ∀ v ∈ j.Votes, fa.getD v.Worker.toNat false = false → v.Value = rightV j.Payload
  dc : j.State = 3 → j.Value = rightV j.Payload
structure Fair (fa : List Bool) (s : TState) : Prop where
  jb : ∀ j ∈ s.Jobs, JobFair fa j
  bar : ∀ i : Nat, s.Barred.getD i false = true → fa.getD i false = true
theorem idle_fair (fa : List Bool) (j : TJob) : JobFair fa (idle j) := ⟨fun v hv => (by cases hv), fun h => (by cases h)⟩
theorem set_fair {fa : List Bool} {J : List TJob} {i : Nat} {x : TJob} (h : ∀ j ∈ J, JobFair fa j) (hx : JobFair fa x) : ∀ j ∈ J.set i x, JobFair fa j := fun j hj => (List.mem_or_eq_of_mem_set hj).elim (h j) fun e => e ▸ hx
theorem barL_at : ∀ (ls : List Int) (b : List Bool) (i : Nat), (barL b ls).getD i false = true → b.getD i false = true ∨ ∃ w ∈ ls, w.toNat = i
  | [], _, _, h => .inl h
  | w :: r, b, i, h => by
    rcases barL_at r _ i h with h | ⟨x, hx, e⟩
    · by_cases e : w.toNat = i
      · exact .inr ⟨w, by simp, e⟩
      · rw [getD_set_other _ _ e] at h; exact .inl h
    · exact .inr ⟨x, List.mem_cons_of_mem _ hx, e⟩
/-- What more than f voted for is right. -/
theorem dec_right {fa : List Bool} {f : Int} (hF : Few fa f) {l : List TCast} (h1 : Once l) {p v : List Int} (hw : ∀ c ∈ l, 0 ≤ c.Worker)
    (hv : ∀ c ∈ l, fa.getD c.Worker.toNat false = false → c.Value = rightV p) (hc : (cnt l v : Int) > f) : v = rightV p := by
  by_cases k : ∃ c ∈ l, c.Value = v ∧ fa.getD c.Worker.toNat false = false
  · obtain ⟨c, hm, e, hf⟩ := k
    rw [← e]; exact hv c hm hf
  · obtain ⟨T, hT, hi⟩ := hF.t
    rw [cnt_once h1] at hc
    have := nodup_len (W := T) (nodup_map_filter (fun c => decide (c.Value = v)) h1) fun x hx => by
      obtain ⟨c, hm, rfl⟩ := List.mem_map.1 hx
      obtain ⟨hm, he⟩ := List.mem_filter.1 hm
      have ht : fa.getD c.Worker.toNat false = true := by
        cases g : fa.getD c.Worker.toNat false with
        | true => rfl
        | false => exact absurd ⟨c, hm, of_decide_eq_true he, g⟩ k
      have := hi _ ht
      rwa [Int.toNat_of_nonneg (hw c hm)] at this
    rw [List.length_map] at this
    omega
theorem run_fair {c : TConfig} (hc : CfgOk c) {fa : List Bool} (hF : Few fa c.Faulty) {s t : TState} (hs : StOk s) (hg : Good c s) {r : TRecord} (hr : Byt r.Data) (hf : Fair fa s)
    (hv : r.Kind = 4 → 0 ≤ r.By → r.By < c.Workers → fa.getD r.By.toNat false = false → 1 ≤ r.Job → r.Job ≤ (s.Jobs.length : Int) → r.Data = rightV (s.Jobs.getD (r.Job - 1).toNat TJob.z).Payload)
    (h : runL c s r = (0, t)) : Fair fa t := by
  unfold runL at h
  split at h
  · unfold epochL at h
    split at h
    · cases h
    · split at h
      · cases h
      · injection h with _ h; subst h
        refine ⟨fun j hj => ?_, hf.bar⟩
        obtain ⟨x, hx, rfl⟩ := List.mem_map.1 hj
        unfold runIdle
        split
        · exact idle_fair fa x
        · exact hf.jb x hx
  split at h
  · unfold submitL at h
    split at h
    · cases h
    · split at h
      · cases h
      · injection h with _ h; subst h
        refine ⟨fun j hj => ?_, hf.bar⟩
        rcases List.mem_append.1 hj with hj | hj
        · exact hf.jb j hj
        · rw [List.mem_singleton.1 hj]
          exact ⟨fun v hv => (by cases hv), fun k => (by cases k)⟩
  split at h
  · unfold assignL at h
    split at h
    · cases h
    · split at h
      · split at h
        · split at h
          · cases h
          · split at h
            · injection h with _ h; subst h
              rename_i g1 _ _ _ _
              have hi : (r.Job - 1).toNat < s.Jobs.length := by omega
              exact ⟨set_fair hf.jb ⟨(hf.jb _ (getD_mem TJob.z hi)).vt, fun k => (by cases k)⟩, hf.bar⟩
            · rename_i g2; injection h with h _; exact absurd h g2
        · cases h
      · cases h
  split at h
  · rename_i g4
    unfold voteL at h
    split at h
    · rename_i g1
      have hi : (r.Job - 1).toNat < s.Jobs.length := by omega
      have hsd := hg.jb _ hi
      have hjf := hf.jb _ (getD_mem TJob.z hi)
      have hv := fun a b d => hv g4 a b d g1.1 g1.2
      generalize hi' : (r.Job - 1).toNat = i at hi hsd hjf hv h
      generalize hje : s.Jobs.getD i TJob.z = j at hsd hjf hv h
      split at h
      · cases h
      · rename_i gs
        have hb : Busy c s j := hsd.k.resolve_left fun k => gs k.s
        have hw0 : ∀ w ∈ j.Workers, 0 ≤ w ∧ w < c.Workers := fun w hw => by
          obtain ⟨q, hq, he⟩ := List.mem_iff_getElem.1 hw
          have := hb.cr.w q hq
          rw [List.getD_eq_getElem?_getD, List.getElem?_eq_getElem hq, Option.getD_some, he] at this
          omega
        split at h
        · rename_i gm
          split at h
          · rename_i gc
            have hnew : (castV j.Votes ⟨r.By, r.Data⟩).1 = j.Votes ++ [⟨r.By, r.Data⟩] ∧ ¬ ∃ d ∈ j.Votes, d.Worker = r.By := by
              by_cases k : 0 ≤ (⟨r.By, r.Data⟩ : TCast).Worker ∧ (⟨r.By, r.Data⟩ : TCast).Value.length ≤ 32 ∧ ¬ ∃ d ∈ j.Votes, d.Worker = (⟨r.By, r.Data⟩ : TCast).Worker
              · exact ⟨by rw [castV_ok k.1 k.2.1 k.2.2], k.2.2⟩
              · exact absurd gc (castV_no k)
            obtain ⟨hve, hnd⟩ := hnew
            have hby := hw0 _ gm
            have honce : Once (j.Votes ++ [⟨r.By, r.Data⟩]) := by
              unfold Once
              rw [List.map_append]
              refine nodup_snoc hb.vt.once fun e => hnd ?_
              obtain ⟨d, hd, he⟩ := List.mem_map.1 e
              exact ⟨d, hd, he⟩
            have hright : ∀ d ∈ j.Votes ++ [⟨r.By, r.Data⟩], fa.getD d.Worker.toNat false = false → d.Value = rightV j.Payload := fun d hd hfa => by
              rcases List.mem_append.1 hd with hd | hd
              · exact hjf.vt d hd hfa
              · have e := List.mem_singleton.1 hd
                subst e
                exact hv hby.1 hby.2 hfa
            have hwk : ∀ d ∈ j.Votes ++ [⟨r.By, r.Data⟩], 0 ≤ d.Worker := fun d hd => by
              rcases List.mem_append.1 hd with hd | hd
              · exact (hb.vt.each d hd).1
              · rw [List.mem_singleton.1 hd]; exact hby.1
            rw [hve] at h
            split at h
            · rename_i gd
              injection h with _ h; subst h
              have hdec : (decV (j.Votes ++ [⟨r.By, r.Data⟩]) c.Faulty).1 = rightV j.Payload := by
                unfold decV at gd ⊢
                have hf0 := hc.f
                rw [if_neg (by omega)] at gd ⊢
                exact dec_right hF honce hwk hright (dec_true _ _ _ gd).2
              refine ⟨set_fair hf.jb ⟨hright, fun _ => hdec⟩, fun i hi => ?_⟩
              rcases barL_at _ _ _ hi with hi | ⟨w, hm, e⟩
              · exact hf.bar i hi
              · obtain ⟨d, hd, hne, hdw⟩ := (lies_mem _ _ _).1 hm
                rw [hdec] at hne
                cases hfa : fa.getD i false with
                | true => rfl
                | false =>
                  rw [← e, ← hdw] at hfa
                  exact absurd (hright d hd hfa) hne
            · injection h with _ h; subst h
              exact ⟨set_fair hf.jb ⟨hright, hjf.dc⟩, hf.bar⟩
          · rename_i g2; injection h with h _; exact absurd h g2
        · cases h
    · cases h
  split at h
  · unfold expireL at h
    split at h
    · split at h
      · split at h
        · cases h
        · injection h with _ h; subst h
          exact ⟨set_fair hf.jb (idle_fair fa _), hf.bar⟩
      · cases h
    · cases h
  · unfold headL at h
    split at h
    · cases h
    · split at h
      · cases h
      · injection h with _ h; subst h
        exact ⟨hf.jb, hf.bar⟩
/-- As many may be barred as before. -/
theorem run_bar {c : TConfig} {s t : TState} {r : TRecord} (h : runL c s r = (0, t)) : t.Barred.length = s.Barred.length := by
  unfold runL at h
  split at h
  · unfold epochL at h
    split at h
    · cases h
    · split at h
      · cases h
      · injection h with _ h; subst h; rfl
  split at h
  · unfold submitL at h
    split at h
    · cases h
    · split at h
      · cases h
      · injection h with _ h; subst h; rfl
  split at h
  · unfold assignL at h
    split at h
    · cases h
    · split at h
      · split at h
        · split at h
          · cases h
          · split at h
            · injection h with _ h; subst h; rfl
            · rename_i g2; injection h with h _; exact absurd h g2
        · cases h
      · cases h
  split at h
  · unfold voteL at h
    split at h
    · split at h
      · cases h
      · split at h
        · split at h
          · split at h
            · injection h with _ h; subst h; exact barL_len _ _
            · injection h with _ h; subst h; rfl
          · rename_i g2; injection h with h _; exact absurd h g2
        · cases h
    · cases h
  split at h
  · unfold expireL at h
    split at h
    · split at h
      · split at h
        · cases h
        · injection h with _ h; subst h; rfl
      · cases h
    · cases h
  · unfold headL at h
    split at h
    · cases h
    · split at h
      · cases h
      · injection h with _ h; subst h; rfl
end Go.Proofs.Ytobdpbnadjkhiaa.Pure
