/- DocketHonest, as a plain law. -/
import Derived.Test.YtobdpbnadjkhiaaTPHonest
import Derived.Test.YtobdpbnadjkhiaaTDh
import Derived.Test.YtobdpbnadjkhiaaTDw
namespace Go.Proofs.Ytobdpbnadjkhiaa.Pure
open Go.WG Go.Proofs.Ytobdpbnadjkhiaa Go.Proofs.Ytobdpbnadjkhiaa.Ta
set_option linter.unusedSimpArgs false
set_option linter.unusedVariables false
theorem refRight_f (c : TConfig) (hw : 0 ≤ c.Faulty → c.Faulty ≤ 2 → wi64 (wi64 (2 * c.Faulty) + 1) = 2 * c.Faulty + 1) (k : Nat) : juratref21_Right.f k c = some (decide (CfgOk c)) := by
  unfold juratref21_Right.f
  simp only [juratref21_in.f, Option.bind_some, Bool.and_eq_true, decide_eq_true_eq, ge_iff_le]
  by_cases h1 : 0 ≤ c.Faulty ∧ c.Faulty ≤ 2
  · rw [if_pos h1, hw h1.1 h1.2]
    by_cases h2 : 2 * c.Faulty + 1 ≤ c.Workers ∧ c.Workers ≤ 8
    · rw [if_pos h2]
      by_cases h3 : 0 ≤ c.Height ∧ c.Height ≤ 6
      · rw [if_pos h3]
        by_cases h4 : 0 ≤ c.Heads ∧ c.Heads ≤ 6
        · rw [if_pos h4]
          by_cases h5 : 1 ≤ c.Bits ∧ c.Bits ≤ 256
          · rw [if_pos h5]
            by_cases h6 : 1 ≤ c.Jobs ∧ c.Jobs ≤ 64
            · rw [if_pos h6, Option.bind_some]
              by_cases h7 : 1 ≤ c.Term ∧ c.Term ≤ 10000
              · rw [decide_eq_true h7.1, decide_eq_true h7.2, decide_eq_true (show CfgOk c from ⟨h1, h2, h3, h4, h5, h6, h7⟩)]; rfl
              · rw [decide_eq_false (fun k : CfgOk c => h7 k.t), ← Bool.decide_and, decide_eq_false h7]
            · rw [if_neg h6, Option.bind_some, decide_eq_false (fun k : CfgOk c => h6 k.j)]
          · rw [if_neg h5, Option.bind_some, decide_eq_false (fun k : CfgOk c => h5 k.b)]
        · rw [if_neg h4, Option.bind_some, decide_eq_false (fun k : CfgOk c => h4 k.hd)]
      · rw [if_neg h3, Option.bind_some, decide_eq_false (fun k : CfgOk c => h3 k.h)]
    · rw [if_neg h2, Option.bind_some, decide_eq_false (fun k : CfgOk c => h2 k.w)]
  · rw [if_neg h1, Option.bind_some, decide_eq_false (fun k : CfgOk c => h1 k.f)]
theorem right_v {p : List Int} (h : p.length ≤ 200) (k : Nat) : juratlaw21_right.f k p = some (rightV p) := by
  unfold juratlaw21_right.f
  by_cases g : 20 < (p.length : Int)
  · rw [if_pos g, if_pos (by omega), if_pos (by simp only [List.length_cons, List.length_nil, List.length_take]; omega)]; rfl
  · rw [if_neg g, if_pos (by omega), if_pos (by simp only [List.length_cons, List.length_nil, List.length_take]; omega), Int.toNat_natCast, List.take_length]
    unfold rightV
    rw [List.take_of_length_le (by omega)]; rfl
/-- Who is faulty. -/
theorem faulty_f {c : TConfig} (hc : CfgOk c) (bad : List Bool) : ∃ fa, Ev (fun k => juratlaw21_DocketHonest.l1 k c bad (List.replicate c.Workers.toNat false) c.Faulty 0) fa ∧ (fa.length : Int) = c.Workers ∧ Few fa c.Faulty := by
  have hF := hc.f; have hW := hc.w
  refine loopE (n := min c.Workers.toNat bad.length) (F := fun k i (s : List Bool × Int) => juratlaw21_DocketHonest.l1 k c bad s.1 s.2 (i : Int))
    (fun i s => (s.1.length : Int) = c.Workers ∧ 0 ≤ s.2 ∧ s.2 ≤ 2 ∧ ∃ T : List Int, (T.length : Int) + s.2 = c.Faulty ∧ ∀ i : Nat, s.1.getD i false = true → (i : Int) ∈ T)
    (fun fa => (fa.length : Int) = c.Workers ∧ Few fa c.Faulty) (fun i s hi hI => ?_) (fun s hI => ?_) (_, _) ⟨by simp; omega, hF.1, hF.2, [], by simp, fun i h => ?_⟩
  · obtain ⟨h1, h2, h2', T, h3, h4⟩ := hI
    simp only [juratlaw21_DocketHonest.l1, Int.toNat_natCast, wi64_j (show i < 9223372036854775807 by omega)]
    by_cases g : ((bad.getD i false) && (decide (s.2 > 0))) = true
    · have gp : s.2 > 0 := by
        rw [Bool.and_eq_true] at g
        exact of_decide_eq_true g.2
      refine .inr ⟨(s.1.set i true, s.2 - 1), ⟨by rw [List.length_set]; exact h1, by dsimp only; omega, by dsimp only; omega, (i : Int) :: T, by rw [List.length_cons]; dsimp only; omega, fun q hq => ?_⟩, fun r h => ?_⟩
      · by_cases e : i = q
        · subst e; simp
        · dsimp only at hq; rw [getD_set_other _ _ e] at hq; exact List.mem_cons_of_mem _ (h4 q hq)
      · rw [wi64_id (x := s.2 - 1) (by omega) (by omega)]
        refine Ev.bind (a := true) (Ev.iteT (by omega) ?_) (Ev.iteT rfl (Ev.iteT (by omega) (Ev.iteT g (Ev.iteT (by omega) h))))
        rw [decide_eq_true (by omega)]; exact Ev.pure _
    · refine .inr ⟨s, ⟨h1, h2, h2', T, h3, h4⟩, fun r h => ?_⟩
      refine Ev.bind (a := true) (Ev.iteT (by omega) ?_) (Ev.iteT rfl (Ev.iteT (by omega) (Ev.iteF g h)))
      rw [decide_eq_true (by omega)]; exact Ev.pure _
  · obtain ⟨h1, h2, h2', T, h3, h4⟩ := hI
    refine ⟨s.1, ?_, h1, ⟨T, by omega, h4⟩⟩
    simp only [juratlaw21_DocketHonest.l1]
    by_cases g : ((min c.Workers.toNat bad.length : Nat) : Int) < c.Workers
    · refine Ev.bind (a := false) (Ev.iteT g ?_) (Ev.iteF (by simp) (Ev.pure _))
      rw [decide_eq_false (by omega)]; exact Ev.pure _
    · exact Ev.bind (a := false) (Ev.iteF g (Ev.pure _)) (Ev.iteF (by simp) (Ev.pure _))
  · exfalso
    rw [List.getD_eq_getElem?_getD, List.getElem?_replicate] at h
    split at h <;> cases h
/-- All records. -/
theorem honest_l2 {c : TConfig} (hc : CfgOk c) {a1 : List TRecord} (h80 : a1.length ≤ 80) (hd : ∀ r ∈ a1, Byt r.Data) {fa : List Bool} (hfl : (fa.length : Int) = c.Workers) (hF : Few fa c.Faulty) :
    ∃ t, Ev (fun k => juratlaw21_DocketHonest.l2 k c a1 fa 0 (newL c).1) t ∧ StOk t ∧ (t.Barred.length : Int) = c.Workers ∧ Fair fa t := by
  refine loopE (n := a1.length) (F := fun k i (s : TState) => juratlaw21_DocketHonest.l2 k c a1 fa (i : Int) s) (fun i s => StOk s ∧ (s.Barred.length : Int) = c.Workers ∧ Fair fa s) (fun t => StOk t ∧ (t.Barred.length : Int) = c.Workers ∧ Fair fa t) (fun i s hi hI => ?_) (fun s hI => ?_) _ ⟨new_ok c, ?_, ?_⟩
  · obtain ⟨hS, hB, hf⟩ := hI
    have hr := hd _ (getD_mem TRecord.z hi)
    have hjobs := hS.jobs
    have hrec : ∃ x, Ev (fun k => (if (a1.getD i TRecord.z).Kind = 4 then (if (a1.getD i TRecord.z).By ≥ 0 then (if (a1.getD i TRecord.z).By < c.Workers then (if 0 ≤ (a1.getD i TRecord.z).By ∧ (a1.getD i TRecord.z).By < (fa.length : Int) then (if (fa.getD (a1.getD i TRecord.z).By.toNat false) = true then (some (false)) else (if (a1.getD i TRecord.z).Job ≥ 1 then (some (decide ((a1.getD i TRecord.z).Job ≤ (s.Jobs.length : Int)))) else (some (false)))) else none) else (some (false))) else (some (false))) else (some (false))).bind fun g2302 => if g2302 = true then (if 0 ≤ (wi64 ((a1.getD i TRecord.z).Job - 1)) ∧ (wi64 ((a1.getD i TRecord.z).Job - 1)) < (s.Jobs.length : Int) then ((juratlaw21_right.f k ((s.Jobs.getD (wi64 ((a1.getD i TRecord.z).Job - 1)).toNat TJob.z).Payload)).bind fun r2370 => some (⟨(a1.getD i TRecord.z).Kind, (a1.getD i TRecord.z).Epoch, (a1.getD i TRecord.z).Nonce, r2370, (a1.getD i TRecord.z).Job, (a1.getD i TRecord.z).Time, (a1.getD i TRecord.z).By⟩ : TRecord)) else none) else (some (a1.getD i TRecord.z))) x ∧ Byt x.Data ∧
        (x.Kind = 4 → 0 ≤ x.By → x.By < c.Workers → fa.getD x.By.toNat false = false → 1 ≤ x.Job → x.Job ≤ (s.Jobs.length : Int) → x.Data = rightV (s.Jobs.getD (x.Job - 1).toNat TJob.z).Payload) := by
      generalize a1.getD i TRecord.z = r at hr ⊢
      by_cases g1 : r.Kind = 4
      · by_cases g2 : r.By ≥ 0
        · by_cases g3 : r.By < c.Workers
          · by_cases g4 : fa.getD r.By.toNat false = true
            · refine ⟨r, Ev.bind (a := false) (Ev.iteT g1 (Ev.iteT g2 (Ev.iteT g3 (Ev.iteT (by omega) (Ev.iteT g4 (Ev.pure _)))))) (Ev.iteF (by simp) (Ev.pure _)), hr, fun _ _ _ k => ?_⟩
              rw [g4] at k; cases k
            · by_cases g5 : r.Job ≥ 1
              · by_cases g6 : r.Job ≤ (s.Jobs.length : Int)
                · have e : wi64 (r.Job - 1) = r.Job - 1 := wi64_id (by omega) (by omega)
                  have hp := (hS.each _ (getD_mem TJob.z (show (r.Job - 1).toNat < s.Jobs.length by omega))).pay
                  refine ⟨⟨r.Kind, r.Epoch, r.Nonce, rightV (s.Jobs.getD (r.Job - 1).toNat TJob.z).Payload, r.Job, r.Time, r.By⟩, ?_, rightV_byt hp, fun _ _ _ _ _ _ => rfl⟩
                  simp only [e, right_v hp.1, Option.bind_some]
                  refine Ev.bind (a := true) (Ev.iteT g1 (Ev.iteT g2 (Ev.iteT g3 (Ev.iteT (by omega) (Ev.iteF g4 (Ev.iteT g5 ?_)))))) (Ev.iteT rfl (Ev.iteT (by omega) (Ev.pure _)))
                  rw [decide_eq_true g6]; exact Ev.pure _
                · refine ⟨r, ?_, hr, fun _ _ _ _ _ k => absurd k g6⟩
                  refine Ev.bind (a := false) (Ev.iteT g1 (Ev.iteT g2 (Ev.iteT g3 (Ev.iteT (by omega) (Ev.iteF g4 (Ev.iteT g5 ?_)))))) (Ev.iteF (by simp) (Ev.pure _))
                  rw [decide_eq_false g6]; exact Ev.pure _
              · exact ⟨r, Ev.bind (a := false) (Ev.iteT g1 (Ev.iteT g2 (Ev.iteT g3 (Ev.iteT (by omega) (Ev.iteF g4 (Ev.iteF g5 (Ev.pure _))))))) (Ev.iteF (by simp) (Ev.pure _)), hr, fun _ _ _ _ k => absurd k g5⟩
          · exact ⟨r, Ev.bind (a := false) (Ev.iteT g1 (Ev.iteT g2 (Ev.iteF g3 (Ev.pure _)))) (Ev.iteF (by simp) (Ev.pure _)), hr, fun _ _ k => absurd k g3⟩
        · exact ⟨r, Ev.bind (a := false) (Ev.iteT g1 (Ev.iteF g2 (Ev.pure _))) (Ev.iteF (by simp) (Ev.pure _)), hr, fun _ k => absurd k g2⟩
      · exact ⟨r, Ev.bind (a := false) (Ev.iteF g1 (Ev.pure _)) (Ev.iteF (by simp) (Ev.pure _)), hr, fun k => absurd k g1⟩
    obtain ⟨x, hx, hxb, hxv⟩ := hrec
    obtain ⟨t, e, hE, hok⟩ := apply_f c hS hxb
    simp only [juratlaw21_DocketHonest.l2, Int.toNat_natCast, wi64_j (show i < 9223372036854775807 by omega), own_f hr.1, Option.bind_some]
    by_cases he : e = 0
    · obtain ⟨_, hg, hrun⟩ := hok he
      have hlen : (t.Barred.length : Int) = c.Workers := by
        have := run_bar hrun
        rw [this]; exact hB
      refine .inr ⟨t, ⟨run_ok hc hS hg hxb hrun, hlen, run_fair hc hF hS hg hxb hf hxv hrun⟩, fun r h => ?_⟩
      exact Ev.iteT (by omega) (Ev.iteT (by omega) (Ev.bind hx (Ev.bind hE (Ev.iteT he h))))
    · refine .inr ⟨s, ⟨hS, hB, hf⟩, fun r h => ?_⟩
      exact Ev.iteT (by omega) (Ev.iteT (by omega) (Ev.bind hx (Ev.bind hE (Ev.iteF he h))))
  · refine ⟨s, ?_, hI⟩
    simp only [juratlaw21_DocketHonest.l2]
    exact Ev.iteF (by omega) (Ev.pure _)
  · unfold newL
    rw [if_pos hc]
    have := hc.w; have := hc.f
    simp; omega
  · unfold newL
    rw [if_pos hc]
    refine ⟨fun j hj => (by cases hj), fun i h => ?_⟩
    exfalso
    dsimp only at h
    rw [List.getD_eq_getElem?_getD, List.getElem?_replicate] at h
    split at h <;> cases h
theorem DocketHonest (a0 : TConfig) (a1 : List TRecord) (a2 : List Bool) (h0 : ok23 a0) (h1 : ok24 a1) (h2 : ok30 a2) : ∃ k, juratlaw21_DocketHonest.f k a0 a1 a2 = some true := by
  refine Ev.one (f := fun k => juratlaw21_DocketHonest.f k a0 a1 a2) ?_
  unfold juratlaw21_DocketHonest.f
  obtain ⟨b, hb, hV⟩ := great_f (okData h1)
  have hRt := refRight_f a0 (fun _ _ => by rw [wi64_id (x := 2 * a0.Faulty) (by omega) (by omega), wi64_id (by omega) (by omega)])
  simp only [hRt, Option.bind_some]
  cases b with
  | true => exact Ev.bind (a := true) (Ev.bind hb (Ev.iteT rfl (Ev.pure _))) (Ev.iteT rfl (Ev.bind awake_f (Ev.pure _)))
  | false =>
    obtain ⟨h80, hd⟩ := hV rfl
    by_cases hc : CfgOk a0
    · rw [decide_eq_true hc]
      obtain ⟨fa, hfa, hfl, hF⟩ := faulty_f hc a2
      obtain ⟨t, ht, hS, hB, hf⟩ := honest_l2 hc h80 hd hfl hF
      have hW := hc.w; have hFy := hc.f
      have hl3 : Ev (fun k => juratlaw21_DocketHonest.l3 k t 0) (Sum.inl ()) := by
        have hj := hS.jobs
        refine Ev.loop (n := t.Jobs.length) (F := fun k q (_ : Unit) => juratlaw21_DocketHonest.l3 k t (q : Int)) (fun q _ => True) (fun q _ hq _ => ?_) (fun _ _ => ?_) () trivial
        · have hm := getD_mem TJob.z hq
          have hj := hS.each _ hm
          have hjf := hf.jb _ hm
          simp only [juratlaw21_DocketHonest.l3, Int.toNat_natCast, wi64_j (show q < 9223372036854775807 by omega), right_v hj.pay.1, Option.bind_some]
          refine .inr ⟨(), trivial, fun k => Ev.iteT (by omega) (Ev.bind (a := false) ?_ (Ev.iteF (by simp) k))⟩
          by_cases g : (t.Jobs.getD q TJob.z).State = 3
          · have s1 := same1_f (t.Jobs.getD q TJob.z).Value (rightV (t.Jobs.getD q TJob.z).Payload) (by have := hj.val.1; omega)
            rw [decide_eq_true (hjf.dc g)] at s1
            exact Ev.iteT g (Ev.iteT (by omega) (Ev.bind s1 (Ev.pure _)))
          · exact Ev.iteF g (Ev.iteT (by omega) (Ev.pure _))
        · simp only [juratlaw21_DocketHonest.l3]
          exact Ev.iteF (by omega) (Ev.pure _)
      have hl4 : Ev (fun k => juratlaw21_DocketHonest.l4 k a0 fa t 0) (Sum.inl ()) := by
        refine Ev.loop (n := a0.Workers.toNat) (F := fun k q (_ : Unit) => juratlaw21_DocketHonest.l4 k a0 fa t (q : Int)) (fun q _ => True) (fun q _ hq _ => ?_) (fun _ _ => ?_) () trivial
        · simp only [juratlaw21_DocketHonest.l4, Int.toNat_natCast, wi64_j (show q < 9223372036854775807 by omega)]
          refine .inr ⟨(), trivial, fun k => Ev.iteT (by omega) (Ev.iteT (by omega) (Ev.bind (a := false) ?_ (Ev.iteF (by simp) k)))⟩
          by_cases g : t.Barred.getD q false = true
          · refine Ev.iteT g (Ev.iteT (by omega) ?_)
            rw [hf.bar q g]; exact Ev.pure _
          · exact Ev.iteF g (Ev.pure _)
        · simp only [juratlaw21_DocketHonest.l4]
          exact Ev.iteF (by omega) (Ev.pure _)
      refine Ev.bind (a := false) (Ev.bind hb (Ev.iteF (by simp) (Ev.pure _))) (Ev.iteF (by simp) (Ev.bind (new_f a0) (Ev.iteT (by omega) (Ev.bind hfa (Ev.bind ht (Ev.bind hl3 (Ev.iteT hB (Ev.bind hl4 (Ev.bind awake_f (Ev.pure _)))))))))) 
    · rw [decide_eq_false hc]
      exact Ev.bind (a := true) (Ev.bind hb (Ev.iteF (by simp) (Ev.pure _))) (Ev.iteT rfl (Ev.bind awake_f (Ev.pure _)))
end Go.Proofs.Ytobdpbnadjkhiaa.Pure
