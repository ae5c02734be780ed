/- Plain laws of dockets: jobs and states that may be. -/
import Derived.Test.YtobdpbnadjkhiaaTDb
namespace Go.Proofs.Ytobdpbnadjkhiaa.Pure
open Go.WG Go.Proofs.Ytobdpbnadjkhiaa Go.Proofs.Ytobdpbnadjkhiaa.Ta
set_option linter.unusedSimpArgs false
set_option linter.unusedVariables false
/-- A job that waits. -/
structure Idle (j : TJob) : Prop where
 s : j.State = 1
 e : j.Epoch = 0
 u : j.Until = 0
 w : j.Workers = []
 i : j.Indexes = []
 v : j.Votes = []
 x : j.Value = []
/-- A job that runs, or is decided. -/
structure Busy (c : TConfig) (s : TState) (j : TJob) : Prop where
 st : j.State = 2 ∨ j.State = 3
 n : (nonceL j.Epoch s.Eras).2 = true
 a : j.Attempt > 0
 u : 1 ≤ j.Until ∧ j.Until ≤ 1099511627776
 cr : Crewed c j
 vt : Voted c j
structure Sound (c : TConfig) (s : TState) (j : TJob) : Prop where
 p : j.Payload.length ≤ 64
 a : 0 ≤ j.Attempt ∧ j.Attempt ≤ 1099511627776
 k : Idle j ∨ Busy c s j
theorem len0 {α : Type} {l : List α} : l.length = 0 ↔ l = [] := List.length_eq_zero_iff
theorem sound_f {c : TConfig} (hc : CfgOk c) (s : TState) (hs : s.Eras.length ≤ 300) {j : TJob} (hj : JobOk j) : Ev (fun k => docket_sound.f k c s j) (B (Sound c s j)) := by
 unfold docket_sound.f
 simp only [btw, Option.bind_some, decide_eq_true_eq]
 by_cases h1 : j.Payload.length ≤ 64
 ·by_cases h2 : 0 ≤ j.Attempt ∧ j.Attempt ≤ 1099511627776
  ·refine Ev.bind (a := false) (Ev.iteF (by omega) (by rw [decide_eq_true h2]; exact Ev.pure _)) (Ev.iteF (by simp) ?_)
   by_cases h3 : j.State = 1
   ·refine Ev.iteT h3 ?_
    have hB : B (Sound c s j) = B (Idle j) := B_iff ⟨fun k => k.k.elim id fun b => absurd h3 (by rcases b.st with h | h <;> (rw [h]; decide)), fun k => ⟨h1, h2, .inl k⟩⟩
    rw [hB]
    have hv := hj.votes.1; have hx := hj.val.1; have hw := hj.wk; have hi := hj.ix
    by_cases h4 : j.Epoch = 0
    ·by_cases h5 : j.Until = 0
     ·refine Ev.bind (Ev.iteT h4 (Ev.iteT h5 (Ev.pure _))) ?_
      rw [wi64_id (x := (j.Workers.length : Int) + j.Indexes.length) (by omega) (by omega), wi64_id (x := (j.Workers.length : Int) + j.Indexes.length + j.Votes.length) (by omega) (by omega), wi64_id (x := (j.Workers.length : Int) + j.Indexes.length + j.Votes.length + j.Value.length) (by omega) (by omega)]
      rw [← B_dec]
      have : B ((j.Workers.length : Int) + j.Indexes.length + j.Votes.length + j.Value.length = 0) = B (Idle j) := B_iff ⟨fun k => ⟨h3, h4, h5, len0.1 (by omega), len0.1 (by omega), len0.1 (by omega), len0.1 (by omega)⟩, fun k => by rw [k.w, k.i, k.v, k.x]; rfl⟩
      rw [this]
      exact Ev.pure _
     ·rw [B_f fun k => h5 k.u]
      exact Ev.bind (Ev.iteT h4 (Ev.iteF h5 (Ev.pure _))) (Ev.pure _)
    ·rw [B_f fun k => h4 k.e]
     exact Ev.bind (Ev.iteF h4 (Ev.pure _)) (Ev.pure _)
   ·refine Ev.iteF h3 ?_
    have hB : B (Sound c s j) = B (Busy c s j) := B_iff ⟨fun k => k.k.elim (fun b => absurd b.s h3) id, fun k => ⟨h1, h2, .inr k⟩⟩
    rw [hB]
    by_cases h4 : j.State = 2 ∨ j.State = 3
    ·refine Ev.bind (a := true) ?_ (Ev.iteT rfl (Ev.bind (nonce_f s j.Epoch hs) ?_))
     ·by_cases h5 : j.State = 2
      ·exact Ev.iteT h5 (by rw [decide_eq_true h5]; exact Ev.pure _)
      ·exact Ev.iteF h5 (by rw [decide_eq_true (h4.resolve_left h5)]; exact Ev.pure _)
     ·refine Ev.bind ?_ (Ev.pure _)
      by_cases h5 : (nonceL j.Epoch s.Eras).2 = true
      ·refine Ev.iteT h5 ?_
       by_cases h6 : j.Attempt > 0
       ·refine Ev.iteT h6 ?_
        by_cases h7 : 1 ≤ j.Until ∧ j.Until ≤ 1099511627776
        ·refine Ev.iteT h7 (Ev.bind (crewed_f hc j hj.wk) ?_)
         by_cases h8 : Crewed c j
         ·rw [B_t h8]
          refine Ev.iteT rfl (Ev.bind (voted_f hc hj) ?_)
          have : B (Voted c j) = B (Busy c s j) := B_iff ⟨fun k => ⟨h4, h5, h6, h7, h8, k⟩, fun k => k.vt⟩
          rw [this]; exact Ev.pure _
         ·rw [B_f h8, B_f fun k => h8 k.cr]
          exact Ev.iteF (by simp) (Ev.pure _)
        ·rw [B_f fun k => h7 k.u]; exact Ev.iteF h7 (Ev.pure _)
       ·rw [B_f fun k => h6 k.a]; exact Ev.iteF h6 (Ev.pure _)
      ·rw [B_f fun k => h5 k.n]; exact Ev.iteF h5 (Ev.pure _)
    ·rw [B_f fun k => h4 k.st]
     refine Ev.bind (a := false) (Ev.iteF (fun e => h4 (.inl e)) (by rw [decide_eq_false (fun e => h4 (.inr e))]; exact Ev.pure _)) (Ev.iteF (by simp) (Ev.pure _))
  ·rw [B_f fun k => h2 k.a]
   exact Ev.bind (a := true) (Ev.iteF (by omega) (by rw [decide_eq_false h2]; exact Ev.pure _)) (Ev.iteT rfl (Ev.pure _))
 ·rw [B_f fun k => h1 k.p]
  exact Ev.bind (a := true) (Ev.iteT (by omega) (Ev.pure _)) (Ev.iteT rfl (Ev.pure _))
/-- A state of some size. -/
structure StOk (s : TState) : Prop where
 eras : s.Eras.length ≤ 300
 jobs : s.Jobs.length ≤ 100
 each : ∀ j ∈ s.Jobs, JobOk j
 used : s.Used.length ≤ 8
 bar : s.Barred.length ≤ 8
/-- Eras, each later than the last. -/
def ErasOk : Int → List TEra → Prop
 | _, [] => True
 | l, e :: r => (l + 1 ≤ e.Epoch ∧ e.Epoch ≤ 1099511627776) ∧ ErasOk e.Epoch r
structure Good (c : TConfig) (s : TState) : Prop where
 u : (s.Used.length : Int) = c.Workers
 b : (s.Barred.length : Int) = c.Workers
 h : 0 ≤ s.Heads ∧ s.Heads ≤ shlOp .i64 1 c.Heads
 e : s.Eras.length ≤ 256
 j : (s.Jobs.length : Int) ≤ c.Jobs
 un : ∀ i < s.Used.length, 0 ≤ s.Used.getD i 0 ∧ s.Used.getD i 0 ≤ keysN c
 er : ErasOk 0 s.Eras
 jb : ∀ i < s.Jobs.length, Sound c s (s.Jobs.getD i TJob.z)
theorem right_f {c : TConfig} (hc : CfgOk c) {s : TState} (hs : StOk s) : Ev (fun k => docket_right.f k c s) (B (Good c s)) := by
 unfold docket_right.f
 have hH := hc.h.1; have hHd := hc.hd.1; have hK := hc.keys
 have hj1 := hs.jobs; have he1 := hs.eras; have hu1 := hs.used
 simp only [btw, Option.bind_some, decide_eq_true_eq]
 by_cases h1 : (s.Used.length : Int) = c.Workers
 ·by_cases h2 : (s.Barred.length : Int) = c.Workers
  ·by_cases h3 : 0 ≤ s.Heads ∧ s.Heads ≤ shlOp .i64 1 c.Heads
   ·by_cases h4 : s.Eras.length ≤ 256
    ·by_cases h5 : (s.Jobs.length : Int) ≤ c.Jobs
     ·refine Ev.bind (a := false) (Ev.iteT h1 (Ev.iteT h2 (Ev.iteT hHd (Ev.iteT h3 (Ev.iteF (by omega) (by rw [decide_eq_false (by omega)]; exact Ev.pure _)))))) (Ev.iteF (by simp) ?_)
      have hl1 : Ev (fun k => docket_right.l1 k c s 0) (two (∀ i < s.Used.length, 0 ≤ s.Used.getD i 0 ∧ s.Used.getD i 0 ≤ keysN c) (Sum.inl ()) (Sum.inr false)) := by
       refine Ev.loop (n := s.Used.length) (F := fun k i (_ : Unit) => docket_right.l1 k c s (i : Int)) (fun i _ => ∀ q < i, 0 ≤ s.Used.getD q 0 ∧ s.Used.getD q 0 ≤ keysN c) (fun i _ hi hI => ?_) (fun _ hI => ?_) () (fun q hq => by omega)
       ·simp only [docket_right.l1, Int.toNat_natCast, btw, Option.bind_some, decide_eq_true_eq, wi64_j (show i < 9223372036854775807 by omega)]
        by_cases h : 0 ≤ s.Used.getD i 0 ∧ s.Used.getD i 0 ≤ keysN c
        ·refine .inr ⟨(), fun q hq => ?_, fun k => Ev.iteT (by omega) (Ev.iteT (by omega) (Ev.iteT hH (Ev.iteT h k)))⟩
         by_cases e : q = i
         ·subst e; exact h
         ·exact hI q (by omega)
        ·rw [two_f fun k => h (k i hi)]
         exact .inl (Ev.iteT (by omega) (Ev.iteT (by omega) (Ev.iteT hH (Ev.iteF h (Ev.pure _)))))
       ·simp only [docket_right.l1]
        rw [two_t hI]
        exact Ev.iteF (by omega) (Ev.pure _)
      have hl2 : Ev (fun k => docket_right.l2 k s 0 0) (two (ErasOk 0 s.Eras) (Sum.inl ()) (Sum.inr false)) := by
       refine Ev.loop (n := s.Eras.length) (F := fun k i (l : Int) => docket_right.l2 k s l (i : Int)) (fun i l => (0 ≤ l ∧ l ≤ 1099511627776) ∧ (ErasOk 0 s.Eras ↔ ErasOk l (s.Eras.drop i))) (fun i l hi hI => ?_) (fun l hI => ?_) 0 ⟨by decide, Iff.rfl⟩
       ·obtain ⟨hl, hI⟩ := hI
        rw [drop_cons TEra.z hi] at hI
        simp only [docket_right.l2, Int.toNat_natCast, btw, Option.bind_some, decide_eq_true_eq, wi64_j (show i < 9223372036854775807 by omega), wi64_id (x := l + 1) (by omega) (by omega)]
        by_cases h : l + 1 ≤ (s.Eras.getD i TEra.z).Epoch ∧ (s.Eras.getD i TEra.z).Epoch ≤ 1099511627776
        ·exact .inr ⟨(s.Eras.getD i TEra.z).Epoch, ⟨by omega, hI.trans ⟨fun k => k.2, fun k => ⟨h, k⟩⟩⟩, fun k => Ev.iteT (by omega) (Ev.iteT (by omega) (Ev.iteT h k))⟩
        ·rw [two_f fun k => h (hI.1 k).1]
         exact .inl (Ev.iteT (by omega) (Ev.iteT (by omega) (Ev.iteF h (Ev.pure _))))
       ·simp only [docket_right.l2]
        rw [two_t (hI.2.2 (by rw [List.drop_length]; trivial))]
        exact Ev.iteF (by omega) (Ev.pure _)
      have hl3 : Ev (fun k => docket_right.l3 k c s 0) (two (∀ i < s.Jobs.length, Sound c s (s.Jobs.getD i TJob.z)) (Sum.inl ()) (Sum.inr false)) := by
       refine Ev.loop (n := s.Jobs.length) (F := fun k i (_ : Unit) => docket_right.l3 k c s (i : Int)) (fun i _ => ∀ q < i, Sound c s (s.Jobs.getD q TJob.z)) (fun i _ hi hI => ?_) (fun _ hI => ?_) () (fun q hq => by omega)
       ·have hsd := sound_f hc s he1 (hs.each _ (getD_mem TJob.z hi))
        simp only [docket_right.l3, Int.toNat_natCast, wi64_j (show i < 9223372036854775807 by omega)]
        by_cases h : Sound c s (s.Jobs.getD i TJob.z)
        ·rw [B_t h] at hsd
         refine .inr ⟨(), fun q hq => ?_, fun k => Ev.iteT (by omega) (Ev.iteT (by omega) (Ev.bind hsd (Ev.iteT rfl k)))⟩
         by_cases e : q = i
         ·subst e; exact h
         ·exact hI q (by omega)
        ·rw [B_f h] at hsd
         rw [two_f fun k => h (k i hi)]
         exact .inl (Ev.iteT (by omega) (Ev.iteT (by omega) (Ev.bind hsd (Ev.iteF (by simp) (Ev.pure _)))))
       ·simp only [docket_right.l3]
        rw [two_t hI]
        exact Ev.iteF (by omega) (Ev.pure _)
      refine Ev.bind hl1 ?_
      by_cases g1 : ∀ i < s.Used.length, 0 ≤ s.Used.getD i 0 ∧ s.Used.getD i 0 ≤ keysN c
      ·simp only [two_t g1, sumE]
       refine Ev.bind hl2 ?_
       by_cases g2 : ErasOk 0 s.Eras
       ·simp only [two_t g2, sumE]
        refine Ev.bind hl3 ?_
        by_cases g3 : ∀ i < s.Jobs.length, Sound c s (s.Jobs.getD i TJob.z)
        ·simp only [two_t g3, sumE]
         rw [B_t ⟨h1, h2, h3, h4, h5, g1, g2, g3⟩]; exact Ev.pure _
        ·simp only [two_f g3, sumE]
         rw [B_f fun k => g3 k.jb]; exact Ev.pure _
       ·simp only [two_f g2, sumE]
        rw [B_f fun k => g2 k.er]; exact Ev.pure _
      ·simp only [two_f g1, sumE]
       rw [B_f fun k => g1 k.un]; exact Ev.pure _
     ·rw [B_f fun k => h5 k.j]
      exact Ev.bind (a := true) (Ev.iteT h1 (Ev.iteT h2 (Ev.iteT hHd (Ev.iteT h3 (Ev.iteF (by omega) (by rw [decide_eq_true (by omega)]; exact Ev.pure _)))))) (Ev.iteT rfl (Ev.pure _))
    ·rw [B_f fun k => h4 k.e]
     exact Ev.bind (a := true) (Ev.iteT h1 (Ev.iteT h2 (Ev.iteT hHd (Ev.iteT h3 (Ev.iteT (by omega) (Ev.pure _)))))) (Ev.iteT rfl (Ev.pure _))
   ·rw [B_f fun k => h3 k.h]
    exact Ev.bind (a := true) (Ev.iteT h1 (Ev.iteT h2 (Ev.iteT hHd (Ev.iteF h3 (Ev.pure _))))) (Ev.iteT rfl (Ev.pure _))
  ·rw [B_f fun k => h2 k.b]
   exact Ev.bind (a := true) (Ev.iteT h1 (Ev.iteF h2 (Ev.pure _))) (Ev.iteT rfl (Ev.pure _))
 ·rw [B_f fun k => h1 k.u]
  exact Ev.bind (a := true) (Ev.iteF h1 (Ev.pure _)) (Ev.iteT rfl (Ev.pure _))
end Go.Proofs.Ytobdpbnadjkhiaa.Pure
