/- Plain laws of dockets: configs, small questions. -/
import Derived.Test.YtobdpbnadjkhiaaTGd
import Derived.Test.YtobdpbnadjkhiaaTTb
namespace Go.Proofs.Ytobdpbnadjkhiaa.Pure
open Go.WG Go.Proofs.Ytobdpbnadjkhiaa Go.Proofs.Ytobdpbnadjkhiaa.Ta
set_option linter.unusedSimpArgs false
set_option linter.unusedVariables false
/-- A config that may be. -/
structure CfgOk (c : TConfig) : Prop where
 f : 0 ≤ c.Faulty ∧ c.Faulty ≤ 2
 w : 2 * c.Faulty + 1 ≤ c.Workers ∧ c.Workers ≤ 8
 h : 0 ≤ c.Height ∧ c.Height ≤ 6
 hd : 0 ≤ c.Heads ∧ c.Heads ≤ 6
 b : 1 ≤ c.Bits ∧ c.Bits ≤ 256
 j : 1 ≤ c.Jobs ∧ c.Jobs ≤ 64
 t : 1 ≤ c.Term ∧ c.Term ≤ 10000
instance (c : TConfig) : Decidable (CfgOk c) :=
 if h : (0 ≤ c.Faulty ∧ c.Faulty ≤ 2) ∧ (2 * c.Faulty + 1 ≤ c.Workers ∧ c.Workers ≤ 8) ∧ (0 ≤ c.Height ∧ c.Height ≤ 6) ∧ (0 ≤ c.Heads ∧ c.Heads ≤ 6) ∧ (1 ≤ c.Bits ∧ c.Bits ≤ 256) ∧ (1 ≤ c.Jobs ∧ c.Jobs ≤ 64) ∧ (1 ≤ c.Term ∧ c.Term ≤ 10000)
 then isTrue ⟨h.1, h.2.1, h.2.2.1, h.2.2.2.1, h.2.2.2.2.1, h.2.2.2.2.2.1, h.2.2.2.2.2.2⟩
 else isFalse fun k => h ⟨k.f, k.w, k.h, k.hd, k.b, k.j, k.t⟩
theorem btw (k : Nat) (n a b : Int) : docket_between.f k n a b = some (decide (a ≤ n ∧ n ≤ b)) := by
 unfold docket_between.f
 congr 1
 simp only [ge_iff_le, Bool.decide_and]
theorem hands_f {c : TConfig} (hc : CfgOk c) (k : Nat) : docket_hands.f k c = some (2 * c.Faulty + 1) := by
 unfold docket_hands.f
 have := hc.f
 rw [wi64_id (x := 2 * c.Faulty) (by omega) (by omega), wi64_id (by omega) (by omega)]
theorem check_f (c : TConfig) : Ev (fun k => docket_Check.f k c) (if CfgOk c then 0 else 1) := by
 unfold docket_Check.f
 have st : ∀ (i : Nat) (x lo hi : Int), i < 7 →
   ([[c.Faulty, 0, 2], [c.Workers, wi64 (wi64 (2 * c.Faulty) + 1), 8], [c.Height, 0, 6], [c.Heads, 0, 6], [c.Bits, 1, 256], [c.Jobs, 1, 64], [c.Term, 1, 10000]] : List (List Int)).getD i [] = [x, lo, hi] →
   ∀ k, docket_Check.l1 (k + 1) c (i : Int) = if lo ≤ x ∧ x ≤ hi then docket_Check.l1 k c ((i + 1 : Nat) : Int) else some (Sum.inr 1) := by
  intro i x lo hi hi7 hg k
  simp only [docket_Check.l1, Int.toNat_natCast, hg, btw, Option.bind_some]
  rw [if_pos (by omega), if_pos (by omega), wi64_j (by omega)]
  simp only [decide_eq_true_eq]
  rfl
 have en : ∀ k, docket_Check.l1 (k + 1) c ((7 : Nat) : Int) = some (Sum.inl ()) := fun k => by
  simp only [docket_Check.l1]
  rw [if_neg (by omega)]
 have s0 := st 0 _ _ _ (by omega) rfl
 have s1 := st 1 _ _ _ (by omega) rfl
 have s2 := st 2 _ _ _ (by omega) rfl
 have s3 := st 3 _ _ _ (by omega) rfl
 have s4 := st 4 _ _ _ (by omega) rfl
 have s5 := st 5 _ _ _ (by omega) rfl
 have s6 := st 6 _ _ _ (by omega) rfl
 have hl : Ev (fun k => docket_Check.l1 k c 0) (if CfgOk c then Sum.inl () else Sum.inr 1) := by
  refine ⟨8, fun k hk => ?_⟩
  obtain ⟨m, rfl⟩ : ∃ m, k = m + 8 := ⟨k - 8, by omega⟩
  show docket_Check.l1 (m + 7 + 1) c ((0 : Nat) : Int) = _
  rw [s0]
  by_cases h0 : 0 ≤ c.Faulty ∧ c.Faulty ≤ 2
  ·have e : wi64 (wi64 (2 * c.Faulty) + 1) = 2 * c.Faulty + 1 := by rw [wi64_id (x := 2 * c.Faulty) (by omega) (by omega), wi64_id (by omega) (by omega)]
   rw [if_pos h0, show m + 7 = m + 6 + 1 from rfl, s1, e]
   by_cases h1 : 2 * c.Faulty + 1 ≤ c.Workers ∧ c.Workers ≤ 8
   ·rw [if_pos h1, show m + 6 = m + 5 + 1 from rfl, s2]
    by_cases h2 : 0 ≤ c.Height ∧ c.Height ≤ 6
    ·rw [if_pos h2, show m + 5 = m + 4 + 1 from rfl, s3]
     by_cases h3 : 0 ≤ c.Heads ∧ c.Heads ≤ 6
     ·rw [if_pos h3, show m + 4 = m + 3 + 1 from rfl, s4]
      by_cases h4 : 1 ≤ c.Bits ∧ c.Bits ≤ 256
      ·rw [if_pos h4, show m + 3 = m + 2 + 1 from rfl, s5]
       by_cases h5 : 1 ≤ c.Jobs ∧ c.Jobs ≤ 64
       ·rw [if_pos h5, show m + 2 = m + 1 + 1 from rfl, s6]
        by_cases h6 : 1 ≤ c.Term ∧ c.Term ≤ 10000
        ·rw [if_pos h6, en, if_pos ⟨h0, h1, h2, h3, h4, h5, h6⟩]
        ·rw [if_neg h6, if_neg fun k => h6 k.t]
       ·rw [if_neg h5, if_neg fun k => h5 k.j]
      ·rw [if_neg h4, if_neg fun k => h4 k.b]
     ·rw [if_neg h3, if_neg fun k => h3 k.hd]
    ·rw [if_neg h2, if_neg fun k => h2 k.h]
   ·rw [if_neg h1, if_neg fun k => h1 k.w]
  ·rw [if_neg h0, if_neg fun k => h0 k.f]
 refine Ev.bind hl ?_
 by_cases h : CfgOk c
 ·simp only [if_pos h, sumE]; exact Ev.pure _
 ·simp only [if_neg h, sumE]; exact Ev.pure _
/-- A state without anything. -/
def newL (c : TConfig) : TState × Int := if CfgOk c then (⟨[], [], List.replicate c.Workers.toNat 0, List.replicate c.Workers.toNat false, 0⟩, 0) else (⟨[], [], [], [], 0⟩, 1)
theorem new_f (c : TConfig) : Ev (fun k => docket_New.f k c) (newL c) := by
 unfold docket_New.f newL
 refine Ev.bind (check_f c) ?_
 by_cases h : CfgOk c
 ·simp only [if_pos h]
  have := h.w; have := h.f
  refine Ev.iteT trivial (Ev.iteT (by omega) (Ev.iteT (by omega) ?_))
  exact Ev.pure _
 ·simp only [if_neg h]
  exact Ev.pure _
/-- The last era's. -/
def lastE (s : TState) : Int := if s.Eras.length = 0 then 0 else (s.Eras.getD (s.Eras.length - 1) TEra.z).Epoch
theorem epo_f (s : TState) (h : s.Eras.length ≤ 300) : Ev (fun k => docket_Epoch.f k s) (lastE s) := by
 unfold docket_Epoch.f lastE
 by_cases h0 : s.Eras.length = 0
 ·rw [if_pos h0]; exact Ev.iteF (by omega) (Ev.pure _)
 ·rw [if_neg h0]
  have e : wi64 ((s.Eras.length : Int) - 1) = ((s.Eras.length - 1 : Nat) : Int) := by rw [wi64_id (by omega) (by omega)]; omega
  simp only [e, Int.toNat_natCast]
  exact Ev.iteT (by omega) (Ev.iteT (by omega) (Ev.pure _))
theorem epoRaw_f (s : TState) (h : s.Eras.length ≤ 300) : Ev (fun k => docket_Epoch_raw.f k s) (lastE s) := epo_f s h
/-- The nonce of an era. -/
def nonceL (e : Int) : List TEra → List Int × Bool
 | [] => (List.replicate 32 0, false)
 | a :: r => if a.Epoch = e then (a.Nonce, true) else nonceL e r
theorem nonce_f (s : TState) (e : Int) (h : s.Eras.length ≤ 300) : Ev (fun k => docket_Nonce.f k s e) (nonceL e s.Eras) := by
 unfold docket_Nonce.f
 have hloop : Ev (fun k => docket_Nonce.l1 k s e 0) (if (nonceL e s.Eras).2 = true then Sum.inr (nonceL e s.Eras) else Sum.inl ()) := by
  refine Ev.loop (n := s.Eras.length) (F := fun k j (_ : Unit) => docket_Nonce.l1 k s e (j : Int)) (fun j _ => nonceL e (s.Eras.drop j) = nonceL e s.Eras) (fun j _ hj hI => ?_) (fun _ hI => ?_) () rfl
  ·simp only [docket_Nonce.l1, Int.toNat_natCast, wi64_j (show j < 9223372036854775807 by omega)]
   rw [drop_cons TEra.z hj, nonceL] at hI
   by_cases hc : (s.Eras.getD j TEra.z).Epoch = e
   ·rw [if_pos hc] at hI
    rw [← hI]
    exact .inl (Ev.iteT (by omega) (Ev.iteT (by omega) (Ev.iteT hc (Ev.pure _))))
   ·rw [if_neg hc] at hI
    exact .inr ⟨(), hI, fun h => Ev.iteT (by omega) (Ev.iteT (by omega) (Ev.iteF hc h))⟩
  ·simp only [docket_Nonce.l1]
   rw [List.drop_length, nonceL] at hI
   rw [← hI]
   exact Ev.iteF (by omega) (Ev.pure _)
 refine Ev.bind hloop ?_
 have hn : ∀ r : List TEra, (nonceL e r).2 ≠ true → nonceL e r = (List.replicate 32 0, false) := fun r => by
  induction r with
  | nil => intro _; rfl
  | cons c r ih =>
   unfold nonceL
   split
   ·intro h; exact absurd rfl h
   ·exact ih
 by_cases hb : (nonceL e s.Eras).2 = true
 ·rw [if_pos hb]; exact Ev.pure _
 ·rw [if_neg hb, hn _ hb]; exact Ev.pure _
theorem asked_f (j : TJob) (w : Int) (h : j.Workers.length ≤ 8) : Ev (fun k => docket_asked.f k j w) (decide (w ∈ j.Workers)) := by
 unfold docket_asked.f
 have hloop : Ev (fun k => docket_asked.l1 k j w 0) (if w ∈ j.Workers then Sum.inr true else Sum.inl ()) := by
  refine Ev.loop (n := j.Workers.length) (F := fun k i (_ : Unit) => docket_asked.l1 k j w (i : Int)) (fun i _ => ¬ w ∈ j.Workers.take i) (fun i _ hi hI => ?_) (fun _ hI => ?_) () (by simp)
  ·simp only [docket_asked.l1, Int.toNat_natCast, wi64_j (show i < 9223372036854775807 by omega)]
   by_cases hc : j.Workers.getD i 0 = w
   ·rw [if_pos (by rw [← hc, List.getD_eq_getElem?_getD, List.getElem?_eq_getElem hi]; exact List.getElem_mem hi)]
    exact .inl (Ev.iteT (by omega) (Ev.iteT (by omega) (Ev.iteT hc (Ev.pure _))))
   ·refine .inr ⟨(), ?_, fun h => Ev.iteT (by omega) (Ev.iteT (by omega) (Ev.iteF hc h))⟩
    rw [take_succ 0 hi, List.mem_append, List.mem_singleton]
    rintro (h | h)
    ·exact hI h
    ·exact hc h.symm
  ·simp only [docket_asked.l1]
   rw [List.take_length] at hI
   rw [if_neg hI]
   exact Ev.iteF (by omega) (Ev.pure _)
 refine Ev.bind hloop ?_
 by_cases hb : w ∈ j.Workers
 ·rw [if_pos hb, decide_eq_true hb]; exact Ev.pure _
 ·rw [if_neg hb, decide_eq_false hb]; exact Ev.pure _
end Go.Proofs.Ytobdpbnadjkhiaa.Pure
