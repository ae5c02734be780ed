/- Plain laws of records: which may be. -/
import Derived.Test.YtobdpbnadjkhiaaGreatTM11
import Derived.Test.YtobdpbnadjkhiaaGreatTM9
import Derived.Test.YtobdpbnadjkhiaaGreatTM3
import Derived.Test.YtobdpbnadjkhiaaGreatTM2
import Derived.Test.YtobdpbnadjkhiaaGreatTM10
import Derived.Test.YtobdpbnadjkhiaaGreatTM6
import Derived.KernelRfl
namespace Go.Proofs.YtobdpbnadjkhiaaGreat.Pure
open Go.WG Go.Proofs.YtobdpbnadjkhiaaGreat Go.Proofs.YtobdpbnadjkhiaaGreat.Ta
set_option linter.unusedSimpArgs false
set_option linter.unusedVariables false
def As (r : rD) : Prop :=
  (r.Kind = 1 ∧ 1 ≤ r.Epoch ∧ r.Epoch ≤ 1099511627776 ∧ (r.Data.length : Int) = 0 ∧ r.Job = 0 ∧ r.Time = 0 ∧ r.By = 0) ∨
  (r.Nonce = List.replicate 32 0 ∧ r.Epoch = 0 ∧
    ((r.Kind = 2 ∧ (r.Data.length : Int) ≤ 64 ∧ r.Job = 0 ∧ r.Time = 0 ∧ r.By = 0) ∨
     ((r.Kind = 3 ∨ r.Kind = 5) ∧ (r.Data.length : Int) = 0 ∧ (0 ≤ r.Job ∧ r.Job ≤ 1099511627776) ∧ (0 ≤ r.Time ∧ r.Time ≤ 1099511627776) ∧ r.By = 0) ∨
     (r.Kind = 4 ∧ (r.Data.length : Int) ≤ 32 ∧ (0 ≤ r.Job ∧ r.Job ≤ 1099511627776) ∧ r.Time = 0 ∧ (0 ≤ r.By ∧ r.By ≤ 1099511627776)) ∨
     (r.Kind = 6 ∧ (r.Data.length : Int) = 0 ∧ r.Job = 0 ∧ r.Time = 0 ∧ r.By = 0)))
instance (r : rD) : Decidable (As r) := by unfold As; infer_instance
def Az (r : rD) : Prop := (0 ≤ r.Epoch ∧ r.Epoch ≤ 1099511627776) ∧ (0 ≤ r.Job ∧ r.Job ≤ 1099511627776) ∧ (0 ≤ r.Time ∧ r.Time ≤ 1099511627776) ∧ (0 ≤ r.By ∧ r.By ≤ 1099511627776)
instance (r : rD) : Decidable (Az r) := by unfold Az; infer_instance
theorem JM (r : rD) : Ev (fun k => tJ.l1 k r 0) (if Az r then Sum.inl () else Sum.inr false) := by
  have st : ∀ (i : Nat) (x : Int), i < 4 → [r.Epoch, r.Job, r.Time, r.By].getD i 0 = x → ∀ k, tJ.l1 (k + 1) r (i : Int) = if 0 ≤ x ∧ x ≤ 1099511627776 then tJ.l1 k r ((i + 1 : Nat) : Int) else some (Sum.inr false) := by
    intro i x hi hg k
    simp only [tJ.l1, Int.toNat_natCast, hg, btw, Option.bind_some]
    rw [if_pos (by omega), if_pos (by omega), tU (by omega)]
    simp only [decide_eq_true_eq]
  have en : ∀ k, tJ.l1 (k + 1) r ((4 : Nat) : Int) = some (Sum.inl ()) := fun k => by
    simp only [tJ.l1]
    rw [if_neg (by omega)]
  refine ⟨5, fun k hk => ?_⟩
  obtain ⟨m, rfl⟩ : ∃ m, k = m + 5 := ⟨k - 5, by omega⟩
  show tJ.l1 (m + 4 + 1) r ((0 : Nat) : Int) = _
  rw [st 0 r.Epoch (by omega) rfl]
  by_cases h0 : 0 ≤ r.Epoch ∧ r.Epoch ≤ 1099511627776
  · rw [if_pos h0, show m + 4 = m + 3 + 1 from rfl, st 1 r.Job (by omega) rfl]
    by_cases h1 : 0 ≤ r.Job ∧ r.Job ≤ 1099511627776
    · rw [if_pos h1, show m + 3 = m + 2 + 1 from rfl, st 2 r.Time (by omega) rfl]
      by_cases h2 : 0 ≤ r.Time ∧ r.Time ≤ 1099511627776
      · rw [if_pos h2, show m + 2 = m + 1 + 1 from rfl, st 3 r.By (by omega) rfl]
        by_cases h3 : 0 ≤ r.By ∧ r.By ≤ 1099511627776
        · rw [if_pos h3, en, if_pos ⟨h0, h1, h2, h3⟩]
        · rw [if_neg h3, if_neg fun k : Az r => h3 k.2.2.2]
      · rw [if_neg h2, if_neg fun k : Az r => h2 k.2.2.1]
    · rw [if_neg h1, if_neg fun k : Az r => h1 k.2.1]
  · rw [if_neg h0, if_neg fun k : Az r => h0 k.1]
theorem H4 (r : rD) (d : Int) (w : rD) : Ev (fun k => (tJ.l1 k r 0).bind fun o_ => vS o_ (fun _ => (if (r.Data.length : Int) ≤ d then (if r.Epoch = w.Epoch then (if r.Nonce = w.Nonce then (if r.Job = w.Job then (if r.Time = w.Time then (some (decide (r.By = w.By))) else (some (false))) else (some (false))) else (some (false))) else (some (false))) else (some (false))).bind fun g318 => some g318) (fun p_ => some p_))
    (decide (Az r ∧ (r.Data.length : Int) ≤ d ∧ r.Epoch = w.Epoch ∧ r.Nonce = w.Nonce ∧ r.Job = w.Job ∧ r.Time = w.Time ∧ r.By = w.By)) := by
  refine Ev.bind (JM r) ?_
  by_cases ha : Az r
  · simp only [if_pos ha, vS]
    have : (if (r.Data.length : Int) ≤ d then (if r.Epoch = w.Epoch then (if r.Nonce = w.Nonce then (if r.Job = w.Job then (if r.Time = w.Time then (some (decide (r.By = w.By))) else (some (false))) else (some (false))) else (some (false))) else (some (false))) else (some (false))) = some (decide (Az r ∧ (r.Data.length : Int) ≤ d ∧ r.Epoch = w.Epoch ∧ r.Nonce = w.Nonce ∧ r.Job = w.Job ∧ r.Time = w.Time ∧ r.By = w.By)) := by
      by_cases h1 : (r.Data.length : Int) ≤ d
      · by_cases h2 : r.Epoch = w.Epoch
        · by_cases h3 : r.Nonce = w.Nonce
          · by_cases h4 : r.Job = w.Job
            · by_cases h5 : r.Time = w.Time
              · simp [ha, h1, h2, h3, h4, h5]
              · simp [h1, h2, h3, h4, h5]
            · simp [h1, h2, h3, h4]
          · simp [h1, h2, h3]
        · simp [h1, h2]
      · simp [h1]
    rw [this]
    exact Ev.pure _
  · simp only [if_neg ha, vS]
    rw [decide_eq_false fun k => ha k.1]
    exact Ev.pure _
theorem IQ (r : rD) : Ev (fun k => tJ.f k r) (decide (As r)) := by
  unfold tJ.f
  have go : ∀ (d : Int) (w : rD), (Az r ∧ (r.Data.length : Int) ≤ d ∧ r.Epoch = w.Epoch ∧ r.Nonce = w.Nonce ∧ r.Job = w.Job ∧ r.Time = w.Time ∧ r.By = w.By ↔ As r) → Ev (fun k => vS (Sum.inl (d, w) : Sum (Int × rD) Bool) (fun (x : Int × rD) => (tJ.l1 k r 0).bind fun o_ => vS o_ (fun _ => (if (r.Data.length : Int) ≤ x.1 then (if r.Epoch = x.2.Epoch then (if r.Nonce = x.2.Nonce then (if r.Job = x.2.Job then (if r.Time = x.2.Time then (some (decide (r.By = x.2.By))) else (some (false))) else (some (false))) else (some (false))) else (some (false))) else (some (false))).bind fun g318 => some g318) (fun p_ => some p_)) (fun p_ => some p_)) (decide (As r)) := fun d w h => by
    rw [← decide_eq_decide.2 h]
    exact H4 r d w
  by_cases h1 : r.Kind = 1
  · by_cases h0 : r.Epoch < 1
    · refine Ev.bind (Ev.rG h1 (Ev.rG h0 (Ev.pure _))) ?_
      rw [decide_eq_false (by unfold As; omega)]
      exact Ev.pure _
    · refine Ev.bind (Ev.rG h1 (Ev.rZ h0 (Ev.pure _))) (go _ _ ?_)
      unfold As Az
      try dsimp only
      generalize (r.Nonce = List.replicate 32 0) = N
      by_cases hN : N <;> simp only [hN, true_and, false_and, and_true, or_false, and_false, false_or] <;> (constructor <;> intro h <;> first | omega | exact h.elim)
  · by_cases h2 : r.Kind = 2
    · refine Ev.bind (Ev.rZ h1 (Ev.rG h2 (Ev.pure _))) (go _ _ ?_)
      unfold As Az
      try dsimp only
      generalize (r.Nonce = List.replicate 32 0) = N
      by_cases hN : N <;> simp only [hN, true_and, false_and, and_true, or_false, and_false, false_or] <;> (constructor <;> intro h <;> first | omega | exact h.elim)
    · have h35 : (if r.Kind = 3 then some (decide (r.Kind = 3)) else some (decide (r.Kind = 5))) = some (decide (r.Kind = 3 ∨ r.Kind = 5)) := by
        by_cases h3 : r.Kind = 3 <;> simp [h3]
      by_cases h : r.Kind = 3 ∨ r.Kind = 5
      · refine Ev.bind (Ev.rZ h1 (Ev.rZ h2 (by rw [h35]; exact Ev.bind (Ev.pure _) (Ev.rG (decide_eq_true h) (Ev.pure _))))) (go _ _ ?_)
        unfold As Az
        try dsimp only
        generalize (r.Nonce = List.replicate 32 0) = N
        by_cases hN : N <;> simp only [hN, true_and, false_and, and_true, or_false, and_false, false_or] <;> (constructor <;> intro h <;> first | omega | exact h.elim)
      · by_cases h4 : r.Kind = 4
        · refine Ev.bind (Ev.rZ h1 (Ev.rZ h2 (by rw [h35]; exact Ev.bind (Ev.pure _) (Ev.rZ (by simpa using h) (Ev.rG h4 (Ev.pure _)))))) (go _ _ ?_)
          unfold As Az
          try dsimp only
          generalize (r.Nonce = List.replicate 32 0) = N
          by_cases hN : N <;> simp only [hN, true_and, false_and, and_true, or_false, and_false, false_or] <;> (constructor <;> intro h <;> first | omega | exact h.elim)
        · by_cases h6 : r.Kind = 6
          · refine Ev.bind (Ev.rZ h1 (Ev.rZ h2 (by rw [h35]; exact Ev.bind (Ev.pure _) (Ev.rZ (by simpa using h) (Ev.rZ h4 (Ev.rG h6 (Ev.pure _))))))) (go _ _ ?_)
            unfold As Az
            try dsimp only
            generalize (r.Nonce = List.replicate 32 0) = N
            by_cases hN : N <;> simp only [hN, true_and, false_and, and_true, or_false, and_false, false_or] <;> (constructor <;> intro h <;> first | omega | exact h.elim)
          · refine Ev.bind (Ev.rZ h1 (Ev.rZ h2 (by rw [h35]; exact Ev.bind (Ev.pure _) (Ev.rZ (by simpa using h) (Ev.rZ h4 (Ev.rZ h6 (Ev.pure _))))))) ?_
            rw [decide_eq_false (by unfold As; omega)]
            exact Ev.pure _
theorem H2 (k : Nat) (n a b : Int) : sQ.f k n a b = some (decide (a ≤ n ∧ n ≤ b)) := by
  unfold sQ.f
  congr 1
  simp only [ge_iff_le, Bool.decide_and]
end Go.Proofs.YtobdpbnadjkhiaaGreat.Pure
namespace Go.Proofs.YtobdpbnadjkhiaaGreat.Pure
open Go.WG Go.Proofs.YtobdpbnadjkhiaaGreat Go.Proofs.YtobdpbnadjkhiaaGreat.Ta
set_option linter.unusedSimpArgs false
set_option linter.unusedVariables false
theorem Du (c : rK) (k : Nat) : vQ.f k c = some (decide (vT c)) := by
 unfold vQ.f
 simp only [H2, Option.bind_some, decide_eq_true_eq]
 by_cases h1 : 0 ≤ c.Faulty ∧ c.Faulty ≤ 2
 ·rw [if_pos h1, tI (x := 2 * c.Faulty) (by omega) (by omega), tI (x := 2 * c.Faulty + 1) (by omega) (by omega)]
  by_cases h2 : 2 * c.Faulty + 1 ≤ c.Workers ∧ c.Workers ≤ 8
  ·rw [if_pos h2]
   by_cases h3 : 0 ≤ c.Height ∧ c.Height ≤ 6
   ·rw [if_pos h3]
    by_cases h4 : 0 ≤ c.Heads ∧ c.Heads ≤ 6
    ·rw [if_pos h4]
     by_cases h5 : 1 ≤ c.Bits ∧ c.Bits ≤ 256
     ·rw [if_pos h5]
      by_cases h6 : 1 ≤ c.Jobs ∧ c.Jobs ≤ 64
      ·rw [if_pos h6, Option.bind_some]
       exact congrArg some (decide_eq_decide.2 ⟨fun h7 => ⟨h1, h2, h3, h4, h5, h6, h7⟩, fun k => k.t⟩)
      ·rw [if_neg h6, Option.bind_some, decide_eq_false (fun k : vT c => h6 k.j)]
     ·rw [if_neg h5, Option.bind_some, decide_eq_false (fun k : vT c => h5 k.b)]
    ·rw [if_neg h4, Option.bind_some, decide_eq_false (fun k : vT c => h4 k.hd)]
   ·rw [if_neg h3, Option.bind_some, decide_eq_false (fun k : vT c => h3 k.h)]
  ·rw [if_neg h2, Option.bind_some, decide_eq_false (fun k : vT c => h2 k.w)]
 ·rw [if_neg h1, Option.bind_some, decide_eq_false (fun k : vT c => h1 k.f)]
theorem F6 (s : bF) (e : Int) (h : s.Eras.length ≤ 300) : Ev (fun k => uC.f k s e) (xA e s.Eras) := by
 have h1 : ∀ k a, uC.l1 k s e a = uG.l1 k s e a := fun k => by
  induction k with
  | zero => intro a; rfl
  | succ k ih => intro a; simp only [uC.l1, uG.l1, ih]
 refine (Gs s e h).congr fun k => ?_
 unfold uC.f uG.f
 rw [h1]
def xT : Int → List Int → Int → Int
 | _, [], _ => -1
 | i, x :: r, n => if x = n then i else xT (i + 1) r n
theorem Eu (n : Int) : ∀ (l : List Int) (b : Int), 0 ≤ b → (xT b l n < 0 ↔ ¬ n ∈ l) ∧ (¬ xT b l n < 0 → b ≤ xT b l n)
 | [], b, hb => ⟨by simp [xT], fun h => absurd (by simp [xT]) h⟩
 | x :: r, b, hb => by
  obtain ⟨h1, h2⟩ := Eu n r (b + 1) (by omega)
  unfold xT
  by_cases e : x = n
  ·rw [if_pos e]; exact ⟨⟨fun k => by omega, fun k => absurd (by simp [e]) k⟩, fun _ => Int.le_refl _⟩
  ·rw [if_neg e, h1, List.mem_cons]
   exact ⟨⟨fun k j => j.elim (fun q => e q.symm) k, fun k j => k (.inr j)⟩, fun k => by have := h2 (fun q => k (h1.1 q)); omega⟩
theorem El : ∀ (l : List Int) (b : Int) (i : Nat), 0 ≤ b → i < l.length → (xT b l (l.getD i 0) = b + i ↔ ¬ l.getD i 0 ∈ l.take i)
 | [], b, i, _, h => absurd h (by simp)
 | x :: r, b, 0, hb, h => by simp [xT]
 | x :: r, b, i + 1, hb, h => by
  have h1 := El r (b + 1) i (by omega) (by simpa using h)
  rw [List.getD_cons_succ, List.take_succ_cons, List.mem_cons, xT]
  by_cases e : x = r.getD i 0
  ·rw [if_pos e]
   exact ⟨fun k => by omega, fun k => absurd (.inl e.symm) k⟩
  ·rw [if_neg e, show b + ((i + 1 : Nat) : Int) = b + 1 + (i : Int) from by omega, h1]
   exact ⟨fun k j => j.elim (fun q => e q.symm) k, fun k j => k (.inr j)⟩
theorem GI (l : List Int) (n : Int) (h : l.length ≤ 1000) : Ev (fun k => tC.f k l n) (xT 0 l n) := by
 unfold tC.f
 have hloop : Ev (fun k => tC.l1 k l n 0) (if xT 0 l n < 0 then Sum.inl () else Sum.inr (xT 0 l n)) := by
  refine Ev.loop (n := l.length) (F := fun k j (_ : Unit) => tC.l1 k l n (j : Int)) (fun j _ => xT j (l.drop j) n = xT 0 l n) (fun j _ hj hI => ?_) (fun _ hI => ?_) () rfl
  ·simp only [tC.l1, Int.toNat_natCast, tU (show j < 9223372036854775807 by omega)]
   rw [drop_cons 0 hj, xT] at hI
   by_cases hc : l.getD j 0 = n
   ·rw [if_pos hc] at hI
    rw [← hI, if_neg (by omega)]
    exact .inl (Ev.rG (by omega) (Ev.rG (by omega) (Ev.rG hc (Ev.pure _))))
   ·rw [if_neg hc] at hI
    exact .inr ⟨(), by rw [← hI]; rfl, fun h => Ev.rG (by omega) (Ev.rG (by omega) (Ev.rZ hc h))⟩
  ·simp only [tC.l1]
   rw [List.drop_length, xT] at hI
   rw [← hI, if_pos (by omega)]
   exact Ev.rZ (by omega) (Ev.pure _)
 refine Ev.bind hloop ?_
 by_cases hb : xT 0 l n < 0
 ·have : xT 0 l n = -1 := by
   have : ∀ (l : List Int) (b : Int), 0 ≤ b → xT b l n < 0 → xT b l n = -1 := fun l => by
    induction l with
    | nil => intro b _ _; rfl
    | cons x r ih =>
     intro b h0 h1
     unfold xT at h1 ⊢
     split at h1
     ·omega
     ·rename_i e; rw [if_neg e]; exact ih (b + 1) (by omega) h1
   exact this l 0 (by omega) hb
  rw [if_pos hb, this]; exact Ev.pure _
 ·rw [if_neg hb]; exact Ev.pure _
theorem Dm {l : List rA} {f : Int} (h : (yO l f).2 = false) : (yO l f).1 = [] := by
 unfold yO at h ⊢
 by_cases hf : f < 0
 ·rw [if_pos hf]
 ·rw [if_neg hf] at h ⊢
  have : ∀ r : List rA, (dec l f r).2 = false → (dec l f r).1 = [] := fun r => by
   induction r with
   | nil => intro _; rfl
   | cons c r ih =>
    unfold dec
    split
    ·intro k; cases k
    ·exact ih
  exact this l h
theorem IT {c : rK} (hc : vT c) {j : bT} (hw : j.Workers.length ≤ 8) (h1 : (j.Workers.length : Int) = 2 * c.Faulty + 1) (h2 : (j.Indexes.length : Int) = 2 * c.Faulty + 1) :
  Ev (fun k => rY.l1 k c j 0) (two (B9 c j) (Sum.inl ()) (Sum.inr false)) := by
 have hF := hc.f; have hW := hc.w; have hK := hc.keys; have hH := hc.h.1
 have e1 : rB (c.Workers - 1) = c.Workers - 1 := tI (by omega) (by omega)
 have e2 : rB (vP .i64 1 c.Height - 1) = xO c - 1 := tI (by unfold xO at hK; omega) (by unfold xO at hK; omega)
 have e3 : rB (rB (2 * c.Faulty) + 1) = (j.Workers.length : Int) := by rw [tI (x := 2 * c.Faulty) (by omega) (by omega), tI (x := 2 * c.Faulty + 1) (by omega) (by omega), h1]
 refine Ev.loop (n := j.Workers.length) (F := fun k i (_ : Unit) => rY.l1 k c j (i : Int))
  (fun i _ => (j.Workers.take i).Nodup ∧ ∀ q < i, (0 ≤ j.Workers.getD q 0 ∧ j.Workers.getD q 0 ≤ c.Workers - 1) ∧ (0 ≤ j.Indexes.getD q 0 ∧ j.Indexes.getD q 0 ≤ xO c - 1)) (fun i _ hi hI => ?_) (fun _ hI => ?_) () ⟨by simp, fun q hq => by omega⟩
 ·obtain ⟨hn, hb⟩ := hI
  have hp := GI j.Workers (j.Workers.getD i 0) (by omega)
  have hat := El j.Workers 0 i (by omega) hi
  rw [Int.zero_add] at hat
  simp only [rY.l1, Int.toNat_natCast, H2, Option.bind_some, decide_eq_true_eq, tU (show i < 9223372036854775807 by omega), e1, e2, e3]
  by_cases h4 : 0 ≤ j.Workers.getD i 0 ∧ j.Workers.getD i 0 ≤ c.Workers - 1
  ·by_cases h3 : j.Workers.getD i 0 ∈ j.Workers.take i
   ·rw [xJ (fun k => Bz k.nd hi h3)]
    exact .inl (Ev.rG (by omega) (Ev.rG (by omega) (Ev.bind (a := true) (Ev.rG h4 (Ev.bind hp (Ev.rZ (fun e => (hat.1 e) h3) (Ev.pure _)))) (Ev.rG rfl (Ev.pure _)))))
   ·by_cases h5 : 0 ≤ j.Indexes.getD i 0 ∧ j.Indexes.getD i 0 ≤ xO c - 1
    ·refine .inr ⟨(), ⟨?_, fun q hq => ?_⟩, fun h => ?_⟩
     ·rw [take_succ 0 hi]; exact AF hn h3
     ·by_cases e : q = i
      ·subst e; exact ⟨h4, h5⟩
      ·exact hb q (by omega)
     ·refine Ev.rG (by omega) (Ev.rG (by omega) (Ev.bind (a := false) (Ev.rG h4 (Ev.bind hp (Ev.rG (hat.2 h3) (Ev.rG (by omega) (Ev.rG hH ?_))))) (Ev.rZ (by simp) h)))
      rw [decide_eq_true h5]; exact Ev.pure _
    ·rw [xJ (fun k => h5 (k.i i hi))]
     refine .inl (Ev.rG (by omega) (Ev.rG (by omega) (Ev.bind (a := true) (Ev.rG h4 (Ev.bind hp (Ev.rG (hat.2 h3) (Ev.rG (by omega) (Ev.rG hH ?_))))) (Ev.rG rfl (Ev.pure _)))))
     rw [decide_eq_false h5]; exact Ev.pure _
  ·rw [xJ (fun k => h4 (k.w i hi))]
   exact .inl (Ev.rG (by omega) (Ev.rG (by omega) (Ev.bind (a := true) (Ev.rZ h4 (Ev.pure _)) (Ev.rG rfl (Ev.pure _)))))
 ·obtain ⟨hn, hb⟩ := hI
  rw [List.take_length] at hn
  simp only [rY.l1, e3]
  rw [xZ ⟨h1, h2, hn, fun i hi => (hb i hi).1, fun i hi => (hb i hi).2⟩]
  exact Ev.rZ (by omega) (Ev.pure _)
def Dx (j : bT) : Prop := AQ j.rI ∧ ∀ v ∈ j.rI, v.Value.length ≤ 32 ∧ v.Worker ∈ j.Workers
theorem I2 {j : bT} (hj : Bd j) : Ev (fun k => rY.l2 k j 0) (two (Dx j) (Sum.inl ()) (Sum.inr false)) := by
 have h60 := hj.votes.1; have hw := hj.wk
 refine Ev.loop (n := j.rI.length) (F := fun k i (_ : Unit) => rY.l2 k j (i : Int)) (fun i _ => AQ (j.rI.take i) ∧ ∀ v ∈ j.rI.take i, v.Value.length ≤ 32 ∧ v.Worker ∈ j.Workers) (fun i _ hi hI => ?_) (fun _ hI => ?_) () ⟨by simp [AQ], by simp⟩
 ·obtain ⟨ho, hb⟩ := hI
  have hm := uJ rA.z hi
  have hp := GI j.Workers (j.rI.getD i rA.z).Worker (by omega)
  have hge := (Eu (j.rI.getD i rA.z).Worker j.Workers 0 (by omega)).1
  have hl3 : Ev (fun k => rY.l3 k j i 0) (two (∃ d ∈ j.rI.take i, d.Worker = (j.rI.getD i rA.z).Worker) (Sum.inr false) (Sum.inl ())) := by
   refine Ev.loop (n := i) (F := fun k q (_ : Unit) => rY.l3 k j i (q : Int)) (fun q _ => ¬ ∃ d ∈ j.rI.take q, d.Worker = (j.rI.getD i rA.z).Worker) (fun q _ hq hI => ?_) (fun _ hI => ?_) () (by simp)
   ·simp only [rY.l3, Int.toNat_natCast, tU (show q < 9223372036854775807 by omega)]
    by_cases h : (j.rI.getD q rA.z).Worker = (j.rI.getD i rA.z).Worker
    ·rw [xZ ⟨_, (Ds rA.z (by omega)).2 ⟨q, hq, rfl⟩, h⟩]
     exact .inl (Ev.rG (by omega) (Ev.rG (by omega) (Ev.rG h (Ev.pure _))))
    ·refine .inr ⟨(), ?_, fun k => Ev.rG (by omega) (Ev.rG (by omega) (Ev.rZ h k))⟩
     rw [take_succ rA.z (by omega)]
     rintro ⟨d, hd, he⟩
     rcases List.mem_append.1 hd with hd | hd
     ·exact hI ⟨d, hd, he⟩
     ·rw [List.mem_singleton.1 hd] at he; exact h he
   ·simp only [rY.l3]
    rw [xJ hI]
    exact Ev.rZ (by omega) (Ev.pure _)
  simp only [rY.l2, Int.toNat_natCast, tU (show i < 9223372036854775807 by omega)]
  by_cases h2 : (j.rI.getD i rA.z).Worker ∈ j.Workers
  ·have n2 : ¬ xT 0 j.Workers (j.rI.getD i rA.z).Worker < 0 := fun e => hge.1 e h2
   by_cases h1 : (j.rI.getD i rA.z).Value.length ≤ 32
   ·have st : ∀ {f : Nat → Option (Sum Unit Bool)} {r}, Ev f r → Ev (fun k => (tC.f k j.Workers (j.rI.getD i rA.z).Worker).bind fun e => (if e < 0 then (some (true)) else (some (decide ((((j.rI.getD i rA.z).Value).length : Int) > 32)))).bind fun d => if d = true then (some (Sum.inr false)) else f k) r := fun h =>
     Ev.bind hp (Ev.bind (a := false) (Ev.rZ n2 (by rw [decide_eq_false (by omega)]; exact Ev.pure _)) (Ev.rZ (by simp) h))
    by_cases h3 : ∃ d ∈ j.rI.take i, d.Worker = (j.rI.getD i rA.z).Worker
    ·rw [xZ h3] at hl3
     rw [xJ fun k => by
      obtain ⟨d, hd, he⟩ := h3
      have h3 := EF k.1 (i + 1)
      rw [take_succ rA.z hi] at h3
      unfold AQ at h3
      rw [List.map_append, List.nodup_append] at h3
      exact h3.2.2 _ (List.mem_map.2 ⟨d, hd, rfl⟩) _ (by simp) he]
     exact .inl (Ev.rG (by omega) (Ev.rG (by omega) (st (Ev.bind hl3 (Ev.pure _)))))
    ·rw [xJ h3] at hl3
     refine .inr ⟨(), ⟨?_, fun v hv => ?_⟩, fun h => Ev.rG (by omega) (Ev.rG (by omega) (st (Ev.bind hl3 h)))⟩
     ·rw [take_succ rA.z hi]
      unfold AQ
      rw [List.map_append]
      refine AF ho fun e => h3 ?_
      obtain ⟨d, hd, he⟩ := List.mem_map.1 e
      exact ⟨d, hd, he⟩
     ·rw [take_succ rA.z hi] at hv
      rcases List.mem_append.1 hv with hv | hv
      ·exact hb v hv
      ·rw [List.mem_singleton.1 hv]; exact ⟨h1, h2⟩
   ·rw [xJ fun k => h1 (k.2 _ hm).1]
    exact .inl (Ev.rG (by omega) (Ev.rG (by omega) (Ev.bind hp (Ev.bind (a := true) (Ev.rZ n2 (by rw [decide_eq_true (by omega)]; exact Ev.pure _)) (Ev.rG rfl (Ev.pure _))))))
  ·rw [xJ fun k => h2 (k.2 _ hm).2]
   exact .inl (Ev.rG (by omega) (Ev.rG (by omega) (Ev.bind hp (Ev.bind (a := true) (Ev.rG (hge.2 h2) (Ev.pure _)) (Ev.rG rfl (Ev.pure _))))))
 ·rw [List.take_length] at hI
  simp only [rY.l2]
  rw [xZ (show Dx j from hI)]
  exact Ev.rZ (by omega) (Ev.pure _)
theorem HB {c : rK} (hc : vT c) (s : bF) (hs : s.Eras.length ≤ 300) {j : bT} (hj : Bd j) : Ev (fun k => rY.f k c s j) (B (Sound c s j)) := by
 unfold rY.f
 have hF := hc.f
 have e3 : rB (rB (2 * c.Faulty) + 1) = 2 * c.Faulty + 1 := by rw [tI (x := 2 * c.Faulty) (by omega) (by omega), tI (x := 2 * c.Faulty + 1) (by omega) (by omega)]
 simp only [H2, Option.bind_some, decide_eq_true_eq, e3]
 have hv := hj.votes.1; have hx := hj.val.1; have hw := hj.wk; have hi := hj.ix
 by_cases h1 : j.Payload.length ≤ 64
 ·by_cases h2 : 0 ≤ j.Attempt ∧ j.Attempt ≤ 1099511627776
  ·refine Ev.bind (a := false) (Ev.rZ (by omega) (by rw [decide_eq_true h2]; exact Ev.pure _)) (Ev.rZ (by simp) ?_)
   by_cases h3 : j.State = 1
   ·refine Ev.rG h3 ?_
    have hB : B (Sound c s j) = B (Idle j) := BD ⟨fun k => k.k.elim id fun b => absurd h3 (by rcases b.st with h | h <;> (rw [h]; decide)), fun k => ⟨h1, h2, .inl k⟩⟩
    rw [hB]
    by_cases h4 : j.Epoch = 0
    ·by_cases h5 : j.Until = 0
     ·refine Ev.bind (Ev.rG h4 (Ev.rG h5 (Ev.pure _))) ?_
      rw [tI (x := (j.Workers.length : Int) + j.Indexes.length) (by omega) (by omega), tI (x := (j.Workers.length : Int) + j.Indexes.length + j.rI.length) (by omega) (by omega), tI (x := (j.Workers.length : Int) + j.Indexes.length + j.rI.length + j.Value.length) (by omega) (by omega)]
      rw [← FH]
      have : B ((j.Workers.length : Int) + j.Indexes.length + j.rI.length + j.Value.length = 0) = B (Idle j) := BD ⟨fun k => ⟨h3, h4, h5, D7.1 (by omega), D7.1 (by omega), D7.1 (by omega), D7.1 (by omega)⟩, fun k => by rw [k.w, k.i, k.v, k.x]; rfl⟩
      rw [this]
      exact Ev.pure _
     ·rw [B_f fun k => h5 k.u]
      exact Ev.bind (Ev.rG h4 (Ev.rZ h5 (Ev.pure _))) (Ev.pure _)
    ·rw [B_f fun k => h4 k.e]
     exact Ev.bind (Ev.rZ h4 (Ev.pure _)) (Ev.pure _)
   ·refine Ev.rZ h3 ?_
    have hB : B (Sound c s j) = B (E9 c s j) := BD ⟨fun k => k.k.elim (fun b => absurd b.s h3) id, fun k => ⟨h1, h2, .inr k⟩⟩
    rw [hB]
    by_cases h4 : j.State = 2 ∨ j.State = 3
    ·refine Ev.bind (a := false) ?_ (Ev.rZ (by simp) (Ev.bind (F6 s j.Epoch hs) ?_))
     ·by_cases h5 : j.State = 2
      ·exact Ev.rG h5 (Ev.pure _)
      ·exact Ev.rZ h5 (by rw [decide_eq_true (h4.resolve_left h5)]; exact Ev.pure _)
     by_cases h6 : j.Attempt < 1
     ·rw [B_f fun k : E9 c s j => by have := k.a; omega]
      exact Ev.bind (a := true) (Ev.rG h6 (Ev.pure _)) (Ev.rG rfl (Ev.pure _))
     by_cases h5 : (xA j.Epoch s.Eras).2 = true
     ·by_cases h7 : 1 ≤ j.Until ∧ j.Until ≤ 1099511627776
      ·by_cases h8 : (j.Workers.length : Int) = 2 * c.Faulty + 1
       ·by_cases h9 : (j.Indexes.length : Int) = 2 * c.Faulty + 1
        ·have hl1 := IT hc hw h8 h9
         have hl2 := I2 hj
         by_cases h10 : (j.rI.length : Int) ≤ 2 * c.Faulty + 1
         ·refine Ev.bind (a := false) (Ev.rZ h6 (Ev.rG h5 (Ev.rG h7 (Ev.rG h8 (Ev.rG h9 (by rw [decide_eq_false (by omega)]; exact Ev.pure _)))))) (Ev.rZ (by simp) (Ev.bind hl1 ?_))
          by_cases h11 : B9 c j
          ·simp only [xZ h11, vS]
           refine Ev.bind hl2 ?_
           by_cases h12 : Dx j
           ·simp only [xZ h12, vS]
            refine Ev.bind (FI hj.votes c.Faulty) ?_
            have hB : B (E9 c s j) = B (yO j.rI c.Faulty = (j.Value, decide (j.State = 3))) := BD ⟨fun k => k.vt.dec, fun k => ⟨h4, h5, by omega, h7, h11, ⟨h12.1, fun v hv => by
             obtain ⟨g1, g2⟩ := h12.2 v hv
             obtain ⟨q, hq, he⟩ := List.mem_iff_getElem.1 g2
             have := h11.w q hq
             rw [List.getD_eq_getElem?_getD, List.getElem?_eq_getElem hq, Option.getD_some, he] at this
             exact ⟨this.1, g1, g2⟩, k⟩⟩⟩
            rw [hB]
            by_cases h13 : j.State = 2
            ·refine Ev.rG h13 ?_
             have h3n : decide (j.State = 3) = false := decide_eq_false (by omega)
             by_cases h14 : (yO j.rI c.Faulty).2 = true
             ·rw [B_f (P := yO j.rI c.Faulty = (j.Value, decide (j.State = 3))) fun k => by rw [k, h3n] at h14; cases h14]
              exact Ev.bind (Ev.rG h14 (Ev.pure _)) (Ev.pure _)
             ·have h15 := Dm (by simpa using h14)
              have : B (yO j.rI c.Faulty = (j.Value, decide (j.State = 3))) = decide ((j.Value.length : Int) = 0) := by
               refine (BD ?_).trans FH
               exact ⟨fun k => by rw [k] at h15; have h16 : j.Value = [] := h15; rw [h16]; rfl, fun k => by rw [h3n]; have h16 : j.Value = [] := D7.1 (by omega); exact Prod.ext (by rw [h15, h16]) (by simpa using h14)⟩
              rw [this]
              exact Ev.bind (Ev.rZ h14 (Ev.pure _)) (Ev.pure _)
            ·refine Ev.rZ h13 ?_
             have h3n : decide (j.State = 3) = true := decide_eq_true (h4.resolve_left h13)
             by_cases h14 : (yO j.rI c.Faulty).2 = true
             ·have he := zG (yO j.rI c.Faulty).1 j.Value (by have := (Cq hj.votes c.Faulty).1; omega)
              have : B (yO j.rI c.Faulty = (j.Value, decide (j.State = 3))) = decide ((yO j.rI c.Faulty).1 = j.Value) := by
               refine (BD ?_).trans FH
               exact ⟨fun k => by rw [k], fun k => by rw [h3n]; exact Prod.ext k h14⟩
              rw [this]
              exact Ev.bind (Ev.rG h14 (Ev.bind he (Ev.pure _))) (Ev.pure _)
             ·rw [B_f (P := yO j.rI c.Faulty = (j.Value, decide (j.State = 3))) fun k => by rw [k, h3n] at h14; exact h14 rfl]
              exact Ev.bind (Ev.rZ h14 (Ev.pure _)) (Ev.pure _)
           ·simp only [xJ h12, vS]
            rw [B_f fun k => h12 ⟨k.vt.once, fun v hv => (k.vt.each v hv).2⟩]
            exact Ev.pure _
          ·simp only [xJ h11, vS]
           rw [B_f fun k => h11 k.cr]
           exact Ev.pure _
         ·rw [B_f fun k => h10 (by
           have := Bb k.vt.once fun v hv => (k.vt.each v hv).2.2
           omega)]
          exact Ev.bind (a := true) (Ev.rZ h6 (Ev.rG h5 (Ev.rG h7 (Ev.rG h8 (Ev.rG h9 (by rw [decide_eq_true (by omega)]; exact Ev.pure _)))))) (Ev.rG rfl (Ev.pure _))
        ·rw [B_f fun k => h9 k.cr.li]
         exact Ev.bind (a := true) (Ev.rZ h6 (Ev.rG h5 (Ev.rG h7 (Ev.rG h8 (Ev.rZ h9 (Ev.pure _)))))) (Ev.rG rfl (Ev.pure _))
       ·rw [B_f fun k => h8 k.cr.lw]
        exact Ev.bind (a := true) (Ev.rZ h6 (Ev.rG h5 (Ev.rG h7 (Ev.rZ h8 (Ev.pure _))))) (Ev.rG rfl (Ev.pure _))
      ·rw [B_f fun k => h7 k.u]
       exact Ev.bind (a := true) (Ev.rZ h6 (Ev.rG h5 (Ev.rZ h7 (Ev.pure _)))) (Ev.rG rfl (Ev.pure _))
     ·rw [B_f fun k => h5 k.n]
      exact Ev.bind (a := true) (Ev.rZ h6 (Ev.rZ h5 (Ev.pure _))) (Ev.rG rfl (Ev.pure _))
    ·rw [B_f fun k => h4 k.st]
     exact Ev.bind (a := true) (Ev.rZ (fun e => h4 (.inl e)) (by rw [decide_eq_false (fun e => h4 (.inr e))]; exact Ev.pure _)) (Ev.rG rfl (Ev.pure _))
  ·rw [B_f fun k => h2 k.a]
   exact Ev.bind (a := true) (Ev.rZ (by omega) (by rw [decide_eq_false h2]; exact Ev.pure _)) (Ev.rG rfl (Ev.pure _))
 ·rw [B_f fun k => h1 k.p]
  exact Ev.bind (a := true) (Ev.rG (by omega) (Ev.pure _)) (Ev.rG rfl (Ev.pure _))
end Go.Proofs.YtobdpbnadjkhiaaGreat.Pure
namespace Go.Proofs.YtobdpbnadjkhiaaGreat.Pure
open Go.WG Go.Proofs.YtobdpbnadjkhiaaGreat Go.Proofs.YtobdpbnadjkhiaaGreat.Ta
set_option linter.unusedSimpArgs false
set_option linter.unusedVariables false
theorem FQ {c : rK} (hc : vT c) {s : bF} (hs : AB s) : Ev (fun k => rN.f k c s) (B (Good c s)) := by
 unfold rN.f
 have hH := hc.h.1; have hHd := hc.hd.1; have hK := hc.keys
 have hj1 := hs.jobs; have he1 := hs.eras; have hu1 := hs.used
 simp only [H2, Option.bind_some, decide_eq_true_eq]
 have g0 : ∀ {X : Nat → Option Bool}, ¬ ((s.Used.length : Int) = c.Workers ∧ (s.Barred.length : Int) = c.Workers ∧ (0 ≤ s.Heads ∧ s.Heads ≤ vP .i64 1 c.Heads) ∧ s.Eras.length ≤ 256 ∧ (s.Jobs.length : Int) ≤ c.Jobs) →
   Ev (fun k => (if (s.Used.length : Int) = c.Workers then (if (s.Barred.length : Int) = c.Workers then (if 0 ≤ c.Heads then (if 0 ≤ s.Heads ∧ s.Heads ≤ vP .i64 1 c.Heads then (if (s.Eras.length : Int) > 256 then (some (true)) else (some (decide ((s.Jobs.length : Int) > c.Jobs)))) else (some (true))) else none) else (some (true))) else (some (true))).bind fun g => if g = true then (some false) else X k) (B (Good c s)) := by
  intro X hn
  rw [B_f fun k => hn ⟨k.u, k.b, k.h, k.e, k.j⟩]
  refine Ev.bind (a := true) ?_ (Ev.rG rfl (Ev.pure _))
  refine (Ev.pure _).congr fun _ => ?_
  by_cases h1 : (s.Used.length : Int) = c.Workers
  ·by_cases h2 : (s.Barred.length : Int) = c.Workers
   ·by_cases h3 : 0 ≤ s.Heads ∧ s.Heads ≤ vP .i64 1 c.Heads
    ·rw [if_pos h1, if_pos h2, if_pos hHd, if_pos h3]
     by_cases h4 : (s.Eras.length : Int) > 256
     ·rw [if_pos h4]
     ·rw [if_neg h4, decide_eq_true (Int.not_le.1 fun k => hn ⟨h1, h2, h3, by omega, k⟩)]
    ·rw [if_pos h1, if_pos h2, if_pos hHd, if_neg h3]
   ·rw [if_pos h1, if_neg h2]
  ·rw [if_neg h1]
 by_cases hA : (s.Used.length : Int) = c.Workers ∧ (s.Barred.length : Int) = c.Workers ∧ (0 ≤ s.Heads ∧ s.Heads ≤ vP .i64 1 c.Heads) ∧ s.Eras.length ≤ 256 ∧ (s.Jobs.length : Int) ≤ c.Jobs
 ·obtain ⟨h1, h2, h3, h4, h5⟩ := hA
  refine Ev.bind (a := false) (Ev.rG h1 (Ev.rG h2 (Ev.rG hHd (Ev.rG h3 (Ev.rZ (by omega) (by rw [decide_eq_false (by omega)]; exact Ev.pure _)))))) (Ev.rZ (by simp) ?_)
  have hl1 : Ev (fun k => rN.l1 k c s 0) (two (∀ i < s.Used.length, 0 ≤ s.Used.getD i 0 ∧ s.Used.getD i 0 ≤ xO c) (Sum.inl ()) (Sum.inr false)) := by
   refine Ev.loop (n := s.Used.length) (F := fun k i (_ : Unit) => rN.l1 k c s (i : Int)) (fun i _ => ∀ q < i, 0 ≤ s.Used.getD q 0 ∧ s.Used.getD q 0 ≤ xO c) (fun i _ hi hI => ?_) (fun _ hI => ?_) () (fun q hq => by omega)
   ·simp only [rN.l1, Int.toNat_natCast, H2, Option.bind_some, decide_eq_true_eq, tU (show i < 9223372036854775807 by omega)]
    by_cases h : 0 ≤ s.Used.getD i 0 ∧ s.Used.getD i 0 ≤ xO c
    ·refine .inr ⟨(), fun q hq => ?_, fun k => Ev.rG (by omega) (Ev.rG (by omega) (Ev.rG hH (Ev.rG h k)))⟩
     by_cases e : q = i
     ·subst e; exact h
     ·exact hI q (by omega)
    ·rw [xJ fun k => h (k i hi)]
     exact .inl (Ev.rG (by omega) (Ev.rG (by omega) (Ev.rG hH (Ev.rZ h (Ev.pure _)))))
   ·simp only [rN.l1]
    rw [xZ hI]
    exact Ev.rZ (by omega) (Ev.pure _)
  have hl2 : Ev (fun k => rN.l2 k s 0 0) (two (An 0 s.Eras) (Sum.inl ()) (Sum.inr false)) := by
   refine Ev.loop (n := s.Eras.length) (F := fun k i (l : Int) => rN.l2 k s l (i : Int)) (fun i l => An 0 s.Eras ↔ An l (s.Eras.drop i)) (fun i l hi hI => ?_) (fun l hI => ?_) 0 Iff.rfl
   ·rw [drop_cons sD.z hi] at hI
    simp only [rN.l2, Int.toNat_natCast, tU (show i < 9223372036854775807 by omega)]
    have st : (if (s.Eras.getD i sD.z).Epoch ≤ l then some true else some (decide ((s.Eras.getD i sD.z).Epoch > 1099511627776))) = some (!decide (l + 1 ≤ (s.Eras.getD i sD.z).Epoch ∧ (s.Eras.getD i sD.z).Epoch ≤ 1099511627776)) := by
     split
     ·rw [decide_eq_false (by omega)]; rfl
     ·congr 1
      rw [← decide_not]
      exact decide_eq_decide.2 (by omega)
    simp only [st, Option.bind_some]
    by_cases h : l + 1 ≤ (s.Eras.getD i sD.z).Epoch ∧ (s.Eras.getD i sD.z).Epoch ≤ 1099511627776
    ·exact .inr ⟨(s.Eras.getD i sD.z).Epoch, hI.trans ⟨fun k => k.2, fun k => ⟨h, k⟩⟩, fun k => Ev.rG (by omega) (Ev.rG (by omega) (Ev.rZ (by rw [decide_eq_true h]; simp) k))⟩
    ·rw [xJ fun k => h (hI.1 k).1]
     exact .inl (Ev.rG (by omega) (Ev.rG (by omega) (Ev.rG (by rw [decide_eq_false h]; rfl) (Ev.pure _))))
   ·simp only [rN.l2]
    rw [xZ (hI.2 (by rw [List.drop_length]; trivial))]
    exact Ev.rZ (by omega) (Ev.pure _)
  have hl3 : Ev (fun k => rN.l3 k c s 0) (two (∀ i < s.Jobs.length, Sound c s (s.Jobs.getD i bT.z)) (Sum.inl ()) (Sum.inr false)) := by
   refine Ev.loop (n := s.Jobs.length) (F := fun k i (_ : Unit) => rN.l3 k c s (i : Int)) (fun i _ => ∀ q < i, Sound c s (s.Jobs.getD q bT.z)) (fun i _ hi hI => ?_) (fun _ hI => ?_) () (fun q hq => by omega)
   ·have hsd := HB hc s he1 (hs.each _ (uJ bT.z hi))
    simp only [rN.l3, Int.toNat_natCast, tU (show i < 9223372036854775807 by omega)]
    by_cases h : Sound c s (s.Jobs.getD i bT.z)
    ·rw [B_t h] at hsd
     refine .inr ⟨(), fun q hq => ?_, fun k => Ev.rG (by omega) (Ev.rG (by omega) (Ev.bind hsd (Ev.rG rfl k)))⟩
     by_cases e : q = i
     ·subst e; exact h
     ·exact hI q (by omega)
    ·rw [B_f h] at hsd
     rw [xJ fun k => h (k i hi)]
     exact .inl (Ev.rG (by omega) (Ev.rG (by omega) (Ev.bind hsd (Ev.rZ (by simp) (Ev.pure _)))))
   ·simp only [rN.l3]
    rw [xZ hI]
    exact Ev.rZ (by omega) (Ev.pure _)
  refine Ev.bind hl1 ?_
  by_cases g1 : ∀ i < s.Used.length, 0 ≤ s.Used.getD i 0 ∧ s.Used.getD i 0 ≤ xO c
  ·simp only [xZ g1, vS]
   refine Ev.bind hl2 ?_
   by_cases g2 : An 0 s.Eras
   ·simp only [xZ g2, vS]
    refine Ev.bind hl3 ?_
    by_cases g3 : ∀ i < s.Jobs.length, Sound c s (s.Jobs.getD i bT.z)
    ·simp only [xZ g3, vS]
     rw [B_t ⟨h1, h2, h3, h4, h5, g1, g2, g3⟩]; exact Ev.pure _
    ·simp only [xJ g3, vS]
     rw [B_f fun k => g3 k.jb]; exact Ev.pure _
   ·simp only [xJ g2, vS]
    rw [B_f fun k => g2 k.er]; exact Ev.pure _
  ·simp only [xJ g1, vS]
   rw [B_f fun k => g1 k.un]; exact Ev.pure _
 ·exact g0 hA
theorem Gl {s : bF} (hs : AB s) : Ev (fun k => sB.f k s s) true := by
 unfold sB.f
 have h1 := hs.eras; have h2 := hs.used; have h3 := hs.bar; have h4 := hs.jobs
 have su := DR s.Used s.Used (by omega)
 rw [decide_eq_true rfl] at su
 have hl1 : Ev (fun k => sB.l1 k s s 0) (Sum.inl ()) := by
  refine Ev.loop (n := s.Barred.length) (F := fun k i (_ : Unit) => sB.l1 k s s (i : Int)) (fun _ _ => True) (fun i _ hi _ => ?_) (fun _ _ => ?_) () trivial
  ·simp only [sB.l1, Int.toNat_natCast, tU (show i < 9223372036854775807 by omega)]
   exact .inr ⟨(), trivial, fun k => Ev.rG (by omega) (Ev.rG (by omega) (Ev.rG (by omega) (Ev.rG trivial k)))⟩
  ·simp only [sB.l1]
   exact Ev.rZ (by omega) (Ev.pure _)
 have hl2 : Ev (fun k => sB.l2 k s s 0) (Sum.inl ()) := by
  refine Ev.loop (n := s.Eras.length) (F := fun k i (_ : Unit) => sB.l2 k s s (i : Int)) (fun _ _ => True) (fun i _ hi _ => ?_) (fun _ _ => ?_) () trivial
  ·simp only [sB.l2, Int.toNat_natCast, tU (show i < 9223372036854775807 by omega)]
   exact .inr ⟨(), trivial, fun k => Ev.rG (by omega) (Ev.rG (by omega) (Ev.rG (by omega) (Ev.rG ⟨trivial, trivial⟩ k)))⟩
  ·simp only [sB.l2]
   exact Ev.rZ (by omega) (Ev.pure _)
 have hl3 : Ev (fun k => sB.l3 k s s 0) (Sum.inl ()) := by
  refine Ev.loop (n := s.Jobs.length) (F := fun k i (_ : Unit) => sB.l3 k s s (i : Int)) (fun _ _ => True) (fun i _ hi _ => ?_) (fun _ _ => ?_) () trivial
  ·have hj := hs.each _ (uJ bT.z hi)
   have g1 := hj.pay.1; have g2 := hj.wk; have g3 := hj.ix; have g4 := hj.val.1
   have p1 := zG (s.Jobs.getD i bT.z).Payload (s.Jobs.getD i bT.z).Payload (by omega)
   have p2 := zG (s.Jobs.getD i bT.z).Value (s.Jobs.getD i bT.z).Value (by omega)
   have p3 := DR (s.Jobs.getD i bT.z).Workers (s.Jobs.getD i bT.z).Workers (by omega)
   have p4 := DR (s.Jobs.getD i bT.z).Indexes (s.Jobs.getD i bT.z).Indexes (by omega)
   have p5 := HE hj.votes
   rw [decide_eq_true rfl] at p1 p2 p3 p4
   simp only [sB.l3, Int.toNat_natCast, tU (show i < 9223372036854775807 by omega)]
   exact .inr ⟨(), trivial, fun k => Ev.rG (by omega) (Ev.rG (by omega) (Ev.rG (by omega) (Ev.bind (a := false) (Ev.rG trivial (Ev.rG trivial (Ev.rG trivial (Ev.rG trivial (Ev.bind p1 (Ev.rG rfl (Ev.bind p2 (Ev.rG rfl (Ev.bind p3 (Ev.rG rfl (Ev.bind p4 (Ev.rG rfl (Ev.bind p5 (Ev.pure _)))))))))))))) (Ev.rZ (by simp) k))))⟩
  ·simp only [sB.l3]
   exact Ev.rZ (by omega) (Ev.pure _)
 refine Ev.bind (a := false) (Ev.rG rfl (Ev.bind su (Ev.rG rfl (Ev.rG rfl (Ev.rG rfl (by rw [decide_eq_true rfl]; exact Ev.pure _)))))) (Ev.rZ (by simp) ?_)
 exact Ev.bind hl1 (Ev.bind hl2 (Ev.bind hl3 (Ev.pure _)))
end Go.Proofs.YtobdpbnadjkhiaaGreat.Pure
namespace Go.Proofs.YtobdpbnadjkhiaaGreat
open Go.RowKit Go.WG
set_option linter.unusedVariables false
set_option linter.unusedSimpArgs false
set_option maxRecDepth 100000
set_option maxHeartbeats 4000000
theorem rd3 : Rd Tryz.prog (Kd.int .i64) (fun x => (Lit.int .i64 x).wf = true) 3 := Rd.int Tryz.underlying3
def KC (x : rK) : Prop := (Lit.int .i64 x.Faulty).wf = true ∧ (Lit.int .i64 x.Workers).wf = true ∧ (Lit.int .i64 x.Height).wf = true ∧ (Lit.int .i64 x.Bits).wf = true ∧ (Lit.int .i64 x.Jobs).wf = true ∧ (Lit.int .i64 x.Term).wf = true ∧ (Lit.int .i64 x.Heads).wf = true
theorem Lg : Rd Tryz.prog rK.K KC 42 := Rd.struct (fun x : rK => (x.Faulty, (x.Workers, (x.Height, (x.Bits, (x.Jobs, (x.Term, x.Heads))))))) (fun x => ⟨x.1, x.2.1, x.2.2.1, x.2.2.2.1, x.2.2.2.2.1, x.2.2.2.2.2.1, x.2.2.2.2.2.2⟩) (fun _ => rfl) Tryz.underlying42 (by kernel_rfl) (RdP.cons rfl (by kernel_rfl) rd3 (by kernel_rfl) (RdP.cons rfl (by kernel_rfl) rd3 (by kernel_rfl) (RdP.cons rfl (by kernel_rfl) rd3 (by kernel_rfl) (RdP.cons rfl (by kernel_rfl) rd3 (by kernel_rfl) (RdP.cons rfl (by kernel_rfl) rd3 (by kernel_rfl) (RdP.cons rfl (by kernel_rfl) rd3 (by kernel_rfl) (RdP.one rfl (by kernel_rfl) rd3)))))))
theorem rd5 : Rd Tryz.prog (Kd.int .u8) (fun x => (Lit.int .u8 x).wf = true) 5 := Rd.int Tryz.underlying5
def Kw (x : List Int) : Prop := x.length = 32 ∧ ∀ y ∈ x, (Lit.int .u8 y).wf = true
theorem Le : Rd Tryz.prog (Kd.Eb 32 .u8) Kw 23 := Rd.arr Tryz.underlying23 Tryz.underlying5 (by kernel_rfl) (by kernel_rfl)
def Jy (x : List Int) : Prop := x.length * 1 ≤ reachBytes ∧ ∀ y ∈ x, (Lit.int .u8 y).wf = true
theorem Kg : Rd Tryz.prog (Kd.slice (Kd.int .u8)) Jy 24 := Rd.slice (b := 1) Tryz.underlying24 (by kernel_rfl) (by kernel_rfl) (by decide) rd5
def Ki (x : rD) : Prop := (Lit.int .i64 x.Kind).wf = true ∧ (Lit.int .i64 x.Epoch).wf = true ∧ Kw x.Nonce ∧ Jy x.Data ∧ (Lit.int .i64 x.Job).wf = true ∧ (Lit.int .i64 x.Time).wf = true ∧ (Lit.int .i64 x.By).wf = true
theorem KW : Rd Tryz.prog rD.K Ki 26 := Rd.struct (fun x : rD => (x.Kind, (x.Epoch, (x.Nonce, (x.Data, (x.Job, (x.Time, x.By))))))) (fun x => ⟨x.1, x.2.1, x.2.2.1, x.2.2.2.1, x.2.2.2.2.1, x.2.2.2.2.2.1, x.2.2.2.2.2.2⟩) (fun _ => rfl) Tryz.underlying26 (by kernel_rfl) (RdP.cons rfl (by kernel_rfl) rd3 (by kernel_rfl) (RdP.cons rfl (by kernel_rfl) rd3 (by kernel_rfl) (RdP.cons rfl (by kernel_rfl) Le (by kernel_rfl) (RdP.cons rfl (by kernel_rfl) Kg (by kernel_rfl) (RdP.cons rfl (by kernel_rfl) rd3 (by kernel_rfl) (RdP.cons rfl (by kernel_rfl) rd3 (by kernel_rfl) (RdP.one rfl (by kernel_rfl) rd3)))))))
def ID (x : List rD) : Prop := x.length * 96 ≤ reachBytes ∧ ∀ y ∈ x, Ki y
theorem KU : Rd Tryz.prog (Kd.slice rD.K) ID 43 := Rd.slice (b := 96) Tryz.underlying43 (by kernel_rfl) (by kernel_rfl) (by decide) KW
end Go.Proofs.YtobdpbnadjkhiaaGreat
namespace Go.Proofs.YtobdpbnadjkhiaaGreat.Pure
open Go.WG Go.Proofs.YtobdpbnadjkhiaaGreat Go.Proofs.YtobdpbnadjkhiaaGreat.Ta
set_option linter.unusedSimpArgs false
set_option linter.unusedVariables false
theorem Gt {j : bT} (h : Bd j) : Bd (idle j) := ⟨h.pay, ⟨by simp [idle], by simp [idle]⟩, ⟨by simp [idle], by simp [idle]⟩, by simp [idle], by simp [idle]⟩
theorem EK {J : List bT} {i : Nat} {x : bT} (h : ∀ j ∈ J, Bd j) (hx : Bd x) : ∀ j ∈ J.set i x, Bd j := fun j hj => (List.mem_or_eq_of_mem_set hj).elim (h j) fun e => e ▸ hx
theorem JJ {c : rK} (hc : vT c) {s t : bF} (hs : AB s) (hg : Good c s) {r : rD} (hr : Byt r.Data) (h : CP c s r = (0, t)) : AB t := by
 unfold CP at h
 split at h
 ·unfold B3 at h
  split at h
  ·cases h
  ·split at h
   ·cases h
   ·injection h with _ h; subst h
    rename_i g
    refine ⟨?_, by simpa using hs.jobs, fun j hj => ?_, hs.used, hs.bar⟩
    ·simp only [List.length_append, List.length_singleton]; omega
    ·obtain ⟨x, hx, rfl⟩ := List.mem_map.1 hj
     unfold xW
     split
     ·exact Gt (hs.each x hx)
     ·exact hs.each x hx
 split at h
 ·unfold Br at h
  split at h
  ·cases h
  ·split at h
   ·cases h
   ·injection h with _ h; subst h
    rename_i g
    have := hc.j
    refine ⟨hs.eras, by simp only [List.length_append, List.length_singleton]; omega, fun j hj => ?_, hs.used, hs.bar⟩
    rcases List.mem_append.1 hj with hj | hj
    ·exact hs.each j hj
    ·rw [List.mem_singleton.1 hj]
     exact ⟨hr, ⟨by simp, by simp⟩, ⟨by simp, by simp⟩, by simp, by simp⟩
 split at h
 ·unfold Bk at h
  split at h
  ·cases h
  ·split at h
   ·split at h
    ·split at h
     ·cases h
     ·split at h
      ·injection h with _ h; subst h
       rename_i g1 _ _ g2 _
       have hF := hc.f
       have hi : (r.Job - 1).toNat < s.Jobs.length := by omega
       have hj := hs.each _ (uJ bT.z hi)
       obtain ⟨m1, _, _⟩ := D2 g2
       obtain ⟨u1, u2⟩ := CF (Cr.Aw s.Used s.Barred (xO c) (2 * c.Faulty + 1)).1 s.Used
       refine ⟨hs.eras, by simpa using hs.jobs, EK hs.each ⟨hj.pay, hj.val, hj.votes, by dsimp only; omega, by dsimp only; omega⟩, by show _ ≤ 8; rw [u2]; exact hs.used, hs.bar⟩
      ·rename_i g2; injection h with h _; exact absurd h g2
    ·cases h
   ·cases h
 split at h
 ·unfold DW at h
  split at h
  ·rename_i g1
   have hi : (r.Job - 1).toNat < s.Jobs.length := by omega
   have hj := hs.each _ (uJ bT.z hi)
   have hsd := hg.jb _ hi
   generalize hi' : (r.Job - 1).toNat = i at hi hj hsd h
   generalize hje : s.Jobs.getD i bT.z = j at hj hsd h
   split at h
   ·cases h
   ·rename_i gs
    have hb : E9 c s j := hsd.k.resolve_left fun k => gs k.s
    have hl := Bb hb.vt.once fun v hv => (hb.vt.each v hv).2.2
    have hw := hj.wk
    have hV : rI (yT j.rI ⟨r.By, r.Data⟩).1 := ED hj.votes (by omega) hr
    split at h
    ·split at h
     ·split at h
      ·injection h with _ h; subst h
       exact ⟨hs.eras, by simpa using hs.jobs, EK hs.each ⟨hj.pay, Cq hV _, hV, hj.wk, hj.ix⟩, hs.used, by rw [Cf]; exact hs.bar⟩
      ·injection h with _ h; subst h
       exact ⟨hs.eras, by simpa using hs.jobs, EK hs.each ⟨hj.pay, hj.val, hV, hj.wk, hj.ix⟩, hs.used, hs.bar⟩
     ·rename_i g2; injection h with h _; exact absurd h g2
    ·cases h
  ·cases h
 split at h
 ·unfold Bj at h
  split at h
  ·split at h
   ·split at h
    ·cases h
    ·injection h with _ h; subst h
     rename_i g1 _ _ _
     have hi : (r.Job - 1).toNat < s.Jobs.length := by omega
     exact ⟨hs.eras, by simpa using hs.jobs, EK hs.each (Gt (hs.each _ (uJ bT.z hi))), hs.used, hs.bar⟩
   ·cases h
  ·cases h
 ·unfold DD at h
  split at h
  ·cases h
  ·split at h
   ·cases h
   ·injection h with _ h; subst h
    exact ⟨hs.eras, hs.jobs, hs.each, hs.used, hs.bar⟩
theorem JP (c : rK) : AB (Fe c).1 := by
 unfold Fe
 split
 ·rename_i h
  have := h.w
  exact ⟨by simp, by simp, by simp, by simp; omega, by simp; omega⟩
 ·exact ⟨by simp, by simp, by simp, by simp, by simp⟩
theorem Ju {l : List rD} (h : ID l) : ∀ r ∈ l, ∀ x ∈ r.Data, 0 ≤ x ∧ x < 256 := fun r hr x hx => wf8 ((h.2 r hr).2.2.2.1.2 x hx)
end Go.Proofs.YtobdpbnadjkhiaaGreat.Pure
namespace Go.Proofs.YtobdpbnadjkhiaaGreat.Pure
open Go.WG Go.Proofs.YtobdpbnadjkhiaaGreat Go.Proofs.YtobdpbnadjkhiaaGreat.Ta
set_option linter.unusedSimpArgs false
set_option linter.unusedVariables false
theorem Ej {σ ρ : Type} {n : Nat} {F : Nat → Nat → σ → Option ρ} (Inv : Nat → σ → Prop) (R : ρ → Prop)
  (hs : ∀ j s, j < n → Inv j s → (∃ r, Ev (fun k => F (k + 1) j s) r ∧ R r) ∨ ∃ s', Inv (j + 1) s' ∧ ∀ r, Ev (fun k => F k (j + 1) s') r → Ev (fun k => F (k + 1) j s) r)
  (he : ∀ s, Inv n s → ∃ r, Ev (fun k => F (k + 1) n s) r ∧ R r) : ∀ s, Inv 0 s → ∃ r, Ev (fun k => F k 0 s) r ∧ R r := by
 have key : ∀ m j s, n - j = m → j ≤ n → Inv j s → ∃ r, Ev (fun k => F k j s) r ∧ R r := by
  intro m
  induction m with
  | zero =>
   intro j s hm hj hI
   obtain rfl : j = n := by omega
   obtain ⟨r, h, hr⟩ := he s hI
   exact ⟨r, Ev.succ (f := fun k => F k j s) h, hr⟩
  | succ m ih =>
   intro j s hm hj hI
   rcases hs j s (by omega) hI with ⟨r, h, hr⟩ | ⟨s', hI', h⟩
   ·exact ⟨r, Ev.succ (f := fun k => F k j s) h, hr⟩
   ·obtain ⟨r, k, hr⟩ := ih (j + 1) s' (by omega) (by omega) hI'
    exact ⟨r, Ev.succ (f := fun k => F k j s) (h r k), hr⟩
 exact fun s hI => key n 0 s rfl (Nat.zero_le _) hI
end Go.Proofs.YtobdpbnadjkhiaaGreat.Pure
namespace Go.Proofs.YtobdpbnadjkhiaaGreat.Rs
open Go.WG Go.Proofs.YtobdpbnadjkhiaaGreat Go.Proofs.YtobdpbnadjkhiaaGreat.Pure Go.Proofs.YtobdpbnadjkhiaaGreat.Ta Go.Proofs.YtobdpbnadjkhiaaGreat.Rc
set_option linter.unusedSimpArgs false
set_option linter.unusedVariables false
theorem yD {most : Int} (h0 : 0 ≤ most) {s : RS} (h : Ok s) : 0 ≤ (vB most s).1 ∧ (vB most s).1 ≤ most := by
 unfold vB
 split
 ·exact ⟨by simp, by simpa using h0⟩
 ·split
  ·exact ⟨by simp, by simpa using h0⟩
  ·rename_i hg
   have := (BE h.b hg).2.1
   exact ⟨by dsimp only; omega, by dsimp only; omega⟩
theorem EI {most : Int} (h0 : 0 ≤ most ∧ most ≤ 1099511627776) {s : RS} (h : Ok s) : rB (vB most s).1 = (vB most s).1 := by
 have := yD h0.1 h
 exact tI (by omega) (by omega)
theorem Ic {most : Int} {s : RS} (h : ¬ (vB most s).1 = 0) : (vB most s).2.2 = 0 := by
 unfold vB at h ⊢
 split at h
 ·exact absurd rfl h
 ·rename_i hs
  rw [if_neg hs]
  cases hg : AT most s.1 with
  | inl e => rw [hg] at h; exact absurd rfl h
  | inr p => rfl
theorem CY {most : Int} (h0 : 0 ≤ most) {s : RS} (h : Ok s) : ((uN most s).1.length : Int) ≤ most ∧ vY (uN most s).1 := by
 have e : (([] : List Int).length : Int) ≤ most ∧ vY [] := ⟨h0, fun y hy => by cases hy⟩
 unfold uN
 split
 ·exact e
 ·split
  ·exact e
  ·rename_i n rest hg
   split
   ·exact e
   ·split
    ·exact e
    ·have := (EH h.b hg).2
     exact ⟨by rw [List.length_take]; omega, this.take n⟩
def N40 (s : RS) : Int × RS := vB 1099511627776 s
theorem wZ {s : RS} (h : Ok s) : Ok (N40 s).2 := zY h
theorem AU {s : RS} (h : Ok s) : rB (N40 s).1 = (N40 s).1 := EI (by decide) h
theorem DV {r : rC} {s : RS} (h : At r s) : ∃ r', Ev (fun k => tZ.f k r) ((N40 s).1, r') ∧ At r' (N40 s).2 := by
 obtain ⟨r', h1, h2, _⟩ := F7 h (most := 1099511627776) (by decide)
 refine ⟨r', ?_, h2⟩
 unfold tZ.f
 refine Ev.bind h1 ?_
 dsimp only
 rw [EI (by decide) h.CK]
 exact Ev.pure _
theorem Hp {r : rC} {s : RS} (h : At r s) {m : Int} (h0 : 0 ≤ m ∧ m ≤ 1000) : ∃ r', Ev (fun k => vK.f k r m) ((vB m s).1, r') ∧ At r' (vB m s).2 := by
 obtain ⟨r', h1, h2, _⟩ := F7 h h0.1
 refine ⟨r', ?_, h2⟩
 unfold vK.f
 rw [zX h0.1 (by omega)]
 refine Ev.bind h1 ?_
 dsimp only
 rw [EI (by omega) h.CK]
 exact Ev.pure _
theorem Dz {s : RS} (h : Ok s) : Ev (fun k => rJ.f k ⟨s.1, s.2⟩ 1099511627776) ((N40 s).1, (⟨(N40 s).2.1, (N40 s).2.2⟩ : sG)) := BW h _
def uZ (s : RS) : Nat → (List Int × List Int) × RS
 | 0 => (([], []), s)
 | i + 1 => (((uZ s i).1.1 ++ [(N40 (uZ s i).2).1], (uZ s i).1.2 ++ [(N40 (N40 (uZ s i).2).2).1]), (N40 (N40 (uZ s i).2).2).2)
theorem Aj {s : RS} (h : Ok s) : ∀ i, Ok (uZ s i).2 ∧ (uZ s i).1.1.length = i ∧ (uZ s i).1.2.length = i
 | 0 => ⟨h, rfl, rfl⟩
 | i + 1 => by
  obtain ⟨h1, h2, h3⟩ := Aj h i
  exact ⟨wZ (wZ h1), by simp [uZ, h2], by simp [uZ, h3]⟩
def xE (s : RS) : Nat → List rA × RS
 | 0 => ([], s)
 | i + 1 => ((xE s i).1 ++ [⟨(N40 (xE s i).2).1, (uN 32 (N40 (xE s i).2).2).1⟩], (uN 32 (N40 (xE s i).2).2).2)
theorem Ao {s : RS} (h : Ok s) : ∀ i, Ok (xE s i).2 ∧ (xE s i).1.length = i ∧ ∀ c ∈ (xE s i).1, Byt c.Value
 | 0 => ⟨h, rfl, fun c hc => by cases hc⟩
 | i + 1 => by
  obtain ⟨h1, h2, h3⟩ := Ao h i
  refine ⟨BF (wZ h1), by simp [xE, h2], fun c hc => ?_⟩
  rcases List.mem_append.1 hc with hc | hc
  ·exact h3 c hc
  ·rw [List.mem_singleton.1 hc]
   obtain ⟨v1, v2⟩ := CY (most := 32) (by decide) (wZ h1)
   exact ⟨by dsimp only; omega, v2⟩
def AY (s : RS) : bT × RS :=
 let a := uN 64 s; let b := N40 a.2; let c := N40 b.2; let d := N40 c.2; let e := N40 d.2
 let n := vB 8 e.2; let p := uZ n.2 n.1.toNat; let m := vB 8 p.2; let v := xE m.2 m.1.toNat; let x := uN 32 v.2
 (⟨a.1, b.1, c.1, d.1, e.1, p.1.1, p.1.2, v.1, x.1⟩, x.2)
theorem IC {s : RS} (h : Ok s) : Ok (AY s).2 ∧ Bd (AY s).1 := by
 have h1 := BF (most := 64) h
 have h5 := wZ (wZ (wZ (wZ h1)))
 have hn := yD (most := 8) (by decide) h5
 have h6 := zY (most := 8) h5
 obtain ⟨p1, p2, p3⟩ := Aj h6 (vB 8 (N40 (N40 (N40 (N40 (uN 64 s).2).2).2).2).2).1.toNat
 have hm := yD (most := 8) (by decide) p1
 obtain ⟨v1, v2, v3⟩ := Ao (zY (most := 8) p1) (vB 8 (uZ (vB 8 (N40 (N40 (N40 (N40 (uN 64 s).2).2).2).2).2).2 (vB 8 (N40 (N40 (N40 (N40 (uN 64 s).2).2).2).2).2).1.toNat).2).1.toNat
 obtain ⟨a1, a2⟩ := CY (most := 64) (by decide) h
 obtain ⟨x1, x2⟩ := CY (most := 32) (by decide) v1
 exact ⟨BF v1, ⟨⟨by dsimp only [AY]; omega, a2⟩, ⟨by dsimp only [AY]; omega, x2⟩, ⟨by dsimp only [AY]; omega, v3⟩, by dsimp only [AY]; omega, by dsimp only [AY]; omega⟩⟩
theorem Jw {r : rC} {s : RS} (h : At r s) {n : Nat} (hn : n ≤ 8) (j : bT) (hj : j.Workers = [] ∧ j.Indexes = []) :
  ∃ q, Ev (fun k => uB.l1 k (n : Int) 0 r j) q ∧ q.2 = { j with Workers := (uZ s n).1.1, Indexes := (uZ s n).1.2 } ∧ At q.1 (uZ s n).2 := by
 refine Ej (n := n) (F := fun k i (x : rC × bT) => uB.l1 k (n : Int) (i : Int) x.1 x.2) (fun i x => x.2 = { j with Workers := (uZ s i).1.1, Indexes := (uZ s i).1.2 } ∧ At x.1 (uZ s i).2) (fun q => q.2 = { j with Workers := (uZ s n).1.1, Indexes := (uZ s n).1.2 } ∧ At q.1 (uZ s n).2) (fun i x hi hI => ?_) (fun x hI => ?_) (r, j) ⟨by obtain ⟨a, b⟩ := hj; cases j; cases a; cases b; rfl, h⟩
 ·obtain ⟨x1, x2⟩ := x
  obtain ⟨rfl, ha⟩ := hI
  obtain ⟨r1, e1, a1⟩ := DV ha
  obtain ⟨r2, e2, a2⟩ := DV a1
  obtain ⟨_, l1, l2⟩ := Aj h.CK i
  refine .inr ⟨(r2, _), ⟨rfl, a2⟩, fun q hq => ?_⟩
  simp only [uB.l1, tU (show i < 9223372036854775807 by omega)]
  exact Ev.rG (by omega) (Ev.bind e1 (Ev.rG (by omega) (Ev.bind e2 (Ev.rG (by omega) hq))))
 ·refine ⟨x, ?_, hI⟩
  simp only [uB.l1]
  exact Ev.rZ (by omega) (Ev.pure _)
theorem JL {r : rC} {s : RS} (h : At r s) {n : Nat} (hn : n ≤ 8) (j : bT) (hj : j.rI = []) :
  ∃ q, Ev (fun k => uB.l2 k (n : Int) 0 r j) q ∧ q.2 = { j with rI := (xE s n).1 } ∧ At q.1 (xE s n).2 := by
 refine Ej (n := n) (F := fun k i (x : rC × bT) => uB.l2 k (n : Int) (i : Int) x.1 x.2) (fun i x => x.2 = { j with rI := (xE s i).1 } ∧ At x.1 (xE s i).2) (fun q => q.2 = { j with rI := (xE s n).1 } ∧ At q.1 (xE s n).2) (fun i x hi hI => ?_) (fun x hI => ?_) (r, j) ⟨by cases j; cases hj; rfl, h⟩
 ·obtain ⟨x1, x2⟩ := x
  obtain ⟨rfl, ha⟩ := hI
  obtain ⟨r1, e1, a1⟩ := DV ha
  obtain ⟨r2, e2, a2⟩ := EN a1 (most := 32) (by decide)
  obtain ⟨_, l1, _⟩ := Ao h.CK i
  refine .inr ⟨(r2, _), ⟨rfl, a2⟩, fun q hq => ?_⟩
  simp only [uB.l2, tU (show i < 9223372036854775807 by omega)]
  exact Ev.rG (by omega) (Ev.bind e1 (Ev.bind e2 (Ev.rG (by omega) hq)))
 ·refine ⟨x, ?_, hI⟩
  simp only [uB.l2]
  exact Ev.rZ (by omega) (Ev.pure _)
theorem Fu {r : rC} {s : RS} (h : At r s) : ∃ r', Ev (fun k => uB.f k r) ((AY s).1, r') ∧ At r' (AY s).2 := by
 unfold uB.f
 obtain ⟨r1, e1, a1⟩ := EN h (most := 64) (by decide)
 obtain ⟨r2, e2, a2⟩ := DV a1
 obtain ⟨r3, e3, a3⟩ := DV a2
 obtain ⟨r4, e4, a4⟩ := DV a3
 obtain ⟨r5, e5, a5⟩ := DV a4
 obtain ⟨r6, e6, a6⟩ := Hp a5 (m := 8) (by decide)
 have g6 := yD (most := 8) (by decide) a5.CK
 obtain ⟨⟨r7, j7⟩, e7, i7, a7⟩ := Jw a6 (n := (vB 8 (N40 (N40 (N40 (N40 (uN 64 s).2).2).2).2).2).1.toNat) (by omega) ⟨(uN 64 s).1, (N40 (uN 64 s).2).1, (N40 (N40 (uN 64 s).2).2).1, (N40 (N40 (N40 (uN 64 s).2).2).2).1, (N40 (N40 (N40 (N40 (uN 64 s).2).2).2).2).1, [], [], [], []⟩ ⟨rfl, rfl⟩
 rw [Int.toNat_of_nonneg g6.1] at e7
 dsimp only at i7 a7
 subst i7
 obtain ⟨r8, e8, a8⟩ := Hp a7 (m := 8) (by decide)
 have g8 := yD (most := 8) (by decide) a7.CK
 obtain ⟨⟨r9, j9⟩, e9, i9, a9⟩ := JL a8 (n := (vB 8 (uZ (vB 8 (N40 (N40 (N40 (N40 (uN 64 s).2).2).2).2).2).2 (vB 8 (N40 (N40 (N40 (N40 (uN 64 s).2).2).2).2).2).1.toNat).2).1.toNat) (by omega) ⟨(uN 64 s).1, (N40 (uN 64 s).2).1, (N40 (N40 (uN 64 s).2).2).1, (N40 (N40 (N40 (uN 64 s).2).2).2).1, (N40 (N40 (N40 (N40 (uN 64 s).2).2).2).2).1, (uZ (vB 8 (N40 (N40 (N40 (N40 (uN 64 s).2).2).2).2).2).2 (vB 8 (N40 (N40 (N40 (N40 (uN 64 s).2).2).2).2).2).1.toNat).1.1, (uZ (vB 8 (N40 (N40 (N40 (N40 (uN 64 s).2).2).2).2).2).2 (vB 8 (N40 (N40 (N40 (N40 (uN 64 s).2).2).2).2).2).1.toNat).1.2, [], []⟩ rfl
 rw [Int.toNat_of_nonneg g8.1] at e9
 dsimp only at i9 a9
 subst i9
 obtain ⟨r0, e0, a0⟩ := EN a9 (most := 32) (by decide)
 exact ⟨r0, Ev.bind e1 (Ev.bind e2 (Ev.bind e3 (Ev.bind e4 (Ev.bind e5 (Ev.bind e6 (Ev.bind e7 (Ev.bind e8 (Ev.bind e9 (Ev.bind e0 (Ev.pure _)))))))))), a0⟩
theorem G7 {s : RS} (h : Ok s) {b : Int} {n : Nat} (hn : n ≤ 8) (hb : b = (n : Int)) (j : bT) (hj : j.Workers = [] ∧ j.Indexes = []) :
  Ev (fun k => sH.l1 k b 0 ⟨s.1, s.2⟩ j) ((⟨(uZ s n).2.1, (uZ s n).2.2⟩ : sG), { j with Workers := (uZ s n).1.1, Indexes := (uZ s n).1.2 }) := by
 subst hb
 refine Ev.loop (n := n) (F := fun k i (x : sG × bT) => sH.l1 k (n : Int) (i : Int) x.1 x.2) (fun i x => x = (⟨(uZ s i).2.1, (uZ s i).2.2⟩, { j with Workers := (uZ s i).1.1, Indexes := (uZ s i).1.2 })) (fun i x hi hI => ?_) (fun x hI => ?_) (⟨s.1, s.2⟩, j) (by obtain ⟨a, b⟩ := hj; cases j; cases a; cases b; rfl)
 ·subst hI
  obtain ⟨o1, l1, l2⟩ := Aj h i
  have e1 := Dz o1
  have o2 := wZ o1
  have e2 := Dz o2
  refine .inr ⟨_, rfl, fun hq => ?_⟩
  simp only [sH.l1, tU (show i < 9223372036854775807 by omega), AV (show n < 9223372036854775808 by omega)]
  refine Ev.rG (by omega) (Ev.bind e1 (Ev.rG (by omega) (Ev.bind e2 (Ev.rG (by omega) ?_))))
  dsimp only
  rw [AU o1, AU o2]
  exact hq
 ·subst hI
  simp only [sH.l1, AV (show n < 9223372036854775808 by omega)]
  exact Ev.rZ (by omega) (Ev.pure _)
theorem G0 {s : RS} (h : Ok s) {b : Int} {n : Nat} (hn : n ≤ 8) (hb : b = (n : Int)) (j : bT) (hj : j.rI = []) :
  Ev (fun k => sH.l2 k b 0 ⟨s.1, s.2⟩ j) ((⟨(xE s n).2.1, (xE s n).2.2⟩ : sG), { j with rI := (xE s n).1 }) := by
 subst hb
 refine Ev.loop (n := n) (F := fun k i (x : sG × bT) => sH.l2 k (n : Int) (i : Int) x.1 x.2) (fun i x => x = (⟨(xE s i).2.1, (xE s i).2.2⟩, { j with rI := (xE s i).1 })) (fun i x hi hI => ?_) (fun x hI => ?_) (⟨s.1, s.2⟩, j) (by cases j; cases hj; rfl)
 ·subst hI
  obtain ⟨o1, l1, _⟩ := Ao h i
  have e1 := Dz o1
  have o2 := wZ o1
  have e2 := EW o2 (most := 32) (by decide)
  refine .inr ⟨_, rfl, fun hq => ?_⟩
  simp only [sH.l2, tU (show i < 9223372036854775807 by omega), AV (show n < 9223372036854775808 by omega)]
  refine Ev.rG (by omega) (Ev.bind e1 (Ev.bind e2 (Ev.rG (by omega) ?_)))
  dsimp only
  rw [AU o1]
  exact hq
 ·subst hI
  simp only [sH.l2, AV (show n < 9223372036854775808 by omega)]
  exact Ev.rZ (by omega) (Ev.pure _)
theorem G9 {s : RS} (h : Ok s) : Ev (fun k => sH.f k ⟨s.1, s.2⟩) ((AY s).1, (⟨(AY s).2.1, (AY s).2.2⟩ : sG)) := by
 unfold sH.f
 have e1 := EW h (most := 64) (by decide)
 have o1 := BF (most := 64) h
 have e2 := Dz o1; have o2 := wZ o1
 have e3 := Dz o2; have o3 := wZ o2
 have e4 := Dz o3; have o4 := wZ o3
 have e5 := Dz o4; have o5 := wZ o4
 have e6 := BW o5 8; have o6 := zY (most := 8) o5
 have g6 := yD (most := 8) (by decide) o5
 have e7 := G7 o6 (n := (vB 8 (N40 (N40 (N40 (N40 (uN 64 s).2).2).2).2).2).1.toNat) (by omega) (Int.toNat_of_nonneg g6.1).symm ⟨(uN 64 s).1, (N40 (uN 64 s).2).1, (N40 (N40 (uN 64 s).2).2).1, (N40 (N40 (N40 (uN 64 s).2).2).2).1, (N40 (N40 (N40 (N40 (uN 64 s).2).2).2).2).1, [], [], [], []⟩ ⟨rfl, rfl⟩
 have o7 := (Aj o6 (vB 8 (N40 (N40 (N40 (N40 (uN 64 s).2).2).2).2).2).1.toNat).1
 have e8 := BW o7 8; have o8 := zY (most := 8) o7
 have g8 := yD (most := 8) (by decide) o7
 have e9 := G0 o8 (n := (vB 8 (uZ (vB 8 (N40 (N40 (N40 (N40 (uN 64 s).2).2).2).2).2).2 (vB 8 (N40 (N40 (N40 (N40 (uN 64 s).2).2).2).2).2).1.toNat).2).1.toNat) (by omega) (Int.toNat_of_nonneg g8.1).symm ⟨(uN 64 s).1, (N40 (uN 64 s).2).1, (N40 (N40 (uN 64 s).2).2).1, (N40 (N40 (N40 (uN 64 s).2).2).2).1, (N40 (N40 (N40 (N40 (uN 64 s).2).2).2).2).1, (uZ (vB 8 (N40 (N40 (N40 (N40 (uN 64 s).2).2).2).2).2).2 (vB 8 (N40 (N40 (N40 (N40 (uN 64 s).2).2).2).2).2).1.toNat).1.1, (uZ (vB 8 (N40 (N40 (N40 (N40 (uN 64 s).2).2).2).2).2).2 (vB 8 (N40 (N40 (N40 (N40 (uN 64 s).2).2).2).2).2).1.toNat).1.2, [], []⟩ rfl
 have o9 := (Ao o8 (vB 8 (uZ (vB 8 (N40 (N40 (N40 (N40 (uN 64 s).2).2).2).2).2).2 (vB 8 (N40 (N40 (N40 (N40 (uN 64 s).2).2).2).2).2).1.toNat).2).1.toNat).1
 have e0 := EW o9 (most := 32) (by decide)
 refine Ev.bind e1 (Ev.bind e2 (Ev.bind e3 (Ev.bind e4 (Ev.bind e5 (Ev.bind e6 ?_)))))
 dsimp only
 rw [AU o1, AU o2, AU o3, AU o4]
 exact Ev.bind e7 (Ev.bind e8 (Ev.bind e9 (Ev.bind e0 (Ev.pure _))))
end Go.Proofs.YtobdpbnadjkhiaaGreat.Rs
namespace Go.Proofs.YtobdpbnadjkhiaaGreat.Rs
open Go.WG Go.Proofs.YtobdpbnadjkhiaaGreat Go.Proofs.YtobdpbnadjkhiaaGreat.Pure Go.Proofs.YtobdpbnadjkhiaaGreat.Ta Go.Proofs.YtobdpbnadjkhiaaGreat.Rc
set_option linter.unusedSimpArgs false
set_option linter.unusedVariables false
def yF (s : RS) : Nat → List sD × RS
 | 0 => ([], s)
 | i + 1 => ((yF s i).1 ++ [⟨(N40 (yF s i).2).1, (Be (N40 (yF s i).2).2).1⟩], (Be (N40 (yF s i).2).2).2)
theorem Ar {s : RS} (h : Ok s) : ∀ i, Ok (yF s i).2 ∧ (yF s i).1.length = i
 | 0 => ⟨h, rfl⟩
 | i + 1 => by
  obtain ⟨h1, h2⟩ := Ar h i
  exact ⟨IS (wZ h1), by simp [yF, h2]⟩
def yG (s : RS) : Nat → List bT × RS
 | 0 => ([], s)
 | i + 1 => ((yG s i).1 ++ [(AY (yG s i).2).1], (AY (yG s i).2).2)
theorem AI {s : RS} (h : Ok s) : ∀ i, Ok (yG s i).2 ∧ (yG s i).1.length = i ∧ ∀ j ∈ (yG s i).1, Bd j
 | 0 => ⟨h, rfl, fun c hc => by cases hc⟩
 | i + 1 => by
  obtain ⟨h1, h2, h3⟩ := AI h i
  obtain ⟨g1, g2⟩ := IC h1
  refine ⟨g1, by simp [yG, h2], fun c hc => ?_⟩
  rcases List.mem_append.1 hc with hc | hc
  ·exact h3 c hc
  ·rw [List.mem_singleton.1 hc]; exact g2
def uU (s : RS) : Nat → (List Int × List Bool × Bool) × RS
 | 0 => (([], [], false), s)
 | i + 1 => (((uU s i).1.1 ++ [(N40 (uU s i).2).1], (uU s i).1.2.1 ++ [decide ((N40 (N40 (uU s i).2).2).1 = 1)], (uU s i).1.2.2 || decide ((N40 (N40 (uU s i).2).2).1 > 1)), (N40 (N40 (uU s i).2).2).2)
theorem Bi {s : RS} (h : Ok s) : ∀ i, Ok (uU s i).2 ∧ (uU s i).1.1.length = i ∧ (uU s i).1.2.1.length = i
 | 0 => ⟨h, rfl, rfl⟩
 | i + 1 => by
  obtain ⟨h1, h2, h3⟩ := Bi h i
  exact ⟨wZ (wZ h1), by simp [uU, h2], by simp [uU, h3]⟩
def eA (b : List Int) : List sD × RS := yF (vB 256 (b, 0)).2 (vB 256 (b, 0)).1.toNat
def jA (b : List Int) : List bT × RS := yG (vB 64 (eA b).2).2 (vB 64 (eA b).2).1.toNat
def uA (b : List Int) : (List Int × List Bool × Bool) × RS := uU (vB 8 (jA b).2).2 (vB 8 (jA b).2).1.toNat
def Cj (b : List Int) : bF := ⟨(eA b).1, (jA b).1, (uA b).1.1, (uA b).1.2.1, (N40 (uA b).2).1⟩
def Di (b : List Int) : Int := GS (N40 (uA b).2).2
noncomputable def DX (c : rK) (b : List Int) : bF × Int :=
 if vT c then (if Di b = 0 then (if (uA b).1.2.2 = true then (none_, 41) else two (Pure.Good c (Cj b)) (Cj b, 0) (none_, 41)) else (none_, Di b)) else (none_, 1)
structure Bs (b : List Int) : Prop where
 e0 : Ok (vB 256 (b, 0)).2
 e : 0 ≤ (vB 256 (b, 0)).1 ∧ (vB 256 (b, 0)).1 ≤ 256
 j0 : Ok (vB 64 (eA b).2).2
 j : 0 ≤ (vB 64 (eA b).2).1 ∧ (vB 64 (eA b).2).1 ≤ 64
 u0 : Ok (vB 8 (jA b).2).2
 u : 0 ≤ (vB 8 (jA b).2).1 ∧ (vB 8 (jA b).2).1 ≤ 8
 z : Ok (uA b).2
 eo : Ok (eA b).2
 jo : Ok (jA b).2
 st : AB (Cj b)
theorem bs {b : List Int} (h : Ok (b, 0)) : Bs b := by
 have e0 := zY (most := 256) h
 have e := yD (most := 256) (by decide) h
 have eo : Ok (eA b).2 := (Ar e0 _).1
 have el : (eA b).1.length = _ := (Ar e0 (vB 256 (b, 0)).1.toNat).2
 have j0 := zY (most := 64) eo
 have j := yD (most := 64) (by decide) eo
 have jo : Ok (jA b).2 := (AI j0 _).1
 obtain ⟨_, jl, je⟩ := AI j0 (vB 64 (eA b).2).1.toNat
 have u0 := zY (most := 8) jo
 have u := yD (most := 8) (by decide) jo
 obtain ⟨uo, ul, ub⟩ := Bi u0 (vB 8 (jA b).2).1.toNat
 refine ⟨e0, e, j0, j, u0, u, uo, eo, jo, ⟨?_, ?_, je, ?_, ?_⟩⟩
 ·show (eA b).1.length ≤ 300; rw [el]; omega
 ·show (yG _ _).1.length ≤ 100; rw [jl]; omega
 ·show (uU _ _).1.1.length ≤ 8; rw [ul]; omega
 ·show (uU _ _).1.2.1.length ≤ 8; rw [ub]; omega
theorem Ky {r : rC} {s : RS} (h : At r s) {n : Nat} (hn : n ≤ 256) :
  ∃ q, Ev (fun k => sC.l1 k (n : Int) 0 ⟨[], [], [], [], 0⟩ r) q ∧ q.1 = ⟨(yF s n).1, [], [], [], 0⟩ ∧ At q.2 (yF s n).2 := by
 refine Ej (n := n) (F := fun k i (x : bF × rC) => sC.l1 k (n : Int) (i : Int) x.1 x.2) (fun i x => x.1 = ⟨(yF s i).1, [], [], [], 0⟩ ∧ At x.2 (yF s i).2) (fun q => q.1 = ⟨(yF s n).1, [], [], [], 0⟩ ∧ At q.2 (yF s n).2) (fun i x hi hI => ?_) (fun x hI => ?_) (⟨[], [], [], [], 0⟩, r) ⟨rfl, h⟩
 ·obtain ⟨x1, x2⟩ := x
  obtain ⟨rfl, ha⟩ := hI
  obtain ⟨r1, e1, a1⟩ := DV ha
  obtain ⟨r2, e2, a2⟩ := Js a1
  obtain ⟨_, l1⟩ := Ar h.CK i
  refine .inr ⟨(_, r2), ⟨rfl, a2⟩, fun q hq => ?_⟩
  simp only [sC.l1, tU (show i < 9223372036854775807 by omega)]
  exact Ev.rG (by omega) (Ev.bind e1 (Ev.bind e2 (Ev.rG (by omega) hq)))
 ·refine ⟨x, ?_, hI⟩
  simp only [sC.l1]
  exact Ev.rZ (by omega) (Ev.pure _)
theorem J5 (E : List sD) {r : rC} {s : RS} (h : At r s) {n : Nat} (hn : n ≤ 64) :
  ∃ q, Ev (fun k => sC.l2 k (n : Int) 0 ⟨E, [], [], [], 0⟩ r) q ∧ q.1 = ⟨E, (yG s n).1, [], [], 0⟩ ∧ At q.2 (yG s n).2 := by
 refine Ej (n := n) (F := fun k i (x : bF × rC) => sC.l2 k (n : Int) (i : Int) x.1 x.2) (fun i x => x.1 = ⟨E, (yG s i).1, [], [], 0⟩ ∧ At x.2 (yG s i).2) (fun q => q.1 = ⟨E, (yG s n).1, [], [], 0⟩ ∧ At q.2 (yG s n).2) (fun i x hi hI => ?_) (fun x hI => ?_) (⟨E, [], [], [], 0⟩, r) ⟨rfl, h⟩
 ·obtain ⟨x1, x2⟩ := x
  obtain ⟨rfl, ha⟩ := hI
  obtain ⟨r1, e1, a1⟩ := Fu ha
  obtain ⟨_, l1, _⟩ := AI h.CK i
  refine .inr ⟨(_, r1), ⟨rfl, a1⟩, fun q hq => ?_⟩
  simp only [sC.l2, tU (show i < 9223372036854775807 by omega)]
  exact Ev.rG (by omega) (Ev.bind e1 (Ev.rG (by omega) hq))
 ·refine ⟨x, ?_, hI⟩
  simp only [sC.l2]
  exact Ev.rZ (by omega) (Ev.pure _)
theorem Ke (E : List sD) (J : List bT) {r : rC} {s : RS} (h : At r s) {n : Nat} (hn : n ≤ 8) :
  ∃ q, Ev (fun k => sC.l3 k (n : Int) false 0 ⟨E, J, [], [], 0⟩ r) q ∧ q.1 = (uU s n).1.2.2 ∧ q.2.1 = ⟨E, J, (uU s n).1.1, (uU s n).1.2.1, 0⟩ ∧ At q.2.2 (uU s n).2 := by
 refine Ej (n := n) (F := fun k i (x : Bool × bF × rC) => sC.l3 k (n : Int) x.1 (i : Int) x.2.1 x.2.2) (fun i x => x.1 = (uU s i).1.2.2 ∧ x.2.1 = ⟨E, J, (uU s i).1.1, (uU s i).1.2.1, 0⟩ ∧ At x.2.2 (uU s i).2) (fun q => q.1 = (uU s n).1.2.2 ∧ q.2.1 = ⟨E, J, (uU s n).1.1, (uU s n).1.2.1, 0⟩ ∧ At q.2.2 (uU s n).2) (fun i x hi hI => ?_) (fun x hI => ?_) (false, ⟨E, J, [], [], 0⟩, r) ⟨rfl, rfl, h⟩
 ·obtain ⟨x0, x1, x2⟩ := x
  obtain ⟨rfl, rfl, ha⟩ := hI
  obtain ⟨r1, e1, a1⟩ := DV ha
  obtain ⟨r2, e2, a2⟩ := DV a1
  obtain ⟨_, l1, l2⟩ := Bi h.CK i
  refine .inr ⟨(_, _, r2), ⟨rfl, rfl, a2⟩, fun q hq => ?_⟩
  simp only [sC.l3, tU (show i < 9223372036854775807 by omega)]
  exact Ev.rG (by omega) (Ev.bind e1 (Ev.bind e2 (Ev.rG (by omega) (Ev.rG (by omega) hq))))
 ·refine ⟨x, ?_, hI⟩
  simp only [sC.l3]
  exact Ev.rZ (by omega) (Ev.pure _)
theorem Fi (c : rK) {b : List Int} (hb : vY b) (hl : b.length ≤ 1000000) : Ev (fun k => sC.f k c b) (DX c b) := by
 unfold sC.f AE.f DX
 have hck := Cw c
 by_cases hc : vT c
 ·rw [if_pos hc] at hck
  rw [if_pos hc]
  have B := bs (b := b) ⟨hb, hl⟩
  have a0 : At ⟨b, 0, 0⟩ (b, 0) := ⟨⟨by simp, by simp⟩, hl, rfl, rfl, hb⟩
  obtain ⟨r1, e1, a1⟩ := Hp a0 (m := 256) (by decide)
  have hj := B.j; have hu := B.u; have he := B.e
  obtain ⟨⟨s2, r2⟩, e2, i2, a2⟩ := Ky a1 (n := (vB 256 (b, 0)).1.toNat) (by omega)
  rw [Int.toNat_of_nonneg he.1] at e2
  dsimp only at i2 a2
  obtain ⟨r3, e3, a3⟩ := Hp a2 (m := 64) (by decide)
  obtain ⟨⟨s4, r4⟩, e4, i4, a4⟩ := J5 (eA b).1 a3 (n := (vB 64 (eA b).2).1.toNat) (by omega)
  rw [Int.toNat_of_nonneg hj.1] at e4
  dsimp only at i4 a4
  obtain ⟨r5, e5, a5⟩ := Hp a4 (m := 8) (by decide)
  obtain ⟨⟨o6, s6, r6⟩, e6, i6, j6, a6⟩ := Ke (eA b).1 (jA b).1 a5 (n := (vB 8 (jA b).2).1.toNat) (by omega)
  rw [Int.toNat_of_nonneg hu.1] at e6
  dsimp only at i6 j6 a6
  obtain ⟨r7, e7, a7⟩ := DV a6
  obtain ⟨r8, e8⟩ := JR a7
  have i2' : s2 = ⟨(eA b).1, [], [], [], 0⟩ := i2
  have i4' : s4 = ⟨(eA b).1, (jA b).1, [], [], 0⟩ := i4
  have i6' : o6 = (uA b).1.2.2 := i6
  have j6' : s6 = ⟨(eA b).1, (jA b).1, (uA b).1.1, (uA b).1.2.1, 0⟩ := j6
  subst i2' i4' i6' j6'
  refine Ev.bind hck (Ev.rG rfl (Ev.bind (a := (⟨b, 0, 0⟩ : rC)) (Ev.rG (by omega) (Ev.pure _)) (Ev.bind e1 (Ev.bind e2 (Ev.bind e3 (Ev.bind e4 (Ev.bind e5 (Ev.bind e6 (Ev.bind e7 (Ev.bind e8 ?_))))))))))
  dsimp only
  show Ev (fun k => if Di b = 0 then ((if (uA b).1.2.2 = true then some true else ((sJ.f k c (Cj b)).bind fun i => some (!i))).bind fun p => if p = true then some (none_, 41) else some (Cj b, 0)) else some (none_, Di b)) _
  by_cases hz : Di b = 0
  ·rw [if_pos hz]
   refine Ev.rG hz ?_
   by_cases ho : (uA b).1.2.2 = true
   ·rw [if_pos ho]
    exact Ev.bind (a := true) (Ev.rG ho (Ev.pure _)) (Ev.rG rfl (Ev.pure _))
   ·rw [if_neg ho]
    have hr := CD hc B.st
    by_cases hg : Pure.Good c (Cj b)
    ·rw [B_t hg] at hr
     rw [xZ hg]
     exact Ev.bind (a := false) (Ev.rZ ho (Ev.bind hr (Ev.pure _))) (Ev.rZ (by simp) (Ev.pure _))
    ·rw [B_f hg] at hr
     rw [xJ hg]
     exact Ev.bind (a := true) (Ev.rZ ho (Ev.bind hr (Ev.pure _))) (Ev.rG rfl (Ev.pure _))
  ·rw [if_neg hz]
   exact Ev.rZ hz (Ev.pure _)
 ·rw [if_neg hc] at hck
  rw [if_neg hc]
  exact Ev.bind hck (Ev.rZ (by decide) (Ev.pure _))
theorem JA {s : RS} (h : Ok s) {b : Int} {n : Nat} (hn : n ≤ 256) (hb : b = (n : Int)) :
  Ev (fun k => rU.l1 k b 0 ⟨s.1, s.2⟩ ⟨[], [], [], [], 0⟩) ((⟨(yF s n).2.1, (yF s n).2.2⟩ : sG), (⟨(yF s n).1, [], [], [], 0⟩ : bF)) := by
 subst hb
 refine Ev.loop (n := n) (F := fun k i (x : sG × bF) => rU.l1 k (n : Int) (i : Int) x.1 x.2) (fun i x => x = (⟨(yF s i).2.1, (yF s i).2.2⟩, ⟨(yF s i).1, [], [], [], 0⟩)) (fun i x hi hI => ?_) (fun x hI => ?_) (⟨s.1, s.2⟩, ⟨[], [], [], [], 0⟩) rfl
 ·subst hI
  obtain ⟨o1, l1⟩ := Ar h i
  have e1 := Dz o1
  have e2 := Jq (wZ o1)
  refine .inr ⟨_, rfl, fun hq => ?_⟩
  simp only [rU.l1, tU (show i < 9223372036854775807 by omega), AV (show n < 9223372036854775808 by omega)]
  refine Ev.rG (by omega) (Ev.bind e1 (Ev.bind e2 (Ev.rG (by omega) ?_)))
  dsimp only
  rw [AU o1]
  exact hq
 ·subst hI
  simp only [rU.l1, AV (show n < 9223372036854775808 by omega)]
  exact Ev.rZ (by omega) (Ev.pure _)
theorem JX (E : List sD) {s : RS} (h : Ok s) {b : Int} {n : Nat} (hn : n ≤ 64) (hb : b = (n : Int)) :
  Ev (fun k => rU.l2 k b 0 ⟨s.1, s.2⟩ ⟨E, [], [], [], 0⟩) ((⟨(yG s n).2.1, (yG s n).2.2⟩ : sG), (⟨E, (yG s n).1, [], [], 0⟩ : bF)) := by
 subst hb
 refine Ev.loop (n := n) (F := fun k i (x : sG × bF) => rU.l2 k (n : Int) (i : Int) x.1 x.2) (fun i x => x = (⟨(yG s i).2.1, (yG s i).2.2⟩, ⟨E, (yG s i).1, [], [], 0⟩)) (fun i x hi hI => ?_) (fun x hI => ?_) (⟨s.1, s.2⟩, ⟨E, [], [], [], 0⟩) rfl
 ·subst hI
  obtain ⟨o1, l1, _⟩ := AI h i
  have e1 := G9 o1
  refine .inr ⟨_, rfl, fun hq => ?_⟩
  simp only [rU.l2, tU (show i < 9223372036854775807 by omega), AV (show n < 9223372036854775808 by omega)]
  exact Ev.rG (by omega) (Ev.bind e1 (Ev.rG (by omega) hq))
 ·subst hI
  simp only [rU.l2, AV (show n < 9223372036854775808 by omega)]
  exact Ev.rZ (by omega) (Ev.pure _)
def odd (o : Bool) : Int := if o = true then -1 else 0
theorem Jr (E : List sD) (J : List bT) {s : RS} (h : Ok s) {b : Int} {n : Nat} (hn : n ≤ 8) (hb : b = (n : Int)) :
  Ev (fun k => rU.l3 k b 0 ⟨s.1, s.2⟩ ⟨E, J, [], [], 0⟩) ((⟨(uU s n).2.1, (uU s n).2.2⟩ : sG), (⟨E, J, (uU s n).1.1, (uU s n).1.2.1, odd (uU s n).1.2.2⟩ : bF)) := by
 subst hb
 refine Ev.loop (n := n) (F := fun k i (x : sG × bF) => rU.l3 k (n : Int) (i : Int) x.1 x.2) (fun i x => x = (⟨(uU s i).2.1, (uU s i).2.2⟩, ⟨E, J, (uU s i).1.1, (uU s i).1.2.1, odd (uU s i).1.2.2⟩)) (fun i x hi hI => ?_) (fun x hI => ?_) (⟨s.1, s.2⟩, ⟨E, J, [], [], 0⟩) rfl
 ·subst hI
  obtain ⟨o1, l1, l2⟩ := Bi h i
  have e1 := Dz o1
  have e2 := Dz (wZ o1)
  refine .inr ⟨_, rfl, fun hq => ?_⟩
  simp only [rU.l3, tU (show i < 9223372036854775807 by omega), AV (show n < 9223372036854775808 by omega)]
  refine Ev.rG (by omega) (Ev.bind e1 (Ev.rG (by omega) (Ev.bind e2 (Ev.rG (by omega) ?_))))
  dsimp only
  rw [AU o1]
  by_cases g : (N40 (N40 (uU s i).2).2).1 > 1
  ·have hz : (N40 (N40 (uU s i).2).2).2.2 = 0 := Ic (most := 1099511627776) (s := (N40 (uU s i).2).2) (fun e => by have : (N40 (N40 (uU s i).2).2).1 = 0 := e; omega)
   refine Ev.bind (a := true) (Ev.rG g (by rw [decide_eq_true hz]; exact Ev.pure _)) (Ev.rG rfl ?_)
   have : odd (uU s (i + 1)).1.2.2 = -1 := by
    have : (uU s (i + 1)).1.2.2 = true := by simp only [uU, decide_eq_true g, Bool.or_true]
    rw [this]; rfl
   rw [this] at hq
   exact hq
  ·refine Ev.bind (a := false) (Ev.rZ g (Ev.pure _)) (Ev.rZ (by simp) ?_)
   have : odd (uU s (i + 1)).1.2.2 = odd (uU s i).1.2.2 := by
    have : (uU s (i + 1)).1.2.2 = (uU s i).1.2.2 := by simp only [uU, decide_eq_false g, Bool.or_false]
    rw [this]
   rw [this] at hq
   exact hq
 ·subst hI
  simp only [rU.l3, AV (show n < 9223372036854775808 by omega)]
  exact Ev.rZ (by omega) (Ev.pure _)
theorem Fm (c : rK) {b : List Int} (hb : vY b) (hl : b.length ≤ 1000000) : Ev (fun k => rU.f k c b) (DX c b) := by
 unfold rU.f DX
 simp only [Du, Option.bind_some]
 by_cases hc : vT c
 ·rw [if_pos hc]
  refine Ev.rG (decide_eq_true hc) ?_
  have B := bs (b := b) ⟨hb, hl⟩
  have k0 : Ok (b, (0 : Int)) := ⟨hb, hl⟩
  have hj := B.j; have hu := B.u; have he := B.e
  have e1 := BW k0 256
  have e2 := JA B.e0 (n := (vB 256 (b, 0)).1.toNat) (by omega) (Int.toNat_of_nonneg he.1).symm
  have e3 := BW B.eo 64
  have e4 := JX (eA b).1 B.j0 (n := (vB 64 (eA b).2).1.toNat) (by omega) (Int.toNat_of_nonneg hj.1).symm
  have e5 := BW B.jo 8
  have e6 := Jr (eA b).1 (jA b).1 B.u0 (n := (vB 8 (jA b).2).1.toNat) (by omega) (Int.toNat_of_nonneg hu.1).symm
  have e7 := Dz B.z
  have hE : ∀ k, ∃ q, uH.f k ⟨(N40 (uA b).2).2.1, (N40 (uA b).2).2.2⟩ = some (Di b, q) := fun k => JN (N40 (uA b).2).2 k
  refine Ev.bind e1 (Ev.bind e2 (Ev.bind e3 (Ev.bind e4 (Ev.bind e5 (Ev.bind e6 (Ev.bind e7 ?_))))))
  dsimp only
  have hend : ∀ {g : Nat → Option (bF × Int)} {f : Nat → Int → Option (bF × Int)} {x}, Ev (fun k => f k (Di b)) x → (∀ k, g k = (uH.f k ⟨(N40 (uA b).2).2.1, (N40 (uA b).2).2.2⟩).bind fun p => f k p.1) → Ev g x := fun h e => h.congr fun k => by
   obtain ⟨q, hq⟩ := hE k
   rw [e, hq]; rfl
  refine hend (f := fun k d => if d = 0 then ((if odd (uA b).1.2.2 < 0 then (some true) else ((rN.f k c (Cj b)).bind fun i => some (!i))).bind fun o => if o = true then (some (none_, 41)) else (some (Cj b, 0))) else (some (none_, d))) ?_ fun k => ?_
  ·by_cases hz : Di b = 0
   ·rw [if_pos hz]
    refine Ev.rG hz ?_
    by_cases ho : (uA b).1.2.2 = true
    ·rw [if_pos ho]
     exact Ev.bind (a := true) (Ev.rG (by rw [ho]; decide) (Ev.pure _)) (Ev.rG rfl (Ev.pure _))
    ·rw [if_neg ho]
     have ho' : ¬ odd (uA b).1.2.2 < 0 := by unfold odd; rw [if_neg ho]; decide
     have hr := FQ hc B.st
     by_cases hg : Pure.Good c (Cj b)
     ·rw [B_t hg] at hr
      rw [xZ hg]
      exact Ev.bind (a := false) (Ev.rZ ho' (Ev.bind hr (Ev.pure _))) (Ev.rZ (by simp) (Ev.pure _))
     ·rw [B_f hg] at hr
      rw [xJ hg]
      exact Ev.bind (a := true) (Ev.rZ ho' (Ev.bind hr (Ev.pure _))) (Ev.rG rfl (Ev.pure _))
   ·rw [if_neg hz]
    exact Ev.rZ hz (Ev.pure _)
  ·show ((uH.f k ⟨(N40 (uA b).2).2.1, (N40 (uA b).2).2.2⟩).bind fun x => _) = _
   congr 1
   funext p
   rw [AU B.z]
   rfl
 ·rw [if_neg hc]
  exact Ev.rZ (by simpa using hc) (Ev.pure _)
end Go.Proofs.YtobdpbnadjkhiaaGreat.Rs
namespace Go.Proofs.YtobdpbnadjkhiaaGreat.Pure
open Go.WG Go.Proofs.YtobdpbnadjkhiaaGreat Go.Proofs.YtobdpbnadjkhiaaGreat.Ta
set_option linter.unusedSimpArgs false
set_option linter.unusedVariables false
theorem B5 : ∀ (l u : List Int) (w : Int), 0 ≤ w → (∀ x ∈ l, 0 ≤ x) → ¬ w ∈ l → (zA u l).2.getD w.toNat 0 = u.getD w.toNat 0
 | [], _, _, _, _, _ => rfl
 | x :: r, u, w, hw, hl, hn => by
  rw [List.mem_cons, not_or] at hn
  have hx := hl x (by simp)
  rw [zA]
  show (zA (u.set x.toNat (u.getD x.toNat 0 + 1)) r).2.getD w.toNat 0 = _
  rw [B5 r _ w hw (fun y hy => hl y (List.mem_cons_of_mem _ hy)) hn.2, Aa _ _ (by omega)]
theorem Gy : ∀ (l u : List Int), l.Nodup → (∀ x ∈ l, 0 ≤ x ∧ x < (u.length : Int)) → ∀ q, q < l.length → (zA u l).1.getD q 0 = u.getD (l.getD q 0).toNat 0 ∧ (zA u l).2.getD (l.getD q 0).toNat 0 = u.getD (l.getD q 0).toNat 0 + 1
 | [], _, _, _, q, hq => by simp at hq
 | x :: r, u, hn, hl, 0, _ => by
  rw [List.nodup_cons] at hn
  have hx := hl x (by simp)
  refine ⟨rfl, ?_⟩
  show (zA (u.set x.toNat (u.getD x.toNat 0 + 1)) r).2.getD x.toNat 0 = _
  rw [B5 r _ x hx.1 (fun y hy => (hl y (List.mem_cons_of_mem _ hy)).1) hn.1, zB _ _ (by omega)]
  rfl
 | x :: r, u, hn, hl, q + 1, hq => by
  rw [List.nodup_cons] at hn
  have hx := hl x (by simp)
  have hq' : q < r.length := by simpa using hq
  have hm := uJ (0 : Int) hq'
  have hy := hl _ (List.mem_cons_of_mem _ hm)
  obtain ⟨h1, h2⟩ := Gy r (u.set x.toNat (u.getD x.toNat 0 + 1)) hn.2 (fun y hy => by rw [List.length_set]; exact hl y (List.mem_cons_of_mem _ hy)) q hq'
  have hne : x.toNat ≠ (r.getD q 0).toNat := fun e => hn.1 (by
   have : x = r.getD q 0 := by omega
   rw [this]; exact hm)
  rw [Aa _ _ hne] at h1 h2
  exact ⟨h1, h2⟩
end Go.Proofs.YtobdpbnadjkhiaaGreat.Pure
namespace Go.Proofs.YtobdpbnadjkhiaaGreat.Pure
open Go.WG Go.Proofs.YtobdpbnadjkhiaaGreat Go.Proofs.YtobdpbnadjkhiaaGreat.Ta
set_option linter.unusedSimpArgs false
set_option linter.unusedVariables false
theorem D1 (e : Int) (x : sD) : ∀ E : List sD, (xA e E).2 = true → (xA e (E ++ [x])).2 = true
 | [], h => by simp [xA] at h
 | a :: r, h => by
  rw [List.cons_append]
  unfold xA at h ⊢
  split
  ·rfl
  ·rename_i k; rw [if_neg k] at h; exact D1 e x r h
theorem DE {e : Int} : ∀ {E : List sD}, (∃ a ∈ E, a.Epoch = e) → (xA e E).2 = true
 | [], ⟨a, h, _⟩ => by cases h
 | b :: r, ⟨a, h, he⟩ => by
  unfold xA
  split
  ·rfl
  ·rename_i k
   rcases List.mem_cons.1 h with rfl | h
   ·exact absurd he k
   ·exact DE ⟨a, h, he⟩
theorem DY (x : sD) (hx : x.Epoch ≤ 1099511627776) : ∀ (E : List sD) (l : Int), An l E → (E = [] → l < x.Epoch) → (E ≠ [] → (E.getD (E.length - 1) sD.z).Epoch < x.Epoch) → An l (E ++ [x])
 | [], l, _, h, _ => ⟨⟨by have := h rfl; omega, hx⟩, trivial⟩
 | e :: r, l, hE, _, h => ⟨hE.1, DY x hx r e.Epoch hE.2 (fun hr => by subst hr; simpa using h (by simp)) fun hr => by
   have := h (by simp)
   cases r with
   | nil => exact absurd rfl hr
   | cons b t => simpa using this⟩
theorem EC : ∀ {E : List sD} {l : Int}, An l E → 0 ≤ l → ∀ e ∈ E, 1 ≤ e.Epoch ∧ e.Epoch ≤ 1099511627776
 | [], _, _, _, _, h => by cases h
 | a :: r, l, hE, hl, e, h => by
  rcases List.mem_cons.1 h with rfl | h
  ·have := hE.1; omega
  ·exact EC hE.2 (by have := hE.1; omega) e h
theorem Cy {c : rK} {s t : bF} {j : bT} (h : ∀ e, (xA e s.Eras).2 = true → (xA e t.Eras).2 = true) (k : Sound c s j) : Sound c t j :=
 ⟨k.p, k.a, k.k.imp id fun b => ⟨b.st, h _ b.n, b.a, b.u, b.cr, b.vt⟩⟩
theorem DM {c : rK} {s t : bF} {j : bT} (k : Sound c s j) : Sound c t (idle j) := ⟨k.p, k.a, .inl ⟨rfl, rfl, rfl, rfl, rfl, rfl, rfl⟩⟩
theorem EX {c : rK} {s t : bF} {J : List bT} {q : Nat} {x : bT} (h : s.Eras = t.Eras) (hJ : ∀ i < J.length, Sound c s (J.getD i bT.z)) (hx : Sound c t x) : ∀ i < (J.set q x).length, Sound c t ((J.set q x).getD i bT.z) := fun i hi => by
 rw [List.length_set] at hi
 by_cases e : q = i
 ·subst e; rw [zB _ _ hi]; exact hx
 ·rw [Aa _ _ e]; exact Cy (fun e k => by rw [← h]; exact k) (hJ i hi)
theorem EL {J : List bT} {q : Nat} {x : bT} {n : Nat} (h : ∀ j ∈ J, j.Attempt ≤ (n : Int)) (hx : x.Attempt ≤ (n : Int) + 1) : ∀ j ∈ J.set q x, j.Attempt ≤ ((n + 1 : Nat) : Int) := fun j hj => by
 rcases List.mem_or_eq_of_mem_set hj with k | rfl
 ·have := h j k; omega
 ·omega
theorem HP {c : rK} (hc : vT c) {s t : bF} (hs : AB s) (hg : Good c s) {r : rD} (hr : Byt r.Data) (hm : As r) {n : Nat} (hn : n ≤ 1000) (ha : ∀ j ∈ s.Jobs, j.Attempt ≤ (n : Int)) (h : CP c s r = (0, t)) : Good c t ∧ ∀ j ∈ t.Jobs, j.Attempt ≤ ((n + 1 : Nat) : Int) := by
 have hK := hc.keys
 have ha' : ∀ j ∈ s.Jobs, j.Attempt ≤ ((n + 1 : Nat) : Int) := fun j hj => by have := ha j hj; omega
 unfold CP at h
 split at h
 ·rename_i hk
  unfold B3 at h
  split at h
  ·cases h
  ·rename_i g1
   split at h
   ·cases h
   ·rename_i g2
    injection h with _ h; subst h
    have hx : r.Epoch ≤ 1099511627776 := by unfold As at hm; omega
    unfold BS at g1
    refine ⟨⟨hg.u, hg.b, hg.h, by simp only [List.length_append, List.length_singleton]; omega, by simpa using hg.j, hg.un, ?_, fun i hi => ?_⟩, fun j hj => ?_⟩
    ·refine DY ⟨r.Epoch, r.Nonce⟩ hx _ _ hg.er (fun e => ?_) fun e => ?_
     ·rw [if_pos (by rw [e]; rfl)] at g1; dsimp only; omega
     ·rw [if_neg (fun k => e (D7.1 k))] at g1; dsimp only; omega
    ·have hi' : i < s.Jobs.length := by simpa using hi
     have e : (s.Jobs.map xW).getD i bT.z = xW (s.Jobs.getD i bT.z) := by
      rw [List.getD_eq_getElem?_getD, List.getElem?_map, List.getElem?_eq_getElem hi', List.getD_eq_getElem?_getD, List.getElem?_eq_getElem hi']; rfl
     rw [e]
     unfold xW
     split
     ·exact DM (hg.jb i hi')
     ·exact Cy (s := s) (fun e k => D1 e _ _ k) (hg.jb i hi')
    ·obtain ⟨x, hx, rfl⟩ := List.mem_map.1 hj
     unfold xW
     split
     ·exact ha' x hx
     ·exact ha' x hx
 split at h
 ·rename_i hk
  unfold Br at h
  split at h
  ·cases h
  ·split at h
   ·cases h
   ·rename_i g2
    injection h with _ h; subst h
    have hx : r.Data.length ≤ 64 := by unfold As at hm; omega
    refine ⟨⟨hg.u, hg.b, hg.h, hg.e, by simp only [List.length_append, List.length_singleton]; omega, hg.un, hg.er, fun i hi => ?_⟩, fun j hj => ?_⟩
    ·by_cases e : i < s.Jobs.length
     ·rw [List.getD_eq_getElem?_getD, List.getElem?_append_left e, ← List.getD_eq_getElem?_getD]
      exact Cy (s := s) (fun _ k => k) (hg.jb i e)
     ·have : i = s.Jobs.length := by simp only [List.length_append, List.length_singleton] at hi; omega
      subst this
      rw [List.getD_eq_getElem?_getD, List.getElem?_append_right (by omega), Nat.sub_self]
      exact ⟨hx, (show 0 ≤ (0 : Int) ∧ (0 : Int) ≤ 1099511627776 from by decide), .inl ⟨rfl, rfl, rfl, rfl, rfl, rfl, rfl⟩⟩
    ·rcases List.mem_append.1 hj with hj | hj
     ·exact ha' j hj
     ·rw [List.mem_singleton.1 hj]; dsimp only; omega
 split at h
 ·rename_i hk
  unfold Bk at h
  split at h
  ·cases h
  ·rename_i g0
   split at h
   ·rename_i gj
    split at h
    ·rename_i g1
     split at h
     ·cases h
     ·rename_i gt
      split at h
      ·rename_i g2
       injection h with _ h; subst h
       have hF := hc.f
       have hi : (r.Job - 1).toNat < s.Jobs.length := by omega
       have hsd := hg.jb _ hi
       have hid : Idle (s.Jobs.getD (r.Job - 1).toNat bT.z) := hsd.k.elim id fun b => absurd g1 (by rcases b.st with h | h <;> (rw [h]; decide))
       have hat := ha _ (uJ bT.z hi)
       obtain ⟨m1, m2, m3⟩ := D2 g2
       generalize (Cr.Aw s.Used s.Barred (xO c) (2 * c.Faulty + 1)).1 = l at m1 m2 m3
       obtain ⟨u1, u2⟩ := CF l s.Used
       have hat2 := Gy l s.Used m2 (fun w hw => ⟨(m3 w hw).1, (m3 w hw).2.1⟩)
       have ht : 1 ≤ r.Time ∧ r.Time ≤ 1099511627776 := by unfold As at hm; omega
       have hE : (xA (BS s) s.Eras).2 = true := by
        unfold BS
        rw [if_neg g0]
        exact DE ⟨_, uJ sD.z (by omega), rfl⟩
       refine ⟨⟨by show ((zA s.Used l).2.length : Int) = _; rw [u2]; exact hg.u, hg.b, hg.h, hg.e, by simpa using hg.j, fun i hi => ?_, hg.er, EX (s := s) rfl hg.jb ⟨hsd.p, by have := hsd.a; dsimp only; omega, .inr ⟨.inl rfl, hE, by have := hsd.a; dsimp only; omega, ht, ⟨m1, by dsimp only; rw [u1]; exact m1, m2, fun i hi => ?_, fun i hi => ?_⟩, ?_⟩⟩⟩, EL ha (by dsimp only; omega)⟩
       ·dsimp only at hi ⊢
        rw [u2] at hi
        have h0 := hg.un i hi
        by_cases k : (i : Int) ∈ l
        ·obtain ⟨q, hq, he⟩ := List.mem_iff_getElem.1 k
         have he' : l.getD q 0 = (i : Int) := by rw [List.getD_eq_getElem?_getD, List.getElem?_eq_getElem hq]; exact he
         have h1 := (hat2 q hq).2
         have h2 := (m3 _ k).2.2.2
         rw [he', Int.toNat_natCast] at h1
         rw [Int.toNat_natCast] at h2
         omega
        ·have h1 := B5 l s.Used (i : Int) (by omega) (fun x hx => (m3 x hx).1) k
         rw [Int.toNat_natCast] at h1
         omega
       ·have := m3 _ (uJ 0 hi)
        have hu := hg.u
        dsimp only at hi ⊢
        omega
       ·have h1 := (hat2 i hi).1
        have h2 := m3 _ (uJ 0 hi)
        have h3 := GD hc hg (l.getD i 0).toNat
        dsimp only at hi ⊢
        omega
       ·rw [hid.v, hid.x]
        exact ⟨by simp [AQ], by simp, by
         show yO [] c.Faulty = _
         unfold yO
         rw [if_neg (by omega)]
         rfl⟩
      ·rename_i g2; injection h with h _; exact absurd h g2
    ·cases h
   ·cases h
 split at h
 ·rename_i hk
  unfold DW at h
  split at h
  ·rename_i g1
   have hi : (r.Job - 1).toNat < s.Jobs.length := by omega
   have hj := hs.each _ (uJ bT.z hi)
   have hat := ha _ (uJ bT.z hi)
   have hsd := hg.jb _ hi
   generalize hi' : (r.Job - 1).toNat = i at hi hj hsd h hat
   generalize hje : s.Jobs.getD i bT.z = j at hj hsd h hat
   split at h
   ·cases h
   ·rename_i gs
    have hb : E9 c s j := hsd.k.resolve_left fun k => gs k.s
    split at h
    ·rename_i gm
     split at h
     ·rename_i gc
      have hnew : 0 ≤ r.By ∧ r.Data.length ≤ 32 ∧ ¬ ∃ d ∈ j.rI, d.Worker = r.By := Classical.byContradiction fun k => Ft (l := j.rI) (c := ⟨r.By, r.Data⟩) k gc
      have hv : (yT j.rI ⟨r.By, r.Data⟩).1 = j.rI ++ [⟨r.By, r.Data⟩] := by rw [Fl hnew.1 hnew.2.1 hnew.2.2]
      rw [hv] at h
      have honce : AQ (j.rI ++ [⟨r.By, r.Data⟩]) := by
       unfold AQ
       rw [List.map_append]
       refine AF hb.vt.once fun e => hnew.2.2 ?_
       obtain ⟨d, hd, he⟩ := List.mem_map.1 e
       exact ⟨d, hd, he⟩
      have heach : ∀ v ∈ j.rI ++ [(⟨r.By, r.Data⟩ : rA)], 0 ≤ v.Worker ∧ v.Value.length ≤ 32 ∧ v.Worker ∈ j.Workers := fun v hv => by
       rcases List.mem_append.1 hv with hv | hv
       ·exact hb.vt.each v hv
       ·rw [List.mem_singleton.1 hv]; exact ⟨hnew.1, hnew.2.1, gm⟩
      split at h
      ·rename_i gd
       injection h with _ h; subst h
       refine ⟨⟨hg.u, by show ((Dt _ _).length : Int) = _; rw [Cf]; exact hg.b, hg.h, hg.e, by simpa using hg.j, hg.un, hg.er, EX (s := s) rfl hg.jb ⟨hsd.p, hsd.a, .inr ⟨.inr rfl, hb.n, hb.a, hb.u, ⟨hb.cr.lw, hb.cr.li, hb.cr.nd, hb.cr.w, hb.cr.i⟩, honce, heach, ?_⟩⟩⟩, EL ha (by dsimp only; omega)⟩
       exact Prod.ext rfl gd
      ·rename_i gd
       injection h with _ h; subst h
       have hlen : ((j.rI ++ [(⟨r.By, r.Data⟩ : rA)]).length : Int) ≤ 2 * c.Faulty + 1 := by
        have := Bb honce (W := j.Workers) fun x hx => (heach x hx).2.2
        have := hb.cr.lw
        omega
       have h3 : ¬ j.State = 3 := fun k => gd (by
        have hd := hb.vt.dec
        rw [decide_eq_true k] at hd
        have hd2 : dec j.rI c.Faulty j.rI = (j.Value, true) := by
         unfold yO at hd
         rwa [if_neg (by have := hc.f; omega)] at hd
        obtain ⟨_, hcnt⟩ := DT _ c.Faulty _ (by rw [hd2])
        rw [hd2] at hcnt
        dsimp only at hcnt
        rw [DK hb.vt.once] at hcnt
        rw [IB honce hc.f.1 hlen (v := j.Value) (by rw [DK honce, List.filter_append, List.length_append]; omega)])
       have hval : j.Value = [] := by
        have hd := hb.vt.dec
        rw [decide_eq_false h3] at hd
        have := Dm (by rw [hd])
        rw [hd] at this
        exact this
       refine ⟨⟨hg.u, hg.b, hg.h, hg.e, by simpa using hg.j, hg.un, hg.er, EX (s := s) rfl hg.jb ⟨hsd.p, hsd.a, .inr ⟨hb.st, hb.n, hb.a, hb.u, ⟨hb.cr.lw, hb.cr.li, hb.cr.nd, hb.cr.w, hb.cr.i⟩, honce, heach, ?_⟩⟩⟩, EL ha (by dsimp only; omega)⟩
       dsimp only
       rw [decide_eq_false h3, hval]
       have gd' : (yO (j.rI ++ [(⟨r.By, r.Data⟩ : rA)]) c.Faulty).2 = false := by simpa using gd
       exact Prod.ext (Dm gd') gd'
     ·rename_i g2; injection h with h _; exact absurd h g2
    ·cases h
  ·cases h
 split at h
 ·unfold Bj at h
  split at h
  ·split at h
   ·split at h
    ·cases h
    ·injection h with _ h; subst h
     rename_i g1 _ _ _
     have hi : (r.Job - 1).toNat < s.Jobs.length := by omega
     have hat := ha _ (uJ bT.z hi)
     exact ⟨⟨hg.u, hg.b, hg.h, hg.e, by simpa using hg.j, hg.un, hg.er, EX (s := s) rfl hg.jb (DM (hg.jb _ hi))⟩, EL ha (by show (s.Jobs.getD _ _).Attempt ≤ _; omega)⟩
   ·cases h
  ·cases h
 ·unfold DD at h
  split at h
  ·cases h
  ·split at h
   ·cases h
   ·rename_i g
    injection h with _ h; subst h
    have := hg.h
    exact ⟨⟨hg.u, hg.b, by dsimp only; omega, hg.e, hg.j, hg.un, hg.er, fun i hi => Cy (s := s) (fun _ k => k) (hg.jb i hi)⟩, ha'⟩
theorem HW {c : rK} (hc : vT c) : Good c (Fe c).1 := by
 have hW := hc.w; have hF := hc.f; have hK := hc.keys; have hh := EM hc.hd; have hJ := hc.j
 unfold Fe
 rw [if_pos hc]
 refine ⟨by simp; omega, by simp; omega, by dsimp only; omega, by simp, by simp; omega, fun i hi => ?_, trivial, fun i hi => by simp at hi⟩
 have : (List.replicate c.Workers.toNat (0 : Int)).getD i 0 = 0 := by
  rw [List.getD_eq_getElem?_getD, List.getElem?_replicate]; split <;> rfl
 dsimp only
 rw [this]
 omega
end Go.Proofs.YtobdpbnadjkhiaaGreat.Pure
namespace Go.Proofs.YtobdpbnadjkhiaaGreat.Rc
theorem vY.app {a b : List Int} (h : vY a) (k : vY b) : vY (a ++ b) := fun y hy => (List.mem_append.1 hy).elim (h y) (k y)
theorem vY.flat {α : Type} {f : α → List Int} {l : List α} (h : ∀ x ∈ l, vY (f x)) : vY (l.flatMap f) := fun y hy => by
 obtain ⟨x, hx, hy⟩ := List.mem_flatMap.1 hy
 exact h x hx y hy
end Go.Proofs.YtobdpbnadjkhiaaGreat.Rc
namespace Go.Proofs.YtobdpbnadjkhiaaGreat.Rs
open Go.WG Go.Proofs.YtobdpbnadjkhiaaGreat Go.Proofs.YtobdpbnadjkhiaaGreat.Pure Go.Proofs.YtobdpbnadjkhiaaGreat.Ta Go.Proofs.YtobdpbnadjkhiaaGreat.Rc
set_option linter.unusedSimpArgs false
set_option linter.unusedVariables false
theorem Bm {α : Type} {f : α → List Int} {B : Nat} : ∀ {l : List α}, (∀ x ∈ l, (f x).length ≤ B) → (l.flatMap f).length ≤ B * l.length
 | [], _ => by simp
 | a :: r, h => by
  have h1 := Bm (l := r) fun x hx => h x (List.mem_cons_of_mem _ hx)
  have h2 := h a (by simp)
  rw [List.flatMap_cons, List.length_append, List.length_cons, Nat.mul_succ]
  omega
theorem xF {α : Type} (f : α → List Int) (l : List α) (x : α) : (l ++ [x]).flatMap f = l.flatMap f ++ f x := by rw [List.flatMap_append, List.flatMap_cons, List.flatMap_nil, List.append_nil]
def yA (x : Int) : Prop := 0 ≤ x ∧ x ≤ 1099511627776
instance (x : Int) : Decidable (yA x) := by unfold yA; infer_instance
theorem yA.nat {x : Int} (h : yA x) : x.toNat < 18446744073709551616 := by unfold yA at h; omega
abbrev num (x : Int) : List Int := CJ x.toNat
theorem Ag {x : Int} (h : yA x) : vY (num x) ∧ (num x).length ≤ 9 := ⟨Hx h.nat, Bh h.nat⟩
theorem Gj {d : List Int} (h : vY d) (hl : d.length ≤ 64) : vY (zJ d) ∧ (zJ d).length ≤ 9 + d.length := by
 unfold zJ
 have := Bh (n := d.length) (by omega)
 exact ⟨vY.app (Hx (n := d.length) (by omega)) h, by rw [List.length_append]; omega⟩
def AO (e : sD) : List Int := num e.Epoch ++ e.Nonce
def zT (p : Int × Int) : List Int := num p.1 ++ num p.2
def Af (v : rA) : List Int := num v.Worker ++ zJ v.Value
def AD (j : bT) : List Int :=
 zJ j.Payload ++ (num j.State ++ (num j.Attempt ++ (num j.Epoch ++ (num j.Until ++ (num j.Workers.length ++ ((j.Workers.zip j.Indexes).flatMap zT ++ (num j.rI.length ++ (j.rI.flatMap Af ++ zJ j.Value))))))))
def Bn (p : Int × Bool) : List Int := num p.1 ++ num (if p.2 = true then 1 else 0)
def AM (s : bF) : List Int :=
 num s.Eras.length ++ (s.Eras.flatMap AO ++ (num s.Jobs.length ++ (s.Jobs.flatMap AD ++ (num s.Used.length ++ ((s.Used.zip s.Barred).flatMap Bn ++ num s.Heads)))))
structure PkE (e : sD) : Prop where
 ep : yA e.Epoch
 n : e.Nonce.length = 32
 b : vY e.Nonce
structure PkJ (j : bT) : Prop where
 p : j.Payload.length ≤ 64
 pb : vY j.Payload
 s : yA j.State
 a : yA j.Attempt
 e : yA j.Epoch
 u : yA j.Until
 w : j.Workers.length ≤ 8
 i : j.Indexes.length = j.Workers.length
 wi : ∀ p ∈ j.Workers.zip j.Indexes, yA p.1 ∧ yA p.2
 v : j.rI.length ≤ 8
 vs : ∀ v ∈ j.rI, yA v.Worker ∧ v.Value.length ≤ 32 ∧ vY v.Value
 x : j.Value.length ≤ 32
 xb : vY j.Value
structure Pk (s : bF) : Prop where
 e : s.Eras.length ≤ 256
 es : ∀ e ∈ s.Eras, PkE e
 j : s.Jobs.length ≤ 64
 js : ∀ j ∈ s.Jobs, PkJ j
 u : s.Used.length ≤ 8
 b : s.Barred.length = s.Used.length
 us : ∀ x ∈ s.Used, yA x
 h : yA s.Heads
theorem Ew {e : Int} : ∀ {E : List sD}, (xA e E).2 = true → ∃ a ∈ E, a.Epoch = e
 | [], h => by simp [xA] at h
 | b :: r, h => by
  unfold xA at h
  split at h
  ·rename_i k; exact ⟨b, by simp, k⟩
  ·obtain ⟨a, ha, he⟩ := Ew h
   exact ⟨a, List.mem_cons_of_mem _ ha, he⟩
theorem FB {l : List Int} {x : Int} (h : x ∈ l) : ∃ i < l.length, l.getD i 0 = x := by
 obtain ⟨q, hq, he⟩ := List.mem_iff_getElem.1 h
 exact ⟨q, hq, by rw [List.getD_eq_getElem?_getD, List.getElem?_eq_getElem hq]; exact he⟩
theorem Gn {c : rK} (hc : vT c) {s : bF} (hs : AB s) (hg : Pure.Good c s) (he : ∀ e ∈ s.Eras, e.Nonce.length = 32 ∧ vY e.Nonce) : Pk s := by
 have hK := hc.keys; have hW := hc.w; have hF := hc.f; have hJ := hc.j; have hh := EM hc.hd; have hH := hg.h
 have hle := EC hg.er (by decide)
 have hu := hg.u; have hb := hg.b; have hjl := hg.j
 refine ⟨hg.e, fun e h => ⟨by have := hle e h; unfold yA; omega, (he e h).1, (he e h).2⟩, by omega, fun j h => ?_, by omega, by omega, fun x h => ?_, by unfold yA; omega⟩
 ·obtain ⟨i, hi, rfl⟩ := List.mem_iff_getElem.1 h
  have hsd := hg.jb i hi
  have hj := hs.each _ h
  rw [show s.Jobs.getD i bT.z = s.Jobs[i] from by rw [List.getD_eq_getElem?_getD, List.getElem?_eq_getElem hi]; rfl] at hsd
  generalize s.Jobs[i] = j at hsd hj
  have ha := hsd.a
  rcases hsd.k with k | k
  ·exact ⟨hsd.p, hj.pay.2, by rw [k.s]; decide, hsd.a, by rw [k.e]; decide, by rw [k.u]; decide, by rw [k.w]; simp, by rw [k.w, k.i], by rw [k.w]; simp, by rw [k.v]; simp, by rw [k.v]; simp, by rw [k.x]; simp, hj.val.2⟩
  ·obtain ⟨a, ha', hae⟩ := Ew k.n
   have hep := hle a ha'
   have hcr := k.cr
   have hlw := hcr.lw; have hli := hcr.li
   have hvl := Bb k.vt.once fun v hv => (k.vt.each v hv).2.2
   have hv8 : j.Value.length ≤ 32 := by
    have hd := k.vt.dec
    by_cases h3 : j.State = 3
    ·rw [decide_eq_true h3] at hd
     have hd2 : dec j.rI c.Faulty j.rI = (j.Value, true) := by
      unfold yO at hd
      rwa [if_neg (by omega)] at hd
     obtain ⟨⟨v, hv, hve⟩, _⟩ := DT _ c.Faulty _ (by rw [hd2])
     rw [hd2] at hve
     have := (k.vt.each v hv).2.1
     dsimp only at hve
     rw [← hve]; exact this
    ·rw [decide_eq_false h3] at hd
     have := Dm (by rw [hd])
     rw [hd] at this
     have h0 : j.Value = [] := this
     rw [h0]; simp
   refine ⟨hsd.p, hj.pay.2, by unfold yA; rcases k.st with h | h <;> omega, hsd.a, by unfold yA; omega, by have := k.u; unfold yA; omega, hj.wk, by omega, fun p hp => ?_, by have := hj.wk; omega, fun v hv => ?_, hv8, hj.val.2⟩
   ·obtain ⟨q, hq, rfl⟩ := List.mem_iff_getElem.1 hp
    rw [List.length_zip] at hq
    have h1 := hcr.w q (by omega)
    have h2 := hcr.i q (by omega)
    rw [List.getD_eq_getElem?_getD, List.getElem?_eq_getElem (by omega)] at h1 h2
    simp only [Option.getD_some] at h1 h2
    rw [List.getElem_zip]
    unfold yA
    dsimp only
    omega
   ·obtain ⟨g1, g2, g3⟩ := k.vt.each v hv
    obtain ⟨q, hq, hqe⟩ := FB g3
    have := hcr.w q hq
    exact ⟨by unfold yA; omega, g2, (hj.votes.2 v hv).2⟩
 ·obtain ⟨q, hq, rfl⟩ := FB h
  have := hg.un q hq
  unfold yA
  omega
theorem E0 {p : Int × Int} (h : yA p.1 ∧ yA p.2) : vY (zT p) ∧ (zT p).length ≤ 18 := by
 obtain ⟨a1, a2⟩ := Ag h.1; obtain ⟨b1, b2⟩ := Ag h.2
 exact ⟨a1.app b1, by unfold zT; rw [List.length_append]; omega⟩
theorem ES {v : rA} (h : yA v.Worker ∧ v.Value.length ≤ 32 ∧ vY v.Value) : vY (Af v) ∧ (Af v).length ≤ 50 := by
 obtain ⟨a1, a2⟩ := Ag h.1; obtain ⟨b1, b2⟩ := Gj h.2.2 (by have := h.2.1; omega)
 exact ⟨a1.app b1, by have := h.2.1; unfold Af; rw [List.length_append]; omega⟩
theorem Ct {n : Nat} (h : n ≤ 1000) : yA (n : Int) := by unfold yA; omega
theorem Gd {p : Int × Bool} (h : yA p.1) : vY (Bn p) ∧ (Bn p).length ≤ 18 := by
 obtain ⟨a1, a2⟩ := Ag h
 obtain ⟨b1, b2⟩ := Ag (x := if p.2 = true then 1 else 0) (by split <;> decide)
 exact ⟨a1.app b1, by unfold Bn; rw [List.length_append]; omega⟩
theorem EV {j : bT} (h : PkJ j) : vY (AD j) ∧ (AD j).length ≤ 800 := by
 obtain ⟨a1, a2⟩ := Gj h.pb h.p
 obtain ⟨b1, b2⟩ := Ag h.s; obtain ⟨c1, c2⟩ := Ag h.a; obtain ⟨d1, d2⟩ := Ag h.e; obtain ⟨e1, e2⟩ := Ag h.u
 have hw := h.w; have hv := h.v; have hp := h.p; have hx := h.x
 obtain ⟨f1, f2⟩ := Ag (Ct (n := j.Workers.length) (by omega)); obtain ⟨g1, g2⟩ := Ag (Ct (n := j.rI.length) (by omega))
 have i2 := Bm (f := zT) (B := 18) fun p hp => (E0 (h.wi p hp)).2
 have j2 := Bm (f := Af) (B := 50) fun p hp => (ES (h.vs p hp)).2
 obtain ⟨k1, k2⟩ := Gj h.xb (by omega)
 rw [List.length_zip] at i2
 refine ⟨a1.app (b1.app (c1.app (d1.app (e1.app (f1.app ((vY.flat fun p hp => (E0 (h.wi p hp)).1).app (g1.app ((vY.flat fun p hp => (ES (h.vs p hp)).1).app k1)))))))), ?_⟩
 unfold AD
 simp only [List.length_append]
 omega
theorem Gh {e : sD} (h : PkE e) : vY (AO e) ∧ (AO e).length ≤ 41 := by
 obtain ⟨a1, a2⟩ := Ag h.ep
 exact ⟨a1.app h.b, by have := h.n; unfold AO; rw [List.length_append]; omega⟩
theorem HQ {s : bF} (h : Pk s) : vY (AM s) ∧ (AM s).length ≤ 100000 := by
 have he := h.e; have hj := h.j; have hu := h.u
 obtain ⟨a1, a2⟩ := Ag (Ct (n := s.Eras.length) (by omega)); obtain ⟨b1, b2⟩ := Ag (Ct (n := s.Jobs.length) (by omega)); obtain ⟨c1, c2⟩ := Ag (Ct (n := s.Used.length) (by omega))
 obtain ⟨d1, d2⟩ := Ag h.h
 have hz : ∀ p ∈ s.Used.zip s.Barred, yA p.1 := fun p hp => h.us p.1 (List.of_mem_zip hp).1
 have e2 := Bm (f := AO) (B := 41) fun p hp => (Gh (h.es p hp)).2
 have f2 := Bm (f := AD) (B := 800) fun p hp => (EV (h.js p hp)).2
 have g2 := Bm (f := Bn) (B := 18) fun p hp => (Gd (hz p hp)).2
 rw [List.length_zip] at g2
 refine ⟨a1.app ((vY.flat fun p hp => (Gh (h.es p hp)).1).app (b1.app ((vY.flat fun p hp => (EV (h.js p hp)).1).app (c1.app ((vY.flat fun p hp => (Gd (hz p hp)).1).app d1))))), ?_⟩
 unfold AM
 simp only [List.length_append]
 omega
theorem zV {x : Int} (h : yA x) (rest : List Int) : N40 (num x ++ rest, 0) = (x, (rest, 0)) := by
 have h' := h
 unfold yA at h'
 unfold N40
 rw [BA, DZ h.nat (by omega)]
 dsimp only
 rw [Int.toNat_of_nonneg h'.1]
theorem BK {x m : Int} (h : 0 ≤ x ∧ x ≤ m) (hm : m ≤ 1000) (rest : List Int) : vB m (num x ++ rest, 0) = (x, (rest, 0)) := by
 rw [BA, DZ (by omega) (by omega)]
 dsimp only
 rw [Int.toNat_of_nonneg h.1]
theorem Iz {d : List Int} (h : d.length = 32) (rest : List Int) : Be (d ++ rest, 0) = (d, (rest, 0)) := by
 rw [Fa, if_neg (by rw [List.length_append]; omega), ← h, List.take_left, List.drop_left]
theorem CS {d : List Int} {m : Int} (h : (d.length : Int) ≤ m) (hm : m ≤ 1000) (rest : List Int) : uN m (zJ d ++ rest, 0) = (d, (rest, 0)) := by
 rw [Dn, zJ, List.append_assoc, DZ (by omega) (by omega)]
 dsimp only
 rw [if_neg (by omega), if_neg (by rw [List.length_append]; omega), List.take_left, List.drop_left]
theorem Eo {E : List sD} (h : ∀ e ∈ E, PkE e) : ∀ i, i ≤ E.length → ∀ rest, yF ((E.take i).flatMap AO ++ rest, 0) i = (E.take i, (rest, 0))
 | 0, _, rest => rfl
 | i + 1, hi, rest => by
  have he := h _ (uJ sD.z (show i < E.length by omega))
  have ih := Eo h i (by omega) (AO (E.getD i sD.z) ++ rest)
  rw [take_succ sD.z (by omega), xF, List.append_assoc, yF, ih]
  dsimp only
  unfold AO
  rw [List.append_assoc, zV he.ep]
  dsimp only
  rw [Iz he.n]
theorem DQ {P : List (Int × Int)} (h : ∀ p ∈ P, yA p.1 ∧ yA p.2) : ∀ i, i ≤ P.length → ∀ rest, uZ ((P.take i).flatMap zT ++ rest, 0) i = (((P.take i).map (·.1), (P.take i).map (·.2)), (rest, 0))
 | 0, _, rest => rfl
 | i + 1, hi, rest => by
  have he := h _ (uJ (0, 0) (show i < P.length by omega))
  have ih := DQ h i (by omega) (zT (P.getD i (0, 0)) ++ rest)
  rw [take_succ (0, 0) (by omega), xF, List.append_assoc, uZ, ih, List.map_append, List.map_append]
  dsimp only
  unfold zT
  rw [List.append_assoc, zV he.1]
  dsimp only
  rw [zV he.2]
  rfl
theorem D0 {V : List rA} (h : ∀ v ∈ V, yA v.Worker ∧ v.Value.length ≤ 32 ∧ vY v.Value) : ∀ i, i ≤ V.length → ∀ rest, xE ((V.take i).flatMap Af ++ rest, 0) i = (V.take i, (rest, 0))
 | 0, _, rest => rfl
 | i + 1, hi, rest => by
  have he := h _ (uJ rA.z (show i < V.length by omega))
  have ih := D0 h i (by omega) (Af (V.getD i rA.z) ++ rest)
  rw [take_succ rA.z (by omega), xF, List.append_assoc, xE, ih]
  dsimp only
  unfold Af
  rw [List.append_assoc, zV he.1]
  dsimp only
  rw [CS (by have := he.2.1; omega) (by decide)]
theorem zip_map {α β : Type} : ∀ (a : List α) (b : List β), b.length = a.length → (a.zip b).map (·.1) = a ∧ (a.zip b).map (·.2) = b
 | [], [], _ => ⟨rfl, rfl⟩
 | x :: a, y :: b, h => by
  obtain ⟨h1, h2⟩ := zip_map a b (by simpa using h)
  exact ⟨by rw [List.zip_cons_cons, List.map_cons, h1], by rw [List.zip_cons_cons, List.map_cons, h2]⟩
 | [], _ :: _, h => by simp at h
 | _ :: _, [], h => by simp at h
theorem HG {j : bT} (h : PkJ j) (rest : List Int) : AY (AD j ++ rest, 0) = (j, (rest, 0)) := by
 have hp := h.p; have hw := h.w; have hv := h.v; have hx := h.x
 have zl : (j.Workers.zip j.Indexes).length = j.Workers.length := by rw [List.length_zip, h.i, Nat.min_self]
 have p1 := DQ h.wi (j.Workers.zip j.Indexes).length (Nat.le_refl _)
 rw [List.take_length, zl] at p1
 have v1 := D0 h.vs j.rI.length (Nat.le_refl _)
 rw [List.take_length] at v1
 obtain ⟨z1, z2⟩ := zip_map j.Workers j.Indexes h.i
 rw [z1, z2] at p1
 unfold AY AD
 simp only [List.append_assoc]
 rw [CS (by omega) (by decide)]
 dsimp only
 rw [zV h.s]
 dsimp only
 rw [zV h.a]
 dsimp only
 rw [zV h.e]
 dsimp only
 rw [zV h.u]
 dsimp only
 rw [BK (by omega) (by decide)]
 dsimp only
 rw [Int.toNat_natCast, p1]
 dsimp only
 rw [BK (by omega) (by decide)]
 dsimp only
 rw [Int.toNat_natCast, v1]
 dsimp only
 rw [CS (by omega) (by decide)]
theorem Ex {J : List bT} (h : ∀ j ∈ J, PkJ j) : ∀ i, i ≤ J.length → ∀ rest, yG ((J.take i).flatMap AD ++ rest, 0) i = (J.take i, (rest, 0))
 | 0, _, rest => rfl
 | i + 1, hi, rest => by
  have he := h _ (uJ bT.z (show i < J.length by omega))
  have ih := Ex h i (by omega) (AD (J.getD i bT.z) ++ rest)
  rw [take_succ bT.z (by omega), xF, List.append_assoc, yG, ih]
  dsimp only
  rw [HG he]
theorem Es {P : List (Int × Bool)} (h : ∀ p ∈ P, yA p.1) : ∀ i, i ≤ P.length → ∀ rest, uU ((P.take i).flatMap Bn ++ rest, 0) i = (((P.take i).map (·.1), (P.take i).map (·.2), false), (rest, 0))
 | 0, _, rest => rfl
 | i + 1, hi, rest => by
  have he := h _ (uJ (0, false) (show i < P.length by omega))
  have ih := Es h i (by omega) (Bn (P.getD i (0, false)) ++ rest)
  rw [take_succ (0, false) (by omega), xF, List.append_assoc, uU, ih, List.map_append, List.map_append]
  dsimp only
  unfold Bn
  rw [List.append_assoc, zV he]
  dsimp only
  rw [zV (by split <;> decide)]
  dsimp only
  generalize P.getD i (0, false) = p
  obtain ⟨p, b⟩ := p
  cases b <;> rfl
theorem Hh {c : rK} (hc : vT c) {s : bF} (hg : Pure.Good c s) (h : Pk s) : DX c (AM s) = (s, 0) := by
 have he := h.e; have hj := h.j; have hu := h.u
 have e1 := Eo h.es s.Eras.length (Nat.le_refl _)
 rw [List.take_length] at e1
 have j1 := Ex h.js s.Jobs.length (Nat.le_refl _)
 rw [List.take_length] at j1
 have zl : (s.Used.zip s.Barred).length = s.Used.length := by rw [List.length_zip, h.b, Nat.min_self]
 have u1 := Es (P := s.Used.zip s.Barred) (fun p hp => h.us p.1 (List.of_mem_zip hp).1) (s.Used.zip s.Barred).length (Nat.le_refl _)
 obtain ⟨z1, z2⟩ := zip_map s.Used s.Barred h.b
 rw [List.take_length, zl, z1, z2] at u1
 have hE : eA (AM s) = (s.Eras, (num s.Jobs.length ++ (s.Jobs.flatMap AD ++ (num s.Used.length ++ ((s.Used.zip s.Barred).flatMap Bn ++ num s.Heads))), 0)) := by
  unfold eA AM
  rw [BK (by omega) (by decide)]
  dsimp only
  rw [Int.toNat_natCast, e1]
 have hJ : jA (AM s) = (s.Jobs, (num s.Used.length ++ ((s.Used.zip s.Barred).flatMap Bn ++ num s.Heads), 0)) := by
  unfold jA
  rw [hE]
  dsimp only
  rw [BK (by omega) (by decide)]
  dsimp only
  rw [Int.toNat_natCast, j1]
 have hU : uA (AM s) = ((s.Used, s.Barred, false), (num s.Heads, 0)) := by
  unfold uA
  rw [hJ]
  dsimp only
  rw [BK (by omega) (by decide)]
  dsimp only
  rw [Int.toNat_natCast, u1]
 have hN : N40 (num s.Heads, 0) = (s.Heads, ([], 0)) := by
  have := zV h.h []
  rwa [List.append_nil] at this
 have hr : Cj (AM s) = s := by
  unfold Cj
  rw [hE, hJ, hU]
  dsimp only
  rw [hN]
 have hz : Di (AM s) = 0 := by
  unfold Di
  rw [hU]
  dsimp only
  rw [hN]
  rfl
 unfold DX
 rw [if_pos hc, if_pos hz, hU, hr]
 dsimp only
 rw [if_neg (by simp), xZ hg]
end Go.Proofs.YtobdpbnadjkhiaaGreat.Rs
namespace Go.Proofs.YtobdpbnadjkhiaaGreat.Rs
open Go.WG Go.Proofs.YtobdpbnadjkhiaaGreat Go.Proofs.YtobdpbnadjkhiaaGreat.Pure Go.Proofs.YtobdpbnadjkhiaaGreat.Ta Go.Proofs.YtobdpbnadjkhiaaGreat.Rc
set_option linter.unusedSimpArgs false
set_option linter.unusedVariables false
theorem A9 {most : Int} {s : RS} (h : Ok s) (hz : (vB most s).2.2 = 0) : s.2 = 0 ∧ s.1 = num (vB most s).1 ++ (vB most s).2.1 := by
 obtain ⟨b, e⟩ := s
 by_cases he : e = 0
 ·subst he
  rw [BA] at hz ⊢
  cases hg : AT most b with
  | inl q => rw [hg] at hz; exact absurd hz (Dr hg)
  | inr p =>
   obtain ⟨x, rest⟩ := p
   obtain ⟨g1, g2, g3⟩ := BE h.b hg
   exact ⟨rfl, by show b = CJ (x : Int).toNat ++ rest; rw [Int.toNat_natCast]; exact g3⟩
 ·rw [EJ _ _ he] at hz
  exact absurd hz he
theorem zS {s : RS} (h : Ok s) (hz : (N40 s).2.2 = 0) : s.2 = 0 ∧ s.1 = num (N40 s).1 ++ (N40 s).2.1 := A9 h hz
theorem H6 {s : RS} (h : Ok s) : (Be s).1.length = 32 ∧ vY (Be s).1 := by
 have z : (List.replicate 32 (0 : Int)).length = 32 ∧ vY (List.replicate 32 (0 : Int)) := ⟨by simp, fun y hy => by rw [(List.mem_replicate.1 hy).2]; exact ⟨by decide, by decide⟩⟩
 unfold Be
 split
 ·exact z
 ·split
  ·exact z
  ·exact ⟨by rw [List.length_take]; omega, h.b.take 32⟩
theorem Ht {s : RS} (hz : (Be s).2.2 = 0) : s.2 = 0 ∧ s.1 = (Be s).1 ++ (Be s).2.1 := by
 obtain ⟨b, e⟩ := s
 by_cases he : e = 0
 ·subst he
  rw [Fa] at hz ⊢
  by_cases h32 : b.length < 32
  ·rw [if_pos h32] at hz; exact absurd hz (by dsimp only; decide)
  ·rw [if_neg h32]
   exact ⟨rfl, (List.take_append_drop 32 b).symm⟩
 ·rw [Gc _ he] at hz
  exact absurd hz he
theorem CM {m : Int} {s : RS} (h : Ok s) (hz : (uN m s).2.2 = 0) : s.2 = 0 ∧ s.1 = zJ (uN m s).1 ++ (uN m s).2.1 := by
 obtain ⟨b, e⟩ := s
 by_cases he : e = 0
 ·subst he
  rw [Dn] at hz ⊢
  cases hg : AT 18446744073709551615 b with
  | inl q => rw [hg] at hz; exact absurd hz (Dr hg)
  | inr p =>
   obtain ⟨x, rest⟩ := p
   obtain ⟨g1, g2, g3⟩ := BE h.b hg
   rw [hg] at hz
   dsimp only at hz ⊢
   by_cases k1 : (x : Int) > m
   ·rw [if_pos k1] at hz; exact absurd hz (by dsimp only; decide)
   ·rw [if_neg k1] at hz ⊢
    by_cases k2 : x > rest.length
    ·rw [if_pos k2] at hz; exact absurd hz (by dsimp only; decide)
    ·rw [if_neg k2]
     refine ⟨rfl, ?_⟩
     dsimp only
     unfold zJ
     rw [List.append_assoc, List.take_append_drop, List.length_take, Nat.min_eq_left (by omega)]
     exact g3
 ·rw [E1 _ _ he] at hz
  exact absurd hz he
theorem Ff {s : RS} (h : Ok s) : ∀ n, (yF s n).2.2 = 0 → s.2 = 0 ∧ s.1 = (yF s n).1.flatMap AO ++ (yF s n).2.1
 | 0, hz => ⟨hz, rfl⟩
 | i + 1, hz => by
  obtain ⟨o, _⟩ := Ar h i
  obtain ⟨d1, d2⟩ := Ht hz
  obtain ⟨n1, n2⟩ := zS o d1
  obtain ⟨i1, i2⟩ := Ff h i n1
  refine ⟨i1, ?_⟩
  rw [i2, n2, d2]
  simp only [yF, xF, AO, List.append_assoc]
theorem Ek {s : RS} (h : Ok s) : ∀ n, (uZ s n).2.2 = 0 → s.2 = 0 ∧ s.1 = ((uZ s n).1.1.zip (uZ s n).1.2).flatMap zT ++ (uZ s n).2.1
 | 0, hz => ⟨hz, rfl⟩
 | i + 1, hz => by
  obtain ⟨o, l1, l2⟩ := Aj h i
  obtain ⟨d1, d2⟩ := zS (wZ o) hz
  obtain ⟨n1, n2⟩ := zS o d1
  obtain ⟨i1, i2⟩ := Ek h i n1
  refine ⟨i1, ?_⟩
  rw [i2, n2, d2]
  simp only [uZ]
  rw [List.zip_append (by rw [l1, l2]), List.zip_cons_cons, List.zip_nil_left, xF]
  simp only [zT, List.append_assoc]
theorem Ef {s : RS} (h : Ok s) : ∀ n, (xE s n).2.2 = 0 → s.2 = 0 ∧ s.1 = (xE s n).1.flatMap Af ++ (xE s n).2.1
 | 0, hz => ⟨hz, rfl⟩
 | i + 1, hz => by
  obtain ⟨o, _⟩ := Ao h i
  obtain ⟨d1, d2⟩ := CM (wZ o) hz
  obtain ⟨n1, n2⟩ := zS o d1
  obtain ⟨i1, i2⟩ := Ef h i n1
  refine ⟨i1, ?_⟩
  rw [i2, n2, d2]
  simp only [xE, xF, Af, List.append_assoc]
theorem Ip {s : RS} (h : Ok s) (hz : (AY s).2.2 = 0) : s.2 = 0 ∧ s.1 = AD (AY s).1 ++ (AY s).2.1 := by
 have o1 := BF (most := 64) h
 have o2 := wZ o1; have o3 := wZ o2; have o4 := wZ o3; have o5 := wZ o4
 have g6 := yD (most := 8) (by decide) o5
 have o6 := zY (most := 8) o5
 obtain ⟨o7, l7, _⟩ := Aj o6 (vB 8 (N40 (N40 (N40 (N40 (uN 64 s).2).2).2).2).2).1.toNat
 have g8 := yD (most := 8) (by decide) o7
 have o8 := zY (most := 8) o7
 obtain ⟨o9, l9, _⟩ := Ao o8 (vB 8 (uZ (vB 8 (N40 (N40 (N40 (N40 (uN 64 s).2).2).2).2).2).2 (vB 8 (N40 (N40 (N40 (N40 (uN 64 s).2).2).2).2).2).1.toNat).2).1.toNat
 obtain ⟨z9, b9⟩ := CM o9 hz
 obtain ⟨z8, b8⟩ := Ef o8 _ z9
 obtain ⟨z7, b7⟩ := A9 o7 z8
 obtain ⟨z6, b6⟩ := Ek o6 _ z7
 obtain ⟨z5, b5⟩ := A9 o5 z6
 obtain ⟨z4, b4⟩ := zS o4 z5
 obtain ⟨z3, b3⟩ := zS o3 z4
 obtain ⟨z2, b2⟩ := zS o2 z3
 obtain ⟨z1, b1⟩ := zS o1 z2
 obtain ⟨z0, b0⟩ := CM h z1
 refine ⟨z0, ?_⟩
 rw [b0, b1, b2, b3, b4, b5, b6, b7, b8, b9]
 simp only [AD, AY, l7, l9, List.append_assoc, num, Int.toNat_natCast]
theorem FJ {s : RS} (h : Ok s) : ∀ n, (yG s n).2.2 = 0 → s.2 = 0 ∧ s.1 = (yG s n).1.flatMap AD ++ (yG s n).2.1
 | 0, hz => ⟨hz, rfl⟩
 | i + 1, hz => by
  obtain ⟨o, _⟩ := AI h i
  obtain ⟨d1, d2⟩ := Ip o hz
  obtain ⟨i1, i2⟩ := FJ h i d1
  refine ⟨i1, ?_⟩
  rw [i2, d2]
  simp only [yG, xF, List.append_assoc]
theorem Fp {s : RS} (h : Ok s) : ∀ n, (uU s n).2.2 = 0 → (uU s n).1.2.2 = false → s.2 = 0 ∧ s.1 = ((uU s n).1.1.zip (uU s n).1.2.1).flatMap Bn ++ (uU s n).2.1
 | 0, hz, _ => ⟨hz, rfl⟩
 | i + 1, hz, ho => by
  obtain ⟨o, l1, l2⟩ := Bi h i
  obtain ⟨d1, d2⟩ := zS (wZ o) hz
  obtain ⟨n1, n2⟩ := zS o d1
  simp only [uU, Bool.or_eq_false_iff, decide_eq_false_iff_not] at ho
  obtain ⟨i1, i2⟩ := Fp h i n1 ho.1
  refine ⟨i1, ?_⟩
  have hr : 0 ≤ (N40 (N40 (uU s i).2).2).1 := (yD (most := 1099511627776) (by decide) (wZ o)).1
  have hb : num (if decide ((N40 (N40 (uU s i).2).2).1 = 1) = true then 1 else 0) = num (N40 (N40 (uU s i).2).2).1 := by
   have ho2 := ho.2
   generalize (N40 (N40 (uU s i).2).2).1 = x at hr ho2
   have : x = 0 ∨ x = 1 := by omega
   rcases this with rfl | rfl <;> rfl
  rw [i2, n2, d2]
  simp only [uU]
  rw [List.zip_append (by rw [l1, l2]), List.zip_cons_cons, List.zip_nil_left, xF]
  simp only [Bn, hb, List.append_assoc]
theorem Hw {c : rK} {b : List Int} (hb : vY b) (hl : b.length ≤ 1000000) {t : bF} (h : DX c b = (t, 0)) : vT c ∧ Pure.Good c t ∧ AB t ∧ AM t = b ∧ ∀ e ∈ t.Eras, e.Nonce.length = 32 ∧ vY e.Nonce := by
 have B := bs (b := b) ⟨hb, hl⟩
 unfold DX at h
 by_cases hc : vT c
 ·rw [if_pos hc] at h
  by_cases hz : Di b = 0
  ·rw [if_pos hz] at h
   by_cases ho : (uA b).1.2.2 = true
   ·rw [if_pos ho] at h; cases h
   ·rw [if_neg ho] at h
    by_cases hg : Pure.Good c (Cj b)
    ·rw [xZ hg] at h
     injection h with h _
     subst h
     have hz' : (N40 (uA b).2).2.2 = 0 ∧ (N40 (uA b).2).2.1 = [] := by
      unfold Di GS at hz
      split at hz
      ·cases hz
      ·rename_i k
       exact ⟨hz, Classical.byContradiction fun q => k ⟨hz, q⟩⟩
     obtain ⟨z6, b6⟩ := zS B.z hz'.1
     obtain ⟨z5, b5⟩ := Fp B.u0 _ z6 (show (uA b).1.2.2 = false from by simpa using ho)
     obtain ⟨z4, b4⟩ := A9 B.jo z5
     obtain ⟨z3, b3⟩ := FJ B.j0 _ z4
     obtain ⟨z2, b2⟩ := A9 B.eo z3
     obtain ⟨z1, b1⟩ := Ff B.e0 _ z2
     obtain ⟨z0, b0⟩ := A9 (s := (b, 0)) ⟨hb, hl⟩ z1
     refine ⟨hc, hg, B.st, ?_, fun e he => ?_⟩
     ·have lE : (eA b).1.length = (vB 256 (b, 0)).1.toNat := (Ar B.e0 _).2
      have lJ : (jA b).1.length = (vB 64 (eA b).2).1.toNat := (AI B.j0 _).2.1
      have lU : (uA b).1.1.length = (vB 8 (jA b).2).1.toNat := (Bi B.u0 _).2.1
      have c6 : (uA b).2.1 = num (N40 (uA b).2).1 := by rw [b6, hz'.2, List.append_nil]
      have c5 : (vB 8 (jA b).2).2.1 = ((uA b).1.1.zip (uA b).1.2.1).flatMap Bn ++ (uA b).2.1 := b5
      have c3 : (vB 64 (eA b).2).2.1 = (jA b).1.flatMap AD ++ (jA b).2.1 := b3
      have c1 : (vB 256 (b, 0)).2.1 = (eA b).1.flatMap AO ++ (eA b).2.1 := b1
      have c0 : b = num (vB 256 (b, 0)).1 ++ (vB 256 (b, 0)).2.1 := b0
      rw [c1, b2, c3, b4, c5, c6] at c0
      unfold AM Cj
      dsimp only
      rw [lE, lJ, lU]
      simp only [num, Int.toNat_natCast] at c0 ⊢
      exact c0.symm
     ·have : ∀ n, ∀ e ∈ (yF (vB 256 (b, 0)).2 n).1, e.Nonce.length = 32 ∧ vY e.Nonce := fun n => by
       induction n with
       | zero => intro e he; cases he
       | succ i ih =>
        intro e he
        rcases List.mem_append.1 he with he | he
        ·exact ih e he
        ·rw [List.mem_singleton.1 he]
         exact H6 (wZ (Ar B.e0 i).1)
      exact this _ e he
    ·rw [xJ hg] at h; cases h
  ·rw [if_neg hz] at h
   injection h with _ h
   exact absurd h hz
 ·rw [if_neg hc] at h; cases h
theorem DF {b : List Int} (hb : b.length ≤ 1000000) {x : Int} (h : yA x) : Ev (fun k => rQ.f k ⟨b⟩ [x]) (⟨b ++ num x⟩ : sX) := by
 have := Gg hb (l := [x]) (by simp) (fun y hy => by rw [List.mem_singleton.1 hy]; unfold yA at h; omega)
 rwa [show Ay [x] = num x from by simp [Ay]] at this
theorem Ij {b : List Int} (hb : b.length ≤ 1000000) {x y : Int} (h : yA x) (k : yA y) : Ev (fun k => rQ.f k ⟨b⟩ [x, y]) (⟨b ++ (num x ++ num y)⟩ : sX) := by
 have := Gg hb (l := [x, y]) (by simp) (fun z hz => by
  unfold yA at h k
  rcases List.mem_cons.1 hz with rfl | hz
  ·omega
  ·rw [List.mem_singleton.1 hz]; omega)
 rwa [show Ay [x, y] = num x ++ num y from by simp [Ay]] at this
theorem Hl {a : List Int} {b : List Int} (h : b.length = a.length) {i : Nat} (hi : i < a.length) : (a.zip b).getD i (0, 0) = (a.getD i 0, b.getD i 0) := by
 rw [List.getD_eq_getElem?_getD, List.getD_eq_getElem?_getD, List.getD_eq_getElem?_getD, List.getElem?_eq_getElem (by rw [List.length_zip]; omega), List.getElem?_eq_getElem hi, List.getElem?_eq_getElem (by omega)]
 simp
theorem GO {a : List Int} {b : List Bool} (h : b.length = a.length) {i : Nat} (hi : i < a.length) : (a.zip b).getD i (0, false) = (a.getD i 0, b.getD i false) := by
 rw [List.getD_eq_getElem?_getD, List.getD_eq_getElem?_getD, List.getD_eq_getElem?_getD, List.getElem?_eq_getElem (by rw [List.length_zip]; omega), List.getElem?_eq_getElem hi, List.getElem?_eq_getElem (by omega)]
 simp
theorem Cu {α : Type} {f : α → List Int} {B : Nat} {l : List α} (h : ∀ x ∈ l, (f x).length ≤ B) (i : Nat) : ((l.take i).flatMap f).length ≤ B * i := by
 have h1 := Bm (l := l.take i) fun x hx => h x (List.mem_of_mem_take hx)
 have h2 : (l.take i).length ≤ i := by rw [List.length_take]; omega
 exact Nat.le_trans h1 (Nat.mul_le_mul_left _ h2)
theorem Kr {s : bF} (h : Pk s) {pre : List Int} (hp : pre.length ≤ 200000) : Ev (fun k => rX.l1 k s 0 ⟨pre⟩) (⟨pre ++ s.Eras.flatMap AO⟩ : sX) := by
 have he := h.e
 refine Ev.loop (n := s.Eras.length) (F := fun k i (x : sX) => rX.l1 k s (i : Int) x) (fun i x => x = ⟨pre ++ (s.Eras.take i).flatMap AO⟩) (fun i x hi hI => ?_) (fun x hI => ?_) _ (by simp)
 ·subst hI
  have g := h.es _ (uJ sD.z hi)
  have hl := Cu (f := AO) (B := 41) (fun p hp => (Gh (h.es p hp)).2) i
  obtain ⟨_, n2⟩ := Ag g.ep
  have e1 := DF (b := pre ++ (s.Eras.take i).flatMap AO) (by rw [List.length_append]; omega) g.ep
  have e2 := HH (b := (pre ++ (s.Eras.take i).flatMap AO) ++ num (s.Eras.getD i sD.z).Epoch) (d := (s.Eras.getD i sD.z).Nonce) (by simp only [List.length_append]; omega) g.n
  refine .inr ⟨_, rfl, fun k => ?_⟩
  rw [take_succ sD.z hi, xF] at k
  simp only [rX.l1, Int.toNat_natCast, tU (show i < 9223372036854775807 by omega), e2, Option.bind_some]
  refine Ev.rG (by omega) (Ev.rG (by omega) (Ev.bind e1 ?_))
  simp only [e2, Option.bind_some]
  unfold AO at k ⊢
  simpa only [List.append_assoc] using k
 ·subst hI
  simp only [rX.l1, List.take_length]
  exact Ev.rZ (by omega) (Ev.pure _)
theorem Kp {s : bF} {q : Nat} {j : bT} (hq : s.Jobs.getD q bT.z = j) (h : PkJ j) {pre : List Int} (hp : pre.length ≤ 500000) : Ev (fun k => rX.l3 k s (q : Int) 0 ⟨pre⟩) (⟨pre ++ (j.Workers.zip j.Indexes).flatMap zT⟩ : sX) := by
 subst hq
 generalize hj : s.Jobs.getD q bT.z = j at h ⊢
 have hw := h.w; have hi' := h.i
 have zl : (j.Workers.zip j.Indexes).length = j.Workers.length := by rw [List.length_zip, h.i, Nat.min_self]
 refine Ev.loop (n := j.Workers.length) (F := fun k i (x : sX) => rX.l3 k s (q : Int) (i : Int) x) (fun i x => x = ⟨pre ++ ((j.Workers.zip j.Indexes).take i).flatMap zT⟩) (fun i x hi hI => ?_) (fun x hI => ?_) _ (by simp)
 ·subst hI
  have g := h.wi _ (uJ (0, 0) (show i < (j.Workers.zip j.Indexes).length by omega))
  have hl := Cu (f := zT) (B := 18) (fun p hp => (E0 (h.wi p hp)).2) i
  have hz := Hl h.i hi
  rw [hz] at g
  have e1 := Ij (b := pre ++ ((j.Workers.zip j.Indexes).take i).flatMap zT) (by rw [List.length_append]; omega) g.1 g.2
  refine .inr ⟨_, rfl, fun k => ?_⟩
  rw [take_succ (0, 0) (by omega), xF, hz] at k
  simp only [rX.l3, Int.toNat_natCast, tU (show i < 9223372036854775807 by omega), hj]
  refine Ev.rG (by omega) (Ev.rG (by omega) (Ev.rG (by omega) (Ev.bind e1 ?_)))
  unfold zT at k ⊢
  simpa only [List.append_assoc] using k
 ·subst hI
  rw [← zl, List.take_length, zl]
  simp only [rX.l3, Int.toNat_natCast, hj]
  exact Ev.rZ (by omega) (Ev.pure _)
theorem KG {s : bF} {q : Nat} {j : bT} (hq : s.Jobs.getD q bT.z = j) (h : PkJ j) {pre : List Int} (hp : pre.length ≤ 500000) : Ev (fun k => rX.l4 k s (q : Int) 0 ⟨pre⟩) (⟨pre ++ j.rI.flatMap Af⟩ : sX) := by
 subst hq
 generalize hj : s.Jobs.getD q bT.z = j at h ⊢
 have hv := h.v
 refine Ev.loop (n := j.rI.length) (F := fun k i (x : sX) => rX.l4 k s (q : Int) (i : Int) x) (fun i x => x = ⟨pre ++ (j.rI.take i).flatMap Af⟩) (fun i x hi hI => ?_) (fun x hI => ?_) _ (by simp)
 ·subst hI
  have g := h.vs _ (uJ rA.z hi)
  have hl := Cu (f := Af) (B := 50) (fun p hp => (ES (h.vs p hp)).2) i
  obtain ⟨_, n2⟩ := Ag g.1
  have e1 := DF (b := pre ++ (j.rI.take i).flatMap Af) (by rw [List.length_append]; omega) g.1
  have e2 := F5 (b := (pre ++ (j.rI.take i).flatMap Af) ++ num (j.rI.getD i rA.z).Worker) (d := (j.rI.getD i rA.z).Value) (by simp only [List.length_append]; omega) (by have := g.2.1; omega)
  refine .inr ⟨_, rfl, fun k => ?_⟩
  rw [take_succ rA.z hi, xF] at k
  simp only [rX.l4, Int.toNat_natCast, tU (show i < 9223372036854775807 by omega), hj]
  refine Ev.rG (by omega) (Ev.rG (by omega) (Ev.bind e1 (Ev.bind e2 ?_)))
  unfold Af at k ⊢
  simpa only [List.append_assoc] using k
 ·subst hI
  simp only [rX.l4, List.take_length, Int.toNat_natCast, hj]
  exact Ev.rZ (by omega) (Ev.pure _)
theorem Kl {s : bF} (h : Pk s) {pre : List Int} (hp : pre.length ≤ 200000) : Ev (fun k => rX.l2 k s 0 ⟨pre⟩) (⟨pre ++ s.Jobs.flatMap AD⟩ : sX) := by
 have he := h.j
 refine Ev.loop (n := s.Jobs.length) (F := fun k i (x : sX) => rX.l2 k s (i : Int) x) (fun i x => x = ⟨pre ++ (s.Jobs.take i).flatMap AD⟩) (fun i x hi hI => ?_) (fun x hI => ?_) _ (by simp)
 ·subst hI
  have g := h.js _ (uJ bT.z hi)
  have hl := Cu (f := AD) (B := 800) (fun p hp => (EV (h.js p hp)).2) i
  refine .inr ⟨_, rfl, fun k => ?_⟩
  rw [take_succ bT.z hi, xF] at k
  simp only [rX.l2, Int.toNat_natCast, tU (show i < 9223372036854775807 by omega)]
  generalize hj : s.Jobs.getD i bT.z = j at g k ⊢
  have hb := (EV g).2
  have hw := g.w; have hv := g.v; have gp := g.p; have gx := g.x
  have hP : (pre ++ (s.Jobs.take i).flatMap AD).length ≤ 260000 := by rw [List.length_append]; omega
  rw [← List.append_assoc] at k
  generalize pre ++ (s.Jobs.take i).flatMap AD = P at hP k ⊢
  have hJ := hb
  unfold AD at hJ
  simp only [List.length_append] at hJ
  have e1 := F5 (b := P) (d := j.Payload) (by omega) (by omega)
  have e2 := Gg (b := P ++ zJ j.Payload) (l := [j.State, j.Attempt, j.Epoch, j.Until, (j.Workers.length : Int)]) (by simp only [List.length_append]; omega) (by simp) (fun x hx => by
   have a1 := g.s; have a2 := g.a; have a3 := g.e; have a4 := g.u
   unfold yA at a1 a2 a3 a4
   simp only [List.mem_cons, List.not_mem_nil, or_false] at hx
   rcases hx with rfl | rfl | rfl | rfl | rfl <;> omega)
  rw [show Ay [j.State, j.Attempt, j.Epoch, j.Until, (j.Workers.length : Int)] = num j.State ++ (num j.Attempt ++ (num j.Epoch ++ (num j.Until ++ num j.Workers.length))) from by simp [Ay, num]] at e2
  have e3 := Kp hj g (pre := P ++ zJ j.Payload ++ (num j.State ++ (num j.Attempt ++ (num j.Epoch ++ (num j.Until ++ num j.Workers.length))))) (by simp only [List.length_append]; omega)
  have e4 := DF (b := P ++ zJ j.Payload ++ (num j.State ++ (num j.Attempt ++ (num j.Epoch ++ (num j.Until ++ num j.Workers.length)))) ++ (j.Workers.zip j.Indexes).flatMap zT) (by simp only [List.length_append]; omega) (Ct (n := j.rI.length) (by omega))
  have e5 := KG hj g (pre := P ++ zJ j.Payload ++ (num j.State ++ (num j.Attempt ++ (num j.Epoch ++ (num j.Until ++ num j.Workers.length)))) ++ (j.Workers.zip j.Indexes).flatMap zT ++ num j.rI.length) (by simp only [List.length_append]; omega)
  have e6 := F5 (b := P ++ zJ j.Payload ++ (num j.State ++ (num j.Attempt ++ (num j.Epoch ++ (num j.Until ++ num j.Workers.length)))) ++ (j.Workers.zip j.Indexes).flatMap zT ++ num j.rI.length ++ j.rI.flatMap Af) (d := j.Value) (by simp only [List.length_append]; omega) (by omega)
  refine Ev.rG (by omega) (Ev.rG (by omega) (Ev.bind e1 (Ev.bind e2 (Ev.bind e3 (Ev.bind e4 (Ev.bind e5 (Ev.bind e6 ?_)))))))
  rw [show AD j = zJ j.Payload ++ (num j.State ++ (num j.Attempt ++ (num j.Epoch ++ (num j.Until ++ (num j.Workers.length ++ ((j.Workers.zip j.Indexes).flatMap zT ++ (num j.rI.length ++ (j.rI.flatMap Af ++ zJ j.Value)))))))) from rfl] at k
  simpa only [List.append_assoc] using k
 ·subst hI
  simp only [rX.l2, List.take_length]
  exact Ev.rZ (by omega) (Ev.pure _)
theorem Kc {s : bF} (h : Pk s) {pre : List Int} (hp : pre.length ≤ 200000) : Ev (fun k => rX.l5 k s 0 ⟨pre⟩) (⟨pre ++ (s.Used.zip s.Barred).flatMap Bn⟩ : sX) := by
 have hu := h.u; have hb := h.b
 have zl : (s.Used.zip s.Barred).length = s.Used.length := by rw [List.length_zip, h.b, Nat.min_self]
 have hz : ∀ p ∈ s.Used.zip s.Barred, yA p.1 := fun p hp => h.us p.1 (List.of_mem_zip hp).1
 refine Ev.loop (n := s.Used.length) (F := fun k i (x : sX) => rX.l5 k s (i : Int) x) (fun i x => x = ⟨pre ++ ((s.Used.zip s.Barred).take i).flatMap Bn⟩) (fun i x hi hI => ?_) (fun x hI => ?_) _ (by simp)
 ·subst hI
  have g := h.us _ (uJ 0 hi)
  have hl := Cu (f := Bn) (B := 18) (fun p hp => (Gd (hz p hp)).2) i
  have hze := GO h.b hi
  have hL : (pre ++ ((s.Used.zip s.Barred).take i).flatMap Bn).length ≤ 1000000 := by rw [List.length_append]; omega
  refine .inr ⟨_, rfl, fun k => ?_⟩
  rw [take_succ (0, false) (by omega), xF, hze] at k
  simp only [rX.l5, Int.toNat_natCast, tU (show i < 9223372036854775807 by omega)]
  refine Ev.rG (by omega) (Ev.rG (by omega) (Ev.rG (by omega) ?_))
  rw [show Bn (s.Used.getD i 0, s.Barred.getD i false) = num (s.Used.getD i 0) ++ num (if s.Barred.getD i false = true then 1 else 0) from rfl] at k
  by_cases hb : s.Barred.getD i false = true
  ·rw [if_pos hb] at k
   exact Ev.rG hb (Ev.bind (Ij hL g (by decide)) (by simpa only [List.append_assoc] using k))
  ·rw [if_neg hb] at k
   exact Ev.rZ hb (Ev.bind (Ij hL g (by decide)) (by simpa only [List.append_assoc] using k))
 ·subst hI
  rw [← zl, List.take_length, zl]
  simp only [rX.l5]
  exact Ev.rZ (by omega) (Ev.pure _)
theorem HK {c : rK} (hc : vT c) {s : bF} (hs : AB s) (hg : Pure.Good c s) (h : Pk s) : Ev (fun k => rX.f k c s) (AM s, 0) := by
 unfold rX.f
 have hck := Cw c
 rw [if_pos hc] at hck
 have hr := CD hc hs
 rw [B_t hg] at hr
 have he := h.e; have hj := h.j; have hu := h.u
 have hP := (HQ h).2
 unfold AM at hP
 simp only [List.length_append] at hP
 have e1 := DF (b := []) (by simp) (Ct (n := s.Eras.length) (by omega))
 rw [List.nil_append] at e1
 have e2 := Kr h (pre := num s.Eras.length) (by omega)
 have e3 := DF (b := num s.Eras.length ++ s.Eras.flatMap AO) (by simp only [List.length_append]; omega) (Ct (n := s.Jobs.length) (by omega))
 have e4 := Kl h (pre := num s.Eras.length ++ s.Eras.flatMap AO ++ num s.Jobs.length) (by simp only [List.length_append]; omega)
 have e5 := DF (b := num s.Eras.length ++ s.Eras.flatMap AO ++ num s.Jobs.length ++ s.Jobs.flatMap AD) (by simp only [List.length_append]; omega) (Ct (n := s.Used.length) (by omega))
 have e6 := Kc h (pre := num s.Eras.length ++ s.Eras.flatMap AO ++ num s.Jobs.length ++ s.Jobs.flatMap AD ++ num s.Used.length) (by simp only [List.length_append]; omega)
 have e7 := DF (b := num s.Eras.length ++ s.Eras.flatMap AO ++ num s.Jobs.length ++ s.Jobs.flatMap AD ++ num s.Used.length ++ (s.Used.zip s.Barred).flatMap Bn) (by simp only [List.length_append]; omega) h.h
 refine Ev.bind (a := false) (Ev.bind hck (Ev.rG rfl (Ev.bind hr (Ev.pure _)))) (Ev.rZ (by simp) (Ev.bind e1 (Ev.bind e2 (Ev.bind e3 (Ev.bind e4 (Ev.bind e5 (Ev.bind e6 (Ev.bind e7 ?_))))))))
 unfold AM
 simp only [List.append_assoc]
 exact Ev.pure _
theorem Iw {c : rK} (hc : ¬ vT c) (s : bF) : Ev (fun k => rX.f k c s) ([], 1) := by
 unfold rX.f
 have hck := Cw c
 rw [if_neg hc] at hck
 exact Ev.bind (a := true) (Ev.bind hck (Ev.rZ (by decide) (Ev.pure _))) (Ev.rG rfl (Ev.pure _))
end Go.Proofs.YtobdpbnadjkhiaaGreat.Rs
namespace Go.Proofs.YtobdpbnadjkhiaaGreat.Pure
open Go.WG Go.Proofs.YtobdpbnadjkhiaaGreat Go.Proofs.YtobdpbnadjkhiaaGreat.Ta
set_option linter.unusedVariables false
set_option linter.unusedSimpArgs false
set_option maxRecDepth 100000 in
theorem Dq : Ev (fun k => tD.f k) true := by
 refine ⟨20, fun k hk => ?_⟩
 obtain ⟨m, rfl⟩ : ∃ m, k = m + 20 := ⟨k - 20, by omega⟩
 show tD.f (m + 20) = some true
 kernel_rfl
theorem IG {l : List rD} (hb : ∀ r ∈ l, ∀ x ∈ r.Data, 0 ≤ x ∧ x < 256) : ∃ b, Ev (fun k => tT.f k l) b ∧ (b = false → l.length ≤ 80 ∧ ∀ r ∈ l, Byt r.Data) := by
 unfold tT.f
 by_cases h80 : (l.length : Int) > 80
 ·exact ⟨true, Ev.rG h80 (Ev.pure _), fun h => by cases h⟩
 ·have hloop : Ev (fun k => tT.l1 k l 0) (two (∀ r ∈ l, r.Data.length ≤ 200) (Sum.inl ()) (Sum.inr true)) := by
   refine Ev.loop (n := l.length) (F := fun k i (_ : Unit) => tT.l1 k l (i : Int)) (fun i _ => ∀ r ∈ l.take i, r.Data.length ≤ 200) (fun i _ hi hI => ?_) (fun _ hI => ?_) () (by simp)
   ·simp only [tT.l1, Int.toNat_natCast, tU (show i < 9223372036854775807 by omega)]
    by_cases g : (l.getD i rD.z).Data.length ≤ 200
    ·refine .inr ⟨(), fun r hr => ?_, fun k => Ev.rG (by omega) (Ev.rG (by omega) (Ev.rZ (by omega) k))⟩
     rw [take_succ rD.z hi] at hr
     rcases List.mem_append.1 hr with hr | hr
     ·exact hI r hr
     ·rw [List.mem_singleton.1 hr]; exact g
    ·rw [xJ fun k => g (k _ (uJ rD.z hi))]
     exact .inl (Ev.rG (by omega) (Ev.rG (by omega) (Ev.rG (by omega) (Ev.pure _))))
   ·simp only [tT.l1]
    rw [List.take_length] at hI
    rw [xZ hI]
    exact Ev.rZ (by omega) (Ev.pure _)
  by_cases g : ∀ r ∈ l, r.Data.length ≤ 200
  ·rw [xZ g] at hloop
   exact ⟨false, Ev.rZ h80 (Ev.bind hloop (Ev.pure _)), fun _ => ⟨by omega, fun r hr => ⟨g r hr, hb r hr⟩⟩⟩
  ·rw [xJ g] at hloop
   exact ⟨true, Ev.rZ h80 (Ev.bind hloop (Ev.pure _)), fun h => by cases h⟩
theorem Dd {r : rD} (h : r.Data.length ≤ 200) (k : Nat) : xI.f k r = some r := by
 unfold xI.f
 rw [if_pos (by omega)]
end Go.Proofs.YtobdpbnadjkhiaaGreat.Pure
namespace Go.Proofs.YtobdpbnadjkhiaaGreat.Pure
open Go.WG Go.Proofs.YtobdpbnadjkhiaaGreat Go.Proofs.YtobdpbnadjkhiaaGreat.Ta Go.Proofs.YtobdpbnadjkhiaaGreat.Rc Go.Proofs.YtobdpbnadjkhiaaGreat.Rs
set_option linter.unusedSimpArgs false
set_option linter.unusedVariables false
def Bl (s : bF) : Prop := ∀ e ∈ s.Eras, e.Nonce.length = 32 ∧ vY e.Nonce
theorem GV {c : rK} {s t : bF} (hs : Bl s) {r : rD} (hr : r.Nonce.length = 32 ∧ vY r.Nonce) (h : CP c s r = (0, t)) : Bl t := by
 have same : t.Eras = s.Eras → Bl t := fun e => by unfold Bl; rw [e]; exact hs
 unfold CP at h
 split at h
 ·unfold B3 at h
  split at h
  ·cases h
  ·split at h
   ·cases h
   ·injection h with _ h; subst h
    intro e he
    rcases List.mem_append.1 he with he | he
    ·exact hs e he
    ·rw [List.mem_singleton.1 he]; exact hr
 split at h
 ·unfold Br at h
  split at h
  ·cases h
  ·split at h
   ·cases h
   ·injection h with _ h; subst h; exact same rfl
 split at h
 ·unfold Bk at h
  split at h
  ·cases h
  ·split at h
   ·split at h
    ·split at h
     ·cases h
     ·split at h
      ·injection h with _ h; subst h; exact same rfl
      ·rename_i g2; injection h with h _; exact absurd h g2
    ·cases h
   ·cases h
 split at h
 ·unfold DW at h
  split at h
  ·split at h
   ·cases h
   ·split at h
    ·split at h
     ·split at h
      ·injection h with _ h; subst h; exact same rfl
      ·injection h with _ h; subst h; exact same rfl
     ·rename_i g2; injection h with h _; exact absurd h g2
    ·cases h
  ·cases h
 split at h
 ·unfold Bj at h
  split at h
  ·split at h
   ·split at h
    ·cases h
    ·injection h with _ h; subst h; exact same rfl
   ·cases h
  ·cases h
 ·unfold DD at h
  split at h
  ·cases h
  ·split at h
   ·cases h
   ·injection h with _ h; subst h; exact same rfl
theorem I1 {l : List rD} (h : ID l) : ∀ r ∈ l, r.Nonce.length = 32 ∧ vY r.Nonce := fun r hr => ⟨(h.2 r hr).2.2.1.1, fun x hx => wf8 ((h.2 r hr).2.2.1.2 x hx)⟩
theorem Kv (a : List Int) (h : a.length ≤ 1000000000) : Ev (fun k => sK.f k a a) true := by
 have := Ta.zG a a h
 rwa [decide_eq_true rfl] at this
theorem CB (a0 : rK) (a1 : List rD) (a2 : List Int) (h0 : KC a0) (h1 : ID a1) (h2 : Jy a2) : ∃ k, sM.f k a0 a1 a2 = some true := by
 refine Ev.one (f := fun k => sM.f k a0 a1 a2) ?_
 unfold sM.f
 obtain ⟨b, hb, hV⟩ := IG (Ju h1)
 refine Ev.bind hb ?_
 cases b with
 | true => exact Ev.bind (a := true) (Ev.rG rfl (Ev.pure _)) (Ev.rG rfl (Ev.bind Dq (Ev.pure _)))
 | false =>
  by_cases hL : (a2.length : Int) > 3000
  ·exact Ev.bind (a := true) (Ev.rZ (by simp) (by rw [decide_eq_true hL]; exact Ev.pure _)) (Ev.rG rfl (Ev.bind Dq (Ev.pure _)))
  obtain ⟨h80, hd⟩ := hV rfl
  have hN := I1 h1
  have hB : vY a2 := fun x hx => wf8 (h2.2 x hx)
  refine Ev.bind (a := false) (Ev.rZ (by simp) (by rw [decide_eq_false hL]; exact Ev.pure _)) (Ev.rZ (by simp) (Ev.bind (Kb a0) ?_))
  have hloop : ∃ t, Ev (fun k => sM.l1 k a0 a1 0 (Fe a0).1) t ∧ (AB t ∧ Bl t ∧ (vT a0 → Good a0 t)) := by
   refine Ej (n := a1.length) (F := fun k i (s : bF) => sM.l1 k a0 a1 (i : Int) s) (fun i s => AB s ∧ Bl s ∧ (vT a0 → Good a0 s ∧ ∀ j ∈ s.Jobs, j.Attempt ≤ (i : Int))) (fun t => AB t ∧ Bl t ∧ (vT a0 → Good a0 t)) (fun i s hi hI => ?_) (fun s hI => ?_) _ ⟨JP a0, ?_, fun hc => ⟨HW hc, ?_⟩⟩
   ·obtain ⟨i1, i2, i3⟩ := hI
    have hr := hd _ (uJ rD.z hi)
    obtain ⟨t, e, hE, hok⟩ := Iu a0 i1 hr
    simp only [sM.l1, Int.toNat_natCast, tU (show i < 9223372036854775807 by omega), Dd hr.1, Option.bind_some]
    by_cases he : e = 0
    ·obtain ⟨hc, hg, hrun, hm⟩ := hok he
     have hmo : As (a1.getD i rD.z) := by
      have := Ev.unique (IQ (a1.getD i rD.z)) hm
      exact of_decide_eq_true this
     obtain ⟨g1, g2⟩ := HP hc i1 hg hr hmo (n := i) (by omega) (i3 hc).2 hrun
     exact .inr ⟨t, ⟨JJ hc i1 hg hr hrun, GV i2 (hN _ (uJ rD.z hi)) hrun, fun _ => ⟨g1, g2⟩⟩, fun q h => Ev.rG (by omega) (Ev.rG (by omega) (Ev.bind hE (Ev.rG he h)))⟩
    ·refine .inr ⟨s, ⟨i1, i2, fun hc => ⟨(i3 hc).1, fun j hj => by have := (i3 hc).2 j hj; omega⟩⟩, fun q h => ?_⟩
     exact Ev.rG (by omega) (Ev.rG (by omega) (Ev.bind hE (Ev.rZ he h)))
   ·simp only [sM.l1]
    exact ⟨s, Ev.rZ (by omega) (Ev.pure _), hI.1, hI.2.1, fun hc => (hI.2.2 hc).1⟩
   ·unfold Fe; split <;> (intro e he; cases he)
   ·unfold Fe; rw [if_pos hc]; intro j hj; cases hj
  obtain ⟨s, hs, hS, hNs, hG⟩ := hloop
  refine Ev.bind hs ?_
  have tail : ∀ {e : Int}, (e = 0 ↔ vT a0) → Ev (fun k => if (a2.length + a2.length / 4 + 192) * 1 ≤ 281474976710656 then ((sC.f k a0 a2).bind fun ⟨a, b⟩ => (rU.f k a0 a2).bind fun ⟨p, r⟩ => ((vQ.f k a0).bind fun s => if (decide (e = 0)) = s then (if b = r then ((sB.f k a p).bind fun t => some (!t)) else (some true)) else (some true)).bind fun B => if B = true then (some false) else (if b = 0 then ((rX.f k a0 a).bind fun ⟨u, v⟩ => (if v = 0 then ((sK.f k u a2).bind fun w => some (!w)) else (some (true))).bind fun i => if i = true then (some false) else ((tD.f k ).bind fun x => some x)) else ((tD.f k ).bind fun y => some y))) else none) true := fun {e} hec => by
   have u1 := Fi a0 hB (by omega)
   have u2 := Fm a0 hB (by omega)
   have hst : AB (DX a0 a2).1 := by
    have hBs := bs (b := a2) ⟨hB, show a2.length ≤ 1000000 by omega⟩
    have hno : AB none_ := ⟨by simp [none_], by simp [none_], by simp [none_], by simp [none_], by simp [none_]⟩
    unfold DX
    split
    ·split
     ·split
      ·exact hno
      ·by_cases hg : Good a0 (Cj a2)
       ·rw [xZ hg]; exact hBs.st
       ·rw [xJ hg]; exact hno
     ·exact hno
    ·exact hno
   generalize hu : DX a0 a2 = u at u1 u2 hst
   obtain ⟨t, f⟩ := u
   refine Ev.rG (by omega) (Ev.bind u1 (Ev.bind u2 ?_))
   simp only [Du, Option.bind_some]
   have hd : decide (e = 0) = decide (vT a0) := decide_eq_decide.2 hec
   refine Ev.bind (a := false) (Ev.rG hd (Ev.rG trivial (Ev.bind (Gl hst) (Ev.pure _)))) (Ev.rZ (by simp) ?_)
   by_cases hf : f = 0
   ·subst hf
    obtain ⟨p1, p2, p3, p4, p5⟩ := Hw hB (by omega) hu
    have hp := HK p1 p3 p2 (Gn p1 p3 p2 p5)
    rw [p4] at hp
    exact Ev.rG rfl (Ev.bind hp (Ev.bind (a := false) (Ev.rG rfl (Ev.bind (Kv a2 (by omega)) (Ev.pure _))) (Ev.rZ (by simp) (Ev.bind Dq (Ev.pure _)))))
   ·exact Ev.rZ hf (Ev.bind Dq (Ev.pure _))
  by_cases hc : vT a0
  ·have hg := hG hc
   have hpk := Gn hc hS hg hNs
   obtain ⟨b1, b2⟩ := HQ hpk
   have u := Fi a0 b1 (by omega)
   rw [Hh hc hg hpk] at u
   exact Ev.bind (HK hc hS hg hpk) (Ev.bind (a := Sum.inl ()) (Ev.rG rfl (Ev.bind u (Ev.bind (a := false) (Ev.rG rfl (Ev.bind (Gl hS) (Ev.pure _))) (Ev.rZ (by simp) (Ev.pure _))))) (tail ⟨fun _ => hc, fun _ => rfl⟩))
  ·exact Ev.bind (Iw hc s) (Ev.bind (a := Sum.inl ()) (Ev.rZ (by decide) (Ev.pure _)) (tail ⟨fun h => absurd h (by decide), fun h => absurd h hc⟩))
end Go.Proofs.YtobdpbnadjkhiaaGreat.Pure
