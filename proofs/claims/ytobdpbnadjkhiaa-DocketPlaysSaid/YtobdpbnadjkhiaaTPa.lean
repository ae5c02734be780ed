/- Plain laws of the document's dockets: small questions, jobs that may be. -/
import Derived.Test.YtobdpbnadjkhiaaTGi
import Derived.Test.YtobdpbnadjkhiaaTDf
import Derived.Test.YtobdpbnadjkhiaaTTr
import Derived.Test.YtobdpbnadjkhiaaTPm
namespace Go.Proofs.Ytobdpbnadjkhiaa.Pure
open Go.WG Go.Proofs.Ytobdpbnadjkhiaa Go.Proofs.Ytobdpbnadjkhiaa.Ta
set_option linter.unusedSimpArgs false
set_option linter.unusedVariables false
theorem refRight_f (c : TConfig) (k : Nat) : juratref21_Right.f k c = some (decide (CfgOk c)) := by
 unfold juratref21_Right.f
 simp only [in_f, Option.bind_some, decide_eq_true_eq]
 by_cases h1 : 0 ≤ c.Faulty ∧ c.Faulty ≤ 2
 ·rw [if_pos h1, wi64_id (x := 2 * c.Faulty) (by omega) (by omega), wi64_id (x := 2 * c.Faulty + 1) (by omega) (by omega)]
  by_cases h2 : 2 * c.Faulty + 1 ≤ c.Workers ∧ c.Workers ≤ 8
  ·rw [if_pos h2]
   by_cases h3 : 0 ≤ c.Height ∧ c.Height ≤ 6
   ·rw [if_pos h3]
    by_cases h4 : 0 ≤ c.Heads ∧ c.Heads ≤ 6
    ·rw [if_pos h4]
     by_cases h5 : 1 ≤ c.Bits ∧ c.Bits ≤ 256
     ·rw [if_pos h5]
      by_cases h6 : 1 ≤ c.Jobs ∧ c.Jobs ≤ 64
      ·rw [if_pos h6, Option.bind_some]
       exact congrArg some (decide_eq_decide.2 ⟨fun h7 => ⟨h1, h2, h3, h4, h5, h6, h7⟩, fun k => k.t⟩)
      ·rw [if_neg h6, Option.bind_some, decide_eq_false (fun k : CfgOk c => h6 k.j)]
     ·rw [if_neg h5, Option.bind_some, decide_eq_false (fun k : CfgOk c => h5 k.b)]
    ·rw [if_neg h4, Option.bind_some, decide_eq_false (fun k : CfgOk c => h4 k.hd)]
   ·rw [if_neg h3, Option.bind_some, decide_eq_false (fun k : CfgOk c => h3 k.h)]
  ·rw [if_neg h2, Option.bind_some, decide_eq_false (fun k : CfgOk c => h2 k.w)]
 ·rw [if_neg h1, Option.bind_some, decide_eq_false (fun k : CfgOk c => h1 k.f)]
theorem refNew_f (c : TConfig) : Ev (fun k => juratref21_New.f k c) (newL c) := by
 unfold juratref21_New.f newL
 simp only [refRight_f, Option.bind_some]
 by_cases h : CfgOk c
 ·have := h.w; have := h.f
  rw [if_pos h]
  exact Ev.iteT (decide_eq_true h) (Ev.iteT (by omega) (Ev.iteT (by omega) (Ev.pure _)))
 ·rw [if_neg h]
  exact Ev.iteF (by simpa using h) (Ev.pure _)
theorem refEpo_f (s : TState) (h : s.Eras.length ≤ 300) : Ev (fun k => juratref21_Epoch.f k s) (lastE s) := by
 unfold juratref21_Epoch.f lastE
 by_cases h0 : s.Eras.length = 0
 ·rw [if_pos h0]; exact Ev.iteT (by omega) (Ev.pure _)
 ·rw [if_neg h0]
  have e : wi64 ((s.Eras.length : Int) - 1) = ((s.Eras.length - 1 : Nat) : Int) := by rw [wi64_id (by omega) (by omega)]; omega
  simp only [e, Int.toNat_natCast]
  exact Ev.iteF (by omega) (Ev.iteT (by omega) (Ev.pure _))
theorem refNonce_f (s : TState) (e : Int) (h : s.Eras.length ≤ 300) : Ev (fun k => juratref21_Nonce.f k s e) (nonceL e s.Eras) := by
 have h1 : ∀ k a, juratref21_Nonce.l1 k s e a = docket_Nonce.l1 k s e a := fun k => by
  induction k with
  | zero => intro a; rfl
  | succ k ih => intro a; simp only [juratref21_Nonce.l1, docket_Nonce.l1, ih]
 refine (nonce_f s e h).congr fun k => ?_
 unfold juratref21_Nonce.f docket_Nonce.f
 rw [h1]
/-- Where a number stands first; below 0: nowhere. -/
def placeL : Int → List Int → Int → Int
 | _, [], _ => -1
 | i, x :: r, n => if x = n then i else placeL (i + 1) r n
theorem placeL_ge (n : Int) : ∀ (l : List Int) (b : Int), 0 ≤ b → (placeL b l n < 0 ↔ ¬ n ∈ l) ∧ (¬ placeL b l n < 0 → b ≤ placeL b l n)
 | [], b, hb => ⟨by simp [placeL], fun h => absurd (by simp [placeL]) h⟩
 | x :: r, b, hb => by
  obtain ⟨h1, h2⟩ := placeL_ge n r (b + 1) (by omega)
  unfold placeL
  by_cases e : x = n
  ·rw [if_pos e]; exact ⟨⟨fun k => by omega, fun k => absurd (by simp [e]) k⟩, fun _ => Int.le_refl _⟩
  ·rw [if_neg e, h1, List.mem_cons]
   exact ⟨⟨fun k j => j.elim (fun q => e q.symm) k, fun k j => k (.inr j)⟩, fun k => by have := h2 (fun q => k (h1.1 q)); omega⟩
theorem placeL_at : ∀ (l : List Int) (b : Int) (i : Nat), 0 ≤ b → i < l.length → (placeL b l (l.getD i 0) = b + i ↔ ¬ l.getD i 0 ∈ l.take i)
 | [], b, i, _, h => absurd h (by simp)
 | x :: r, b, 0, hb, h => by simp [placeL]
 | x :: r, b, i + 1, hb, h => by
  have h1 := placeL_at r (b + 1) i (by omega) (by simpa using h)
  rw [List.getD_cons_succ, List.take_succ_cons, List.mem_cons, placeL]
  by_cases e : x = r.getD i 0
  ·rw [if_pos e]
   exact ⟨fun k => by omega, fun k => absurd (.inl e.symm) k⟩
  ·rw [if_neg e, show b + ((i + 1 : Nat) : Int) = b + 1 + (i : Int) from by omega, h1]
   exact ⟨fun k j => j.elim (fun q => e q.symm) k, fun k j => k (.inr j)⟩
theorem place_f (l : List Int) (n : Int) (h : l.length ≤ 1000) : Ev (fun k => juratref21_place.f k l n) (placeL 0 l n) := by
 unfold juratref21_place.f
 have hloop : Ev (fun k => juratref21_place.l1 k l n 0) (if placeL 0 l n < 0 then Sum.inl () else Sum.inr (placeL 0 l n)) := by
  refine Ev.loop (n := l.length) (F := fun k j (_ : Unit) => juratref21_place.l1 k l n (j : Int)) (fun j _ => placeL j (l.drop j) n = placeL 0 l n) (fun j _ hj hI => ?_) (fun _ hI => ?_) () rfl
  ·simp only [juratref21_place.l1, Int.toNat_natCast, wi64_j (show j < 9223372036854775807 by omega)]
   rw [drop_cons 0 hj, placeL] at hI
   by_cases hc : l.getD j 0 = n
   ·rw [if_pos hc] at hI
    rw [← hI, if_neg (by omega)]
    exact .inl (Ev.iteT (by omega) (Ev.iteT (by omega) (Ev.iteT hc (Ev.pure _))))
   ·rw [if_neg hc] at hI
    exact .inr ⟨(), by rw [← hI]; rfl, fun h => Ev.iteT (by omega) (Ev.iteT (by omega) (Ev.iteF hc h))⟩
  ·simp only [juratref21_place.l1]
   rw [List.drop_length, placeL] at hI
   rw [← hI, if_pos (by omega)]
   exact Ev.iteF (by omega) (Ev.pure _)
 refine Ev.bind hloop ?_
 by_cases hb : placeL 0 l n < 0
 ·have : placeL 0 l n = -1 := by
   have : ∀ (l : List Int) (b : Int), 0 ≤ b → placeL b l n < 0 → placeL b l n = -1 := fun l => by
    induction l with
    | nil => intro b _ _; rfl
    | cons x r ih =>
     intro b h0 h1
     unfold placeL at h1 ⊢
     split at h1
     ·omega
     ·rename_i e; rw [if_neg e]; exact ih (b + 1) (by omega) h1
   exact this l 0 (by omega) hb
  rw [if_pos hb, this]; exact Ev.pure _
 ·rw [if_neg hb]; exact Ev.pure _
theorem decV_no {l : List TCast} {f : Int} (h : (decV l f).2 = false) : (decV l f).1 = [] := by
 unfold decV at h ⊢
 by_cases hf : f < 0
 ·rw [if_pos hf]
 ·rw [if_neg hf] at h ⊢
  have : ∀ r : List TCast, (dec l f r).2 = false → (dec l f r).1 = [] := fun r => by
   induction r with
   | nil => intro _; rfl
   | cons c r ih =>
    unfold dec
    split
    ·intro k; cases k
    ·exact ih
  exact this l h
/-- Worker and index of each place. -/
theorem may_l1_ {c : TConfig} (hc : CfgOk c) {j : TJob} (hw : j.Workers.length ≤ 8) (h1 : (j.Workers.length : Int) = 2 * c.Faulty + 1) (h2 : (j.Indexes.length : Int) = 2 * c.Faulty + 1) :
  Ev (fun k => juratref21_jobMay.l1 k c j 0) (two (Crewed c j) (Sum.inl ()) (Sum.inr false)) := by
 have hF := hc.f; have hW := hc.w; have hK := hc.keys; have hH := hc.h.1
 have e1 : wi64 (c.Workers - 1) = c.Workers - 1 := wi64_id (by omega) (by omega)
 have e2 : wi64 (shlOp .i64 1 c.Height - 1) = keysN c - 1 := wi64_id (by unfold keysN at hK; omega) (by unfold keysN at hK; omega)
 have e3 : wi64 (wi64 (2 * c.Faulty) + 1) = (j.Workers.length : Int) := by rw [wi64_id (x := 2 * c.Faulty) (by omega) (by omega), wi64_id (x := 2 * c.Faulty + 1) (by omega) (by omega), h1]
 refine Ev.loop (n := j.Workers.length) (F := fun k i (_ : Unit) => juratref21_jobMay.l1 k c j (i : Int))
  (fun i _ => (j.Workers.take i).Nodup ∧ ∀ q < i, (0 ≤ j.Workers.getD q 0 ∧ j.Workers.getD q 0 ≤ c.Workers - 1) ∧ (0 ≤ j.Indexes.getD q 0 ∧ j.Indexes.getD q 0 ≤ keysN c - 1)) (fun i _ hi hI => ?_) (fun _ hI => ?_) () ⟨by simp, fun q hq => by omega⟩
 ·obtain ⟨hn, hb⟩ := hI
  have hp := place_f j.Workers (j.Workers.getD i 0) (by omega)
  have hat := placeL_at j.Workers 0 i (by omega) hi
  rw [Int.zero_add] at hat
  simp only [juratref21_jobMay.l1, Int.toNat_natCast, in_f, Option.bind_some, decide_eq_true_eq, wi64_j (show i < 9223372036854775807 by omega), e1, e2, e3]
  by_cases h4 : 0 ≤ j.Workers.getD i 0 ∧ j.Workers.getD i 0 ≤ c.Workers - 1
  ·by_cases h3 : j.Workers.getD i 0 ∈ j.Workers.take i
   ·rw [two_f (fun k => nodup_take_get k.nd hi h3)]
    exact .inl (Ev.iteT (by omega) (Ev.iteT (by omega) (Ev.bind (a := true) (Ev.iteT h4 (Ev.bind hp (Ev.iteF (fun e => (hat.1 e) h3) (Ev.pure _)))) (Ev.iteT rfl (Ev.pure _)))))
   ·by_cases h5 : 0 ≤ j.Indexes.getD i 0 ∧ j.Indexes.getD i 0 ≤ keysN c - 1
    ·refine .inr ⟨(), ⟨?_, fun q hq => ?_⟩, fun h => ?_⟩
     ·rw [take_succ 0 hi]; exact nodup_snoc hn h3
     ·by_cases e : q = i
      ·subst e; exact ⟨h4, h5⟩
      ·exact hb q (by omega)
     ·refine Ev.iteT (by omega) (Ev.iteT (by omega) (Ev.bind (a := false) (Ev.iteT h4 (Ev.bind hp (Ev.iteT (hat.2 h3) (Ev.iteT (by omega) (Ev.iteT hH ?_))))) (Ev.iteF (by simp) h)))
      rw [decide_eq_true h5]; exact Ev.pure _
    ·rw [two_f (fun k => h5 (k.i i hi))]
     refine .inl (Ev.iteT (by omega) (Ev.iteT (by omega) (Ev.bind (a := true) (Ev.iteT h4 (Ev.bind hp (Ev.iteT (hat.2 h3) (Ev.iteT (by omega) (Ev.iteT hH ?_))))) (Ev.iteT rfl (Ev.pure _)))))
     rw [decide_eq_false h5]; exact Ev.pure _
  ·rw [two_f (fun k => h4 (k.w i hi))]
   exact .inl (Ev.iteT (by omega) (Ev.iteT (by omega) (Ev.bind (a := true) (Ev.iteF h4 (Ev.pure _)) (Ev.iteT rfl (Ev.pure _)))))
 ·obtain ⟨hn, hb⟩ := hI
  rw [List.take_length] at hn
  simp only [juratref21_jobMay.l1, e3]
  rw [two_t ⟨h1, h2, hn, fun i hi => (hb i hi).1, fun i hi => (hb i hi).2⟩]
  exact Ev.iteF (by omega) (Ev.pure _)
/-- The votes' workers. -/
def VotesMay (j : TJob) : Prop := Once j.Votes ∧ ∀ v ∈ j.Votes, v.Value.length ≤ 32 ∧ v.Worker ∈ j.Workers
theorem may_l2_ {j : TJob} (hj : JobOk j) : Ev (fun k => juratref21_jobMay.l2 k j 0) (two (VotesMay j) (Sum.inl ()) (Sum.inr false)) := by
 have h60 := hj.votes.1; have hw := hj.wk
 refine Ev.loop (n := j.Votes.length) (F := fun k i (_ : Unit) => juratref21_jobMay.l2 k j (i : Int)) (fun i _ => Once (j.Votes.take i) ∧ ∀ v ∈ j.Votes.take i, v.Value.length ≤ 32 ∧ v.Worker ∈ j.Workers) (fun i _ hi hI => ?_) (fun _ hI => ?_) () ⟨by simp [Once], by simp⟩
 ·obtain ⟨ho, hb⟩ := hI
  have hm := getD_mem TCast.z hi
  have hp := place_f j.Workers (j.Votes.getD i TCast.z).Worker (by omega)
  have hge := (placeL_ge (j.Votes.getD i TCast.z).Worker j.Workers 0 (by omega)).1
  have hl3 : Ev (fun k => juratref21_jobMay.l3 k j i 0) (two (∃ d ∈ j.Votes.take i, d.Worker = (j.Votes.getD i TCast.z).Worker) (Sum.inr false) (Sum.inl ())) := by
   refine Ev.loop (n := i) (F := fun k q (_ : Unit) => juratref21_jobMay.l3 k j i (q : Int)) (fun q _ => ¬ ∃ d ∈ j.Votes.take q, d.Worker = (j.Votes.getD i TCast.z).Worker) (fun q _ hq hI => ?_) (fun _ hI => ?_) () (by simp)
   ·simp only [juratref21_jobMay.l3, Int.toNat_natCast, wi64_j (show q < 9223372036854775807 by omega)]
    by_cases h : (j.Votes.getD q TCast.z).Worker = (j.Votes.getD i TCast.z).Worker
    ·rw [two_t ⟨_, (mem_take TCast.z (by omega)).2 ⟨q, hq, rfl⟩, h⟩]
     exact .inl (Ev.iteT (by omega) (Ev.iteT (by omega) (Ev.iteT h (Ev.pure _))))
    ·refine .inr ⟨(), ?_, fun k => Ev.iteT (by omega) (Ev.iteT (by omega) (Ev.iteF h k))⟩
     rw [take_succ TCast.z (by omega)]
     rintro ⟨d, hd, he⟩
     rcases List.mem_append.1 hd with hd | hd
     ·exact hI ⟨d, hd, he⟩
     ·rw [List.mem_singleton.1 hd] at he; exact h he
   ·simp only [juratref21_jobMay.l3]
    rw [two_f hI]
    exact Ev.iteF (by omega) (Ev.pure _)
  simp only [juratref21_jobMay.l2, Int.toNat_natCast, wi64_j (show i < 9223372036854775807 by omega)]
  by_cases h2 : (j.Votes.getD i TCast.z).Worker ∈ j.Workers
  ·have n2 : ¬ placeL 0 j.Workers (j.Votes.getD i TCast.z).Worker < 0 := fun e => hge.1 e h2
   by_cases h1 : (j.Votes.getD i TCast.z).Value.length ≤ 32
   ·have st : ∀ {f : Nat → Option (Sum Unit Bool)} {r}, Ev f r → Ev (fun k => (juratref21_place.f k j.Workers (j.Votes.getD i TCast.z).Worker).bind fun e => (if e < 0 then (some (true)) else (some (decide ((((j.Votes.getD i TCast.z).Value).length : Int) > 32)))).bind fun d => if d = true then (some (Sum.inr false)) else f k) r := fun h =>
     Ev.bind hp (Ev.bind (a := false) (Ev.iteF n2 (by rw [decide_eq_false (by omega)]; exact Ev.pure _)) (Ev.iteF (by simp) h))
    by_cases h3 : ∃ d ∈ j.Votes.take i, d.Worker = (j.Votes.getD i TCast.z).Worker
    ·rw [two_t h3] at hl3
     rw [two_f fun k => by
      obtain ⟨d, hd, he⟩ := h3
      have h3 := once_take k.1 (i + 1)
      rw [take_succ TCast.z hi] at h3
      unfold Once at h3
      rw [List.map_append, List.nodup_append] at h3
      exact h3.2.2 _ (List.mem_map.2 ⟨d, hd, rfl⟩) _ (by simp) he]
     exact .inl (Ev.iteT (by omega) (Ev.iteT (by omega) (st (Ev.bind hl3 (Ev.pure _)))))
    ·rw [two_f h3] at hl3
     refine .inr ⟨(), ⟨?_, fun v hv => ?_⟩, fun h => Ev.iteT (by omega) (Ev.iteT (by omega) (st (Ev.bind hl3 h)))⟩
     ·rw [take_succ TCast.z hi]
      unfold Once
      rw [List.map_append]
      refine nodup_snoc ho fun e => h3 ?_
      obtain ⟨d, hd, he⟩ := List.mem_map.1 e
      exact ⟨d, hd, he⟩
     ·rw [take_succ TCast.z hi] at hv
      rcases List.mem_append.1 hv with hv | hv
      ·exact hb v hv
      ·rw [List.mem_singleton.1 hv]; exact ⟨h1, h2⟩
   ·rw [two_f fun k => h1 (k.2 _ hm).1]
    exact .inl (Ev.iteT (by omega) (Ev.iteT (by omega) (Ev.bind hp (Ev.bind (a := true) (Ev.iteF n2 (by rw [decide_eq_true (by omega)]; exact Ev.pure _)) (Ev.iteT rfl (Ev.pure _))))))
  ·rw [two_f fun k => h2 (k.2 _ hm).2]
   exact .inl (Ev.iteT (by omega) (Ev.iteT (by omega) (Ev.bind hp (Ev.bind (a := true) (Ev.iteT (hge.2 h2) (Ev.pure _)) (Ev.iteT rfl (Ev.pure _))))))
 ·rw [List.take_length] at hI
  simp only [juratref21_jobMay.l2]
  rw [two_t (show VotesMay j from hI)]
  exact Ev.iteF (by omega) (Ev.pure _)
theorem jobMay_f {c : TConfig} (hc : CfgOk c) (s : TState) (hs : s.Eras.length ≤ 300) {j : TJob} (hj : JobOk j) : Ev (fun k => juratref21_jobMay.f k c s j) (B (Sound c s j)) := by
 unfold juratref21_jobMay.f
 have hF := hc.f
 have e3 : wi64 (wi64 (2 * c.Faulty) + 1) = 2 * c.Faulty + 1 := by rw [wi64_id (x := 2 * c.Faulty) (by omega) (by omega), wi64_id (x := 2 * c.Faulty + 1) (by omega) (by omega)]
 simp only [in_f, Option.bind_some, decide_eq_true_eq, e3]
 have hv := hj.votes.1; have hx := hj.val.1; have hw := hj.wk; have hi := hj.ix
 by_cases h1 : j.Payload.length ≤ 64
 ·by_cases h2 : 0 ≤ j.Attempt ∧ j.Attempt ≤ 1099511627776
  ·refine Ev.bind (a := false) (Ev.iteF (by omega) (by rw [decide_eq_true h2]; exact Ev.pure _)) (Ev.iteF (by simp) ?_)
   by_cases h3 : j.State = 1
   ·refine Ev.iteT h3 ?_
    have hB : B (Sound c s j) = B (Idle j) := B_iff ⟨fun k => k.k.elim id fun b => absurd h3 (by rcases b.st with h | h <;> (rw [h]; decide)), fun k => ⟨h1, h2, .inl k⟩⟩
    rw [hB]
    by_cases h4 : j.Epoch = 0
    ·by_cases h5 : j.Until = 0
     ·refine Ev.bind (Ev.iteT h4 (Ev.iteT h5 (Ev.pure _))) ?_
      rw [wi64_id (x := (j.Workers.length : Int) + j.Indexes.length) (by omega) (by omega), wi64_id (x := (j.Workers.length : Int) + j.Indexes.length + j.Votes.length) (by omega) (by omega), wi64_id (x := (j.Workers.length : Int) + j.Indexes.length + j.Votes.length + j.Value.length) (by omega) (by omega)]
      rw [← B_dec]
      have : B ((j.Workers.length : Int) + j.Indexes.length + j.Votes.length + j.Value.length = 0) = B (Idle j) := B_iff ⟨fun k => ⟨h3, h4, h5, len0.1 (by omega), len0.1 (by omega), len0.1 (by omega), len0.1 (by omega)⟩, fun k => by rw [k.w, k.i, k.v, k.x]; rfl⟩
      rw [this]
      exact Ev.pure _
     ·rw [B_f fun k => h5 k.u]
      exact Ev.bind (Ev.iteT h4 (Ev.iteF h5 (Ev.pure _))) (Ev.pure _)
    ·rw [B_f fun k => h4 k.e]
     exact Ev.bind (Ev.iteF h4 (Ev.pure _)) (Ev.pure _)
   ·refine Ev.iteF h3 ?_
    have hB : B (Sound c s j) = B (Busy c s j) := B_iff ⟨fun k => k.k.elim (fun b => absurd b.s h3) id, fun k => ⟨h1, h2, .inr k⟩⟩
    rw [hB]
    by_cases h4 : j.State = 2 ∨ j.State = 3
    ·refine Ev.bind (a := false) ?_ (Ev.iteF (by simp) (Ev.bind (refNonce_f s j.Epoch hs) ?_))
     ·by_cases h5 : j.State = 2
      ·exact Ev.iteT h5 (Ev.pure _)
      ·exact Ev.iteF h5 (by rw [decide_eq_true (h4.resolve_left h5)]; exact Ev.pure _)
     by_cases h6 : j.Attempt < 1
     ·rw [B_f fun k : Busy c s j => by have := k.a; omega]
      exact Ev.bind (a := true) (Ev.iteT h6 (Ev.pure _)) (Ev.iteT rfl (Ev.pure _))
     by_cases h5 : (nonceL j.Epoch s.Eras).2 = true
     ·by_cases h7 : 1 ≤ j.Until ∧ j.Until ≤ 1099511627776
      ·by_cases h8 : (j.Workers.length : Int) = 2 * c.Faulty + 1
       ·by_cases h9 : (j.Indexes.length : Int) = 2 * c.Faulty + 1
        ·have hl1 := may_l1_ hc hw h8 h9
         have hl2 := may_l2_ hj
         by_cases h10 : (j.Votes.length : Int) ≤ 2 * c.Faulty + 1
         ·refine Ev.bind (a := false) (Ev.iteF h6 (Ev.iteT h5 (Ev.iteT h7 (Ev.iteT h8 (Ev.iteT h9 (by rw [decide_eq_false (by omega)]; exact Ev.pure _)))))) (Ev.iteF (by simp) (Ev.bind hl1 ?_))
          by_cases h11 : Crewed c j
          ·simp only [two_t h11, sumE]
           refine Ev.bind hl2 ?_
           by_cases h12 : VotesMay j
           ·simp only [two_t h12, sumE]
            refine Ev.bind (refDecide_f hj.votes c.Faulty) ?_
            have hB : B (Busy c s j) = B (decV j.Votes c.Faulty = (j.Value, decide (j.State = 3))) := B_iff ⟨fun k => k.vt.dec, fun k => ⟨h4, h5, by omega, h7, h11, ⟨h12.1, fun v hv => by
             obtain ⟨g1, g2⟩ := h12.2 v hv
             obtain ⟨q, hq, he⟩ := List.mem_iff_getElem.1 g2
             have := h11.w q hq
             rw [List.getD_eq_getElem?_getD, List.getElem?_eq_getElem hq, Option.getD_some, he] at this
             exact ⟨this.1, g1, g2⟩, k⟩⟩⟩
            rw [hB]
            by_cases h13 : j.State = 2
            ·refine Ev.iteT h13 ?_
             have h3n : decide (j.State = 3) = false := decide_eq_false (by omega)
             by_cases h14 : (decV j.Votes c.Faulty).2 = true
             ·rw [B_f (P := decV j.Votes c.Faulty = (j.Value, decide (j.State = 3))) fun k => by rw [k, h3n] at h14; cases h14]
              exact Ev.bind (Ev.iteT h14 (Ev.pure _)) (Ev.pure _)
             ·have h15 := decV_no (by simpa using h14)
              have : B (decV j.Votes c.Faulty = (j.Value, decide (j.State = 3))) = decide ((j.Value.length : Int) = 0) := by
               refine (B_iff ?_).trans B_dec
               exact ⟨fun k => by rw [k] at h15; have h16 : j.Value = [] := h15; rw [h16]; rfl, fun k => by rw [h3n]; have h16 : j.Value = [] := len0.1 (by omega); exact Prod.ext (by rw [h15, h16]) (by simpa using h14)⟩
              rw [this]
              exact Ev.bind (Ev.iteF h14 (Ev.pure _)) (Ev.pure _)
            ·refine Ev.iteF h13 ?_
             have h3n : decide (j.State = 3) = true := decide_eq_true (h4.resolve_left h13)
             by_cases h14 : (decV j.Votes c.Faulty).2 = true
             ·have he := same1_f (decV j.Votes c.Faulty).1 j.Value (by have := (decV_byt hj.votes c.Faulty).1; omega)
              have : B (decV j.Votes c.Faulty = (j.Value, decide (j.State = 3))) = decide ((decV j.Votes c.Faulty).1 = j.Value) := by
               refine (B_iff ?_).trans B_dec
               exact ⟨fun k => by rw [k], fun k => by rw [h3n]; exact Prod.ext k h14⟩
              rw [this]
              exact Ev.bind (Ev.iteT h14 (Ev.bind he (Ev.pure _))) (Ev.pure _)
             ·rw [B_f (P := decV j.Votes c.Faulty = (j.Value, decide (j.State = 3))) fun k => by rw [k, h3n] at h14; exact h14 rfl]
              exact Ev.bind (Ev.iteF h14 (Ev.pure _)) (Ev.pure _)
           ·simp only [two_f h12, sumE]
            rw [B_f fun k => h12 ⟨k.vt.once, fun v hv => (k.vt.each v hv).2⟩]
            exact Ev.pure _
          ·simp only [two_f h11, sumE]
           rw [B_f fun k => h11 k.cr]
           exact Ev.pure _
         ·rw [B_f fun k => h10 (by
           have := votes_len k.vt.once fun v hv => (k.vt.each v hv).2.2
           omega)]
          exact Ev.bind (a := true) (Ev.iteF h6 (Ev.iteT h5 (Ev.iteT h7 (Ev.iteT h8 (Ev.iteT h9 (by rw [decide_eq_true (by omega)]; exact Ev.pure _)))))) (Ev.iteT rfl (Ev.pure _))
        ·rw [B_f fun k => h9 k.cr.li]
         exact Ev.bind (a := true) (Ev.iteF h6 (Ev.iteT h5 (Ev.iteT h7 (Ev.iteT h8 (Ev.iteF h9 (Ev.pure _)))))) (Ev.iteT rfl (Ev.pure _))
       ·rw [B_f fun k => h8 k.cr.lw]
        exact Ev.bind (a := true) (Ev.iteF h6 (Ev.iteT h5 (Ev.iteT h7 (Ev.iteF h8 (Ev.pure _))))) (Ev.iteT rfl (Ev.pure _))
      ·rw [B_f fun k => h7 k.u]
       exact Ev.bind (a := true) (Ev.iteF h6 (Ev.iteT h5 (Ev.iteF h7 (Ev.pure _)))) (Ev.iteT rfl (Ev.pure _))
     ·rw [B_f fun k => h5 k.n]
      exact Ev.bind (a := true) (Ev.iteF h6 (Ev.iteF h5 (Ev.pure _))) (Ev.iteT rfl (Ev.pure _))
    ·rw [B_f fun k => h4 k.st]
     exact Ev.bind (a := true) (Ev.iteF (fun e => h4 (.inl e)) (by rw [decide_eq_false (fun e => h4 (.inr e))]; exact Ev.pure _)) (Ev.iteT rfl (Ev.pure _))
  ·rw [B_f fun k => h2 k.a]
   exact Ev.bind (a := true) (Ev.iteF (by omega) (by rw [decide_eq_false h2]; exact Ev.pure _)) (Ev.iteT rfl (Ev.pure _))
 ·rw [B_f fun k => h1 k.p]
  exact Ev.bind (a := true) (Ev.iteT (by omega) (Ev.pure _)) (Ev.iteT rfl (Ev.pure _))
end Go.Proofs.Ytobdpbnadjkhiaa.Pure
