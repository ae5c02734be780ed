/- Plain laws of dockets: what jobs and states may be. -/
import Derived.Test.YtobdpbnadjkhiaaTDa
namespace Go.Proofs.Ytobdpbnadjkhiaa.Pure
open Go.WG Go.Proofs.Ytobdpbnadjkhiaa Go.Proofs.Ytobdpbnadjkhiaa.Ta
set_option linter.unusedSimpArgs false
set_option linter.unusedVariables false
/-- A proposition as a truth value. -/
noncomputable def B (P : Prop) : Bool := @decide P (Classical.propDecidable P)
theorem B_t {P : Prop} (h : P) : B P = true := by unfold B; exact @decide_eq_true P (Classical.propDecidable P) h
theorem B_f {P : Prop} (h : ¬ P) : B P = false := by unfold B; exact @decide_eq_false P (Classical.propDecidable P) h
theorem B_iff {P Q : Prop} (h : P ↔ Q) : B P = B Q := by rw [propext h]
theorem B_dec {P : Prop} [i : Decidable P] : B P = decide P := by
 by_cases h : P
 ·rw [B_t h, decide_eq_true h]
 ·rw [B_f h, decide_eq_false h]
noncomputable def two {α : Type} (P : Prop) (x y : α) : α := cond (B P) x y
theorem two_t {α : Type} {P : Prop} {x y : α} (h : P) : two P x y = x := by unfold two; rw [B_t h]; rfl
theorem two_f {α : Type} {P : Prop} {x y : α} (h : ¬ P) : two P x y = y := by unfold two; rw [B_f h]; rfl
theorem shl_le {n : Int} (h : 0 ≤ n ∧ n ≤ 6) : 1 ≤ shlOp .i64 1 n ∧ shlOp .i64 1 n ≤ 64 := by
 have : n = 0 ∨ n = 1 ∨ n = 2 ∨ n = 3 ∨ n = 4 ∨ n = 5 ∨ n = 6 := by omega
 rcases this with h | h | h | h | h | h | h <;> (rw [h]; decide)
/-- The keys of a worker. -/
def keysN (c : TConfig) : Int := shlOp .i64 1 c.Height
theorem CfgOk.keys {c : TConfig} (h : CfgOk c) : 1 ≤ keysN c ∧ keysN c ≤ 64 := shl_le h.h
structure Crewed (c : TConfig) (j : TJob) : Prop where
 lw : (j.Workers.length : Int) = 2 * c.Faulty + 1
 li : (j.Indexes.length : Int) = 2 * c.Faulty + 1
 nd : j.Workers.Nodup
 w : ∀ i < j.Workers.length, 0 ≤ j.Workers.getD i 0 ∧ j.Workers.getD i 0 ≤ c.Workers - 1
 i : ∀ i < j.Workers.length, 0 ≤ j.Indexes.getD i 0 ∧ j.Indexes.getD i 0 ≤ keysN c - 1
theorem nodup_snoc {xs : List Int} {x : Int} (h : xs.Nodup) (hx : ¬ x ∈ xs) : (xs ++ [x]).Nodup := by
 rw [List.nodup_append]
 exact ⟨h, by simp, fun a ha b hb e => hx (by rw [List.mem_singleton] at hb; rw [← hb, ← e]; exact ha)⟩
theorem nodup_take_get {xs : List Int} (h : xs.Nodup) {i : Nat} (hi : i < xs.length) : ¬ xs.getD i 0 ∈ xs.take i := fun hm => by
 obtain ⟨q, hq, he⟩ := (mem_take (0 : Int) (by omega)).1 hm
 have e1 : xs[q]'(by omega) = xs[i] := by
  rw [List.getD_eq_getElem?_getD, List.getD_eq_getElem?_getD, List.getElem?_eq_getElem hi, List.getElem?_eq_getElem (by omega)] at he
  exact he
 have := (List.getElem_inj h).1 e1
 omega
theorem mget_some_iff (m : List (Int × Int)) (k : Int) : (mget m k).isSome = true ↔ k ∈ m.map (·.1) := by
 unfold mget
 rw [Option.isSome_map, List.find?_isSome]
 constructor
 ·rintro ⟨q, hq, he⟩
  exact List.mem_map.2 ⟨q, hq, by simpa using he⟩
 ·intro h
  obtain ⟨q, hq, he⟩ := List.mem_map.1 h
  exact ⟨q, hq, by simpa using he⟩
theorem crewed_f {c : TConfig} (hc : CfgOk c) (j : TJob) (hw : j.Workers.length ≤ 8) : Ev (fun k => docket_crewed.f k c j) (B (Crewed c j)) := by
 unfold docket_crewed.f
 simp only [hands_f hc, Option.bind_some]
 have hF := hc.f; have hW := hc.w; have hK := hc.keys
 by_cases h1 : (j.Workers.length : Int) = 2 * c.Faulty + 1
 ·by_cases h2 : (j.Indexes.length : Int) = 2 * c.Faulty + 1
  ·refine Ev.bind (a := false) (Ev.iteT h1 (by rw [decide_eq_true h2]; exact Ev.pure _)) (Ev.iteF (by simp) ?_)
   have hloop : Ev (fun k => docket_crewed.l1 k c j [] 0) (two (Crewed c j) (Sum.inl ()) (Sum.inr false)) := by
    refine Ev.loop (n := j.Workers.length) (F := fun k i (s : List (Int × Int)) => docket_crewed.l1 k c j s (i : Int))
     (fun i s => s.map (·.1) = j.Workers.take i ∧ (j.Workers.take i).Nodup ∧ ∀ q < i, (0 ≤ j.Workers.getD q 0 ∧ j.Workers.getD q 0 ≤ c.Workers - 1) ∧ (0 ≤ j.Indexes.getD q 0 ∧ j.Indexes.getD q 0 ≤ keysN c - 1)) (fun i s hi hI => ?_) (fun s hI => ?_) [] ⟨rfl, by simp, fun q hq => by omega⟩
    ·obtain ⟨hs, hn, hb⟩ := hI
     have e1 : wi64 (c.Workers - 1) = c.Workers - 1 := wi64_id (by omega) (by omega)
     have e2 : wi64 (shlOp .i64 1 c.Height - 1) = keysN c - 1 := wi64_id (by unfold keysN at hK; omega) (by unfold keysN at hK; omega)
     simp only [docket_crewed.l1, Int.toNat_natCast, btw, Option.bind_some, wi64_j (show i < 9223372036854775807 by omega), e1, e2]
     have hH := hc.h.1
     by_cases h3 : (mget s (j.Workers.getD i 0)).isSome = true
     ·rw [two_f (fun k => nodup_take_get k.nd hi (by rw [← hs]; exact (mget_some_iff s _).1 h3))]
      exact .inl (Ev.iteT (by omega) (Ev.iteT (by omega) (Ev.bind (a := true) (Ev.iteT h3 (Ev.pure _)) (Ev.iteT rfl (Ev.pure _)))))
     by_cases h4 : 0 ≤ j.Workers.getD i 0 ∧ j.Workers.getD i 0 ≤ c.Workers - 1
     ·by_cases h5 : 0 ≤ j.Indexes.getD i 0 ∧ j.Indexes.getD i 0 ≤ keysN c - 1
      ·refine .inr ⟨mset s (j.Workers.getD i 0) (i : Int), ⟨?_, ?_, fun q hq => ?_⟩, fun h => ?_⟩
       ·rw [mset_keys, if_neg (fun e => h3 ((mget_some_iff s _).2 e)), hs, take_succ 0 hi]
       ·rw [take_succ 0 hi]
        exact nodup_snoc hn fun e => h3 ((mget_some_iff s _).2 (by rw [hs]; exact e))
       ·by_cases e : q = i
        ·subst e; exact ⟨h4, h5⟩
        ·exact hb q (by omega)
       ·refine Ev.iteT (by omega) (Ev.iteT (by omega) (Ev.bind (a := false) (Ev.iteF h3 (Ev.iteT (decide_eq_true h4) (Ev.iteT (by omega) (Ev.iteT hH ?_)))) (Ev.iteF (by simp) h)))
        rw [decide_eq_true h5]; exact Ev.pure _
      ·rw [two_f (fun k => h5 (k.i i hi))]
       refine .inl (Ev.iteT (by omega) (Ev.iteT (by omega) (Ev.bind (a := true) (Ev.iteF h3 (Ev.iteT (decide_eq_true h4) (Ev.iteT (by omega) (Ev.iteT hH ?_)))) (Ev.iteT rfl (Ev.pure _)))))
       rw [decide_eq_false h5]; exact Ev.pure _
     ·rw [two_f (fun k => h4 (k.w i hi))]
      refine .inl (Ev.iteT (by omega) (Ev.iteT (by omega) (Ev.bind (a := true) (Ev.iteF h3 (Ev.iteF ?_ (Ev.pure _))) (Ev.iteT rfl (Ev.pure _)))))
      rw [decide_eq_false h4]; simp
    ·obtain ⟨hs, hn, hb⟩ := hI
     rw [List.take_length] at hn
     simp only [docket_crewed.l1]
     rw [two_t ⟨h1, h2, hn, fun i hi => (hb i hi).1, fun i hi => (hb i hi).2⟩]
     exact Ev.iteF (by omega) (Ev.pure _)
   refine Ev.bind hloop ?_
   by_cases h : Crewed c j
   ·simp only [two_t h, B_t h, sumE]; exact Ev.pure _
   ·simp only [two_f h, B_f h, sumE]; exact Ev.pure _
  ·rw [B_f fun k => h2 k.li]
   refine Ev.bind (a := true) (Ev.iteT h1 (by rw [decide_eq_false h2]; exact Ev.pure _)) (Ev.iteT rfl (Ev.pure _))
 ·rw [B_f fun k => h1 k.lw]
  exact Ev.bind (a := true) (Ev.iteF h1 (Ev.pure _)) (Ev.iteT rfl (Ev.pure _))
structure Voted (c : TConfig) (j : TJob) : Prop where
 once : Once j.Votes
 each : ∀ v ∈ j.Votes, 0 ≤ v.Worker ∧ v.Value.length ≤ 32 ∧ v.Worker ∈ j.Workers
 dec : decV j.Votes c.Faulty = (j.Value, decide (j.State = 3))
/-- A job of some size. -/
structure JobOk (j : TJob) : Prop where
 pay : Byt j.Payload
 val : Byt j.Value
 votes : Votes j.Votes
 wk : j.Workers.length ≤ 8
 ix : j.Indexes.length ≤ 8
theorem votes_take {l : List TCast} (h : Votes l) (n : Nat) : Votes (l.take n) := ⟨by rw [List.length_take]; have := h.1; omega, fun c hc => h.2 c (List.mem_of_mem_take hc)⟩
theorem getD_mem {α : Type} {l : List α} {i : Nat} (d : α) (h : i < l.length) : l.getD i d ∈ l := by
 rw [List.getD_eq_getElem?_getD, List.getElem?_eq_getElem h]; exact List.getElem_mem h
theorem once_take {l : List TCast} (h : Once l) (n : Nat) : Once (l.take n) := List.Nodup.sublist ((List.take_sublist n l).map _) h
theorem decV_byt {l : List TCast} (h : Votes l) (f : Int) : Byt (decV l f).1 := by
 unfold decV
 by_cases hf : f < 0
 ·rw [if_pos hf]; exact ⟨by decide, by simp⟩
 ·rw [if_neg hf]
  have : ∀ r : List TCast, (∀ c ∈ r, Byt c.Value) → Byt (dec l f r).1 := fun r => by
   induction r with
   | nil => intro _; exact ⟨by simp [dec], by simp [dec]⟩
   | cons c r ih =>
    intro hr
    unfold dec
    split
    ·exact hr c (by simp)
    ·exact ih fun d hd => hr d (List.mem_cons_of_mem _ hd)
  exact this l h.2
theorem castV_ok {l : List TCast} {c : TCast} (h1 : 0 ≤ c.Worker) (h2 : c.Value.length ≤ 32) (h3 : ¬ ∃ d ∈ l, d.Worker = c.Worker) : castV l c = (l ++ [c], 0) := by
 unfold castV
 rw [if_neg (by omega), if_neg (by omega), if_neg h3]
theorem castV_no {l : List TCast} {c : TCast} (h : ¬ (0 ≤ c.Worker ∧ c.Value.length ≤ 32 ∧ ¬ ∃ d ∈ l, d.Worker = c.Worker)) : ¬ (castV l c).2 = 0 := by
 unfold castV
 split
 ·simp
 ·split
  ·simp
  ·split
   ·simp
   ·rename_i h1 h2 h3
    exact absurd ⟨by omega, by omega, h3⟩ h
theorem castV_byt {l : List TCast} (h : Votes l) (h5 : l.length ≤ 59) {c : TCast} (hc : Byt c.Value) : Votes (castV l c).1 := by
 have h0 : Votes [] := ⟨by decide, by simp⟩
 unfold castV
 split
 ·exact h0
 ·split
  ·exact h0
  ·split
   ·exact h0
   ·refine ⟨by rw [List.length_append, List.length_singleton]; omega, fun x hx => ?_⟩
    rcases List.mem_append.1 hx with hx | hx
    ·exact h.2 x hx
    ·rw [List.mem_singleton.1 hx]; exact hc
theorem voted_f {c : TConfig} (hc : CfgOk c) {j : TJob} (hj : JobOk j) : Ev (fun k => docket_voted.f k c j) (B (Voted c j)) := by
 unfold docket_voted.f
 have h60 := hj.votes.1
 have hloop : Ev (fun k => docket_voted.l1 k j [] 0) (two (Once j.Votes ∧ ∀ v ∈ j.Votes, 0 ≤ v.Worker ∧ v.Value.length ≤ 32 ∧ v.Worker ∈ j.Workers) (Sum.inl j.Votes) (Sum.inr false)) := by
  refine Ev.loop (n := j.Votes.length) (F := fun k i (s : List TCast) => docket_voted.l1 k j s (i : Int)) (fun i s => s = j.Votes.take i ∧ Once (j.Votes.take i) ∧ ∀ v ∈ j.Votes.take i, 0 ≤ v.Worker ∧ v.Value.length ≤ 32 ∧ v.Worker ∈ j.Workers) (fun i s hi hI => ?_) (fun s hI => ?_) [] ⟨rfl, by simp [Once], by simp⟩
  ·obtain ⟨rfl, ho, hb⟩ := hI
   have hcast := cast_f (votes_take hj.votes i) (j.Votes.getD i TCast.z)
   have hask := asked_f j (j.Votes.getD i TCast.z).Worker hj.wk
   have hm := getD_mem TCast.z hi
   simp only [docket_voted.l1, Int.toNat_natCast, wi64_j (show i < 9223372036854775807 by omega)]
   by_cases h1 : 0 ≤ (j.Votes.getD i TCast.z).Worker ∧ (j.Votes.getD i TCast.z).Value.length ≤ 32 ∧ ¬ ∃ d ∈ j.Votes.take i, d.Worker = (j.Votes.getD i TCast.z).Worker
   ·rw [castV_ok h1.1 h1.2.1 h1.2.2] at hcast
    by_cases h2 : (j.Votes.getD i TCast.z).Worker ∈ j.Workers
    ·rw [decide_eq_true h2] at hask
     refine .inr ⟨j.Votes.take (i + 1), ⟨rfl, ?_, fun v hv => ?_⟩, fun h => ?_⟩
     ·rw [take_succ TCast.z hi]
      unfold Once
      rw [List.map_append]
      refine nodup_snoc ho fun e => h1.2.2 ?_
      obtain ⟨d, hd, he⟩ := List.mem_map.1 e
      exact ⟨d, hd, he⟩
     ·rw [take_succ TCast.z hi] at hv
      rcases List.mem_append.1 hv with hv | hv
      ·exact hb v hv
      ·rw [List.mem_singleton.1 hv]; exact ⟨h1.1, h1.2.1, h2⟩
     ·rw [take_succ TCast.z hi] at h
      exact Ev.iteT (by omega) (Ev.iteT (by omega) (Ev.bind hcast (Ev.bind (a := false) (Ev.iteT rfl (Ev.bind hask (Ev.pure _))) (Ev.iteF (by simp) h))))
    ·rw [decide_eq_false h2] at hask
     rw [two_f fun k => h2 (k.2 _ hm).2.2]
     exact .inl (Ev.iteT (by omega) (Ev.iteT (by omega) (Ev.bind hcast (Ev.bind (a := true) (Ev.iteT rfl (Ev.bind hask (Ev.pure _))) (Ev.iteT rfl (Ev.pure _))))))
   ·rw [two_f fun k => h1 ⟨(k.2 _ hm).1, (k.2 _ hm).2.1, fun ⟨d, hd, he⟩ => by
     have h3 := once_take k.1 (i + 1)
     rw [take_succ TCast.z hi] at h3
     unfold Once at h3
     rw [List.map_append, List.nodup_append] at h3
     exact h3.2.2 _ (List.mem_map.2 ⟨d, hd, rfl⟩) _ (by simp) he⟩]
    have hne := castV_no h1
    refine .inl (Ev.iteT (by omega) (Ev.iteT (by omega) (Ev.bind hcast ?_)))
    exact Ev.bind (a := true) (Ev.iteF hne (Ev.pure _)) (Ev.iteT rfl (Ev.pure _))
  ·obtain ⟨rfl, ho, hb⟩ := hI
   rw [List.take_length] at ho hb
   simp only [docket_voted.l1, List.take_length]
   rw [two_t ⟨ho, hb⟩]
   exact Ev.iteF (by omega) (Ev.pure _)
 refine Ev.bind hloop ?_
 by_cases h : Once j.Votes ∧ ∀ v ∈ j.Votes, 0 ≤ v.Worker ∧ v.Value.length ≤ 32 ∧ v.Worker ∈ j.Workers
 ·simp only [two_t h, sumE]
  refine Ev.bind (decide_f hj.votes c.Faulty) ?_
  by_cases h1 : (decV j.Votes c.Faulty).2 = decide (j.State = 3)
  ·have he := equal_f (decV_byt hj.votes c.Faulty) hj.val
   have hB : B (Voted c j) = decide ((decV j.Votes c.Faulty).1 = j.Value) := by
    rw [← B_dec]
    exact B_iff ⟨fun k => by rw [k.dec], fun k => ⟨h.1, h.2, Prod.ext k h1⟩⟩
   rw [hB]
   exact Ev.bind (Ev.iteT h1 (Ev.bind he (Ev.pure _))) (Ev.pure _)
  ·rw [B_f fun k => h1 (by rw [k.dec])]
   exact Ev.bind (Ev.iteF h1 (Ev.pure _)) (Ev.pure _)
 ·simp only [two_f h, sumE]
  rw [B_f fun k => h ⟨k.once, k.each⟩]
  exact Ev.pure _
end Go.Proofs.Ytobdpbnadjkhiaa.Pure
