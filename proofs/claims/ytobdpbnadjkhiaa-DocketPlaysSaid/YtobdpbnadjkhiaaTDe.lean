/- Plain laws of dockets: votes, crews that are picked, what a record does. -/
import Derived.Test.YtobdpbnadjkhiaaTGf
import Derived.Test.YtobdpbnadjkhiaaTDd
import Derived.Test.YtobdpbnadjkhiaaTCc
namespace Go.Proofs.Ytobdpbnadjkhiaa.Pure
open Go.WG Go.Proofs.Ytobdpbnadjkhiaa Go.Proofs.Ytobdpbnadjkhiaa.Ta
set_option linter.unusedSimpArgs false
set_option linter.unusedVariables false
theorem nodup_len : ∀ {l W : List Int}, l.Nodup → (∀ x ∈ l, x ∈ W) → l.length ≤ W.length
  | [], _, _, _ => Nat.zero_le _
  | a :: r, W, hn, hs => by
    rw [List.nodup_cons] at hn
    have ha := hs a (by simp)
    have := nodup_len (l := r) (W := W.erase a) hn.2 fun x hx => by
      have hne : x ≠ a := fun e => hn.1 (e ▸ hx)
      exact (List.mem_erase_of_ne hne).2 (hs x (List.mem_cons_of_mem _ hx))
    rw [List.length_erase_of_mem ha] at this
    have := List.length_pos_of_mem ha
    rw [List.length_cons]
    omega
theorem votes_len {l : List TCast} {W : List Int} (h : Once l) (k : ∀ v ∈ l, v.Worker ∈ W) : l.length ≤ W.length := by
  have := nodup_len h fun x hx => by obtain ⟨v, hv, rfl⟩ := List.mem_map.1 hx; exact k v hv
  rwa [List.length_map] at this
theorem set_same {α : Type} (l : List α) (i : Nat) (d : α) : l.set i (l.getD i d) = l := by
  by_cases h : i < l.length
  · rw [List.getD_eq_getElem?_getD, List.getElem?_eq_getElem h, Option.getD_some, List.set_getElem_self]
  · rw [List.set_eq_of_length_le (by omega)]
theorem getD_set_self {α : Type} {l : List α} {i : Nat} (d x : α) (h : i < l.length) : (l.set i x).getD i d = x := by
  rw [List.getD_eq_getElem?_getD, List.getElem?_set_self h]; rfl
theorem getD_set_other {α : Type} {l : List α} {i j : Nat} (d x : α) (h : i ≠ j) : (l.set i x).getD j d = l.getD j d := by
  rw [List.getD_eq_getElem?_getD, List.getElem?_set_ne h, List.getD_eq_getElem?_getD]
/-- These are barred. -/
def barL : List Bool → List Int → List Bool
  | b, [] => b
  | b, w :: r => barL (b.set w.toNat true) r
theorem barL_len : ∀ (ls : List Int) (b : List Bool), (barL b ls).length = b.length
  | [], _ => rfl
  | w :: r, b => by rw [barL, barL_len r, List.length_set]
theorem barL_snoc (w : Int) : ∀ (ls : List Int) (b : List Bool), barL b (ls ++ [w]) = (barL b ls).set w.toNat true
  | [], _ => rfl
  | x :: r, b => by rw [List.cons_append, barL, barL, barL_snoc w r]
/-- A vote. -/
def voteL (c : TConfig) (s : TState) (r : TRecord) : Int × TState :=
  if 1 ≤ r.Job ∧ r.Job ≤ (s.Jobs.length : Int) then
    (if (s.Jobs.getD (r.Job - 1).toNat TJob.z).State = 1 then (212, s) else
     if r.By ∈ (s.Jobs.getD (r.Job - 1).toNat TJob.z).Workers then
      (if (castV (s.Jobs.getD (r.Job - 1).toNat TJob.z).Votes ⟨r.By, r.Data⟩).2 = 0 then
        (if (decV (castV (s.Jobs.getD (r.Job - 1).toNat TJob.z).Votes ⟨r.By, r.Data⟩).1 c.Faulty).2 = true then
          (0, ⟨s.Eras, s.Jobs.set (r.Job - 1).toNat { s.Jobs.getD (r.Job - 1).toNat TJob.z with Votes := (castV (s.Jobs.getD (r.Job - 1).toNat TJob.z).Votes ⟨r.By, r.Data⟩).1, State := 3, Value := (decV (castV (s.Jobs.getD (r.Job - 1).toNat TJob.z).Votes ⟨r.By, r.Data⟩).1 c.Faulty).1 }, s.Used,
            barL s.Barred (lies (castV (s.Jobs.getD (r.Job - 1).toNat TJob.z).Votes ⟨r.By, r.Data⟩).1 (decV (castV (s.Jobs.getD (r.Job - 1).toNat TJob.z).Votes ⟨r.By, r.Data⟩).1 c.Faulty).1), s.Heads⟩)
         else (0, ⟨s.Eras, s.Jobs.set (r.Job - 1).toNat { s.Jobs.getD (r.Job - 1).toNat TJob.z with Votes := (castV (s.Jobs.getD (r.Job - 1).toNat TJob.z).Votes ⟨r.By, r.Data⟩).1 }, s.Used, s.Barred, s.Heads⟩))
       else ((castV (s.Jobs.getD (r.Job - 1).toNat TJob.z).Votes ⟨r.By, r.Data⟩).2, s))
     else (214, s))
  else (211, s)
theorem vote_l1 (c : TConfig) (E : List TEra) (J : List TJob) (U : List Int) (b : List Bool) (h : Int) (ls : List Int) (hl : ls.length ≤ 100) (hb : ∀ w ∈ ls, 0 ≤ w ∧ w < (b.length : Int)) :
    Ev (fun k => docket_work_vote.l1 k ls 0 ⟨c, ⟨E, J, U, b, h⟩⟩) (⟨c, ⟨E, J, U, barL b ls, h⟩⟩ : Twork) := by
  refine Ev.loop (n := ls.length) (F := fun k i (x : Twork) => docket_work_vote.l1 k ls (i : Int) x) (fun i x => x = ⟨c, ⟨E, J, U, barL b (ls.take i), h⟩⟩) (fun i x hi hI => ?_) (fun x hI => ?_) _ rfl
  · subst hI
    have hw := hb _ (getD_mem 0 hi)
    refine .inr ⟨_, rfl, fun k => ?_⟩
    rw [take_succ 0 hi, barL_snoc] at k
    simp only [docket_work_vote.l1, Int.toNat_natCast, wi64_j (show i < 9223372036854775807 by omega)]
    exact Ev.iteT (by omega) (Ev.iteT (by omega) (Ev.iteT (by rw [barL_len]; exact hw) k))
  · subst hI
    simp only [docket_work_vote.l1, List.take_length]
    exact Ev.iteF (by omega) (Ev.pure _)
theorem castV_mem {l : List TCast} {c d : TCast} (h : d ∈ (castV l c).1) : d ∈ l ∨ d = c := by
  unfold castV at h
  split at h
  · cases h
  · split at h
    · cases h
    · split at h
      · cases h
      · rcases List.mem_append.1 h with h | h
        · exact .inl h
        · exact .inr (List.mem_singleton.1 h)
theorem vote_f {c : TConfig} (hc : CfgOk c) {s : TState} (hs : StOk s) (hg : Good c s) {r : TRecord} (hr : Byt r.Data) : Ev (fun k => docket_work_vote.f k ⟨c, s⟩ r) ((voteL c s r).1, ⟨c, (voteL c s r).2⟩) := by
  unfold docket_work_vote.f voteL
  simp only [job_f c hs, Option.bind_some]
  unfold jobL
  by_cases g : 1 ≤ r.Job ∧ r.Job ≤ (s.Jobs.length : Int)
  · simp only [if_pos g]
    refine Ev.iteT (by omega) (Ev.iteT trivial ?_)
    have hi : (r.Job - 1).toNat < s.Jobs.length := by omega
    have hj := hs.each _ (getD_mem TJob.z hi)
    have hsd := hg.jb _ hi
    generalize hi' : (r.Job - 1).toNat = i at hi hj hsd ⊢
    generalize hje : s.Jobs.getD i TJob.z = j at hj hsd ⊢
    by_cases g1 : j.State = 1
    · simp only [if_pos g1]; exact Ev.pure _
    simp only [if_neg g1]
    have hb : Busy c s j := hsd.k.resolve_left fun k => g1 k.s
    have hlen : j.Votes.length ≤ 8 := by
      have h1 := votes_len hb.vt.once fun v hv => (hb.vt.each v hv).2.2
      have := hj.wk
      omega
    refine Ev.bind (asked_f j r.By hj.wk) ?_
    by_cases g2 : r.By ∈ j.Workers
    · simp only [if_pos g2]
      refine Ev.iteT (decide_eq_true g2) (Ev.bind (cast_f hj.votes ⟨r.By, r.Data⟩) ?_)
      have hV : Votes (castV j.Votes ⟨r.By, r.Data⟩).1 := castV_byt hj.votes (by omega) hr
      have hmem : ∀ d ∈ (castV j.Votes ⟨r.By, r.Data⟩).1, d.Worker ∈ j.Workers := fun d hd => by
        rcases castV_mem hd with h | rfl
        · exact (hb.vt.each d h).2.2
        · exact g2
      generalize castV j.Votes ⟨r.By, r.Data⟩ = cv at hV hmem ⊢
      by_cases g3 : cv.2 = 0
      · simp only [if_pos g3]
        refine Ev.bind (decide_f hV c.Faulty) ?_
        by_cases g4 : (decV cv.1 c.Faulty).2 = true
        · simp only [if_pos g4]
          refine Ev.bind (liars_f hV (decV_byt hV c.Faulty)) ?_
          have hl1 := vote_l1 c s.Eras (s.Jobs.set i { j with Votes := cv.1, State := 3, Value := (decV cv.1 c.Faulty).1 }) s.Used s.Barred s.Heads (lies cv.1 (decV cv.1 c.Faulty).1) (by have := lies_len cv.1 (decV cv.1 c.Faulty).1; have := hV.1; omega) (fun w hw => by
            obtain ⟨d, hd, _, rfl⟩ := (lies_mem _ _ _).1 hw
            have hm := hmem d hd
            obtain ⟨q, hq, he⟩ := List.mem_iff_getElem.1 hm
            have := hb.cr.w q hq
            rw [List.getD_eq_getElem?_getD, List.getElem?_eq_getElem hq, Option.getD_some, he] at this
            have := hg.b
            omega)
          have e1 : (s.Jobs.set i { j with Votes := cv.1 }).getD i TJob.z = { j with Votes := cv.1 } := getD_set_self _ _ hi
          have e2 : (s.Jobs.set i { j with Votes := cv.1, State := 3 }).getD i TJob.z = { j with Votes := cv.1, State := 3 } := getD_set_self _ _ hi
          simp only [e1, e2, List.set_set]
          exact Ev.bind hl1 (Ev.pure _)
        · simp only [if_neg g4]; exact Ev.pure _
      · simp only [if_neg g3]; exact Ev.pure _
    · simp only [if_neg g2]
      exact Ev.iteF (by simpa using g2) (Ev.pure _)
  · simp only [if_neg g]
    exact Ev.iteF (by omega) (Ev.iteF (by decide) (Ev.pure _))
/-- Keys used by these: their indexes, and how many are used. -/
def useL : List Int → List Int → List Int × List Int
  | u, [] => ([], u)
  | u, w :: r => (u.getD w.toNat 0 :: (useL (u.set w.toNat (u.getD w.toNat 0 + 1)) r).1, (useL (u.set w.toNat (u.getD w.toNat 0 + 1)) r).2)
theorem useL_len : ∀ (l : List Int) (u : List Int), (useL u l).1.length = l.length ∧ (useL u l).2.length = u.length
  | [], _ => ⟨rfl, rfl⟩
  | w :: r, u => by
    obtain ⟨h1, h2⟩ := useL_len r (u.set w.toNat (u.getD w.toNat 0 + 1))
    exact ⟨by rw [useL, List.length_cons, List.length_cons, h1], by rw [useL, h2, List.length_set]⟩
theorem useL_snoc (w : Int) : ∀ (l u : List Int), useL u (l ++ [w]) = ((useL u l).1 ++ [(useL u l).2.getD w.toNat 0], (useL u l).2.set w.toNat ((useL u l).2.getD w.toNat 0 + 1))
  | [], _ => rfl
  | x :: r, u => by rw [List.cons_append, useL, useL, useL_snoc w r]; rfl
/-- No more than one more each. -/
theorem useL_le : ∀ (l u : List Int) (q : Nat), (useL u l).2.getD q 0 ≤ u.getD q 0 + l.length ∧ u.getD q 0 ≤ (useL u l).2.getD q 0
  | [], _, _ => by simp [useL]
  | w :: r, u, q => by
    obtain ⟨h1, h2⟩ := useL_le r (u.set w.toNat (u.getD w.toNat 0 + 1)) q
    have h3 : (u.set w.toNat (u.getD w.toNat 0 + 1)).getD q 0 ≤ u.getD q 0 + 1 ∧ u.getD q 0 ≤ (u.set w.toNat (u.getD w.toNat 0 + 1)).getD q 0 := by
      by_cases e : w.toNat = q
      · subst e
        by_cases hl : w.toNat < u.length
        · rw [getD_set_self _ _ hl]; omega
        · rw [List.set_eq_of_length_le (by omega)]; omega
      · rw [getD_set_other _ _ e]; omega
    rw [useL, List.length_cons]
    refine ⟨?_, ?_⟩
    · show (useL (u.set w.toNat (u.getD w.toNat 0 + 1)) r).2.getD q 0 ≤ _
      omega
    · show _ ≤ (useL (u.set w.toNat (u.getD w.toNat 0 + 1)) r).2.getD q 0
      omega
/-- A job is given to workers. -/
def assignL (c : TConfig) (s : TState) (r : TRecord) : Int × TState :=
  if s.Eras.length = 0 then (210, s) else
  if 1 ≤ r.Job ∧ r.Job ≤ (s.Jobs.length : Int) then
    (if (s.Jobs.getD (r.Job - 1).toNat TJob.z).State = 1 then
      (if r.Time = 0 then (213, s) else
       if (Cr.pickL s.Used s.Barred (keysN c) (2 * c.Faulty + 1)).2 = 0 then
        (0, ⟨s.Eras, s.Jobs.set (r.Job - 1).toNat ⟨(s.Jobs.getD (r.Job - 1).toNat TJob.z).Payload, 2, (s.Jobs.getD (r.Job - 1).toNat TJob.z).Attempt + 1, lastE s, r.Time, (Cr.pickL s.Used s.Barred (keysN c) (2 * c.Faulty + 1)).1, (useL s.Used (Cr.pickL s.Used s.Barred (keysN c) (2 * c.Faulty + 1)).1).1, (s.Jobs.getD (r.Job - 1).toNat TJob.z).Votes, (s.Jobs.getD (r.Job - 1).toNat TJob.z).Value⟩,
          (useL s.Used (Cr.pickL s.Used s.Barred (keysN c) (2 * c.Faulty + 1)).1).2, s.Barred, s.Heads⟩)
       else ((Cr.pickL s.Used s.Barred (keysN c) (2 * c.Faulty + 1)).2, s))
     else (212, s))
  else (211, s)
end Go.Proofs.Ytobdpbnadjkhiaa.Pure
