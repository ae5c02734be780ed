/- Plain laws of agendas: the document's list. -/
import Derived.Test.YtnoocbdpkddpbaaUd
set_option linter.unusedSimpArgs false
set_option linter.unusedVariables false
namespace Go.Proofs.Ytnoocbdpkddpbaa.Pure
open Go.WG Go.Proofs.Ytnoocbdpkddpbaa
theorem drop_cons {α : Type} {l : List α} {j : Nat} (d : α) (h : j < l.length) : l.drop j = l.getD j d :: l.drop (j + 1) := by
  rw [List.getD_eq_getElem?_getD, List.getElem?_eq_getElem h, Option.getD_some]
  exact List.drop_eq_getElem_cons h
theorem find_l1 (L : List TEntry) (id : Int) (hb : L.length ≤ 1000000000000) : ∀ (m j : Nat), L.length - j = m → j ≤ L.length →
    Ev (fun k => juratref13_Agenda_find.l1 k ⟨L⟩ id (j : Int)) (match (L.drop j).findIdx? (fun x => decide (x.ID = id)) with | some t => Sum.inr ((j + t : Nat) : Int) | none => Sum.inl ()) := by
  intro m
  induction m with
  | zero =>
    intro j hm hj
    have hj' : j = L.length := by omega
    subst hj'
    refine Ev.succ ((Ev.pure _).congr fun k => ?_)
    simp [juratref13_Agenda_find.l1]
  | succ m ih =>
    intro j hm hj
    have hlt : j < L.length := by omega
    have h1 : (j : Int) < (L.length : Int) := by omega
    have h2 : 0 ≤ (j : Int) ∧ (j : Int) < (L.length : Int) := by omega
    rw [drop_cons TEntry.z hlt, List.findIdx?_cons]
    by_cases he : (L.getD j TEntry.z).ID = id
    · rw [decide_eq_true he]
      refine Ev.succ ((Ev.pure _).congr fun k => ?_)
      simp only [juratref13_Agenda_find.l1, if_pos h1, if_pos h2, Int.toNat_natCast, if_pos he]
      rfl
    · rw [decide_eq_false he]
      refine Ev.succ (Ev.congr (r := _) (f := fun k => juratref13_Agenda_find.l1 k ⟨L⟩ id ((j + 1 : Nat) : Int)) ?_ fun k => ?_)
      · have := ih (j + 1) (by omega) (by omega)
        cases hf : (L.drop (j + 1)).findIdx? (fun x => decide (x.ID = id)) with
        | none => rw [hf] at this; exact this
        | some t =>
          rw [hf] at this
          simpa [Nat.add_assoc, Nat.add_comm 1] using this
      · simp only [juratref13_Agenda_find.l1, if_pos h1, if_pos h2, Int.toNat_natCast, if_neg he, wi64_succ (show j < 9223372036854775807 by omega)]
theorem find_f (L : List TEntry) (id : Int) (hb : L.length ≤ 1000000000000) : Ev (fun k => juratref13_Agenda_find.f k ⟨L⟩ id) (match L.findIdx? (fun x => decide (x.ID = id)) with | some t => (t : Int) | none => -1) := by
  have h := find_l1 L id hb L.length 0 rfl (Nat.zero_le _)
  rw [List.drop_zero] at h
  refine Ev.bind (g := fun _ o_ => sumE o_ (fun _ => some (-1)) (fun p_ => some p_)) h ?_
  cases L.findIdx? (fun x => decide (x.ID = id)) with
  | none => exact Ev.pure _
  | some t => simpa [sumE] using Ev.pure (t : Int)
theorem findIdx_facts (id : Int) : ∀ (L : List TEntry), match L.findIdx? (fun x => decide (x.ID = id)) with
    | none => hasId id L = false
    | some t => t < L.length ∧ (L.getD t TEntry.z).ID = id ∧ hasId id L = true ∧ ((L.map (·.ID)).Nodup → L.take t ++ L.drop (t + 1) = noId id L) := by
  intro L
  induction L with
  | nil => rfl
  | cons x L ih =>
    rw [List.findIdx?_cons]
    by_cases he : x.ID = id
    · rw [decide_eq_true he]
      refine ⟨by simp, he, by simp [hasId, he], fun hn => ?_⟩
      rw [List.map_cons, List.nodup_cons] at hn
      have : noId id L = L := List.filter_eq_self.2 fun y hy => by
        simp only [decide_eq_true_eq]
        exact fun e => hn.1 (List.mem_map.2 ⟨y, hy, e.trans he.symm⟩)
      show L = noId id (x :: L)
      rw [noId, List.filter_cons, if_neg (by simp [he])]
      exact this.symm
    · rw [decide_eq_false he]
      cases hf : L.findIdx? (fun x => decide (x.ID = id)) with
      | none =>
        rw [hf] at ih
        show hasId id (x :: L) = false
        simp only [hasId, List.any_cons, decide_eq_false he, Bool.false_or]
        exact ih
      | some t =>
        rw [hf] at ih
        obtain ⟨h1, h2, h3, h4⟩ := ih
        refine ⟨by simp; exact h1, by simpa using h2, by simp only [hasId, List.any_cons, decide_eq_false he, Bool.false_or]; exact h3, fun hn => ?_⟩
        rw [List.map_cons, List.nodup_cons] at hn
        show x :: (L.take t ++ L.drop (t + 1)) = noId id (x :: L)
        rw [noId, List.filter_cons, if_pos (by simpa using he), h4 hn.2]
        rfl
theorem refDrop_f (L : List TEntry) (id : Int) (hb : L.length ≤ 4096) (hn : (L.map (·.ID)).Nodup) : Ev (fun k => juratref13_Agenda_Drop.f k ⟨L⟩ id) (hasId id L, ⟨noId id L⟩) := by
  have h := find_f L id (by omega)
  have hx := findIdx_facts id L
  cases hf : L.findIdx? (fun x => decide (x.ID = id)) with
  | none =>
    rw [hf] at h hx
    simp only at h hx
    obtain ⟨K, h⟩ := h
    refine ⟨K, fun k hk => ?_⟩
    have := h k hk
    simp only at this
    simp only [juratref13_Agenda_Drop.f, this, Option.bind_some]
    rw [if_pos (by decide), hx, noId_none hx]
  | some t =>
    rw [hf] at h hx
    obtain ⟨h1, h2, h3, h4⟩ := hx
    simp only at h
    obtain ⟨K, h⟩ := h
    refine ⟨K, fun k hk => ?_⟩
    have := h k hk
    simp only at this
    have g1 : ¬ (t : Int) < 0 := by omega
    have g2 : 0 ≤ (t : Int) ∧ (t : Int) ≤ (L.length : Int) := by omega
    have e1 := wi64_succ (show t < 9223372036854775807 by omega)
    have g3 : 0 ≤ ((t + 1 : Nat) : Int) ∧ ((t + 1 : Nat) : Int) ≤ (L.length : Int) ∧ (L.length : Int) ≤ (L.length : Int) := by omega
    have g4 : (([] : List TEntry).length + (L.take t).length) * 16 ≤ 140737488355328 := by rw [List.length_take, List.length_nil]; omega
    have g5 : ((L.take t).length + (L.drop (t + 1)).length) * 16 ≤ 140737488355328 := by rw [List.length_take, List.length_drop]; omega
    simp only [juratref13_Agenda_Drop.f, this, Option.bind_some, if_neg g1, if_pos g2, Int.toNat_natCast, e1, if_pos g3, if_pos g4, if_pos g5, h3, h4 hn]
theorem before_f (k : Nat) (a b : TEntry) : juratref13_before.f k a b = some (ltE a b) := by
  simp only [juratref13_before.f]
  by_cases h1 : a.At < b.At
  · simp [h1, ltE]
  · by_cases h2 : a.At = b.At
    · simp [h2, ltE]
    · simp [h1, h2, ltE]
theorem refPut_l1 (L : List TEntry) (e : TEntry) (hb : L.length ≤ 1000000) : ∀ (m j : Nat) (acc : List TEntry), L.length - j = m → j ≤ L.length → acc.length ≤ j →
    Ev (fun k => juratref13_Agenda_Put.l1 k e ⟨L⟩ acc (j : Int)) (acc ++ (L.drop j).takeWhile (fun x => ltE x e), ((j + ((L.drop j).takeWhile (fun x => ltE x e)).length : Nat) : Int)) := by
  intro m
  induction m with
  | zero =>
    intro j acc hm hj ha
    have hj' : j = L.length := by omega
    subst hj'
    refine Ev.succ ((Ev.pure _).congr fun k => ?_)
    simp [juratref13_Agenda_Put.l1]
  | succ m ih =>
    intro j acc hm hj ha
    have hlt : j < L.length := by omega
    have h1 : (j : Int) < (L.length : Int) := by omega
    have h2 : 0 ≤ (j : Int) ∧ (j : Int) < (L.length : Int) := by omega
    have h3 : (acc.length + 1) * 16 ≤ 140737488355328 := by omega
    rw [drop_cons TEntry.z hlt, List.takeWhile_cons]
    cases hl : ltE (L.getD j TEntry.z) e with
    | true =>
      have := ih (j + 1) (acc ++ [L.getD j TEntry.z]) (by omega) (by omega) (by simp; omega)
      rw [List.append_assoc, List.singleton_append, Nat.add_assoc, Nat.add_comm 1] at this
      rw [if_pos rfl, List.length_cons]
      refine Ev.succ (this.congr fun k => ?_)
      simp only [juratref13_Agenda_Put.l1, if_pos h1, if_pos h2, Int.toNat_natCast, before_f, Option.bind_some, hl, if_true, if_pos h3, wi64_succ (show j < 9223372036854775807 by omega)]
    | false =>
      rw [if_neg (by simp)]
      refine Ev.succ ((Ev.pure _).congr fun k => ?_)
      simp only [juratref13_Agenda_Put.l1, if_pos h1, if_pos h2, Int.toNat_natCast, before_f, Option.bind_some, hl, Bool.false_eq_true, if_false, List.append_nil, List.length_nil, Nat.add_zero]
theorem ins_eq (e : TEntry) (L : List TEntry) : Heap.ins ltE e L = (L.takeWhile (fun x => ltE x e) ++ [e]) ++ L.drop (L.takeWhile (fun x => ltE x e)).length := by
  induction L with
  | nil => rfl
  | cons y L ih =>
    rw [Heap.ins, List.takeWhile_cons]
    cases hl : ltE y e with
    | true => simp only [if_true, ih]; simp
    | false => simp
theorem refPut_f (L : List TEntry) (e : TEntry) (hb : L.length ≤ 4096) (hn : (L.map (·.ID)).Nodup) : Ev (fun k => juratref13_Agenda_Put.f k ⟨L⟩ e) (if hasId e.ID L = true ∨ L.length < 4096 then (0, ⟨putL e L⟩) else (90, ⟨L⟩)) := by
  have hd := refDrop_f L e.ID hb hn
  have hl := refPut_l1 (noId e.ID L) e (by have := noId_len e.ID L; omega) (noId e.ID L).length 0 [] rfl (Nat.zero_le _) (Nat.zero_le _)
  rw [List.drop_zero, List.nil_append, Nat.zero_add] at hl
  have hle := noId_len e.ID L
  by_cases hc : hasId e.ID L = true ∨ L.length < 4096
  · rw [if_pos hc]
    have htw : ((noId e.ID L).takeWhile (fun x => ltE x e)).length ≤ (noId e.ID L).length := (List.takeWhile_sublist _).length_le
    have hfin : Ev (fun k => (juratref13_Agenda_Put.l1 k e ⟨noId e.ID L⟩ ([] : List TEntry) 0).bind fun x => if (x.1.length + 1) * 16 ≤ 140737488355328 then (if 0 ≤ x.2 ∧ x.2 ≤ ((noId e.ID L).length : Int) ∧ ((noId e.ID L).length : Int) ≤ ((noId e.ID L).length : Int) then (if ((x.1 ++ [e]).length + ((noId e.ID L).drop x.2.toNat).length) * 16 ≤ 140737488355328 then (some (0, (⟨(x.1 ++ [e]) ++ ((noId e.ID L).drop x.2.toNat)⟩ : TAgenda_))) else none) else none) else none) ((0 : Int), (⟨putL e L⟩ : TAgenda_)) := by
      refine Ev.bind (g := fun _ (x : List TEntry × Int) => if (x.1.length + 1) * 16 ≤ 140737488355328 then (if 0 ≤ x.2 ∧ x.2 ≤ ((noId e.ID L).length : Int) ∧ ((noId e.ID L).length : Int) ≤ ((noId e.ID L).length : Int) then (if ((x.1 ++ [e]).length + ((noId e.ID L).drop x.2.toNat).length) * 16 ≤ 140737488355328 then (some (0, (⟨(x.1 ++ [e]) ++ ((noId e.ID L).drop x.2.toNat)⟩ : TAgenda_))) else none) else none) else none) hl ?_
      refine Ev.iteT (by simp only; omega) (Ev.iteT (by simp only; omega) (Ev.iteT ?_ ?_))
      · simp only [List.length_append, List.length_drop, List.length_singleton]; omega
      · simp only [Int.toNat_natCast]
        rw [putL, ins_eq]
        exact Ev.pure _
    refine Ev.congr (Ev.bind (g := fun k (x : Bool × TAgenda_) => if x.1 = true then some ((90 : Int), x.2) else (juratref13_Agenda_Put.l1 k e x.2 ([] : List TEntry) 0).bind fun y => if (y.1.length + 1) * 16 ≤ 140737488355328 then (if 0 ≤ y.2 ∧ y.2 ≤ (x.2.L.length : Int) ∧ (x.2.L.length : Int) ≤ (x.2.L.length : Int) then (if ((y.1 ++ [e]).length + (x.2.L.drop y.2.toNat).length) * 16 ≤ 140737488355328 then (some (0, (⟨(y.1 ++ [e]) ++ (x.2.L.drop y.2.toNat)⟩ : TAgenda_))) else none) else none) else none)
      (Ev.bind (g := fun _ (x : Bool × TAgenda_) => if x.1 = true then some (false, x.2) else some (decide ((x.2.L.length : Int) ≥ 4096), x.2)) hd (r := (false, ⟨noId e.ID L⟩)) ?_) (Ev.iteF (by simp) hfin)) fun k => rfl
    cases hh : hasId e.ID L with
    | true => exact Ev.iteT rfl (Ev.pure _)
    | false =>
      refine Ev.iteF (by simp) ?_
      have : decide (((noId e.ID L).length : Int) ≥ 4096) = false := by
        refine decide_eq_false ?_
        rcases hc with hc | hc
        · rw [hh] at hc; exact absurd hc (by simp)
        · omega
      simp only [this]
      exact Ev.pure _
  · rw [if_neg hc]
    have hh : hasId e.ID L = false := by
      cases h : hasId e.ID L with
      | false => rfl
      | true => exact absurd (.inl h) hc
    have hfull : ¬ L.length < 4096 := fun h => hc (.inr h)
    rw [hh, noId_none hh] at hd
    refine Ev.congr (Ev.bind (g := fun k (x : Bool × TAgenda_) => if x.1 = true then some ((90 : Int), x.2) else (juratref13_Agenda_Put.l1 k e x.2 ([] : List TEntry) 0).bind fun y => if (y.1.length + 1) * 16 ≤ 140737488355328 then (if 0 ≤ y.2 ∧ y.2 ≤ (x.2.L.length : Int) ∧ (x.2.L.length : Int) ≤ (x.2.L.length : Int) then (if ((y.1 ++ [e]).length + (x.2.L.drop y.2.toNat).length) * 16 ≤ 140737488355328 then (some (0, (⟨(y.1 ++ [e]) ++ (x.2.L.drop y.2.toNat)⟩ : TAgenda_))) else none) else none) else none)
      (Ev.bind (g := fun _ (x : Bool × TAgenda_) => if x.1 = true then some (false, x.2) else some (decide ((x.2.L.length : Int) ≥ 4096), x.2)) hd (r := (true, ⟨L⟩)) ?_) (Ev.iteT rfl (Ev.pure _))) fun k => rfl
    refine Ev.iteF (by simp) ?_
    have : decide ((L.length : Int) ≥ 4096) = true := decide_eq_true (by omega)
    simp only [this]
    exact Ev.pure _
theorem refAt_f (L : List TEntry) (id : Int) (hb : L.length ≤ 4096) : ∃ r, Ev (fun k => juratref13_Agenda_At.f k ⟨L⟩ id) r ∧ r.2 = hasId id L ∧ (r.2 = false → r.1 = 0) ∧ (r.2 = true → ∃ x ∈ L, x.ID = id ∧ x.At = r.1) := by
  have h := find_f L id (by omega)
  have hx := findIdx_facts id L
  cases hf : L.findIdx? (fun x => decide (x.ID = id)) with
  | none =>
    rw [hf] at h hx
    simp only at h hx
    refine ⟨(0, false), ?_, hx.symm, fun _ => rfl, fun h => absurd h (by simp)⟩
    exact Ev.bind (g := fun _ r12 => if r12 < 0 then (some ((0 : Int), false)) else (if 0 ≤ r12 ∧ r12 < (L.length : Int) then (some ((L.getD r12.toNat TEntry.z).At, true)) else none)) h (Ev.iteT (by decide) (Ev.pure _))
  | some t =>
    rw [hf] at h hx
    obtain ⟨h1, h2, h3, _⟩ := hx
    simp only at h
    refine ⟨((L.getD t TEntry.z).At, true), ?_, h3.symm, fun h => absurd h (by simp), fun _ => ⟨L.getD t TEntry.z, ?_, h2, rfl⟩⟩
    · refine Ev.bind (g := fun _ r12 => if r12 < 0 then (some ((0 : Int), false)) else (if 0 ≤ r12 ∧ r12 < (L.length : Int) then (some ((L.getD r12.toNat TEntry.z).At, true)) else none)) h (Ev.iteF (by omega) (Ev.iteT (by omega) ?_))
      simp only [Int.toNat_natCast]
      exact Ev.pure _
    · rw [List.getD_eq_getElem?_getD, List.getElem?_eq_getElem h1, Option.getD_some]; exact List.getElem_mem h1
theorem refNext_f (L : List TEntry) (k : Nat) : juratref13_Agenda_Next.f k ⟨L⟩ = some (match L with | [] => (⟨0, 0⟩, false) | s :: _ => (s, true)) := by
  cases L with
  | nil => rfl
  | cons s S =>
    have h0 : ¬ (((s :: S).length : Nat) : Int) = 0 := by rw [List.length_cons]; omega
    simp only [juratref13_Agenda_Next.f, if_neg h0]
    rw [if_pos ⟨Nat.le_refl _, by rw [List.length_cons]; omega⟩]
    rfl
theorem refDue_l1 (L : List TEntry) (now : Int) (hb : L.length ≤ 1000000) : ∀ (m j : Nat), L.length - j = m → j ≤ L.length →
    Ev (fun k => juratref13_Agenda_Due.l1 k ⟨L⟩ now (j : Int)) ((j + ((L.drop j).takeWhile (fun x => decide (x.At ≤ now))).length : Nat) : Int) := by
  intro m
  induction m with
  | zero =>
    intro j hm hj
    have hj' : j = L.length := by omega
    subst hj'
    refine Ev.succ ((Ev.pure _).congr fun k => ?_)
    simp [juratref13_Agenda_Due.l1]
  | succ m ih =>
    intro j hm hj
    have hlt : j < L.length := by omega
    have h1 : (j : Int) < (L.length : Int) := by omega
    have h2 : 0 ≤ (j : Int) ∧ (j : Int) < (L.length : Int) := by omega
    rw [drop_cons TEntry.z hlt, List.takeWhile_cons]
    by_cases hl : (L.getD j TEntry.z).At ≤ now
    · have := ih (j + 1) (by omega) (by omega)
      rw [Nat.add_assoc, Nat.add_comm 1] at this
      rw [if_pos (by simpa using hl), List.length_cons]
      refine Ev.succ (this.congr fun k => ?_)
      simp only [juratref13_Agenda_Due.l1, if_pos h1, if_pos h2, Int.toNat_natCast, Option.bind_some, decide_eq_true hl, if_true, wi64_succ (show j < 9223372036854775807 by omega)]
    · rw [if_neg (by simpa using hl)]
      refine Ev.succ ((Ev.pure _).congr fun k => ?_)
      simp only [juratref13_Agenda_Due.l1, if_pos h1, if_pos h2, Int.toNat_natCast, Option.bind_some, decide_eq_false hl, Bool.false_eq_true, if_false, List.length_nil, Nat.add_zero]
theorem takeWhile_take {α : Type} (p : α → Bool) : ∀ L : List α, L.take (L.takeWhile p).length = L.takeWhile p ∧ L.drop (L.takeWhile p).length = L.dropWhile p
  | [] => ⟨rfl, rfl⟩
  | x :: L => by
    rw [List.takeWhile_cons, List.dropWhile_cons]
    cases p x with
    | true => simpa using takeWhile_take p L
    | false => simp
theorem refDue_f (L : List TEntry) (now : Int) (hb : L.length ≤ 4096) : Ev (fun k => juratref13_Agenda_Due.f k ⟨L⟩ now) (L.takeWhile (fun x => decide (x.At ≤ now)), ⟨L.dropWhile fun x => decide (x.At ≤ now)⟩) := by
  have h := refDue_l1 L now (by omega) L.length 0 rfl (Nat.zero_le _)
  rw [List.drop_zero, Nat.zero_add] at h
  have htw : (L.takeWhile (fun x => decide (x.At ≤ now))).length ≤ L.length := (List.takeWhile_sublist _).length_le
  obtain ⟨t1, t2⟩ := takeWhile_take (fun x : TEntry => decide (x.At ≤ now)) L
  refine Ev.congr (Ev.bind (g := fun _ (x51 : Int) => if 0 ≤ x51 ∧ x51 ≤ (L.length : Int) then (if (L.take x51.toNat).length * 16 ≤ 140737488355328 then (if 0 ≤ x51 ∧ x51 ≤ (L.length : Int) ∧ (L.length : Int) ≤ (L.length : Int) then (if (L.drop x51.toNat).length * 16 ≤ 140737488355328 then (some (L.take x51.toNat, (⟨L.drop x51.toNat⟩ : TAgenda_))) else none) else none) else none) else none) h ?_) fun k => rfl
  refine Ev.iteT (by omega) (Ev.iteT (by rw [List.length_take]; omega) (Ev.iteT (by omega) (Ev.iteT (by rw [List.length_drop]; omega) ?_)))
  simp only [Int.toNat_natCast, t1, t2]
  exact Ev.pure _
instance : DecidableEq TEntry := fun a b => decidable_of_iff (a.At = b.At ∧ a.ID = b.ID) ⟨fun h => by cases a; cases b; simp only at h; rw [h.1, h.2], fun h => by rw [h]; exact ⟨rfl, rfl⟩⟩
theorem same_l1 (a b : List TEntry) (he : a.length = b.length) (hb : a.length ≤ 1000000000) : ∀ (m j : Nat), a.length - j = m → j ≤ a.length →
    Ev (fun k => juratref13_Same.l1 k a b (j : Int)) (if a.drop j = b.drop j then Sum.inl () else Sum.inr false) := by
  intro m
  induction m with
  | zero =>
    intro j hm hj
    rw [List.drop_eq_nil_of_le (by omega), List.drop_eq_nil_of_le (by omega), if_pos rfl]
    refine Ev.succ ((Ev.pure _).congr fun k => ?_)
    have : ¬ (j : Int) < (a.length : Int) := by omega
    simp only [juratref13_Same.l1, if_neg this]
  | succ m ih =>
    intro j hm hj
    have hlt : j < a.length := by omega
    have hlt2 : j < b.length := by omega
    have h1 : (j : Int) < (a.length : Int) := by omega
    have h2 : 0 ≤ (j : Int) ∧ (j : Int) < (a.length : Int) := by omega
    have h3 : 0 ≤ (j : Int) ∧ (j : Int) < (b.length : Int) := by omega
    rw [drop_cons TEntry.z hlt, drop_cons TEntry.z hlt2]
    by_cases hq : (a.getD j TEntry.z).At = (b.getD j TEntry.z).At ∧ (a.getD j TEntry.z).ID = (b.getD j TEntry.z).ID
    · have hxy : a.getD j TEntry.z = b.getD j TEntry.z := by
        generalize a.getD j TEntry.z = x at hq
        generalize b.getD j TEntry.z = y at hq
        obtain ⟨u, v⟩ := x
        obtain ⟨u', v'⟩ := y
        simp only at hq
        rw [hq.1, hq.2]
      simp only [hxy, List.cons.injEq, true_and]
      refine Ev.succ ((ih (j + 1) (by omega) (by omega)).congr fun k => ?_)
      simp only [juratref13_Same.l1, if_pos h1, if_pos h2, if_pos h3, Int.toNat_natCast, if_pos hq, wi64_succ (show j < 9223372036854775807 by omega)]
    · have hxy : ¬ a.getD j TEntry.z = b.getD j TEntry.z := fun e => hq (by rw [e]; exact ⟨rfl, rfl⟩)
      rw [if_neg (by rw [List.cons.injEq]; exact fun e => hxy e.1)]
      refine Ev.succ ((Ev.pure _).congr fun k => ?_)
      simp only [juratref13_Same.l1, if_pos h1, if_pos h2, if_pos h3, Int.toNat_natCast, if_neg hq]
theorem same_f (a b : List TEntry) (hb : a.length ≤ 1000000000) (r : Bool) (hr : r = true ↔ a = b) : Ev (fun k => juratref13_Same.f k a b) r := by
  by_cases he : a.length = b.length
  · have he' : (a.length : Int) = (b.length : Int) := by omega
    have h := same_l1 a b he hb a.length 0 rfl (Nat.zero_le _)
    rw [List.drop_zero, List.drop_zero] at h
    refine Ev.iteT he' (Ev.bind (g := fun _ o_ => sumE o_ (fun _ => some true) (fun p_ => some p_)) h ?_)
    by_cases hab : a = b
    · rw [if_pos hab, hr.2 hab]; exact Ev.pure _
    · rw [if_neg hab]
      cases r with
      | true => exact absurd (hr.1 rfl) hab
      | false => exact Ev.pure _
  · have he' : ¬ (a.length : Int) = (b.length : Int) := by omega
    refine Ev.iteF he' ?_
    cases r with
    | true => exact absurd (congrArg List.length (hr.1 rfl)) he
    | false => exact Ev.pure _
end Go.Proofs.Ytnoocbdpkddpbaa.Pure
