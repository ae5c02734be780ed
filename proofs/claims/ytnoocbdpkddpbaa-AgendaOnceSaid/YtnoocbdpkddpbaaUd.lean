/- Plain laws of agendas: the queue and the document's list. -/
import Derived.Test.YtnoocbdpkddpbaaUc
set_option linter.unusedSimpArgs false
set_option linter.unusedVariables false
namespace Go.Proofs.Ytnoocbdpkddpbaa.Pure
open Go.WG Go.Proofs.Ytnoocbdpkddpbaa
/-- The list without an ID; with an entry at its place. -/
def noId (id : Int) (L : List TEntry) : List TEntry := L.filter fun x => decide (x.ID ≠ id)
def putL (e : TEntry) (L : List TEntry) : List TEntry := Heap.ins ltE e (noId e.ID L)
def hasId (id : Int) (L : List TEntry) : Bool := L.any fun x => decide (x.ID = id)
structure R (q : Tqueue) (L : List TEntry) : Prop where
  ok : Heap.Ok ltE TEntry.z 0 q.l.length none q.l
  place : PlaceOk q.l q.place
  perm : q.l.Perm L
  sorted : L.Pairwise fun a b => ltE b a = false
  len : L.length ≤ 4096
theorem R.nodup {q : Tqueue} {L : List TEntry} (h : R q L) : (L.map (·.ID)).Nodup := (h.perm.map (·.ID)).nodup_iff.1 h.place.nodup
theorem R.qlen {q : Tqueue} {L : List TEntry} (h : R q L) : q.l.length = L.length := h.perm.length_eq
theorem R.has {q : Tqueue} {L : List TEntry} (h : R q L) (id : Int) : (mget q.place id).isSome = hasId id L := by
  cases hm : mget q.place id with
  | none =>
    have := (h.place.none id).1 hm
    symm
    simp only [hasId, Option.isSome_none, List.any_eq_false, decide_eq_true_eq]
    intro x hx
    exact this x (h.perm.mem_iff.2 hx)
  | some t =>
    obtain ⟨n, rfl, hn, he⟩ := (h.place id t).1 hm
    symm
    simp only [hasId, Option.isSome_some, List.any_eq_true, decide_eq_true_eq]
    exact ⟨_, h.perm.mem_iff.1 (by rw [List.getD_eq_getElem?_getD, List.getElem?_eq_getElem hn, Option.getD_some]; exact List.getElem_mem hn), he⟩
theorem R.empty : R ⟨[], []⟩ [] := ⟨fun p c _ _ _ hc => absurd hc (by simp), fun id t => by simp [mget], .nil, .nil, by simp⟩
theorem erase_perm {α : Type} : ∀ (l : List α) (i : Nat) (h : i < l.length), l.Perm (l[i] :: l.eraseIdx i)
  | x :: l, 0, _ => .refl _
  | x :: l, i + 1, h => ((erase_perm l i (by simpa using h)).cons x).trans (.swap _ _ _)
theorem noId_rest {l rest : List TEntry} {x : TEntry} (hp : l.Perm (x :: rest)) (hn : (l.map (·.ID)).Nodup) : (noId x.ID l).Perm rest := by
  have h1 := hp.filter (fun y => decide (y.ID ≠ x.ID))
  have h2 : ((x :: rest).map (·.ID)).Nodup := (hp.map (·.ID)).nodup_iff.1 hn
  rw [List.map_cons, List.nodup_cons] at h2
  rw [List.filter_cons, if_neg (by simp)] at h1
  have h3 : rest.filter (fun y => decide (y.ID ≠ x.ID)) = rest := List.filter_eq_self.2 fun y hy => by
    simp only [decide_eq_true_eq]
    exact fun e => h2.1 (List.mem_map.2 ⟨y, hy, e⟩)
  rw [h3] at h1
  exact h1
theorem noId_none {id : Int} {L : List TEntry} (h : hasId id L = false) : noId id L = L := by
  simp only [hasId, List.any_eq_false, decide_eq_true_eq] at h
  exact List.filter_eq_self.2 fun y hy => by simpa using h y hy
theorem sorted_noId {id : Int} {L : List TEntry} (h : L.Pairwise fun a b => ltE b a = false) : (noId id L).Pairwise fun a b => ltE b a = false := h.filter _
theorem putL_len (e : TEntry) (L : List TEntry) : (putL e L).length = (noId e.ID L).length + 1 := by
  rw [putL, (Heap.ins_perm e _).length_eq, List.length_cons]
theorem noId_len (id : Int) (L : List TEntry) : (noId id L).length ≤ L.length := List.length_filter_le ..
theorem noId_lt {id : Int} {L : List TEntry} (h : hasId id L = true) : (noId id L).length < L.length := by
  simp only [hasId, List.any_eq_true, decide_eq_true_eq] at h
  obtain ⟨x, hx, he⟩ := h
  refine Nat.lt_of_le_of_ne (noId_len id L) fun e => ?_
  have := List.length_filter_eq_length_iff.1 e x hx
  simp at this
  exact this he
/-- The queue's Put. -/
theorem put_f (q : Tqueue) (L : List TEntry) (h : R q L) (e : TEntry) :
    if hasId e.ID L = true ∨ L.length < 4096 then ∃ q', Ev (fun k => agenda_Agenda_Put.f k ⟨q⟩ e) (0, ⟨q'⟩) ∧ R q' (putL e L)
    else Ev (fun k => agenda_Agenda_Put.f k ⟨q⟩ e) (90, ⟨q⟩) := by
  have hql := h.qlen
  have hlen := h.len
  cases hh : hasId e.ID L with
  | true =>
    rw [if_pos (.inl rfl)]
    have hsome := h.has e.ID
    rw [hh] at hsome
    obtain ⟨t, ht⟩ := Option.isSome_iff_exists.1 hsome
    obtain ⟨i, rfl, hi, he⟩ := (h.place e.ID t).1 ht
    have hset : ({ q.l.getD i TEntry.z with At := e.At } : TEntry) = e := by
      obtain ⟨a, b⟩ := e
      simp only at he
      rw [← he]
    have hgi : q.l.getD i TEntry.z = q.l[i] := by rw [List.getD_eq_getElem?_getD, List.getElem?_eq_getElem hi, Option.getD_some]
    have hget : ∀ k, (q.l.set i e).getD k TEntry.z = if k = i then e else q.l.getD k TEntry.z := fun k => by
      rw [List.getD_eq_getElem?_getD, List.getElem?_set]
      by_cases hk : i = k
      · subst hk; simp [hi]
      · rw [if_neg hk, if_neg (Ne.symm hk), List.getD_eq_getElem?_getD]
    have hpl : PlaceOk (q.l.set i e) q.place := fun id t => by
      rw [h.place id t, List.length_set]
      constructor
      · rintro ⟨n, rfl, hn, hx⟩
        refine ⟨n, rfl, hn, ?_⟩
        rw [hget]
        split
        · rename_i hni; subst hni; rw [← he]; exact hx
        · exact hx
      · rintro ⟨n, rfl, hn, hx⟩
        refine ⟨n, rfl, hn, ?_⟩
        rw [hget] at hx
        split at hx
        · rename_i hni; subst hni; rw [he]; exact hx
        · exact hx
    obtain ⟨q', hf, hl', hp'⟩ := fix_f i ⟨q.l.set i e, q.place⟩ hpl (by simpa using hi) (by rw [List.length_set]; omega)
    have hfx : Heap.FixOk ltE TEntry.z (q.l.set i e).length i (q.l.set i e) := by
      rw [List.length_set]
      exact h.ok.fixOk ltE_ord hi fun k _ hki => by rw [hget, if_neg hki]
    obtain ⟨hpm, hok, _⟩ := Heap.fix_spec ltE_ord (q.l.set i e).length i (q.l.set i e) (Nat.le_refl _) (by simpa using hi) hfx
    have hperm : (q.l.set i e).Perm (e :: noId e.ID L) := by
      have h1 : (q.l.set i e).Perm (e :: q.l.eraseIdx i) := by
        have := erase_perm (q.l.set i e) i (by simpa using hi)
        rwa [List.getElem_set_self, List.eraseIdx_set_eq] at this
      have h2 : (noId e.ID q.l).Perm (q.l.eraseIdx i) := by
        have := noId_rest (erase_perm q.l i hi) h.place.nodup
        rwa [← hgi, he] at this
      exact h1.trans ((h2.symm.trans (h.perm.filter _)).cons e)
    refine ⟨q', ?_, ⟨?_, hp', ?_, ?_, ?_⟩⟩
    · refine Ev.congr (Ev.bind (g := fun _ r => some (0, (⟨r⟩ : TAgenda))) hf (Ev.pure _)) fun k => ?_
      have hb : 0 ≤ (i : Int) ∧ (i : Int) < (q.l.length : Int) := by omega
      simp only [agenda_Agenda_Put.f, ht, Option.isSome_some, if_true, Option.getD_some, if_pos hb, Int.toNat_natCast, hset]
    · rw [hl', hpm.length_eq]; exact hok
    · rw [hl']; exact (hpm.trans hperm).trans (Heap.ins_perm e _).symm
    · exact Heap.ins_sorted ltE_ord e _ (sorted_noId h.sorted)
    · rw [putL_len]; have := noId_lt hh; omega
  | false =>
    have hnone : mget q.place e.ID = none := by
      have := h.has e.ID
      rw [hh] at this
      cases hm : mget q.place e.ID with
      | none => rfl
      | some t => rw [hm] at this; exact absurd this (by simp)
    by_cases hfull : L.length < 4096
    · rw [if_pos (.inr hfull)]
      have hge : ¬ (q.l.length : Int) ≥ 4096 := by omega
      have hlim : (q.l.length + 1) * 16 ≤ 140737488355328 := by omega
      have hnew : ∀ x ∈ q.l, x.ID ≠ e.ID := (h.place.none e.ID).1 hnone
      have hget : ∀ k, (q.l ++ [e]).getD k TEntry.z = if k < q.l.length then q.l.getD k TEntry.z else if k = q.l.length then e else TEntry.z := fun k => by
        rw [List.getD_eq_getElem?_getD, List.getElem?_append]
        by_cases hk : k < q.l.length
        · rw [if_pos hk, if_pos hk, List.getD_eq_getElem?_getD]
        · rw [if_neg hk, if_neg hk]
          by_cases hk2 : k = q.l.length
          · subst hk2; simp
          · rw [if_neg hk2, List.getElem?_eq_none (by simp; omega)]; rfl
      have hpl : PlaceOk (q.l ++ [e]) (mset q.place e.ID (q.l.length : Int)) := fun id t => by
        rw [mget_mset, List.length_append, List.length_singleton]
        by_cases hid : id = e.ID
        · rw [if_pos hid]
          constructor
          · intro x
            injection x with x
            refine ⟨q.l.length, x.symm, by omega, ?_⟩
            rw [hget, if_neg (Nat.lt_irrefl _), if_pos rfl, hid]
          · rintro ⟨n, rfl, hn, hx⟩
            congr 1
            rw [hget] at hx
            split at hx
            · rename_i hlt
              exact absurd (hx.trans hid) (hnew _ (by rw [List.getD_eq_getElem?_getD, List.getElem?_eq_getElem hlt, Option.getD_some]; exact List.getElem_mem hlt))
            · omega
        · rw [if_neg hid, h.place id t]
          constructor
          · rintro ⟨n, rfl, hn, hx⟩
            exact ⟨n, rfl, by omega, by rw [hget, if_pos hn]; exact hx⟩
          · rintro ⟨n, rfl, hn, hx⟩
            rw [hget] at hx
            split at hx
            · rename_i hlt; exact ⟨n, rfl, hlt, hx⟩
            · rw [if_pos (by omega)] at hx; exact absurd hx.symm hid
      obtain ⟨q', hu, hl', hp'⟩ := up_f q.l.length ⟨q.l ++ [e], mset q.place e.ID (q.l.length : Int)⟩ hpl (by simp) (by simp; omega)
      have hup : Heap.UpOk ltE TEntry.z (q.l ++ [e]).length q.l.length (q.l ++ [e]) := by
        rw [List.length_append, List.length_singleton]
        refine ⟨fun p c hc hcn hcj => ?_, fun q' c hq hc hcn => by omega⟩
        rw [hget, hget, if_pos (by omega), if_pos (by omega)]
        exact h.ok p c (Nat.zero_le _) (by simp) hc (by omega)
      obtain ⟨hpm, hok, _⟩ := Heap.up_spec ltE_ord (q.l ++ [e]).length q.l.length q.l.length (q.l ++ [e]) (Nat.le_refl _) (by simp) (Nat.le_refl _) hup
      refine ⟨q', ?_, ⟨?_, hp', ?_, ?_, ?_⟩⟩
      · refine Ev.congr (Ev.bind (g := fun _ r => some (0, (⟨r⟩ : TAgenda))) (Ev.bind (g := fun _ r => some r) hu (Ev.pure _)) (Ev.pure _)) fun k => ?_
        have e1 : wi64 (((q.l ++ [e]).length : Int) - 1) = (q.l.length : Int) := by
          rw [List.length_append, List.length_singleton, wi64_id (by omega) (by omega)]; omega
        simp only [agenda_Agenda_Put.f, hnone, Option.isSome_none, Bool.false_eq_true, if_false, agenda_queue_Len.f, Option.bind_some, if_neg hge, heap_Push.f, agenda_queue_Push.f, if_pos hlim, e1]
      · rw [hl', hpm.length_eq]; exact hok
      · rw [hl']
        refine (hpm.trans (List.perm_append_comm (l₁ := q.l) (l₂ := [e]))).trans ?_
        rw [putL, noId_none hh]
        exact (h.perm.cons e).trans (Heap.ins_perm e _).symm
      · exact Heap.ins_sorted ltE_ord e _ (sorted_noId h.sorted)
      · rw [putL_len, noId_none hh]; omega
    · rw [if_neg (by simp [hfull])]
      refine (Ev.pure _).congr fun k => ?_
      have hge : (q.l.length : Int) ≥ 4096 := by omega
      simp only [agenda_Agenda_Put.f, hnone, Option.isSome_none, Bool.false_eq_true, if_false, agenda_queue_Len.f, Option.bind_some, if_pos hge]
theorem drop_f (q : Tqueue) (L : List TEntry) (h : R q L) (id : Int) : ∃ q', Ev (fun k => agenda_Agenda_Drop.f k ⟨q⟩ id) (hasId id L, ⟨q'⟩) ∧ R q' (noId id L) := by
  have hql := h.qlen
  have hlen := h.len
  have hs := h.has id
  cases hm : mget q.place id with
  | none =>
    rw [hm] at hs
    refine ⟨q, (Ev.pure _).congr fun k => ?_, ?_⟩
    · rw [← hs]; simp only [agenda_Agenda_Drop.f, hm, Option.isSome_none, Bool.false_eq_true, if_false]
    · rw [noId_none (by rw [← hs]; rfl)]; exact h
  | some t =>
    obtain ⟨i, rfl, hi, he⟩ := (h.place id t).1 hm
    rw [hm] at hs
    obtain ⟨q', hr, hp, hok, hpl⟩ := remove_f q i h.place hi (by omega) h.ok
    refine ⟨q', Ev.congr (Ev.bind (g := fun _ (x : TEntry × Tqueue) => some (true, (⟨x.2⟩ : TAgenda))) hr (by rw [← hs]; exact Ev.pure _)) fun k => ?_, hok, hpl, ?_, sorted_noId h.sorted, Nat.le_trans (noId_len _ _) h.len⟩
    · simp only [agenda_Agenda_Drop.f, hm, Option.isSome_some, if_true, Option.getD_some]
    · have := noId_rest hp h.place.nodup
      rw [he] at this
      exact this.symm.trans (h.perm.filter _)
theorem at_f (q : Tqueue) (L : List TEntry) (h : R q L) (id : Int) : ∃ r, Ev (fun k => agenda_Agenda_At.f k ⟨q⟩ id) r ∧ r.2 = hasId id L ∧ (r.2 = false → r.1 = 0) ∧ (r.2 = true → ∃ x ∈ L, x.ID = id ∧ x.At = r.1) := by
  have hs := h.has id
  cases hm : mget q.place id with
  | none =>
    rw [hm] at hs
    exact ⟨(0, false), (Ev.pure _).congr fun k => by simp only [agenda_Agenda_At.f, hm, Option.isSome_none, Bool.false_eq_true, if_false], hs, fun _ => rfl, fun x => absurd x (by simp)⟩
  | some t =>
    obtain ⟨i, rfl, hi, he⟩ := (h.place id t).1 hm
    rw [hm] at hs
    have hb : 0 ≤ (i : Int) ∧ (i : Int) < (q.l.length : Int) := by omega
    refine ⟨((q.l.getD i TEntry.z).At, true), (Ev.pure _).congr fun k => by simp only [agenda_Agenda_At.f, hm, Option.isSome_some, if_true, Option.getD_some, if_pos hb, Int.toNat_natCast], hs, fun x => absurd x (by simp), fun _ => ⟨q.l.getD i TEntry.z, h.perm.mem_iff.1 ?_, he, rfl⟩⟩
    rw [List.getD_eq_getElem?_getD, List.getElem?_eq_getElem hi, Option.getD_some]; exact List.getElem_mem hi
/-- The least of a heap is the sorted list's first. -/
theorem R.head {q : Tqueue} {s : TEntry} {S : List TEntry} (h : R q (s :: S)) : q.l.getD 0 TEntry.z = s := by
  have hne : q.l ≠ [] := fun e => by have := h.qlen; rw [e] at this; simp at this
  obtain ⟨h1, h2, _, h4⟩ := Heap.pop_spec ltE_ord hne h.ok
  have := Heap.pop_sorted ltE_eq ltE_irr h2 h4 h.perm h.sorted
  rw [← h1]; exact this.1
theorem next_f (q : Tqueue) (L : List TEntry) (h : R q L) : ∀ k, agenda_Agenda_Next.f k ⟨q⟩ = some (match L with | [] => (⟨0, 0⟩, false) | s :: _ => (s, true)) := by
  intro k
  have hql := h.qlen
  cases L with
  | nil =>
    have h0 : (q.l.length : Int) = 0 := by rw [hql]; rfl
    simp only [agenda_Agenda_Next.f, agenda_queue_Len.f, Option.bind_some, if_pos h0]
  | cons s S =>
    have hlt : q.l.length = S.length + 1 := by rw [hql]; rfl
    have h0 : ¬ (q.l.length : Int) = 0 := by omega
    have hb : (0 : Int) ≤ 0 ∧ (0 : Int) < (q.l.length : Int) := by omega
    have := h.head
    simp only [agenda_Agenda_Next.f, agenda_queue_Len.f, Option.bind_some, if_neg h0, Int.toNat_zero, this]
    exact if_pos ⟨Nat.le_refl _, by omega⟩
theorem pop_R (q : Tqueue) (s : TEntry) (S : List TEntry) (h : R q (s :: S)) : ∃ q', Ev (fun k => heap_Pop.f k q) (s, q') ∧ R q' S := by
  have hql := h.qlen
  have hlen := h.len
  rw [List.length_cons] at hql hlen
  have hne : q.l ≠ [] := fun e => by rw [e] at hql; simp at hql
  obtain ⟨q', hp, hl, hpl⟩ := pop_f q h.place (by omega) (by omega) h.ok
  obtain ⟨h1, h2, h3, h4⟩ := Heap.pop_spec ltE_ord hne h.ok
  have hx := Heap.pop_sorted ltE_eq ltE_irr h2 h4 h.perm h.sorted
  rw [hx.1] at hp
  exact ⟨q', hp, by rw [hl]; exact h3, hpl, by rw [hl]; exact hx.2, (List.pairwise_cons.1 h.sorted).2, by omega⟩
theorem due_l1 (now : Int) : ∀ (L : List TEntry) (q : Tqueue) (acc : List TEntry), R q L → acc.length + L.length ≤ 4096 →
    ∃ q', Ev (fun k => agenda_Agenda_Due.l1 k now acc (match L with | [] => (⟨0, 0⟩ : TEntry) | s :: _ => s) (match L with | [] => false | _ :: _ => true) ⟨q⟩) (acc ++ L.takeWhile (fun x => decide (x.At ≤ now)), ⟨q'⟩) ∧ R q' (L.dropWhile fun x => decide (x.At ≤ now)) := by
  intro L
  induction L with
  | nil =>
    intro q acc h _
    exact ⟨q, Ev.succ ((Ev.pure _).congr fun k => by simp [agenda_Agenda_Due.l1]), h⟩
  | cons s S ih =>
    intro q acc h hlen
    rw [List.length_cons] at hlen
    by_cases hd : s.At ≤ now
    · obtain ⟨q1, hp, h1⟩ := pop_R q s S h
      have hlim : (acc.length + 1) * 16 ≤ 140737488355328 := by omega
      obtain ⟨q', hE, hR⟩ := ih q1 (acc ++ [s]) h1 (by rw [List.length_append, List.length_singleton]; omega)
      refine ⟨q', ?_, by rw [List.dropWhile_cons, if_pos (by simpa using hd)]; exact hR⟩
      rw [List.takeWhile_cons, if_pos (by simpa using hd)]
      rw [List.append_assoc, List.singleton_append] at hE
      refine Ev.succ (Ev.congr (Ev.bind (g := fun k (x : TEntry × Tqueue) => if (acc.length + 1) * 16 ≤ 140737488355328 then ((agenda_Agenda_Next.f k (⟨x.2⟩ : TAgenda)).bind fun y => agenda_Agenda_Due.l1 k now (acc ++ [x.1]) y.1 y.2 (⟨x.2⟩ : TAgenda)) else none) hp (Ev.iteT hlim (hE.congr fun k => ?_))) fun k => ?_)
      · simp only [next_f q1 S h1 k, Option.bind_some]
        cases S <;> rfl
      · simp only [agenda_Agenda_Due.l1, if_true, Option.bind_some, decide_eq_true hd]
    · refine ⟨q, Ev.succ ((Ev.pure _).congr fun k => ?_), by rw [List.dropWhile_cons, if_neg (by simpa using hd)]; exact h⟩
      rw [List.takeWhile_cons, if_neg (by simpa using hd), List.append_nil]
      simp only [agenda_Agenda_Due.l1, if_true, Option.bind_some, decide_eq_false hd, Bool.false_eq_true, if_false]
theorem due_f (now : Int) (q : Tqueue) (L : List TEntry) (h : R q L) : ∃ q', Ev (fun k => agenda_Agenda_Due.f k ⟨q⟩ now) (L.takeWhile (fun x => decide (x.At ≤ now)), ⟨q'⟩) ∧ R q' (L.dropWhile fun x => decide (x.At ≤ now)) := by
  obtain ⟨q', hE, hR⟩ := due_l1 now L q [] h (by simpa using h.len)
  refine ⟨q', Ev.congr (Ev.bind (g := fun _ (x : List TEntry × TAgenda) => some (x.1, x.2)) hE (Ev.pure _)) fun k => ?_, hR⟩
  simp only [agenda_Agenda_Due.f, next_f q L h k, Option.bind_some]
  cases L <;> rfl
theorem len_f (q : Tqueue) (L : List TEntry) (h : R q L) (k : Nat) : agenda_Agenda_Len.f k ⟨q⟩ = some (L.length : Int) := by
  simp only [agenda_Agenda_Len.f, agenda_queue_Len.f, Option.bind_some, h.qlen]
end Go.Proofs.Ytnoocbdpkddpbaa.Pure
