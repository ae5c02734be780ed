/- The law AgendaPlays, as a plain function: true for every input. -/
import Derived.Test.YtnoocbdpkddpbaaUe
import Derived.Test.YtnoocbdpkddpbaaUw
import Derived.Test.YtnoocbdpkddpbaaPPlays
set_option linter.unusedSimpArgs false
set_option linter.unusedVariables false
namespace Go.Proofs.Ytnoocbdpkddpbaa.Pure
open Go.WG Go.Proofs.Ytnoocbdpkddpbaa
theorem at_unique {L : List TEntry} (hn : (L.map (·.ID)).Nodup) {x y : TEntry} (hx : x ∈ L) (hy : y ∈ L) (he : x.ID = y.ID) : x = y := by
  induction L with
  | nil => exact absurd hx (by simp)
  | cons z L ih =>
    rw [List.map_cons, List.nodup_cons] at hn
    rcases List.mem_cons.1 hx with e1 | h1
    · rcases List.mem_cons.1 hy with e2 | h2
      · rw [e1, e2]
      · exact absurd (List.mem_map.2 ⟨y, h2, by rw [← he, e1]⟩) hn.1
    · rcases List.mem_cons.1 hy with e2 | h2
      · exact absurd (List.mem_map.2 ⟨x, h1, by rw [he, e2]⟩) hn.1
      · exact ih hn.2 h1 h2
/-- One call: the answers are the same, and the state is as the document's. -/
theorem play_step (c : TCall) (q : Tqueue) (L : List TEntry) (h : R q L) : ∃ q' L', R q' L' ∧
    Ev (fun k => (if (c.Kind) = 0 then ((agenda_Agenda_Put.f k ⟨q⟩ (⟨c.At, c.ID⟩ : TEntry)).bind fun x => (juratref13_Agenda_Put.f k ⟨L⟩ (⟨c.At, c.ID⟩ : TEntry)).bind fun y => some (decide (x.1 = y.1), x.2, y.2)) else (if (c.Kind) = 1 then ((agenda_Agenda_Drop.f k ⟨q⟩ (c.ID)).bind fun x => (juratref13_Agenda_Drop.f k ⟨L⟩ (c.ID)).bind fun y => some (decide (x.1 = y.1), x.2, y.2)) else (if (c.Kind) = 2 then ((agenda_Agenda_At.f k ⟨q⟩ (c.ID)).bind fun x => (juratref13_Agenda_At.f k ⟨L⟩ (c.ID)).bind fun y => some ((decide (x.1 = y.1)) && (decide (x.2 = y.2)), (⟨q⟩ : TAgenda), (⟨L⟩ : TAgenda_))) else (if (c.Kind) = 3 then ((agenda_Agenda_Next.f k ⟨q⟩).bind fun x => (juratref13_Agenda_Next.f k ⟨L⟩).bind fun y => some ((decide (x.1.At = y.1.At ∧ x.1.ID = y.1.ID)) && (decide (x.2 = y.2)), (⟨q⟩ : TAgenda), (⟨L⟩ : TAgenda_))) else ((agenda_Agenda_Due.f k ⟨q⟩ (c.At)).bind fun x => (juratref13_Agenda_Due.f k ⟨L⟩ (c.At)).bind fun y => (juratref13_Same.f k x.1 y.1).bind fun z => some (z, x.2, y.2))))))) (true, ⟨q'⟩, ⟨L'⟩) := by
  have hn := h.nodup
  have hl := h.len
  by_cases h0 : c.Kind = 0
  · have hp := put_f q L h ⟨c.At, c.ID⟩
    have hr := refPut_f L ⟨c.At, c.ID⟩ hl hn
    by_cases hc : hasId c.ID L = true ∨ L.length < 4096
    · rw [if_pos hc] at hp hr
      obtain ⟨q', hp, hR⟩ := hp
      refine ⟨q', _, hR, Ev.iteT h0 ?_⟩
      exact Ev.bind (g := fun k (x : Int × TAgenda) => (juratref13_Agenda_Put.f k ⟨L⟩ (⟨c.At, c.ID⟩ : TEntry)).bind fun y => some (decide (x.1 = y.1), x.2, y.2)) hp (Ev.bind (g := fun _ (y : Int × TAgenda_) => some (decide ((0 : Int) = y.1), (⟨q'⟩ : TAgenda), y.2)) hr (Ev.pure _))
    · rw [if_neg hc] at hp hr
      refine ⟨q, L, h, Ev.iteT h0 ?_⟩
      exact Ev.bind (g := fun k (x : Int × TAgenda) => (juratref13_Agenda_Put.f k ⟨L⟩ (⟨c.At, c.ID⟩ : TEntry)).bind fun y => some (decide (x.1 = y.1), x.2, y.2)) hp (Ev.bind (g := fun _ (y : Int × TAgenda_) => some (decide ((90 : Int) = y.1), (⟨q⟩ : TAgenda), y.2)) hr (Ev.pure _))
  · by_cases h1 : c.Kind = 1
    · obtain ⟨q', hp, hR⟩ := drop_f q L h c.ID
      have hr := refDrop_f L c.ID hl hn
      refine ⟨q', _, hR, Ev.iteF h0 (Ev.iteT h1 ?_)⟩
      refine Ev.bind (g := fun k (x : Bool × TAgenda) => (juratref13_Agenda_Drop.f k ⟨L⟩ (c.ID)).bind fun y => some (decide (x.1 = y.1), x.2, y.2)) hp (Ev.bind (g := fun _ (y : Bool × TAgenda_) => some (decide (hasId c.ID L = y.1), (⟨q'⟩ : TAgenda), y.2)) hr ?_)
      simp only [decide_true]
      exact Ev.pure _
    · by_cases h2 : c.Kind = 2
      · obtain ⟨⟨v, b⟩, hp, e1, e2, e3⟩ := at_f q L h c.ID
        obtain ⟨⟨v', b'⟩, hr, f1, f2, f3⟩ := refAt_f L c.ID hl
        simp only at e1 e2 e3 f1 f2 f3
        have hb : b = b' := e1.trans f1.symm
        have hv : v = v' := by
          cases hbv : b with
          | false => rw [e2 hbv, f2 (by rw [← hb, hbv])]
          | true =>
            obtain ⟨x, hx, hxi, hxa⟩ := e3 hbv
            obtain ⟨y, hy, hyi, hya⟩ := f3 (by rw [← hb, hbv])
            have := at_unique hn hx hy (hxi.trans hyi.symm)
            rw [← hxa, ← hya, this]
        subst hb; subst hv
        refine ⟨q, L, h, Ev.iteF h0 (Ev.iteF h1 (Ev.iteT h2 ?_))⟩
        refine Ev.bind (g := fun k (x : Int × Bool) => (juratref13_Agenda_At.f k ⟨L⟩ (c.ID)).bind fun y => some ((decide (x.1 = y.1)) && (decide (x.2 = y.2)), (⟨q⟩ : TAgenda), (⟨L⟩ : TAgenda_))) hp (Ev.bind (g := fun _ (y : Int × Bool) => some ((decide (v = y.1)) && (decide (b = y.2)), (⟨q⟩ : TAgenda), (⟨L⟩ : TAgenda_))) hr ?_)
        simp only [decide_true, Bool.and_self]
        exact Ev.pure _
      · by_cases h3 : c.Kind = 3
        · refine ⟨q, L, h, Ev.iteF h0 (Ev.iteF h1 (Ev.iteF h2 (Ev.iteT h3 ?_)))⟩
          refine (Ev.pure _).congr fun k => ?_
          rw [next_f q L h k, refNext_f L k]
          cases L <;> simp
        · obtain ⟨q', hp, hR⟩ := due_f c.At q L h
          have hr := refDue_f L c.At hl
          refine ⟨q', _, hR, Ev.iteF h0 (Ev.iteF h1 (Ev.iteF h2 (Ev.iteF h3 ?_)))⟩
          have htw : (L.takeWhile (fun x => decide (x.At ≤ c.At))).length ≤ L.length := (List.takeWhile_sublist _).length_le
          have hs := same_f (L.takeWhile fun x => decide (x.At ≤ c.At)) (L.takeWhile fun x => decide (x.At ≤ c.At)) (by omega) true ⟨fun _ => rfl, fun _ => rfl⟩
          exact Ev.bind (g := fun k (x : List TEntry × TAgenda) => (juratref13_Agenda_Due.f k ⟨L⟩ (c.At)).bind fun y => (juratref13_Same.f k x.1 y.1).bind fun z => some (z, x.2, y.2)) hp (Ev.bind (g := fun k (y : List TEntry × TAgenda_) => (juratref13_Same.f k (L.takeWhile fun x => decide (x.At ≤ c.At)) y.1).bind fun z => some (z, (⟨q'⟩ : TAgenda), y.2)) hr (Ev.bind (g := fun _ z => some (z, (⟨q'⟩ : TAgenda), (⟨L.dropWhile fun x => decide (x.At ≤ c.At)⟩ : TAgenda_))) hs (Ev.pure _)))
theorem plays_l1 (a0 : List TCall) (hb : a0.length ≤ 100) : ∀ (m j : Nat) (q : Tqueue) (L : List TEntry), a0.length - j = m → j ≤ a0.length → R q L →
    ∃ q' L', Ev (fun k => juratlaw13_AgendaPlays.l1 k a0 (j : Int) ⟨q⟩ ⟨L⟩) (Sum.inl (⟨q'⟩, ⟨L'⟩)) := by
  intro m
  induction m with
  | zero =>
    intro j q L hm hj h
    refine ⟨q, L, Ev.succ ((Ev.pure _).congr fun k => ?_)⟩
    have : ¬ (j : Int) < (a0.length : Int) := by omega
    simp only [juratlaw13_AgendaPlays.l1, if_neg this]
  | succ m ih =>
    intro j q L hm hj h
    have h1 : (j : Int) < (a0.length : Int) := by omega
    have h2 : 0 ≤ (j : Int) ∧ (j : Int) < (a0.length : Int) := by omega
    obtain ⟨q1, L1, hR, hE⟩ := play_step (a0.getD j TCall.z) q L h
    obtain ⟨q', L', hI⟩ := ih (j + 1) q1 L1 (by omega) (by omega) hR
    refine ⟨q', L', Ev.succ (Ev.congr (Ev.bind (g := fun k (x : Bool × TAgenda × TAgenda_) => (if x.1 = true then ((agenda_Agenda_Len.f k x.2.1).bind fun r7400 => some (!decide (r7400 = (x.2.2.L.length : Int)))) else (some (true))).bind fun g7387 => if g7387 = true then (some (Sum.inr false)) else (juratlaw13_AgendaPlays.l1 k a0 (wi64 ((j : Int) + 1)) x.2.1 x.2.2)) hE (hI.congr fun k => ?_)) fun k => ?_)⟩
    · simp only [if_true, len_f q1 L1 hR k, Option.bind_some, decide_true, Bool.not_true, Bool.false_eq_true, if_false, wi64_succ (show j < 9223372036854775807 by omega)]
    · simp only [juratlaw13_AgendaPlays.l1, if_pos h1, if_pos h2, Int.toNat_natCast]
theorem AgendaPlays (a0 : List TCall) (h0 : ok36 a0) : ∃ k, juratlaw13_AgendaPlays.f k a0 = some true := by
  by_cases hb : (a0.length : Int) > 100
  · exact (Ev.iteT hb (Ev.bind (g := fun _ r => some r) awake_ev (Ev.pure _))).one
  · obtain ⟨q', L', hE⟩ := plays_l1 a0 (by omega) a0.length 0 ⟨[], []⟩ [] rfl (Nat.zero_le _) R.empty
    have : Ev (fun k => juratlaw13_AgendaPlays.f k a0) true := by
      refine Ev.congr (Ev.iteF hb (Ev.bind (g := fun k o_ => sumE o_ (fun (x : TAgenda × TAgenda_) => (juratlaw13_awake.f k).bind fun r => some r) (fun p_ => some p_)) hE (Ev.bind (g := fun _ r => some r) awake_ev (Ev.pure _)))) fun k => rfl
    exact this.one
end Go.Proofs.Ytnoocbdpkddpbaa.Pure
