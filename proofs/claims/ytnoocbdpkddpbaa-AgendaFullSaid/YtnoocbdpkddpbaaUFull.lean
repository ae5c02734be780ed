/- The law AgendaFull, as a plain function: true for every input. -/
import Derived.Test.YtnoocbdpkddpbaaUf
import Derived.Test.YtnoocbdpkddpbaaUw
import Derived.Test.YtnoocbdpkddpbaaPFull
set_option linter.unusedSimpArgs false
set_option linter.unusedVariables false
namespace Go.Proofs.Ytnoocbdpkddpbaa.Pure
open Go.WG Go.Proofs.Ytnoocbdpkddpbaa
theorem full_l1 (n : Nat) (hn : n ≤ 4200) : ∀ (m j : Nat) (q : Tqueue) (L : List TEntry), n - j = m → j ≤ n → R q L → L.length = min j 4096 → (∀ id, hasId id L = true ↔ 0 ≤ id ∧ id < ((min j 4096 : Nat) : Int)) →
    ∃ q' L', Ev (fun k => juratlaw13_AgendaFull.l1 k (n : Int) (j : Int) ⟨q⟩) (Sum.inl ⟨q'⟩) ∧ R q' L' ∧ L'.length = min n 4096 ∧ (∀ id, hasId id L' = true ↔ 0 ≤ id ∧ id < ((min n 4096 : Nat) : Int)) := by
  intro m
  induction m with
  | zero =>
    intro j q L hm hj h hl hi
    have hj' : j = n := by omega
    subst hj'
    refine ⟨q, L, Ev.succ ((Ev.pure _).congr fun k => ?_), h, hl, hi⟩
    have : ¬ (j : Int) < (j : Int) := by omega
    simp only [juratlaw13_AgendaFull.l1, if_neg this]
  | succ m ih =>
    intro j q L hm hj h hl hi
    have h1 : (j : Int) < (n : Int) := by omega
    obtain ⟨x1, q1, hE1, hR1, hx⟩ := put_any q L h (⟨wi64 ((n : Int) - (j : Int)), (j : Int)⟩ : TEntry)
    have hno : hasId (j : Int) L = false := by
      cases hh : hasId (j : Int) L with
      | false => rfl
      | true => have := (hi j).1 hh; omega
    have hok : x1 = 0 ↔ j < 4096 := by
      rw [hx]
      simp only [hno, Bool.false_eq_true, false_or]
      omega
    have hstep : (stepL L (⟨wi64 ((n : Int) - (j : Int)), (j : Int)⟩ : TEntry)).length = min (j + 1) 4096 ∧ ∀ id, hasId id (stepL L (⟨wi64 ((n : Int) - (j : Int)), (j : Int)⟩ : TEntry)) = true ↔ 0 ≤ id ∧ id < ((min (j + 1) 4096 : Nat) : Int) := by
      unfold stepL
      by_cases hj4 : j < 4096
      · rw [if_pos (.inr (by omega))]
        refine ⟨?_, fun id => ?_⟩
        · rw [putL_len, noId_none hno]; omega
        · rw [hasId_putL, hi]
          simp only
          omega
      · rw [if_neg (by simp only [hno, Bool.false_eq_true, false_or]; omega)]
        refine ⟨by omega, fun id => ?_⟩
        rw [hi]; omega
    obtain ⟨q', L', hI, hq, hl', hi'⟩ := ih (j + 1) q1 _ (by omega) (by omega) hR1 hstep.1 hstep.2
    refine ⟨q', L', Ev.succ (Ev.congr (Ev.bind (g := fun k (x : Int × TAgenda) => if (decide (x.1 = 0)) = (decide ((j : Int) < 4096)) then (juratlaw13_AgendaFull.l1 k (n : Int) (wi64 ((j : Int) + 1)) x.2) else (some (Sum.inr false))) hE1 (Ev.iteT ?_ (hI.congr fun k => ?_))) fun k => ?_), hq, hl', hi'⟩
    · refine decide_eq_decide.2 (hok.trans ?_)
      omega
    · simp only [wi64_succ (show j < 9223372036854775807 by omega)]
    · simp only [juratlaw13_AgendaFull.l1, if_pos h1]
theorem AgendaFull (a0 : Int) (h0 : (Lit.int .i64 a0).wf = true) : ∃ k, juratlaw13_AgendaFull.f k a0 = some true := by
  by_cases hb : (decide (a0 < 0) || decide (a0 > 4200)) = true
  · exact (Ev.iteT hb (Ev.bind (g := fun _ r => some r) awake_ev (Ev.pure _))).one
  · have hb' : 0 ≤ a0 ∧ a0 ≤ 4200 := by
      simp only [Bool.or_eq_true, decide_eq_true_eq, not_or] at hb
      omega
    obtain ⟨n, rfl⟩ : ∃ n : Nat, a0 = (n : Int) := ⟨a0.toNat, by omega⟩
    obtain ⟨q, L, hE, hR, hl, hi⟩ := full_l1 n (by omega) n 0 ⟨[], []⟩ [] rfl (Nat.zero_le _) R.empty rfl (fun id => by simp [hasId])
    have hmin : (if (4096 : Int) < (n : Int) then (4096 : Int) else (n : Int)) = ((min n 4096 : Nat) : Int) := by split <;> omega
    have hfin : Ev (fun k => (if (n : Int) = 0 then ((agenda_Agenda_Len.f k ⟨q⟩).bind fun r258 => if r258 = (if 4096 < (n : Int) then 4096 else (n : Int)) then ((juratlaw13_awake.f k ).bind fun r263 => some (r263, (⟨q⟩ : TAgenda))) else (some (false, ⟨q⟩))) else ((agenda_Agenda_Put.f k ⟨q⟩ (⟨(-1), 0⟩ : TEntry)).bind fun x => if x.1 = 0 then ((agenda_Agenda_Len.f k x.2).bind fun r291 => if r291 = (if 4096 < (n : Int) then 4096 else (n : Int)) then ((juratlaw13_awake.f k ).bind fun r296 => some (r296, x.2)) else (some (false, x.2))) else (some (false, x.2)))).bind fun x => some x.1) true := by
      by_cases hz : (n : Int) = 0
      · refine Ev.bind (g := fun _ (x : Bool × TAgenda) => some x.1) (Ev.iteT hz (Ev.congr (Ev.bind (g := fun _ r => some (r, (⟨q⟩ : TAgenda))) awake_ev (Ev.pure _)) fun k => ?_)) (Ev.pure true)
        simp only [len_f q L hR k, Option.bind_some, hmin, hl, if_true]
      · obtain ⟨x1, q1, hE1, hR1, hx⟩ := put_any q L hR (⟨-1, 0⟩ : TEntry)
        have hh : hasId 0 L = true := (hi 0).2 (by omega)
        have hx0 : x1 = 0 := hx.2 (.inl hh)
        have hlen : (stepL L (⟨-1, 0⟩ : TEntry)).length = L.length := by
          unfold stepL
          rw [if_pos (.inl hh), putL_len, noId_len_eq hR.nodup hh]
        subst hx0
        refine Ev.bind (g := fun _ (x : Bool × TAgenda) => some x.1) (Ev.iteF hz (Ev.bind (g := fun k (x : Int × TAgenda) => if x.1 = 0 then ((agenda_Agenda_Len.f k x.2).bind fun r291 => if r291 = (if 4096 < (n : Int) then 4096 else (n : Int)) then ((juratlaw13_awake.f k ).bind fun r296 => some (r296, x.2)) else (some (false, x.2))) else (some (false, x.2))) hE1 (Ev.iteT rfl (Ev.congr (Ev.bind (g := fun _ r => some (r, (⟨q1⟩ : TAgenda))) awake_ev (Ev.pure _)) fun k => ?_)))) (Ev.pure true)
        simp only [len_f q1 _ hR1 k, Option.bind_some, hmin, hlen, hl, if_true]
    have : Ev (fun k => juratlaw13_AgendaFull.f k (n : Int)) true :=
      Ev.iteF hb (Ev.congr (Ev.bind (g := fun k o_ => sumE o_ (fun (y : TAgenda) => (if (n : Int) = 0 then ((agenda_Agenda_Len.f k y).bind fun r258 => if r258 = (if 4096 < (n : Int) then 4096 else (n : Int)) then ((juratlaw13_awake.f k ).bind fun r263 => some (r263, y)) else (some (false, y))) else ((agenda_Agenda_Put.f k y (⟨(-1), 0⟩ : TEntry)).bind fun x => if x.1 = 0 then ((agenda_Agenda_Len.f k x.2).bind fun r291 => if r291 = (if 4096 < (n : Int) then 4096 else (n : Int)) then ((juratlaw13_awake.f k ).bind fun r296 => some (r296, x.2)) else (some (false, x.2))) else (some (false, x.2)))).bind fun x => some x.1) (fun p_ => some p_)) hE hfin) fun k => rfl)
    exact this.one
end Go.Proofs.Ytnoocbdpkddpbaa.Pure
