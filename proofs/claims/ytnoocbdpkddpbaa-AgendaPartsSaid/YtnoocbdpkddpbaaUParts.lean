/- The law AgendaParts, as a plain function: true for every input. -/
import Derived.Test.YtnoocbdpkddpbaaUf
import Derived.Test.YtnoocbdpkddpbaaUw
import Derived.Test.YtnoocbdpkddpbaaPParts
set_option linter.unusedSimpArgs false
set_option linter.unusedVariables false
namespace Go.Proofs.Ytnoocbdpkddpbaa.Pure
open Go.WG Go.Proofs.Ytnoocbdpkddpbaa
theorem parts_l1 (a0 : List TEntry) (hb : a0.length ≤ 100) : ∀ (m j : Nat) (q r : Tqueue) (L : List TEntry), a0.length - j = m → j ≤ a0.length → R q L → R r L →
    ∃ q' r' L', Ev (fun k => juratlaw13_AgendaParts.l1 k a0 (j : Int) ⟨q⟩ ⟨r⟩) (⟨q'⟩, ⟨r'⟩) ∧ R q' L' ∧ R r' L' := by
  intro m
  induction m with
  | zero =>
    intro j q r L hm hj h h'
    refine ⟨q, r, L, Ev.succ ((Ev.pure _).congr fun k => ?_), h, h'⟩
    have : ¬ (j : Int) < (a0.length : Int) := by omega
    simp only [juratlaw13_AgendaParts.l1, if_neg this]
  | succ m ih =>
    intro j q r L hm hj h h'
    have h1 : (j : Int) < (a0.length : Int) := by omega
    have h2 : 0 ≤ (j : Int) ∧ (j : Int) < (a0.length : Int) := by omega
    obtain ⟨x1, q1, hE1, hR1, _⟩ := put_any q L h (a0.getD j TEntry.z)
    obtain ⟨x2, q2, hE2, hR2, _⟩ := put_any r L h' (a0.getD j TEntry.z)
    obtain ⟨q', r', L', hI, hq, hr⟩ := ih (j + 1) q1 q2 _ (by omega) (by omega) hR1 hR2
    refine ⟨q', r', L', Ev.succ (Ev.congr (Ev.bind (g := fun k (x : Int × TAgenda) => (agenda_Agenda_Put.f k ⟨r⟩ (a0.getD j TEntry.z)).bind fun y => juratlaw13_AgendaParts.l1 k a0 (wi64 ((j : Int) + 1)) x.2 y.2) hE1 (Ev.bind (g := fun k (y : Int × TAgenda) => juratlaw13_AgendaParts.l1 k a0 (wi64 ((j : Int) + 1)) ⟨q1⟩ y.2) hE2 (hI.congr fun k => ?_))) fun k => ?_), hq, hr⟩
    · simp only [wi64_succ (show j < 9223372036854775807 by omega)]
    · simp only [juratlaw13_AgendaParts.l1, if_pos h1, if_pos h2, Int.toNat_natCast]
theorem AgendaParts (a0 : List TEntry) (a1 : Int) (a2 : Int) (h0 : ok22 a0) (h1 : (Lit.int .i64 a1).wf = true) (h2 : (Lit.int .i64 a2).wf = true) : ∃ k, juratlaw13_AgendaParts.f k a0 a1 a2 = some true := by
  by_cases hb : (decide ((a0.length : Int) > 100) || decide (a1 > a2)) = true
  · exact (Ev.iteT hb (Ev.bind (g := fun _ r => some r) awake_ev (Ev.pure _))).one
  · have hb' : a0.length ≤ 100 ∧ a1 ≤ a2 := by
      simp only [Bool.or_eq_true, decide_eq_true_eq, not_or] at hb
      omega
    obtain ⟨q, r, L, hE, hq, hr⟩ := parts_l1 a0 hb'.1 a0.length 0 ⟨[], []⟩ ⟨[], []⟩ [] rfl (Nat.zero_le _) R.empty R.empty
    obtain ⟨q1, hd1, hR1⟩ := due_f a1 q L hq
    obtain ⟨q2, hd2, hR2⟩ := due_f a2 q1 _ hR1
    obtain ⟨r1, hd3, hR3⟩ := due_f a2 r L hr
    obtain ⟨t1, t2⟩ := takeWhile_two (fun x : TEntry => decide (x.At ≤ a1)) (fun x => decide (x.At ≤ a2)) (fun x h => by simp only [decide_eq_true_eq] at *; omega) L
    have hl := hq.len
    have hlen : ((L.takeWhile fun x => decide (x.At ≤ a1)).length + ((L.dropWhile fun x => decide (x.At ≤ a1)).takeWhile fun x => decide (x.At ≤ a2)).length) * 16 ≤ 140737488355328 := by
      have := congrArg List.length t1
      rw [List.length_append] at this
      have h3 : (L.takeWhile fun x => decide (x.At ≤ a2)).length ≤ L.length := (List.takeWhile_sublist _).length_le
      omega
    have hs := same_f ((L.takeWhile fun x => decide (x.At ≤ a1)) ++ ((L.dropWhile fun x => decide (x.At ≤ a1)).takeWhile fun x => decide (x.At ≤ a2))) (L.takeWhile fun x => decide (x.At ≤ a2)) (by
      rw [t1]
      have h3 : (L.takeWhile fun x => decide (x.At ≤ a2)).length ≤ L.length := (List.takeWhile_sublist _).length_le
      omega) true ⟨fun _ => t1, fun _ => rfl⟩
    rw [t2] at hR2
    have hfin : Ev (fun k => ((agenda_Agenda_Due.f k ⟨r⟩ a2).bind fun x => (juratref13_Same.f k ((L.takeWhile fun x => decide (x.At ≤ a1)) ++ ((L.dropWhile fun x => decide (x.At ≤ a1)).takeWhile fun x => decide (x.At ≤ a2))) x.1).bind fun r798 => if r798 = true then ((agenda_Agenda_Len.f k ⟨q2⟩).bind fun r812 => (agenda_Agenda_Len.f k x.2).bind fun r825 => if r812 = r825 then ((juratlaw13_awake.f k ).bind fun r830 => some (r830, x.2)) else (some (false, x.2))) else (some (false, x.2))).bind fun x => some x.1) true := by
      refine Ev.bind (g := fun _ (x : Bool × TAgenda) => some x.1) (Ev.bind (g := fun k (x : List TEntry × TAgenda) => (juratref13_Same.f k ((L.takeWhile fun x => decide (x.At ≤ a1)) ++ ((L.dropWhile fun x => decide (x.At ≤ a1)).takeWhile fun x => decide (x.At ≤ a2))) x.1).bind fun r798 => if r798 = true then ((agenda_Agenda_Len.f k ⟨q2⟩).bind fun r812 => (agenda_Agenda_Len.f k x.2).bind fun r825 => if r812 = r825 then ((juratlaw13_awake.f k ).bind fun r830 => some (r830, x.2)) else (some (false, x.2))) else (some (false, x.2))) hd3 (Ev.bind (g := fun k r798 => if r798 = true then ((agenda_Agenda_Len.f k ⟨q2⟩).bind fun r812 => (agenda_Agenda_Len.f k ⟨r1⟩).bind fun r825 => if r812 = r825 then ((juratlaw13_awake.f k ).bind fun r830 => some (r830, (⟨r1⟩ : TAgenda))) else (some (false, ⟨r1⟩))) else (some (false, ⟨r1⟩))) hs (Ev.iteT rfl (Ev.congr (Ev.bind (g := fun _ r830 => some (r830, (⟨r1⟩ : TAgenda))) awake_ev (Ev.pure _)) fun k => ?_)))) (Ev.pure true)
      simp only [len_f q2 _ hR2 k, len_f r1 _ hR3 k, Option.bind_some, if_true]
    have : Ev (fun k => juratlaw13_AgendaParts.f k a0 a1 a2) true := by
      refine Ev.iteF hb ?_
      refine Ev.congr (Ev.bind (g := fun k (x : TAgenda × TAgenda) => (agenda_Agenda_Due.f k x.1 a1).bind fun y => (agenda_Agenda_Due.f k y.2 a2).bind fun z => if (y.1.length + z.1.length) * 16 ≤ 140737488355328 then ((agenda_Agenda_Due.f k x.2 a2).bind fun u => (juratref13_Same.f k (y.1 ++ z.1) u.1).bind fun r798 => if r798 = true then ((agenda_Agenda_Len.f k z.2).bind fun r812 => (agenda_Agenda_Len.f k u.2).bind fun r825 => if r812 = r825 then ((juratlaw13_awake.f k ).bind fun r830 => some (r830, u.2)) else (some (false, u.2))) else (some (false, u.2))).bind fun x => some x.1 else none) hE
        (Ev.bind (g := fun k (y : List TEntry × TAgenda) => (agenda_Agenda_Due.f k y.2 a2).bind fun z => if (y.1.length + z.1.length) * 16 ≤ 140737488355328 then ((agenda_Agenda_Due.f k ⟨r⟩ a2).bind fun u => (juratref13_Same.f k (y.1 ++ z.1) u.1).bind fun r798 => if r798 = true then ((agenda_Agenda_Len.f k z.2).bind fun r812 => (agenda_Agenda_Len.f k u.2).bind fun r825 => if r812 = r825 then ((juratlaw13_awake.f k ).bind fun r830 => some (r830, u.2)) else (some (false, u.2))) else (some (false, u.2))).bind fun x => some x.1 else none) hd1
          (Ev.bind (g := fun k (z : List TEntry × TAgenda) => if ((L.takeWhile fun x => decide (x.At ≤ a1)).length + z.1.length) * 16 ≤ 140737488355328 then ((agenda_Agenda_Due.f k ⟨r⟩ a2).bind fun u => (juratref13_Same.f k ((L.takeWhile fun x => decide (x.At ≤ a1)) ++ z.1) u.1).bind fun r798 => if r798 = true then ((agenda_Agenda_Len.f k z.2).bind fun r812 => (agenda_Agenda_Len.f k u.2).bind fun r825 => if r812 = r825 then ((juratlaw13_awake.f k ).bind fun r830 => some (r830, u.2)) else (some (false, u.2))) else (some (false, u.2))).bind fun x => some x.1 else none) hd2 (Ev.iteT hlen hfin)))) fun k => rfl
    exact this.one
end Go.Proofs.Ytnoocbdpkddpbaa.Pure
