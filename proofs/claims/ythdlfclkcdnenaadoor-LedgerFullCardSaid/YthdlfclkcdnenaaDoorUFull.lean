/- The law LedgerFull, as a plain function: true for every input. -/
import Derived.Test.YthdlfclkcdnenaaDoorUc
import Derived.Test.YthdlfclkcdnenaaDoorPFull
import Derived.Test.YthdlfclkcdnenaaDoorGr
set_option linter.unusedSimpArgs false
set_option linter.unusedVariables false
namespace Go.Proofs.YthdlfclkcdnenaaDoor.Pure
open Go.WG Go.Proofs.YthdlfclkcdnenaaDoor
theorem full_l1 (n : Nat) (hn : n ≤ 4200) : ∀ (m j : Nat) (L : List (List Int)), n - j = m → j ≤ n → L.length = min j 4096 →
    ∃ L', Ev (fun k => juratlaw09_LedgerFull.l1 k (n : Int) (j : Int) (ledgerOf L)) (Sum.inl (ledgerOf L')) ∧ L'.length = min n 4096 := by
  intro m
  induction m with
  | zero =>
    intro j L hm hj hl
    have hj' : j = n := by omega
    subst hj'
    refine ⟨L, Ev.succ ((Ev.pure _).congr fun k => ?_), hl⟩
    have : ¬ (j : Int) < (j : Int) := by omega
    simp only [juratlaw09_LedgerFull.l1, if_neg this]
  | succ m ih =>
    intro j L hm hj hl
    have h1 : (j : Int) < (n : Int) := by omega
    have ha := append_f L [wu8 (j : Int)] (by omega)
    rw [if_neg (by simp)] at ha
    by_cases hj4 : j < 4096
    · rw [if_neg (by omega)] at ha
      obtain ⟨L', hI, hL'⟩ := ih (j + 1) (L ++ [[wu8 (j : Int)]]) (by omega) (by omega) (by rw [List.length_append, List.length_singleton]; omega)
      refine ⟨L', Ev.succ (Ev.congr (Ev.bind (g := fun k (x : Int × Int × TLedger) => if (((decide ((j : Int) < 4096)) && ((!decide (x.1 = (j : Int))) || (!decide (x.2.1 = 0)))) || ((decide ((j : Int) ≥ 4096)) && ((!decide (x.1 = 0)) || (!decide (x.2.1 = 90))))) = true then (some (Sum.inr false)) else (juratlaw09_LedgerFull.l1 k (n : Int) (wi64 ((j : Int) + 1)) x.2.2)) ha (Ev.iteF ?_ (hI.congr fun k => ?_))) fun k => ?_), hL'⟩
      · have e1 : (L.length : Int) = (j : Int) := by omega
        have e2 : decide ((j : Int) ≥ 4096) = false := decide_eq_false (by omega)
        simp [e1, e2]
      · simp only [wi64_succ (show j < 9223372036854775807 by omega)]
      · simp only [juratlaw09_LedgerFull.l1, if_pos h1]
    · rw [if_pos (by omega)] at ha
      obtain ⟨L', hI, hL'⟩ := ih (j + 1) L (by omega) (by omega) (by omega)
      refine ⟨L', Ev.succ (Ev.congr (Ev.bind (g := fun k (x : Int × Int × TLedger) => if (((decide ((j : Int) < 4096)) && ((!decide (x.1 = (j : Int))) || (!decide (x.2.1 = 0)))) || ((decide ((j : Int) ≥ 4096)) && ((!decide (x.1 = 0)) || (!decide (x.2.1 = 90))))) = true then (some (Sum.inr false)) else (juratlaw09_LedgerFull.l1 k (n : Int) (wi64 ((j : Int) + 1)) x.2.2)) ha (Ev.iteF ?_ (hI.congr fun k => ?_))) fun k => ?_), hL'⟩
      · have e2 : decide ((j : Int) < 4096) = false := decide_eq_false (by omega)
        simp [e2]
      · simp only [wi64_succ (show j < 9223372036854775807 by omega)]
      · simp only [juratlaw09_LedgerFull.l1, if_pos h1]
theorem LedgerFull (a0 : Int) (h0 : (Lit.int .i64 a0).wf = true) : ∃ k, juratlaw09_LedgerFull.f k a0 = some true := by
  by_cases hb : (decide (a0 < 0) || decide (a0 > 4200)) = true
  · exact (Ev.iteT hb (Ev.bind (g := fun _ r => some r) awake9_ev (Ev.pure _))).one
  · have hb' : 0 ≤ a0 ∧ a0 ≤ 4200 := by
      simp only [Bool.or_eq_true, decide_eq_true_eq, not_or] at hb
      omega
    obtain ⟨n, rfl⟩ : ∃ n : Nat, a0 = (n : Int) := ⟨a0.toNat, by omega⟩
    obtain ⟨L, hE, hl⟩ := full_l1 n (by omega) n 0 [] rfl (Nat.zero_le _) rfl
    have hmin : (L.length : Int) = (if (4096 : Int) < (n : Int) then (4096 : Int) else (n : Int)) := by split <;> omega
    have hfin : Ev (fun k => ((ledger_Ledger_Size.f k (ledgerOf L)).bind fun r488 => if r488 = (if 4096 < (n : Int) then 4096 else (n : Int)) then ((juratlaw09_awake.f k ).bind fun r493 => some r493) else (some false)).bind fun x462 => some x462) true := by
      refine Ev.congr (Ev.bind (g := fun _ x => some x) (Ev.bind (g := fun _ r => some r) awake9_ev (Ev.pure _)) (Ev.pure true)) fun k => ?_
      simp only [size_f, Option.bind_some, if_pos hmin]
    have : Ev (fun k => juratlaw09_LedgerFull.f k (n : Int)) true :=
      Ev.iteF hb (Ev.congr (Ev.bind (g := fun k o_ => sumE o_ (fun (x : TLedger) => ((ledger_Ledger_Size.f k x).bind fun r488 => if r488 = (if 4096 < (n : Int) then 4096 else (n : Int)) then ((juratlaw09_awake.f k ).bind fun r493 => some r493) else (some false)).bind fun x462 => some x462) (fun p_ => some p_)) hE hfin) fun k => rfl)
    exact this.one
end Go.Proofs.YthdlfclkcdnenaaDoor.Pure
