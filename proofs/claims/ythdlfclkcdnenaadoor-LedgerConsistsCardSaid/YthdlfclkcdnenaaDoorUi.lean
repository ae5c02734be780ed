/- Plain laws of ledgers: what is told of the first n; ledgers that are made. -/
import Derived.Test.YthdlfclkcdnenaaDoorUc
import Derived.Test.YthdlfclkcdnenaaDoorUh
set_option linter.unusedSimpArgs false
set_option linter.unusedVariables false
namespace Go.Proofs.YthdlfclkcdnenaaDoor.Pure
open Go.WG Go.Proofs.YthdlfclkcdnenaaDoor
/-- Short leaves. -/
def AllS (L : List (List Int)) : Prop := ∀ b ∈ L, b.length ≤ 4096
theorem AllS.all {L : List (List Int)} (h : AllS L) : AllD (L.map leafD) := fun d hd => by
  obtain ⟨b, hb, rfl⟩ := List.mem_map.1 hd
  exact leafD_len b (Nat.le_trans (h b hb) (by decide))
theorem head_f (L : List (List Int)) (n : Nat) (hn : n ≤ L.length) (hL : L.length ≤ 4096) (hs : AllS L) : Ev (fun k => ledger_Ledger_Head.f k (ledgerOf L) (n : Int)) (⟨(n : Int), rootD ((L.map leafD).take n)⟩, 0) := by
  have hr := root_f ((L.map leafD).take n) (by rw [List.length_take]; omega) (hs.all.take n)
  refine Ev.congr (Ev.bind (g := fun _ r36 => some ((⟨(n : Int), r36⟩ : THead), (0 : Int))) hr (Ev.pure _)) fun k => ?_
  simp only [ledger_Ledger_Head.f, part_f k L n hn, Option.bind_some, if_true]
theorem linclude_f (L : List (List Int)) (i n : Nat) (hi : i < n) (hn : n ≤ L.length) (hL : L.length ≤ 256) (hs : AllS L) : Ev (fun k => ledger_Ledger_Include.f k (ledgerOf L) (i : Int) (n : Int)) (incD ((L.map leafD).take n) i, 0) := by
  have hr := include_f ((L.map leafD).take n) i (by rw [List.length_take, List.length_map]; omega) (by rw [List.length_take, List.length_map]; omega) (hs.all.take n)
  refine Ev.congr (Ev.bind (g := fun _ (x : List (List Int) × Int) => some (x.1, x.2)) hr (Ev.pure _)) fun k => ?_
  simp only [ledger_Ledger_Include.f, part_f k L n hn, Option.bind_some, if_true]
theorem linclude_bad (k : Nat) (L : List (List Int)) (i : Int) (n : Nat) (hi : i < 0 ∨ (n : Int) ≤ i) (hn : n ≤ L.length) : ledger_Ledger_Include.f k (ledgerOf L) i (n : Int) = some ([], 1) := by
  have hl : ((L.map leafD).take n).length = n := by rw [List.length_take, List.length_map]; omega
  simp only [ledger_Ledger_Include.f, part_f k L n hn, Option.bind_some, if_true]
  rw [include_bad k _ i (by rw [hl]; exact hi)]
  rfl
theorem lconsist_f (L : List (List Int)) (m n : Nat) (hm : m ≤ n) (hn : n ≤ L.length) (hL : L.length ≤ 256) (hs : AllS L) : Ev (fun k => ledger_Ledger_Consist.f k (ledgerOf L) (m : Int) (n : Int)) (conD ((L.map leafD).take n) m, 0) := by
  have hr := consist_f ((L.map leafD).take n) m (by rw [List.length_take, List.length_map]; omega) (by rw [List.length_take, List.length_map]; omega) (hs.all.take n)
  refine Ev.congr (Ev.bind (g := fun _ (x : List (List Int) × Int) => some (x.1, x.2)) hr (Ev.pure _)) fun k => ?_
  simp only [ledger_Ledger_Consist.f, part_f k L n hn, Option.bind_some, if_true]
theorem lconsist_bad (k : Nat) (L : List (List Int)) (m : Int) (n : Nat) (hm : m < 0 ∨ (n : Int) < m) (hn : n ≤ L.length) : ledger_Ledger_Consist.f k (ledgerOf L) m (n : Int) = some ([], 1) := by
  have hl : ((L.map leafD).take n).length = n := by rw [List.length_take, List.length_map]; omega
  simp only [ledger_Ledger_Consist.f, part_f k L n hn, Option.bind_some, if_true]
  rw [consist_bad k _ m (by rw [hl]; exact hm)]
  rfl
theorem lleaf_f (k : Nat) (L : List (List Int)) (i : Nat) (hi : i < L.length) (hs : AllS L) : ledger_Ledger_Leaf.f k (ledgerOf L) (i : Int) = some (L.getD i [], 0) := by
  have g1 : ¬ (i : Int) < 0 := by omega
  have g2 : decide ((i : Int) ≥ (L.length : Int)) = false := decide_eq_false (by omega)
  have g3 : 0 ≤ (i : Int) ∧ (i : Int) < (L.length : Int) := by omega
  have hg : (L.getD i []).length ≤ 4096 := hs _ (by rw [List.getD_eq_getElem?_getD, List.getElem?_eq_getElem hi, Option.getD_some]; exact List.getElem_mem hi)
  have g4 : (L.getD i []).length * 1 ≤ 140737488355328 := by omega
  show (if (i : Int) < 0 then some true else some (decide ((i : Int) ≥ (L.length : Int)))).bind _ = _
  rw [if_neg g1, g2]
  simp only [Option.bind_some, Bool.false_eq_true, if_false, Int.toNat_natCast]
  show (if 0 ≤ (i : Int) ∧ (i : Int) < (L.length : Int) then if (L.getD i []).length * 1 ≤ 140737488355328 then some (L.getD i [], (0 : Int)) else none else none) = _
  rw [if_pos g3, if_pos g4]
theorem own9_f (k : Nat) (b : List Int) (h : b.length ≤ 140737488355328) : juratlaw09_own.f k b = some b := by
  simp only [juratlaw09_own.f]
  rw [if_pos (by omega)]
/-- Ledgers that are made: of all leaves, or of those ahead of one that is too long. -/
theorem made_l1 (a0 : List (List Int)) (hb : a0.length ≤ 100) (hr : ∀ b ∈ a0, b.length ≤ 140737488355328) : ∀ (m j : Nat) (L : List (List Int)), a0.length - j = m → j ≤ a0.length → L.length ≤ j → AllS L →
    (AllS (L ++ a0.drop j) ∧ Ev (fun k => juratlaw09_made.l1 k a0 (j : Int) (ledgerOf L)) (Sum.inl (ledgerOf (L ++ a0.drop j)))) ∨ ∃ L', Ev (fun k => juratlaw09_made.l1 k a0 (j : Int) (ledgerOf L)) (Sum.inr (ledgerOf L', false)) := by
  intro m
  induction m with
  | zero =>
    intro j L hm hj hl hs
    rw [List.drop_eq_nil_of_le (by omega), List.append_nil]
    refine .inl ⟨hs, Ev.succ ((Ev.pure _).congr fun k => ?_)⟩
    have : ¬ (j : Int) < (a0.length : Int) := by omega
    simp only [juratlaw09_made.l1, if_neg this]
  | succ m ih =>
    intro j L hm hj hl hs
    have hlt : j < a0.length := by omega
    have h1 : (j : Int) < (a0.length : Int) := by omega
    have h2 : 0 ≤ (j : Int) ∧ (j : Int) < (a0.length : Int) := by omega
    have hd : a0.drop j = a0.getD j [] :: a0.drop (j + 1) := by
      rw [List.getD_eq_getElem?_getD, List.getElem?_eq_getElem hlt, Option.getD_some]
      exact List.drop_eq_getElem_cons hlt
    have hmem : a0.getD j [] ∈ a0 := by rw [List.getD_eq_getElem?_getD, List.getElem?_eq_getElem hlt, Option.getD_some]; exact List.getElem_mem hlt
    by_cases hlong : (a0.getD j []).length > 500
    · refine .inr ⟨L, Ev.succ ((Ev.pure _).congr fun k => ?_)⟩
      have g1 : ((a0.getD j []).length : Int) > 500 := by omega
      simp only [juratlaw09_made.l1, if_pos h1, if_pos h2, Int.toNat_natCast, if_pos g1]
    · have g1 : ¬ ((a0.getD j []).length : Int) > 500 := by omega
      have ha := append_f L (a0.getD j []) (by omega)
      rw [if_neg (by omega), if_neg (by omega)] at ha
      have hs2 : AllS (L ++ [a0.getD j []]) := fun b hb' => by
        rcases List.mem_append.1 hb' with h | h
        · exact hs b h
        · rw [List.mem_singleton.1 h]; omega
      have step : ∀ r, Ev (fun k => juratlaw09_made.l1 k a0 ((j + 1 : Nat) : Int) (ledgerOf (L ++ [a0.getD j []]))) r → Ev (fun k => juratlaw09_made.l1 k a0 (j : Int) (ledgerOf L)) r := fun r hr' => by
        refine Ev.succ (Ev.congr (Ev.bind (g := fun k (x : Int × Int × TLedger) => juratlaw09_made.l1 k a0 (wi64 ((j : Int) + 1)) x.2.2) ha (hr'.congr fun k => ?_)) fun k => ?_)
        · simp only [wi64_succ (show j < 9223372036854775807 by omega)]
        · simp only [juratlaw09_made.l1, if_pos h1, if_pos h2, Int.toNat_natCast, if_neg g1, own9_f k _ (hr _ hmem), Option.bind_some]
      rcases ih (j + 1) (L ++ [a0.getD j []]) (by omega) (by omega) (by rw [List.length_append, List.length_singleton]; omega) hs2 with ⟨q1, q2⟩ | ⟨L', q⟩
      · rw [List.append_assoc, List.singleton_append, ← hd] at q1 q2
        exact .inl ⟨q1, step _ q2⟩
      · exact .inr ⟨L', step _ q⟩
theorem made_f (a0 : List (List Int)) (hr : ∀ b ∈ a0, b.length ≤ 140737488355328) :
    (a0.length ≤ 100 ∧ AllS a0 ∧ Ev (fun k => juratlaw09_made.f k a0) (ledgerOf a0, true)) ∨ ∃ L', Ev (fun k => juratlaw09_made.f k a0) (ledgerOf L', false) := by
  by_cases hb : a0.length ≤ 100
  · rcases made_l1 a0 hb hr a0.length 0 [] rfl (Nat.zero_le _) (Nat.le_refl _) (fun b hb => absurd hb (by simp)) with ⟨q1, q2⟩ | ⟨L', q⟩
    · rw [List.drop_zero, List.nil_append] at q1 q2
      refine .inl ⟨hb, q1, Ev.congr (Ev.bind (g := fun _ o_ => sumE o_ (fun x226 => some (x226, true)) (fun p_ => some p_)) q2 (Ev.pure _)) fun k => ?_⟩
      have g1 : ¬ (a0.length : Int) > 100 := by omega
      simp only [juratlaw09_made.f, ledgerOf_nil, Option.bind_some, if_neg g1]
      rfl
    · refine .inr ⟨L', Ev.congr (Ev.bind (g := fun _ o_ => sumE o_ (fun x226 => some (x226, true)) (fun p_ => some p_)) q (Ev.pure _)) fun k => ?_⟩
      have g1 : ¬ (a0.length : Int) > 100 := by omega
      simp only [juratlaw09_made.f, ledgerOf_nil, Option.bind_some, if_neg g1]
      rfl
  · refine .inr ⟨[], (Ev.pure _).congr fun k => ?_⟩
    have g1 : (a0.length : Int) > 100 := by omega
    simp only [juratlaw09_made.f, ledgerOf_nil, Option.bind_some, if_pos g1]
end Go.Proofs.YthdlfclkcdnenaaDoor.Pure
namespace Go.Proofs.YthdlfclkcdnenaaDoor.Pure
open Go.WG Go.Proofs.YthdlfclkcdnenaaDoor
theorem pickI (a : Int) {n : Nat} (h0 : 0 < n) (hn : n ≤ 1000000) : ∃ i : Nat, i < n ∧ wi64 ((wu64 a).tmod (wu64 (n : Int))) = (i : Int) := by
  have e1 : wu64 (n : Int) = (n : Int) := by rw [wu64_eq]; omega
  have e2 : 0 ≤ wu64 a := by rw [wu64_eq]; omega
  have e3 : (wu64 a).tmod (n : Int) = wu64 a % (n : Int) := Int.tmod_eq_emod_of_nonneg e2
  have e4 : 0 ≤ wu64 a % (n : Int) := Int.emod_nonneg _ (by omega)
  have e5 : wu64 a % (n : Int) < (n : Int) := Int.emod_lt_of_pos _ (by omega)
  refine ⟨(wu64 a % (n : Int)).toNat, by omega, ?_⟩
  rw [e1, e3, wi64_id (by omega) (by omega)]
  omega
theorem wu64_pos {n : Nat} (h0 : 0 < n) (hn : n ≤ 1000000) : wu64 (n : Int) ≠ 0 := by rw [wu64_eq]; omega
theorem reach28 {b : List Int} (h : b.length * 1 ≤ reachBytes) : b.length ≤ 140737488355328 := by
  have : reachBytes ≤ 140737488355328 := by decide
  omega
end Go.Proofs.YthdlfclkcdnenaaDoor.Pure
