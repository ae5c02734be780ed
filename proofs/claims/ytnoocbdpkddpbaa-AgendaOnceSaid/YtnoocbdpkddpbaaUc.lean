/- Plain laws of agendas: what the heap's functions come to. -/
import Derived.Test.YtnoocbdpkddpbaaUb
set_option linter.unusedSimpArgs false
set_option linter.unusedVariables false
namespace Go.Proofs.Ytnoocbdpkddpbaa.Pure
open Go.WG Go.Proofs.Ytnoocbdpkddpbaa
theorem down_l1 (n : Nat) (hn63 : n ≤ 1000000000000) : ∀ (f i : Nat) (q : Tqueue), PlaceOk q.l q.place → n ≤ q.l.length → n ≤ f + i → i < n ∨ f = 0 → i ≤ n →
    ∃ q' : Tqueue, Ev (fun k => heap_down.l1 k (n : Int) (i : Int) q) (((Heap.down ltE TEntry.z f n i q.l).1 : Int), q') ∧ q'.l = (Heap.down ltE TEntry.z f n i q.l).2 ∧ PlaceOk q'.l q'.place := by
  intro f
  induction f with
  | zero =>
    intro i q hp hl hf _ hin
    have e1 : wi64 (2 * (i : Int)) = 2 * (i : Int) := wi64_id (by omega) (by omega)
    have e2 : wi64 (2 * (i : Int) + 1) = 2 * (i : Int) + 1 := wi64_id (by omega) (by omega)
    refine ⟨q, Ev.succ ((Ev.pure _).congr fun k => ?_), rfl, hp⟩
    have h1 : 2 * (i : Int) + 1 ≥ (n : Int) := by omega
    simp only [heap_down.l1, e1, e2, decide_eq_true h1, Bool.true_or, if_true, Heap.down]
  | succ f ih =>
    intro i q hp hl hf hfi hin
    have hin' : i < n := by omega
    have e1 : wi64 (2 * (i : Int)) = 2 * (i : Int) := wi64_id (by omega) (by omega)
    have e2 : wi64 (2 * (i : Int) + 1) = 2 * (i : Int) + 1 := wi64_id (by omega) (by omega)
    have e3 : wi64 (2 * (i : Int) + 1 + 1) = 2 * (i : Int) + 1 + 1 := wi64_id (by omega) (by omega)
    by_cases hge : 2 * i + 1 ≥ n
    · refine ⟨q, Ev.succ ((Ev.pure _).congr fun k => ?_), ?_, hp⟩
      · have h1 : 2 * (i : Int) + 1 ≥ (n : Int) := by omega
        simp only [heap_down.l1, e1, e2, decide_eq_true h1, Bool.true_or, if_true, Heap.down, if_pos hge]
      · simp only [Heap.down, if_pos hge]
    · have h1 : ¬ 2 * (i : Int) + 1 ≥ (n : Int) := by omega
      have h2 : ¬ 2 * (i : Int) + 1 < 0 := by omega
      generalize hj : (if 2 * i + 2 < n ∧ ltE (q.l.getD (2 * i + 2) TEntry.z) (q.l.getD (2 * i + 1) TEntry.z) = true then 2 * i + 2 else 2 * i + 1) = j
      have hjc : (j = 2 * i + 1 ∨ j = 2 * i + 2) ∧ j < n := by split at hj <;> omega
      have hpick : ∀ k, ((if 2 * (i : Int) + 1 + 1 < (n : Int) then ((agenda_queue_Less.f k q (2 * (i : Int) + 1 + 1) (2 * (i : Int) + 1)).bind fun r => some r) else some false).bind fun g => if g = true then some (2 * (i : Int) + 1 + 1) else some (2 * (i : Int) + 1)) = some (j : Int) := fun k => by
        by_cases h22 : 2 * i + 2 < n
        · have h22' : 2 * (i : Int) + 1 + 1 < (n : Int) := by omega
          have hl2 := less_f k q (2 * i + 2) (2 * i + 1) (by omega) (by omega)
          rw [show ((2 * i + 2 : Nat) : Int) = 2 * (i : Int) + 1 + 1 from by omega, show ((2 * i + 1 : Nat) : Int) = 2 * (i : Int) + 1 from by omega] at hl2
          simp only [if_pos h22', hl2, Option.bind_some]
          cases hlt : ltE (q.l.getD (2 * i + 2) TEntry.z) (q.l.getD (2 * i + 1) TEntry.z) with
          | true =>
            rw [hlt] at hj
            rw [if_pos ⟨h22, rfl⟩] at hj
            subst hj
            simp only [if_true]
            congr 1
          | false =>
            rw [hlt] at hj
            rw [if_neg (by simp)] at hj
            subst hj
            simp
        · have h22' : ¬ 2 * (i : Int) + 1 + 1 < (n : Int) := by omega
          rw [if_neg (fun h => h22 h.1)] at hj
          subst hj
          simp [if_neg h22']
      have hless := fun k => less_f k q j i (by omega) (by omega)
      obtain ⟨q1, hswap, hq1, hp1⟩ := swap_f q hp i j (by omega) (by omega)
      simp only [Heap.down, if_neg hge, hj]
      cases hlt : ltE (q.l.getD j TEntry.z) (q.l.getD i TEntry.z) with
      | true =>
        obtain ⟨q', h, hl', hp'⟩ := ih j q1 hp1 (by rw [hq1, Heap.swap_length]; exact hl) (by omega) (by omega) (by omega)
        rw [hq1] at h hl'
        refine ⟨q', Ev.succ ?_, by rw [if_pos rfl]; exact hl', hp'⟩
        rw [if_pos rfl]
        refine h.congr fun k => ?_
        simp only [heap_down.l1, e1, e2, e3, decide_eq_false h1, decide_eq_false h2, Bool.false_or, hpick k, Option.bind_some, hless k, hlt, if_true, hswap k]
        simp
      | false =>
        refine ⟨q, Ev.succ ?_, by rw [if_neg (by simp)], hp⟩
        rw [if_neg (by simp)]
        refine (Ev.pure _).congr fun k => ?_
        simp only [heap_down.l1, e1, e2, e3, decide_eq_false h1, decide_eq_false h2, Bool.false_or, hpick k, Option.bind_some, hless k, hlt]
        simp
theorem down_f (n : Nat) (hn63 : n ≤ 1000000000000) (i : Nat) (q : Tqueue) (hp : PlaceOk q.l q.place) (hl : n ≤ q.l.length) (hi : i ≤ n) :
    ∃ q' : Tqueue, Ev (fun k => heap_down.f k q (i : Int) (n : Int)) (decide ((Heap.down ltE TEntry.z (n - i) n i q.l).1 > i), q') ∧ q'.l = (Heap.down ltE TEntry.z (n - i) n i q.l).2 ∧ PlaceOk q'.l q'.place := by
  obtain ⟨q', h, h1, h2⟩ := down_l1 n hn63 (n - i) i q hp hl (by omega) (by omega) hi
  refine ⟨q', ?_, h1, h2⟩
  rw [show decide ((Heap.down ltE TEntry.z (n - i) n i q.l).1 > i) = decide (((Heap.down ltE TEntry.z (n - i) n i q.l).1 : Int) > (i : Int)) from decide_eq_decide.2 (by omega)]
  exact Ev.bind (g := fun _ (p : Int × Tqueue) => some (decide (p.1 > (i : Int)), p.2)) h (Ev.pure _)
theorem up_l1 : ∀ (f j : Nat) (q : Tqueue), PlaceOk q.l q.place → j < q.l.length → j ≤ f → q.l.length ≤ 1000000000000 →
    ∃ q' : Tqueue, Ev (fun k => heap_up.l1 k (j : Int) q) q' ∧ q'.l = Heap.up ltE TEntry.z f j q.l ∧ PlaceOk q'.l q'.place := by
  intro f
  induction f with
  | zero =>
    intro j q hp hl hf hn
    have hj : j = 0 := by omega
    subst hj
    refine ⟨q, Ev.succ ((Ev.pure _).congr fun k => ?_), rfl, hp⟩
    simp only [heap_up.l1]
    rw [show wi64 ((wi64 (((0 : Nat) : Int) - 1)).tdiv 2) = ((0 : Nat) : Int) from by decide]
    simp
  | succ f ih =>
    intro j q hp hl hf hn
    by_cases h0 : j = 0
    · subst h0
      refine ⟨q, Ev.succ ((Ev.pure _).congr fun k => ?_), by simp [Heap.up], hp⟩
      simp only [heap_up.l1]
      rw [show wi64 ((wi64 (((0 : Nat) : Int) - 1)).tdiv 2) = ((0 : Nat) : Int) from by decide]
      simp
    · generalize hpp : (j - 1) / 2 = p
      have e1 : wi64 ((j : Int) - 1) = ((j - 1 : Nat) : Int) := by rw [wi64_id (by omega) (by omega)]; omega
      have e2 : wi64 (((j - 1 : Nat) : Int).tdiv 2) = (p : Int) := by
        rw [Int.tdiv_eq_ediv_of_nonneg (by omega), wi64_id (by omega) (by omega)]; omega
      have hne : ¬ (p : Int) = (j : Int) := by omega
      have hless := fun k => less_f k q j p hl (by omega)
      obtain ⟨q1, hswap, hq1, hp1⟩ := swap_f q hp p j (by omega) hl
      simp only [Heap.up, if_neg h0, hpp]
      cases hlt : ltE (q.l.getD j TEntry.z) (q.l.getD p TEntry.z) with
      | true =>
        obtain ⟨q', h, hl', hp'⟩ := ih p q1 hp1 (by rw [hq1, Heap.swap_length]; omega) (by omega) (by rw [hq1, Heap.swap_length]; exact hn)
        rw [hq1] at hl'
        refine ⟨q', Ev.succ (h.congr fun k => ?_), by rw [if_pos rfl]; exact hl', hp'⟩
        simp only [heap_up.l1, e1, e2, if_neg hne, hless k, hlt, Option.bind_some, hswap k]
        simp
      | false =>
        refine ⟨q, Ev.succ ((Ev.pure _).congr fun k => ?_), by rw [if_neg (by simp)], hp⟩
        simp only [heap_up.l1, e1, e2, if_neg hne, hless k, hlt, Option.bind_some]
        simp
theorem up_f (j : Nat) (q : Tqueue) (hp : PlaceOk q.l q.place) (hl : j < q.l.length) (hn : q.l.length ≤ 1000000000000) :
    ∃ q' : Tqueue, Ev (fun k => heap_up.f k q (j : Int)) q' ∧ q'.l = Heap.up ltE TEntry.z j j q.l ∧ PlaceOk q'.l q'.place := by
  obtain ⟨q', h, h1, h2⟩ := up_l1 j j q hp hl (Nat.le_refl _) hn
  exact ⟨q', Ev.bind (g := fun _ x => some x) h (Ev.pure _), h1, h2⟩
/-- down, and up if nothing came of it -/
theorem fixn_f (n i : Nat) (q : Tqueue) (hp : PlaceOk q.l q.place) (hnl : n ≤ q.l.length) (hi : i < n) (hn : q.l.length ≤ 1000000000000) :
    ∃ q' : Tqueue, Ev (fun k => (heap_down.f k q (i : Int) (n : Int)).bind fun x => if x.1 = true then some x.2 else (heap_up.f k x.2 (i : Int)).bind fun r => some r) q' ∧ q'.l = Heap.fix ltE TEntry.z n i q.l ∧ PlaceOk q'.l q'.place := by
  obtain ⟨q1, h1, hl1, hp1⟩ := down_f n (by omega) i q hp hnl (by omega)
  have hlen : q1.l.length = q.l.length := by rw [hl1, Heap.down_length]
  obtain ⟨q2, h2, hl2, hp2⟩ := up_f i q1 hp1 (by omega) (by omega)
  by_cases hc : (Heap.down ltE TEntry.z (n - i) n i q.l).1 > i
  · refine ⟨q1, Ev.bind (g := fun k (x : Bool × Tqueue) => if x.1 = true then some x.2 else (heap_up.f k x.2 (i : Int)).bind fun r => some r) h1 (Ev.iteT (by simp [hc]) (Ev.pure _)), ?_, hp1⟩
    rw [hl1, Heap.fix, if_pos hc]
  · refine ⟨q2, Ev.bind (g := fun k (x : Bool × Tqueue) => if x.1 = true then some x.2 else (heap_up.f k x.2 (i : Int)).bind fun r => some r) h1 (Ev.iteF (by simp [hc]) (Ev.bind (g := fun _ r => some r) h2 (Ev.pure _))), ?_, hp2⟩
    rw [hl2, hl1, Heap.fix, if_neg hc]
theorem fix_f (i : Nat) (q : Tqueue) (hp : PlaceOk q.l q.place) (hi : i < q.l.length) (hn : q.l.length ≤ 1000000000000) :
    ∃ q' : Tqueue, Ev (fun k => heap_Fix.f k q (i : Int)) q' ∧ q'.l = Heap.fix ltE TEntry.z q.l.length i q.l ∧ PlaceOk q'.l q'.place := by
  obtain ⟨q', h, h1, h2⟩ := fixn_f q.l.length i q hp (Nat.le_refl _) hi hn
  exact ⟨q', h.congr fun k => rfl, h1, h2⟩
/-- the last one is taken -/
theorem popLast_f (q : Tqueue) (hp : PlaceOk q.l q.place) (h : 0 < q.l.length) (hn : q.l.length ≤ 1000000000000) :
    ∃ q' : Tqueue, (∀ k, agenda_queue_Pop.f k q = some (q.l.getD (q.l.length - 1) TEntry.z, q')) ∧ q'.l = q.l.take (q.l.length - 1) ∧ PlaceOk q'.l q'.place := by
  have e1 : wi64 ((q.l.length : Int) - 1) = ((q.l.length - 1 : Nat) : Int) := by rw [wi64_id (by omega) (by omega)]; omega
  have h1 : 0 ≤ ((q.l.length - 1 : Nat) : Int) ∧ ((q.l.length - 1 : Nat) : Int) < (q.l.length : Int) := by omega
  have h2 : 0 ≤ ((q.l.length - 1 : Nat) : Int) ∧ ((q.l.length - 1 : Nat) : Int) ≤ (q.l.length : Int) := by omega
  refine ⟨⟨q.l.take (q.l.length - 1), mdel q.place (q.l.getD (q.l.length - 1) TEntry.z).ID⟩, fun k => ?_, rfl, ?_⟩
  · simp only [agenda_queue_Pop.f, e1, if_pos h1, if_pos h2, Int.toNat_natCast]
  · intro id t
    have hlen : (q.l.take (q.l.length - 1)).length = q.l.length - 1 := by rw [List.length_take]; omega
    show mget (mdel _ _) id = some t ↔ ∃ n : Nat, t = n ∧ n < (q.l.take (q.l.length - 1)).length ∧ ((q.l.take (q.l.length - 1)).getD n TEntry.z).ID = id
    rw [mget_mdel, hlen]
    by_cases e : id = (q.l.getD (q.l.length - 1) TEntry.z).ID
    · rw [if_pos e]
      refine ⟨fun x => absurd x (by simp), ?_⟩
      rintro ⟨n, rfl, hn1, he⟩
      rw [Heap.getD_take _ _ _ hn1] at he
      have := hp.inj (show n < q.l.length by omega) (show q.l.length - 1 < q.l.length by omega) (he.trans e)
      omega
    · rw [if_neg e, hp id t]
      constructor
      · rintro ⟨n, rfl, hn1, he⟩
        have : n ≠ q.l.length - 1 := fun x => e (by rw [← x]; exact he.symm)
        refine ⟨n, rfl, by omega, ?_⟩
        rw [Heap.getD_take _ _ _ (by omega)]; exact he
      · rintro ⟨n, rfl, hn1, he⟩
        rw [Heap.getD_take _ _ _ hn1] at he
        exact ⟨n, rfl, by omega, he⟩
theorem take_last {α : Type} (d : α) (m : List α) (h : 0 < m.length) : m.take (m.length - 1) ++ [m.getD (m.length - 1) d] = m := by
  have hm : m.length - 1 < m.length := by omega
  rw [List.getD_eq_getElem?_getD, List.getElem?_eq_getElem hm, Option.getD_some, ← List.take_succ_eq_append_getElem hm, List.take_of_length_le (by omega)]
theorem pop_f (q : Tqueue) (hp : PlaceOk q.l q.place) (h : 0 < q.l.length) (hn : q.l.length ≤ 1000000000000) (hok : Heap.Ok ltE TEntry.z 0 q.l.length none q.l) :
    ∃ q' : Tqueue, Ev (fun k => heap_Pop.f k q) ((Heap.pop ltE TEntry.z q.l).1, q') ∧ q'.l = (Heap.pop ltE TEntry.z q.l).2 ∧ PlaceOk q'.l q'.place := by
  have e1 : wi64 ((q.l.length : Int) - 1) = ((q.l.length - 1 : Nat) : Int) := by rw [wi64_id (by omega) (by omega)]; omega
  obtain ⟨q1, hs, hl1, hp1⟩ := swap_f q hp 0 (q.l.length - 1) h (by omega)
  have hlen1 : q1.l.length = q.l.length := by rw [hl1, Heap.swap_length]
  obtain ⟨q2, hd, hl2, hp2⟩ := down_f (q.l.length - 1) (by omega) 0 q1 hp1 (by omega) (Nat.zero_le _)
  have hlen2 : q2.l.length = q.l.length := by rw [hl2, Heap.down_length, hlen1]
  obtain ⟨q3, hq, hl3, hp3⟩ := popLast_f q2 hp2 (by omega) (by omega)
  refine ⟨q3, ?_, ?_, hp3⟩
  · have hr : (Heap.pop ltE TEntry.z q.l).1 = q2.l.getD (q2.l.length - 1) TEntry.z := by rw [hlen2, hl2, hl1]; rfl
    rw [hr]
    refine Ev.congr (Ev.bind (g := fun k (p : Bool × Tqueue) => (agenda_queue_Pop.f k p.2).bind fun q => some (q.1, q.2)) hd ((Ev.pure _).congr fun k => by simp only [hq k, Option.bind_some])) fun k => ?_
    have := hs k
    simp only [heap_Pop.f, agenda_queue_Len.f, Option.bind_some, e1]
    rw [show (0 : Int) = ((0 : Nat) : Int) from rfl, this]
    rfl
  · rw [hl3, hlen2, hl2, hl1]; rfl
/-- any one is taken -/
theorem remove_f (q : Tqueue) (i : Nat) (hp : PlaceOk q.l q.place) (hi : i < q.l.length) (hn : q.l.length ≤ 1000000000000) (hok : Heap.Ok ltE TEntry.z 0 q.l.length none q.l) :
    ∃ q' : Tqueue, Ev (fun k => heap_Remove.f k q (i : Int)) (q.l.getD i TEntry.z, q') ∧ q.l.Perm (q.l.getD i TEntry.z :: q'.l) ∧ Heap.Ok ltE TEntry.z 0 q'.l.length none q'.l ∧ PlaceOk q'.l q'.place := by
  have e1 : wi64 ((q.l.length : Int) - 1) = ((q.l.length - 1 : Nat) : Int) := by rw [wi64_id (by omega) (by omega)]; omega
  by_cases hlast : i = q.l.length - 1
  · obtain ⟨q3, hq, hl3, hp3⟩ := popLast_f q hp (by omega) hn
    refine ⟨q3, (Ev.pure _).congr fun k => ?_, ?_, ?_, hp3⟩
    · have : ((q.l.length - 1 : Nat) : Int) = (i : Int) := by omega
      simp only [heap_Remove.f, agenda_queue_Len.f, Option.bind_some, e1, if_pos this, hq k]
      rw [hlast]
    · rw [hl3, hlast]
      have := take_last TEntry.z q.l (by omega)
      exact (List.Perm.of_eq this.symm).trans (List.perm_append_comm (l₁ := q.l.take (q.l.length - 1)) (l₂ := [_]))
    · have hl : q3.l.length = q.l.length - 1 := by rw [hl3, List.length_take]; omega
      rw [hl, hl3]
      intro p c hp0 hx hc hcn
      rw [Heap.getD_take _ _ _ hcn, Heap.getD_take _ _ _ (by omega)]
      exact hok p c hp0 hx hc (by omega)
  · have hne : ¬ ((q.l.length - 1 : Nat) : Int) = (i : Int) := by omega
    obtain ⟨q1, hs, hl1, hp1⟩ := swap_f q hp i (q.l.length - 1) hi (by omega)
    have hlen1 : q1.l.length = q.l.length := by rw [hl1, Heap.swap_length]
    obtain ⟨q2, hd, hl2, hp2⟩ := fixn_f (q.l.length - 1) i q1 hp1 (by omega) (by omega) (by omega)
    have hfx : Heap.FixOk ltE TEntry.z (q.l.length - 1) i q1.l := by
      have hok' : Heap.Ok ltE TEntry.z 0 (q.l.length - 1) none q.l := fun p c hp0 hx hc hcn => hok p c hp0 hx hc (by omega)
      refine hok'.fixOk ltE_ord (by omega) fun k hk hki => ?_
      rw [hl1, Heap.getD_swap q.l hi (by omega), if_neg (by omega), if_neg hki]
    obtain ⟨hpm, hok2, hb2⟩ := Heap.fix_spec ltE_ord (q.l.length - 1) i q1.l (by omega) (by omega) hfx
    have hlen2 : q2.l.length = q.l.length := by rw [hl2, hpm.length_eq, hlen1]
    obtain ⟨q3, hq, hl3, hp3⟩ := popLast_f q2 hp2 (by omega) (by omega)
    have hlastv : q2.l.getD (q2.l.length - 1) TEntry.z = q.l.getD i TEntry.z := by
      rw [hlen2, hl2, hb2 _ (Nat.le_refl _), hl1, Heap.getD_swap q.l hi (by omega), if_pos rfl]
    refine ⟨q3, ?_, ?_, ?_, hp3⟩
    · rw [← hlastv]
      have hfin : Ev (fun k => (agenda_queue_Pop.f k q2).bind fun x => some (x.1, x.2)) (q2.l.getD (q2.l.length - 1) TEntry.z, q3) := (Ev.pure _).congr fun k => by simp only [hq k, Option.bind_some]
      refine Ev.congr (Ev.bind (g := fun k r => (agenda_queue_Pop.f k r).bind fun x => some (x.1, x.2)) hd hfin) fun k => ?_
      simp only [heap_Remove.f, agenda_queue_Len.f, Option.bind_some, e1, if_neg hne, hs k]
      cases heap_down.f k q1 (i : Int) ((q.l.length - 1 : Nat) : Int) with
      | none => rfl
      | some x =>
        obtain ⟨b, r⟩ := x
        simp only [Option.bind_some]
        cases b with
        | true => rfl
        | false =>
          simp only [Bool.false_eq_true, if_false]
          cases heap_up.f k r (i : Int) with
          | none => rfl
          | some y => rfl
    · have h1 : q2.l.Perm q.l := by
        rw [hl2]; refine hpm.trans ?_
        rw [hl1]; exact Heap.swap_perm q.l hi (by omega)
      refine h1.symm.trans ?_
      rw [hl3, ← hlastv]
      have := take_last TEntry.z q2.l (by omega)
      exact (List.Perm.of_eq this.symm).trans (List.perm_append_comm (l₁ := q2.l.take (q2.l.length - 1)) (l₂ := [_]))
    · have hl : q3.l.length = q.l.length - 1 := by rw [hl3, List.length_take]; omega
      rw [hl, hl3, hlen2]
      intro p c hp0 hx hc hcn
      rw [Heap.getD_take _ _ _ hcn, Heap.getD_take _ _ _ (by omega), hl2]
      exact hok2 p c hp0 hx hc hcn
end Go.Proofs.Ytnoocbdpkddpbaa.Pure
