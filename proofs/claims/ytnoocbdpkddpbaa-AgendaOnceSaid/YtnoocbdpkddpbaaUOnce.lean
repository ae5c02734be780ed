/- The law AgendaOnce, as a plain function: true for every input. -/
import Derived.Test.YtnoocbdpkddpbaaUf
import Derived.Test.YtnoocbdpkddpbaaUw
import Derived.Test.YtnoocbdpkddpbaaPOnce
set_option linter.unusedSimpArgs false
set_option linter.unusedVariables false
namespace Go.Proofs.Ytnoocbdpkddpbaa.Pure
open Go.WG Go.Proofs.Ytnoocbdpkddpbaa
def lastAt (id : Int) (a : Int) (S : List TEntry) : Int := S.foldl (fun acc e => if e.ID = id then e.At else acc) a
theorem once_mem (id : Int) : ∀ (S : List TEntry) (L : List TEntry) (a : Int), L.length + S.length ≤ 100 → ((∃ x ∈ L, x.ID = id ∧ x.At = a) ∨ ∃ e ∈ S, e.ID = id) → ∃ x ∈ S.foldl stepL L, x.ID = id ∧ x.At = lastAt id a S := by
  intro S
  induction S with
  | nil =>
    intro L a _ h
    rcases h with h | ⟨e, he, _⟩
    · exact h
    · exact absurd he (by simp)
  | cons e S ih =>
    intro L a hl h
    rw [List.length_cons] at hl
    have hst : stepL L e = putL e L := by unfold stepL; rw [if_pos (.inr (by omega))]
    have hlen : (stepL L e).length + S.length ≤ 100 := by
      rw [hst, putL_len]; have := noId_len e.ID L; omega
    rw [List.foldl_cons, lastAt, List.foldl_cons]
    refine ih (stepL L e) _ hlen ?_
    by_cases he : e.ID = id
    · rw [if_pos he]
      exact .inl ⟨e, by rw [hst]; exact (mem_putL e e L).2 (.inl rfl), he, rfl⟩
    · rw [if_neg he]
      rcases h with ⟨x, hx, hi, ha⟩ | ⟨y, hy, hi⟩
      · exact .inl ⟨x, by rw [hst]; exact (mem_putL x e L).2 (.inr ⟨hx, fun q => he (q.symm.trans hi)⟩), hi, ha⟩
      · rcases List.mem_cons.1 hy with rfl | hy
        · exact absurd hi he
        · exact .inr ⟨y, hy, hi⟩
theorem once_from : ∀ (S : List TEntry) (L : List TEntry) (x : TEntry), x ∈ S.foldl stepL L → x ∈ S ∨ x ∈ L := by
  intro S
  induction S with
  | nil => intro L x h; exact .inr h
  | cons e S ih =>
    intro L x h
    rcases ih (stepL L e) x h with h | h
    · exact .inl (List.mem_cons_of_mem _ h)
    · unfold stepL at h
      split at h
      · rcases (mem_putL x e L).1 h with rfl | ⟨h, _⟩
        · exact .inl (List.mem_cons_self ..)
        · exact .inr h
      · exact .inr h
theorem stepL_len (S : List TEntry) : ∀ (L : List TEntry), (S.foldl stepL L).length ≤ L.length + S.length := by
  induction S with
  | nil => intro L; exact Nat.le_refl _
  | cons e S ih =>
    intro L
    have := ih (stepL L e)
    have h2 : (stepL L e).length ≤ L.length + 1 := by
      unfold stepL
      split
      · rw [putL_len]; have := noId_len e.ID L; omega
      · omega
    rw [List.foldl_cons, List.length_cons]
    omega
theorem once_l1 (a0 : List TEntry) (hb : a0.length ≤ 100) : ∀ (m j : Nat) (q : Tqueue) (L : List TEntry), a0.length - j = m → j ≤ a0.length → R q L → L.length ≤ j →
    ∃ q', Ev (fun k => juratlaw13_AgendaOnce.l1 k a0 (j : Int) ⟨q⟩) (Sum.inl ⟨q'⟩) ∧ R q' ((a0.drop j).foldl stepL L) := by
  intro m
  induction m with
  | zero =>
    intro j q L hm hj h _
    refine ⟨q, Ev.succ ((Ev.pure _).congr fun k => ?_), ?_⟩
    · have : ¬ (j : Int) < (a0.length : Int) := by omega
      simp only [juratlaw13_AgendaOnce.l1, if_neg this]
    · rw [List.drop_eq_nil_of_le (by omega)]; exact h
  | succ m ih =>
    intro j q L hm hj h hl
    have h1 : (j : Int) < (a0.length : Int) := by omega
    have h2 : 0 ≤ (j : Int) ∧ (j : Int) < (a0.length : Int) := by omega
    obtain ⟨x1, q1, hE1, hR1, hx⟩ := put_any q L h (a0.getD j TEntry.z)
    have hx0 : x1 = 0 := hx.2 (.inr (by omega))
    subst hx0
    have hl1 := stepL_len [a0.getD j TEntry.z] L
    obtain ⟨q', hI, hq⟩ := ih (j + 1) q1 (stepL L (a0.getD j TEntry.z)) (by omega) (by omega) hR1 (by simpa using Nat.le_trans hl1 (by simp; exact hl))
    refine ⟨q', Ev.succ (Ev.congr (Ev.bind (g := fun k (x : Int × TAgenda) => if x.1 = 0 then (juratlaw13_AgendaOnce.l1 k a0 (wi64 ((j : Int) + 1)) x.2) else (some (Sum.inr false))) hE1 (Ev.iteT rfl (hI.congr fun k => ?_))) fun k => ?_), ?_⟩
    · simp only [wi64_succ (show j < 9223372036854775807 by omega)]
    · simp only [juratlaw13_AgendaOnce.l1, if_pos h1, if_pos h2, Int.toNat_natCast]
    · rw [drop_cons TEntry.z (show j < a0.length by omega), List.foldl_cons]; exact hq
theorem once_l3 (E T : List TEntry) (hb : (E ++ T).length ≤ 100) (hn : ((E ++ T).map (·.ID)).Nodup) (i : Nat) (hi : i < (E ++ T).length) : ∀ (m j : Nat), i - j = m → j ≤ i →
    Ev (fun k => juratlaw13_AgendaOnce.l3 k E T (i : Int) (j : Int)) (Sum.inl ()) := by
  intro m
  induction m with
  | zero =>
    intro j hm hj
    refine Ev.succ ((Ev.pure _).congr fun k => ?_)
    have : ¬ (j : Int) < (i : Int) := by omega
    simp only [juratlaw13_AgendaOnce.l3, if_neg this]
  | succ m ih =>
    intro j hm hj
    have h1 : (j : Int) < (i : Int) := by omega
    have h2 : 0 ≤ (j : Int) ∧ (j : Int) < ((E ++ T).length : Int) := by omega
    have hne : ¬ (((E ++ T).getD j TEntry.z).ID = ((E ++ T).getD i TEntry.z).ID) := fun e => by
      have hjl : j < (E ++ T).length := by omega
      have := List.pairwise_iff_getElem.1 hn j i (by simpa using hjl) (by simpa using hi) (by omega)
      rw [List.getD_eq_getElem?_getD, List.getD_eq_getElem?_getD, List.getElem?_eq_getElem hjl, List.getElem?_eq_getElem hi] at e
      simp only [List.getElem_map] at this
      exact this e
    refine Ev.succ ((ih (j + 1) (by omega) (by omega)).congr fun k => ?_)
    simp only [juratlaw13_AgendaOnce.l3, if_pos h1, if_pos h2, Int.toNat_natCast, if_neg hne, wi64_succ (show j < 9223372036854775807 by omega)]
theorem once_l2 (now : Int) (E T : List TEntry) (hb : (E ++ T).length ≤ 100) (hn : ((E ++ T).map (·.ID)).Nodup) (hs : (E ++ T).Pairwise fun a b => ltE b a = false) (hE : ∀ x ∈ E, x.At ≤ now) (hT : ∀ x ∈ T, ¬ x.At ≤ now) : ∀ (m j : Nat), (E ++ T).length - j = m → j ≤ (E ++ T).length →
    Ev (fun k => juratlaw13_AgendaOnce.l2 k now E T (j : Int)) (Sum.inl ()) := by
  intro m
  induction m with
  | zero =>
    intro j hm hj
    refine Ev.succ ((Ev.pure _).congr fun k => ?_)
    have : ¬ (j : Int) < ((E ++ T).length : Int) := by omega
    simp only [juratlaw13_AgendaOnce.l2, if_neg this]
  | succ m ih =>
    intro j hm hj
    have hjl : j < (E ++ T).length := by omega
    have h1 : (j : Int) < ((E ++ T).length : Int) := by omega
    have h2 : 0 ≤ (j : Int) ∧ (j : Int) < ((E ++ T).length : Int) := by omega
    have hsame : decide ((j : Int) < (E.length : Int)) = decide (((E ++ T).getD j TEntry.z).At ≤ now) := by
      refine decide_eq_decide.2 ?_
      rw [List.getD_eq_getElem?_getD]
      by_cases hj1 : j < E.length
      · rw [List.getElem?_append_left hj1, List.getElem?_eq_getElem hj1, Option.getD_some]
        have := hE _ (List.getElem_mem hj1)
        omega
      · have hjt : j - E.length < T.length := by rw [List.length_append] at hjl; omega
        rw [List.getElem?_append_right (by omega), List.getElem?_eq_getElem hjt, Option.getD_some]
        have := hT _ (List.getElem_mem hjt)
        omega
    have h3 := once_l3 E T hb hn j hjl j 0 rfl (Nat.zero_le _)
    have hnext := ih (j + 1) (by omega) (by omega)
    have hord : j > 0 → ∀ k : Nat, (if 0 ≤ (wi64 ((j : Int) - 1)) ∧ (wi64 ((j : Int) - 1)) < ((E ++ T).length : Int) then (if (((E ++ T).getD (wi64 ((j : Int) - 1)).toNat TEntry.z).At) > (((E ++ T).getD j TEntry.z).At) then (some (true)) else (if (((E ++ T).getD (wi64 ((j : Int) - 1)).toNat TEntry.z).At) = (((E ++ T).getD j TEntry.z).At) then (some (decide ((((E ++ T).getD (wi64 ((j : Int) - 1)).toNat TEntry.z).ID) ≥ (((E ++ T).getD j TEntry.z).ID)))) else (some (false)))) else none) = some false := by
      intro hj0 k
      have e1 : wi64 ((j : Int) - 1) = ((j - 1 : Nat) : Int) := by rw [wi64_id (by omega) (by omega)]; omega
      rw [e1, if_pos (by omega), Int.toNat_natCast]
      have hj1 : j - 1 < (E ++ T).length := by omega
      have hlt := List.pairwise_iff_getElem.1 hs (j - 1) j hj1 hjl (by omega)
      have hid := List.pairwise_iff_getElem.1 hn (j - 1) j (by simpa using hj1) (by simpa using hjl) (by omega)
      rw [List.getD_eq_getElem?_getD, List.getD_eq_getElem?_getD, List.getElem?_eq_getElem hj1, List.getElem?_eq_getElem hjl, Option.getD_some, Option.getD_some]
      simp only [List.getElem_map] at hid
      generalize (E ++ T)[j - 1] = x at hlt hid
      generalize (E ++ T)[j] = y at hlt hid
      simp only [ltE, decide_eq_false_iff_not] at hlt
      rw [if_neg (by omega)]
      by_cases he : x.At = y.At
      · rw [if_pos he, decide_eq_false (by omega)]
      · rw [if_neg he]
    have hg : ∀ k : Nat, (if (decide ((j : Int) < (E.length : Int))) = (decide ((((E ++ T).getD j TEntry.z).At) ≤ now)) then (if (j : Int) > 0 then (if 0 ≤ (wi64 ((j : Int) - 1)) ∧ (wi64 ((j : Int) - 1)) < ((E ++ T).length : Int) then (if (((E ++ T).getD (wi64 ((j : Int) - 1)).toNat TEntry.z).At) > (((E ++ T).getD j TEntry.z).At) then (some (true)) else (if (((E ++ T).getD (wi64 ((j : Int) - 1)).toNat TEntry.z).At) = (((E ++ T).getD j TEntry.z).At) then (some (decide ((((E ++ T).getD (wi64 ((j : Int) - 1)).toNat TEntry.z).ID) ≥ (((E ++ T).getD j TEntry.z).ID)))) else (some (false)))) else none) else (some (false))) else (some (true))) = some false := fun k => by
      rw [if_pos hsame]
      by_cases hj0 : j > 0
      · rw [if_pos (by omega)]; exact hord hj0 k
      · rw [if_neg (by omega)]
    refine Ev.succ (Ev.congr (Ev.bind (g := fun k o_ => sumE o_ (fun _ => juratlaw13_AgendaOnce.l2 k now E T (wi64 ((j : Int) + 1))) (fun p_ => some (Sum.inr p_))) h3 (hnext.congr fun k => ?_)) fun k => ?_)
    · simp only [sumE, wi64_succ (show j < 9223372036854775807 by omega)]
    · simp only [juratlaw13_AgendaOnce.l2, if_pos h1, if_pos h2, Int.toNat_natCast]
      rw [hg k]
      simp only [Option.bind_some, Bool.false_eq_true, if_false]
      rfl
theorem once_l5 (a0 : List TEntry) (hb : a0.length ≤ 100) (i : Nat) (hi : i < a0.length) : ∀ (m j : Nat) (a : Int), a0.length - j = m → j ≤ a0.length →
    Ev (fun k => juratlaw13_AgendaOnce.l5 k a0 (i : Int) a (j : Int)) (lastAt (a0.getD i TEntry.z).ID a (a0.drop j)) := by
  intro m
  induction m with
  | zero =>
    intro j a hm hj
    rw [List.drop_eq_nil_of_le (by omega)]
    refine Ev.succ ((Ev.pure _).congr fun k => ?_)
    have : ¬ (j : Int) < (a0.length : Int) := by omega
    simp only [juratlaw13_AgendaOnce.l5, if_neg this]
    rfl
  | succ m ih =>
    intro j a hm hj
    have h1 : (j : Int) < (a0.length : Int) := by omega
    have h2 : 0 ≤ (j : Int) ∧ (j : Int) < (a0.length : Int) := by omega
    have h3 : 0 ≤ (i : Int) ∧ (i : Int) < (a0.length : Int) := by omega
    rw [drop_cons TEntry.z (show j < a0.length by omega), lastAt, List.foldl_cons]
    by_cases he : (a0.getD j TEntry.z).ID = (a0.getD i TEntry.z).ID
    · rw [if_pos he]
      refine Ev.succ ((ih (j + 1) _ (by omega) (by omega)).congr fun k => ?_)
      simp only [juratlaw13_AgendaOnce.l5, if_pos h1, if_pos h2, if_pos h3, Int.toNat_natCast, if_pos he, wi64_succ (show j < 9223372036854775807 by omega)]
    · rw [if_neg he]
      refine Ev.succ ((ih (j + 1) _ (by omega) (by omega)).congr fun k => ?_)
      simp only [juratlaw13_AgendaOnce.l5, if_pos h1, if_pos h2, if_pos h3, Int.toNat_natCast, if_neg he, wi64_succ (show j < 9223372036854775807 by omega)]
theorem once_l6 (a0 E T : List TEntry) (hb : (E ++ T).length ≤ 100) (i : Nat) (hi : i < a0.length) (at_ : Int) : ∀ (m j : Nat) (b : Bool), (E ++ T).length - j = m → j ≤ (E ++ T).length →
    Ev (fun k => juratlaw13_AgendaOnce.l6 k a0 E T (i : Int) at_ b (j : Int)) (b || ((E ++ T).drop j).any fun x => decide (x.At = at_ ∧ x.ID = (a0.getD i TEntry.z).ID)) := by
  intro m
  induction m with
  | zero =>
    intro j b hm hj
    rw [List.drop_eq_nil_of_le (by omega)]
    refine Ev.succ ((Ev.pure _).congr fun k => ?_)
    have : ¬ (j : Int) < ((E ++ T).length : Int) := by omega
    simp only [juratlaw13_AgendaOnce.l6, if_neg this]
    simp
  | succ m ih =>
    intro j b hm hj
    have h1 : (j : Int) < ((E ++ T).length : Int) := by omega
    have h2 : 0 ≤ (j : Int) ∧ (j : Int) < ((E ++ T).length : Int) := by omega
    have h3 : 0 ≤ (i : Int) ∧ (i : Int) < (a0.length : Int) := by omega
    rw [drop_cons TEntry.z (show j < (E ++ T).length by omega), List.any_cons, ← Bool.or_assoc]
    refine Ev.succ ((ih (j + 1) _ (by omega) (by omega)).congr fun k => ?_)
    simp only [juratlaw13_AgendaOnce.l6, if_pos h1, if_pos h2, if_pos h3, Int.toNat_natCast, wi64_succ (show j < 9223372036854775807 by omega)]
    cases b <;> simp
theorem once_l4 (a0 E T : List TEntry) (hb : a0.length ≤ 100) (hb2 : (E ++ T).length ≤ 100) (hL : E ++ T = a0.foldl stepL []) : ∀ (m j : Nat), a0.length - j = m → j ≤ a0.length →
    Ev (fun k => juratlaw13_AgendaOnce.l4 k a0 E T (j : Int)) (Sum.inl ()) := by
  intro m
  induction m with
  | zero =>
    intro j hm hj
    refine Ev.succ ((Ev.pure _).congr fun k => ?_)
    have : ¬ (j : Int) < (a0.length : Int) := by omega
    simp only [juratlaw13_AgendaOnce.l4, if_neg this]
  | succ m ih =>
    intro j hm hj
    have hjl : j < a0.length := by omega
    have h1 : (j : Int) < (a0.length : Int) := by omega
    have h5 := once_l5 a0 hb j hjl (a0.length - j) j 0 rfl (by omega)
    have h6 := once_l6 a0 E T hb2 j hjl (lastAt (a0.getD j TEntry.z).ID 0 (a0.drop j)) (E ++ T).length 0 false rfl (Nat.zero_le _)
    have hfound : (false || ((E ++ T).drop 0).any fun x => decide (x.At = lastAt (a0.getD j TEntry.z).ID 0 (a0.drop j) ∧ x.ID = (a0.getD j TEntry.z).ID)) = true := by
      rw [Bool.false_or, List.drop_zero, List.any_eq_true, hL]
      have hsplit : a0.foldl stepL [] = (a0.drop j).foldl stepL ((a0.take j).foldl stepL []) := by rw [← List.foldl_append, List.take_append_drop]
      have hlt := stepL_len (a0.take j) []
      rw [List.length_take, List.length_nil] at hlt
      obtain ⟨x, hx, hxi, hxa⟩ := once_mem (a0.getD j TEntry.z).ID (a0.drop j) ((a0.take j).foldl stepL []) 0 (by rw [List.length_drop]; omega) (.inr ⟨a0.getD j TEntry.z, by rw [drop_cons TEntry.z hjl]; exact List.mem_cons_self .., rfl⟩)
      exact ⟨x, by rw [hsplit]; exact hx, by rw [decide_eq_true_eq]; exact ⟨hxa, hxi⟩⟩
    rw [hfound] at h6
    refine Ev.succ (Ev.congr (Ev.bind (g := fun k x1532 => (juratlaw13_AgendaOnce.l6 k a0 E T (j : Int) x1532 false 0).bind fun x1653 => if x1653 = true then (juratlaw13_AgendaOnce.l4 k a0 E T (wi64 ((j : Int) + 1))) else (some (Sum.inr false))) h5 (Ev.bind (g := fun k x1653 => if x1653 = true then (juratlaw13_AgendaOnce.l4 k a0 E T (wi64 ((j : Int) + 1))) else (some (Sum.inr false))) h6 (Ev.iteT rfl ((ih (j + 1) (by omega) (by omega)).congr fun k => ?_)))) fun k => ?_)
    · simp only [wi64_succ (show j < 9223372036854775807 by omega)]
    · simp only [juratlaw13_AgendaOnce.l4, if_pos h1]
theorem AgendaOnce (a0 : List TEntry) (a1 : Int) (h0 : ok22 a0) (h1 : (Lit.int .i64 a1).wf = true) : ∃ k, juratlaw13_AgendaOnce.f k a0 a1 = some true := by
  by_cases hb : (a0.length : Int) > 100
  · exact (Ev.iteT hb (Ev.bind (g := fun _ r => some r) awake_ev (Ev.pure _))).one
  · have hb' : a0.length ≤ 100 := by omega
    obtain ⟨q, hE, hq⟩ := once_l1 a0 hb' a0.length 0 ⟨[], []⟩ [] rfl (Nat.zero_le _) R.empty (Nat.le_refl _)
    rw [List.drop_zero] at hq
    have hlen : (a0.foldl stepL []).length ≤ 100 := by have := stepL_len a0 []; rw [List.length_nil] at this; omega
    have hmem : ∀ x ∈ a0.foldl stepL [], x.At ≤ 9223372036854775807 := fun x hx => by
      rcases once_from a0 [] x hx with h | h
      · have := wf64 (h0.2 x h).1; omega
      · exact absurd h (by simp)
    obtain ⟨q1, hd1, hR1⟩ := due_f a1 q _ hq
    obtain ⟨q2, hd2, hR2⟩ := due_f 9223372036854775807 q1 _ hR1
    have hsorted := hq.sorted
    have hnd := hq.nodup
    generalize hLL : a0.foldl stepL [] = L at hlen hmem hd1 hd2 hR1 hR2 hsorted hnd
    have hdm : ∀ x ∈ L.dropWhile (fun x => decide (x.At ≤ a1)), x.At ≤ 9223372036854775807 := fun x hx => hmem x ((List.dropWhile_sublist _).mem hx)
    have htw : (L.dropWhile fun x => decide (x.At ≤ a1)).takeWhile (fun x => decide (x.At ≤ 9223372036854775807)) = L.dropWhile fun x => decide (x.At ≤ a1) := by
      generalize L.dropWhile (fun x => decide (x.At ≤ a1)) = M at hdm
      induction M with
      | nil => rfl
      | cons y M ihM =>
        rw [List.takeWhile_cons, if_pos (by simpa using hdm y (List.mem_cons_self ..)), ihM fun x hx => hdm x (List.mem_cons_of_mem _ hx)]
    have hdw : (L.dropWhile fun x => decide (x.At ≤ a1)).dropWhile (fun x => decide (x.At ≤ 9223372036854775807)) = [] := by
      generalize L.dropWhile (fun x => decide (x.At ≤ a1)) = M at hdm
      induction M with
      | nil => rfl
      | cons y M ihM =>
        rw [List.dropWhile_cons, if_pos (by simpa using hdm y (List.mem_cons_self ..)), ihM fun x hx => hdm x (List.mem_cons_of_mem _ hx)]
    rw [htw] at hd2
    rw [hdw] at hR2
    have hsplit : (L.takeWhile fun x => decide (x.At ≤ a1)) ++ (L.dropWhile fun x => decide (x.At ≤ a1)) = L := List.takeWhile_append_dropWhile
    have hEl : ∀ x ∈ L.takeWhile (fun x => decide (x.At ≤ a1)), x.At ≤ a1 := fun x hx => by
      have := List.all_eq_true.1 (List.all_takeWhile (p := fun x : TEntry => decide (x.At ≤ a1)) (l := L)) x hx
      simpa using this
    have hTl : ∀ x ∈ L.dropWhile (fun x => decide (x.At ≤ a1)), ¬ x.At ≤ a1 := by
      have hs2 : (L.dropWhile fun x => decide (x.At ≤ a1)).Pairwise fun a b => ltE b a = false := hsorted.sublist (List.dropWhile_sublist _)
      have hh := List.head?_dropWhile_not (fun x : TEntry => decide (x.At ≤ a1)) L
      generalize L.dropWhile (fun x => decide (x.At ≤ a1)) = M at hs2 hh
      cases M with
      | nil => intro x hx; exact absurd hx (by simp)
      | cons y M =>
        simp only [List.head?_cons] at hh
        have hy : ¬ y.At ≤ a1 := by simpa using hh
        intro x hx
        rcases List.mem_cons.1 hx with rfl | hx
        · exact hy
        · have := (List.pairwise_cons.1 hs2).1 x hx
          simp only [ltE, decide_eq_false_iff_not] at this
          omega
    generalize L.takeWhile (fun x => decide (x.At ≤ a1)) = E at *
    generalize L.dropWhile (fun x => decide (x.At ≤ a1)) = T at *
    subst hsplit
    have hl2 := once_l2 a1 E T hlen hnd hsorted hEl hTl (E ++ T).length 0 rfl (Nat.zero_le _)
    have hl4 := once_l4 a0 E T hb' hlen hLL.symm a0.length 0 rfl (Nat.zero_le _)
    rw [List.length_append] at hlen
    have hfin : Ev (fun k => ((agenda_Agenda_Len.f k ⟨q2⟩).bind fun r1803 => if r1803 = 0 then ((juratlaw13_awake.f k ).bind fun r1808 => some r1808) else (some false)).bind fun x1777 => some x1777) true := by
      refine Ev.congr (Ev.bind (g := fun _ x => some x) (Ev.bind (g := fun _ r => some r) awake_ev (Ev.pure _)) (Ev.pure true)) fun k => ?_
      simp only [len_f q2 [] hR2 k, Option.bind_some, List.length_nil]
      rfl
    have : Ev (fun k => juratlaw13_AgendaOnce.f k a0 a1) true := by
      refine Ev.iteF hb ?_
      refine Ev.congr (Ev.bind (g := fun k o_ => sumE o_ (fun x126 => (agenda_Agenda_Due.f k x126 a1).bind fun y => (agenda_Agenda_Due.f k y.2 9223372036854775807).bind fun z => if y.1.length * 16 ≤ 140737488355328 then (if (y.1.length + z.1.length) * 16 ≤ 140737488355328 then ((juratlaw13_AgendaOnce.l2 k a1 y.1 z.1 0).bind fun o_ => sumE o_ (fun _ => (juratlaw13_AgendaOnce.l4 k a0 y.1 z.1 0).bind fun o_ => sumE o_ (fun _ => ((agenda_Agenda_Len.f k z.2).bind fun r1803 => if r1803 = 0 then ((juratlaw13_awake.f k ).bind fun r1808 => some r1808) else (some false)).bind fun x1777 => some x1777) (fun p_ => some p_)) (fun p_ => some p_)) else none) else none) (fun p_ => some p_)) hE
        (Ev.bind (g := fun k (y : List TEntry × TAgenda) => (agenda_Agenda_Due.f k y.2 9223372036854775807).bind fun z => if y.1.length * 16 ≤ 140737488355328 then (if (y.1.length + z.1.length) * 16 ≤ 140737488355328 then ((juratlaw13_AgendaOnce.l2 k a1 y.1 z.1 0).bind fun o_ => sumE o_ (fun _ => (juratlaw13_AgendaOnce.l4 k a0 y.1 z.1 0).bind fun o_ => sumE o_ (fun _ => ((agenda_Agenda_Len.f k z.2).bind fun r1803 => if r1803 = 0 then ((juratlaw13_awake.f k ).bind fun r1808 => some r1808) else (some false)).bind fun x1777 => some x1777) (fun p_ => some p_)) (fun p_ => some p_)) else none) else none) hd1
        (Ev.bind (g := fun k (z : List TEntry × TAgenda) => if E.length * 16 ≤ 140737488355328 then (if (E.length + z.1.length) * 16 ≤ 140737488355328 then ((juratlaw13_AgendaOnce.l2 k a1 E z.1 0).bind fun o_ => sumE o_ (fun _ => (juratlaw13_AgendaOnce.l4 k a0 E z.1 0).bind fun o_ => sumE o_ (fun _ => ((agenda_Agenda_Len.f k z.2).bind fun r1803 => if r1803 = 0 then ((juratlaw13_awake.f k ).bind fun r1808 => some r1808) else (some false)).bind fun x1777 => some x1777) (fun p_ => some p_)) (fun p_ => some p_)) else none) else none) hd2
        (Ev.iteT (by omega) (Ev.iteT (by simp only; omega)
          (Ev.bind (g := fun k o_ => sumE o_ (fun _ => (juratlaw13_AgendaOnce.l4 k a0 E T 0).bind fun o_ => sumE o_ (fun _ => ((agenda_Agenda_Len.f k ⟨q2⟩).bind fun r1803 => if r1803 = 0 then ((juratlaw13_awake.f k ).bind fun r1808 => some r1808) else (some false)).bind fun x1777 => some x1777) (fun p_ => some p_)) (fun p_ => some p_)) hl2
            (Ev.bind (g := fun k o_ => sumE o_ (fun _ => ((agenda_Agenda_Len.f k ⟨q2⟩).bind fun r1803 => if r1803 = 0 then ((juratlaw13_awake.f k ).bind fun r1808 => some r1808) else (some false)).bind fun x1777 => some x1777) (fun p_ => some p_)) hl4 hfin)))))))  fun k => rfl
    exact this.one
end Go.Proofs.Ytnoocbdpkddpbaa.Pure
