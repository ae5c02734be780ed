/- DocketKeys, as a plain law. -/
import Derived.Test.YtobdpbnadjkhiaaTPKeys
import Derived.Test.YtobdpbnadjkhiaaTDk
import Derived.Test.YtobdpbnadjkhiaaTDw
namespace Go.Proofs.Ytobdpbnadjkhiaa.Pure
open Go.WG Go.Proofs.Ytobdpbnadjkhiaa Go.Proofs.Ytobdpbnadjkhiaa.Ta
set_option linter.unusedSimpArgs false
set_option linter.unusedVariables false
/-- What was given was used. -/
def Had (had : List TGiven) (u : List Int) : Prop := ∀ g ∈ had, 0 ≤ g.Worker ∧ g.Index < u.getD g.Worker.toNat 0
/-- The first of those that are given now. -/
def pairs (l x : List Int) : Nat → List TGiven
  | 0 => []
  | n + 1 => pairs l x n ++ [⟨l.getD n 0, x.getD n 0⟩]
theorem pairs_len (l x : List Int) : ∀ n, (pairs l x n).length = n
  | 0 => rfl
  | n + 1 => by rw [pairs, List.length_append, pairs_len l x n]; rfl
theorem pairs_mem {l x : List Int} {g : TGiven} : ∀ {n : Nat}, g ∈ pairs l x n → ∃ q, q < n ∧ g = ⟨l.getD q 0, x.getD q 0⟩
  | 0, h => by cases h
  | n + 1, h => by
    rcases List.mem_append.1 h with h | h
    · obtain ⟨q, hq, e⟩ := pairs_mem h
      exact ⟨q, by omega, e⟩
    · exact ⟨n, by omega, List.mem_singleton.1 h⟩
theorem keys_l3 {a1 : List TRecord} {i : Nat} {t : TState} {l x : List Int} {J : Nat} (hJ : wi64 ((a1.getD i TRecord.z).Job - 1) = (J : Int))
    (hW : (t.Jobs.getD J TJob.z).Workers = l) (hX : (t.Jobs.getD J TJob.z).Indexes = x) (had : List TGiven) (q : Nat) (hl : had.length ≤ 1000)
    (h : ∀ g ∈ had, ¬ (g.Worker = l.getD q 0 ∧ g.Index = x.getD q 0)) :
    Ev (fun k => juratlaw21_DocketKeys.l3 k a1 (i : Int) t had (q : Int) 0) (Sum.inl ()) := by
  refine Ev.loop (n := had.length) (F := fun k p (_ : Unit) => juratlaw21_DocketKeys.l3 k a1 (i : Int) t had (q : Int) (p : Int)) (fun p _ => True) (fun p _ hp _ => ?_) (fun _ _ => ?_) () trivial
  · simp only [juratlaw21_DocketKeys.l3, Int.toNat_natCast, hJ, hW, hX, wi64_j (show p < 9223372036854775807 by omega)]
    exact .inr ⟨(), trivial, fun k => Ev.iteT (by omega) (Ev.iteT (by omega) (Ev.iteF (h _ (getD_mem TGiven.z hp)) k))⟩
  · simp only [juratlaw21_DocketKeys.l3]
    exact Ev.iteF (by omega) (Ev.pure _)
theorem keys_l2 {c : TConfig} (hc : CfgOk c) {a1 : List TRecord} {i : Nat} {s t : TState} {l x : List Int} {J : Nat} (hJ : wi64 ((a1.getD i TRecord.z).Job - 1) = (J : Int))
    (hW : (t.Jobs.getD J TJob.z).Workers = l) (hX : (t.Jobs.getD J TJob.z).Indexes = x) (had : List TGiven) (hl : had.length ≤ 900) (hl8 : l.length ≤ 8) (hlx : x.length = l.length) (hn : l.Nodup)
    (hg : ∀ q < l.length, 0 ≤ l.getD q 0 ∧ l.getD q 0 < (s.Barred.length : Int) ∧ s.Barred.getD (l.getD q 0).toNat false = false ∧ 0 ≤ x.getD q 0 ∧ x.getD q 0 < keysN c ∧ ∀ g ∈ had, ¬ (g.Worker = l.getD q 0 ∧ g.Index = x.getD q 0)) :
    Ev (fun k => juratlaw21_DocketKeys.l2 k c a1 (i : Int) s t had 0) (Sum.inl (had ++ pairs l x l.length)) := by
  refine Ev.loop (n := l.length) (F := fun k q (h : List TGiven) => juratlaw21_DocketKeys.l2 k c a1 (i : Int) s t h (q : Int)) (fun q h => h = had ++ pairs l x q) (fun q h hq hI => ?_) (fun h hI => ?_) _ (by simp [pairs])
  · subst hI
    obtain ⟨g1, g2, g3, g4, g5, g6⟩ := hg q hq
    have hlen : (had ++ pairs l x q).length = had.length + q := by rw [List.length_append, pairs_len]
    have h3 := keys_l3 (a1 := a1) (i := i) (t := t) hJ hW hX (had ++ pairs l x q) q (by omega) (fun g hm => by
      rcases List.mem_append.1 hm with hm | hm
      · exact g6 g hm
      · obtain ⟨p, hp, rfl⟩ := pairs_mem hm
        rintro ⟨e, _⟩
        exact nodup_take_get hn hq ((mem_take (0 : Int) (by omega)).2 ⟨p, hp, e⟩))
    unfold keysN at g5
    have hh := hc.h.1
    refine .inr ⟨had ++ pairs l x (q + 1), rfl, fun k => ?_⟩
    rw [pairs, ← List.append_assoc] at k
    simp only [juratlaw21_DocketKeys.l2, Int.toNat_natCast, hJ, hW, hX, wi64_j (show q < 9223372036854775807 by omega)]
    refine Ev.iteT (by omega) (Ev.iteT (by omega) (Ev.iteT (by omega) (Ev.bind (a := false) (Ev.iteF (by omega) (Ev.iteT hh (Ev.iteF (by omega) (Ev.iteT ⟨g1, g2⟩ ?_)))) (Ev.iteF (by simp) (Ev.bind h3 (Ev.iteT (by rw [hlen]; omega) k))))))
    rw [g3]
    exact Ev.pure _
  · subst hI
    simp only [juratlaw21_DocketKeys.l2, hJ, Int.toNat_natCast, hW]
    exact Ev.iteF (by omega) (Ev.pure _)
theorem DocketKeys (a0 : TConfig) (a1 : List TRecord) (h0 : ok23 a0) (h1 : ok24 a1) : ∃ k, juratlaw21_DocketKeys.f k a0 a1 = some true := by
  refine Ev.one (f := fun k => juratlaw21_DocketKeys.f k a0 a1) ?_
  unfold juratlaw21_DocketKeys.f
  obtain ⟨b, hb, hV⟩ := great_f (okData h1)
  refine Ev.bind hb ?_
  cases b with
  | true => exact Ev.iteT rfl (Ev.bind awake_f (Ev.pure _))
  | false =>
    obtain ⟨h80, hd⟩ := hV rfl
    refine Ev.iteF (by simp) (Ev.bind awake_f (Ev.iteT rfl (Ev.bind (new_f a0) ?_)))
    have hloop : Ev (fun k => juratlaw21_DocketKeys.l1 k a0 a1 [] 0 (newL a0).1) (Sum.inl ()) := by
      refine Ev.loop (n := a1.length) (F := fun k i (s : List TGiven × TState) => juratlaw21_DocketKeys.l1 k a0 a1 s.1 (i : Int) s.2) (fun i s => StOk s.2 ∧ Had s.1 s.2.Used ∧ s.1.length ≤ 8 * i) (fun i s hi hI => ?_) (fun s hI => ?_) (_, _) ⟨new_ok a0, fun g hg => (by cases hg), by simp⟩
      · obtain ⟨hS, hH, hL⟩ := hI
        have hr := hd _ (getD_mem TRecord.z hi)
        obtain ⟨t, e, hE, hok⟩ := apply_f a0 hS hr
        simp only [juratlaw21_DocketKeys.l1, Int.toNat_natCast, wi64_j (show i < 9223372036854775807 by omega), own_f hr.1, Option.bind_some]
        by_cases he : e = 0
        · obtain ⟨hc, hg, hrun⟩ := hok he
          by_cases h3 : (a1.getD i TRecord.z).Kind = 3
          · obtain ⟨hJ, l, hp, hU, hJl, hW, hX⟩ := run_assign h3 hrun
            obtain ⟨m1, m2, m3⟩ := pick_mem (u := s.2.Used) (b := s.2.Barred) (k := keysN a0) (n := 2 * a0.Faulty + 1) (by rw [hp])
            rw [hp] at m1 m2 m3
            dsimp only at m1 m2 m3
            have hF := hc.f
            have hjobs := hS.jobs
            obtain ⟨u1, u2⟩ := useL_len l s.2.Used
            have hle := useL_le l s.2.Used
            have hat := useL_at l s.2.Used m2 (fun w hw => ⟨(m3 w hw).1, (m3 w hw).2.1⟩)
            generalize hxe : (useL s.2.Used l).1 = x at hX u1 hat
            rw [← hU] at hle hat
            have eF : wi64 (wi64 (2 * a0.Faulty) + 1) = 2 * a0.Faulty + 1 := by rw [wi64_id (x := 2 * a0.Faulty) (by omega) (by omega), wi64_id (by omega) (by omega)]
            have eJ : wi64 ((a1.getD i TRecord.z).Job - 1) = (((a1.getD i TRecord.z).Job - 1).toNat : Int) := by rw [wi64_id (by omega) (by omega)]; omega
            have hl2 := keys_l2 hc (s := s.2) (t := t) (i := i) eJ hW hX s.1 (by omega) (by omega) u1 m2 (fun q hq => by
              have hm := m3 _ (getD_mem (0 : Int) hq)
              obtain ⟨e1, _⟩ := hat q hq
              have hu := used_le hc hg (l.getD q 0).toNat
              refine ⟨hm.1, by have := hg.u; have := hg.b; omega, hm.2.2.1, by rw [e1]; exact hu.1, by rw [e1]; exact hm.2.2.2, fun g hgm => ?_⟩
              rintro ⟨a, b⟩
              have := (hH g hgm).2
              rw [a, b, e1] at this
              omega)
            refine .inr ⟨(s.1 ++ pairs l x l.length, t), ⟨run_ok hc hS hg hr hrun, fun g hgm => ?_, by rw [List.length_append, pairs_len]; omega⟩, fun h => ?_⟩
            · rcases List.mem_append.1 hgm with hgm | hgm
              · have h1 := hH g hgm
                have h2 := (hle g.Worker.toNat).2
                exact ⟨h1.1, by dsimp only; omega⟩
              · obtain ⟨q, hq, rfl⟩ := pairs_mem hgm
                obtain ⟨e1, e2⟩ := hat q hq
                exact ⟨(m3 _ (getD_mem (0 : Int) hq)).1, by dsimp only; omega⟩
            · simp only [eJ, eF, Int.toNat_natCast, hW, hX]
              refine Ev.iteT (by omega) (Ev.iteT (by omega) (Ev.bind hE (Ev.iteT he (Ev.iteT h3 (Ev.iteT (by rw [hJl]; omega) (Ev.bind (a := false) (Ev.iteT (by dsimp only; rw [hW]; exact m1) ?_) (Ev.iteF (by simp) (Ev.bind hl2 h))))))))
              dsimp only
              rw [hW, hX, u1, decide_eq_true rfl]
              exact Ev.pure _
          · refine .inr ⟨(s.1, t), ⟨run_ok hc hS hg hr hrun, by rw [run_used h3 hrun]; exact hH, by dsimp only; omega⟩, fun h => ?_⟩
            exact Ev.iteT (by omega) (Ev.iteT (by omega) (Ev.bind hE (Ev.iteT he (Ev.iteF h3 h))))
        · refine .inr ⟨s, ⟨hS, hH, by omega⟩, fun h => ?_⟩
          exact Ev.iteT (by omega) (Ev.iteT (by omega) (Ev.bind hE (Ev.iteF he h)))
      · simp only [juratlaw21_DocketKeys.l1]
        exact Ev.iteF (by omega) (Ev.pure _)
    exact Ev.bind hloop (Ev.bind awake_f (Ev.pure _))
end Go.Proofs.Ytobdpbnadjkhiaa.Pure
