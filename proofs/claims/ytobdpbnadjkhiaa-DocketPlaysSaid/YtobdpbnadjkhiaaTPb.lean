/- Plain laws of the document's dockets: states that may be, copies, the same. -/
import Derived.Test.YtobdpbnadjkhiaaTPa
namespace Go.Proofs.Ytobdpbnadjkhiaa.Pure
open Go.WG Go.Proofs.Ytobdpbnadjkhiaa Go.Proofs.Ytobdpbnadjkhiaa.Ta
set_option linter.unusedSimpArgs false
set_option linter.unusedVariables false
theorem stateMay_f {c : TConfig} (hc : CfgOk c) {s : TState} (hs : StOk s) : Ev (fun k => juratref21_StateMay.f k c s) (B (Good c s)) := by
 unfold juratref21_StateMay.f
 have hH := hc.h.1; have hHd := hc.hd.1; have hK := hc.keys
 have hj1 := hs.jobs; have he1 := hs.eras; have hu1 := hs.used
 simp only [in_f, Option.bind_some, decide_eq_true_eq]
 have g0 : ∀ {X : Nat → Option Bool}, ¬ ((s.Used.length : Int) = c.Workers ∧ (s.Barred.length : Int) = c.Workers ∧ (0 ≤ s.Heads ∧ s.Heads ≤ shlOp .i64 1 c.Heads) ∧ s.Eras.length ≤ 256 ∧ (s.Jobs.length : Int) ≤ c.Jobs) →
   Ev (fun k => (if (s.Used.length : Int) = c.Workers then (if (s.Barred.length : Int) = c.Workers then (if 0 ≤ c.Heads then (if 0 ≤ s.Heads ∧ s.Heads ≤ shlOp .i64 1 c.Heads then (if (s.Eras.length : Int) > 256 then (some (true)) else (some (decide ((s.Jobs.length : Int) > c.Jobs)))) else (some (true))) else none) else (some (true))) else (some (true))).bind fun g => if g = true then (some false) else X k) (B (Good c s)) := by
  intro X hn
  rw [B_f fun k => hn ⟨k.u, k.b, k.h, k.e, k.j⟩]
  refine Ev.bind (a := true) ?_ (Ev.iteT rfl (Ev.pure _))
  refine (Ev.pure _).congr fun _ => ?_
  by_cases h1 : (s.Used.length : Int) = c.Workers
  ·by_cases h2 : (s.Barred.length : Int) = c.Workers
   ·by_cases h3 : 0 ≤ s.Heads ∧ s.Heads ≤ shlOp .i64 1 c.Heads
    ·rw [if_pos h1, if_pos h2, if_pos hHd, if_pos h3]
     by_cases h4 : (s.Eras.length : Int) > 256
     ·rw [if_pos h4]
     ·rw [if_neg h4, decide_eq_true (Int.not_le.1 fun k => hn ⟨h1, h2, h3, by omega, k⟩)]
    ·rw [if_pos h1, if_pos h2, if_pos hHd, if_neg h3]
   ·rw [if_pos h1, if_neg h2]
  ·rw [if_neg h1]
 by_cases hA : (s.Used.length : Int) = c.Workers ∧ (s.Barred.length : Int) = c.Workers ∧ (0 ≤ s.Heads ∧ s.Heads ≤ shlOp .i64 1 c.Heads) ∧ s.Eras.length ≤ 256 ∧ (s.Jobs.length : Int) ≤ c.Jobs
 ·obtain ⟨h1, h2, h3, h4, h5⟩ := hA
  refine Ev.bind (a := false) (Ev.iteT h1 (Ev.iteT h2 (Ev.iteT hHd (Ev.iteT h3 (Ev.iteF (by omega) (by rw [decide_eq_false (by omega)]; exact Ev.pure _)))))) (Ev.iteF (by simp) ?_)
  have hl1 : Ev (fun k => juratref21_StateMay.l1 k c s 0) (two (∀ i < s.Used.length, 0 ≤ s.Used.getD i 0 ∧ s.Used.getD i 0 ≤ keysN c) (Sum.inl ()) (Sum.inr false)) := by
   refine Ev.loop (n := s.Used.length) (F := fun k i (_ : Unit) => juratref21_StateMay.l1 k c s (i : Int)) (fun i _ => ∀ q < i, 0 ≤ s.Used.getD q 0 ∧ s.Used.getD q 0 ≤ keysN c) (fun i _ hi hI => ?_) (fun _ hI => ?_) () (fun q hq => by omega)
   ·simp only [juratref21_StateMay.l1, Int.toNat_natCast, in_f, Option.bind_some, decide_eq_true_eq, wi64_j (show i < 9223372036854775807 by omega)]
    by_cases h : 0 ≤ s.Used.getD i 0 ∧ s.Used.getD i 0 ≤ keysN c
    ·refine .inr ⟨(), fun q hq => ?_, fun k => Ev.iteT (by omega) (Ev.iteT (by omega) (Ev.iteT hH (Ev.iteT h k)))⟩
     by_cases e : q = i
     ·subst e; exact h
     ·exact hI q (by omega)
    ·rw [two_f fun k => h (k i hi)]
     exact .inl (Ev.iteT (by omega) (Ev.iteT (by omega) (Ev.iteT hH (Ev.iteF h (Ev.pure _)))))
   ·simp only [juratref21_StateMay.l1]
    rw [two_t hI]
    exact Ev.iteF (by omega) (Ev.pure _)
  have hl2 : Ev (fun k => juratref21_StateMay.l2 k s 0 0) (two (ErasOk 0 s.Eras) (Sum.inl ()) (Sum.inr false)) := by
   refine Ev.loop (n := s.Eras.length) (F := fun k i (l : Int) => juratref21_StateMay.l2 k s l (i : Int)) (fun i l => ErasOk 0 s.Eras ↔ ErasOk l (s.Eras.drop i)) (fun i l hi hI => ?_) (fun l hI => ?_) 0 Iff.rfl
   ·rw [drop_cons TEra.z hi] at hI
    simp only [juratref21_StateMay.l2, Int.toNat_natCast, wi64_j (show i < 9223372036854775807 by omega)]
    have st : (if (s.Eras.getD i TEra.z).Epoch ≤ l then some true else some (decide ((s.Eras.getD i TEra.z).Epoch > 1099511627776))) = some (!decide (l + 1 ≤ (s.Eras.getD i TEra.z).Epoch ∧ (s.Eras.getD i TEra.z).Epoch ≤ 1099511627776)) := by
     split
     ·rw [decide_eq_false (by omega)]; rfl
     ·congr 1
      rw [← decide_not]
      exact decide_eq_decide.2 (by omega)
    simp only [st, Option.bind_some]
    by_cases h : l + 1 ≤ (s.Eras.getD i TEra.z).Epoch ∧ (s.Eras.getD i TEra.z).Epoch ≤ 1099511627776
    ·exact .inr ⟨(s.Eras.getD i TEra.z).Epoch, hI.trans ⟨fun k => k.2, fun k => ⟨h, k⟩⟩, fun k => Ev.iteT (by omega) (Ev.iteT (by omega) (Ev.iteF (by rw [decide_eq_true h]; simp) k))⟩
    ·rw [two_f fun k => h (hI.1 k).1]
     exact .inl (Ev.iteT (by omega) (Ev.iteT (by omega) (Ev.iteT (by rw [decide_eq_false h]; rfl) (Ev.pure _))))
   ·simp only [juratref21_StateMay.l2]
    rw [two_t (hI.2 (by rw [List.drop_length]; trivial))]
    exact Ev.iteF (by omega) (Ev.pure _)
  have hl3 : Ev (fun k => juratref21_StateMay.l3 k c s 0) (two (∀ i < s.Jobs.length, Sound c s (s.Jobs.getD i TJob.z)) (Sum.inl ()) (Sum.inr false)) := by
   refine Ev.loop (n := s.Jobs.length) (F := fun k i (_ : Unit) => juratref21_StateMay.l3 k c s (i : Int)) (fun i _ => ∀ q < i, Sound c s (s.Jobs.getD q TJob.z)) (fun i _ hi hI => ?_) (fun _ hI => ?_) () (fun q hq => by omega)
   ·have hsd := jobMay_f hc s he1 (hs.each _ (getD_mem TJob.z hi))
    simp only [juratref21_StateMay.l3, Int.toNat_natCast, wi64_j (show i < 9223372036854775807 by omega)]
    by_cases h : Sound c s (s.Jobs.getD i TJob.z)
    ·rw [B_t h] at hsd
     refine .inr ⟨(), fun q hq => ?_, fun k => Ev.iteT (by omega) (Ev.iteT (by omega) (Ev.bind hsd (Ev.iteT rfl k)))⟩
     by_cases e : q = i
     ·subst e; exact h
     ·exact hI q (by omega)
    ·rw [B_f h] at hsd
     rw [two_f fun k => h (k i hi)]
     exact .inl (Ev.iteT (by omega) (Ev.iteT (by omega) (Ev.bind hsd (Ev.iteF (by simp) (Ev.pure _)))))
   ·simp only [juratref21_StateMay.l3]
    rw [two_t hI]
    exact Ev.iteF (by omega) (Ev.pure _)
  refine Ev.bind hl1 ?_
  by_cases g1 : ∀ i < s.Used.length, 0 ≤ s.Used.getD i 0 ∧ s.Used.getD i 0 ≤ keysN c
  ·simp only [two_t g1, sumE]
   refine Ev.bind hl2 ?_
   by_cases g2 : ErasOk 0 s.Eras
   ·simp only [two_t g2, sumE]
    refine Ev.bind hl3 ?_
    by_cases g3 : ∀ i < s.Jobs.length, Sound c s (s.Jobs.getD i TJob.z)
    ·simp only [two_t g3, sumE]
     rw [B_t ⟨h1, h2, h3, h4, h5, g1, g2, g3⟩]; exact Ev.pure _
    ·simp only [two_f g3, sumE]
     rw [B_f fun k => g3 k.jb]; exact Ev.pure _
   ·simp only [two_f g2, sumE]
    rw [B_f fun k => g2 k.er]; exact Ev.pure _
  ·simp only [two_f g1, sumE]
   rw [B_f fun k => g1 k.un]; exact Ev.pure _
 ·exact g0 hA
theorem copyS_f {s : TState} (hs : StOk s) : Ev (fun k => juratref21_Copy.f k s) s := by
 unfold juratref21_Copy.f
 have h1 := hs.eras; have h2 := hs.used; have h3 := hs.bar; have h4 := hs.jobs
 have hloop : Ev (fun k => juratref21_Copy.l1 k s 0 ⟨s.Eras, [], s.Used, s.Barred, s.Heads⟩) s := by
  refine Ev.loop (n := s.Jobs.length) (F := fun k i (x : TState) => juratref21_Copy.l1 k s (i : Int) x) (fun i x => x = ⟨s.Eras, s.Jobs.take i, s.Used, s.Barred, s.Heads⟩) (fun i x hi hI => ?_) (fun x hI => ?_) _ rfl
  ·subst hI
   have hj := hs.each _ (getD_mem TJob.z hi)
   have htl : (s.Jobs.take i).length = i := by rw [List.length_take]; omega
   have g1 := hj.pay.1; have g2 := hj.wk; have g3 := hj.ix; have g4 := hj.val.1
   refine .inr ⟨_, rfl, fun h => ?_⟩
   rw [take_succ TJob.z hi] at h
   simp only [juratref21_Copy.l1, Int.toNat_natCast, wi64_j (show i < 9223372036854775807 by omega)]
   refine Ev.iteT (by omega) (Ev.iteT (by omega) (Ev.iteT (by omega) (Ev.iteT (by omega) (Ev.iteT (by omega) (Ev.bind (copy_f hj.votes) (Ev.iteT (by omega) (Ev.iteT ?_ h)))))))
   rw [htl]; omega
  ·subst hI
   simp only [juratref21_Copy.l1, List.take_length]
   exact Ev.iteF (by omega) (Ev.pure _)
 exact Ev.iteT (by simp only [List.length_nil]; omega) (Ev.iteT (by simp only [List.length_nil]; omega) (Ev.iteT (by simp only [List.length_nil]; omega) (Ev.bind hloop (Ev.pure _))))
theorem sameS_f {s : TState} (hs : StOk s) : Ev (fun k => juratref21_Same.f k s s) true := by
 unfold juratref21_Same.f
 have h1 := hs.eras; have h2 := hs.used; have h3 := hs.bar; have h4 := hs.jobs
 have su := same18_f s.Used s.Used (by omega)
 rw [decide_eq_true rfl] at su
 have hl1 : Ev (fun k => juratref21_Same.l1 k s s 0) (Sum.inl ()) := by
  refine Ev.loop (n := s.Barred.length) (F := fun k i (_ : Unit) => juratref21_Same.l1 k s s (i : Int)) (fun _ _ => True) (fun i _ hi _ => ?_) (fun _ _ => ?_) () trivial
  ·simp only [juratref21_Same.l1, Int.toNat_natCast, wi64_j (show i < 9223372036854775807 by omega)]
   exact .inr ⟨(), trivial, fun k => Ev.iteT (by omega) (Ev.iteT (by omega) (Ev.iteT (by omega) (Ev.iteT trivial k)))⟩
  ·simp only [juratref21_Same.l1]
   exact Ev.iteF (by omega) (Ev.pure _)
 have hl2 : Ev (fun k => juratref21_Same.l2 k s s 0) (Sum.inl ()) := by
  refine Ev.loop (n := s.Eras.length) (F := fun k i (_ : Unit) => juratref21_Same.l2 k s s (i : Int)) (fun _ _ => True) (fun i _ hi _ => ?_) (fun _ _ => ?_) () trivial
  ·simp only [juratref21_Same.l2, Int.toNat_natCast, wi64_j (show i < 9223372036854775807 by omega)]
   exact .inr ⟨(), trivial, fun k => Ev.iteT (by omega) (Ev.iteT (by omega) (Ev.iteT (by omega) (Ev.iteT ⟨trivial, trivial⟩ k)))⟩
  ·simp only [juratref21_Same.l2]
   exact Ev.iteF (by omega) (Ev.pure _)
 have hl3 : Ev (fun k => juratref21_Same.l3 k s s 0) (Sum.inl ()) := by
  refine Ev.loop (n := s.Jobs.length) (F := fun k i (_ : Unit) => juratref21_Same.l3 k s s (i : Int)) (fun _ _ => True) (fun i _ hi _ => ?_) (fun _ _ => ?_) () trivial
  ·have hj := hs.each _ (getD_mem TJob.z hi)
   have g1 := hj.pay.1; have g2 := hj.wk; have g3 := hj.ix; have g4 := hj.val.1
   have p1 := same1_f (s.Jobs.getD i TJob.z).Payload (s.Jobs.getD i TJob.z).Payload (by omega)
   have p2 := same1_f (s.Jobs.getD i TJob.z).Value (s.Jobs.getD i TJob.z).Value (by omega)
   have p3 := same18_f (s.Jobs.getD i TJob.z).Workers (s.Jobs.getD i TJob.z).Workers (by omega)
   have p4 := same18_f (s.Jobs.getD i TJob.z).Indexes (s.Jobs.getD i TJob.z).Indexes (by omega)
   have p5 := same19_f hj.votes
   rw [decide_eq_true rfl] at p1 p2 p3 p4
   simp only [juratref21_Same.l3, Int.toNat_natCast, wi64_j (show i < 9223372036854775807 by omega)]
   exact .inr ⟨(), trivial, fun k => Ev.iteT (by omega) (Ev.iteT (by omega) (Ev.iteT (by omega) (Ev.bind (a := false) (Ev.iteT trivial (Ev.iteT trivial (Ev.iteT trivial (Ev.iteT trivial (Ev.bind p1 (Ev.iteT rfl (Ev.bind p2 (Ev.iteT rfl (Ev.bind p3 (Ev.iteT rfl (Ev.bind p4 (Ev.iteT rfl (Ev.bind p5 (Ev.pure _)))))))))))))) (Ev.iteF (by simp) k))))⟩
  ·simp only [juratref21_Same.l3]
   exact Ev.iteF (by omega) (Ev.pure _)
 refine Ev.bind (a := false) (Ev.iteT rfl (Ev.bind su (Ev.iteT rfl (Ev.iteT rfl (Ev.iteT rfl (by rw [decide_eq_true rfl]; exact Ev.pure _)))))) (Ev.iteF (by simp) ?_)
 exact Ev.bind hl1 (Ev.bind hl2 (Ev.bind hl3 (Ev.pure _)))
end Go.Proofs.Ytobdpbnadjkhiaa.Pure
