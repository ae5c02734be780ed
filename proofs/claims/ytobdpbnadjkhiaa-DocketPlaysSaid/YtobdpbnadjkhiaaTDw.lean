/- Plain laws of dockets: the document's example. -/
import Derived.Test.YtobdpbnadjkhiaaTGh
import Derived.Test.YtobdpbnadjkhiaaTDg
import Derived.KernelRfl
namespace Go.Proofs.Ytobdpbnadjkhiaa.Pure
open Go.WG Go.Proofs.Ytobdpbnadjkhiaa Go.Proofs.Ytobdpbnadjkhiaa.Ta
set_option linter.unusedVariables false
set_option linter.unusedSimpArgs false
set_option maxRecDepth 100000 in
theorem awake_f : Ev (fun k => juratlaw21_awake.f k) true := by
 refine ⟨20, fun k hk => ?_⟩
 obtain ⟨m, rfl⟩ : ∃ m, k = m + 20 := ⟨k - 20, by omega⟩
 show juratlaw21_awake.f (m + 20) = some true
 kernel_rfl
theorem great_f {l : List TRecord} (hb : ∀ r ∈ l, ∀ x ∈ r.Data, 0 ≤ x ∧ x < 256) : ∃ b, Ev (fun k => juratlaw21_Great.f k l) b ∧ (b = false → l.length ≤ 80 ∧ ∀ r ∈ l, Byt r.Data) := by
 unfold juratlaw21_Great.f
 by_cases h80 : (l.length : Int) > 80
 ·exact ⟨true, Ev.iteT h80 (Ev.pure _), fun h => by cases h⟩
 ·have hloop : Ev (fun k => juratlaw21_Great.l1 k l 0) (two (∀ r ∈ l, r.Data.length ≤ 200) (Sum.inl ()) (Sum.inr true)) := by
   refine Ev.loop (n := l.length) (F := fun k i (_ : Unit) => juratlaw21_Great.l1 k l (i : Int)) (fun i _ => ∀ r ∈ l.take i, r.Data.length ≤ 200) (fun i _ hi hI => ?_) (fun _ hI => ?_) () (by simp)
   ·simp only [juratlaw21_Great.l1, Int.toNat_natCast, wi64_j (show i < 9223372036854775807 by omega)]
    by_cases g : (l.getD i TRecord.z).Data.length ≤ 200
    ·refine .inr ⟨(), fun r hr => ?_, fun k => Ev.iteT (by omega) (Ev.iteT (by omega) (Ev.iteF (by omega) k))⟩
     rw [take_succ TRecord.z hi] at hr
     rcases List.mem_append.1 hr with hr | hr
     ·exact hI r hr
     ·rw [List.mem_singleton.1 hr]; exact g
    ·rw [two_f fun k => g (k _ (getD_mem TRecord.z hi))]
     exact .inl (Ev.iteT (by omega) (Ev.iteT (by omega) (Ev.iteT (by omega) (Ev.pure _))))
   ·simp only [juratlaw21_Great.l1]
    rw [List.take_length] at hI
    rw [two_t hI]
    exact Ev.iteF (by omega) (Ev.pure _)
  by_cases g : ∀ r ∈ l, r.Data.length ≤ 200
  ·rw [two_t g] at hloop
   exact ⟨false, Ev.iteF h80 (Ev.bind hloop (Ev.pure _)), fun _ => ⟨by omega, fun r hr => ⟨g r hr, hb r hr⟩⟩⟩
  ·rw [two_f g] at hloop
   exact ⟨true, Ev.iteF h80 (Ev.bind hloop (Ev.pure _)), fun h => by cases h⟩
theorem own_f {r : TRecord} (h : r.Data.length ≤ 200) (k : Nat) : juratlaw21_own.f k r = some r := by
 unfold juratlaw21_own.f
 rw [if_pos (by omega)]
end Go.Proofs.Ytobdpbnadjkhiaa.Pure
