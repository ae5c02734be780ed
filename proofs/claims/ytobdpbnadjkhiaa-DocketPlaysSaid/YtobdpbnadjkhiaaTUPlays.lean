/- DocketPlays, as a plain law. -/
import Derived.Test.YtobdpbnadjkhiaaTPPlays
import Derived.Test.YtobdpbnadjkhiaaTPc
import Derived.Test.YtobdpbnadjkhiaaTDw
namespace Go.Proofs.Ytobdpbnadjkhiaa.Pure
open Go.WG Go.Proofs.Ytobdpbnadjkhiaa Go.Proofs.Ytobdpbnadjkhiaa.Ta
set_option linter.unusedSimpArgs false
set_option linter.unusedVariables false
theorem DocketPlays (a0 : TConfig) (a1 : List TRecord) (h0 : ok23 a0) (h1 : ok24 a1) : ∃ k, juratlaw21_DocketPlays.f k a0 a1 = some true := by
 refine Ev.one (f := fun k => juratlaw21_DocketPlays.f k a0 a1) ?_
 unfold juratlaw21_DocketPlays.f
 obtain ⟨b, hb, hV⟩ := great_f (okData h1)
 refine Ev.bind hb ?_
 cases b with
 | true => exact Ev.iteT rfl (Ev.bind awake_f (Ev.pure _))
 | false =>
  obtain ⟨h80, hd⟩ := hV rfl
  have hck : Ev (fun k => docket_Check.f k a0) (newL a0).2 := by
   have := check_f a0
   unfold newL
   by_cases h : CfgOk a0
   ·rw [if_pos h] at this ⊢; exact this
   ·rw [if_neg h] at this ⊢; exact this
  have e1 := new_f a0; have e2 := refNew_f a0; have hok := new_ok a0
  generalize newL a0 = n at e1 e2 hck hok
  obtain ⟨n, e⟩ := n
  refine Ev.iteF (by simp) (Ev.bind e1 (Ev.bind e2 (Ev.bind (a := false) (Ev.iteT rfl (Ev.bind (sameS_f hok) (Ev.iteT rfl (Ev.bind hck ((Ev.pure false).congr fun _ => by rw [decide_eq_true rfl]; rfl))))) (Ev.iteF (by simp) ?_))))
  have hloop : Ev (fun k => juratlaw21_DocketPlays.l1 k a0 a1 0 n n) (Sum.inl ()) := by
   refine Ev.loop (n := a1.length) (F := fun k i (s : TState) => juratlaw21_DocketPlays.l1 k a0 a1 (i : Int) s s) (fun i s => StOk s) (fun i s hi hI => ?_) (fun s hI => ?_) _ hok
   ·have hr := hd _ (getD_mem TRecord.z hi)
    obtain ⟨t, e, hE, hF, hT⟩ := both_f a0 hI hr
    simp only [juratlaw21_DocketPlays.l1, Int.toNat_natCast, wi64_j (show i < 9223372036854775807 by omega), own_f hr.1, Option.bind_some]
    have hab : Ev (fun k => (if e = e then ((juratref21_Same.f k t t).bind fun u => if u = true then ((juratref21_Same.f k s s).bind fun v => some (!v)) else (some true)) else (some true))) false :=
     Ev.iteT rfl (Ev.bind (sameS_f hT) (Ev.iteT rfl (Ev.bind (sameS_f hI) (Ev.pure _))))
    have end_ : ∀ {x : TState}, StOk x → Ev (fun k => juratlaw21_DocketPlays.l1 k a0 a1 ((i + 1 : Nat) : Int) x x) (Sum.inl ()) → Ev (fun k => (docket_Nonce.f k x ((a1.getD i TRecord.z).Epoch)).bind fun ⟨l, m⟩ => (juratref21_Nonce.f k x ((a1.getD i TRecord.z).Epoch)).bind fun ⟨o, p⟩ => (if l = o then (if m = p then ((docket_Epoch.f k x).bind fun w => (juratref21_Epoch.f k x).bind fun x => some (!decide (w = x))) else (some true)) else (some true)).bind fun A => if A = true then (some (Sum.inr false)) else (juratlaw21_DocketPlays.l1 k a0 a1 ((i + 1 : Nat) : Int) x x)) (Sum.inl ()) := fun {x} hx h => by
     refine Ev.bind (nonce_f x _ hx.eras) (Ev.bind (refNonce_f x _ hx.eras) (Ev.bind (a := false) (Ev.iteT rfl (Ev.iteT rfl (Ev.bind (epo_f x hx.eras) (Ev.bind (refEpo_f x hx.eras) (by rw [decide_eq_true rfl]; exact Ev.pure _))))) (Ev.iteF (by simp) h)))
    by_cases he : e = 0
    ·refine .inr ⟨t, hT, fun h => ?_⟩
     exact Ev.iteT (by omega) (Ev.bind (copyS_f hI) (Ev.iteT (by omega) (Ev.bind hE (Ev.bind hF (Ev.bind hab (Ev.iteF (by simp) (Ev.bind (a := (t, t)) (Ev.iteT he (Ev.pure _)) (end_ hT h))))))))
    ·refine .inr ⟨s, hI, fun h => ?_⟩
     exact Ev.iteT (by omega) (Ev.bind (copyS_f hI) (Ev.iteT (by omega) (Ev.bind hE (Ev.bind hF (Ev.bind hab (Ev.iteF (by simp) (Ev.bind (a := (s, s)) (Ev.iteF he (Ev.pure _)) (end_ hI h))))))))
   ·simp only [juratlaw21_DocketPlays.l1]
    exact Ev.iteF (by omega) (Ev.pure _)
  exact Ev.bind hloop (Ev.bind awake_f (Ev.pure _))
end Go.Proofs.Ytobdpbnadjkhiaa.Pure
