/- More words for the printed walks: cuts, sums, events on rows. -/
import Derived.Test.YtnlpmnegjgjiiaaGreatDoorLd
import Derived.Deep.Draws
namespace Go.WG
open Go.RowKit
section
variable {P : Program} {N : Nat} {Q : Exit → Env → World → Prop} {env : Env} {w w' : World}
theorem W.cutM {c : Code} (M : Env → World → Prop) (h : W P N c (thenE M Q) env w) (k : ∀ env w, M env w → Q .normal env w) : W P N c Q env w :=
  W.mono h fun e env' w' hq => by cases e <;> first | exact k _ _ hq | exact hq
end
def sumE {α β γ : Type} (o : Sum α β) (f : α → γ) (g : β → γ) : γ :=
  match o with
  | .inl a => f a
  | .inr b => g b
theorem sumE_l {α β γ : Type} {a : α} {f : α → Option γ} {g : β → Option γ} {r : γ} (h : sumE (Sum.inl a) f g = some r) : f a = some r := h
theorem sumE_r {α β γ : Type} {b : β} {f : α → Option γ} {g : β → Option γ} {r : γ} (h : sumE (Sum.inr b) f g = some r) : g b = some r := h
theorem drew_more {w w' : World} (h : ∃ n, w' = w.drewN n) (m : Nat) : ∃ n, w'.drewN m = w.drewN n := by
  obtain ⟨n, rfl⟩ := h
  exact ⟨n + m, by rw [World.drewN_drewN]⟩
section
variable {α : Type} {K : Kd α} {F p : CH} {A : Option Addr} {n c : Nat} {xs : List α} {v : Value}
theorem Row.sl (h : Row K F p (.slice A n c) xs) : Sl K F p A xs := by
  obtain ⟨A', c', e, _, _, hs⟩ := h.open_
  injection e with e1 _ _
  rw [e1]
  exact hs
theorem Row.len_le (h : Row K F p (.slice A n c) xs) : xs.length ≤ c ∧ c ≤ maxLen ∧ n = xs.length := by
  obtain ⟨A', c', e, h1, h2, _⟩ := h.open_
  injection e with _ e2 e3
  rw [e3]
  exact ⟨h1, h2, e2⟩
theorem slice_rep (h : (Kd.slice K).rep F xs [.slice A n c]) : xs.length ≤ c ∧ c ≤ maxLen ∧ Sl K F F A xs := by
  obtain ⟨A', c', e, h1, h2, hs⟩ := h
  injection e with e _
  injection e with e1 _ e3
  rw [e1, e3]
  exact ⟨h1, h2, hs⟩
end
section
variable {w0 w w' : World} {F0 F : CH} {D : Nat → Nat → Prop}
theorem Ctx.swap (ps1 ps2 : List CH) {a b : CH} (h : Ctx w0 F0 D w F (ps1 ++ a :: b :: ps2)) : Ctx w0 F0 D w F (ps1 ++ b :: a :: ps2) :=
  h.perm (List.Perm.append_left _ (List.Perm.swap _ _ _))
end
end Go.WG
namespace Go.WG
theorem ndec_t {p : Prop} [Decidable p] (h : p) : (!decide p) = false := by rw [decide_eq_true h]; rfl
theorem ndec_f {p : Prop} [Decidable p] (h : ¬ p) : (!decide p) = true := by rw [decide_eq_false h]; rfl
end Go.WG
namespace Go.WG
theorem nb_t {b : Bool} (h : b = true) : (!b) = false := by rw [h]; rfl
theorem nb_f {b : Bool} (h : ¬ b = true) : (!b) = true := by rw [Bool.eq_false_iff.2 h]; rfl
end Go.WG
