/- A closed run over a world: what it takes, and what it leaves. -/
import Derived.Test.YtnlpmnegjgjiiaaGreatDoorEv
namespace Go.CE
open Go Go.RowKit Go.Proofs.YtnlpmnegjgjiiaaGreatDoor
set_option linter.all false
/-- What is asked of one function's text. -/
noncomputable def txtP (C : Cfg) (f : Nat) (fn : Func) : Bool := cond (hb C.U f) (cond (fn.name == "runtime.NumGoroutine") false (cond fn.body.isSome (oe (C.X f) (oe fn.body true fun c => codeOk C.P fn.ntmps (C.O f) c) fun _ => true) false)) true
theorem Txt.of {C : Cfg} (hm : C.P.follows .mixedOrders = true) (h : allI (txtP C) C.P.funcs.toList 0 = true) : Txt C := by
  have key : ∀ f fn, hb C.U f = true → C.P.funcs[f]? = some fn → (fn.name == "runtime.NumGoroutine") = false ∧ fn.body.isSome = true ∧ oe (C.X f) (oe fn.body true fun c => codeOk C.P fn.ntmps (C.O f) c) (fun _ => true) = true := fun f fn hu hf => by
    have := allI_t h f fn (by simpa using hf)
    unfold txtP at this
    rw [Nat.zero_add, hu] at this
    have h1 : cond (fn.name == "runtime.NumGoroutine") false (cond fn.body.isSome (oe (C.X f) (oe fn.body true fun c => codeOk C.P fn.ntmps (C.O f) c) fun _ => true) false) = true := this
    cases hn : (fn.name == "runtime.NumGoroutine") with
    | true => rw [hn] at h1; cases h1
    | false => rw [hn] at h1; exact ⟨rfl, cond_t.1 h1⟩
  refine ⟨hm, fun f fn hu hf => ⟨(key f fn hu hf).1, (key f fn hu hf).2.1⟩, fun f fn c hu hf hx hb => ?_⟩
  have h2 := (key f fn hu hf).2.2
  rw [hx] at h2
  have h3 : oe fn.body true (fun c => codeOk C.P fn.ntmps (C.O f) c) = true := h2
  rw [hb] at h3
  exact h3
section
variable {X : Nat → Value} {w : World} {C : Cfg}
theorem laid_cells {g : Nat} {ns : List Nat} (h : WG.CH.le (WG.CH.row g 0 ((I ns).map (Value.int .u32))) (WG.whole w)) : w.rangeAt g 0 ((I ns).map (Value.int .u32)) := fun j v hj => by
  refine WG.look_v.1 (h g (0 + j) (.v v) ?_)
  unfold WG.CH.row
  rw [if_pos ⟨rfl, Nat.zero_le _⟩, Nat.zero_add, Nat.sub_zero, hj]
  rfl
theorem laid_below {g : Nat} {n : Nat} {ns : List Nat} (h : w.rangeAt g 0 ((I (n :: ns)).map (Value.int .u32))) : g < w.heap.size := by
  have h1 := h 0 (.int .u32 n) rfl
  rcases Nat.lt_or_ge g w.heap.size with hl | hl
  · exact hl
  · have h2 := WG.look_v.2 h1
    unfold WG.look at h2
    rw [Array.getElem?_eq_none hl] at h2
    cases h2
theorem laid_Cs {ρ : Rh} (ns : List Nat) : Cs ρ X (mp (fun n => V.i .u32 (.ofNat n)) ns) ((I ns).map (Value.int .u32)) := by
  have e : (I ns).map (Value.int .u32) = ns.map fun (n : Nat) => Value.int .u32 (n : Int) := by unfold I; rw [List.map_map]; rfl
  rw [mp_eq, e]
  exact ⟨RL.map _ fun b _ => .i _ _, fun u hu => by
    obtain ⟨b, _, rfl⟩ := List.mem_map.1 hu
    rfl⟩
/-- The laid variables. -/
theorem Gb.of (hG : C.G = fun g => oe (look [(1, mp (fun n => V.i .u32 (.ofNat n)) shaB), (3, mp (fun n => V.i .u32 (.ofNat n)) shaK)] g) [] fun v => v)
    (h1 : WG.CH.le (WG.CH.row 1 0 (glob1.map (Value.int .u32))) (WG.whole w)) (h2 : WG.CH.le (WG.CH.row 3 0 (glob3.map (Value.int .u32))) (WG.whole w)) : Gb X w.heap.size w C := by
  rw [glob_b] at h1
  rw [glob_k] at h2
  have r1 := laid_cells h1
  have r2 := laid_cells h2
  intro g hne
  rw [hG] at hne ⊢
  simp only [look_cons] at hne ⊢
  by_cases e1 : 1 = g
  · subst e1
    exact ⟨laid_below r1, _, laid_Cs shaB, r1⟩
  · rw [if_neg e1] at hne ⊢
    by_cases e2 : 3 = g
    · subst e2
      exact ⟨laid_below r2, _, laid_Cs shaK, r2⟩
    · rw [if_neg e2] at hne
      exact absurd rfl hne
theorem Wd.start : Wd X w.heap.size w (fun _ => none) ⟨.e, 0⟩ w :=
  ⟨Below.refl _ _, Nat.le_refl _, fun r _ => rfl, fun r L h => (by cases h), fun r r' L L' _ h => by cases h⟩
/-- A closed run from nothing: it answers what it answers in the kernel, and leaves all that was as it was. -/
theorem closed_run (hT : Txt C) (hA : Args C X) (hg : Gb X w.heap.size w C) (hX : ExtOk C X w.heap.size w) {k f : Nat} {l0 : List V} {xs : List Value} (hxs : RL (fun _ => none) X l0 xs) {v : V} {M' : Mem} (h : (fuel k).f C f l0 ⟨.e, 0⟩ = .ok v M') :
    Calls C.P f xs.toArray w fun e w' => ∃ y, e = .returned y ∧ (∃ ρ', Rv ρ' X v y) ∧ Below w.heap.size w w' :=
  ((run_R hT hA hg hX k f l0 _ v M' h).2 _ w xs hxs Wd.start).mono fun e w' hq => by
    obtain ⟨y, rfl, ρ', h1, h2⟩ := hq
    exact ⟨y, rfl, ⟨ρ', h1⟩, h2.wd.low⟩
/-- Does it answer true? -/
noncomputable def isT (q : Cr) : Bool := Cr.rec (fun v _ => oe (boolOf v) false fun t => t) (fun _ => false) q
theorem isT_ok {q : Cr} (h : isT q = true) : ∃ M', q = .ok (.b true) M' := by
  cases q with
  | bad _ => cases h
  | ok v M =>
    have h' : oe (boolOf v) false (fun t => t) = true := h
    cases hb : boolOf v with
    | none => rw [hb] at h'; cases h'
    | some t =>
      rw [hb] at h'
      have : t = true := h'
      subst this
      rw [boolOf_some.1 hb]
      exact ⟨M, rfl⟩
theorem Rv.true_ {ρ : Rh} {y : Value} (h : Rv ρ X (.b true) y) : y = .bool true := h.bool
end
end Go.CE
