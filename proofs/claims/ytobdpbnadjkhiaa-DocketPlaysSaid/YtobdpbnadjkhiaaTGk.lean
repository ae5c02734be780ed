/- Functions of the program: each as a plain function of numbers and lists, and the proof that the program's own comes to it. Nothing is assumed but what each theorem says. -/
import Derived.Test.YtobdpbnadjkhiaaTGt
namespace Go.Proofs.Ytobdpbnadjkhiaa
open Go.RowKit Go.WG
set_option linter.unusedVariables false
set_option linter.unusedSimpArgs false
set_option maxRecDepth 100000
set_option maxHeartbeats 4000000
def juratref21_in.f (k : Nat) (a : Int) (b : Int) (d : Int) : Option Bool := some ((decide (a ≥ b)) && (decide (a ≤ d)))
theorem juratref21_in.calls (k w F) (a : Int) (g : Int) (h : Int) (hp : Pre w F [])  (j : Bool) (H : juratref21_in.f k a g h = some j) :
    Calls Try.prog 35 #[iv a, iv g, iv h] w fun e w' => e = .returned (.bool j) ∧ (∃ i, w' = w.drewN i) := by
 have C := Ctx.start hp
 generalize domL [] = D at C
 have m : ∃ i, w = w.drewN i := ⟨0, rfl⟩
 unfold juratref21_in.f at H
 refine Calls.ofW Try.func35 rfl (by simp [Try.ntmps35]) <| W.sr rfl <| WL.rd to 1 rfl <| W.sr rfl <| WL.run to 4 rfl <| WL.cut (fun d l => d 6 = .bool ((decide (a ≥ g)) && (decide (a ≤ h))) ∧ Ctx w F D l F [] ∧ (∃ i, l = w.drewN i)) ?_ ?_
 ·rcases Bool.eq_false_or_eq_true (decide (a ≥ g)) with b | b
  ·exact WL.kn 10 (congrArg Value.bool b) <| WL.run to 5 rfl <| WL.done ⟨(congrArg Value.bool (show (decide (a ≤ h)) = ((decide (a ≥ g)) && (decide (a ≤ h))) from by simp [b])), C, m⟩
  ·exact WL.kn 10 (congrArg Value.bool b) <| WL.offs 3 10 true rfl rfl <| WL.run to 2 rfl <| WL.done ⟨(congrArg Value.bool (show false = ((decide (a ≥ g)) && (decide (a ≤ h))) from by simp [b])), C, m⟩
 ·rintro d l ⟨p, s, o⟩
  apply kn d (.c p .n)
  refine W.ret ?_
  have r := Option.some.inj H
  subst r
  exact post_r (resE1 rfl rfl) ⟨rfl, o⟩
def juratref21_Right.f (k : Nat) (a : TConfig) : Option Bool := (juratref21_in.f k a.Faulty 0 2).bind fun d => (if d = true then ((juratref21_in.f k a.Workers (wi64 ((wi64 (2 * a.Faulty)) + 1)) 8).bind fun e => if e = true then ((juratref21_in.f k a.Height 0 6).bind fun g => if g = true then ((juratref21_in.f k a.Heads 0 6).bind fun h => if h = true then ((juratref21_in.f k a.Bits 1 256).bind fun i => if i = true then ((juratref21_in.f k a.Jobs 1 64).bind fun j => if j = true then ((juratref21_in.f k a.Term 1 10000).bind fun l => some (l)) else (some (false))) else (some (false))) else (some (false))) else (some (false))) else (some (false))) else (some (false))).bind fun b => some b
theorem juratref21_Right.calls (k w F) (b : TConfig) (hp : Pre w F [])  (x : Bool) (H : juratref21_Right.f k b = some x) :
    Calls Try.prog 22 #[.agg (List.toArray (TConfig.q b))] w fun e w' => e = .returned (.bool x) ∧ Ctx w F (domL []) w' F [] := by
 have C := Ctx.start hp
 generalize hD : domL [] = D at C ⊢
 unfold juratref21_Right.f at H
 refine Calls.ofW Try.func22 rfl (by simp [Try.ntmps22]) <| W.sr rfl ?_
 let M : List Go.Value := TConfig.q b
 obtain ⟨ad, ae, U, y⟩ := ev_box (P := Try.prog) 23 (.agg (List.toArray M)) M C rfl
 refine WL.val (U _ _ _ rfl) <| WL.rd to 1 rfl <| W.sr rfl <| WL.run to 1 rfl <| WL.lv y 0 0 rfl rfl Try.underlying3 rfl rfl ?_
 obtain ⟨V, T, H⟩ := bindE H
 refine WL.cq y (juratref21_in.calls k _ F b.Faulty 0 2 y.pre0  V T) (ne.fr rfl rfl) fun d g => ?_
 refine WL.run to 1 rfl ?_
 obtain ⟨S, a, H⟩ := bindE H
 refine WL.cut (fun h d => h 2 = .bool S ∧ Ctx w F D d F [CH.row ad 0 M]) ?_ ?_
 ·rcases iteE a with ⟨i, a⟩ | ⟨i, a⟩
  ·refine WL.kn 6 (congrArg Value.bool i) <| WL.run to 1 rfl <| WL.lvG g 0 1 rfl rfl rfl rfl Try.underlying3 rfl rfl <| WL.run to 1 rfl <| WL.lvG g 0 0 rfl rfl rfl rfl Try.underlying3 rfl rfl <| WL.run to 2 rfl <| WL.on rfl rfl ?_
   obtain ⟨X, A, a⟩ := bindE a
   refine WL.cq g (juratref21_in.calls k _ F b.Workers (wi64 ((wi64 (2 * b.Faulty)) + 1)) 8 g.pre0  X A) (ne.fr rfl rfl) fun d r => ?_
   refine WL.run to 2 rfl ?_
   rcases iteE a with ⟨j, a⟩ | ⟨j, a⟩
   ·refine WL.kn 15 (congrArg Value.bool j) <| WL.run to 1 rfl <| WL.lvG r 0 2 rfl rfl rfl rfl Try.underlying3 rfl rfl <| WL.on rfl rfl ?_
    obtain ⟨Y, B, a⟩ := bindE a
    refine WL.cq r (juratref21_in.calls k _ F b.Height 0 6 r.pre0  Y B) (ne.fr rfl rfl) fun d s => ?_
    refine WL.run to 2 rfl ?_
    rcases iteE a with ⟨l, a⟩ | ⟨l, a⟩
    ·refine WL.kn 20 (congrArg Value.bool l) <| WL.run to 1 rfl <| WL.lvG s 0 6 rfl rfl rfl rfl Try.underlying3 rfl rfl <| WL.on rfl rfl ?_
     obtain ⟨Z, E, a⟩ := bindE a
     refine WL.cq s (juratref21_in.calls k _ F b.Heads 0 6 s.pre0  Z E) (ne.fr rfl rfl) fun d t => ?_
     refine WL.run to 2 rfl ?_
     rcases iteE a with ⟨m, a⟩ | ⟨m, a⟩
     ·refine WL.kn 25 (congrArg Value.bool m) <| WL.run to 1 rfl <| WL.lvG t 0 3 rfl rfl rfl rfl Try.underlying3 rfl rfl <| WL.on rfl rfl ?_
      obtain ⟨aa, G, a⟩ := bindE a
      refine WL.cq t (juratref21_in.calls k _ F b.Bits 1 256 t.pre0  aa G) (ne.fr rfl rfl) fun d u => ?_
      refine WL.run to 2 rfl ?_
      rcases iteE a with ⟨o, a⟩ | ⟨o, a⟩
      ·refine WL.kn 30 (congrArg Value.bool o) <| WL.run to 1 rfl <| WL.lvG u 0 4 rfl rfl rfl rfl Try.underlying3 rfl rfl <| WL.on rfl rfl ?_
       obtain ⟨ab, I, a⟩ := bindE a
       refine WL.cq u (juratref21_in.calls k _ F b.Jobs 1 64 u.pre0  ab I) (ne.fr rfl rfl) fun d v => ?_
       refine WL.run to 2 rfl ?_
       rcases iteE a with ⟨p, a⟩ | ⟨p, a⟩
       ·refine WL.kn 35 (congrArg Value.bool p) <| WL.run to 1 rfl <| WL.lvG v 0 5 rfl rfl rfl rfl Try.underlying3 rfl rfl <| WL.on rfl rfl ?_
        obtain ⟨ac, J, a⟩ := bindE a
        refine WL.cq v (juratref21_in.calls k _ F b.Term 1 10000 v.pre0  ac J) (ne.fr rfl rfl) fun d N => ?_
        refine WL.run to 2 rfl ?_
        cases a
        exact WL.done ⟨rfl, N⟩
       refine WL.kn 35 (congrArg Value.bool (Bool.eq_false_iff.2 p)) <| WL.offs 3 35 true rfl rfl <| WL.run to 2 rfl ?_
       cases a
       exact WL.done ⟨rfl, v⟩
      refine WL.kn 30 (congrArg Value.bool (Bool.eq_false_iff.2 o)) <| WL.offs 3 30 true rfl rfl <| WL.run to 2 rfl <| WL.offs 3 35 true rfl rfl <| WL.run to 2 rfl ?_
      cases a
      exact WL.done ⟨rfl, u⟩
     refine WL.kn 25 (congrArg Value.bool (Bool.eq_false_iff.2 m)) <| WL.offs 3 25 true rfl rfl <| WL.run to 2 rfl <| WL.offs 3 30 true rfl rfl <| WL.run to 2 rfl <| WL.offs 3 35 true rfl rfl <| WL.run to 2 rfl ?_
     cases a
     exact WL.done ⟨rfl, t⟩
    refine WL.kn 20 (congrArg Value.bool (Bool.eq_false_iff.2 l)) <| WL.offs 3 20 true rfl rfl <| WL.run to 2 rfl <| WL.offs 3 25 true rfl rfl <| WL.run to 2 rfl <| WL.offs 3 30 true rfl rfl <| WL.run to 2 rfl <| WL.offs 3 35 true rfl rfl <| WL.run to 2 rfl ?_
    cases a
    exact WL.done ⟨rfl, s⟩
   refine WL.kn 15 (congrArg Value.bool (Bool.eq_false_iff.2 j)) <| WL.offs 3 15 true rfl rfl <| WL.run to 2 rfl <| WL.offs 3 20 true rfl rfl <| WL.run to 2 rfl <| WL.offs 3 25 true rfl rfl <| WL.run to 2 rfl <| WL.offs 3 30 true rfl rfl <| WL.run to 2 rfl ?_
   refine WL.offs 3 35 true rfl rfl <| WL.run to 2 rfl ?_
   cases a
   exact WL.done ⟨rfl, r⟩
  refine WL.kn 6 (congrArg Value.bool (Bool.eq_false_iff.2 i)) <| WL.offs 7 6 true rfl rfl <| WL.run to 2 rfl <| WL.offs 3 15 true rfl rfl <| WL.run to 2 rfl <| WL.offs 3 20 true rfl rfl <| WL.run to 2 rfl <| WL.offs 3 25 true rfl rfl <| WL.run to 2 rfl ?_
  refine WL.offs 3 30 true rfl rfl <| WL.run to 2 rfl <| WL.offs 3 35 true rfl rfl <| WL.run to 2 rfl ?_
  cases a
  exact WL.done ⟨rfl, g⟩
 ·rintro h d ⟨L, O⟩
  apply kn h (.c L .n)
  refine W.ret ?_
  have Q : Cx [] := O.pick [] rfl
  have R := Option.some.inj H
  subst R
  exact post_r (resE1 rfl rfl) ⟨rfl, Q⟩
end Go.Proofs.Ytobdpbnadjkhiaa
