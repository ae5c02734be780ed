/- Functions of the program: each as a plain function of numbers and lists, and the proof that the program's own comes to it. Nothing is assumed but what each theorem says. -/
import Derived.Test.YtobdpbnadjkhiaaGreatTM3
namespace Go.Proofs.YtobdpbnadjkhiaaGreat
open Go.RowKit Go.WG
set_option linter.unusedVariables false
set_option linter.unusedSimpArgs false
set_option maxRecDepth 100000
set_option maxHeartbeats 4000000
def sK.l1 : Nat → List Int → List Int → Int → Option (Sum Unit Bool)
  | 0, _, _, _ => none
  | k + 1, b, d, a => if a < (b.length : Int) then (if 0 ≤ a ∧ a < (b.length : Int) then (if 0 ≤ a ∧ a < (d.length : Int) then (if (b.getD a.toNat 0) = (d.getD a.toNat 0) then (sK.l1 k b d (rB (a + 1))) else (some (Sum.inr false))) else none) else none) else (some (Sum.inl ()))
def sK.f (k : Nat) (a : List Int) (b : List Int) : Option Bool := if (a.length : Int) = (b.length : Int) then ((sK.l1 k a b 0).bind fun d => vS d (fun _ => some true) (fun e => some e)) else (some false)
theorem sK.calls (k w F R A ac) (j : List Int) (S B y) (l : List Int) (hp : Pre w F []) (aw : ac = j.length) (au : j.length ≤ A) (av : A ≤ maxLen) (ae : Sl KB F F R j) (ap : y = l.length) (an : l.length ≤ B) (ao : B ≤ maxLen) (aa : Sl KB F F S l) (Q : Bool) (H : sK.f k j l = some Q) :
    Calls Tryz.prog 11 #[.slice R ac A, .slice S y B] w fun e w' => e = .returned (.bool Q) ∧ (∃ p, w' = w.drewN p) := by
 have C := Ctx.start hp
 generalize sR [] = D at C
 have ad : ∃ p, w = w.drewN p := ⟨0, rfl⟩
 unfold sK.f at H
 refine Calls.ofW Tryz.func11 rfl (by simp [Tryz.ntmps11]) <| W.sr rfl <| WL.rd to 1 rfl <| W.seq <| W.sr rfl <| WL.run to 1 rfl <| WL.ln (j.length : Int) rfl tG (by omega) <| WL.run to 1 rfl <| WL.ln (l.length : Int) rfl tG (by omega) ?_
 refine WL.rd to 1 rfl ?_
 rcases rT H with ⟨m, H⟩ | ⟨m, H⟩
 ·refine W.nF m rfl <| W.skip <| W.seq <| W.sr rfl <| WL.rd to 1 rfl ?_
  obtain ⟨P, a, H⟩ := rE H
  refine W.vG (fun g r => Ctx w F D r F [] ∧ (∃ p, r = w.drewN p) ∧ P = Sum.inl ()) ?_ ?_
  ·refine W.block <| W.loop (fun Z g r => ∃ (b : Int), Kn g [(0, .slice R ac A), (1, .slice S y B), (5, iv b)] ∧ Ctx w F D r F [] ∧ (∃ p, r = w.drewN p) ∧ sK.l1 Z j l b = some P) k ⟨0, rfl, C, ad, a⟩ ?_
   clear a
   rintro Z g r ⟨b, ab, s, x, a⟩
   rcases Z with _ | af
   · exact absurd a (by simp [sK.l1])
   rw [sK.l1] at a
   apply ks g ab
   refine W.seq <| W.sr rfl <| WL.run to 2 rfl <| WL.ln (j.length : Int) rfl tG (by omega) <| WL.rd to 1 rfl ?_
   rcases rT a with ⟨o, a⟩ | ⟨o, a⟩
   ·refine W.cT o rfl <| W.skip <| W.seq <| W.block <| W.seq <| W.tY (by kernel_rfl) (by kernel_rfl) rfl ?_
    refine WQ.run to 2 rfl ?_
    obtain ⟨am, a⟩ := rV a
    obtain ⟨ar, aj, E, I⟩ := ae (by omega)
    refine WQ.vl (fun _ => Yl.rW (i := b) rfl rfl E tG sz5 (by omega)) ?_
    obtain ⟨ag, L, N⟩ := I b.toNat _ (getD_some (d := 0) (by omega))
    obtain rfl := L
    refine WQ.vl (fun _ => Yl.load (v := .int .u8 (j.getD b.toNat 0)) rfl u_5 rfl ((((s.drewN _).fro)).cell (N 0 _ rfl))) ?_
    refine WQ.run to 2 rfl ?_
    obtain ⟨ai, a⟩ := rV a
    obtain ⟨al, ak, G, J⟩ := aa (by omega)
    refine WQ.vl (fun _ => Yl.rW (i := b) rfl rfl G tG sz5 (by omega)) ?_
    obtain ⟨ah, M, O⟩ := J b.toNat _ (getD_some (d := 0) (by omega))
    obtain rfl := M
    refine WQ.vl (fun _ => Yl.load (v := .int .u8 (l.getD b.toNat 0)) rfl u_5 rfl ((((s.drewN _).fro)).cell (O 0 _ rfl))) ?_
    refine WQ.run to 1 rfl <| WQ.done (fun u => ?_)
    have T := Ctx.drewN s u
    have t := yX x u
    rcases rT a with ⟨h, a⟩ | ⟨h, a⟩
    ·refine W.nF h rfl <| W.skip <| tH <| W.region rfl ?_
     exact WL.rd to 3 rfl <| rF ⟨af, Nat.lt_succ_self _, rB (b + 1), rfl, T, t, a⟩
    refine W.nT h rfl <| W.sr rfl <| WL.rd to 1 rfl <| W.ret ?_
    iterate 6 first | refine uX ?_ | refine rS ?_
    cases a
    replace H := wB H
    have V := Option.some.inj H
    subst V
    exact rH (sE rfl rfl) ⟨rfl, t⟩
   refine W.cF o rfl <| W.exit <| rM <| rM <| sL ?_
   cases a
   refine rF ?_
   exact ⟨s, x, rfl⟩
  ·rintro g r ⟨aq, U, rfl⟩
   replace H := wI H
   refine W.sr rfl <| WL.rd to 1 rfl <| W.ret ?_
   have X := Option.some.inj H
   subst X
   exact rH (sE rfl rfl) ⟨rfl, U⟩
 refine W.nT m rfl <| W.sr rfl <| WL.rd to 1 rfl <| W.ret <| rS ?_
 have Y := Option.some.inj H
 subst Y
 exact rH (sE rfl rfl) ⟨rfl, ad⟩
def tK.l1 : Nat → List Int → Int → Int → Option Int
  | 0, _, _, _ => none
  | k + 1, b, d, a => if a < (b.length : Int) then (if 0 ≤ a ∧ a < (b.length : Int) then (tK.l1 k b (wR ((wR (d * 256)) + (wR (b.getD a.toNat 0)))) (rB (a + 1))) else none) else (some d)
def tK.f (k : Nat) (a : List Int) : Option (Int × Int) := if (a.length : Int) > 8 then (some (0, 1)) else ((tK.l1 k a 0 0).bind fun b => some (b, 0))
theorem tK.calls (k w F E x Q) (h : List Int) (hp : Pre w F []) (ag : Q = h.length) (ae : h.length ≤ x) (af : x ≤ maxLen) (V : Sl KB F F E h) (y : Int) (A : Int) (H : tK.f k h = some (y, A)) :
    Calls Tryz.prog 62 #[.slice E Q x] w fun e w' => e = .returned (.tuple #[(.int .u64 y), (iv A)]) ∧ (∃ l, w' = w.drewN l) := by
 have C := Ctx.start hp
 generalize sR [] = D at C
 have R : ∃ l, w = w.drewN l := ⟨0, rfl⟩
 unfold tK.f at H
 refine Calls.ofW Tryz.func62 rfl (by simp [Tryz.ntmps62]) <| W.sr rfl <| WL.rd to 2 rfl <| W.seq <| W.sr rfl <| WL.run to 1 rfl <| WL.ln (h.length : Int) rfl tG (by omega) <| WL.rd to 1 rfl ?_
 rcases rT H with ⟨u, H⟩ | ⟨u, H⟩
 ·refine W.cT u rfl <| W.sr rfl <| WL.rd to 2 rfl <| W.ret <| rS ?_
  obtain ⟨Z, S⟩ := sp H
  subst Z S
  exact rH (yI rfl rfl rfl) ⟨rfl, R⟩
 refine W.cF u rfl <| W.skip <| W.sr rfl <| WL.rd to 1 rfl <| W.seq <| W.sr rfl <| WL.rd to 1 rfl ?_
 obtain ⟨B, a, H⟩ := rE H
 refine W.vG (fun g o => g 4 = .int .u64 B ∧ Ctx w F D o F [] ∧ (∃ l, o = w.drewN l)) ?_ ?_
 ·refine W.block <| W.loop (fun I g o => ∃ (p : Int) (b : Int), Kn g [(0, .slice E Q x), (4, .int .u64 p), (5, iv b)] ∧ Ctx w F D o F [] ∧ (∃ l, o = w.drewN l) ∧ tK.l1 I h p b = some B) k ⟨0, 0, rfl, C, R, a⟩ ?_
  clear a
  rintro I g o ⟨p, b, N, s, t, a⟩
  rcases I with _ | X
  · exact absurd a (by simp [tK.l1])
  rw [tK.l1] at a
  apply ks g N
  refine W.seq <| W.sr rfl <| WL.run to 2 rfl <| WL.ln (h.length : Int) rfl tG (by omega) <| WL.rd to 1 rfl ?_
  rcases rT a with ⟨j, a⟩ | ⟨j, a⟩
  ·refine W.cT j rfl <| W.skip <| W.seq <| W.block <| W.region rfl ?_
   refine WL.run to 4 rfl ?_
   obtain ⟨aa, a⟩ := rV a
   obtain ⟨ad, ab, J, L⟩ := V (by omega)
   refine WL.val (Yl.rW (i := b) rfl rfl J tG sz5 (by omega)) ?_
   obtain ⟨Y, O, P⟩ := L b.toNat _ (getD_some (d := 0) (by omega))
   obtain rfl := O
   refine WL.val (Yl.load (v := .int .u8 (h.getD b.toNat 0)) rfl u_5 rfl (((s.fro)).cell (P 0 _ rfl))) <| WL.val (Yl.conv (m := h.getD b.toNat 0) (r := wR (h.getD b.toNat 0)) rfl u_5 Ab rfl) <| WL.rd to 2 rfl <| tH <| W.region rfl ?_
   exact WL.rd to 3 rfl <| rF ⟨X, Nat.lt_succ_self _, wR ((wR (p * 256)) + (wR (h.getD b.toNat 0))), rB (b + 1), rfl, s, t, a⟩
  refine W.cF j rfl <| W.exit <| rM <| rM <| sL ?_
  cases a
  refine rF ?_
  exact ⟨rfl, s, t⟩
 ·rintro g o ⟨M, ac, G⟩
  apply kn g (.c M .n)
  refine W.sr rfl <| WL.rd to 3 rfl <| W.ret ?_
  obtain ⟨T, U⟩ := sp H
  subst T U
  exact rH (yI rfl rfl rfl) ⟨rfl, G⟩
def tE.l1 : Nat → List Int → List Int → Int → Option (Sum Unit Bool)
  | 0, _, _, _ => none
  | k + 1, b, d, a => if a < (b.length : Int) then (if 0 ≤ a ∧ a < (b.length : Int) then (if 0 ≤ a ∧ a < (d.length : Int) then (if (b.getD a.toNat 0) = (d.getD a.toNat 0) then (tE.l1 k b d (rB (a + 1))) else (some (Sum.inr false))) else none) else none) else (some (Sum.inl ()))
def tE.f (k : Nat) (a : List Int) (b : List Int) : Option Bool := if (a.length : Int) = (b.length : Int) then ((tE.l1 k a b 0).bind fun d => vS d (fun _ => some true) (fun e => some e)) else (some false)
theorem tE.calls (k w F R A ac) (j : List Int) (S B y) (l : List Int) (hp : Pre w F []) (aw : ac = j.length) (au : j.length ≤ A) (av : A ≤ maxLen) (ae : Sl KI F F R j) (ap : y = l.length) (an : l.length ≤ B) (ao : B ≤ maxLen) (aa : Sl KI F F S l) (Q : Bool) (H : tE.f k j l = some Q) :
    Calls Tryz.prog 45 #[.slice R ac A, .slice S y B] w fun e w' => e = .returned (.bool Q) ∧ (∃ p, w' = w.drewN p) := by
 have C := Ctx.start hp
 generalize sR [] = D at C
 have ad : ∃ p, w = w.drewN p := ⟨0, rfl⟩
 unfold tE.f at H
 refine Calls.ofW Tryz.func45 rfl (by simp [Tryz.ntmps45]) <| W.sr rfl <| WL.rd to 1 rfl <| W.seq <| W.sr rfl <| WL.run to 1 rfl <| WL.ln (j.length : Int) rfl tM (by omega) <| WL.run to 1 rfl <| WL.ln (l.length : Int) rfl tM (by omega) ?_
 refine WL.rd to 1 rfl ?_
 rcases rT H with ⟨m, H⟩ | ⟨m, H⟩
 ·refine W.nF m rfl <| W.skip <| W.seq <| W.sr rfl <| WL.rd to 1 rfl ?_
  obtain ⟨P, a, H⟩ := rE H
  refine W.vG (fun g r => Ctx w F D r F [] ∧ (∃ p, r = w.drewN p) ∧ P = Sum.inl ()) ?_ ?_
  ·refine W.block <| W.loop (fun Z g r => ∃ (b : Int), Kn g [(0, .slice R ac A), (1, .slice S y B), (5, iv b)] ∧ Ctx w F D r F [] ∧ (∃ p, r = w.drewN p) ∧ tE.l1 Z j l b = some P) k ⟨0, rfl, C, ad, a⟩ ?_
   clear a
   rintro Z g r ⟨b, ab, s, x, a⟩
   rcases Z with _ | af
   · exact absurd a (by simp [tE.l1])
   rw [tE.l1] at a
   apply ks g ab
   refine W.seq <| W.sr rfl <| WL.run to 2 rfl <| WL.ln (j.length : Int) rfl tM (by omega) <| WL.rd to 1 rfl ?_
   rcases rT a with ⟨o, a⟩ | ⟨o, a⟩
   ·refine W.cT o rfl <| W.skip <| W.seq <| W.block <| W.seq <| W.tY (by kernel_rfl) (by kernel_rfl) rfl ?_
    refine WQ.run to 2 rfl ?_
    obtain ⟨am, a⟩ := rV a
    obtain ⟨ar, aj, E, I⟩ := ae (by omega)
    refine WQ.vl (fun _ => Yl.rW (i := b) rfl rfl E tM sz3 (by omega)) ?_
    obtain ⟨ag, L, N⟩ := I b.toNat _ (getD_some (d := 0) (by omega))
    obtain rfl := L
    refine WQ.vl (fun _ => Yl.load (v := iv (j.getD b.toNat 0)) rfl u_3 rfl ((((s.drewN _).fro)).cell (N 0 _ rfl))) ?_
    refine WQ.run to 2 rfl ?_
    obtain ⟨ai, a⟩ := rV a
    obtain ⟨al, ak, G, J⟩ := aa (by omega)
    refine WQ.vl (fun _ => Yl.rW (i := b) rfl rfl G tM sz3 (by omega)) ?_
    obtain ⟨ah, M, O⟩ := J b.toNat _ (getD_some (d := 0) (by omega))
    obtain rfl := M
    refine WQ.vl (fun _ => Yl.load (v := iv (l.getD b.toNat 0)) rfl u_3 rfl ((((s.drewN _).fro)).cell (O 0 _ rfl))) ?_
    refine WQ.run to 1 rfl <| WQ.done (fun u => ?_)
    have T := Ctx.drewN s u
    have t := yX x u
    rcases rT a with ⟨h, a⟩ | ⟨h, a⟩
    ·refine W.nF h rfl <| W.skip <| tH <| W.region rfl ?_
     exact WL.rd to 3 rfl <| rF ⟨af, Nat.lt_succ_self _, rB (b + 1), rfl, T, t, a⟩
    refine W.nT h rfl <| W.sr rfl <| WL.rd to 1 rfl <| W.ret ?_
    iterate 6 first | refine uX ?_ | refine rS ?_
    cases a
    replace H := wB H
    have V := Option.some.inj H
    subst V
    exact rH (sE rfl rfl) ⟨rfl, t⟩
   refine W.cF o rfl <| W.exit <| rM <| rM <| sL ?_
   cases a
   refine rF ?_
   exact ⟨s, x, rfl⟩
  ·rintro g r ⟨aq, U, rfl⟩
   replace H := wI H
   refine W.sr rfl <| WL.rd to 1 rfl <| W.ret ?_
   have X := Option.some.inj H
   subst X
   exact rH (sE rfl rfl) ⟨rfl, U⟩
 refine W.nT m rfl <| W.sr rfl <| WL.rd to 1 rfl <| W.ret <| rS ?_
 have Y := Option.some.inj H
 subst Y
 exact rH (sE rfl rfl) ⟨rfl, ad⟩
def tR.l1 : Nat → List rA → Int → Int → Option (Sum Unit Bool)
  | 0, _, _, _ => none
  | k + 1, b, d, a => if a < d then (if 0 ≤ a ∧ a < (b.length : Int) then (if 0 ≤ d ∧ d < (b.length : Int) then ((if ((b.getD a.toNat rA.z).Worker) = ((b.getD d.toNat rA.z).Worker) then ((sK.f k ((b.getD a.toNat rA.z).Value) ((b.getD d.toNat rA.z).Value)).bind fun g => some (g)) else (some (false))).bind fun e => if e = true then (some (Sum.inr false)) else (tR.l1 k b d (rB (a + 1)))) else none) else none) else (some (Sum.inl ()))
def tR.f (k : Nat) (a : List rA) (b : Int) : Option Bool := (tR.l1 k a b 0).bind fun d => vS d (fun _ => some true) (fun e => some e)
theorem tR.calls (k w F T P am) (p : List rA) (m : Int) (hp : Pre w F []) (aG : am = p.length) (aE : p.length ≤ P) (aF : P ≤ maxLen) (av : Sl rA.K F F T p) (an : Bool) (H : tR.f k p m = some an) :
    Calls Tryz.prog 101 #[.slice T am P, iv m] w fun e w' => e = .returned (.bool an) ∧ (∃ o, w' = w.drewN o) := by
 have C := Ctx.start hp
 generalize sR [] = D at C
 have aC : ∃ o, w = w.drewN o := ⟨0, rfl⟩
 unfold tR.f at H
 refine Calls.ofW Tryz.func101 rfl (by simp [Tryz.ntmps101]) <| W.sr rfl <| WL.rd to 1 rfl <| W.seq <| W.sr rfl <| WL.rd to 1 rfl ?_
 obtain ⟨R, a, H⟩ := rE H
 refine W.vG (fun b G => Ctx w F D G F [] ∧ (∃ o, G = w.drewN o) ∧ R = Sum.inl ()) ?_ ?_
 ·refine W.block <| W.loop (fun au b G => ∃ (g : Int), Kn b [(0, .slice T am P), (1, iv m), (5, iv g)] ∧ Ctx w F D G F [] ∧ (∃ o, G = w.drewN o) ∧ tR.l1 au p m g = some R) k ⟨0, rfl, C, aC, a⟩ ?_
  clear a
  rintro au b G ⟨g, af, j, I, a⟩
  rcases au with _ | Q
  · exact absurd a (by simp [tR.l1])
  rw [tR.l1] at a
  apply ks b af
  refine W.seq <| W.sr rfl <| WL.rd to 3 rfl ?_
  rcases rT a with ⟨r, a⟩ | ⟨r, a⟩
  ·refine W.cT r rfl <| W.skip <| W.seq <| W.block <| W.seq <| W.tY (by kernel_rfl) (by kernel_rfl) rfl ?_
   refine WQ.run to 2 rfl ?_
   obtain ⟨ay, a⟩ := rV a
   obtain ⟨aD, aA, l, L⟩ := av (by omega)
   refine WQ.vl (fun _ => Yl.rW (i := g) rfl rfl l wD yM (by omega)) ?_
   refine WQ.run to 1 rfl ?_
   obtain ⟨aw, ak, M⟩ := L g.toNat _ (getD_some (d := rA.z) (by omega))
   obtain ⟨u, y, B, rfl, ad, Z, ab, V⟩ := rA.open ak
   refine WQ.vl (fun _ => Yl.load (v := iv ((p.getD g.toNat rA.z).Worker)) rfl u_3 rfl ((((j.drewN _).fro)).cell (M 0 _ rfl))) ?_
   refine WQ.run to 2 rfl ?_
   obtain ⟨az, a⟩ := rV a
   refine WQ.vl (fun _ => Yl.rW (i := m) rfl rfl l wD yM (by omega)) ?_
   refine WQ.run to 1 rfl ?_
   obtain ⟨ax, al, N⟩ := L m.toNat _ (getD_some (d := rA.z) (by omega))
   obtain ⟨x, A, E, rfl, ae, aa, ac, X⟩ := rA.open al
   refine WQ.vl (fun _ => Yl.load (v := iv ((p.getD m.toNat rA.z).Worker)) rfl u_3 rfl ((((j.drewN _).fro)).cell (N 0 _ rfl))) ?_
   refine WQ.run to 2 rfl ?_
   obtain ⟨ar, h, a⟩ := rE a
   refine WQ.cut (fun b => b 34 = .bool ar ∧ b 0 = .slice T am P ∧ b 1 = iv m ∧ b 5 = iv g) ?_ ?_
   ·rcases rT h with ⟨s, h⟩ | ⟨s, h⟩
    ·refine WQ.kn 22 (cb (decide_eq_true s)) <| WQ.run to 2 rfl <| WQ.vOn rfl rfl (fun _ => Yl.rW (i := g) rfl rfl l wD yM (by omega)) ?_
     refine WQ.run to 1 rfl <| WQ.vOn rfl rfl (fun _ => Yl.load (v := .slice u B y) rfl tG rfl ((((j.drewN _).fro)).cell (M 1 _ rfl))) ?_
     refine WQ.run to 2 rfl <| WQ.vOn rfl rfl (fun _ => Yl.rW (i := m) rfl rfl l wD yM (by omega)) ?_
     refine WQ.run to 1 rfl <| WQ.vOn rfl rfl (fun _ => Yl.load (v := .slice x E A) rfl tG rfl ((((j.drewN _).fro)).cell (N 1 _ rfl))) ?_
     refine WQ.on rfl rfl ?_
     obtain ⟨S, Y, h⟩ := rE h
     refine WQ.call (v := .bool S) (f := 11) (args := #[.slice u B y, .slice x E A]) (fun _ hw => by obtain ⟨_, rfl⟩ := hw; exact (ne.fr rfl rfl)) (fun _ hw => by obtain ⟨o, rfl⟩ := hw; exact (sK.calls Q _ F u y B ((p.getD g.toNat rA.z).Value) x A E ((p.getD m.toNat rA.z).Value) (j.drewN o).tX ad Z ab V ae aa ac X S Y).mono (fun _ _ ⟨he, m_, hm_⟩ => ⟨he, o + m_, by rw [hm_, World.drewN_drewN]⟩)) ?_
     refine WQ.run to 1 rfl ?_
     cases h
     exact WQ.done ⟨rfl, rfl, rfl, rfl⟩
    refine WQ.kn 22 (cb (decide_eq_false s)) <| WQ.sN 11 22 true rfl rfl <| WQ.run to 1 rfl ?_
    cases h
    exact WQ.done ⟨rfl, rfl, rfl, rfl⟩
   ·rintro b ⟨ag, ah, ai, aj⟩
    intro O
    have ao := Ctx.drewN j O
    have J := yX I O
    apply kn b (.c ag (.c ah (.c ai (.c aj .n))))
    rcases rT a with ⟨t, a⟩ | ⟨t, a⟩
    ·refine W.uI (cb t) <| W.sr rfl <| WL.rd to 1 rfl <| W.ret ?_
     iterate 6 first | refine uX ?_ | refine rS ?_
     cases a
     replace H := wB H
     have ap := Option.some.inj H
     subst ap
     exact rH (sE rfl rfl) ⟨rfl, J⟩
    refine W.uD (cb (Bool.eq_false_iff.2 t)) <| W.skip <| tH <| W.region rfl ?_
    exact WL.rd to 3 rfl <| rF ⟨Q, Nat.lt_succ_self _, rB (g + 1), rfl, ao, J, a⟩
  refine W.cF r rfl <| W.exit <| rM <| rM <| sL ?_
  cases a
  refine rF ?_
  exact ⟨j, I, rfl⟩
 ·rintro b G ⟨aB, U, rfl⟩
  replace H := wI H
  refine W.sr rfl <| WL.rd to 1 rfl <| W.ret ?_
  have aq := Option.some.inj H
  subst aq
  exact rH (sE rfl rfl) ⟨rfl, U⟩
def tO.l1 : Nat → List rA → List Int → Int → Int → Option Int
  | 0, _, _, _, _ => none
  | k + 1, d, e, b, a => if a < (d.length : Int) then (if 0 ≤ a ∧ a < (d.length : Int) then ((sK.f k ((d.getD a.toNat rA.z).Value) e).bind fun h => (if h = true then ((tR.f k d a).bind fun i => some (i)) else (some (false))).bind fun g => if g = true then (tO.l1 k d e (rB (b + 1)) (rB (a + 1))) else (tO.l1 k d e b (rB (a + 1)))) else none) else (some b)
def tO.f (k : Nat) (b : List rA) (d : List Int) : Option Int := (tO.l1 k b d 0 0).bind fun a => some a
theorem tO.calls (k w F L I T) (u : List rA) (N J x) (G : List Int) (hp : Pre w F []) (aF : T = u.length) (aD : u.length ≤ I) (aE : I ≤ maxLen) (ap : Sl rA.K F F L u) (aA : x = G.length) (ay : G.length ≤ J) (az : J ≤ maxLen) (ax : Sl KB F F N G) (aq : Int) (H : tO.f k u G = some aq) :
    Calls Tryz.prog 97 #[.slice L T I, .slice N x J] w fun e w' => e = .returned (iv aq) ∧ (∃ t, w' = w.drewN t) := by
 have C := Ctx.start hp
 generalize sR [] = D at C
 have aK : ∃ t, w = w.drewN t := ⟨0, rfl⟩
 unfold tO.f at H
 refine Calls.ofW Tryz.func97 rfl (by simp [Tryz.ntmps97]) <| W.sr rfl <| WL.rd to 1 rfl <| W.sr rfl <| WL.rd to 1 rfl <| W.seq <| W.sr rfl <| WL.rd to 1 rfl ?_
 obtain ⟨U, a, H⟩ := rE H
 refine W.vG (fun b j => b 5 = iv U ∧ Ctx w F D j F [] ∧ (∃ t, j = w.drewN t)) ?_ ?_
 ·refine W.block <| W.loop (fun aw b j => ∃ (l : Int) (g : Int), Kn b [(0, .slice L T I), (1, .slice N x J), (5, iv l), (6, iv g)] ∧ Ctx w F D j F [] ∧ (∃ t, j = w.drewN t) ∧ tO.l1 aw u G l g = some U) k ⟨0, 0, rfl, C, aK, a⟩ ?_
  clear a
  rintro aw b j ⟨l, g, ah, m, A, a⟩
  rcases aw with _ | s
  · exact absurd a (by simp [tO.l1])
  rw [tO.l1] at a
  apply ks b ah
  refine W.seq <| W.sr rfl <| WL.run to 2 rfl <| WL.ln (u.length : Int) rfl wD (by omega) <| WL.rd to 1 rfl ?_
  rcases rT a with ⟨o, a⟩ | ⟨o, a⟩
  ·refine W.cT o rfl <| W.skip <| W.seq <| W.block <| W.sr rfl <| WL.run to 2 rfl ?_
   obtain ⟨aH, a⟩ := rV a
   obtain ⟨aL, aI, Y, aa⟩ := ap (by omega)
   refine WL.val (Yl.rW (i := g) rfl rfl Y wD yM (by omega)) <| WL.run to 1 rfl ?_
   obtain ⟨aG, an, ao⟩ := aa g.toNat _ (getD_some (d := rA.z) (by omega))
   obtain ⟨M, P, S, rfl, af, ad, ae, Z⟩ := rA.open an
   refine WL.val (Yl.load (v := .slice M S P) rfl tG rfl (((m.fro)).cell (ao 1 _ rfl))) <| WL.run to 1 rfl ?_
   obtain ⟨aB, ab, a⟩ := rE a
   refine WL.sI (sK.calls s _ F M P S ((u.getD g.toNat rA.z).Value) N J x G m.tX af ad ae Z aA ay az ax aB ab) (ne.fr rfl rfl) ?_
   rintro aM j ⟨rfl, ⟨Q, rfl⟩⟩
   refine ⟨_, rfl, ?_⟩
   have y := Ctx.drewN m Q
   have B := yX A Q
   refine WL.run to 1 rfl ?_
   obtain ⟨av, h, a⟩ := rE a
   refine WL.cut (fun b j => b 24 = .bool av ∧ b 0 = .slice L T I ∧ b 1 = .slice N x J ∧ b 5 = iv l ∧ b 6 = iv g ∧ Ctx w F D j F [] ∧ (∃ t, j = w.drewN t)) ?_ ?_
   ·rcases rT h with ⟨p, h⟩ | ⟨p, h⟩
    ·refine WL.kn 20 (cb p) <| WL.run to 2 rfl <| WL.on rfl rfl ?_
     obtain ⟨aC, ac, h⟩ := rE h
     refine WL.sI (tR.calls s _ F L I T u g y.tX aF aD aE ap aC ac) (ne.fr rfl rfl) ?_
     rintro aM j ⟨rfl, ⟨R, rfl⟩⟩
     refine ⟨_, rfl, ?_⟩
     have ar := Ctx.drewN y R
     have X := yX B R
     refine WL.run to 1 rfl ?_
     cases h
     exact WL.done ⟨rfl, rfl, rfl, rfl, rfl, ar, X⟩
    refine WL.kn 20 (cb (Bool.eq_false_iff.2 p)) <| WL.sN 3 20 true rfl rfl <| WL.run to 1 rfl ?_
    cases h
    exact WL.done ⟨rfl, rfl, rfl, rfl, rfl, y, B⟩
   ·rintro b j ⟨ai, aj, ak, al, am, O, E⟩
    apply kn b (.c ai (.c aj (.c ak (.c al (.c am .n)))))
    rcases rT a with ⟨r, a⟩ | ⟨r, a⟩
    ·refine W.uI (cb r) <| W.region rfl ?_
     refine WL.rd to 3 rfl <| tH <| W.region rfl ?_
     exact WL.rd to 3 rfl <| rF ⟨s, Nat.lt_succ_self _, rB (l + 1), rB (g + 1), rfl, O, E, a⟩
    refine W.uD (cb (Bool.eq_false_iff.2 r)) <| W.skip <| tH <| W.region rfl ?_
    exact WL.rd to 3 rfl <| rF ⟨s, Nat.lt_succ_self _, l, rB (g + 1), rfl, O, E, a⟩
  refine W.cF o rfl <| W.exit <| rM <| rM <| sL ?_
  cases a
  refine rF ?_
  exact ⟨rfl, m, A⟩
 ·rintro b j ⟨ag, aJ, V⟩
  apply kn b (.c ag .n)
  refine W.sr rfl <| WL.rd to 2 rfl <| W.ret ?_
  have au := Option.some.inj H
  subst au
  exact rH (sE rfl rfl) ⟨rfl, V⟩
def tA.l1 : Nat → List rA → Int → Int → Option (Sum Unit ((List Int) × Bool))
  | 0, _, _, _ => none
  | k + 1, b, d, a => if ((decide (a < (b.length : Int))) && (decide (d ≥ 0))) = true then (if 0 ≤ a ∧ a < (b.length : Int) then ((tO.f k b ((b.getD a.toNat rA.z).Value)).bind fun e => if e > d then (some (Sum.inr ((b.getD a.toNat rA.z).Value, true))) else (tA.l1 k b d (rB (a + 1)))) else none) else (some (Sum.inl ()))
def tA.f (k : Nat) (a : List rA) (b : Int) : Option ((List Int) × Bool) := (tA.l1 k a b 0).bind fun d => vS d (fun _ => some (([] : List Int), false)) (fun e => some e)
theorem tA.calls (k w F P O X) (j : List rA) (p : Int) (hp : Pre w F []) (av : X = j.length) (ar : j.length ≤ O) (au : O ≤ maxLen) (ag : Sl rA.K F F P j) (N : List Int) (ai : Bool) (H : tA.f k j p = some (N, ai)) :
    Calls Tryz.prog 88 #[.slice P X O, iv p] w fun e w' => ∃ Q y V, e = .returned (.tuple #[(.slice Q V y), (.bool ai)]) ∧ (∃ x, w' = w.drewN x) ∧ V = N.length ∧ N.length ≤ y ∧ y ≤ maxLen ∧ Sl KB F F Q N := by
 have C := Ctx.start hp
 generalize sR [] = D at C
 have az : ∃ x, w = w.drewN x := ⟨0, rfl⟩
 unfold tA.f at H
 refine Calls.ofW Tryz.func88 rfl (by simp [Tryz.ntmps88]) <| W.sr rfl <| WL.rd to 2 rfl <| W.seq <| W.sr rfl <| WL.rd to 1 rfl ?_
 obtain ⟨ah, a, H⟩ := rE H
 refine W.vG (fun b l => Ctx w F D l F [] ∧ (∃ x, l = w.drewN x) ∧ ah = Sum.inl ()) ?_ ?_
 ·refine W.block <| W.loop (fun ao b l => ∃ (g : Int), Kn b [(0, .slice P X O), (1, iv p), (6, iv g)] ∧ Ctx w F D l F [] ∧ (∃ x, l = w.drewN x) ∧ tA.l1 ao j p g = some ah) k ⟨0, rfl, C, az, a⟩ ?_
  clear a
  rintro ao b l ⟨g, ap, af, S, a⟩
  rcases ao with _ | T
  · exact absurd a (by simp [tA.l1])
  rw [tA.l1] at a
  apply ks b ap
  refine W.seq <| W.sr rfl <| WL.run to 2 rfl <| WL.ln (j.length : Int) rfl wD (by omega) <| WL.run to 2 rfl <| WL.cut (fun b l => b 14 = .bool ((decide (g < (j.length : Int))) && (decide (p ≥ 0))) ∧ b 0 = .slice P X O ∧ b 1 = iv p ∧ b 6 = iv g ∧ Ctx w F D l F [] ∧ (∃ x, l = w.drewN x)) ?_ ?_
  ·rcases Bool.eq_false_or_eq_true (decide (g < (j.length : Int))) with h | h
   ·exact WL.kn 11 (cb h) <| WL.run to 3 rfl <| WL.done ⟨(cb (show (decide (p ≥ 0)) = ((decide (g < (j.length : Int))) && (decide (p ≥ 0))) from by simp [h])), rfl, rfl, rfl, af, S⟩
   ·exact WL.kn 11 (cb h) <| WL.sN 2 11 true rfl rfl <| WL.run to 1 rfl <| WL.done ⟨(cb (show false = ((decide (g < (j.length : Int))) && (decide (p ≥ 0))) from by simp [h])), rfl, rfl, rfl, af, S⟩
  ·rintro b l ⟨aa, ab, ac, ad, o, A⟩
   apply kn b (.c aa (.c ab (.c ac (.c ad .n))))
   rcases rT a with ⟨s, a⟩ | ⟨s, a⟩
   ·refine W.uI (cb s) <| W.skip <| W.seq <| W.block <| W.sr rfl <| WL.run to 3 rfl ?_
    obtain ⟨ax, a⟩ := rV a
    obtain ⟨aA, ay, E, Y⟩ := ag (by omega)
    refine WL.val (Yl.rW (i := g) rfl rfl E wD yM (by omega)) <| WL.run to 1 rfl ?_
    obtain ⟨aw, ae, M⟩ := Y g.toNat _ (getD_some (d := rA.z) (by omega))
    obtain ⟨m, r, u, rfl, L, I, J, G⟩ := rA.open ae
    refine WL.val (Yl.load (v := .slice m u r) rfl tG rfl (((o.fro)).cell (M 1 _ rfl))) ?_
    obtain ⟨aq, Z, a⟩ := rE a
    refine WL.sI (tO.calls T _ F P O X j m r u ((j.getD g.toNat rA.z).Value) o.tX av ar au ag L I J G aq Z) (ne.fr rfl rfl) ?_
    rintro aC l ⟨rfl, ⟨U, rfl⟩⟩
    refine ⟨_, rfl, ?_⟩
    have R := Ctx.drewN o U
    have B := yX A U
    refine WL.rd to 2 rfl ?_
    rcases rT a with ⟨t, a⟩ | ⟨t, a⟩
    ·refine W.cT t rfl <| W.sr rfl <| WL.run to 2 rfl <| WL.val (Yl.rW (i := g) rfl rfl E wD yM (by omega)) <| WL.run to 1 rfl <| WL.val (Yl.load (v := .slice m u r) rfl tG rfl (((R.fro)).cell (M 1 _ rfl))) <| WL.rd to 2 rfl <| W.ret ?_
     iterate 6 first | refine uX ?_ | refine rS ?_
     cases a
     replace H := wB H
     obtain ⟨ak, al⟩ := sp H
     subst ak al
     exact rH (yI rfl rfl rfl) ⟨m, r, u, rfl, B, L, I, J, G⟩
    refine W.cF t rfl <| W.skip <| tH <| W.region rfl ?_
    exact WL.rd to 3 rfl <| rF ⟨T, Nat.lt_succ_self _, rB (g + 1), rfl, R, B, a⟩
   refine W.uD (cb (Bool.eq_false_iff.2 s)) <| W.exit <| rM <| rM <| sL ?_
   cases a
   refine rF ?_
   exact ⟨o, A, rfl⟩
 ·rintro b l ⟨aB, aj, rfl⟩
  replace H := wI H
  refine W.sr rfl <| WL.rd to 2 rfl <| W.ret ?_
  obtain ⟨am, an⟩ := sp H
  subst am an
  exact rH (yI rfl rfl rfl) ⟨none, 0, 0, rfl, aj, rfl, (Nat.le_refl _), (Nat.zero_le _), (Sl.nil _ _ _ _)⟩
def tW.l1 : Nat → List rA → List rA → Int → Option (Sum Unit Bool)
  | 0, _, _, _ => none
  | k + 1, b, d, a => if a < (b.length : Int) then (if 0 ≤ a ∧ a < (b.length : Int) then (if 0 ≤ a ∧ a < (d.length : Int) then ((if ((b.getD a.toNat rA.z).Worker) = ((d.getD a.toNat rA.z).Worker) then ((sK.f k ((b.getD a.toNat rA.z).Value) ((d.getD a.toNat rA.z).Value)).bind fun g => some (!g)) else (some (true))).bind fun e => if e = true then (some (Sum.inr false)) else (tW.l1 k b d (rB (a + 1)))) else none) else none) else (some (Sum.inl ()))
def tW.f (k : Nat) (a : List rA) (b : List rA) : Option Bool := if (a.length : Int) = (b.length : Int) then ((tW.l1 k a b 0).bind fun d => vS d (fun _ => some true) (fun e => some e)) else (some false)
theorem tW.calls (k w F X R au) (m : List rA) (Y S P) (s : List rA) (hp : Pre w F []) (aT : au = m.length) (aR : m.length ≤ R) (aS : R ≤ maxLen) (aE : Sl rA.K F F X m) (aQ : P = s.length) (aO : s.length ≤ S) (aP : S ≤ maxLen) (aC : Sl rA.K F F Y s) (av : Bool) (H : tW.f k m s = some av) :
    Calls Tryz.prog 46 #[.slice X au R, .slice Y P S] w fun e w' => e = .returned (.bool av) ∧ (∃ l, w' = w.drewN l) := by
 have C := Ctx.start hp
 generalize sR [] = D at C
 have aD : ∃ l, w = w.drewN l := ⟨0, rfl⟩
 unfold tW.f at H
 refine Calls.ofW Tryz.func46 rfl (by simp [Tryz.ntmps46]) <| W.sr rfl <| WL.rd to 1 rfl <| W.seq <| W.sr rfl <| WL.run to 1 rfl <| WL.ln (m.length : Int) rfl wD (by omega) <| WL.run to 1 rfl <| WL.ln (s.length : Int) rfl wD (by omega) ?_
 refine WL.rd to 1 rfl ?_
 rcases rT H with ⟨A, H⟩ | ⟨A, H⟩
 ·refine W.nF A rfl <| W.skip <| W.seq <| W.sr rfl <| WL.rd to 1 rfl ?_
  obtain ⟨U, a, H⟩ := rE H
  refine W.vG (fun g G => Ctx w F D G F [] ∧ (∃ l, G = w.drewN l) ∧ U = Sum.inl ()) ?_ ?_
  ·refine W.block <| W.loop (fun aB g G => ∃ (b : Int), Kn g [(0, .slice X au R), (1, .slice Y P S), (5, iv b)] ∧ Ctx w F D G F [] ∧ (∃ l, G = w.drewN l) ∧ tW.l1 aB m s b = some U) k ⟨0, rfl, C, aD, a⟩ ?_
   clear a
   rintro aB g G ⟨b, al, j, I, a⟩
   rcases aB with _ | T
   · exact absurd a (by simp [tW.l1])
   rw [tW.l1] at a
   apply ks g al
   refine W.seq <| W.sr rfl <| WL.run to 2 rfl <| WL.ln (m.length : Int) rfl wD (by omega) <| WL.rd to 1 rfl ?_
   rcases rT a with ⟨o, a⟩ | ⟨o, a⟩
   ·refine W.cT o rfl <| W.skip <| W.seq <| W.block <| W.seq <| W.tY (by kernel_rfl) (by kernel_rfl) rfl ?_
    refine WQ.run to 2 rfl ?_
    obtain ⟨aH, a⟩ := rV a
    obtain ⟨aM, aJ, L, ac⟩ := aE (by omega)
    refine WQ.vl (fun _ => Yl.rW (i := b) rfl rfl L wD yM (by omega)) ?_
    refine WQ.run to 1 rfl ?_
    obtain ⟨aF, aq, N⟩ := ac b.toNat _ (getD_some (d := rA.z) (by omega))
    obtain ⟨t, x, B, rfl, aj, af, ah, aa⟩ := rA.open aq
    refine WQ.vl (fun _ => Yl.load (v := iv ((m.getD b.toNat rA.z).Worker)) rfl u_3 rfl ((((j.drewN _).fro)).cell (N 0 _ rfl))) ?_
    refine WQ.run to 2 rfl ?_
    obtain ⟨aI, a⟩ := rV a
    obtain ⟨aN, aK, M, ad⟩ := aC (by omega)
    refine WQ.vl (fun _ => Yl.rW (i := b) rfl rfl M wD yM (by omega)) ?_
    refine WQ.run to 1 rfl ?_
    obtain ⟨aG, ar, O⟩ := ad b.toNat _ (getD_some (d := rA.z) (by omega))
    obtain ⟨u, y, E, rfl, ak, ag, ai, ab⟩ := rA.open ar
    refine WQ.vl (fun _ => Yl.load (v := iv ((s.getD b.toNat rA.z).Worker)) rfl u_3 rfl ((((j.drewN _).fro)).cell (O 0 _ rfl))) ?_
    refine WQ.run to 2 rfl ?_
    obtain ⟨aA, h, a⟩ := rE a
    refine WQ.cut (fun g => g 41 = .bool aA ∧ g 0 = .slice X au R ∧ g 1 = .slice Y P S ∧ g 5 = iv b) ?_ ?_
    ·rcases rT h with ⟨p, h⟩ | ⟨p, h⟩
     ·refine WQ.kn 28 (cb (wP p)) <| WQ.run to 2 rfl <| WQ.vOn rfl rfl (fun _ => Yl.rW (i := b) rfl rfl L wD yM (by omega)) ?_
      refine WQ.run to 1 rfl <| WQ.vOn rfl rfl (fun _ => Yl.load (v := .slice t B x) rfl tG rfl ((((j.drewN _).fro)).cell (N 1 _ rfl))) ?_
      refine WQ.run to 2 rfl <| WQ.vOn rfl rfl (fun _ => Yl.rW (i := b) rfl rfl M wD yM (by omega)) ?_
      refine WQ.run to 1 rfl <| WQ.vOn rfl rfl (fun _ => Yl.load (v := .slice u E y) rfl tG rfl ((((j.drewN _).fro)).cell (O 1 _ rfl))) ?_
      refine WQ.on rfl rfl ?_
      obtain ⟨V, ae, h⟩ := rE h
      refine WQ.call (v := .bool V) (f := 11) (args := #[.slice t B x, .slice u E y]) (fun _ hw => by obtain ⟨_, rfl⟩ := hw; exact (ne.fr rfl rfl)) (fun _ hw => by obtain ⟨l, rfl⟩ := hw; exact (sK.calls T _ F t x B ((m.getD b.toNat rA.z).Value) u y E ((s.getD b.toNat rA.z).Value) (j.drewN l).tX aj af ah aa ak ag ai ab V ae).mono (fun _ _ ⟨he, m_, hm_⟩ => ⟨he, l + m_, by rw [hm_, World.drewN_drewN]⟩)) ?_
      refine WQ.run to 2 rfl ?_
      cases h
      exact WQ.done ⟨rfl, rfl, rfl, rfl⟩
     refine WQ.kn 28 (cb (wQ p)) <| WQ.sN 12 28 false rfl rfl <| WQ.run to 1 rfl ?_
     cases h
     exact WQ.done ⟨rfl, rfl, rfl, rfl⟩
    ·rintro g ⟨am, an, ao, ap⟩
     intro Q
     have aw := Ctx.drewN j Q
     have J := yX I Q
     apply kn g (.c am (.c an (.c ao (.c ap .n))))
     rcases rT a with ⟨r, a⟩ | ⟨r, a⟩
     ·refine W.uI (cb r) <| W.sr rfl <| WL.rd to 1 rfl <| W.ret ?_
      iterate 6 first | refine uX ?_ | refine rS ?_
      cases a
      replace H := wB H
      have ax := Option.some.inj H
      subst ax
      exact rH (sE rfl rfl) ⟨rfl, J⟩
     refine W.uD (cb (Bool.eq_false_iff.2 r)) <| W.skip <| tH <| W.region rfl ?_
     exact WL.rd to 3 rfl <| rF ⟨T, Nat.lt_succ_self _, rB (b + 1), rfl, aw, J, a⟩
   refine W.cF o rfl <| W.exit <| rM <| rM <| sL ?_
   cases a
   refine rF ?_
   exact ⟨j, I, rfl⟩
  ·rintro g G ⟨aL, Z, rfl⟩
   replace H := wI H
   refine W.sr rfl <| WL.rd to 1 rfl <| W.ret ?_
   have ay := Option.some.inj H
   subst ay
   exact rH (sE rfl rfl) ⟨rfl, Z⟩
 refine W.nT A rfl <| W.sr rfl <| WL.rd to 1 rfl <| W.ret <| rS ?_
 have az := Option.some.inj H
 subst az
 exact rH (sE rfl rfl) ⟨rfl, aD⟩
def rJ.f (k : Nat) (a : sG) (e : Int) : Option (Int × sG) := if a.E = 0 then (if (a.B.length : Int) = 0 then (some (0, (⟨a.B, 40⟩ : sG))) else (if 0 ≤ (0 : Int) ∧ (0 : Int) < (a.B.length : Int) then (if (rB (a.B.getD (0 : Int).toNat 0)) > 8 then (some (0, (⟨a.B, 41⟩ : sG))) else (if (rB (a.B.getD (0 : Int).toNat 0)) > (rB ((a.B.length : Int) - 1)) then (some (0, (⟨a.B, 40⟩ : sG))) else ((if (rB (a.B.getD (0 : Int).toNat 0)) > 0 then (if 0 ≤ (1 : Int) ∧ (1 : Int) < (a.B.length : Int) then (some (decide ((a.B.getD (1 : Int).toNat 0) = 0))) else none) else (some (false))).bind fun d => if d = true then (some (0, (⟨a.B, 41⟩ : sG))) else (if 0 ≤ (1 : Int) ∧ (1 : Int) ≤ (rB (1 + (rB (a.B.getD (0 : Int).toNat 0)))) ∧ (rB (1 + (rB (a.B.getD (0 : Int).toNat 0)))) ≤ (a.B.length : Int) then ((tK.f k ((a.B.take ((rB (1 + (rB (a.B.getD (0 : Int).toNat 0)))).toNat)).drop ((1 : Int).toNat))).bind fun ⟨b, g⟩ => if b > e then (some (0, (⟨a.B, 42⟩ : sG))) else (if 0 ≤ (rB (1 + (rB (a.B.getD (0 : Int).toNat 0)))) ∧ (rB (1 + (rB (a.B.getD (0 : Int).toNat 0)))) ≤ (a.B.length : Int) ∧ (a.B.length : Int) ≤ (a.B.length : Int) then (some (b, (⟨a.B.drop ((rB (1 + (rB (a.B.getD (0 : Int).toNat 0)))).toNat), a.E⟩ : sG))) else none)) else none)))) else none)) else (some (0, a))
theorem rJ.calls (k w F p s g a h) (b : sG) (ae : Int) (hp : Pre w F [CH.row p s [.slice g h a, iv b.E]]) (x : h = b.B.length) (t : b.B.length ≤ a) (u : a ≤ maxLen) (l : Sl KB F F g b.B) (ad : Int) (A : sG) (H : rJ.f k b ae = some (ad, A)) :
    Calls Tryz.prog 35 #[.pointer (some ⟨p, s, none⟩), .int .u64 ae] w fun e w' => ∃ ab T ac, e = .returned (.int .u64 ad) ∧ Ctx w F (sR [CH.row p s [.slice g h a, iv b.E]]) w' F [CH.row p s [.slice ab ac T, iv A.E]] ∧ ac = A.B.length ∧ A.B.length ≤ T ∧ T ≤ maxLen ∧ Sl KB F F ab A.B := by
 have C := Ctx.start hp
 generalize hD : sR [CH.row p s [.slice g h a, iv b.E]] = D at C ⊢
 unfold rJ.f at H
 refine Calls.ofW Tryz.func35 rfl (by simp [Tryz.ntmps35]) <| W.sr rfl <| WL.rd to 1 rfl <| W.seq <| W.sr rfl <| WL.run to 3 rfl <| WL.lv C 0 1 rfl rfl u_3 rfl rfl <| WL.rd to 1 rfl ?_
 rcases rT H with ⟨G, H⟩ | ⟨G, H⟩
 ·refine W.nF G rfl <| W.skip <| W.seq <| W.sr rfl <| WL.run to 3 rfl <| WL.lv C 0 0 rfl rfl tG rfl rfl <| WL.ln (b.B.length : Int) rfl tG (by omega) <| WL.rd to 1 rfl ?_
  rcases rT H with ⟨I, H⟩ | ⟨I, H⟩
  ·refine W.cT I rfl <| W.sr rfl <| WL.run to 3 rfl ?_
   let a6 : CH := CH.row p s [.slice g h a, iv 40]
   refine WL.st C 0 1 [iv 40] rfl rfl rfl rfl (Put.lit 1 rfl) (rR rfl) sz3 fun y (aA : Cx [a6]) => ?_
   refine WL.done <| W.sr rfl <| WL.rd to 1 rfl <| W.ret <| rS ?_
   obtain ⟨aH, aI⟩ := sp H
   subst aH aI
   exact rH (sE rfl rfl) ⟨g, a, h, rfl, aA, x, t, u, l⟩
  refine W.cF I rfl <| W.skip <| W.sr rfl <| WL.run to 3 rfl <| WL.lv C 0 0 rfl rfl tG rfl rfl ?_
  obtain ⟨a1, H⟩ := rV H
  obtain ⟨bd, a5, U, X⟩ := l (by omega)
  refine WL.val (Yl.rW (i := 0) rfl rfl U tG sz5 (by omega)) ?_
  obtain ⟨aZ, ar, ax⟩ := X (0 : Int).toNat _ (getD_some (d := 0) (by omega))
  obtain rfl := ar
  refine WL.val (Yl.load (v := .int .u8 (b.B.getD (0 : Int).toNat 0)) rfl u_5 rfl (((C.fro)).cell (ax 0 _ rfl))) <| WL.val (Yl.conv (m := b.B.getD (0 : Int).toNat 0) (r := rB (b.B.getD (0 : Int).toNat 0)) rfl u_5 u_3 rfl) <| WL.rd to 1 rfl <| W.seq <| W.sr rfl <| WL.rd to 2 rfl ?_
  rcases rT H with ⟨J, H⟩ | ⟨J, H⟩
  ·refine W.cT J rfl <| W.sr rfl <| WL.run to 3 rfl ?_
   let a7 : CH := CH.row p s [.slice g h a, iv 41]
   refine WL.st C 0 1 [iv 41] rfl rfl rfl rfl (Put.lit 1 rfl) (rR rfl) sz3 fun y (aB : Cx [a7]) => ?_
   refine WL.done <| W.sr rfl <| WL.rd to 1 rfl <| W.ret <| rS ?_
   obtain ⟨aJ, aK⟩ := sp H
   subst aJ aK
   exact rH (sE rfl rfl) ⟨g, a, h, rfl, aB, x, t, u, l⟩
  refine W.cF J rfl <| W.skip <| W.seq <| W.sr rfl <| WL.run to 4 rfl <| WL.lv C 0 0 rfl rfl tG rfl rfl <| WL.ln (b.B.length : Int) rfl tG (by omega) <| WL.rd to 2 rfl ?_
  rcases rT H with ⟨L, H⟩ | ⟨L, H⟩
  ·refine W.cT L rfl <| W.sr rfl <| WL.run to 3 rfl ?_
   let a8 : CH := CH.row p s [.slice g h a, iv 40]
   refine WL.st C 0 1 [iv 40] rfl rfl rfl rfl (Put.lit 1 rfl) (rR rfl) sz3 fun y (aC : Cx [a8]) => ?_
   refine WL.done <| W.sr rfl <| WL.rd to 1 rfl <| W.ret <| rS ?_
   obtain ⟨aL, aM⟩ := sp H
   subst aL aM
   exact rH (sE rfl rfl) ⟨g, a, h, rfl, aC, x, t, u, l⟩
  refine W.cF L rfl <| W.skip <| W.seq <| W.sr rfl <| WL.run to 3 rfl ?_
  obtain ⟨aV, j, H⟩ := rE H
  let a9 : CH := CH.row p s [.slice g h a, iv b.E]
  refine WL.cut (fun o y => o 55 = .bool aV ∧ o 0 = .pointer (some ⟨p, s, none⟩) ∧ o 1 = .int .u64 ae ∧ o 5 = iv (rB (b.B.getD (0 : Int).toNat 0)) ∧ Ctx w F D y F [a9]) ?_ ?_
  ·rcases rT j with ⟨M, j⟩ | ⟨M, j⟩
   ·refine WL.kn 47 (cb (decide_eq_true M)) <| WL.run to 3 rfl <| WL.lvG C 0 0 rfl rfl rfl rfl tG rfl rfl ?_
    obtain ⟨a2, j⟩ := rV j
    refine WL.xC rfl rfl (Yl.rW (i := 1) rfl rfl U tG sz5 (by omega)) ?_
    obtain ⟨a0, au, ay⟩ := X (1 : Int).toNat _ (getD_some (d := 0) (by omega))
    obtain rfl := au
    refine WL.xC rfl rfl (Yl.load (v := .int .u8 (b.B.getD (1 : Int).toNat 0)) rfl u_5 rfl (((C.fro)).cell (ay 0 _ rfl))) <| WL.run to 2 rfl ?_
    cases j
    exact WL.done ⟨rfl, rfl, rfl, rfl, C⟩
   refine WL.kn 47 (cb (decide_eq_false M)) <| WL.sN 7 47 true rfl rfl <| WL.run to 1 rfl ?_
   cases j
   exact WL.done ⟨rfl, rfl, rfl, rfl, C⟩
  ·rintro o y ⟨an, ao, ap, aq, P⟩
   apply kn o (.c an (.c ao (.c ap (.c aq .n))))
   rcases rT H with ⟨N, H⟩ | ⟨N, H⟩
   ·refine W.uI (cb N) <| W.sr rfl <| WL.run to 3 rfl ?_
    let ba : CH := CH.row p s [.slice g h a, iv 41]
    refine WL.st P 0 1 [iv 41] rfl rfl rfl rfl (Put.lit 1 rfl) (rR rfl) sz3 fun y (aD : Cx [ba]) => ?_
    refine WL.done <| W.sr rfl <| WL.rd to 1 rfl <| W.ret <| rS ?_
    obtain ⟨aN, aO⟩ := sp H
    subst aN aO
    exact rH (sE rfl rfl) ⟨g, a, h, rfl, aD, x, t, u, l⟩
   refine W.uD (cb (Bool.eq_false_iff.2 N)) <| W.skip <| W.sr rfl <| WL.run to 3 rfl <| WL.lv P 0 0 rfl rfl tG rfl rfl <| WL.run to 2 rfl ?_
   obtain ⟨a3, H⟩ := rV H
   have ai : b.B.length ≤ a ∧ a ≤ maxLen := ⟨t, u⟩
   obtain ⟨az, aG, aW, av, am, ah, ak, af⟩ := Sl.cut l (c := a) ai.2 ((1 : Int).toNat) ((rB (1 + (rB (b.B.getD (0 : Int).toNat 0)))).toNat) a (by omega) (by omega) (by omega) (by omega)
   refine WL.val (Yl.slice ((1 : Int).toNat) ((rB (1 + (rB (b.B.getD (0 : Int).toNat 0)))).toNat) a rfl tG sz5 rfl (OB.mk rfl (by omega)) (OB.mk rfl (by omega)) (by simp) (by omega) (by omega) (by omega) av) ?_
   obtain ⟨⟨aX, aY⟩, ag, H⟩ := rE H
   refine WL.cq P (tK.calls k _ F az aG aW ((b.B.take ((rB (1 + (rB (b.B.getD (0 : Int).toNat 0)))).toNat)).drop ((1 : Int).toNat)) P.tX am ah ak af aX aY ag) (ne.fr rfl rfl) fun y R => ?_
   refine WL.rd to 5 rfl <| W.seq <| W.sr rfl <| WL.rd to 3 rfl ?_
   rcases rT H with ⟨O, H⟩ | ⟨O, H⟩
   ·refine W.cT O rfl <| W.sr rfl <| WL.run to 3 rfl ?_
    let bb : CH := CH.row p s [.slice g h a, iv 42]
    refine WL.st R 0 1 [iv 42] rfl rfl rfl rfl (Put.lit 1 rfl) (rR rfl) sz3 fun y (aE : Cx [bb]) => ?_
    refine WL.done <| W.sr rfl <| WL.rd to 1 rfl <| W.ret <| rS ?_
    obtain ⟨aP, aQ⟩ := sp H
    subst aP aQ
    exact rH (sE rfl rfl) ⟨g, a, h, rfl, aE, x, t, u, l⟩
   refine W.cF O rfl <| W.skip <| W.sr rfl <| WL.run to 4 rfl <| WL.lv R 0 0 rfl rfl tG rfl rfl <| WL.run to 2 rfl ?_
   obtain ⟨a4, H⟩ := rV H
   have aj : b.B.length ≤ a ∧ a ≤ maxLen := ⟨t, u⟩
   obtain ⟨Q, S, aa, aw, Z, Y, al, V⟩ := Sl.cut l (c := a) aj.2 ((rB (1 + (rB (b.B.getD (0 : Int).toNat 0)))).toNat) b.B.length a (by omega) (by omega) (by omega) (by omega)
   rw [List.take_length] at Z Y V
   refine WL.val (Yl.slice ((rB (1 + (rB (b.B.getD (0 : Int).toNat 0)))).toNat) b.B.length a rfl tG sz5 rfl (x).symm (OB.mk rfl (by omega)) (by simp) (by omega) (by omega) (by omega) aw) <| WL.run to 2 rfl ?_
   let bc : CH := CH.row p s [.slice Q aa S, iv b.E]
   refine WL.st R 0 0 [.slice Q aa S] rfl rfl rfl rfl (Put.lit 0 rfl) (rR rfl) AP fun y (aF : Cx [bc]) => ?_
   refine WL.done <| W.sr rfl <| WL.rd to 2 rfl <| W.ret ?_
   obtain ⟨aR, aS⟩ := sp H
   subst aR aS
   exact rH (sE rfl rfl) ⟨Q, S, aa, rfl, aF, Z, Y, al, V⟩
 refine W.nT G rfl <| W.sr rfl <| WL.rd to 1 rfl <| W.ret <| rS ?_
 obtain ⟨aT, aU⟩ := sp H
 subst aT aU
 exact rH (sE rfl rfl) ⟨g, a, h, rfl, C, x, t, u, l⟩
def tV.f (k : Nat) (d : sG) (e : Int) : Option ((List Int) × sG) := (rJ.f k d 18446744073709551615).bind fun ⟨b, a⟩ => if a.E = 0 then (if ((decide (e < 0)) || (decide (b > (wR e)))) = true then (some (([] : List Int), (⟨d.B, 42⟩ : sG))) else (if b > (wR (a.B.length : Int)) then (some (([] : List Int), (⟨d.B, 40⟩ : sG))) else (if 0 ≤ b ∧ b ≤ (a.B.length : Int) then (if ((a.B.take b.toNat).length + (a.B.take b.toNat).length / 4 + 192) * 1 ≤ 281474976710656 then (if 0 ≤ b ∧ b ≤ (a.B.length : Int) ∧ (a.B.length : Int) ≤ (a.B.length : Int) then (some (a.B.take b.toNat, (⟨a.B.drop b.toNat, a.E⟩ : sG))) else none) else none) else none))) else (some (([] : List Int), a))
theorem tV.calls (k w F h i j g o) (t : sG) (p : Int) (hp : Pre w F [CH.row h i [.slice j o g, iv t.E]]) (ad : o = t.B.length) (Y : t.B.length ≤ g) (ab : g ≤ maxLen) (V : Sl KB F F j t.B) (ai : List Int) (u : sG) (H : tV.f k t p = some (ai, u)) :
    Calls Tryz.prog 37 #[.pointer (some ⟨h, i, none⟩), iv p] w fun e w' => ∃ ak an ah ap al S ao, e = .returned (.slice ak ah an) ∧ Ctx w F (sR [CH.row h i [.slice j o g, iv t.E]]) w' F [CH.row h i [.slice al ao S, iv u.E], ap] ∧ ah = ai.length ∧ Row KB F ap (.slice ak ah an) ai ∧ ao = u.B.length ∧ u.B.length ≤ S ∧ S ≤ maxLen ∧ Sl KB F F al u.B := by
 have C := Ctx.start hp
 generalize hD : sR [CH.row h i [.slice j o g, iv t.E]] = D at C ⊢
 unfold tV.f at H
 refine Calls.ofW Tryz.func37 rfl (by simp [Tryz.ntmps37]) <| W.sr rfl <| WL.rd to 1 rfl <| W.sr rfl <| WL.run to 3 rfl <| WL.lv C 0 0 rfl rfl tG rfl rfl <| WL.rd to 1 rfl <| W.sr rfl <| WL.run to 1 rfl ?_
 obtain ⟨⟨b, d⟩, av, H⟩ := rE H
 let a2 : CH := CH.row h i [.slice j o g, iv t.E]
 refine WL.sI (rJ.calls k _ F h i j g o t 18446744073709551615 (C.pq 1) ad Y ab V b d av) (ne.fr rfl rfl) ?_
 rintro bg v ⟨I, a, M, rfl, aH, ac, X, aa, x⟩
 refine ⟨_, rfl, ?_⟩
 let aj : CH := CH.row h i [.slice I M a, iv d.E]
 have J : Cx [aj] := Ctx.cn 1 C aH
 refine WL.rd to 1 rfl <| W.seq <| W.sr rfl <| WL.run to 3 rfl <| WL.lv J 0 1 rfl rfl u_3 rfl rfl <| WL.rd to 1 rfl ?_
 rcases rT H with ⟨y, H⟩ | ⟨y, H⟩
 ·refine W.nF y rfl <| W.skip <| W.seq <| W.sr rfl <| WL.run to 3 rfl <| WL.cut (fun l v => l 26 = .bool ((decide (p < 0)) || (decide (b > (wR p)))) ∧ l 0 = .pointer (some ⟨h, i, none⟩) ∧ l 5 = .slice j o g ∧ l 6 = .int .u64 b ∧ Ctx w F D v F [aj]) ?_ ?_
  ·rcases Bool.eq_false_or_eq_true (decide (p < 0)) with s | s
   ·exact WL.kn 21 (cb s) <| WL.sN 4 21 false rfl rfl <| WL.run to 1 rfl <| WL.done ⟨(cb (show true = ((decide (p < 0)) || (decide (b > (wR p)))) from by simp [s])), rfl, rfl, rfl, J⟩
   ·exact WL.kn 21 (cb s) <| WL.run to 2 rfl <| WL.xC rfl rfl (Yl.conv (m := p) (r := wR p) rfl u_3 Ab rfl) <| WL.run to 2 rfl <| WL.done ⟨(cb (show (decide (b > (wR p))) = ((decide (p < 0)) || (decide (b > (wR p)))) from by simp [s])), rfl, rfl, rfl, J⟩
  ·rintro l v ⟨az, aA, aB, aC, L⟩
   apply kn l (.c az (.c aA (.c aB (.c aC .n))))
   rcases rT H with ⟨A, H⟩ | ⟨A, H⟩
   ·refine W.uI (cb A) <| W.sr rfl <| WL.run to 3 rfl ?_
    let a8 : CH := CH.row h i [.slice I M a, iv 42]
    refine WL.st L 0 1 [iv 42] rfl rfl rfl rfl (Put.lit 1 rfl) (rR rfl) sz3 fun v (aI : Cx [a8]) => ?_
    refine WL.done <| W.sr rfl <| WL.run to 4 rfl ?_
    let a3 : CH := CH.row h i [.slice j o g, iv 42]
    refine WL.st aI 0 0 [.slice j o g] rfl rfl rfl rfl (Put.lit 0 rfl) (rR rfl) AP fun v (aJ : Cx [a3]) => ?_
    refine WL.done <| W.sr rfl <| WL.rd to 1 rfl <| W.ret <| rS ?_
    have aK : Cx [a3, CH.emp] := aJ.pick [0, 1] rfl
    obtain ⟨aT, aU⟩ := sp H
    subst aT aU
    exact rH (sE rfl rfl) ⟨none, 0, 0, CH.emp, j, g, o, rfl, aK, rfl, (Row.nil _ _), ad, Y, ab, V⟩
   refine W.uD (cb (Bool.eq_false_iff.2 A)) <| W.skip <| W.seq <| W.sr rfl <| WL.run to 4 rfl <| WL.lv L 0 0 rfl rfl tG rfl rfl <| WL.ln (d.B.length : Int) rfl tG (by omega) <| WL.val (Yl.conv (m := (d.B.length : Int)) (r := wR (d.B.length : Int)) rfl u_3 Ab rfl) <| WL.rd to 1 rfl ?_
   rcases rT H with ⟨G, H⟩ | ⟨G, H⟩
   ·refine W.cT G rfl <| W.sr rfl <| WL.run to 3 rfl ?_
    let a9 : CH := CH.row h i [.slice I M a, iv 40]
    refine WL.st L 0 1 [iv 40] rfl rfl rfl rfl (Put.lit 1 rfl) (rR rfl) sz3 fun v (aL : Cx [a9]) => ?_
    refine WL.done <| W.sr rfl <| WL.run to 4 rfl ?_
    let a4 : CH := CH.row h i [.slice j o g, iv 40]
    refine WL.st aL 0 0 [.slice j o g] rfl rfl rfl rfl (Put.lit 0 rfl) (rR rfl) AP fun v (aM : Cx [a4]) => ?_
    refine WL.done <| W.sr rfl <| WL.rd to 1 rfl <| W.ret <| rS ?_
    have aN : Cx [a4, CH.emp] := aM.pick [0, 1] rfl
    obtain ⟨aV, aW⟩ := sp H
    subst aV aW
    exact rH (sE rfl rfl) ⟨none, 0, 0, CH.emp, j, g, o, rfl, aN, rfl, (Row.nil _ _), ad, Y, ab, V⟩
   refine W.cF G rfl <| W.skip <| W.sr rfl ?_
   obtain ⟨ba, bb, bc, bd, be, a7, aE, Q, aq⟩ := yC (P := Tryz.prog) 5 KB L tG ti5
   refine WL.val (aE _ _) <| WL.run to 3 rfl <| WL.lv Q 1 0 rfl rfl tG rfl rfl <| WL.run to 1 rfl ?_
   obtain ⟨ar, H⟩ := rV H
   have ay : b.toNat = (d.B.take b.toNat).length := by rw [List.length_take]; omega
   refine WL.val (Yl.GL rfl tG sz5 rfl ⟨ar.1, by omega⟩) ?_
   obtain ⟨au, H⟩ := rV H
   obtain ⟨aG, aS, a1, N, bf, ae, aF, aO, T⟩ := sP (P := Tryz.prog) (cb := a) 5 KB [] [aj] Q aq ay (Sl.take x _) Q.fro tG ti5 rfl zo5 (by decide) (by decide) (by simpa using au)
   have am : Cx [N, aj] := aO
   rw [List.nil_append] at ae T
   refine WL.val (aF _ _ _ _ rfl rfl) <| WL.rd to 1 rfl <| W.sr rfl <| WL.run to 4 rfl <| WL.lv am 1 0 rfl rfl tG rfl rfl <| WL.run to 1 rfl ?_
   obtain ⟨a6, H⟩ := rV H
   have aw : d.B.length ≤ a ∧ a ≤ maxLen := ⟨X, aa⟩
   obtain ⟨O, R, ag, aD, af, Z, ax, U⟩ := Sl.cut x (c := a) aw.2 b.toNat d.B.length a (by omega) (by omega) (by omega) (by omega)
   rw [List.take_length] at af Z U
   refine WL.val (Yl.slice b.toNat d.B.length a rfl tG sz5 rfl (ac).symm (OB.mk rfl (by omega)) (by simp) (by omega) (by omega) (by omega) aD) <| WL.run to 2 rfl ?_
   let a5 : CH := CH.row h i [.slice O ag R, iv d.E]
   refine WL.st am 1 0 [.slice O ag R] rfl rfl rfl rfl (Put.lit 0 rfl) (rR rfl) AP fun v (aP : Cx [N, a5]) => ?_
   refine WL.done <| W.sr rfl <| WL.rd to 2 rfl <| W.ret ?_
   have aQ : Cx [a5, N] := aP.pick [1, 0] rfl
   obtain ⟨aX, aY⟩ := sp H
   subst aX aY
   exact rH (sE rfl rfl) ⟨aG, aS, a1, N, O, R, ag, rfl, aQ, ae, T, af, Z, ax, U⟩
 refine W.nT y rfl <| W.sr rfl <| WL.rd to 1 rfl <| W.ret <| rS ?_
 have aR : Cx [aj, CH.emp] := J.pick [0, 1] rfl
 obtain ⟨aZ, a0⟩ := sp H
 subst aZ a0
 exact rH (sE rfl rfl) ⟨none, 0, 0, CH.emp, I, a, M, rfl, aR, rfl, (Row.nil _ _), ac, X, aa, x⟩
def sO.l1 : Nat → sG → Int → List Int → Option (List Int)
  | 0, _, _, _ => none
  | k + 1, d, a, b => if a < 32 then (if 0 ≤ a ∧ a < (d.B.length : Int) then (if 0 ≤ a ∧ a < (32 : Int) then (sO.l1 k d (rB (a + 1)) (b.set a.toNat (d.B.getD a.toNat 0))) else none) else none) else (some b)
def sO.f (k : Nat) (a : sG) : Option ((List Int) × sG) := if a.E = 0 then (if (a.B.length : Int) < 32 then (some ((List.replicate 32 (0 : Int)), (⟨a.B, 40⟩ : sG))) else ((sO.l1 k a 0 (List.replicate 32 (0 : Int))).bind fun b => if 0 ≤ (32 : Int) ∧ (32 : Int) ≤ (a.B.length : Int) ∧ (a.B.length : Int) ≤ (a.B.length : Int) then (some (b, (⟨a.B.drop ((32 : Int).toNat), a.E⟩ : sG))) else none)) else (some ((List.replicate 32 (0 : Int)), a))
theorem sO.calls (k w F x y G p I) (j : sG) (hp : Pre w F [CH.row x y [.slice G I p, iv j.E]]) (ai : I = j.B.length) (ag : j.B.length ≤ p) (ah : p ≤ maxLen) (Y : Sl KB F F G j.B) (ak : List Int) (O : sG) (H : sO.f k j = some (ak, O)) :
    Calls Tryz.prog 36 #[.pointer (some ⟨x, y, none⟩)] w fun e w' => ∃ ac S aj, e = .returned (.agg (List.toArray (ak.map (Value.int .u8)))) ∧ Ctx w F (sR [CH.row x y [.slice G I p, iv j.E]]) w' F [CH.row x y [.slice ac aj S, iv O.E]] ∧ ak.length = 32 ∧ aj = O.B.length ∧ O.B.length ≤ S ∧ S ≤ maxLen ∧ Sl KB F F ac O.B := by
 have C := Ctx.start hp
 generalize hD : sR [CH.row x y [.slice G I p, iv j.E]] = D at C ⊢
 unfold sO.f at H
 refine Calls.ofW Tryz.func36 rfl (by simp [Tryz.ntmps36]) <| W.sr rfl ?_
 obtain ⟨l, a1, aK, aQ⟩ := sU (P := Tryz.prog) (e := 23) ((List.replicate 32 (0 : Int)).map (Value.int .u8)) C D9 rfl
 refine WL.val (aK _ _) <| WL.done <| W.sr rfl ?_
 obtain ⟨r, a2, aL, L⟩ := sU (P := Tryz.prog) (e := 23) ((List.replicate 32 (0 : Int)).map (Value.int .u8)) aQ D9 rfl
 refine WL.val (aL _ _) <| WL.done <| W.seq <| W.sr rfl <| WL.run to 3 rfl <| WL.lv L 2 1 rfl rfl u_3 rfl rfl <| WL.rd to 1 rfl ?_
 rcases rT H with ⟨T, H⟩ | ⟨T, H⟩
 ·refine W.nF T rfl <| W.skip <| W.seq <| W.sr rfl <| WL.run to 3 rfl <| WL.lv L 2 0 rfl rfl tG rfl rfl <| WL.ln (j.B.length : Int) rfl tG (by omega) <| WL.rd to 1 rfl ?_
  rcases rT H with ⟨U, H⟩ | ⟨U, H⟩
  ·refine W.cT U rfl <| W.sr rfl <| WL.run to 3 rfl ?_
   let aN : CH := CH.row x y [.slice G I p, iv 40]
   refine WL.st L 2 1 [iv 40] rfl rfl rfl rfl (Put.lit 1 rfl) (rR rfl) sz3 fun J (ax : Cx [r0 r ((List.replicate 32 (0 : Int)).map (Value.int .u8)), r0 l ((List.replicate 32 (0 : Int)).map (Value.int .u8)), aN]) => ?_
   refine WL.done <| W.sr rfl <| WL.la ax 0 rfl rfl zC rfl (uY yL (rL (List.length_replicate ..))) <| WL.st ax 1 0 ((List.replicate 32 (0 : Int)).map (Value.int .u8)) rfl rfl rfl rfl (Put.all 32 (rL (List.length_replicate ..)) (rL (List.length_replicate ..))) (wN _ _) (uY yL (rL (List.length_replicate ..))) fun J (ay : Cx [r0 r ((List.replicate 32 (0 : Int)).map (Value.int .u8)), r0 l ((List.replicate 32 (0 : Int)).map (Value.int .u8)), aN]) => ?_
   refine WL.done <| W.ret <| rS ?_
   have aR : Cx [aN] := ay.pick [2] rfl
   obtain ⟨aS, aT⟩ := sp H
   subst aS aT
   exact rH (BU rfl ((.cell rfl (tS (g := l) (off := 0) (o := 0) (cs := (List.replicate 32 (0 : Int)).map (Value.int .u8)) (us := (List.replicate 32 (0 : Int)).map (Value.int .u8)) zC rfl (uY yL (rL (List.length_replicate ..))) (Ctx.rO 1 ay rfl) (xX _)) .nil))) ⟨G, p, I, rfl, aR, (List.length_replicate ..), ai, ag, ah, Y⟩
  refine W.cF U rfl <| W.skip <| W.seq <| W.sr rfl <| WL.rd to 1 rfl ?_
  obtain ⟨u, b, H⟩ := rE H
  let aO : CH := CH.row x y [.slice G I p, iv j.E]
  refine W.vG (fun s J => Kn s [(0, .pointer (some ⟨x, y, none⟩)), (2, pt l), (3, pt r)] ∧ Ctx w F D J F [r0 r (u.map (Value.int .u8)), r0 l ((List.replicate 32 (0 : Int)).map (Value.int .u8)), aO] ∧ u.length = 32) ?_ ?_
  ·refine W.block <| W.loop (fun aI s J => ∃ (a : Int) (m : List Int), Kn s [(0, .pointer (some ⟨x, y, none⟩)), (2, pt l), (3, pt r), (4, iv a)] ∧ Ctx w F D J F [r0 r (m.map (Value.int .u8)), r0 l ((List.replicate 32 (0 : Int)).map (Value.int .u8)), aO] ∧ m.length = 32 ∧ sO.l1 aI j a m = some u) k ⟨0, (List.replicate 32 (0 : Int)), rfl, L, (List.length_replicate ..), b⟩ ?_
   clear b
   rintro aI s J ⟨a, m, aq, M, h, b⟩
   rcases aI with _ | aM
   · exact absurd b (by simp [sO.l1])
   rw [sO.l1] at b
   apply ks s aq
   refine W.seq <| W.sr rfl <| WL.rd to 2 rfl ?_
   rcases rT b with ⟨N, b⟩ | ⟨N, b⟩
   ·refine W.cT N rfl <| W.skip <| W.seq <| W.block <| W.region rfl ?_
    refine WL.run to 4 rfl <| WL.lv M 2 0 rfl rfl tG rfl rfl <| WL.run to 1 rfl ?_
    obtain ⟨aW, b⟩ := rV b
    obtain ⟨aZ, aY, al, an⟩ := Y (by omega)
    refine WL.val (Yl.rW (i := a) rfl rfl al tG sz5 (by omega)) ?_
    obtain ⟨aV, ar, av⟩ := an a.toNat _ (getD_some (d := 0) (by omega))
    obtain rfl := ar
    refine WL.val (Yl.load (v := .int .u8 (j.B.getD a.toNat 0)) rfl u_5 rfl (((M.fro)).cell (av 0 _ rfl))) ?_
    obtain ⟨Z, b⟩ := rV b
    refine WL.val (Yl.Dl (i := a) rfl rfl zC sz5 Z) ?_
    have am : (m.set a.toNat (j.B.getD a.toNat 0)).length = 32 := by rw [List.length_set]; exact h
    obtain ⟨a0, aw, aA⟩ := Ha (P := Tryz.prog) (ps1 := []) (ps2 := [r0 l ((List.replicate 32 (0 : Int)).map (Value.int .u8)), CH.row x y [.slice G I p, iv j.E]]) (t := 5) (o := 0) (m.map (Value.int .u8)) ((m.set a.toNat (j.B.getD a.toNat 0)).map (Value.int .u8)) [] [] m .u8 a (j.B.getD a.toNat 0) M (by first | (simp only [List.length_append, List.length_map, List.length_cons, List.length_nil, h]; done) | simp [h]) (by first | (simp only [List.length_append, List.length_map, List.length_cons, List.length_nil, h]; done) | simp [h]) (by first | (simp only [List.length_append, List.length_map, List.length_cons, List.length_nil, h]; done) | simp [h]) (by have := h; have := Z; omega) sz5
    have aB : Cx [r0 r ((m.set a.toNat (j.B.getD a.toNat 0)).map (Value.int .u8)), r0 l ((List.replicate 32 (0 : Int)).map (Value.int .u8)), aO] := aA
    refine WL.skip (aw _ _ _ _ rfl rfl) <| WL.done <| tH <| W.region rfl ?_
    exact WL.rd to 3 rfl <| rF ⟨aM, Nat.lt_succ_self _, rB (a + 1), m.set a.toNat (j.B.getD a.toNat 0), rfl, aB, am, b⟩
   refine W.cF N rfl <| W.exit <| rM <| rM <| sL ?_
   cases b
   refine rF ?_
   exact ⟨rfl, M, h⟩
  ·rintro s J ⟨aJ, az, A⟩
   apply ks s aJ
   refine W.sr rfl <| WL.run to 4 rfl <| WL.lv az 2 0 rfl rfl tG rfl rfl ?_
   obtain ⟨aX, H⟩ := rV H
   have ao : j.B.length ≤ p ∧ p ≤ maxLen := ⟨ag, ah⟩
   obtain ⟨Q, R, V, au, ab, aa, ap, X⟩ := Sl.cut Y (c := p) ao.2 ((32 : Int).toNat) j.B.length p (by omega) (by omega) (by omega) (by omega)
   rw [List.take_length] at ab aa X
   refine WL.val (Yl.slice ((32 : Int).toNat) j.B.length p rfl tG sz5 rfl (ai).symm (OB.mk rfl (by omega)) (by simp) (by omega) (by omega) (by omega) au) <| WL.run to 2 rfl ?_
   let aP : CH := CH.row x y [.slice Q V R, iv j.E]
   refine WL.st az 2 0 [.slice Q V R] rfl rfl rfl rfl (Put.lit 0 rfl) (rR rfl) AP fun J (ad : Cx [r0 r (u.map (Value.int .u8)), r0 l ((List.replicate 32 (0 : Int)).map (Value.int .u8)), aP]) => ?_
   refine WL.done <| W.sr rfl <| WL.la ad 0 rfl rfl zC rfl (uY yL (rL A)) <| WL.st ad 1 0 (u.map (Value.int .u8)) rfl rfl rfl rfl (Put.all 32 (rL (List.length_replicate ..)) (rL A)) (wN _ _) (uY yL (rL A)) fun J (ae : Cx [r0 r (u.map (Value.int .u8)), r0 l (u.map (Value.int .u8)), aP]) => ?_
   refine WL.done <| W.ret ?_
   have aC : Cx [aP] := ae.pick [2] rfl
   obtain ⟨aE, aF⟩ := sp H
   subst aE aF
   exact rH (BU rfl ((.cell rfl (tS (g := l) (off := 0) (o := 0) (cs := u.map (Value.int .u8)) (us := u.map (Value.int .u8)) zC rfl (uY yL (rL A)) (Ctx.rO 1 ae rfl) (xX _)) .nil))) ⟨Q, R, V, rfl, aC, A, ab, aa, ap, X⟩
 refine W.nT T rfl <| W.sr rfl <| WL.la L 0 rfl rfl zC rfl (uY yL (rL (List.length_replicate ..))) ?_
 let aU : CH := CH.row x y [.slice G I p, iv j.E]
 refine WL.st L 1 0 ((List.replicate 32 (0 : Int)).map (Value.int .u8)) rfl rfl rfl rfl (Put.all 32 (rL (List.length_replicate ..)) (rL (List.length_replicate ..))) (wN _ _) (uY yL (rL (List.length_replicate ..))) fun J (af : Cx [r0 r ((List.replicate 32 (0 : Int)).map (Value.int .u8)), r0 l ((List.replicate 32 (0 : Int)).map (Value.int .u8)), aU]) => ?_
 refine WL.done <| W.ret <| rS ?_
 have aD : Cx [aU] := af.pick [2] rfl
 obtain ⟨aG, aH⟩ := sp H
 subst aG aH
 exact rH (BU rfl ((.cell rfl (tS (g := l) (off := 0) (o := 0) (cs := (List.replicate 32 (0 : Int)).map (Value.int .u8)) (us := (List.replicate 32 (0 : Int)).map (Value.int .u8)) zC rfl (uY yL (rL (List.length_replicate ..))) (Ctx.rO 1 af rfl) (xX _)) .nil))) ⟨G, p, I, rfl, aD, (List.length_replicate ..), ai, ag, ah, Y⟩
def uH.f (k : Nat) (a : sG) : Option (Int × sG) := (if a.E = 0 then (some (decide ((a.B.length : Int) > 0))) else (some (false))).bind fun b => if b = true then (some (43, (⟨a.B, 43⟩ : sG))) else (some (a.E, a))
theorem uH.calls (k w F i l h d j) (b : sG) (hp : Pre w F [CH.row i l [.slice h j d, iv b.E]]) (A : j = b.B.length) (x : b.B.length ≤ d) (y : d ≤ maxLen) (v : Sl KB F F h b.B) (I : Int) (m : sG) (H : uH.f k b = some (I, m)) :
    Calls Tryz.prog 38 #[.pointer (some ⟨i, l, none⟩)] w fun e w' => ∃ t s G, e = .returned (iv I) ∧ Ctx w F (sR [CH.row i l [.slice h j d, iv b.E]]) w' F [CH.row i l [.slice t G s, iv m.E]] ∧ G = m.B.length ∧ m.B.length ≤ s ∧ s ≤ maxLen ∧ Sl KB F F t m.B := by
 have C := Ctx.start hp
 generalize hD : sR [CH.row i l [.slice h j d, iv b.E]] = D at C ⊢
 unfold uH.f at H
 refine Calls.ofW Tryz.func38 rfl (by simp [Tryz.ntmps38]) <| W.sr rfl <| WL.rd to 1 rfl <| W.seq <| W.sr rfl <| WL.run to 3 rfl <| WL.lv C 0 1 rfl rfl u_3 rfl rfl <| WL.run to 2 rfl ?_
 obtain ⟨R, a, H⟩ := rE H
 let S : CH := CH.row i l [.slice h j d, iv b.E]
 refine WL.cut (fun g M => g 15 = .bool R ∧ g 0 = .pointer (some ⟨i, l, none⟩) ∧ Ctx w F D M F [S]) ?_ ?_
 ·rcases rT a with ⟨o, a⟩ | ⟨o, a⟩
  ·refine WL.kn 8 (cb (decide_eq_true o)) <| WL.run to 3 rfl <| WL.lvG C 0 0 rfl rfl rfl rfl tG rfl rfl <| WL.lnG (b.B.length : Int) rfl rfl rfl tG (by omega) <| WL.run to 2 rfl ?_
   cases a
   exact WL.done ⟨rfl, rfl, C⟩
  refine WL.kn 8 (cb (decide_eq_false o)) <| WL.sN 6 8 true rfl rfl <| WL.run to 1 rfl ?_
  cases a
  exact WL.done ⟨rfl, rfl, C⟩
 ·rintro g M ⟨J, L, r⟩
  apply kn g (.c J (.c L .n))
  rcases rT H with ⟨p, H⟩ | ⟨p, H⟩
  ·refine W.uI (cb p) <| W.region rfl ?_
   refine WL.run to 3 rfl ?_
   let T : CH := CH.row i l [.slice h j d, iv 43]
   refine WL.st r 0 1 [iv 43] rfl rfl rfl rfl (Put.lit 1 rfl) (rR rfl) sz3 fun M (u : Cx [T]) => ?_
   refine WL.done <| W.sr rfl <| WL.run to 3 rfl <| WL.lv u 0 1 rfl rfl u_3 rfl rfl <| WL.rd to 1 rfl <| W.ret ?_
   obtain ⟨N, O⟩ := sp H
   subst N O
   exact rH (sE rfl rfl) ⟨h, d, j, rfl, u, A, x, y, v⟩
  refine W.uD (cb (Bool.eq_false_iff.2 p)) <| W.skip <| W.sr rfl <| WL.run to 3 rfl <| WL.lv r 0 1 rfl rfl u_3 rfl rfl <| WL.rd to 1 rfl <| W.ret ?_
  obtain ⟨P, Q⟩ := sp H
  subst P Q
  exact rH (sE rfl rfl) ⟨h, d, j, rfl, r, A, x, y, v⟩
end Go.Proofs.YtobdpbnadjkhiaaGreat
