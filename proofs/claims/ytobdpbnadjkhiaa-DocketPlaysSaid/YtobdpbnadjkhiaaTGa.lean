/- Functions of the program: each as a plain function of numbers and lists, and the proof that the program's own comes to it. Nothing is assumed but what each theorem says. -/
import Derived.Test.YtobdpbnadjkhiaaTGt
namespace Go.Proofs.Ytobdpbnadjkhiaa
open Go.RowKit Go.WG
set_option linter.unusedVariables false
set_option linter.unusedSimpArgs false
set_option maxRecDepth 100000
set_option maxHeartbeats 4000000
def juratref01_Same.l1 : Nat → List Int → List Int → Int → Option (Sum Unit Bool)
  | 0, _, _, _ => none
  | k + 1, b, d, a => if a < (b.length : Int) then (if 0 ≤ a ∧ a < (b.length : Int) then (if 0 ≤ a ∧ a < (d.length : Int) then (if (b.getD a.toNat 0) = (d.getD a.toNat 0) then (juratref01_Same.l1 k b d (wi64 (a + 1))) else (some (Sum.inr false))) else none) else none) else (some (Sum.inl ()))
def juratref01_Same.f (k : Nat) (a : List Int) (b : List Int) : Option Bool := if (a.length : Int) = (b.length : Int) then ((juratref01_Same.l1 k a b 0).bind fun d => sumE d (fun _ => some true) (fun e => some e)) else (some false)
theorem juratref01_Same.calls (k w F R A ac) (j : List Int) (S B y) (l : List Int) (hp : Pre w F []) (aw : ac = j.length) (au : j.length ≤ A) (av : A ≤ maxLen) (ae : Sl (Kd.int .u8) F F R j) (ap : y = l.length) (an : l.length ≤ B) (ao : B ≤ maxLen) (aa : Sl (Kd.int .u8) F F S l) (Q : Bool) (H : juratref01_Same.f k j l = some Q) :
    Calls Try.prog 21 #[.slice R ac A, .slice S y B] w fun e w' => e = .returned (.bool Q) ∧ (∃ p, w' = w.drewN p) := by
 have C := Ctx.start hp
 generalize domL [] = D at C
 have ad : ∃ p, w = w.drewN p := ⟨0, rfl⟩
 unfold juratref01_Same.f at H
 refine Calls.ofW Try.func21 rfl (by simp [Try.ntmps21]) <| W.sr rfl <| WL.rd to 1 rfl <| W.seq <| W.sr rfl <| WL.run to 1 rfl <| WL.ln (j.length : Int) rfl Try.underlying44 (by omega) <| WL.run to 1 rfl <| WL.ln (l.length : Int) rfl Try.underlying44 (by omega) ?_
 refine WL.rd to 1 rfl ?_
 rcases iteE H with ⟨m, H⟩ | ⟨m, H⟩
 ·refine W.nF m rfl <| W.skip <| W.seq <| W.sr rfl <| WL.rd to 1 rfl ?_
  obtain ⟨P, a, H⟩ := bindE H
  refine W.cutM (fun g r => Ctx w F D r F [] ∧ (∃ p, r = w.drewN p) ∧ P = Sum.inl ()) ?_ ?_
  ·refine W.block <| W.loop (fun Z g r => ∃ (b : Int), Kn g [(0, .slice R ac A), (1, .slice S y B), (5, iv b)] ∧ Ctx w F D r F [] ∧ (∃ p, r = w.drewN p) ∧ juratref01_Same.l1 Z j l b = some P) k ⟨0, rfl, C, ad, a⟩ ?_
   clear a
   rintro Z g r ⟨b, ab, s, x, a⟩
   rcases Z with _ | af
   · exact absurd a (by simp [juratref01_Same.l1])
   rw [juratref01_Same.l1] at a
   apply ks g ab
   refine W.seq <| W.sr rfl <| WL.run to 2 rfl <| WL.ln (j.length : Int) rfl Try.underlying44 (by omega) <| WL.rd to 1 rfl ?_
   rcases iteE a with ⟨o, a⟩ | ⟨o, a⟩
   ·refine W.cT o rfl <| W.skip <| W.seq <| W.block <| W.seq <| W.region_quiet (by kernel_rfl) (by kernel_rfl) rfl ?_
    refine WQ.run to 2 rfl ?_
    obtain ⟨am, a⟩ := guardE a
    obtain ⟨ar, aj, E, I⟩ := ae (by omega)
    refine WQ.vl (fun _ => Yl.elemAddr (i := b) rfl rfl E Try.underlying44 sz5 (by omega)) ?_
    obtain ⟨ag, L, N⟩ := I b.toNat _ (getD_some (d := 0) (by omega))
    obtain rfl := L
    refine WQ.vl (fun _ => Yl.load (v := .int .u8 (j.getD b.toNat 0)) rfl Try.underlying5 rfl ((((s.drewN _).fro)).cell (N 0 _ rfl))) ?_
    refine WQ.run to 2 rfl ?_
    obtain ⟨ai, a⟩ := guardE a
    obtain ⟨al, ak, G, J⟩ := aa (by omega)
    refine WQ.vl (fun _ => Yl.elemAddr (i := b) rfl rfl G Try.underlying44 sz5 (by omega)) ?_
    obtain ⟨ah, M, O⟩ := J b.toNat _ (getD_some (d := 0) (by omega))
    obtain rfl := M
    refine WQ.vl (fun _ => Yl.load (v := .int .u8 (l.getD b.toNat 0)) rfl Try.underlying5 rfl ((((s.drewN _).fro)).cell (O 0 _ rfl))) ?_
    refine WQ.run to 1 rfl <| WQ.done (fun u => ?_)
    have T := Ctx.drewN s u
    have t := drew_more x u
    rcases iteE a with ⟨h, a⟩ | ⟨h, a⟩
    ·refine W.nF h rfl <| W.skip <| inB_n <| W.region rfl ?_
     exact WL.rd to 3 rfl <| thenE_n ⟨af, Nat.lt_succ_self _, wi64 (b + 1), rfl, T, t, a⟩
    refine W.nT h rfl <| W.sr rfl <| WL.rd to 1 rfl <| W.ret ?_
    iterate 6 first | refine inB_r ?_ | refine thenE_r ?_
    cases a
    replace H := sumE_r H
    have V := Option.some.inj H
    subst V
    exact post_r (resE1 rfl rfl) ⟨rfl, t⟩
   refine W.cF o rfl <| W.exit <| thenE_x <| thenE_x <| inB_here ?_
   cases a
   refine thenE_n ?_
   exact ⟨s, x, rfl⟩
  ·rintro g r ⟨aq, U, rfl⟩
   replace H := sumE_l H
   refine W.sr rfl <| WL.rd to 1 rfl <| W.ret ?_
   have X := Option.some.inj H
   subst X
   exact post_r (resE1 rfl rfl) ⟨rfl, U⟩
 refine W.nT m rfl <| W.sr rfl <| WL.rd to 1 rfl <| W.ret <| thenE_r ?_
 have Y := Option.some.inj H
 subst Y
 exact post_r (resE1 rfl rfl) ⟨rfl, ad⟩
def juratref18_Same.l1 : Nat → List Int → List Int → Int → Option (Sum Unit Bool)
  | 0, _, _, _ => none
  | k + 1, b, d, a => if a < (b.length : Int) then (if 0 ≤ a ∧ a < (b.length : Int) then (if 0 ≤ a ∧ a < (d.length : Int) then (if (b.getD a.toNat 0) = (d.getD a.toNat 0) then (juratref18_Same.l1 k b d (wi64 (a + 1))) else (some (Sum.inr false))) else none) else none) else (some (Sum.inl ()))
def juratref18_Same.f (k : Nat) (a : List Int) (b : List Int) : Option Bool := if (a.length : Int) = (b.length : Int) then ((juratref18_Same.l1 k a b 0).bind fun d => sumE d (fun _ => some true) (fun e => some e)) else (some false)
theorem juratref18_Same.calls (k w F R A ac) (j : List Int) (S B y) (l : List Int) (hp : Pre w F []) (aw : ac = j.length) (au : j.length ≤ A) (av : A ≤ maxLen) (ae : Sl (Kd.int .i64) F F R j) (ap : y = l.length) (an : l.length ≤ B) (ao : B ≤ maxLen) (aa : Sl (Kd.int .i64) F F S l) (Q : Bool) (H : juratref18_Same.f k j l = some Q) :
    Calls Try.prog 24 #[.slice R ac A, .slice S y B] w fun e w' => e = .returned (.bool Q) ∧ (∃ p, w' = w.drewN p) := by
 have C := Ctx.start hp
 generalize domL [] = D at C
 have ad : ∃ p, w = w.drewN p := ⟨0, rfl⟩
 unfold juratref18_Same.f at H
 refine Calls.ofW Try.func24 rfl (by simp [Try.ntmps24]) <| W.sr rfl <| WL.rd to 1 rfl <| W.seq <| W.sr rfl <| WL.run to 1 rfl <| WL.ln (j.length : Int) rfl Try.underlying29 (by omega) <| WL.run to 1 rfl <| WL.ln (l.length : Int) rfl Try.underlying29 (by omega) ?_
 refine WL.rd to 1 rfl ?_
 rcases iteE H with ⟨m, H⟩ | ⟨m, H⟩
 ·refine W.nF m rfl <| W.skip <| W.seq <| W.sr rfl <| WL.rd to 1 rfl ?_
  obtain ⟨P, a, H⟩ := bindE H
  refine W.cutM (fun g r => Ctx w F D r F [] ∧ (∃ p, r = w.drewN p) ∧ P = Sum.inl ()) ?_ ?_
  ·refine W.block <| W.loop (fun Z g r => ∃ (b : Int), Kn g [(0, .slice R ac A), (1, .slice S y B), (5, iv b)] ∧ Ctx w F D r F [] ∧ (∃ p, r = w.drewN p) ∧ juratref18_Same.l1 Z j l b = some P) k ⟨0, rfl, C, ad, a⟩ ?_
   clear a
   rintro Z g r ⟨b, ab, s, x, a⟩
   rcases Z with _ | af
   · exact absurd a (by simp [juratref18_Same.l1])
   rw [juratref18_Same.l1] at a
   apply ks g ab
   refine W.seq <| W.sr rfl <| WL.run to 2 rfl <| WL.ln (j.length : Int) rfl Try.underlying29 (by omega) <| WL.rd to 1 rfl ?_
   rcases iteE a with ⟨o, a⟩ | ⟨o, a⟩
   ·refine W.cT o rfl <| W.skip <| W.seq <| W.block <| W.seq <| W.region_quiet (by kernel_rfl) (by kernel_rfl) rfl ?_
    refine WQ.run to 2 rfl ?_
    obtain ⟨am, a⟩ := guardE a
    obtain ⟨ar, aj, E, I⟩ := ae (by omega)
    refine WQ.vl (fun _ => Yl.elemAddr (i := b) rfl rfl E Try.underlying29 sz3 (by omega)) ?_
    obtain ⟨ag, L, N⟩ := I b.toNat _ (getD_some (d := 0) (by omega))
    obtain rfl := L
    refine WQ.vl (fun _ => Yl.load (v := iv (j.getD b.toNat 0)) rfl Try.underlying3 rfl ((((s.drewN _).fro)).cell (N 0 _ rfl))) ?_
    refine WQ.run to 2 rfl ?_
    obtain ⟨ai, a⟩ := guardE a
    obtain ⟨al, ak, G, J⟩ := aa (by omega)
    refine WQ.vl (fun _ => Yl.elemAddr (i := b) rfl rfl G Try.underlying29 sz3 (by omega)) ?_
    obtain ⟨ah, M, O⟩ := J b.toNat _ (getD_some (d := 0) (by omega))
    obtain rfl := M
    refine WQ.vl (fun _ => Yl.load (v := iv (l.getD b.toNat 0)) rfl Try.underlying3 rfl ((((s.drewN _).fro)).cell (O 0 _ rfl))) ?_
    refine WQ.run to 1 rfl <| WQ.done (fun u => ?_)
    have T := Ctx.drewN s u
    have t := drew_more x u
    rcases iteE a with ⟨h, a⟩ | ⟨h, a⟩
    ·refine W.nF h rfl <| W.skip <| inB_n <| W.region rfl ?_
     exact WL.rd to 3 rfl <| thenE_n ⟨af, Nat.lt_succ_self _, wi64 (b + 1), rfl, T, t, a⟩
    refine W.nT h rfl <| W.sr rfl <| WL.rd to 1 rfl <| W.ret ?_
    iterate 6 first | refine inB_r ?_ | refine thenE_r ?_
    cases a
    replace H := sumE_r H
    have V := Option.some.inj H
    subst V
    exact post_r (resE1 rfl rfl) ⟨rfl, t⟩
   refine W.cF o rfl <| W.exit <| thenE_x <| thenE_x <| inB_here ?_
   cases a
   refine thenE_n ?_
   exact ⟨s, x, rfl⟩
  ·rintro g r ⟨aq, U, rfl⟩
   replace H := sumE_l H
   refine W.sr rfl <| WL.rd to 1 rfl <| W.ret ?_
   have X := Option.some.inj H
   subst X
   exact post_r (resE1 rfl rfl) ⟨rfl, U⟩
 refine W.nT m rfl <| W.sr rfl <| WL.rd to 1 rfl <| W.ret <| thenE_r ?_
 have Y := Option.some.inj H
 subst Y
 exact post_r (resE1 rfl rfl) ⟨rfl, ad⟩
def juratref18_Right.l1 : Nat → List Int → Int → Option (Sum Unit Bool)
  | 0, _, _ => none
  | k + 1, b, a => if a < (b.length : Int) then (if 0 ≤ a ∧ a < (b.length : Int) then (if (b.getD a.toNat 0) < 0 then (some (Sum.inr false)) else (juratref18_Right.l1 k b (wi64 (a + 1)))) else none) else (some (Sum.inl ()))
def juratref18_Right.f (k : Nat) (a : List Int) (d : List Bool) : Option Bool := (if (a.length : Int) = (d.length : Int) then (some (decide ((a.length : Int) > 8))) else (some (true))).bind fun b => if b = true then (some false) else ((juratref18_Right.l1 k a 0).bind fun e => sumE e (fun _ => some true) (fun g => some g))
theorem juratref18_Right.calls (k w F B A E) (l : List Int) (V M G) (y : List Bool) (hp : Pre w F []) (aq : E = l.length) (ao : l.length ≤ A) (ap : A ≤ maxLen) (ad : Sl (Kd.int .i64) F F B l) (ak : G = y.length) (ai : y.length ≤ M) (aj : M ≤ maxLen) (ag : Sl Kd.bool F F V y) (J : Bool) (H : juratref18_Right.f k l y = some J) :
    Calls Try.prog 74 #[.slice B E A, .slice V G M] w fun e w' => e = .returned (.bool J) ∧ (∃ m, w' = w.drewN m) := by
 have C := Ctx.start hp
 generalize domL [] = D at C
 have Y : ∃ m, w = w.drewN m := ⟨0, rfl⟩
 unfold juratref18_Right.f at H
 refine Calls.ofW Try.func74 rfl (by simp [Try.ntmps74]) <| W.sr rfl <| WL.rd to 1 rfl <| W.seq <| W.sr rfl <| WL.run to 1 rfl <| WL.ln (l.length : Int) rfl Try.underlying29 (by omega) <| WL.run to 1 rfl <| WL.ln (y.length : Int) rfl Try.underlying30 (by omega) ?_
 refine WL.run to 2 rfl ?_
 obtain ⟨ac, g, H⟩ := bindE H
 refine WL.cut (fun b h => b 15 = .bool ac ∧ b 0 = .slice B E A ∧ Ctx w F D h F [] ∧ (∃ m, h = w.drewN m)) ?_ ?_
 ·rcases iteE g with ⟨p, g⟩ | ⟨p, g⟩
  ·refine WL.kn 11 (congrArg Value.bool (ndec_t p)) <| WL.run to 1 rfl <| WL.lnG (l.length : Int) rfl rfl rfl Try.underlying29 (by omega) <| WL.run to 2 rfl ?_
   cases g
   exact WL.done ⟨rfl, rfl, C, Y⟩
  refine WL.kn 11 (congrArg Value.bool (ndec_f p)) <| WL.offs 3 11 false rfl rfl <| WL.run to 1 rfl ?_
  cases g
  exact WL.done ⟨rfl, rfl, C, Y⟩
 ·rintro b h ⟨Q, R, X, x⟩
  apply kn b (.c Q (.c R .n))
  rcases iteE H with ⟨r, H⟩ | ⟨r, H⟩
  ·refine W.condT (congrArg Value.bool r) <| W.sr rfl <| WL.rd to 1 rfl <| W.ret <| thenE_r ?_
   have Z := Option.some.inj H
   subst Z
   exact post_r (resE1 rfl rfl) ⟨rfl, x⟩
  refine W.condF (congrArg Value.bool (Bool.eq_false_iff.2 r)) <| W.skip <| W.seq <| W.sr rfl <| WL.rd to 1 rfl ?_
  obtain ⟨I, a, H⟩ := bindE H
  refine W.cutM (fun b h => Ctx w F D h F [] ∧ (∃ m, h = w.drewN m) ∧ I = Sum.inl ()) ?_ ?_
  ·refine W.block <| W.loop (fun N b h => ∃ (j : Int), Kn b [(0, .slice B E A), (5, iv j)] ∧ Ctx w F D h F [] ∧ (∃ m, h = w.drewN m) ∧ juratref18_Right.l1 N l j = some I) k ⟨0, rfl, X, x, a⟩ ?_
   clear a
   rintro N b h ⟨j, S, u, o, a⟩
   rcases N with _ | ae
   · exact absurd a (by simp [juratref18_Right.l1])
   rw [juratref18_Right.l1] at a
   apply ks b S
   refine W.seq <| W.sr rfl <| WL.run to 2 rfl <| WL.ln (l.length : Int) rfl Try.underlying29 (by omega) <| WL.rd to 1 rfl ?_
   rcases iteE a with ⟨s, a⟩ | ⟨s, a⟩
   ·refine W.cT s rfl <| W.skip <| W.seq <| W.block <| W.sr rfl <| WL.run to 2 rfl ?_
    obtain ⟨ah, a⟩ := guardE a
    obtain ⟨an, al, O, P⟩ := ad (by omega)
    refine WL.val (Yl.elemAddr (i := j) rfl rfl O Try.underlying29 sz3 (by omega)) ?_
    obtain ⟨af, T, U⟩ := P j.toNat _ (getD_some (d := 0) (by omega))
    obtain rfl := T
    refine WL.val (Yl.load (v := iv (l.getD j.toNat 0)) rfl Try.underlying3 rfl (((u.fro)).cell (U 0 _ rfl))) <| WL.rd to 1 rfl ?_
    rcases iteE a with ⟨t, a⟩ | ⟨t, a⟩
    ·refine W.cT t rfl <| W.sr rfl <| WL.rd to 1 rfl <| W.ret ?_
     iterate 6 first | refine inB_r ?_ | refine thenE_r ?_
     cases a
     replace H := sumE_r H
     have aa := Option.some.inj H
     subst aa
     exact post_r (resE1 rfl rfl) ⟨rfl, o⟩
    refine W.cF t rfl <| W.skip <| inB_n <| W.region rfl ?_
    exact WL.rd to 3 rfl <| thenE_n ⟨ae, Nat.lt_succ_self _, wi64 (j + 1), rfl, u, o, a⟩
   refine W.cF s rfl <| W.exit <| thenE_x <| thenE_x <| inB_here ?_
   cases a
   refine thenE_n ?_
   exact ⟨u, o, rfl⟩
  ·rintro b h ⟨am, L, rfl⟩
   replace H := sumE_l H
   refine W.sr rfl <| WL.rd to 1 rfl <| W.ret ?_
   have ab := Option.some.inj H
   subst ab
   exact post_r (resE1 rfl rfl) ⟨rfl, L⟩
def juratref18_Left.l1 : Nat → List Int → List Bool → Int → Int → Int → Option Int
  | 0, _, _, _, _, _ => none
  | k + 1, d, e, g, b, a => (if a < (d.length : Int) then ((juratref18_Right.f k d e).bind fun j => some (j)) else (some (false))).bind fun h => if h = true then (if 0 ≤ a ∧ a < (e.length : Int) then ((if (e.getD a.toNat false) = true then (some (false)) else (if 0 ≤ a ∧ a < (d.length : Int) then (some (decide ((d.getD a.toNat 0) < g))) else none)).bind fun i => if i = true then (juratref18_Left.l1 k d e g (wi64 (b + 1)) (wi64 (a + 1))) else (juratref18_Left.l1 k d e g b (wi64 (a + 1)))) else none) else (some b)
def juratref18_Left.f (k : Nat) (b : List Int) (d : List Bool) (e : Int) : Option Int := (juratref18_Left.l1 k b d e 0 0).bind fun a => some a
theorem juratref18_Left.calls (k w F N G Q) (A : List Int) (O I r) (E : List Bool) (P : Int) (hp : Pre w F []) (aK : Q = A.length) (aI : A.length ≤ G) (aJ : G ≤ maxLen) (ax : Sl (Kd.int .i64) F F N A) (aG : r = E.length) (aE : E.length ≤ I) (aF : I ≤ maxLen) (S : Sl Kd.bool F F O E) (ay : Int) (H : juratref18_Left.f k A E P = some ay) :
    Calls Try.prog 75 #[.slice N Q G, .slice O r I, iv P] w fun e w' => e = .returned (iv ay) ∧ (∃ p, w' = w.drewN p) := by
 have C := Ctx.start hp
 generalize domL [] = D at C
 have aS : ∃ p, w = w.drewN p := ⟨0, rfl⟩
 unfold juratref18_Left.f at H
 refine Calls.ofW Try.func75 rfl (by simp [Try.ntmps75]) <| W.sr rfl <| WL.rd to 1 rfl <| W.sr rfl <| WL.rd to 1 rfl <| W.seq <| W.sr rfl <| WL.rd to 1 rfl ?_
 obtain ⟨U, a, H⟩ := bindE H
 refine W.cutM (fun b l => b 7 = iv U ∧ Ctx w F D l F [] ∧ (∃ p, l = w.drewN p)) ?_ ?_
 ·refine W.block <| W.loop (fun aD b l => ∃ (m : Int) (g : Int), Kn b [(0, .slice N Q G), (1, .slice O r I), (2, iv P), (7, iv m), (8, iv g)] ∧ Ctx w F D l F [] ∧ (∃ p, l = w.drewN p) ∧ juratref18_Left.l1 aD A E P m g = some U) k ⟨0, 0, rfl, C, aS, a⟩ ?_
  clear a
  rintro aD b l ⟨m, g, ae, B, L, a⟩
  rcases aD with _ | J
  · exact absurd a (by simp [juratref18_Left.l1])
  rw [juratref18_Left.l1] at a
  apply ks b ae
  refine W.seq <| W.sr rfl <| WL.run to 2 rfl <| WL.ln (A.length : Int) rfl Try.underlying29 (by omega) <| WL.run to 2 rfl ?_
  obtain ⟨aB, h, a⟩ := bindE a
  refine WL.cut (fun b l => b 17 = .bool aB ∧ b 0 = .slice N Q G ∧ b 1 = .slice O r I ∧ b 2 = iv P ∧ b 7 = iv m ∧ b 8 = iv g ∧ Ctx w F D l F [] ∧ (∃ p, l = w.drewN p)) ?_ ?_
  ·rcases iteE h with ⟨t, h⟩ | ⟨t, h⟩
   ·refine WL.kn 13 (congrArg Value.bool (decide_eq_true t)) <| WL.run to 2 rfl <| WL.on rfl rfl ?_
    obtain ⟨aH, ac, h⟩ := bindE h
    refine WL.callH (juratref18_Right.calls J _ F N G Q A O I r E B.pre0 aK aI aJ ax aG aE aF S aH ac) (ne.fr rfl rfl) ?_
    rintro aV l ⟨rfl, ⟨T, rfl⟩⟩
    refine ⟨_, rfl, ?_⟩
    have az := Ctx.drewN B T
    have X := drew_more L T
    refine WL.run to 1 rfl ?_
    cases h
    exact WL.done ⟨rfl, rfl, rfl, rfl, rfl, rfl, az, X⟩
   refine WL.kn 13 (congrArg Value.bool (decide_eq_false t)) <| WL.offs 3 13 true rfl rfl <| WL.run to 1 rfl ?_
   cases h
   exact WL.done ⟨rfl, rfl, rfl, rfl, rfl, rfl, B, L⟩
  ·rintro b l ⟨af, ag, ah, ai, aj, ak, o, s⟩
   apply kn b (.c af (.c ag (.c ah (.c ai (.c aj (.c ak .n))))))
   rcases iteE a with ⟨u, a⟩ | ⟨u, a⟩
   ·refine W.condT (congrArg Value.bool u) <| W.skip <| W.seq <| W.block <| W.sr rfl <| WL.run to 2 rfl ?_
    obtain ⟨aN, a⟩ := guardE a
    obtain ⟨aT, aP, Y, aa⟩ := S (by omega)
    refine WL.val (Yl.elemAddr (i := g) rfl rfl Y Try.underlying30 sz4 (by omega)) ?_
    obtain ⟨aL, ar, av⟩ := aa g.toNat _ (getD_some (d := false) (by omega))
    obtain rfl := ar
    refine WL.val (Yl.load (v := .bool (E.getD g.toNat false)) rfl Try.underlying4 rfl (((o.fro)).cell (av 0 _ rfl))) <| WL.run to 2 rfl ?_
    obtain ⟨aC, j, a⟩ := bindE a
    refine WL.cut (fun b l => b 32 = .bool aC ∧ b 0 = .slice N Q G ∧ b 1 = .slice O r I ∧ b 2 = iv P ∧ b 7 = iv m ∧ b 8 = iv g ∧ Ctx w F D l F [] ∧ (∃ p, l = w.drewN p)) ?_ ?_
    ·rcases iteE j with ⟨x, j⟩ | ⟨x, j⟩
     ·refine WL.kn 25 (congrArg Value.bool (nb_t x)) <| WL.offs 6 25 true rfl rfl <| WL.run to 1 rfl ?_
      cases j
      exact WL.done ⟨rfl, rfl, rfl, rfl, rfl, rfl, o, s⟩
     refine WL.kn 25 (congrArg Value.bool (nb_f x)) <| WL.run to 2 rfl ?_
     obtain ⟨aO, j⟩ := guardE j
     obtain ⟨aU, aQ, Z, ab⟩ := ax (by omega)
     refine WL.valOn rfl rfl (Yl.elemAddr (i := g) rfl rfl Z Try.underlying29 sz3 (by omega)) ?_
     obtain ⟨aM, au, aw⟩ := ab g.toNat _ (getD_some (d := 0) (by omega))
     obtain rfl := au
     refine WL.valOn rfl rfl (Yl.load (v := iv (A.getD g.toNat 0)) rfl Try.underlying3 rfl (((o.fro)).cell (aw 0 _ rfl))) <| WL.run to 3 rfl ?_
     cases j
     exact WL.done ⟨rfl, rfl, rfl, rfl, rfl, rfl, o, s⟩
    ·rintro b l ⟨al, am, an, ao, ap, aq, R, M⟩
     apply kn b (.c al (.c am (.c an (.c ao (.c ap (.c aq .n))))))
     rcases iteE a with ⟨y, a⟩ | ⟨y, a⟩
     ·refine W.condT (congrArg Value.bool y) <| W.region rfl ?_
      refine WL.rd to 3 rfl <| inB_n <| W.region rfl ?_
      exact WL.rd to 3 rfl <| thenE_n ⟨J, Nat.lt_succ_self _, wi64 (m + 1), wi64 (g + 1), rfl, R, M, a⟩
     refine W.condF (congrArg Value.bool (Bool.eq_false_iff.2 y)) <| W.skip <| inB_n <| W.region rfl ?_
     exact WL.rd to 3 rfl <| thenE_n ⟨J, Nat.lt_succ_self _, m, wi64 (g + 1), rfl, R, M, a⟩
   refine W.condF (congrArg Value.bool (Bool.eq_false_iff.2 u)) <| W.exit <| thenE_x <| thenE_x <| inB_here ?_
   cases a
   refine thenE_n ?_
   exact ⟨rfl, o, s⟩
 ·rintro b l ⟨ad, aR, V⟩
  apply kn b (.c ad .n)
  refine W.sr rfl <| WL.rd to 2 rfl <| W.ret ?_
  have aA := Option.some.inj H
  subst aA
  exact post_r (resE1 rfl rfl) ⟨rfl, V⟩
def juratref18_Pick.l1 : Nat → List Bool → Int → Int → Option Int
  | 0, _, _, _ => none
  | k + 1, b, d, a => if a < (b.length : Int) then (if 0 ≤ a ∧ a < (b.length : Int) then (if (b.getD a.toNat false) = true then (juratref18_Pick.l1 k b d (wi64 (a + 1))) else (juratref18_Pick.l1 k b (wi64 (d + 1)) (wi64 (a + 1)))) else none) else (some d)
def juratref18_Pick.l3 : Nat → List Int → List Bool → Int → Int → Int → List Int → Int → Int → Option ((List Int) × Int)
  | 0, _, _, _, _, _, _, _, _ => none
  | k + 1, f, h, i, j, d, b, e, a => if a < (f.length : Int) then (if 0 ≤ a ∧ a < (h.length : Int) then ((if (h.getD a.toNat false) = true then (some (true)) else (if 0 ≤ a ∧ a < (f.length : Int) then (some (decide ((f.getD a.toNat 0) ≥ i))) else none)).bind fun l => if l = true then (juratref18_Pick.l3 k f h i j d b e (wi64 (a + 1))) else ((if 0 ≤ a ∧ a < (f.length : Int) then ((if (f.getD a.toNat 0) = d then (some (decide ((b.length : Int) < j))) else (some (false))).bind fun m => if m = true then (if (b.length + 1 + (b.length + 1) / 4 + 192) * 8 ≤ 281474976710656 then (some (b ++ [a])) else none) else (some b)) else none).bind fun g => if 0 ≤ a ∧ a < (f.length : Int) then (if (f.getD a.toNat 0) > d then (juratref18_Pick.l3 k f h i j d g (if (f.getD a.toNat 0) < e then f.getD a.toNat 0 else e) (wi64 (a + 1))) else (juratref18_Pick.l3 k f h i j d g e (wi64 (a + 1)))) else none)) else none) else (some (b, e))
def juratref18_Pick.l2 : Nat → List Int → List Bool → Int → Int → List Int → Int → Option (List Int)
  | 0, _, _, _, _, _, _ => none
  | k + 1, h, i, f, g, a, b => if (a.length : Int) < g then ((juratref18_Pick.l3 k h i f g b a f 0).bind fun ⟨d, e⟩ => juratref18_Pick.l2 k h i f g d e) else (some a)
def juratref18_Pick.f (k : Nat) (e : List Int) (a : List Bool) (g : Int) (b : Int) : Option ((List Int) × Int) := (juratref18_Right.f k e a).bind fun i => if (((!i) || (decide (b < 1))) || (decide (g < 0))) = true then (some (([] : List Int), 1)) else ((juratref18_Pick.l1 k a 0 0).bind fun j => if j < b then (some (([] : List Int), 180)) else ((juratref18_Left.f k e a g).bind fun h => if h < b then (some (([] : List Int), 70)) else ((juratref18_Pick.l2 k e a g b ([] : List Int) 0).bind fun d => some (d, 0))))
theorem juratref18_Pick.calls (k w F ad U ag) (G : List Int) (ae X E) (ai : List Bool) (B : Int) (I : Int) (hp : Pre w F []) (cp : ag = G.length) (cn : G.length ≤ U) (co : U ≤ maxLen) (aS : Sl (Kd.int .i64) F F ad G) (bp : E = ai.length) (bn : ai.length ≤ X) (bo : X ≤ maxLen) (aG : Sl Kd.bool F F ae ai) (b3 : List Int) (cs : Int) (H : juratref18_Pick.f k G ai B I = some (b3, cs)) :
    Calls Try.prog 62 #[.slice ad ag U, .slice ae E X, iv B, iv I] w fun e w' => ∃ aZ a4 aL a7, e = .returned (.tuple #[(.slice aZ aL a4), (iv cs)]) ∧ Ctx w F (domL []) w' F [a7] ∧ aL = b3.length ∧ Row (Kd.int .i64) F a7 (.slice aZ aL a4) b3 := by
 have C := Ctx.start hp
 generalize hD : domL [] = D at C ⊢
 unfold juratref18_Pick.f at H
 refine Calls.ofW Try.func62 rfl (by simp [Try.ntmps62]) <| W.sr rfl <| WL.rd to 2 rfl <| W.seq <| W.sr rfl <| WL.run to 2 rfl ?_
 obtain ⟨aF, cC, H⟩ := bindE H
 refine WL.cq C (juratref18_Right.calls k _ F ad U ag G ae X E ai C.pre0 cp cn co aS bp bn bo aG aF cC) (ne.fr rfl rfl) fun p a9 => ?_
 refine WL.run to 2 rfl <| WL.cut (fun a p => a 27 = .bool (((!aF) || (decide (I < 1))) || (decide (B < 0))) ∧ a 0 = .slice ad ag U ∧ a 1 = .slice ae E X ∧ a 2 = iv B ∧ a 3 = iv I ∧ Ctx w F D p F []) ?_ ?_
 ·rcases Bool.eq_false_or_eq_true (!aF) with af | af
  ·exact WL.kn 20 (congrArg Value.bool af) <| WL.offs 2 20 false rfl rfl <| WL.run to 2 rfl <| WL.offs 2 24 false rfl rfl <| WL.run to 1 rfl <| WL.done ⟨(congrArg Value.bool (show true = (((!aF) || (decide (I < 1))) || (decide (B < 0))) from by simp [af])), rfl, rfl, rfl, rfl, a9⟩
  ·refine WL.kn 20 (congrArg Value.bool af) <| WL.run to 4 rfl ?_
   rcases Bool.eq_false_or_eq_true (decide (I < 1)) with aw | aw
   ·exact WL.kn 24 (congrArg Value.bool aw) <| WL.offs 2 24 false rfl rfl <| WL.run to 1 rfl <| WL.done ⟨(congrArg Value.bool (show true = (((!aF) || (decide (I < 1))) || (decide (B < 0))) from by simp [af, aw])), rfl, rfl, rfl, rfl, a9⟩
   ·exact WL.kn 24 (congrArg Value.bool aw) <| WL.run to 3 rfl <| WL.done ⟨(congrArg Value.bool (show (decide (B < 0)) = (((!aF) || (decide (I < 1))) || (decide (B < 0))) from by simp [af, aw])), rfl, rfl, rfl, rfl, a9⟩
 ·rintro a p ⟨cD, cE, cG, cH, cI, cm⟩
  apply kn a (.c cD (.c cE (.c cG (.c cH (.c cI .n)))))
  rcases iteE H with ⟨aX, H⟩ | ⟨aX, H⟩
  ·refine W.condT (congrArg Value.bool aX) <| W.sr rfl <| WL.rd to 2 rfl <| W.ret <| thenE_r ?_
   have cM : Cx [CH.emp] := cm.pick [0] rfl
   simp only [Option.some.injEq, Prod.mk.injEq] at H
   obtain ⟨cR, cS⟩ := H
   subst cR cS
   exact post_r (resE2 rfl rfl rfl) ⟨none, 0, 0, CH.emp, rfl, cM, rfl, (Row.nil _ _)⟩
  refine W.condF (congrArg Value.bool (Bool.eq_false_iff.2 aX)) <| W.skip <| W.sr rfl <| WL.rd to 1 rfl <| W.seq <| W.sr rfl <| WL.rd to 1 rfl ?_
  obtain ⟨ct, o, H⟩ := bindE H
  refine W.cutM (fun a p => Kn a [(0, .slice ad ag U), (1, .slice ae E X), (2, iv B), (3, iv I), (10, iv ct)] ∧ Ctx w F D p F []) ?_ ?_
  ·refine W.block <| W.loop (fun av a p => ∃ (aW : Int) (ah : Int), Kn a [(0, .slice ad ag U), (1, .slice ae E X), (2, iv B), (3, iv I), (10, iv aW), (11, iv ah)] ∧ Ctx w F D p F [] ∧ juratref18_Pick.l1 av ai aW ah = some ct) k ⟨0, 0, rfl, cm, o⟩ ?_
   clear o
   rintro av a p ⟨aW, ah, cK, a3, o⟩
   rcases av with _ | cr
   · exact absurd o (by simp [juratref18_Pick.l1])
   rw [juratref18_Pick.l1] at o
   apply ks a cK
   refine W.seq <| W.sr rfl <| WL.run to 2 rfl <| WL.ln (ai.length : Int) rfl Try.underlying30 (by omega) <| WL.rd to 1 rfl ?_
   rcases iteE o with ⟨aY, o⟩ | ⟨aY, o⟩
   ·refine W.cT aY rfl <| W.skip <| W.seq <| W.block <| W.sr rfl <| WL.run to 2 rfl ?_
    obtain ⟨dc, o⟩ := guardE o
    obtain ⟨de, dd, cA, cB⟩ := aG (by omega)
    refine WL.val (Yl.elemAddr (i := ah) rfl rfl cA Try.underlying30 sz4 (by omega)) ?_
    obtain ⟨db, cj, ck⟩ := cB ah.toNat _ (getD_some (d := false) (by omega))
    obtain rfl := cj
    refine WL.val (Yl.load (v := .bool (ai.getD ah.toNat false)) rfl Try.underlying4 rfl (((a3.fro)).cell (ck 0 _ rfl))) <| WL.rd to 1 rfl ?_
    rcases iteE o with ⟨aH, o⟩ | ⟨aH, o⟩
    ·refine W.condF (congrArg Value.bool (nb_t aH)) <| W.skip <| inB_n <| W.region rfl ?_
     exact WL.rd to 3 rfl <| thenE_n ⟨cr, Nat.lt_succ_self _, aW, wi64 (ah + 1), rfl, a3, o⟩
    refine W.condT (congrArg Value.bool (nb_f aH)) <| W.region rfl ?_
    refine WL.rd to 3 rfl <| inB_n <| W.region rfl ?_
    exact WL.rd to 3 rfl <| thenE_n ⟨cr, Nat.lt_succ_self _, wi64 (aW + 1), wi64 (ah + 1), rfl, a3, o⟩
   refine W.cF aY rfl <| W.exit <| thenE_x <| thenE_x <| inB_here ?_
   cases o
   refine thenE_n ?_
   exact ⟨rfl, a3⟩
  ·rintro a p ⟨cJ, ba⟩
   apply ks a cJ
   refine W.seq <| W.sr rfl <| WL.rd to 3 rfl ?_
   rcases iteE H with ⟨aI, H⟩ | ⟨aI, H⟩
   ·refine W.cT aI rfl <| W.sr rfl <| WL.rd to 2 rfl <| W.ret <| thenE_r ?_
    have cu : Cx [CH.emp] := ba.pick [0] rfl
    simp only [Option.some.injEq, Prod.mk.injEq] at H
    obtain ⟨cw, cx⟩ := H
    subst cw cx
    exact post_r (resE2 rfl rfl rfl) ⟨none, 0, 0, CH.emp, rfl, cu, rfl, (Row.nil _ _)⟩
   refine W.cF aI rfl <| W.skip <| W.seq <| W.sr rfl <| WL.run to 3 rfl ?_
   obtain ⟨cL, ci, H⟩ := bindE H
   refine WL.cq ba (juratref18_Left.calls k _ F ad U ag G ae X E ai B ba.pre0 cp cn co aS bp bn bo aG cL ci) (ne.fr rfl rfl) fun p a8 => ?_
   refine WL.rd to 2 rfl ?_
   rcases iteE H with ⟨aJ, H⟩ | ⟨aJ, H⟩
   ·refine W.cT aJ rfl <| W.sr rfl <| WL.rd to 2 rfl <| W.ret <| thenE_r ?_
    have cv : Cx [CH.emp] := a8.pick [0] rfl
    simp only [Option.some.injEq, Prod.mk.injEq] at H
    obtain ⟨cy, cz⟩ := H
    subst cy cz
    exact post_r (resE2 rfl rfl rfl) ⟨none, 0, 0, CH.emp, rfl, cv, rfl, (Row.nil _ _)⟩
   refine W.cF aJ rfl <| W.skip <| W.sr rfl <| WL.rd to 1 rfl <| W.seq <| W.sr rfl <| WL.rd to 1 rfl ?_
   obtain ⟨aN, h, H⟩ := bindE H
   refine W.cutM (fun a p => ∃ aj an Z ap, a 12 = .slice aj Z an ∧ Ctx w F D p F [ap] ∧ Z = aN.length ∧ Row (Kd.int .i64) F ap (.slice aj Z an) aN) ?_ ?_
   ·refine W.block ?_
    have b6 : Cx [CH.emp] := a8.pick [0] rfl
    refine W.loop (fun av a p => ∃ (N : List Int) (A : Int), ∃ Q T L ab, Kn a [(0, .slice ad ag U), (1, .slice ae E X), (2, iv B), (3, iv I), (12, .slice Q L T), (13, iv A)] ∧ Ctx w F D p F [ab] ∧ L = N.length ∧ Row (Kd.int .i64) F ab (.slice Q L T) N ∧ juratref18_Pick.l2 av G ai B I N A = some aN) k ⟨([] : List Int), 0, none, 0, 0, CH.emp, rfl, b6, rfl, (Row.nil _ _), h⟩ ?_
    clear h
    rintro av a p ⟨N, A, Q, T, L, ab, bv, a0, aT, aQ, h⟩
    rcases av with _ | a5
    · exact absurd h (by simp [juratref18_Pick.l2])
    rw [juratref18_Pick.l2] at h
    apply ks a bv
    refine W.seq <| W.sr rfl <| WL.run to 1 rfl <| WL.ln (N.length : Int) rfl Try.underlying29 (by omega) <| WL.rd to 2 rfl ?_
    rcases iteE h with ⟨ax, h⟩ | ⟨ax, h⟩
    ·refine W.cT ax rfl <| W.skip <| W.block <| W.sr rfl <| WL.rd to 2 rfl <| W.seq <| W.sr rfl <| WL.rd to 1 rfl ?_
     obtain ⟨⟨ar, aO⟩, b, h⟩ := bindE h
     refine W.cutM (fun a p => ∃ ak ao aa aq, Kn a [(0, .slice ad ag U), (1, .slice ae E X), (2, iv B), (3, iv I), (12, .slice ak aa ao), (14, iv aO)] ∧ Ctx w F D p F [aq] ∧ aa = ar.length ∧ Row (Kd.int .i64) F aq (.slice ak aa ao) ar) ?_ ?_
     ·refine W.block <| W.loop (fun av a p => ∃ (O : List Int) (l : Int) (g : Int), ∃ u x s y, Kn a [(0, .slice ad ag U), (1, .slice ae E X), (2, iv B), (3, iv I), (12, .slice u s x), (13, iv A), (14, iv l), (15, iv g)] ∧ Ctx w F D p F [y] ∧ s = O.length ∧ Row (Kd.int .i64) F y (.slice u s x) O ∧ juratref18_Pick.l3 av G ai B I A O l g = some (ar, aO)) a5 ⟨N, B, 0, Q, T, L, ab, rfl, a0, aT, aQ, b⟩ ?_
      clear b
      rintro av a p ⟨O, l, g, u, x, s, y, bx, S, aE, Y, b⟩
      rcases av with _ | aK
      · exact absurd b (by simp [juratref18_Pick.l3])
      rw [juratref18_Pick.l3] at b
      apply ks a bx
      refine W.seq <| W.sr rfl <| WL.run to 2 rfl <| WL.ln (G.length : Int) rfl Try.underlying29 (by omega) <| WL.rd to 1 rfl ?_
      rcases iteE b with ⟨ay, b⟩ | ⟨ay, b⟩
      ·refine W.cT ay rfl <| W.skip <| W.seq <| W.block <| W.seq <| W.sr rfl <| WL.run to 2 rfl ?_
       obtain ⟨cU, b⟩ := guardE b
       obtain ⟨c4, cY, bb, bj⟩ := aG (by omega)
       refine WL.val (Yl.elemAddr (i := g) rfl rfl bb Try.underlying30 sz4 (by omega)) ?_
       obtain ⟨cN, bU, bY⟩ := bj g.toNat _ (getD_some (d := false) (by omega))
       obtain rfl := bU
       refine WL.val (Yl.load (v := .bool (ai.getD g.toNat false)) rfl Try.underlying4 rfl (((S.fro)).cell (bY 0 _ rfl))) <| WL.run to 1 rfl ?_
       obtain ⟨cg, t, b⟩ := bindE b
       refine WL.cut (fun a p => a 72 = .bool cg ∧ a 0 = .slice ad ag U ∧ a 1 = .slice ae E X ∧ a 2 = iv B ∧ a 3 = iv I ∧ a 12 = .slice u s x ∧ a 13 = iv A ∧ a 14 = iv l ∧ a 15 = iv g ∧ Ctx w F D p F [y]) ?_ ?_
       ·rcases iteE t with ⟨az, t⟩ | ⟨az, t⟩
        ·refine WL.kn 65 (congrArg Value.bool az) <| WL.offs 6 65 false rfl rfl <| WL.run to 1 rfl ?_
         cases t
         exact WL.done ⟨rfl, rfl, rfl, rfl, rfl, rfl, rfl, rfl, rfl, S⟩
        refine WL.kn 65 (congrArg Value.bool (Bool.eq_false_iff.2 az)) <| WL.run to 2 rfl ?_
        obtain ⟨cV, t⟩ := guardE t
        obtain ⟨c5, cZ, bc, bk⟩ := aS (by omega)
        refine WL.valOn rfl rfl (Yl.elemAddr (i := g) rfl rfl bc Try.underlying29 sz3 (by omega)) ?_
        obtain ⟨cO, bV, bZ⟩ := bk g.toNat _ (getD_some (d := 0) (by omega))
        obtain rfl := bV
        refine WL.valOn rfl rfl (Yl.load (v := iv (G.getD g.toNat 0)) rfl Try.underlying3 rfl (((S.fro)).cell (bZ 0 _ rfl))) <| WL.run to 3 rfl ?_
        cases t
        exact WL.done ⟨rfl, rfl, rfl, rfl, rfl, rfl, rfl, rfl, rfl, S⟩
       ·rintro a p ⟨bz, bA, bB, bC, bD, bE, bG, bH, bI, al⟩
        apply kn a (.c bz (.c bA (.c bB (.c bC (.c bD (.c bE (.c bG (.c bH (.c bI .n)))))))))
        rcases iteE b with ⟨aA, b⟩ | ⟨aA, b⟩
        ·refine W.condT (congrArg Value.bool aA) <| W.exit <| thenE_x <| inB_here <| W.region rfl ?_
         exact WL.rd to 3 rfl <| thenE_n ⟨aK, Nat.lt_succ_self _, O, l, wi64 (g + 1), u, x, s, y, rfl, al, aE, Y, b⟩
        refine W.condF (congrArg Value.bool (Bool.eq_false_iff.2 aA)) <| W.skip <| W.seq ?_
        obtain ⟨au, j, b⟩ := bindE b
        refine W.cutM (fun a p => ∃ R V M ac, Kn a [(0, .slice ad ag U), (1, .slice ae E X), (2, iv B), (3, iv I), (12, .slice R M V), (13, iv A), (14, iv l), (15, iv g)] ∧ Ctx w F D p F [ac] ∧ M = au.length ∧ Row (Kd.int .i64) F ac (.slice R M V) au) ?_ ?_
        ·refine W.sr rfl <| WL.run to 2 rfl ?_
         obtain ⟨cW, j⟩ := guardE j
         obtain ⟨c6, c1, bd, bl⟩ := aS (by omega)
         refine WL.val (Yl.elemAddr (i := g) rfl rfl bd Try.underlying29 sz3 (by omega)) ?_
         obtain ⟨cP, bW, b0⟩ := bl g.toNat _ (getD_some (d := 0) (by omega))
         obtain rfl := bW
         refine WL.val (Yl.load (v := iv (G.getD g.toNat 0)) rfl Try.underlying3 rfl (((al.fro)).cell (b0 0 _ rfl))) <| WL.run to 3 rfl ?_
         obtain ⟨ch, J, j⟩ := bindE j
         refine WL.cut (fun a p => a 84 = .bool ch ∧ a 0 = .slice ad ag U ∧ a 1 = .slice ae E X ∧ a 2 = iv B ∧ a 3 = iv I ∧ a 12 = .slice u s x ∧ a 13 = iv A ∧ a 14 = iv l ∧ a 15 = iv g ∧ Ctx w F D p F [y]) ?_ ?_
         ·rcases iteE J with ⟨aB, J⟩ | ⟨aB, J⟩
          ·refine WL.kn 79 (congrArg Value.bool (decide_eq_true aB)) <| WL.run to 1 rfl <| WL.lnG (O.length : Int) rfl rfl rfl Try.underlying29 (by omega) <| WL.run to 3 rfl ?_
           cases J
           exact WL.done ⟨rfl, rfl, rfl, rfl, rfl, rfl, rfl, rfl, rfl, al⟩
          refine WL.kn 79 (congrArg Value.bool (decide_eq_false aB)) <| WL.offs 4 79 true rfl rfl <| WL.run to 1 rfl ?_
          cases J
          exact WL.done ⟨rfl, rfl, rfl, rfl, rfl, rfl, rfl, rfl, rfl, al⟩
         ·rintro a p ⟨bK, bL, bM, bN, bO, bP, bQ, bR, bS, a1⟩
          apply kn a (.c bK (.c bL (.c bM (.c bN (.c bO (.c bP (.c bQ (.c bR (.c bS .n)))))))))
          rcases iteE j with ⟨aC, j⟩ | ⟨aC, j⟩
          ·refine W.condT (congrArg Value.bool aC) <| W.region rfl ?_
           refine WL.run to 2 rfl ?_
           obtain ⟨c3, cc, c8, a6, c9, bs, b1, a2, bg⟩ := ev_lit1' (P := Try.prog) 3 (Kd.int .i64) a1 Try.underlying29 ti3 ⟨by decide, by decide⟩ g (iv g) rfl
           refine WL.val (b1 _ _ _ rfl) ?_
           obtain ⟨bi, j⟩ := guardE j
           obtain ⟨b4, cd, cl, aM, da, bt, b2, b8, bh⟩ := ev_append' (P := Try.prog) (cb := cc) 3 (Kd.int .i64) [a6] [] a2 Y bs (Row.sl bg) (Ctx.subI 0 a2 rfl) Try.underlying29 ti3 rfl zo3 (by decide) (by decide) (by simpa using bi)
           have b9 : Cx [a6, aM] := b8
           refine WL.val (b2 _ _ _ _ rfl rfl) <| WL.rd to 1 rfl ?_
           have ca : Cx [aM] := b9.pick [1] rfl
           cases j
           refine thenE_n ?_
           exact ⟨b4, cd, cl, aM, rfl, ca, bt, bh⟩
          refine W.condF (congrArg Value.bool (Bool.eq_false_iff.2 aC)) <| W.skip ?_
          cases j
          refine thenE_n ?_
          exact ⟨u, x, s, y, rfl, a1, aE, Y⟩
        ·rintro a p ⟨R, V, M, ac, bJ, am, aU, aR⟩
         apply ks a bJ
         refine W.sr rfl <| WL.run to 2 rfl ?_
         obtain ⟨cX, b⟩ := guardE b
         obtain ⟨c7, c2, aP, bm⟩ := aS (by omega)
         refine WL.val (Yl.elemAddr (i := g) rfl rfl aP Try.underlying29 sz3 (by omega)) ?_
         obtain ⟨cQ, bX, aV⟩ := bm g.toNat _ (getD_some (d := 0) (by omega))
         obtain rfl := bX
         refine WL.val (Yl.load (v := iv (G.getD g.toNat 0)) rfl Try.underlying3 rfl (((am.fro)).cell (aV 0 _ rfl))) <| WL.rd to 2 rfl ?_
         rcases iteE b with ⟨aD, b⟩ | ⟨aD, b⟩
         ·refine W.cT aD rfl <| W.region rfl ?_
          refine WL.run to 3 rfl <| WL.val (Yl.elemAddr (i := g) rfl rfl aP Try.underlying29 sz3 (by omega)) <| WL.val (Yl.load (v := iv (G.getD g.toNat 0)) rfl Try.underlying3 rfl (((am.fro)).cell (aV 0 _ rfl))) <| WL.val (Yl.min2 (m := l) (n := G.getD g.toNat 0) (r := (if (G.getD g.toNat 0) < l then G.getD g.toNat 0 else l)) rfl rfl rfl) <| WL.rd to 1 rfl <| inB_n <| W.region rfl ?_
          exact WL.rd to 3 rfl <| thenE_n ⟨aK, Nat.lt_succ_self _, au, (if (G.getD g.toNat 0) < l then G.getD g.toNat 0 else l), wi64 (g + 1), R, V, M, ac, rfl, am, aU, aR, b⟩
         refine W.cF aD rfl <| W.skip <| inB_n <| W.region rfl ?_
         exact WL.rd to 3 rfl <| thenE_n ⟨aK, Nat.lt_succ_self _, au, l, wi64 (g + 1), R, V, M, ac, rfl, am, aU, aR, b⟩
      refine W.cF ay rfl <| W.exit <| thenE_x <| thenE_x <| inB_here ?_
      cases b
      refine thenE_n ?_
      exact ⟨u, x, s, y, rfl, S, aE, Y⟩
     ·rintro a p ⟨ak, ao, aa, aq, bw, b7, br, bf⟩
      apply ks a bw
      refine W.region rfl ?_
      exact WL.rd to 2 rfl <| inB_n <| thenE_n ⟨a5, Nat.lt_succ_self _, ar, aO, ak, ao, aa, aq, rfl, b7, br, bf, h⟩
    refine W.cF ax rfl <| W.exit <| thenE_x <| thenE_x <| inB_here ?_
    cases h
    refine thenE_n ?_
    exact ⟨Q, T, L, ab, rfl, a0, aT, aQ⟩
   ·rintro a p ⟨aj, an, Z, ap, bu, b5, bq, be⟩
    apply kn a (.c bu .n)
    refine W.sr rfl <| WL.rd to 3 rfl <| W.ret ?_
    simp only [Option.some.injEq, Prod.mk.injEq] at H
    obtain ⟨ce, cf⟩ := H
    subst ce cf
    exact post_r (resE2 rfl rfl rfl) ⟨aj, an, Z, ap, rfl, b5, bq, be⟩
def juratref19_first.l1 : Nat → List TCast → Int → Int → Option (Sum Unit Bool)
  | 0, _, _, _ => none
  | k + 1, b, d, a => if a < d then (if 0 ≤ a ∧ a < (b.length : Int) then (if 0 ≤ d ∧ d < (b.length : Int) then ((if ((b.getD a.toNat TCast.z).Worker) = ((b.getD d.toNat TCast.z).Worker) then ((juratref01_Same.f k ((b.getD a.toNat TCast.z).Value) ((b.getD d.toNat TCast.z).Value)).bind fun g => some (g)) else (some (false))).bind fun e => if e = true then (some (Sum.inr false)) else (juratref19_first.l1 k b d (wi64 (a + 1)))) else none) else none) else (some (Sum.inl ()))
def juratref19_first.f (k : Nat) (a : List TCast) (b : Int) : Option Bool := (juratref19_first.l1 k a b 0).bind fun d => sumE d (fun _ => some true) (fun e => some e)
theorem juratref19_first.calls (k w F T P am) (p : List TCast) (m : Int) (hp : Pre w F []) (aG : am = p.length) (aE : p.length ≤ P) (aF : P ≤ maxLen) (av : Sl TCast.K F F T p) (an : Bool) (H : juratref19_first.f k p m = some an) :
    Calls Try.prog 79 #[.slice T am P, iv m] w fun e w' => e = .returned (.bool an) ∧ (∃ o, w' = w.drewN o) := by
 have C := Ctx.start hp
 generalize domL [] = D at C
 have aC : ∃ o, w = w.drewN o := ⟨0, rfl⟩
 unfold juratref19_first.f at H
 refine Calls.ofW Try.func79 rfl (by simp [Try.ntmps79]) <| W.sr rfl <| WL.rd to 1 rfl <| W.seq <| W.sr rfl <| WL.rd to 1 rfl ?_
 obtain ⟨R, a, H⟩ := bindE H
 refine W.cutM (fun b G => Ctx w F D G F [] ∧ (∃ o, G = w.drewN o) ∧ R = Sum.inl ()) ?_ ?_
 ·refine W.block <| W.loop (fun au b G => ∃ (g : Int), Kn b [(0, .slice T am P), (1, iv m), (5, iv g)] ∧ Ctx w F D G F [] ∧ (∃ o, G = w.drewN o) ∧ juratref19_first.l1 au p m g = some R) k ⟨0, rfl, C, aC, a⟩ ?_
  clear a
  rintro au b G ⟨g, af, j, I, a⟩
  rcases au with _ | Q
  · exact absurd a (by simp [juratref19_first.l1])
  rw [juratref19_first.l1] at a
  apply ks b af
  refine W.seq <| W.sr rfl <| WL.rd to 3 rfl ?_
  rcases iteE a with ⟨r, a⟩ | ⟨r, a⟩
  ·refine W.cT r rfl <| W.skip <| W.seq <| W.block <| W.seq <| W.region_quiet (by kernel_rfl) (by kernel_rfl) rfl ?_
   refine WQ.run to 2 rfl ?_
   obtain ⟨ay, a⟩ := guardE a
   obtain ⟨aD, aA, l, L⟩ := av (by omega)
   refine WQ.vl (fun _ => Yl.elemAddr (i := g) rfl rfl l Try.underlying53 sz79 (by omega)) ?_
   refine WQ.run to 1 rfl ?_
   obtain ⟨aw, ak, M⟩ := L g.toNat _ (getD_some (d := TCast.z) (by omega))
   obtain ⟨u, y, B, rfl, ad, Z, ab, V⟩ := TCast.open ak
   refine WQ.vl (fun _ => Yl.load (v := iv ((p.getD g.toNat TCast.z).Worker)) rfl Try.underlying3 rfl ((((j.drewN _).fro)).cell (M 0 _ rfl))) ?_
   refine WQ.run to 2 rfl ?_
   obtain ⟨az, a⟩ := guardE a
   refine WQ.vl (fun _ => Yl.elemAddr (i := m) rfl rfl l Try.underlying53 sz79 (by omega)) ?_
   refine WQ.run to 1 rfl ?_
   obtain ⟨ax, al, N⟩ := L m.toNat _ (getD_some (d := TCast.z) (by omega))
   obtain ⟨x, A, E, rfl, ae, aa, ac, X⟩ := TCast.open al
   refine WQ.vl (fun _ => Yl.load (v := iv ((p.getD m.toNat TCast.z).Worker)) rfl Try.underlying3 rfl ((((j.drewN _).fro)).cell (N 0 _ rfl))) ?_
   refine WQ.run to 2 rfl ?_
   obtain ⟨ar, h, a⟩ := bindE a
   refine WQ.cut (fun b => b 34 = .bool ar ∧ b 0 = .slice T am P ∧ b 1 = iv m ∧ b 5 = iv g) ?_ ?_
   ·rcases iteE h with ⟨s, h⟩ | ⟨s, h⟩
    ·refine WQ.kn 22 (congrArg Value.bool (decide_eq_true s)) <| WQ.run to 2 rfl <| WQ.vOn rfl rfl (fun _ => Yl.elemAddr (i := g) rfl rfl l Try.underlying53 sz79 (by omega)) ?_
     refine WQ.run to 1 rfl <| WQ.vOn rfl rfl (fun _ => Yl.load (v := .slice u B y) rfl Try.underlying44 rfl ((((j.drewN _).fro)).cell (M 1 _ rfl))) ?_
     refine WQ.run to 2 rfl <| WQ.vOn rfl rfl (fun _ => Yl.elemAddr (i := m) rfl rfl l Try.underlying53 sz79 (by omega)) ?_
     refine WQ.run to 1 rfl <| WQ.vOn rfl rfl (fun _ => Yl.load (v := .slice x E A) rfl Try.underlying44 rfl ((((j.drewN _).fro)).cell (N 1 _ rfl))) ?_
     refine WQ.on rfl rfl ?_
     obtain ⟨S, Y, h⟩ := bindE h
     refine WQ.call (v := .bool S) (f := 21) (args := #[.slice u B y, .slice x E A]) (fun _ hw => by obtain ⟨_, rfl⟩ := hw; exact (ne.fr rfl rfl)) (fun _ hw => by obtain ⟨o, rfl⟩ := hw; exact (juratref01_Same.calls Q _ F u y B ((p.getD g.toNat TCast.z).Value) x A E ((p.getD m.toNat TCast.z).Value) (j.drewN o).pre0 ad Z ab V ae aa ac X S Y).mono (fun _ _ ⟨he, m_, hm_⟩ => ⟨he, o + m_, by rw [hm_, World.drewN_drewN]⟩)) ?_
     refine WQ.run to 1 rfl ?_
     cases h
     exact WQ.done ⟨rfl, rfl, rfl, rfl⟩
    refine WQ.kn 22 (congrArg Value.bool (decide_eq_false s)) <| WQ.offs 11 22 true rfl rfl <| WQ.run to 1 rfl ?_
    cases h
    exact WQ.done ⟨rfl, rfl, rfl, rfl⟩
   ·rintro b ⟨ag, ah, ai, aj⟩
    intro O
    have ao := Ctx.drewN j O
    have J := drew_more I O
    apply kn b (.c ag (.c ah (.c ai (.c aj .n))))
    rcases iteE a with ⟨t, a⟩ | ⟨t, a⟩
    ·refine W.condT (congrArg Value.bool t) <| W.sr rfl <| WL.rd to 1 rfl <| W.ret ?_
     iterate 6 first | refine inB_r ?_ | refine thenE_r ?_
     cases a
     replace H := sumE_r H
     have ap := Option.some.inj H
     subst ap
     exact post_r (resE1 rfl rfl) ⟨rfl, J⟩
    refine W.condF (congrArg Value.bool (Bool.eq_false_iff.2 t)) <| W.skip <| inB_n <| W.region rfl ?_
    exact WL.rd to 3 rfl <| thenE_n ⟨Q, Nat.lt_succ_self _, wi64 (g + 1), rfl, ao, J, a⟩
  refine W.cF r rfl <| W.exit <| thenE_x <| thenE_x <| inB_here ?_
  cases a
  refine thenE_n ?_
  exact ⟨j, I, rfl⟩
 ·rintro b G ⟨aB, U, rfl⟩
  replace H := sumE_l H
  refine W.sr rfl <| WL.rd to 1 rfl <| W.ret ?_
  have aq := Option.some.inj H
  subst aq
  exact post_r (resE1 rfl rfl) ⟨rfl, U⟩
def juratref19_Count.l1 : Nat → List TCast → List Int → Int → Int → Option Int
  | 0, _, _, _, _ => none
  | k + 1, d, e, b, a => if a < (d.length : Int) then (if 0 ≤ a ∧ a < (d.length : Int) then ((juratref01_Same.f k ((d.getD a.toNat TCast.z).Value) e).bind fun h => (if h = true then ((juratref19_first.f k d a).bind fun i => some (i)) else (some (false))).bind fun g => if g = true then (juratref19_Count.l1 k d e (wi64 (b + 1)) (wi64 (a + 1))) else (juratref19_Count.l1 k d e b (wi64 (a + 1)))) else none) else (some b)
def juratref19_Count.f (k : Nat) (b : List TCast) (d : List Int) : Option Int := (juratref19_Count.l1 k b d 0 0).bind fun a => some a
theorem juratref19_Count.calls (k w F L I T) (u : List TCast) (N J x) (G : List Int) (hp : Pre w F []) (aF : T = u.length) (aD : u.length ≤ I) (aE : I ≤ maxLen) (ap : Sl TCast.K F F L u) (aA : x = G.length) (ay : G.length ≤ J) (az : J ≤ maxLen) (ax : Sl (Kd.int .u8) F F N G) (aq : Int) (H : juratref19_Count.f k u G = some aq) :
    Calls Try.prog 73 #[.slice L T I, .slice N x J] w fun e w' => e = .returned (iv aq) ∧ (∃ t, w' = w.drewN t) := by
 have C := Ctx.start hp
 generalize domL [] = D at C
 have aK : ∃ t, w = w.drewN t := ⟨0, rfl⟩
 unfold juratref19_Count.f at H
 refine Calls.ofW Try.func73 rfl (by simp [Try.ntmps73]) <| W.sr rfl <| WL.rd to 1 rfl <| W.sr rfl <| WL.rd to 1 rfl <| W.seq <| W.sr rfl <| WL.rd to 1 rfl ?_
 obtain ⟨U, a, H⟩ := bindE H
 refine W.cutM (fun b j => b 5 = iv U ∧ Ctx w F D j F [] ∧ (∃ t, j = w.drewN t)) ?_ ?_
 ·refine W.block <| W.loop (fun aw b j => ∃ (l : Int) (g : Int), Kn b [(0, .slice L T I), (1, .slice N x J), (5, iv l), (6, iv g)] ∧ Ctx w F D j F [] ∧ (∃ t, j = w.drewN t) ∧ juratref19_Count.l1 aw u G l g = some U) k ⟨0, 0, rfl, C, aK, a⟩ ?_
  clear a
  rintro aw b j ⟨l, g, ah, m, A, a⟩
  rcases aw with _ | s
  · exact absurd a (by simp [juratref19_Count.l1])
  rw [juratref19_Count.l1] at a
  apply ks b ah
  refine W.seq <| W.sr rfl <| WL.run to 2 rfl <| WL.ln (u.length : Int) rfl Try.underlying53 (by omega) <| WL.rd to 1 rfl ?_
  rcases iteE a with ⟨o, a⟩ | ⟨o, a⟩
  ·refine W.cT o rfl <| W.skip <| W.seq <| W.block <| W.sr rfl <| WL.run to 2 rfl ?_
   obtain ⟨aH, a⟩ := guardE a
   obtain ⟨aL, aI, Y, aa⟩ := ap (by omega)
   refine WL.val (Yl.elemAddr (i := g) rfl rfl Y Try.underlying53 sz79 (by omega)) <| WL.run to 1 rfl ?_
   obtain ⟨aG, an, ao⟩ := aa g.toNat _ (getD_some (d := TCast.z) (by omega))
   obtain ⟨M, P, S, rfl, af, ad, ae, Z⟩ := TCast.open an
   refine WL.val (Yl.load (v := .slice M S P) rfl Try.underlying44 rfl (((m.fro)).cell (ao 1 _ rfl))) <| WL.run to 1 rfl ?_
   obtain ⟨aB, ab, a⟩ := bindE a
   refine WL.callH (juratref01_Same.calls s _ F M P S ((u.getD g.toNat TCast.z).Value) N J x G m.pre0 af ad ae Z aA ay az ax aB ab) (ne.fr rfl rfl) ?_
   rintro aM j ⟨rfl, ⟨Q, rfl⟩⟩
   refine ⟨_, rfl, ?_⟩
   have y := Ctx.drewN m Q
   have B := drew_more A Q
   refine WL.run to 1 rfl ?_
   obtain ⟨av, h, a⟩ := bindE a
   refine WL.cut (fun b j => b 24 = .bool av ∧ b 0 = .slice L T I ∧ b 1 = .slice N x J ∧ b 5 = iv l ∧ b 6 = iv g ∧ Ctx w F D j F [] ∧ (∃ t, j = w.drewN t)) ?_ ?_
   ·rcases iteE h with ⟨p, h⟩ | ⟨p, h⟩
    ·refine WL.kn 20 (congrArg Value.bool p) <| WL.run to 2 rfl <| WL.on rfl rfl ?_
     obtain ⟨aC, ac, h⟩ := bindE h
     refine WL.callH (juratref19_first.calls s _ F L I T u g y.pre0 aF aD aE ap aC ac) (ne.fr rfl rfl) ?_
     rintro aM j ⟨rfl, ⟨R, rfl⟩⟩
     refine ⟨_, rfl, ?_⟩
     have ar := Ctx.drewN y R
     have X := drew_more B R
     refine WL.run to 1 rfl ?_
     cases h
     exact WL.done ⟨rfl, rfl, rfl, rfl, rfl, ar, X⟩
    refine WL.kn 20 (congrArg Value.bool (Bool.eq_false_iff.2 p)) <| WL.offs 3 20 true rfl rfl <| WL.run to 1 rfl ?_
    cases h
    exact WL.done ⟨rfl, rfl, rfl, rfl, rfl, y, B⟩
   ·rintro b j ⟨ai, aj, ak, al, am, O, E⟩
    apply kn b (.c ai (.c aj (.c ak (.c al (.c am .n)))))
    rcases iteE a with ⟨r, a⟩ | ⟨r, a⟩
    ·refine W.condT (congrArg Value.bool r) <| W.region rfl ?_
     refine WL.rd to 3 rfl <| inB_n <| W.region rfl ?_
     exact WL.rd to 3 rfl <| thenE_n ⟨s, Nat.lt_succ_self _, wi64 (l + 1), wi64 (g + 1), rfl, O, E, a⟩
    refine W.condF (congrArg Value.bool (Bool.eq_false_iff.2 r)) <| W.skip <| inB_n <| W.region rfl ?_
    exact WL.rd to 3 rfl <| thenE_n ⟨s, Nat.lt_succ_self _, l, wi64 (g + 1), rfl, O, E, a⟩
  refine W.cF o rfl <| W.exit <| thenE_x <| thenE_x <| inB_here ?_
  cases a
  refine thenE_n ?_
  exact ⟨rfl, m, A⟩
 ·rintro b j ⟨ag, aJ, V⟩
  apply kn b (.c ag .n)
  refine W.sr rfl <| WL.rd to 2 rfl <| W.ret ?_
  have au := Option.some.inj H
  subst au
  exact post_r (resE1 rfl rfl) ⟨rfl, V⟩
def juratref19_Decide.l1 : Nat → List TCast → Int → Int → Option (Sum Unit ((List Int) × Bool))
  | 0, _, _, _ => none
  | k + 1, b, d, a => if ((decide (a < (b.length : Int))) && (decide (d ≥ 0))) = true then (if 0 ≤ a ∧ a < (b.length : Int) then ((juratref19_Count.f k b ((b.getD a.toNat TCast.z).Value)).bind fun e => if e > d then (some (Sum.inr ((b.getD a.toNat TCast.z).Value, true))) else (juratref19_Decide.l1 k b d (wi64 (a + 1)))) else none) else (some (Sum.inl ()))
def juratref19_Decide.f (k : Nat) (a : List TCast) (b : Int) : Option ((List Int) × Bool) := (juratref19_Decide.l1 k a b 0).bind fun d => sumE d (fun _ => some (([] : List Int), false)) (fun e => some e)
theorem juratref19_Decide.calls (k w F P O X) (j : List TCast) (p : Int) (hp : Pre w F []) (av : X = j.length) (ar : j.length ≤ O) (au : O ≤ maxLen) (ag : Sl TCast.K F F P j) (N : List Int) (ai : Bool) (H : juratref19_Decide.f k j p = some (N, ai)) :
    Calls Try.prog 60 #[.slice P X O, iv p] w fun e w' => ∃ Q y V, e = .returned (.tuple #[(.slice Q V y), (.bool ai)]) ∧ (∃ x, w' = w.drewN x) ∧ V = N.length ∧ N.length ≤ y ∧ y ≤ maxLen ∧ Sl (Kd.int .u8) F F Q N := by
 have C := Ctx.start hp
 generalize domL [] = D at C
 have az : ∃ x, w = w.drewN x := ⟨0, rfl⟩
 unfold juratref19_Decide.f at H
 refine Calls.ofW Try.func60 rfl (by simp [Try.ntmps60]) <| W.sr rfl <| WL.rd to 2 rfl <| W.seq <| W.sr rfl <| WL.rd to 1 rfl ?_
 obtain ⟨ah, a, H⟩ := bindE H
 refine W.cutM (fun b l => Ctx w F D l F [] ∧ (∃ x, l = w.drewN x) ∧ ah = Sum.inl ()) ?_ ?_
 ·refine W.block <| W.loop (fun ao b l => ∃ (g : Int), Kn b [(0, .slice P X O), (1, iv p), (6, iv g)] ∧ Ctx w F D l F [] ∧ (∃ x, l = w.drewN x) ∧ juratref19_Decide.l1 ao j p g = some ah) k ⟨0, rfl, C, az, a⟩ ?_
  clear a
  rintro ao b l ⟨g, ap, af, S, a⟩
  rcases ao with _ | T
  · exact absurd a (by simp [juratref19_Decide.l1])
  rw [juratref19_Decide.l1] at a
  apply ks b ap
  refine W.seq <| W.sr rfl <| WL.run to 2 rfl <| WL.ln (j.length : Int) rfl Try.underlying53 (by omega) <| WL.run to 2 rfl <| WL.cut (fun b l => b 14 = .bool ((decide (g < (j.length : Int))) && (decide (p ≥ 0))) ∧ b 0 = .slice P X O ∧ b 1 = iv p ∧ b 6 = iv g ∧ Ctx w F D l F [] ∧ (∃ x, l = w.drewN x)) ?_ ?_
  ·rcases Bool.eq_false_or_eq_true (decide (g < (j.length : Int))) with h | h
   ·exact WL.kn 11 (congrArg Value.bool h) <| WL.run to 3 rfl <| WL.done ⟨(congrArg Value.bool (show (decide (p ≥ 0)) = ((decide (g < (j.length : Int))) && (decide (p ≥ 0))) from by simp [h])), rfl, rfl, rfl, af, S⟩
   ·exact WL.kn 11 (congrArg Value.bool h) <| WL.offs 2 11 true rfl rfl <| WL.run to 1 rfl <| WL.done ⟨(congrArg Value.bool (show false = ((decide (g < (j.length : Int))) && (decide (p ≥ 0))) from by simp [h])), rfl, rfl, rfl, af, S⟩
  ·rintro b l ⟨aa, ab, ac, ad, o, A⟩
   apply kn b (.c aa (.c ab (.c ac (.c ad .n))))
   rcases iteE a with ⟨s, a⟩ | ⟨s, a⟩
   ·refine W.condT (congrArg Value.bool s) <| W.skip <| W.seq <| W.block <| W.sr rfl <| WL.run to 3 rfl ?_
    obtain ⟨ax, a⟩ := guardE a
    obtain ⟨aA, ay, E, Y⟩ := ag (by omega)
    refine WL.val (Yl.elemAddr (i := g) rfl rfl E Try.underlying53 sz79 (by omega)) <| WL.run to 1 rfl ?_
    obtain ⟨aw, ae, M⟩ := Y g.toNat _ (getD_some (d := TCast.z) (by omega))
    obtain ⟨m, r, u, rfl, L, I, J, G⟩ := TCast.open ae
    refine WL.val (Yl.load (v := .slice m u r) rfl Try.underlying44 rfl (((o.fro)).cell (M 1 _ rfl))) ?_
    obtain ⟨aq, Z, a⟩ := bindE a
    refine WL.callH (juratref19_Count.calls T _ F P O X j m r u ((j.getD g.toNat TCast.z).Value) o.pre0 av ar au ag L I J G aq Z) (ne.fr rfl rfl) ?_
    rintro aC l ⟨rfl, ⟨U, rfl⟩⟩
    refine ⟨_, rfl, ?_⟩
    have R := Ctx.drewN o U
    have B := drew_more A U
    refine WL.rd to 2 rfl ?_
    rcases iteE a with ⟨t, a⟩ | ⟨t, a⟩
    ·refine W.cT t rfl <| W.sr rfl <| WL.run to 2 rfl <| WL.val (Yl.elemAddr (i := g) rfl rfl E Try.underlying53 sz79 (by omega)) <| WL.run to 1 rfl <| WL.val (Yl.load (v := .slice m u r) rfl Try.underlying44 rfl (((R.fro)).cell (M 1 _ rfl))) <| WL.rd to 2 rfl <| W.ret ?_
     iterate 6 first | refine inB_r ?_ | refine thenE_r ?_
     cases a
     replace H := sumE_r H
     simp only [Option.some.injEq, Prod.mk.injEq] at H
     obtain ⟨ak, al⟩ := H
     subst ak al
     exact post_r (resE2 rfl rfl rfl) ⟨m, r, u, rfl, B, L, I, J, G⟩
    refine W.cF t rfl <| W.skip <| inB_n <| W.region rfl ?_
    exact WL.rd to 3 rfl <| thenE_n ⟨T, Nat.lt_succ_self _, wi64 (g + 1), rfl, R, B, a⟩
   refine W.condF (congrArg Value.bool (Bool.eq_false_iff.2 s)) <| W.exit <| thenE_x <| thenE_x <| inB_here ?_
   cases a
   refine thenE_n ?_
   exact ⟨o, A, rfl⟩
 ·rintro b l ⟨aB, aj, rfl⟩
  replace H := sumE_l H
  refine W.sr rfl <| WL.rd to 2 rfl <| W.ret ?_
  simp only [Option.some.injEq, Prod.mk.injEq] at H
  obtain ⟨am, an⟩ := H
  subst am an
  exact post_r (resE2 rfl rfl rfl) ⟨none, 0, 0, rfl, aj, rfl, (Nat.le_refl _), (Nat.zero_le _), (Sl.nil _ _ _ _)⟩
def juratref19_Liars.l2 : Nat → List TCast → List Int → Int → List Int → Int → Option ((List Int) × Int)
  | 0, _, _, _, _, _ => none
  | k + 1, g, b, e, d, a => (if a < (b.length : Int) then (if 0 ≤ a ∧ a < (b.length : Int) then (some (decide ((b.getD a.toNat 0) < ((g.getD e.toNat TCast.z).Worker)))) else none) else (some (false))).bind fun f => if f = true then (if 0 ≤ a ∧ a < (b.length : Int) then (if (d.length + 1 + (d.length + 1) / 4 + 192) * 8 ≤ 281474976710656 then (juratref19_Liars.l2 k g b e (d ++ [b.getD a.toNat 0]) (wi64 (a + 1))) else none) else none) else (some (d, a))
def juratref19_Liars.l1 : Nat → List TCast → List Int → List Int → Int → Option (List Int)
  | 0, _, _, _, _ => none
  | k + 1, g, h, a, d => if d < (g.length : Int) then (if 0 ≤ d ∧ d < (g.length : Int) then ((juratref01_Same.f k ((g.getD d.toNat TCast.z).Value) h).bind fun j => if j = true then (juratref19_Liars.l1 k g h a (wi64 (d + 1))) else ((juratref19_Liars.l2 k g a d ([] : List Int) 0).bind fun ⟨e, b⟩ => if (e.length + 1 + (e.length + 1) / 4 + 192) * 8 ≤ 281474976710656 then ((if b < (a.length : Int) then (if 0 ≤ b ∧ b < (a.length : Int) then (some (decide ((a.getD b.toNat 0) = ((g.getD d.toNat TCast.z).Worker)))) else none) else (some (false))).bind fun i => if i = true then (if 0 ≤ (wi64 (b + 1)) ∧ (wi64 (b + 1)) ≤ (a.length : Int) ∧ (a.length : Int) ≤ (a.length : Int) then (if ((e ++ [(g.getD d.toNat TCast.z).Worker]).length + (a.drop ((wi64 (b + 1)).toNat)).length + ((e ++ [(g.getD d.toNat TCast.z).Worker]).length + (a.drop ((wi64 (b + 1)).toNat)).length) / 4 + 192) * 8 ≤ 281474976710656 then (juratref19_Liars.l1 k g h ((e ++ [(g.getD d.toNat TCast.z).Worker]) ++ (a.drop ((wi64 (b + 1)).toNat))) (wi64 (d + 1))) else none) else none) else (if 0 ≤ b ∧ b ≤ (a.length : Int) ∧ (a.length : Int) ≤ (a.length : Int) then (if ((e ++ [(g.getD d.toNat TCast.z).Worker]).length + (a.drop b.toNat).length + ((e ++ [(g.getD d.toNat TCast.z).Worker]).length + (a.drop b.toNat).length) / 4 + 192) * 8 ≤ 281474976710656 then (juratref19_Liars.l1 k g h ((e ++ [(g.getD d.toNat TCast.z).Worker]) ++ (a.drop b.toNat)) (wi64 (d + 1))) else none) else none)) else none)) else none) else (some a)
def juratref19_Liars.f (k : Nat) (b : List TCast) (d : List Int) : Option (List Int) := (juratref19_Liars.l1 k b d ([] : List Int) 0).bind fun a => some a
theorem juratref19_Liars.calls (k w F aC ax aE) (I : List TCast) (aw an S) (aR : List Int) (hp : Pre w F []) (ds : aE = I.length) (dq : I.length ≤ ax) (dr : ax ≤ maxLen) (cN : Sl TCast.K F F aC I) (cI : S = aR.length) (cG : aR.length ≤ an) (cH : an ≤ maxLen) (cE : Sl (Kd.int .u8) F F aw aR) (bY : List Int) (H : juratref19_Liars.f k I aR = some bY) :
    Calls Try.prog 64 #[.slice aC aE ax, .slice aw S an] w fun e w' => ∃ aH aN ao aQ, e = .returned (.slice aH ao aN) ∧ Ctx w F (domL []) w' F [aQ] ∧ ao = bY.length ∧ Row (Kd.int .i64) F aQ (.slice aH ao aN) bY := by
 have C := Ctx.start hp
 generalize hD : domL [] = D at C ⊢
 unfold juratref19_Liars.f at H
 refine Calls.ofW Try.func64 rfl (by simp [Try.ntmps64]) <| W.sr rfl <| WL.rd to 1 rfl <| W.sr rfl <| WL.rd to 1 rfl <| W.seq <| W.sr rfl <| WL.rd to 1 rfl ?_
 obtain ⟨aF, a, H⟩ := bindE H
 refine W.cutM (fun b T => ∃ ag am ae av, b 5 = .slice ag ae am ∧ Ctx w F D T F [av] ∧ ae = aF.length ∧ Row (Kd.int .i64) F av (.slice ag ae am) aF) ?_ ?_
 ·refine W.block ?_
  have b3 : Cx [CH.emp] := C.pick [0] rfl
  refine W.loop (fun aD b T => ∃ (j : List Int) (h : Int), ∃ u o t p, Kn b [(0, .slice aC aE ax), (1, .slice aw S an), (5, .slice u t o), (6, iv h)] ∧ Ctx w F D T F [p] ∧ t = j.length ∧ Row (Kd.int .i64) F p (.slice u t o) j ∧ juratref19_Liars.l1 aD I aR j h = some aF) k ⟨([] : List Int), 0, none, 0, 0, CH.emp, rfl, b3, rfl, (Row.nil _ _), a⟩ ?_
  clear a
  rintro aD b T ⟨j, h, u, o, t, p, cv, ak, B, s, a⟩
  rcases aD with _ | O
  · exact absurd a (by simp [juratref19_Liars.l1])
  rw [juratref19_Liars.l1] at a
  apply ks b cv
  refine W.seq <| W.sr rfl <| WL.run to 2 rfl <| WL.ln (I.length : Int) rfl Try.underlying53 (by omega) <| WL.rd to 1 rfl ?_
  rcases iteE a with ⟨Y, a⟩ | ⟨Y, a⟩
  ·refine W.cT Y rfl <| W.skip <| W.seq <| W.block <| W.seq <| W.sr rfl <| WL.run to 2 rfl ?_
   obtain ⟨cO, a⟩ := guardE a
   obtain ⟨c8, cZ, M, a8⟩ := cN (by omega)
   refine WL.val (Yl.elemAddr (i := h) rfl rfl M Try.underlying53 sz79 (by omega)) <| WL.run to 1 rfl ?_
   obtain ⟨cJ, bG, N⟩ := a8 h.toNat _ (getD_some (d := TCast.z) (by omega))
   obtain ⟨aG, aM, aO, rfl, bf, bd, be, a3⟩ := TCast.open bG
   refine WL.val (Yl.load (v := .slice aG aO aM) rfl Try.underlying44 rfl (((ak.fro)).cell (N 1 _ rfl))) <| WL.run to 1 rfl ?_
   obtain ⟨cC, bc, a⟩ := bindE a
   refine WL.cq ak (juratref01_Same.calls O _ F aG aM aO ((I.getD h.toNat TCast.z).Value) aw an S aR ak.pre0 bf bd be a3 cI cG cH cE cC bc) (ne.fr rfl rfl) fun T aI => ?_
   refine WL.done ?_
   rcases iteE a with ⟨Z, a⟩ | ⟨Z, a⟩
   ·refine W.condT (congrArg Value.bool Z) <| W.exit <| thenE_x <| inB_here <| W.region rfl ?_
    exact WL.rd to 3 rfl <| thenE_n ⟨O, Nat.lt_succ_self _, j, wi64 (h + 1), u, o, t, p, rfl, aI, B, s, a⟩
   refine W.condF (congrArg Value.bool (Bool.eq_false_iff.2 Z)) <| W.skip <| W.sr rfl <| WL.rd to 1 rfl <| W.sr rfl <| WL.rd to 1 rfl <| W.seq ?_
   obtain ⟨⟨Q, r⟩, g, a⟩ := bindE a
   refine W.cutM (fun b T => ∃ af al V ap, Kn b [(0, .slice aC aE ax), (1, .slice aw S an), (5, .slice u t o), (6, iv h), (7, .slice af V al), (8, iv r)] ∧ Ctx w F D T F [ap, p] ∧ V = Q.length ∧ Row (Kd.int .i64) F ap (.slice af V al) Q) ?_ ?_
   ·refine W.block ?_
    have b4 : Cx [CH.emp, p] := aI.pick [1, 0] rfl
    refine W.loop (fun aD b T => ∃ (R : List Int) (m : Int), ∃ J L E X, Kn b [(0, .slice aC aE ax), (1, .slice aw S an), (5, .slice u t o), (6, iv h), (7, .slice J E L), (8, iv m)] ∧ Ctx w F D T F [X, p] ∧ E = R.length ∧ Row (Kd.int .i64) F X (.slice J E L) R ∧ juratref19_Liars.l2 aD I j h R m = some (Q, r)) O ⟨([] : List Int), 0, none, 0, 0, CH.emp, rfl, b4, rfl, (Row.nil _ _), g⟩ ?_
    clear g
    rintro aD b T ⟨R, m, J, L, E, X, bp, ah, bg, ay, g⟩
    rcases aD with _ | cw
    · exact absurd g (by simp [juratref19_Liars.l2])
    rw [juratref19_Liars.l2] at g
    apply ks b bp
    refine W.seq <| W.seq <| W.region_quiet (by kernel_rfl) (by kernel_rfl) rfl ?_
    refine WQ.run to 2 rfl <| WQ.vl (fun _ => Yl.lenN (A := u) (l := t) (q := o) (n := (j.length : Int)) rfl Try.underlying29 (by omega)) ?_
    refine WQ.run to 2 rfl ?_
    obtain ⟨cp, x, g⟩ := bindE g
    refine WQ.cut (fun b => b 37 = .bool cp ∧ b 0 = .slice aC aE ax ∧ b 1 = .slice aw S an ∧ b 5 = .slice u t o ∧ b 6 = iv h ∧ b 7 = .slice J E L ∧ b 8 = iv m) ?_ ?_
    ·rcases iteE x with ⟨aa, x⟩ | ⟨aa, x⟩
     ·refine WQ.kn 26 (congrArg Value.bool (decide_eq_true aa)) <| WQ.run to 2 rfl ?_
      obtain ⟨cP, x⟩ := guardE x
      obtain ⟨c9, c1, aS, a9⟩ := (Row.sl s) (by omega)
      refine WQ.vOn rfl rfl (fun _ => Yl.elemAddr (i := m) rfl rfl aS Try.underlying29 sz3 (by omega)) ?_
      obtain ⟨cK, bH, bK⟩ := a9 m.toNat _ (getD_some (d := 0) (by omega))
      obtain rfl := bH
      refine WQ.vOn rfl rfl (fun _ => Yl.load (v := iv (j.getD m.toNat 0)) rfl Try.underlying3 rfl (((Ctx.subI 1 (ah.drewN _) rfl)).cell (bK 0 _ rfl))) ?_
      refine WQ.run to 2 rfl <| WQ.vOn rfl rfl (fun _ => Yl.elemAddr (i := h) rfl rfl M Try.underlying53 sz79 (by omega)) ?_
      refine WQ.run to 1 rfl <| WQ.vOn rfl rfl (fun _ => Yl.load (v := iv ((I.getD h.toNat TCast.z).Worker)) rfl Try.underlying3 rfl ((((ah.drewN _).fro)).cell (N 0 _ rfl))) ?_
      refine WQ.run to 2 rfl ?_
      cases x
      exact WQ.done ⟨rfl, rfl, rfl, rfl, rfl, rfl, rfl⟩
     refine WQ.kn 26 (congrArg Value.bool (decide_eq_false aa)) <| WQ.offs 10 26 true rfl rfl <| WQ.run to 1 rfl ?_
     cases x
     exact WQ.done ⟨rfl, rfl, rfl, rfl, rfl, rfl, rfl⟩
    ·rintro b ⟨bq, br, bs, bt, bu, bv, bw⟩
     intro bW
     have ai := Ctx.drewN ah bW
     apply kn b (.c bq (.c br (.c bs (.c bt (.c bu (.c bv (.c bw .n)))))))
     rcases iteE g with ⟨ab, g⟩ | ⟨ab, g⟩
     ·refine W.condT (congrArg Value.bool ab) <| W.skip <| W.block <| W.sr rfl <| WL.run to 3 rfl ?_
      obtain ⟨cQ, g⟩ := guardE g
      obtain ⟨da, c2, aT, ba⟩ := (Row.sl s) (by omega)
      refine WL.val (Yl.elemAddr (i := m) rfl rfl aT Try.underlying29 sz3 (by omega)) ?_
      obtain ⟨cL, bI, bL⟩ := ba m.toNat _ (getD_some (d := 0) (by omega))
      obtain rfl := bI
      refine WL.val (Yl.load (v := iv (j.getD m.toNat 0)) rfl Try.underlying3 rfl (((Ctx.subI 1 ai rfl)).cell (bL 0 _ rfl))) ?_
      obtain ⟨c4, cg, dc, aP, di, bh, bN, aK, aW⟩ := ev_lit1' (P := Try.prog) 3 (Kd.int .i64) ai Try.underlying29 ti3 ⟨by decide, by decide⟩ (j.getD m.toNat 0) (iv (j.getD m.toNat 0)) rfl
      refine WL.val (bN _ _ _ rfl) ?_
      obtain ⟨a4, g⟩ := guardE g
      obtain ⟨bZ, ch, cx, aq, dj, bi, bO, b5, aX⟩ := ev_append' (P := Try.prog) (cb := cg) 3 (Kd.int .i64) [aP] [p] aK ay bh (Row.sl aW) (Ctx.subI 0 aK rfl) Try.underlying29 ti3 rfl zo3 (by decide) (by decide) (by simpa using a4)
      have b6 : Cx [aP, aq, p] := b5
      refine WL.val (bO _ _ _ _ rfl rfl) <| WL.rd to 1 rfl <| W.region rfl ?_
      refine WL.rd to 3 rfl <| inB_n ?_
      have b7 : Cx [aq, p] := b6.pick [1, 2] rfl
      exact thenE_n ⟨cw, Nat.lt_succ_self _, R ++ [j.getD m.toNat 0], wi64 (m + 1), bZ, ch, cx, aq, rfl, b7, bi, aX, g⟩
     refine W.condF (congrArg Value.bool (Bool.eq_false_iff.2 ab)) <| W.exit <| thenE_x <| thenE_x <| inB_here ?_
     cases g
     refine thenE_n ?_
     exact ⟨J, L, E, X, rfl, ai, bg, ay⟩
   ·rintro b T ⟨af, al, V, ap, bo, aJ, cX, aV⟩
    apply ks b bo
    refine W.sr rfl <| WL.run to 3 rfl <| WL.val (Yl.elemAddr (i := h) rfl rfl M Try.underlying53 sz79 (by omega)) <| WL.run to 1 rfl <| WL.val (Yl.load (v := iv ((I.getD h.toNat TCast.z).Worker)) rfl Try.underlying3 rfl (((aJ.fro)).cell (N 0 _ rfl))) ?_
    obtain ⟨c5, ci, dd, G, dk, bj, bP, aL, aY⟩ := ev_lit1' (P := Try.prog) 3 (Kd.int .i64) aJ Try.underlying29 ti3 ⟨by decide, by decide⟩ ((I.getD h.toNat TCast.z).Worker) (iv ((I.getD h.toNat TCast.z).Worker)) rfl
    refine WL.val (bP _ _ _ rfl) ?_
    obtain ⟨a5, a⟩ := guardE a
    obtain ⟨b0, cj, cy, cB, dl, cY, bQ, b8, az⟩ := ev_append' (P := Try.prog) (cb := ci) 3 (Kd.int .i64) [G] [p] aL aV bj (Row.sl aY) (Ctx.subI 0 aL rfl) Try.underlying29 ti3 rfl zo3 (by decide) (by decide) (by simpa using a5)
    have aj : Cx [G, cB, p] := b8
    refine WL.val (bQ _ _ _ _ rfl rfl) <| WL.rd to 1 rfl <| W.seq <| W.seq <| W.region_quiet (by kernel_rfl) (by kernel_rfl) rfl ?_
    refine WQ.run to 2 rfl <| WQ.vl (fun _ => Yl.lenN (A := u) (l := t) (q := o) (n := (j.length : Int)) rfl Try.underlying29 (by omega)) ?_
    refine WQ.run to 2 rfl ?_
    obtain ⟨cr, y, a⟩ := bindE a
    refine WQ.cut (fun b => b 70 = .bool cr ∧ b 0 = .slice aC aE ax ∧ b 1 = .slice aw S an ∧ b 5 = .slice u t o ∧ b 6 = iv h ∧ b 7 = .slice b0 cy cj ∧ b 8 = iv r) ?_ ?_
    ·rcases iteE y with ⟨ac, y⟩ | ⟨ac, y⟩
     ·refine WQ.kn 59 (congrArg Value.bool (decide_eq_true ac)) <| WQ.run to 2 rfl ?_
      obtain ⟨cR, y⟩ := guardE y
      obtain ⟨db, c3, aU, bb⟩ := (Row.sl s) (by omega)
      refine WQ.vOn rfl rfl (fun _ => Yl.elemAddr (i := r) rfl rfl aU Try.underlying29 sz3 (by omega)) ?_
      obtain ⟨cM, bJ, bM⟩ := bb r.toNat _ (getD_some (d := 0) (by omega))
      obtain rfl := bJ
      refine WQ.vOn rfl rfl (fun _ => Yl.load (v := iv (j.getD r.toNat 0)) rfl Try.underlying3 rfl (((Ctx.subI 2 (aj.drewN _) rfl)).cell (bM 0 _ rfl))) ?_
      refine WQ.run to 2 rfl <| WQ.vOn rfl rfl (fun _ => Yl.elemAddr (i := h) rfl rfl M Try.underlying53 sz79 (by omega)) ?_
      refine WQ.run to 1 rfl <| WQ.vOn rfl rfl (fun _ => Yl.load (v := iv ((I.getD h.toNat TCast.z).Worker)) rfl Try.underlying3 rfl ((((aj.drewN _).fro)).cell (N 0 _ rfl))) ?_
      refine WQ.run to 2 rfl ?_
      cases y
      exact WQ.done ⟨rfl, rfl, rfl, rfl, rfl, rfl, rfl⟩
     refine WQ.kn 59 (congrArg Value.bool (decide_eq_false ac)) <| WQ.offs 10 59 true rfl rfl <| WQ.run to 1 rfl ?_
     cases y
     exact WQ.done ⟨rfl, rfl, rfl, rfl, rfl, rfl, rfl⟩
    ·rintro b ⟨bx, bz, bA, bB, bC, bD, bE⟩
     intro bX
     have U := Ctx.drewN aj bX
     apply kn b (.c bx (.c bz (.c bA (.c bB (.c bC (.c bD (.c bE .n)))))))
     rcases iteE a with ⟨ad, a⟩ | ⟨ad, a⟩
     ·refine W.condT (congrArg Value.bool ad) <| W.region rfl ?_
      refine WL.rd to 3 rfl <| W.sr rfl <| WL.run to 3 rfl ?_
      obtain ⟨cS, a⟩ := guardE a
      obtain ⟨c6, ck, de, dg, aA, bk, aZ, bU⟩ := Row.tail s ((wi64 (r + 1)).toNat) (by omega)
      have cV : j.length ≤ o ∧ o ≤ maxLen := ⟨(Row.len_le s).1, (Row.len_le s).2.1⟩
      rw [B] at aA
      refine WL.val (Yl.slice ((wi64 (r + 1)).toNat) j.length o rfl Try.underlying29 sz3 rfl (B).symm (OB.mk rfl (by omega)) (by simp) (by omega) (by omega) (by omega) aA) ?_
      obtain ⟨a6, a⟩ := guardE a
      obtain ⟨b1, cl, cz, ar, dm, bl, bR, b9, a0⟩ := ev_append' (P := Try.prog) (cb := ck) 3 (Kd.int .i64) [G] [p] U az bk (Sl.mono (Row.sl aZ) (CH.le_refl _) bU) (Ctx.subI 2 U rfl) Try.underlying29 ti3 rfl zo3 (by decide) (by decide) (by simpa using a6)
      have ca : Cx [G, ar, p] := b9
      refine WL.val (bR _ _ _ _ rfl rfl) <| WL.rd to 1 rfl <| W.region rfl ?_
      refine WL.rd to 2 rfl <| inB_n <| W.region rfl ?_
      refine WL.rd to 3 rfl ?_
      have cc : Cx [ar] := ca.pick [1] rfl
      exact thenE_n ⟨O, Nat.lt_succ_self _, (Q ++ [(I.getD h.toNat TCast.z).Worker]) ++ (j.drop ((wi64 (r + 1)).toNat)), wi64 (h + 1), b1, cl, cz, ar, rfl, cc, bl, a0, a⟩
     refine W.condF (congrArg Value.bool (Bool.eq_false_iff.2 ad)) <| W.skip <| W.sr rfl <| WL.run to 3 rfl ?_
     obtain ⟨cU, a⟩ := guardE a
     obtain ⟨c7, cm, df, dh, aB, bm, a1, bV⟩ := Row.tail s r.toNat (by omega)
     have cW : j.length ≤ o ∧ o ≤ maxLen := ⟨(Row.len_le s).1, (Row.len_le s).2.1⟩
     rw [B] at aB
     refine WL.val (Yl.slice r.toNat j.length o rfl Try.underlying29 sz3 rfl (B).symm (OB.mk rfl (by omega)) (by simp) (by omega) (by omega) (by omega) aB) ?_
     obtain ⟨a7, a⟩ := guardE a
     obtain ⟨b2, cn, cA, au, dp, bn, bS, cd, a2⟩ := ev_append' (P := Try.prog) (cb := cm) 3 (Kd.int .i64) [G] [p] U az bm (Sl.mono (Row.sl a1) (CH.le_refl _) bV) (Ctx.subI 2 U rfl) Try.underlying29 ti3 rfl zo3 (by decide) (by decide) (by simpa using a7)
     have ce : Cx [G, au, p] := cd
     refine WL.val (bS _ _ _ _ rfl rfl) <| WL.rd to 1 rfl <| W.region rfl ?_
     refine WL.rd to 2 rfl <| inB_n <| W.region rfl ?_
     refine WL.rd to 3 rfl ?_
     have cf : Cx [au] := ce.pick [1] rfl
     exact thenE_n ⟨O, Nat.lt_succ_self _, (Q ++ [(I.getD h.toNat TCast.z).Worker]) ++ (j.drop r.toNat), wi64 (h + 1), b2, cn, cA, au, rfl, cf, bn, a2, a⟩
  refine W.cF Y rfl <| W.exit <| thenE_x <| thenE_x <| inB_here ?_
  cases a
  refine thenE_n ?_
  exact ⟨u, o, t, p, rfl, ak, B, s⟩
 ·rintro b T ⟨ag, am, ae, av, cu, cD, ct, cs⟩
  apply kn b (.c cu .n)
  refine W.sr rfl <| WL.rd to 2 rfl <| W.ret ?_
  have co := Option.some.inj H
  subst co
  exact post_r (resE1 rfl rfl) ⟨ag, am, ae, av, rfl, cD, ct, cs⟩
def juratref19_Same.l1 : Nat → List TCast → List TCast → Int → Option (Sum Unit Bool)
  | 0, _, _, _ => none
  | k + 1, b, d, a => if a < (b.length : Int) then (if 0 ≤ a ∧ a < (b.length : Int) then (if 0 ≤ a ∧ a < (d.length : Int) then ((if ((b.getD a.toNat TCast.z).Worker) = ((d.getD a.toNat TCast.z).Worker) then ((juratref01_Same.f k ((b.getD a.toNat TCast.z).Value) ((d.getD a.toNat TCast.z).Value)).bind fun g => some (!g)) else (some (true))).bind fun e => if e = true then (some (Sum.inr false)) else (juratref19_Same.l1 k b d (wi64 (a + 1)))) else none) else none) else (some (Sum.inl ()))
def juratref19_Same.f (k : Nat) (a : List TCast) (b : List TCast) : Option Bool := if (a.length : Int) = (b.length : Int) then ((juratref19_Same.l1 k a b 0).bind fun d => sumE d (fun _ => some true) (fun e => some e)) else (some false)
theorem juratref19_Same.calls (k w F X R au) (m : List TCast) (Y S P) (s : List TCast) (hp : Pre w F []) (aT : au = m.length) (aR : m.length ≤ R) (aS : R ≤ maxLen) (aE : Sl TCast.K F F X m) (aQ : P = s.length) (aO : s.length ≤ S) (aP : S ≤ maxLen) (aC : Sl TCast.K F F Y s) (av : Bool) (H : juratref19_Same.f k m s = some av) :
    Calls Try.prog 25 #[.slice X au R, .slice Y P S] w fun e w' => e = .returned (.bool av) ∧ (∃ l, w' = w.drewN l) := by
 have C := Ctx.start hp
 generalize domL [] = D at C
 have aD : ∃ l, w = w.drewN l := ⟨0, rfl⟩
 unfold juratref19_Same.f at H
 refine Calls.ofW Try.func25 rfl (by simp [Try.ntmps25]) <| W.sr rfl <| WL.rd to 1 rfl <| W.seq <| W.sr rfl <| WL.run to 1 rfl <| WL.ln (m.length : Int) rfl Try.underlying53 (by omega) <| WL.run to 1 rfl <| WL.ln (s.length : Int) rfl Try.underlying53 (by omega) ?_
 refine WL.rd to 1 rfl ?_
 rcases iteE H with ⟨A, H⟩ | ⟨A, H⟩
 ·refine W.nF A rfl <| W.skip <| W.seq <| W.sr rfl <| WL.rd to 1 rfl ?_
  obtain ⟨U, a, H⟩ := bindE H
  refine W.cutM (fun g G => Ctx w F D G F [] ∧ (∃ l, G = w.drewN l) ∧ U = Sum.inl ()) ?_ ?_
  ·refine W.block <| W.loop (fun aB g G => ∃ (b : Int), Kn g [(0, .slice X au R), (1, .slice Y P S), (5, iv b)] ∧ Ctx w F D G F [] ∧ (∃ l, G = w.drewN l) ∧ juratref19_Same.l1 aB m s b = some U) k ⟨0, rfl, C, aD, a⟩ ?_
   clear a
   rintro aB g G ⟨b, al, j, I, a⟩
   rcases aB with _ | T
   · exact absurd a (by simp [juratref19_Same.l1])
   rw [juratref19_Same.l1] at a
   apply ks g al
   refine W.seq <| W.sr rfl <| WL.run to 2 rfl <| WL.ln (m.length : Int) rfl Try.underlying53 (by omega) <| WL.rd to 1 rfl ?_
   rcases iteE a with ⟨o, a⟩ | ⟨o, a⟩
   ·refine W.cT o rfl <| W.skip <| W.seq <| W.block <| W.seq <| W.region_quiet (by kernel_rfl) (by kernel_rfl) rfl ?_
    refine WQ.run to 2 rfl ?_
    obtain ⟨aH, a⟩ := guardE a
    obtain ⟨aM, aJ, L, ac⟩ := aE (by omega)
    refine WQ.vl (fun _ => Yl.elemAddr (i := b) rfl rfl L Try.underlying53 sz79 (by omega)) ?_
    refine WQ.run to 1 rfl ?_
    obtain ⟨aF, aq, N⟩ := ac b.toNat _ (getD_some (d := TCast.z) (by omega))
    obtain ⟨t, x, B, rfl, aj, af, ah, aa⟩ := TCast.open aq
    refine WQ.vl (fun _ => Yl.load (v := iv ((m.getD b.toNat TCast.z).Worker)) rfl Try.underlying3 rfl ((((j.drewN _).fro)).cell (N 0 _ rfl))) ?_
    refine WQ.run to 2 rfl ?_
    obtain ⟨aI, a⟩ := guardE a
    obtain ⟨aN, aK, M, ad⟩ := aC (by omega)
    refine WQ.vl (fun _ => Yl.elemAddr (i := b) rfl rfl M Try.underlying53 sz79 (by omega)) ?_
    refine WQ.run to 1 rfl ?_
    obtain ⟨aG, ar, O⟩ := ad b.toNat _ (getD_some (d := TCast.z) (by omega))
    obtain ⟨u, y, E, rfl, ak, ag, ai, ab⟩ := TCast.open ar
    refine WQ.vl (fun _ => Yl.load (v := iv ((s.getD b.toNat TCast.z).Worker)) rfl Try.underlying3 rfl ((((j.drewN _).fro)).cell (O 0 _ rfl))) ?_
    refine WQ.run to 2 rfl ?_
    obtain ⟨aA, h, a⟩ := bindE a
    refine WQ.cut (fun g => g 41 = .bool aA ∧ g 0 = .slice X au R ∧ g 1 = .slice Y P S ∧ g 5 = iv b) ?_ ?_
    ·rcases iteE h with ⟨p, h⟩ | ⟨p, h⟩
     ·refine WQ.kn 28 (congrArg Value.bool (ndec_t p)) <| WQ.run to 2 rfl <| WQ.vOn rfl rfl (fun _ => Yl.elemAddr (i := b) rfl rfl L Try.underlying53 sz79 (by omega)) ?_
      refine WQ.run to 1 rfl <| WQ.vOn rfl rfl (fun _ => Yl.load (v := .slice t B x) rfl Try.underlying44 rfl ((((j.drewN _).fro)).cell (N 1 _ rfl))) ?_
      refine WQ.run to 2 rfl <| WQ.vOn rfl rfl (fun _ => Yl.elemAddr (i := b) rfl rfl M Try.underlying53 sz79 (by omega)) ?_
      refine WQ.run to 1 rfl <| WQ.vOn rfl rfl (fun _ => Yl.load (v := .slice u E y) rfl Try.underlying44 rfl ((((j.drewN _).fro)).cell (O 1 _ rfl))) ?_
      refine WQ.on rfl rfl ?_
      obtain ⟨V, ae, h⟩ := bindE h
      refine WQ.call (v := .bool V) (f := 21) (args := #[.slice t B x, .slice u E y]) (fun _ hw => by obtain ⟨_, rfl⟩ := hw; exact (ne.fr rfl rfl)) (fun _ hw => by obtain ⟨l, rfl⟩ := hw; exact (juratref01_Same.calls T _ F t x B ((m.getD b.toNat TCast.z).Value) u y E ((s.getD b.toNat TCast.z).Value) (j.drewN l).pre0 aj af ah aa ak ag ai ab V ae).mono (fun _ _ ⟨he, m_, hm_⟩ => ⟨he, l + m_, by rw [hm_, World.drewN_drewN]⟩)) ?_
      refine WQ.run to 2 rfl ?_
      cases h
      exact WQ.done ⟨rfl, rfl, rfl, rfl⟩
     refine WQ.kn 28 (congrArg Value.bool (ndec_f p)) <| WQ.offs 12 28 false rfl rfl <| WQ.run to 1 rfl ?_
     cases h
     exact WQ.done ⟨rfl, rfl, rfl, rfl⟩
    ·rintro g ⟨am, an, ao, ap⟩
     intro Q
     have aw := Ctx.drewN j Q
     have J := drew_more I Q
     apply kn g (.c am (.c an (.c ao (.c ap .n))))
     rcases iteE a with ⟨r, a⟩ | ⟨r, a⟩
     ·refine W.condT (congrArg Value.bool r) <| W.sr rfl <| WL.rd to 1 rfl <| W.ret ?_
      iterate 6 first | refine inB_r ?_ | refine thenE_r ?_
      cases a
      replace H := sumE_r H
      have ax := Option.some.inj H
      subst ax
      exact post_r (resE1 rfl rfl) ⟨rfl, J⟩
     refine W.condF (congrArg Value.bool (Bool.eq_false_iff.2 r)) <| W.skip <| inB_n <| W.region rfl ?_
     exact WL.rd to 3 rfl <| thenE_n ⟨T, Nat.lt_succ_self _, wi64 (b + 1), rfl, aw, J, a⟩
   refine W.cF o rfl <| W.exit <| thenE_x <| thenE_x <| inB_here ?_
   cases a
   refine thenE_n ?_
   exact ⟨j, I, rfl⟩
  ·rintro g G ⟨aL, Z, rfl⟩
   replace H := sumE_l H
   refine W.sr rfl <| WL.rd to 1 rfl <| W.ret ?_
   have ay := Option.some.inj H
   subst ay
   exact post_r (resE1 rfl rfl) ⟨rfl, Z⟩
 refine W.nT A rfl <| W.sr rfl <| WL.rd to 1 rfl <| W.ret <| thenE_r ?_
 have az := Option.some.inj H
 subst az
 exact post_r (resE1 rfl rfl) ⟨rfl, aD⟩
def juratref19_Copy.l1 : Nat → List TCast → List TCast → Int → Option (List TCast)
  | 0, _, _, _ => none
  | k + 1, d, b, a => if a < (d.length : Int) then (if 0 ≤ a ∧ a < (d.length : Int) then (if (((d.getD a.toNat TCast.z).Value).length + ((d.getD a.toNat TCast.z).Value).length / 4 + 192) * 1 ≤ 281474976710656 then (if (b.length + 1 + (b.length + 1) / 4 + 192) * 32 ≤ 281474976710656 then (juratref19_Copy.l1 k d (b ++ [(⟨(d.getD a.toNat TCast.z).Worker, (d.getD a.toNat TCast.z).Value⟩ : TCast)]) (wi64 (a + 1))) else none) else none) else none) else (some b)
def juratref19_Copy.f (k : Nat) (b : List TCast) : Option (List TCast) := (juratref19_Copy.l1 k b ([] : List TCast) 0).bind fun a => some a
theorem juratref19_Copy.calls (k w F aL ai a0) (m : List TCast) (hp : Pre w F []) (bp : a0 = m.length) (bn : m.length ≤ ai) (bo : ai ≤ maxLen) (a4 : Sl TCast.K F F aL m) (ag : List TCast) (H : juratref19_Copy.f k m = some ag) :
    Calls Try.prog 27 #[.slice aL a0 ai] w fun e w' => ∃ F' U ac J af, e = .returned (.slice U J ac) ∧ CH.le F F' ∧ Ctx w F (domL []) w' F' [af] ∧ J = ag.length ∧ Row TCast.K F' af (.slice U J ac) ag := by
 have C := Ctx.start hp
 generalize hD : domL [] = D at C ⊢
 unfold juratref19_Copy.f at H
 refine Calls.ofW Try.func27 rfl (by simp [Try.ntmps27]) <| W.sr rfl <| WL.rd to 1 rfl <| W.sr rfl <| WL.rd to 1 rfl <| W.seq <| W.sr rfl <| WL.rd to 1 rfl ?_
 obtain ⟨M, a, H⟩ := bindE H
 refine W.cutM (fun j ah => ∃ p u y r E, j 3 = .slice u r y ∧ Ctx w F D ah p [E] ∧ CH.le F p ∧ r = M.length ∧ Row TCast.K p E (.slice u r y) M) ?_ ?_
 ·refine W.block ?_
  have aP : Cx [CH.emp] := C.pick [0] rfl
  refine W.loop (fun aY j ah => ∃ (t : List TCast) (b : Int), ∃ g x A s l, Kn j [(0, .slice aL a0 ai), (3, .slice x s A), (4, iv b)] ∧ Ctx w F D ah g [l] ∧ CH.le F g ∧ s = t.length ∧ Row TCast.K g l (.slice x s A) t ∧ juratref19_Copy.l1 aY m t b = some M) k ⟨([] : List TCast), 0, F, none, 0, 0, CH.emp, rfl, aP, (CH.le_refl _), rfl, (Row.nil _ _), a⟩ ?_
  clear a
  rintro aY j ah ⟨t, b, g, x, A, s, l, aD, V, h, ay, O, a⟩
  rcases aY with _ | aZ
  · exact absurd a (by simp [juratref19_Copy.l1])
  rw [juratref19_Copy.l1] at a
  apply ks j aD
  refine W.seq <| W.sr rfl <| WL.run to 2 rfl <| WL.ln (m.length : Int) rfl Try.underlying53 (by omega) <| WL.rd to 1 rfl ?_
  rcases iteE a with ⟨B, a⟩ | ⟨B, a⟩
  ·refine W.cT B rfl <| W.skip <| W.seq <| W.block <| W.regionA [([14, 15], g)] (by kernel_rfl) ?_
   have X := Ctx.drewN V 1
   refine WA.takes [(0, none), (1, none), (2, none), (3, none), (4, none), (5, some 0), (7, none), (8, none), (9, none), (10, none), (11, some 0)] ⟨(X.fro), trivial⟩ (by kernel_rfl) <| WT.run to 3 rfl ?_
   obtain ⟨a7, a⟩ := guardE a
   obtain ⟨be, bb, N, au⟩ := a4 (by omega)
   refine WT.val rfl (fun _ hC_ => Yl.elemAddr (i := b) rfl rfl N Try.underlying53 sz79 (by omega)) ?_
   refine WT.run to 1 rfl ?_
   obtain ⟨a6, aE, S⟩ := au b.toNat _ (getD_some (d := TCast.z) (by omega))
   obtain ⟨aM, aa, a1, rfl, az, a8, a9, ao⟩ := TCast.open aE
   refine WT.val rfl (fun _ hC_ => Yl.load (v := iv ((m.getD b.toNat TCast.z).Worker)) rfl Try.underlying3 rfl (((Sub.mono (show Sub g _ from hC_) h)).cell (S 0 _ rfl))) ?_
   refine WT.run to 2 rfl <| WT.val rfl (fun _ hC_ => Yl.elemAddr (i := b) rfl rfl N Try.underlying53 sz79 (by omega)) ?_
   refine WT.run to 1 rfl <| WT.val rfl (fun _ hC_ => Yl.load (v := .slice aM a1 aa) rfl Try.underlying44 rfl (((Sub.mono (show Sub g _ from hC_) h)).cell (S 1 _ rfl))) ?_
   refine WT.done ?_
   obtain ⟨bc, bf, bg, bi, bj, ba, aF, G, ak⟩ := ev_lit0 (P := Try.prog) 5 (Kd.int .u8) X Try.underlying44 ti5
   refine WA.up1 6 (by kernel_rfl) (Up.val rfl rfl rfl (aF _ _) ⟨(G.fro), trivial⟩ ?_)
   obtain ⟨aq, a⟩ := guardE a
   obtain ⟨T, ab, ad, a3, bk, R, aG, aQ, Q⟩ := ev_append' (P := Try.prog) (cb := aa) 5 (Kd.int .u8) [] [l] G ak az (Sl.mono ao h h) G.fro Try.underlying44 ti5 rfl zo5 (by decide) (by decide) (by simpa using aq)
   have I : Cx [a3, l] := aQ
   rw [List.nil_append] at R Q
   refine WA.up1 12 (by kernel_rfl) (Up.val rfl rfl rfl (aG _ _ _ _ rfl rfl) ⟨(I.fro), trivial⟩ ?_)
   refine WA.takes [(13, none)] ⟨(I.fro), trivial⟩ (by kernel_rfl) ?_
   let a5 : List Go.Value := [iv ((m.getD b.toNat TCast.z).Worker), .slice T ad ab]
   refine WT.val rfl (fun _ hC_ => Yl.build (places := [(0, 1), (1, 1)]) (cs := List.toArray a5) Try.underlying79 zr79 (pl79 _ Try.underlying79) (partsB (.cons rfl (.cons rfl .nil))) rfl) ?_
   refine WT.done ?_
   obtain ⟨aU, o, aK, (aR : Cx [l])⟩ := Ctx.fzI 0 I rfl
   obtain ⟨av, aw, ap⟩ := Row.fz Q o aK
   have al := Row.mono O o
   obtain ⟨bd, aV, bh, ae, bl, aA, aH, Y, am⟩ := ev_lit1' (P := Try.prog) 79 TCast.K aR Try.underlying53 ti79 ⟨by decide, by decide⟩ (⟨(m.getD b.toNat TCast.z).Worker, (m.getD b.toNat TCast.z).Value⟩ : TCast) (.agg (List.toArray a5)) (TCast.mk' _ (⟨(m.getD b.toNat TCast.z).Worker, (m.getD b.toNat TCast.z).Value⟩ : TCast) T ab ad R av aw ap)
   refine WA.up1 14 (by kernel_rfl) (Up.val rfl rfl rfl (aH _ _ _ rfl) ⟨trivial, trivial⟩ ?_)
   obtain ⟨ar, a⟩ := guardE a
   obtain ⟨aN, aW, a2, L, bm, aB, aI, aS, an⟩ := ev_append' (P := Try.prog) (cb := aV) 79 TCast.K [ae] [] Y al aA (Row.sl am) (Ctx.subI 0 Y rfl) Try.underlying53 ti79 rfl zo79 (by decide) (by decide) (by simpa using ar)
   have Z : Cx [ae, L] := aS
   refine WA.up1 15 (by kernel_rfl) (Up.val rfl rfl rfl (aI _ _ _ _ rfl rfl) ⟨trivial, trivial⟩ ?_)
   refine WA.takes [(16, none)] ⟨(Z.fro.mono o), trivial⟩ (by kernel_rfl) <| WT.run to 1 rfl <| WT.done <| WA.done (by kernel_rfl) <| inB_n <| W.region rfl ?_
   refine WL.rd to 3 rfl ?_
   have aT : Cx [L] := Z.pick [1] rfl
   exact thenE_n ⟨aZ, Nat.lt_succ_self _, t ++ [(⟨(m.getD b.toNat TCast.z).Worker, (m.getD b.toNat TCast.z).Value⟩ : TCast)], wi64 (b + 1), aU, aN, aW, a2, L, rfl, aT, (CH.le_trans h o), aB, an, a⟩
  refine W.cF B rfl <| W.exit <| thenE_x <| thenE_x <| inB_here ?_
  cases a
  refine thenE_n ?_
  exact ⟨g, x, A, s, l, rfl, V, h, ay, O⟩
 ·rintro j ah ⟨p, u, y, r, E, aC, aO, aJ, ax, aj⟩
  apply kn j (.c aC .n)
  refine W.sr rfl <| WL.rd to 2 rfl <| W.ret ?_
  have aX := Option.some.inj H
  subst aX
  exact post_r (resE1 rfl rfl) ⟨p, u, y, r, E, rfl, aJ, aO, ax, aj⟩
def juratref19_Cast.l1 : Nat → List TCast → TCast → Int → Option (Sum Unit ((List TCast) × Int))
  | 0, _, _, _ => none
  | k + 1, b, d, a => if a < (b.length : Int) then (if 0 ≤ a ∧ a < (b.length : Int) then (if ((b.getD a.toNat TCast.z).Worker) = d.Worker then (some (Sum.inr (([] : List TCast), 190))) else (juratref19_Cast.l1 k b d (wi64 (a + 1)))) else none) else (some (Sum.inl ()))
def juratref19_Cast.f (k : Nat) (a : List TCast) (b : TCast) : Option ((List TCast) × Int) := if b.Worker < 0 then (some (([] : List TCast), 1)) else (if (b.Value.length : Int) > 32 then (some (([] : List TCast), 42)) else ((juratref19_Cast.l1 k a b 0).bind fun d => sumE d (fun _ => if (a.length + a.length / 4 + 192) * 32 ≤ 281474976710656 then (if (a.length + 1 + (a.length + 1) / 4 + 192) * 32 ≤ 281474976710656 then (some (a ++ [b], 0)) else none) else none) (fun e => some e)))
theorem juratref19_Cast.calls (k w F V E an) (s : List TCast) (r p h) (g : TCast) (hp : Pre w F []) (aY : an = s.length) (bo : s.length ≤ E) (bp : E ≤ maxLen) (ap : Sl TCast.K F F V s) (aK : h = g.Value.length) (aI : g.Value.length ≤ p) (aJ : p ≤ maxLen) (aH : Sl (Kd.int .u8) F F r g.Value) (T : List TCast) (ar : Int) (H : juratref19_Cast.f k s g = some (T, ar)) :
    Calls Try.prog 63 #[.slice V an E, .agg (List.toArray [iv g.Worker, .slice r h p])] w fun e w' => ∃ F' I O x S, e = .returned (.tuple #[(.slice I x O), (iv ar)]) ∧ CH.le F F' ∧ Ctx w F (domL []) w' F' [S] ∧ x = T.length ∧ Row TCast.K F' S (.slice I x O) T := by
 have C := Ctx.start hp
 generalize hD : domL [] = D at C ⊢
 unfold juratref19_Cast.f at H
 refine Calls.ofW Try.func63 rfl (by simp [Try.ntmps63]) <| W.sr rfl ?_
 obtain ⟨Q, bq, aN, o⟩ := ev_box (P := Try.prog) 79 (.agg (List.toArray [iv g.Worker, .slice r h p])) [iv g.Worker, .slice r h p] C rfl
 refine WL.val (aN _ _ _ rfl) <| WL.rd to 2 rfl <| W.seq <| W.sr rfl <| WL.run to 1 rfl <| WL.lv o 0 0 rfl rfl Try.underlying3 rfl rfl <| WL.rd to 1 rfl ?_
 rcases iteE H with ⟨t, H⟩ | ⟨t, H⟩
 ·refine W.cT t rfl <| W.sr rfl <| WL.rd to 2 rfl <| W.ret <| thenE_r ?_
  have aR : Cx [CH.emp] := o.pick [1] rfl
  simp only [Option.some.injEq, Prod.mk.injEq] at H
  obtain ⟨aU, aV⟩ := H
  subst aU aV
  exact post_r (resE2 rfl rfl rfl) ⟨F, none, 0, 0, CH.emp, rfl, (CH.le_refl _), aR, rfl, (Row.nil _ _)⟩
 refine W.cF t rfl <| W.skip <| W.seq <| W.sr rfl <| WL.run to 1 rfl <| WL.lv o 0 1 rfl rfl Try.underlying44 rfl rfl <| WL.ln (g.Value.length : Int) rfl Try.underlying44 (by omega) <| WL.rd to 1 rfl ?_
 rcases iteE H with ⟨u, H⟩ | ⟨u, H⟩
 ·refine W.cT u rfl <| W.sr rfl <| WL.rd to 2 rfl <| W.ret <| thenE_r ?_
  have aS : Cx [CH.emp] := o.pick [1] rfl
  simp only [Option.some.injEq, Prod.mk.injEq] at H
  obtain ⟨aW, aX⟩ := H
  subst aW aX
  exact post_r (resE2 rfl rfl rfl) ⟨F, none, 0, 0, CH.emp, rfl, (CH.le_refl _), aS, rfl, (Row.nil _ _)⟩
 refine W.cF u rfl <| W.skip <| W.seq <| W.sr rfl <| WL.rd to 1 rfl ?_
 obtain ⟨aq, a, H⟩ := bindE H
 let G : CH := CH.row Q 0 [iv g.Worker, .slice r h p]
 refine W.cutM (fun b U => Kn b [(0, .slice V an E), (3, .pointer (some ⟨Q, 0, none⟩))] ∧ Ctx w F D U F [G] ∧ aq = Sum.inl ()) ?_ ?_
 ·refine W.block <| W.loop (fun aG b U => ∃ (j : Int), Kn b [(0, .slice V an E), (3, .pointer (some ⟨Q, 0, none⟩)), (6, iv j)] ∧ Ctx w F D U F [G] ∧ juratref19_Cast.l1 aG s g j = some aq) k ⟨0, rfl, o, a⟩ ?_
  clear a
  rintro aG b U ⟨j, aM, A, a⟩
  rcases aG with _ | aO
  · exact absurd a (by simp [juratref19_Cast.l1])
  rw [juratref19_Cast.l1] at a
  apply ks b aM
  refine W.seq <| W.sr rfl <| WL.run to 2 rfl <| WL.ln (s.length : Int) rfl Try.underlying53 (by omega) <| WL.rd to 1 rfl ?_
  rcases iteE a with ⟨l, a⟩ | ⟨l, a⟩
  ·refine W.cT l rfl <| W.skip <| W.seq <| W.block <| W.seq <| W.region_quiet (by kernel_rfl) (by kernel_rfl) rfl ?_
   refine WQ.run to 2 rfl ?_
   obtain ⟨a1, a⟩ := guardE a
   obtain ⟨bb, a6, X, ad⟩ := ap (by omega)
   refine WQ.vl (fun _ => Yl.elemAddr (i := j) rfl rfl X Try.underlying53 sz79 (by omega)) ?_
   refine WQ.run to 1 rfl ?_
   obtain ⟨aZ, ah, ai⟩ := ad j.toNat _ (getD_some (d := TCast.z) (by omega))
   obtain ⟨a7, bc, bf, rfl, a4, a2, a3, a0⟩ := TCast.open ah
   refine WQ.vl (fun _ => Yl.load (v := iv ((s.getD j.toNat TCast.z).Worker)) rfl Try.underlying3 rfl ((((A.drewN _).fro)).cell (ai 0 _ rfl))) ?_
   refine WQ.run to 1 rfl <| WQ.lv A 0 0 rfl rfl Try.underlying3 rfl rfl <| WQ.run to 1 rfl <| WQ.done (fun ao => ?_)
   have J := Ctx.drewN A ao
   rcases iteE a with ⟨m, a⟩ | ⟨m, a⟩
   ·refine W.cT m rfl <| W.sr rfl <| WL.rd to 2 rfl <| W.ret ?_
    iterate 6 first | refine inB_r ?_ | refine thenE_r ?_
    cases a
    replace H := sumE_r H
    have av : Cx [CH.emp] := J.pick [1] rfl
    simp only [Option.some.injEq, Prod.mk.injEq] at H
    obtain ⟨aC, aD⟩ := H
    subst aC aD
    exact post_r (resE2 rfl rfl rfl) ⟨F, none, 0, 0, CH.emp, rfl, (CH.le_refl _), av, rfl, (Row.nil _ _)⟩
   refine W.cF m rfl <| W.skip <| inB_n <| W.region rfl ?_
   exact WL.rd to 3 rfl <| thenE_n ⟨aO, Nat.lt_succ_self _, wi64 (j + 1), rfl, J, a⟩
  refine W.cF l rfl <| W.exit <| thenE_x <| thenE_x <| inB_here ?_
  cases a
  refine thenE_n ?_
  exact ⟨rfl, A, rfl⟩
 ·rintro b U ⟨aL, aT, rfl⟩
  replace H := sumE_l H
  apply ks b aL
  refine W.sr rfl ?_
  obtain ⟨a8, bd, bg, bj, bk, a5, aj, L, Y⟩ := ev_lit0 (P := Try.prog) 79 TCast.K aT Try.underlying53 ti79
  refine WL.val (aj _ _) <| WL.run to 1 rfl ?_
  obtain ⟨ab, H⟩ := guardE H
  obtain ⟨a9, be, bh, aQ, bl, ae, ak, aw, B⟩ := ev_append' (P := Try.prog) (cb := E) 79 TCast.K [] [G] L Y aY ap L.fro Try.underlying53 ti79 rfl zo79 (by decide) (by decide) (by simpa using ab)
  have M : Cx [aQ, G] := aw
  rw [List.nil_append] at ae B
  refine WL.val (ak _ _ _ _ rfl rfl) <| WL.rd to 1 rfl <| W.sr rfl <| WL.run to 1 rfl <| WL.la M 1 rfl rfl Try.underlying79 rfl sz79 ?_
  obtain ⟨ba, aA, bi, R, bm, af, al, N, Z⟩ := ev_lit1' (P := Try.prog) 79 TCast.K M Try.underlying53 ti79 ⟨by decide, by decide⟩ g (.agg (List.toArray [iv g.Worker, .slice r h p])) (TCast.mk' _ g r p h aK aI aJ aH)
  refine WL.val (al _ _ _ rfl) ?_
  obtain ⟨ac, H⟩ := guardE H
  obtain ⟨au, aB, aP, y, bn, ag, am, ax, aa⟩ := ev_append' (P := Try.prog) (cb := aA) 79 TCast.K [R] [G] N B af (Row.sl Z) (Ctx.subI 0 N rfl) Try.underlying53 ti79 rfl zo79 (by decide) (by decide) (by simpa using ac)
  have ay : Cx [R, y, G] := ax
  refine WL.val (am _ _ _ _ rfl rfl) <| WL.rd to 2 rfl <| W.ret ?_
  have az : Cx [y] := ay.pick [1] rfl
  simp only [Option.some.injEq, Prod.mk.injEq] at H
  obtain ⟨aE, aF⟩ := H
  subst aE aF
  exact post_r (resE2 rfl rfl rfl) ⟨F, au, aB, aP, y, rfl, (CH.le_refl _), az, ag, aa⟩
end Go.Proofs.Ytobdpbnadjkhiaa
