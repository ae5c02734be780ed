/- Functions of the program: each as a plain function of numbers and lists, and the proof that the program's own comes to it. Nothing is assumed but what each theorem says. -/
import Derived.Test.YtobdpbnadjkhiaaTGt
namespace Go.Proofs.Ytobdpbnadjkhiaa
open Go.RowKit Go.WG
set_option linter.unusedVariables false
set_option linter.unusedSimpArgs false
set_option maxRecDepth 100000
set_option maxHeartbeats 4000000
def crew_right.l1 : Nat → List Int → Int → Option (Sum Unit Bool)
  | 0, _, _ => none
  | k + 1, b, a => if a < (b.length : Int) then (if 0 ≤ a ∧ a < (b.length : Int) then (if (b.getD a.toNat 0) < 0 then (some (Sum.inr false)) else (crew_right.l1 k b (wi64 (a + 1)))) else none) else (some (Sum.inl ()))
def crew_right.f (k : Nat) (a : List Int) (d : List Bool) : Option Bool := (crew_right.l1 k a 0).bind fun e => sumE e (fun _ => (if (a.length : Int) = (d.length : Int) then (some (decide ((a.length : Int) ≤ 8))) else (some (false))).bind fun b => some b) (fun g => some g)
theorem crew_right.calls (k w F x u G) (l : List Int) (I E t) (B : List Bool) (hp : Pre w F []) (ao : G = l.length) (am : l.length ≤ u) (an : u ≤ maxLen) (aa : Sl (Kd.int .i64) F F x l) (ai : t = B.length) (ag : B.length ≤ E) (ah : E ≤ maxLen) (ae : Sl Kd.bool F F I B) (M : Bool) (H : crew_right.f k l B = some M) :
    Calls Try.prog 66 #[.slice x G u, .slice I t E] w fun e w' => e = .returned (.bool M) ∧ (∃ m, w' = w.drewN m) := by
 have C := Ctx.start hp
 generalize domL [] = D at C
 have ac : ∃ m, w = w.drewN m := ⟨0, rfl⟩
 unfold crew_right.f at H
 refine Calls.ofW Try.func66 rfl (by simp [Try.ntmps66]) <| W.sr rfl <| WL.rd to 1 rfl <| W.seq <| W.sr rfl <| WL.run to 1 rfl <| WL.ln (l.length : Int) rfl Try.underlying29 (by omega) <| WL.rd to 1 rfl ?_
 obtain ⟨L, a, H⟩ := bindE H
 refine W.cutM (fun b h => Kn b [(0, .slice x G u), (1, .slice I t E)] ∧ Ctx w F D h F [] ∧ (∃ m, h = w.drewN m) ∧ L = Sum.inl ()) ?_ ?_
 ·refine W.block <| W.loop (fun O b h => ∃ (j : Int), Kn b [(0, .slice x G u), (1, .slice I t E), (7, .slice x G u), (8, iv (l.length : Int)), (9, iv j)] ∧ Ctx w F D h F [] ∧ (∃ m, h = w.drewN m) ∧ crew_right.l1 O l j = some L) k ⟨0, rfl, C, ac, a⟩ ?_
  clear a
  rintro O b h ⟨j, S, y, o, a⟩
  rcases O with _ | ab
  · exact absurd a (by simp [crew_right.l1])
  rw [crew_right.l1] at a
  apply ks b S
  refine W.sr rfl <| WL.rd to 1 rfl <| W.seq ?_
  rcases iteE a with ⟨p, a⟩ | ⟨p, a⟩
  ·refine W.cT p rfl <| W.skip <| W.seq <| W.block <| W.sr rfl ?_
   obtain ⟨af, a⟩ := guardE a
   obtain ⟨al, aj, P, Q⟩ := aa (by omega)
   refine WL.val (Yl.elemAddr (i := j) rfl rfl P Try.underlying29 sz3 (by omega)) ?_
   obtain ⟨ad, U, V⟩ := Q j.toNat _ (getD_some (d := 0) (by omega))
   obtain rfl := U
   refine WL.val (Yl.load (v := iv (l.getD j.toNat 0)) rfl Try.underlying3 rfl (((y.fro)).cell (V 0 _ rfl))) <| WL.rd to 1 rfl <| W.sr rfl <| WL.rd to 2 rfl ?_
   rcases iteE a with ⟨r, a⟩ | ⟨r, a⟩
   ·refine W.cT r rfl <| W.sr rfl <| WL.rd to 1 rfl <| W.ret ?_
    iterate 6 first | refine inB_r ?_ | refine thenE_r ?_
    cases a
    replace H := sumE_r H
    have X := Option.some.inj H
    subst X
    exact post_r (resE1 rfl rfl) ⟨rfl, o⟩
   refine W.cF r rfl <| W.skip <| inB_n <| W.region rfl ?_
   exact WL.rd to 2 rfl <| thenE_n ⟨ab, Nat.lt_succ_self _, wi64 (j + 1), rfl, y, o, a⟩
  refine W.cF p rfl <| W.exit <| thenE_x <| thenE_x <| inB_here ?_
  cases a
  refine thenE_n ?_
  exact ⟨rfl, y, o, rfl⟩
 ·rintro b h ⟨R, J, A, rfl⟩
  replace H := sumE_l H
  apply ks b R
  refine W.sr rfl <| WL.run to 1 rfl <| WL.ln (l.length : Int) rfl Try.underlying29 (by omega) <| WL.run to 1 rfl <| WL.ln (B.length : Int) rfl Try.underlying30 (by omega) <| WL.run to 2 rfl ?_
  obtain ⟨Z, g, H⟩ := bindE H
  refine WL.cut (fun b h => b 4 = .bool Z ∧ Ctx w F D h F [] ∧ (∃ m, h = w.drewN m)) ?_ ?_
  ·rcases iteE g with ⟨s, g⟩ | ⟨s, g⟩
   ·refine WL.kn 21 (congrArg Value.bool (decide_eq_true s)) <| WL.run to 1 rfl <| WL.lnG (l.length : Int) rfl rfl rfl Try.underlying29 (by omega) <| WL.run to 3 rfl ?_
    cases g
    exact WL.done ⟨rfl, J, A⟩
   refine WL.kn 21 (congrArg Value.bool (decide_eq_false s)) <| WL.offs 3 21 true rfl rfl <| WL.run to 2 rfl ?_
   cases g
   exact WL.done ⟨rfl, J, A⟩
  ·rintro b h ⟨T, ak, N⟩
   apply kn b (.c T .n)
   refine W.ret ?_
   have Y := Option.some.inj H
   subst Y
   exact post_r (resE1 rfl rfl) ⟨rfl, N⟩
def crew_able.l1 : Nat → List Int → List Bool → Int → List Thand → Int → Int → Option ((List Thand) × Int)
  | 0, _, _, _, _, _, _ => none
  | k + 1, e, f, g, b, d, a => if a < (e.length : Int) then (if 0 ≤ a ∧ a < (e.length : Int) then (if 0 ≤ a ∧ a < (f.length : Int) then (if (f.getD a.toNat false) = true then (crew_able.l1 k e f g b d (wi64 (a + 1))) else (if (e.getD a.toNat 0) < g then (if (b.length + 1 + (b.length + 1) / 4 + 192) * 16 ≤ 281474976710656 then (crew_able.l1 k e f g (b ++ [(⟨e.getD a.toNat 0, a⟩ : Thand)]) (wi64 (d + 1)) (wi64 (a + 1))) else none) else (crew_able.l1 k e f g b (wi64 (d + 1)) (wi64 (a + 1))))) else none) else none) else (some (b, d))
def crew_able.f (k : Nat) (d : List Int) (e : List Bool) (g : Int) : Option ((List Thand) × Int) := (crew_able.l1 k d e g ([] : List Thand) 0 0).bind fun ⟨a, b⟩ => some (a, b)
theorem crew_able.calls (k w F az ab aO) (s : List Int) (aB ac T) (O : List Bool) (aa : Int) (hp : Pre w F []) (a8 : aO = s.length) (a6 : s.length ≤ ab) (a7 : ab ≤ maxLen) (aP : Sl (Kd.int .i64) F F az s) (a2 : T = O.length) (a0 : O.length ≤ ac) (a1 : ac ≤ maxLen) (aM : Sl Kd.bool F F aB O) (X : List Thand) (ay : Int) (H : crew_able.f k s O aa = some (X, ay)) :
    Calls Try.prog 67 #[.slice az aO ab, .slice aB T ac, iv aa] w fun e w' => ∃ Q S L V, e = .returned (.tuple #[(.slice Q L S), (iv ay)]) ∧ Ctx w F (domL []) w' F [V] ∧ L = X.length ∧ Row Thand.K F V (.slice Q L S) X := by
 have C := Ctx.start hp
 generalize hD : domL [] = D at C ⊢
 unfold crew_able.f at H
 refine Calls.ofW Try.func67 rfl (by simp [Try.ntmps67]) <| W.sr rfl <| WL.rd to 2 rfl <| W.sr rfl <| WL.rd to 1 rfl <| W.sr rfl <| WL.rd to 1 rfl <| W.seq <| W.sr rfl ?_
 refine WL.run to 1 rfl <| WL.ln (s.length : Int) rfl Try.underlying29 (by omega) <| WL.rd to 1 rfl ?_
 obtain ⟨⟨N, Z⟩, a, H⟩ := bindE H
 refine W.cutM (fun g Y => ∃ x y u I, Kn g [(8, .slice x u y), (9, iv Z)] ∧ Ctx w F D Y F [I] ∧ u = N.length ∧ Row Thand.K F I (.slice x u y) N) ?_ ?_
 ·refine W.block ?_
  have aD : Cx [CH.emp] := C.pick [0] rfl
  refine W.loop (fun aL g Y => ∃ (j : List Thand) (r : Int) (b : Int), ∃ l o h p, Kn g [(1, .slice aB T ac), (2, iv aa), (8, .slice l h o), (9, iv r), (12, .slice az aO ab), (13, iv (s.length : Int)), (14, iv b)] ∧ Ctx w F D Y F [p] ∧ h = j.length ∧ Row Thand.K F p (.slice l h o) j ∧ crew_able.l1 aL s O aa j r b = some (N, Z)) k ⟨([] : List Thand), 0, 0, none, 0, 0, CH.emp, rfl, aD, rfl, (Row.nil _ _), a⟩ ?_
  clear a
  rintro aL g Y ⟨j, r, b, l, o, h, p, ap, m, G, t, a⟩
  rcases aL with _ | J
  · exact absurd a (by simp [crew_able.l1])
  rw [crew_able.l1] at a
  apply ks g ap
  refine W.sr rfl <| WL.rd to 1 rfl <| W.seq ?_
  rcases iteE a with ⟨A, a⟩ | ⟨A, a⟩
  ·refine W.cT A rfl <| W.skip <| W.seq <| W.block <| W.sr rfl <| WL.run to 1 rfl ?_
   obtain ⟨aT, a⟩ := guardE a
   obtain ⟨aY, aV, ad, aj⟩ := aP (by omega)
   refine WL.val (Yl.elemAddr (i := b) rfl rfl ad Try.underlying29 sz3 (by omega)) ?_
   obtain ⟨aR, aq, au⟩ := aj b.toNat _ (getD_some (d := 0) (by omega))
   obtain rfl := aq
   refine WL.val (Yl.load (v := iv (s.getD b.toNat 0)) rfl Try.underlying3 rfl (((m.fro)).cell (au 0 _ rfl))) <| WL.rd to 2 rfl <| W.seq <| W.sr rfl <| WL.run to 2 rfl ?_
   obtain ⟨aU, a⟩ := guardE a
   obtain ⟨aZ, aW, ae, ak⟩ := aM (by omega)
   refine WL.val (Yl.elemAddr (i := b) rfl rfl ae Try.underlying30 sz4 (by omega)) ?_
   obtain ⟨aS, ar, av⟩ := ak b.toNat _ (getD_some (d := false) (by omega))
   obtain rfl := ar
   refine WL.val (Yl.load (v := .bool (O.getD b.toNat false)) rfl Try.underlying4 rfl (((m.fro)).cell (av 0 _ rfl))) <| WL.done ?_
   rcases iteE a with ⟨B, a⟩ | ⟨B, a⟩
   ·refine W.condT (congrArg Value.bool B) <| W.exit <| thenE_x <| inB_here <| W.region rfl ?_
    exact WL.rd to 2 rfl <| thenE_n ⟨J, Nat.lt_succ_self _, j, r, wi64 (b + 1), l, o, h, p, rfl, m, G, t, a⟩
   refine W.condF (congrArg Value.bool (Bool.eq_false_iff.2 B)) <| W.skip <| W.sr rfl <| WL.rd to 3 rfl <| W.sr rfl <| WL.rd to 3 rfl ?_
   rcases iteE a with ⟨E, a⟩ | ⟨E, a⟩
   ·refine W.cT E rfl <| W.region rfl ?_
    refine WL.run to 3 rfl ?_
    let aQ : List Go.Value := [iv (s.getD b.toNat 0), iv b]
    refine WL.val (Yl.build (places := [(0, 1), (1, 1)]) (cs := List.toArray aQ) Try.underlying116 zr116 (pl116 _ Try.underlying116) (partsB (.cons rfl (.cons rfl .nil))) rfl) ?_
    obtain ⟨aX, aH, a3, U, a4, am, aw, R, ag⟩ := ev_lit1' (P := Try.prog) 116 Thand.K m Try.underlying110 ti116 ⟨by decide, by decide⟩ (⟨s.getD b.toNat 0, b⟩ : Thand) (.agg (List.toArray aQ)) (Thand.mk' _ (⟨s.getD b.toNat 0, b⟩ : Thand)  )
    refine WL.val (aw _ _ _ rfl) ?_
    obtain ⟨ai, a⟩ := guardE a
    obtain ⟨aA, aI, aN, M, a5, an, ax, aE, ah⟩ := ev_append' (P := Try.prog) (cb := aH) 116 Thand.K [U] [] R t am (Row.sl ag) (Ctx.subI 0 R rfl) Try.underlying110 ti116 rfl zo116 (by decide) (by decide) (by simpa using ai)
    have aF : Cx [U, M] := aE
    refine WL.val (ax _ _ _ _ rfl rfl) <| WL.rd to 1 rfl <| inB_n <| W.region rfl ?_
    refine WL.rd to 2 rfl ?_
    have aG : Cx [M] := aF.pick [1] rfl
    exact thenE_n ⟨J, Nat.lt_succ_self _, j ++ [(⟨s.getD b.toNat 0, b⟩ : Thand)], wi64 (r + 1), wi64 (b + 1), aA, aI, aN, M, rfl, aG, an, ah, a⟩
   refine W.cF E rfl <| W.skip <| inB_n <| W.region rfl ?_
   exact WL.rd to 2 rfl <| thenE_n ⟨J, Nat.lt_succ_self _, j, wi64 (r + 1), wi64 (b + 1), l, o, h, p, rfl, m, G, t, a⟩
  refine W.cF A rfl <| W.exit <| thenE_x <| thenE_x <| inB_here ?_
  cases a
  refine thenE_n ?_
  exact ⟨l, o, h, p, rfl, m, G, t⟩
 ·rintro g Y ⟨x, y, u, I, ao, aC, al, af⟩
  apply ks g ao
  refine W.sr rfl <| WL.rd to 4 rfl <| W.ret ?_
  simp only [Option.some.injEq, Prod.mk.injEq] at H
  obtain ⟨aJ, aK⟩ := H
  subst aJ aK
  exact post_r (resE2 rfl rfl rfl) ⟨x, y, u, I, rfl, aC, al, af⟩
def crew_idle_Len.f (k : Nat) (a : List Thand) : Option Int := some (a.length : Int)
theorem crew_idle_Len.calls (k w F h d i) (a : List Thand) (hp : Pre w F []) (r : i = a.length) (o : a.length ≤ d) (p : d ≤ maxLen) (m : Sl Thand.K F F h a) (b : Int) (H : crew_idle_Len.f k a = some b) :
    Calls Try.prog 114 #[.slice h i d] w fun e w' => e = .returned (iv b) ∧ (∃ g, w' = w.drewN g) := by
 have C := Ctx.start hp
 generalize domL [] = D at C
 have j : ∃ g, w = w.drewN g := ⟨0, rfl⟩
 unfold crew_idle_Len.f at H
 refine Calls.ofW Try.func114 rfl (by simp [Try.ntmps114]) <| W.sr rfl <| WL.rd to 1 rfl <| W.sr rfl <| WL.run to 1 rfl <| WL.ln (a.length : Int) rfl Try.underlying110 (by omega) <| WL.rd to 1 rfl <| W.ret ?_
 have l := Option.some.inj H
 subst l
 exact post_r (resE1 rfl rfl) ⟨rfl, j⟩
def crew_idle_Less.f (k : Nat) (a : List Thand) (b : Int) (d : Int) : Option Bool := if 0 ≤ b ∧ b < (a.length : Int) then (if 0 ≤ d ∧ d < (a.length : Int) then ((if ((a.getD b.toNat Thand.z).used) < ((a.getD d.toNat Thand.z).used) then (some (true)) else (if ((a.getD b.toNat Thand.z).used) = ((a.getD d.toNat Thand.z).used) then (some (decide (((a.getD b.toNat Thand.z).id) < ((a.getD d.toNat Thand.z).id)))) else (some (false)))).bind fun e => some e) else none) else none
theorem crew_idle_Less.calls (k w F I y N) (g : List Thand) (h : Int) (j : Int) (hp : Pre w F []) (Z : N = g.length) (X : g.length ≤ y) (Y : y ≤ maxLen) (M : Sl Thand.K F F I g) (u : Bool) (H : crew_idle_Less.f k g h j = some u) :
    Calls Try.prog 115 #[.slice I N y, iv h, iv j] w fun e w' => e = .returned (.bool u) ∧ (∃ G, w' = w.drewN G) := by
 have C := Ctx.start hp
 generalize domL [] = D at C
 have O : ∃ G, w = w.drewN G := ⟨0, rfl⟩
 unfold crew_idle_Less.f at H
 refine Calls.ofW Try.func115 rfl (by simp [Try.ntmps115]) <| W.sr rfl <| WL.rd to 1 rfl <| W.seq <| W.region_quiet (by kernel_rfl) (by kernel_rfl) rfl ?_
 refine WQ.run to 2 rfl ?_
 obtain ⟨R, H⟩ := guardE H
 obtain ⟨V, T, b, s⟩ := M (by omega)
 refine WQ.vl (fun _ => Yl.elemAddr (i := h) rfl rfl b Try.underlying110 sz116 (by omega)) ?_
 refine WQ.run to 1 rfl ?_
 obtain ⟨P, B, p⟩ := s h.toNat _ (getD_some (d := Thand.z) (by omega))
 obtain ⟨rfl⟩ := Thand.open B
 refine WQ.vl (fun _ => Yl.load (v := iv ((g.getD h.toNat Thand.z).used)) rfl Try.underlying3 rfl ((((C.drewN _).fro)).cell (p 0 _ rfl))) ?_
 refine WQ.run to 2 rfl ?_
 obtain ⟨S, H⟩ := guardE H
 refine WQ.vl (fun _ => Yl.elemAddr (i := j) rfl rfl b Try.underlying110 sz116 (by omega)) ?_
 refine WQ.run to 1 rfl ?_
 obtain ⟨Q, E, r⟩ := s j.toNat _ (getD_some (d := Thand.z) (by omega))
 obtain ⟨rfl⟩ := Thand.open E
 refine WQ.vl (fun _ => Yl.load (v := iv ((g.getD j.toNat Thand.z).used)) rfl Try.underlying3 rfl ((((C.drewN _).fro)).cell (r 0 _ rfl))) ?_
 refine WQ.run to 2 rfl ?_
 obtain ⟨L, a, H⟩ := bindE H
 refine WQ.cut (fun l => l 6 = .bool L) ?_ ?_
 ·rcases iteE a with ⟨m, a⟩ | ⟨m, a⟩
  ·refine WQ.kn 18 (congrArg Value.bool (decide_eq_true m)) <| WQ.offs 12 18 false rfl rfl <| WQ.offs' 11 30 true rfl rfl <| WQ.offs 1 18 false rfl rfl <| WQ.run to 2 rfl ?_
   cases a
   exact WQ.done rfl
  refine WQ.kn 18 (congrArg Value.bool (decide_eq_false m)) <| WQ.run to 2 rfl <| WQ.vOn rfl rfl (fun _ => Yl.elemAddr (i := h) rfl rfl b Try.underlying110 sz116 (by omega)) ?_
  refine WQ.run to 1 rfl <| WQ.vOn rfl rfl (fun _ => Yl.load (v := iv ((g.getD h.toNat Thand.z).used)) rfl Try.underlying3 rfl ((((C.drewN _).fro)).cell (p 0 _ rfl))) ?_
  refine WQ.run to 2 rfl <| WQ.vOn rfl rfl (fun _ => Yl.elemAddr (i := j) rfl rfl b Try.underlying110 sz116 (by omega)) ?_
  refine WQ.run to 1 rfl <| WQ.vOn rfl rfl (fun _ => Yl.load (v := iv ((g.getD j.toNat Thand.z).used)) rfl Try.underlying3 rfl ((((C.drewN _).fro)).cell (r 0 _ rfl))) ?_
  refine WQ.run to 2 rfl ?_
  rcases iteE a with ⟨o, a⟩ | ⟨o, a⟩
  ·refine WQ.kn 30 (congrArg Value.bool (decide_eq_true o)) <| WQ.run to 2 rfl <| WQ.vOn rfl rfl (fun _ => Yl.elemAddr (i := h) rfl rfl b Try.underlying110 sz116 (by omega)) ?_
   refine WQ.run to 1 rfl <| WQ.vOn rfl rfl (fun _ => Yl.load (v := iv ((g.getD h.toNat Thand.z).id)) rfl Try.underlying3 rfl ((((C.drewN _).fro)).cell (p 1 _ rfl))) ?_
   refine WQ.run to 2 rfl <| WQ.vOn rfl rfl (fun _ => Yl.elemAddr (i := j) rfl rfl b Try.underlying110 sz116 (by omega)) ?_
   refine WQ.run to 1 rfl <| WQ.vOn rfl rfl (fun _ => Yl.load (v := iv ((g.getD j.toNat Thand.z).id)) rfl Try.underlying3 rfl ((((C.drewN _).fro)).cell (r 1 _ rfl))) ?_
   refine WQ.run to 4 rfl ?_
   cases a
   exact WQ.done rfl
  refine WQ.kn 30 (congrArg Value.bool (decide_eq_false o)) <| WQ.offs 11 30 true rfl rfl <| WQ.run to 3 rfl ?_
  cases a
  exact WQ.done rfl
 ·rintro l A
  intro t
  have U := Ctx.drewN C t
  have x := drew_more O t
  apply kn l (.c A .n)
  refine W.ret ?_
  have J := Option.some.inj H
  subst J
  exact post_r (resE1 rfl rfl) ⟨rfl, x⟩
def crew_idle_Swap.f (k : Nat) (b : List Thand) (e : Int) (a : Int) : Option (List Thand) := if 0 ≤ a ∧ a < (b.length : Int) then (if 0 ≤ e ∧ e < (b.length : Int) then ((some (b.set e.toNat (b.getD a.toNat Thand.z))).bind fun d => if 0 ≤ a ∧ a < (d.length : Int) then ((some (d.set a.toNat (b.getD e.toNat Thand.z))).bind fun g => some g) else none) else none) else none
theorem crew_idle_Swap.calls (k w F L M p r) (a : List Thand) (b : Int) (g : Int) (hp : Pre w F [r]) (ar : p = a.length) (G : Row Thand.K F r (.slice L p M) a) (A : List Thand) (H : crew_idle_Swap.f k a b g = some A) :
    Calls Try.prog 116 #[.slice L p M, iv b, iv g] w fun e w' => ∃ J, e = .returned (.tuple #[]) ∧ Ctx w F (domL [r]) w' F [J] ∧ p = A.length ∧ Row Thand.K F J (.slice L p M) A := by
 have C := Ctx.start hp
 generalize hD : domL [r] = D at C ⊢
 unfold crew_idle_Swap.f at H
 refine Calls.ofW Try.func116 rfl (by simp [Try.ntmps116]) <| W.regionA [([13, 15], r)] (by kernel_rfl) ?_
 have E := Ctx.drewN C 1
 refine WA.takes [(0, none), (1, none), (2, none), (3, none), (4, none), (5, none), (6, none), (7, some 0), (8, none), (9, none), (10, none), (11, some 0), (12, none)] ⟨(Ctx.subI 0 E rfl), trivial⟩ (by kernel_rfl) <| WT.run to 6 rfl ?_
 obtain ⟨am, H⟩ := guardE H
 obtain ⟨ag, Y, h, x⟩ := (Row.sl G) (by omega)
 refine WT.val rfl (fun _ hC_ => Yl.elemAddr (i := g) rfl rfl h Try.underlying110 sz116 (by omega)) ?_
 obtain ⟨ak, R, T⟩ := x g.toNat _ (getD_some (d := Thand.z) (by omega))
 obtain ⟨rfl⟩ := Thand.open R
 let aa : List Go.Value := [iv ((a.getD g.toNat Thand.z).used), iv ((a.getD g.toNat Thand.z).id)]
 refine WT.val rfl (fun _ hC_ => Yl.loadAgg (cs := aa) rfl Try.underlying116 rfl sz116 (fun j u hu => by rw [add_of]; exact ((show Sub r _ from hC_)).cell (T _ _ hu))) ?_
 refine WT.run to 2 rfl ?_
 obtain ⟨an, H⟩ := guardE H
 refine WT.val rfl (fun _ hC_ => Yl.elemAddr (i := b) rfl rfl h Try.underlying110 sz116 (by omega)) ?_
 obtain ⟨al, S, U⟩ := x b.toNat _ (getD_some (d := Thand.z) (by omega))
 obtain ⟨rfl⟩ := Thand.open S
 let ab : List Go.Value := [iv ((a.getD b.toNat Thand.z).used), iv ((a.getD b.toNat Thand.z).id)]
 refine WT.val rfl (fun _ hC_ => Yl.loadAgg (cs := ab) rfl Try.underlying116 rfl sz116 (fun j u hu => by rw [add_of]; exact ((show Sub r _ from hC_)).cell (U _ _ hu))) ?_
 refine WT.val rfl (fun _ hC_ => Yl.elemAddr (i := b) rfl rfl h Try.underlying110 sz116 (by omega)) ?_
 refine WT.done ?_
 have N : b.toNat < a.length := by first | omega | (simp only [List.length_set, List.length_replicate] at *; omega)
 obtain ⟨aj, au, V, ac, l⟩ := ev_store (P := Try.prog) (t := 116) Thand.K [] [] E G h b.toNat 0 N Thand.z (.agg (List.toArray aa)) (aa) rfl (ones_of rfl) (Nat.le_of_ble_eq_true rfl) sz116 (a.getD g.toNat Thand.z) (fun _ h_ => rep_whole h_ (Thand.mk' _ (a.getD g.toNat Thand.z)  )) ⟨ag, Y + b.toNat * 2, none⟩ rfl
 have Q : p = (a.set b.toNat (a.getD g.toNat Thand.z)).length := by rw [List.length_set]; omega
 obtain ⟨B, m, H⟩ := bindE H
 replace m := Option.some.inj m
 rw [m] at l Q
 have ad : Cx [aj] := ac
 refine WA.up1 13 (by kernel_rfl) (Up.skip rfl rfl (V _ _ _ _ rfl rfl) ⟨trivial, trivial⟩ ?_)
 obtain ⟨ao, H⟩ := guardE H
 obtain ⟨ah, Z, s, ap⟩ := (Row.sl l) (by omega)
 refine WA.take none [] 14 rfl (by kernel_rfl) (by kernel_rfl) rfl trivial ⟨trivial, trivial⟩ (fun _ hC_ => Yl.elemAddr (i := g) rfl rfl s Try.underlying110 sz116 (by omega)) ?_
 have O : g.toNat < B.length := by first | omega | (simp only [List.length_set, List.length_replicate] at *; omega)
 obtain ⟨I, av, X, ae, v⟩ := ev_store (P := Try.prog) (t := 116) Thand.K [] [] ad l s g.toNat 0 O Thand.z (.agg (List.toArray ab)) (ab) rfl (ones_of rfl) (Nat.le_of_ble_eq_true rfl) sz116 (a.getD b.toNat Thand.z) (fun _ h_ => rep_whole h_ (Thand.mk' _ (a.getD b.toNat Thand.z)  )) ⟨ah, Z + g.toNat * 2, none⟩ rfl
 have y : p = (B.set g.toNat (a.getD b.toNat Thand.z)).length := by rw [List.length_set]; omega
 obtain ⟨aq, o, H⟩ := bindE H
 replace o := Option.some.inj o
 rw [o] at v y
 have af : Cx [I] := ae
 refine WA.up1 15 (by kernel_rfl) (Up.skip rfl rfl (X _ _ _ _ rfl rfl) ⟨trivial, trivial⟩ ?_)
 refine WA.done (by kernel_rfl) ?_
 have ai := Option.some.inj H
 subst ai
 exact post_n (resE0 rfl ) ⟨I, rfl, af, y, v⟩
def crew_idle_Pop.f (k : Nat) (a : List Thand) : Option (Thand × (List Thand)) := if 0 ≤ (wi64 ((a.length : Int) - 1)) ∧ (wi64 ((a.length : Int) - 1)) < (a.length : Int) then (if 0 ≤ (wi64 ((a.length : Int) - 1)) ∧ (wi64 ((a.length : Int) - 1)) ≤ (a.length : Int) then (some (a.getD (wi64 ((a.length : Int) - 1)).toNat Thand.z, a.take (wi64 ((a.length : Int) - 1)).toNat)) else none) else none
theorem crew_idle_Pop.calls (k w F b g l m o h) (a : List Thand) (hp : Pre w F [CH.row b g [.slice l o m], h]) (ag : o = a.length) (p : Row Thand.K F h (.slice l o m) a) (t : Thand) (x : List Thand) (H : crew_idle_Pop.f k a = some (t, x)) :
    Calls Try.prog 117 #[.pointer (some ⟨b, g, none⟩)] w fun e w' => ∃ y E r I, e = .returned (.iface 116 (.agg (List.toArray [iv t.used, iv t.id]))) ∧ Ctx w F (domL [CH.row b g [.slice l o m], h]) w' F [CH.row b g [.slice y r E], I] ∧ r = x.length ∧ Row Thand.K F I (.slice y r E) x := by
 have C := Ctx.start hp
 generalize hD : domL [CH.row b g [.slice l o m], h] = D at C ⊢
 unfold crew_idle_Pop.f at H
 refine Calls.ofW Try.func117 rfl (by simp [Try.ntmps117]) <| W.sr rfl <| WL.rd to 1 rfl <| W.sr rfl <| WL.run to 2 rfl <| WL.lv C 0 0 rfl rfl Try.underlying110 rfl rfl <| WL.ln (a.length : Int) rfl Try.underlying110 (by omega) <| WL.rd to 2 rfl <| W.sr rfl ?_
 refine WL.run to 2 rfl <| WL.lv C 0 0 rfl rfl Try.underlying110 rfl rfl <| WL.run to 1 rfl ?_
 obtain ⟨af, H⟩ := guardE H
 obtain ⟨ae, ab, J, N⟩ := (Row.sl p) (by omega)
 refine WL.val (Yl.elemAddr (i := wi64 ((a.length : Int) - 1)) rfl rfl J Try.underlying110 sz116 (by omega)) ?_
 obtain ⟨Z, Q, R⟩ := N (wi64 ((a.length : Int) - 1)).toNat _ (getD_some (d := Thand.z) (by omega))
 obtain ⟨rfl⟩ := Thand.open Q
 let s : List Go.Value := [iv ((a.getD (wi64 ((a.length : Int) - 1)).toNat Thand.z).used), iv ((a.getD (wi64 ((a.length : Int) - 1)).toNat Thand.z).id)]
 refine WL.val (Yl.loadAgg (cs := s) rfl Try.underlying116 rfl sz116 (fun j u hu => by rw [add_of]; exact ((Ctx.subI 1 C rfl)).cell (R _ _ hu))) ?_
 obtain ⟨G, ah, S, U⟩ := ev_alloc (P := Try.prog) (e := 116) [iv 0, iv 0] C zr116 rfl
 refine WL.val (S _ _) ?_
 let ac : CH := CH.row b g [.slice l o m]
 refine WL.st U 0 0 s rfl rfl rfl rfl (Put.lit 0 rfl) (ones_of rfl) sz116 fun ad (A : Cx [CH.row G 0 s, ac, h]) => ?_
 refine WL.done <| W.sr rfl <| WL.run to 3 rfl <| WL.lv A 1 0 rfl rfl Try.underlying110 rfl rfl <| WL.run to 1 rfl ?_
 obtain ⟨M, H⟩ := guardE H
 have aa := (Row.len_le p).1
 obtain ⟨O, L⟩ := Row.take p (wi64 ((a.length : Int) - 1)).toNat (by omega)
 refine WL.val (Yl.sliceHi rfl Try.underlying110 sz116 rfl ⟨M.1, by omega⟩) <| WL.run to 1 rfl ?_
 let T : List Go.Value := [.slice l ((wi64 ((a.length : Int) - 1)).toNat) m]
 refine WL.st A 1 0 T rfl rfl rfl rfl (Put.lit 0 rfl) (ones_of rfl) sz110 fun ad (B : Cx [CH.row G 0 s, CH.row b g T, h]) => ?_
 refine WL.done <| W.sr rfl <| WL.la B 0 rfl rfl Try.underlying116 rfl sz116 <| WL.val (Yl.mkIface (v := .agg (List.toArray s)) rfl Try.underlying116 rfl) <| WL.rd to 1 rfl <| W.ret ?_
 have V : Cx [CH.row b g T, h] := B.pick [1, 2] rfl
 simp only [Option.some.injEq, Prod.mk.injEq] at H
 obtain ⟨X, Y⟩ := H
 subst X Y
 exact post_r (resE1 rfl rfl) ⟨l, m, (wi64 ((a.length : Int) - 1)).toNat, h, rfl, V, O, L⟩
def heap_down.l1 : Nat → Int → Int → List Thand → Option (Int × (List Thand))
  | 0, _, _, _ => none
  | k + 1, e, a, b => if ((decide ((wi64 ((wi64 (2 * a)) + 1)) ≥ e)) || (decide ((wi64 ((wi64 (2 * a)) + 1)) < 0))) = true then (some (a, b)) else (((if (wi64 ((wi64 ((wi64 (2 * a)) + 1)) + 1)) < e then ((crew_idle_Less.f k b (wi64 ((wi64 ((wi64 (2 * a)) + 1)) + 1)) (wi64 ((wi64 (2 * a)) + 1))).bind fun g => some g) else (some false)).bind fun j => if j = true then (some (wi64 ((wi64 ((wi64 (2 * a)) + 1)) + 1))) else (some (wi64 ((wi64 (2 * a)) + 1)))).bind fun d => (crew_idle_Less.f k b d a).bind fun h => if h = true then ((crew_idle_Swap.f k b a d).bind fun i => heap_down.l1 k e d i) else (some (a, b)))
def heap_down.f (k : Nat) (e : List Thand) (d : Int) (g : Int) : Option (Bool × (List Thand)) := (heap_down.l1 k g d e).bind fun ⟨a, b⟩ => some (decide (a > d), b)
theorem heap_down.calls (k w F x y aa af Z ai) (am : List Thand) (S : Int) (B : Int) (hp : Pre w F [CH.row x y [.slice aa Z af], ai]) (a1 : Z = am.length) (a0 : Row Thand.K F ai (.slice aa Z af) am) (aK : Bool) (aj : List Thand) (H : heap_down.f k am S B = some (aK, aj)) :
    Calls Try.prog 76 #[.iface 114 (.pointer (some ⟨x, y, none⟩)), iv S, iv B] w fun e w' => ∃ ab ag V ah, e = .returned (.bool aK) ∧ Ctx w F (domL [CH.row x y [.slice aa Z af], ai]) w' F [CH.row x y [.slice ab V ag], ah] ∧ V = aj.length ∧ Row Thand.K F ah (.slice ab V ag) aj := by
 have C := Ctx.start hp
 generalize hD : domL [CH.row x y [.slice aa Z af], ai] = D at C ⊢
 unfold heap_down.f at H
 refine Calls.ofW Try.func76 rfl (by simp [Try.ntmps76]) <| W.sr rfl <| WL.rd to 1 rfl <| W.sr rfl <| WL.rd to 2 rfl <| W.seq ?_
 obtain ⟨⟨al, Y⟩, a, H⟩ := bindE H
 refine W.cutM (fun b r => ∃ I J E Q, Kn b [(1, iv S), (7, iv al)] ∧ Ctx w F D r F [CH.row x y [.slice I E J], Q] ∧ E = Y.length ∧ Row Thand.K F Q (.slice I E J) Y) ?_ ?_
 ·refine W.block <| W.loop (fun aW b r => ∃ (d : Int) (s : List Thand), ∃ h i g j, Kn b [(0, .iface 114 (.pointer (some ⟨x, y, none⟩))), (1, iv S), (2, iv B), (7, iv d)] ∧ Ctx w F D r F [CH.row x y [.slice h g i], j] ∧ g = s.length ∧ Row Thand.K F j (.slice h g i) s ∧ heap_down.l1 aW B d s = some (al, Y)) k ⟨S, am, aa, af, Z, ai, rfl, C, a1, a0, a⟩ ?_
  clear a
  rintro aW b r ⟨d, s, h, i, g, j, ax, ac, u, l, a⟩
  rcases aW with _ | P
  · exact absurd a (by simp [heap_down.l1])
  rw [heap_down.l1] at a
  apply ks b ax
  refine W.block <| W.sr rfl <| WL.rd to 4 rfl <| W.seq <| W.sr rfl <| WL.run to 4 rfl ?_
  let G : CH := CH.row x y [.slice h g i]
  refine WL.cut (fun b r => b 21 = .bool ((decide ((wi64 ((wi64 (2 * d)) + 1)) ≥ B)) || (decide ((wi64 ((wi64 (2 * d)) + 1)) < 0))) ∧ b 0 = .iface 114 (.pointer (some ⟨x, y, none⟩)) ∧ b 1 = iv S ∧ b 2 = iv B ∧ b 7 = iv d ∧ b 8 = iv (wi64 ((wi64 (2 * d)) + 1)) ∧ Ctx w F D r F [G, j]) ?_ ?_
  ·rcases Bool.eq_false_or_eq_true (decide ((wi64 ((wi64 (2 * d)) + 1)) ≥ B)) with t | t
   ·exact WL.kn 18 (congrArg Value.bool t) <| WL.offs 2 18 false rfl rfl <| WL.run to 1 rfl <| WL.done ⟨(congrArg Value.bool (show true = ((decide ((wi64 ((wi64 (2 * d)) + 1)) ≥ B)) || (decide ((wi64 ((wi64 (2 * d)) + 1)) < 0))) from by simp [t])), rfl, rfl, rfl, rfl, rfl, ac⟩
   ·exact WL.kn 18 (congrArg Value.bool t) <| WL.run to 3 rfl <| WL.done ⟨(congrArg Value.bool (show (decide ((wi64 ((wi64 (2 * d)) + 1)) < 0)) = ((decide ((wi64 ((wi64 (2 * d)) + 1)) ≥ B)) || (decide ((wi64 ((wi64 (2 * d)) + 1)) < 0))) from by simp [t])), rfl, rfl, rfl, rfl, rfl, ac⟩
  ·rintro b r ⟨ay, az, aA, aB, aC, aD, A⟩
   apply kn b (.c ay (.c az (.c aA (.c aB (.c aC (.c aD .n))))))
   rcases iteE a with ⟨L, a⟩ | ⟨L, a⟩
   ·refine W.condT (congrArg Value.bool L) <| W.exit <| thenE_x <| inB_x rfl <| thenE_x <| inB_here ?_
    cases a
    refine thenE_n ?_
    exact ⟨h, i, g, j, rfl, A, u, l⟩
   refine W.condF (congrArg Value.bool (Bool.eq_false_iff.2 L)) <| W.skip <| W.sr rfl <| WL.rd to 2 rfl <| W.seq ?_
   obtain ⟨R, m, a⟩ := bindE a
   refine W.cutM (fun b r => Kn b [(0, .iface 114 (.pointer (some ⟨x, y, none⟩))), (1, iv S), (2, iv B), (7, iv d), (9, iv R)] ∧ Ctx w F D r F [G, j]) ?_ ?_
   ·refine W.sr rfl <| WL.rd to 3 rfl <| W.seq ?_
    obtain ⟨aZ, p, m⟩ := bindE m
    refine W.cutM (fun b r => Kn b [(0, .iface 114 (.pointer (some ⟨x, y, none⟩))), (1, iv S), (2, iv B), (7, iv d), (9, iv (wi64 ((wi64 (2 * d)) + 1))), (10, iv (wi64 ((wi64 ((wi64 (2 * d)) + 1)) + 1))), (33, .bool aZ)] ∧ Ctx w F D r F [G, j]) ?_ ?_
    ·refine W.region rfl ?_
     refine WL.run to 4 rfl ?_
     rcases iteE p with ⟨M, p⟩ | ⟨M, p⟩
     ·refine WL.kn 28 (congrArg Value.bool (decide_eq_true M)) <| WL.run to 3 rfl <| WL.on rfl rfl ?_
      obtain ⟨aS, aG, aI, (aM : Cx [G])⟩ := Ctx.fzI 1 A rfl
      obtain ⟨aX, ap, p⟩ := bindE p
      refine WL.cq A (crew_idle_Less.calls P _ aS h i g s (wi64 ((wi64 ((wi64 (2 * d)) + 1)) + 1)) (wi64 ((wi64 (2 * d)) + 1)) aM.pre0 u (Row.len_le l).1 (Row.len_le l).2.1 (Sl.mono (Row.sl l) aG aI) aX ap) (Yenter.invV (v := .slice h g i) rfl (by kernel_rfl) Try.underlying114 (run_loadV1 (o := 0) (cs := [.slice h g i]) (v := .slice h g i) Try.underlying110 rfl (Ctx.subI 0 A rfl) rfl) Try.func115 (by kernel_rfl) rfl (argsE (.cons rfl (.cons rfl .nil)))) fun r aN => ?_
      refine WL.rd to 1 rfl ?_
      cases p
      refine thenE_n ?_
      exact ⟨rfl, aN⟩
     refine WL.kn 28 (congrArg Value.bool (decide_eq_false M)) <| WL.offs 4 28 true rfl rfl <| WL.rd to 1 rfl ?_
     cases p
     refine thenE_n ?_
     exact ⟨rfl, A⟩
    ·rintro b r ⟨aF, ad⟩
     apply ks b aF
     rcases iteE m with ⟨N, m⟩ | ⟨N, m⟩
     ·refine W.condT (congrArg Value.bool N) <| W.region rfl ?_
      refine WL.rd to 2 rfl ?_
      cases m
      refine thenE_n ?_
      exact ⟨rfl, ad⟩
     refine W.condF (congrArg Value.bool (Bool.eq_false_iff.2 N)) <| W.skip ?_
     cases m
     refine thenE_n ?_
     exact ⟨rfl, ad⟩
   ·rintro b r ⟨aE, T⟩
    apply ks b aE
    refine W.seq <| W.sr rfl <| WL.run to 3 rfl ?_
    obtain ⟨aT, aH, aJ, (aO : Cx [G])⟩ := Ctx.fzI 1 T rfl
    obtain ⟨aY, aq, a⟩ := bindE a
    refine WL.cq T (crew_idle_Less.calls P _ aT h i g s R d aO.pre0 u (Row.len_le l).1 (Row.len_le l).2.1 (Sl.mono (Row.sl l) aH aJ) aY aq) (Yenter.invV (v := .slice h g i) rfl (by kernel_rfl) Try.underlying114 (run_loadV1 (o := 0) (cs := [.slice h g i]) (v := .slice h g i) Try.underlying110 rfl (Ctx.subI 0 T rfl) rfl) Try.func115 (by kernel_rfl) rfl (argsE (.cons rfl (.cons rfl .nil)))) fun r U => ?_
    refine WL.rd to 1 rfl ?_
    rcases iteE a with ⟨O, a⟩ | ⟨O, a⟩
    ·refine W.condF (congrArg Value.bool (nb_t O)) <| W.skip <| W.sr rfl <| WL.run to 3 rfl ?_
     have ae : Cx [j, G] := U.pick [1, 0] rfl
     obtain ⟨ak, ar, a⟩ := bindE a
     refine WL.callH (crew_idle_Swap.calls P _ F h i g j s d R (Ctx.pre (qs := [j]) (rest := [G]) ae) u l ak ar) (Yenter.invV (v := .slice h g i) rfl (by kernel_rfl) Try.underlying114 (run_loadV1 (o := 0) (cs := [.slice h g i]) (v := .slice h g i) Try.underlying110 rfl (Ctx.subI 0 U rfl) rfl) Try.func116 (by kernel_rfl) rfl (argsE (.cons rfl (.cons rfl .nil)))) ?_
     rintro a2 r ⟨X, rfl, aP, av, ao⟩
     refine ⟨_, rfl, ?_⟩
     have aQ : Cx [X, G] := Ctx.call (qs := [j]) (rest := [G]) ae aP
     refine WL.done <| W.region rfl ?_
     refine WL.rd to 2 rfl <| inB_n ?_
     have aR : Cx [G, X] := aQ.pick [1, 0] rfl
     exact thenE_n ⟨P, Nat.lt_succ_self _, R, ak, h, i, g, X, rfl, aR, av, ao, a⟩
    refine W.condT (congrArg Value.bool (nb_f O)) <| W.exit <| thenE_x <| inB_x rfl <| thenE_x <| inB_here ?_
    cases a
    refine thenE_n ?_
    exact ⟨h, i, g, j, rfl, U, u, l⟩
 ·rintro b r ⟨I, J, E, Q, aw, aL, au, an⟩
  apply ks b aw
  refine W.sr rfl <| WL.rd to 4 rfl <| W.ret ?_
  simp only [Option.some.injEq, Prod.mk.injEq] at H
  obtain ⟨aU, aV⟩ := H
  subst aU aV
  exact post_r (resE1 rfl rfl) ⟨I, J, E, Q, rfl, aL, au, an⟩
def heap_Init.l1 : Nat → Int → Int → List Thand → Option (List Thand)
  | 0, _, _, _ => none
  | k + 1, d, a, b => if a ≥ 0 then ((heap_down.f k b a d).bind fun ⟨g, e⟩ => heap_Init.l1 k d (wi64 (a - 1)) e) else (some b)
def heap_Init.f (k : Nat) (b : List Thand) : Option (List Thand) := (crew_idle_Len.f k b).bind fun a => (heap_Init.l1 k a (wi64 ((wi64 (a.tdiv 2)) - 1)) b).bind fun d => some d
theorem heap_Init.calls (k w F i j x y p aa) (S : List Thand) (hp : Pre w F [CH.row i j [.slice x p y], aa]) (ah : p = S.length) (N : Row Thand.K F aa (.slice x p y) S) (ab : List Thand) (H : heap_Init.f k S = some ab) :
    Calls Try.prog 68 #[.iface 114 (.pointer (some ⟨i, j, none⟩))] w fun e w' => ∃ R U G Z, e = .returned (.tuple #[]) ∧ Ctx w F (domL [CH.row i j [.slice x p y], aa]) w' F [CH.row i j [.slice R G U], Z] ∧ G = ab.length ∧ Row Thand.K F Z (.slice R G U) ab := by
 have C := Ctx.start hp
 generalize hD : domL [CH.row i j [.slice x p y], aa] = D at C ⊢
 unfold heap_Init.f at H
 refine Calls.ofW Try.func68 rfl (by simp [Try.ntmps68]) <| W.sr rfl <| WL.run to 1 rfl ?_
 let aA : CH := CH.row i j [.slice x p y]
 obtain ⟨az, aq, ar, (av : Cx [aA])⟩ := Ctx.fzI 1 C rfl
 obtain ⟨s, an, H⟩ := bindE H
 refine WL.cq C (crew_idle_Len.calls k _ az x y p S av.pre0 ah (Row.len_le N).1 (Row.len_le N).2.1 (Sl.mono (Row.sl N) aq ar) s an) (Yenter.invV (v := .slice x p y) rfl (by kernel_rfl) Try.underlying114 (run_loadV1 (o := 0) (cs := [.slice x p y]) (v := .slice x p y) Try.underlying110 rfl (Ctx.subI 0 C rfl) rfl) Try.func114 (by kernel_rfl) rfl (argsE .nil)) fun I aw => ?_
 refine WL.rd to 1 rfl <| W.sr rfl <| WL.run to 1 rfl <| WL.val (Yl.quo (m := s) (n := 2) (r := wi64 (s.tdiv 2)) rfl rfl (by decide) rfl) <| WL.rd to 2 rfl ?_
 obtain ⟨ad, a, H⟩ := bindE H
 refine W.cutM (fun l I => ∃ J L B P, Ctx w F D I F [CH.row i j [.slice J B L], P] ∧ B = ad.length ∧ Row Thand.K F P (.slice J B L) ad) ?_ ?_
 ·refine W.block <| W.loop (fun al l I => ∃ (t : Int) (u : List Thand), ∃ g h b d, Kn l [(0, .iface 114 (.pointer (some ⟨i, j, none⟩))), (2, iv s), (3, iv t)] ∧ Ctx w F D I F [CH.row i j [.slice g b h], d] ∧ b = u.length ∧ Row Thand.K F d (.slice g b h) u ∧ heap_Init.l1 al s t u = some ad) k ⟨wi64 ((wi64 (s.tdiv 2)) - 1), S, x, y, p, aa, rfl, aw, ah, N, a⟩ ?_
  clear a
  rintro al l I ⟨t, u, g, h, b, d, ap, E, O, M, a⟩
  rcases al with _ | V
  · exact absurd a (by simp [heap_Init.l1])
  rw [heap_Init.l1] at a
  apply ks l ap
  refine W.seq <| W.sr rfl <| WL.rd to 2 rfl ?_
  rcases iteE a with ⟨A, a⟩ | ⟨A, a⟩
  ·refine W.cT A rfl <| W.skip <| W.seq <| W.block <| W.region rfl ?_
   refine WL.run to 3 rfl ?_
   obtain ⟨⟨au, ac⟩, af, a⟩ := bindE a
   let ay : CH := CH.row i j [.slice g b h]
   refine WL.callH (heap_down.calls V _ F i j g h b d u t s (Ctx.pre (qs := [ay, d]) (rest := []) E) O M au ac af) (ne.fr rfl rfl) ?_
   rintro aC I ⟨Q, T, X, Y, rfl, ai, ag, ae⟩
   refine ⟨_, rfl, ?_⟩
   let aB : CH := CH.row i j [.slice Q X T]
   have aj : Cx [aB, Y] := Ctx.call (qs := [ay, d]) (rest := []) E ai
   refine WL.done <| inB_n <| W.region rfl ?_
   exact WL.rd to 3 rfl <| thenE_n ⟨V, Nat.lt_succ_self _, wi64 (t - 1), ac, Q, T, X, Y, rfl, aj, ag, ae, a⟩
  refine W.cF A rfl <| W.exit <| thenE_x <| thenE_x <| inB_here ?_
  cases a
  refine thenE_n ?_
  exact ⟨g, h, b, d, E, O, M⟩
 ·rintro l I ⟨J, L, B, P, ax, ao, am⟩
  have ak := Option.some.inj H
  subst ak
  exact post_n (resE0 rfl ) ⟨J, L, B, P, rfl, ax, ao, am⟩
def heap_Pop.f (k : Nat) (b : List Thand) : Option (Thand × (List Thand)) := (crew_idle_Len.f k b).bind fun a => (crew_idle_Swap.f k b 0 (wi64 (a - 1))).bind fun d => (heap_down.f k d 0 (wi64 (a - 1))).bind fun ⟨i, e⟩ => (crew_idle_Pop.f k e).bind fun ⟨g, h⟩ => some (g, h)
theorem heap_Pop.calls (k w F g h b d a j) (r : List Thand) (hp : Pre w F [CH.row g h [.slice b a d], j]) (O : a = r.length) (m : Row Thand.K F j (.slice b a d) r) (t : Thand) (x : List Thand) (H : heap_Pop.f k r = some (t, x)) :
    Calls Try.prog 69 #[.iface 114 (.pointer (some ⟨g, h, none⟩))] w fun e w' => ∃ B N s S, e = .returned (.iface 116 (.agg (List.toArray [iv t.used, iv t.id]))) ∧ Ctx w F (domL [CH.row g h [.slice b a d], j]) w' F [CH.row g h [.slice B s N], S] ∧ s = x.length ∧ Row Thand.K F S (.slice B s N) x := by
 have C := Ctx.start hp
 generalize hD : domL [CH.row g h [.slice b a d], j] = D at C ⊢
 unfold heap_Pop.f at H
 refine Calls.ofW Try.func69 rfl (by simp [Try.ntmps69]) <| W.sr rfl <| WL.rd to 1 rfl <| W.sr rfl <| WL.run to 1 rfl ?_
 let l : CH := CH.row g h [.slice b a d]
 obtain ⟨ay, ag, ah, (ak : Cx [l])⟩ := Ctx.fzI 1 C rfl
 obtain ⟨u, Z, H⟩ := bindE H
 refine WL.cq C (crew_idle_Len.calls k _ ay b d a r ak.pre0 O (Row.len_le m).1 (Row.len_le m).2.1 (Sl.mono (Row.sl m) ag ah) u Z) (Yenter.invV (v := .slice b a d) rfl (by kernel_rfl) Try.underlying114 (run_loadV1 (o := 0) (cs := [.slice b a d]) (v := .slice b a d) Try.underlying110 rfl (Ctx.subI 0 C rfl) rfl) Try.func114 (by kernel_rfl) rfl (argsE .nil)) fun aj E => ?_
 refine WL.rd to 2 rfl <| W.sr rfl <| WL.run to 2 rfl ?_
 have G : Cx [j, l] := E.pick [1, 0] rfl
 obtain ⟨T, aa, H⟩ := bindE H
 refine WL.callH (crew_idle_Swap.calls k _ F b d a j r 0 (wi64 (u - 1)) (Ctx.pre (qs := [j]) (rest := [l]) G) O m T aa) (Yenter.invV (v := .slice b a d) rfl (by kernel_rfl) Try.underlying114 (run_loadV1 (o := 0) (cs := [.slice b a d]) (v := .slice b a d) Try.underlying110 rfl (Ctx.subI 0 E rfl) rfl) Try.func116 (by kernel_rfl) rfl (argsE (.cons rfl (.cons rfl .nil)))) ?_
 rintro au aj ⟨i, rfl, al, ad, V⟩
 refine ⟨_, rfl, ?_⟩
 have am : Cx [i, l] := Ctx.call (qs := [j]) (rest := [l]) G al
 refine WL.done <| W.sr rfl <| WL.run to 2 rfl ?_
 have I : Cx [l, i] := am.pick [1, 0] rfl
 obtain ⟨⟨av, U⟩, ab, H⟩ := bindE H
 refine WL.callH (heap_down.calls k _ F g h b d a i T 0 (wi64 (u - 1)) (Ctx.pre (qs := [l, i]) (rest := []) I) ad V av U ab) (ne.fr rfl rfl) ?_
 rintro au aj ⟨y, L, P, p, rfl, an, ae, X⟩
 refine ⟨_, rfl, ?_⟩
 let ai : CH := CH.row g h [.slice y P L]
 have J : Cx [ai, p] := Ctx.call (qs := [l, i]) (rest := []) I an
 refine WL.done <| W.sr rfl <| WL.run to 1 rfl ?_
 obtain ⟨⟨aw, ax⟩, ac, H⟩ := bindE H
 refine WL.callH (crew_idle_Pop.calls k _ F g h y L P p U (Ctx.pre (qs := [ai, p]) (rest := []) J) ae X aw ax ac) (Yenter.inv rfl (by kernel_rfl) Try.underlying114 Try.func117 (by kernel_rfl) rfl (argsE .nil)) ?_
 rintro au aj ⟨A, M, Q, R, rfl, ao, af, Y⟩
 refine ⟨_, rfl, ?_⟩
 let az : CH := CH.row g h [.slice A Q M]
 have ap : Cx [az, R] := Ctx.call (qs := [ai, p]) (rest := []) J ao
 refine WL.rd to 1 rfl <| W.ret ?_
 simp only [Option.some.injEq, Prod.mk.injEq] at H
 obtain ⟨aq, ar⟩ := H
 subst aq ar
 exact post_r (resE1 rfl rfl) ⟨A, M, Q, R, rfl, ap, af, Y⟩
def crew_Pick.l1 : Nat → Int → List Int → Int → List Thand → Option (List Int)
  | 0, _, _, _, _ => none
  | k + 1, h, b, a, g => if a < ((List.replicate h.toNat (0 : Int)).length : Int) then ((heap_Pop.f k g).bind fun ⟨d, e⟩ => if 0 ≤ a ∧ a < (b.length : Int) then (crew_Pick.l1 k h (b.set a.toNat d.id) (wi64 (a + 1)) e) else none) else (some b)
def crew_Pick.f (k : Nat) (e : List Int) (g : List Bool) (h : Int) (a : Int) : Option ((List Int) × Int) := (crew_right.f k e g).bind fun i => if (((!i) || (decide (a < 1))) || (decide (h < 0))) = true then (some (([] : List Int), 1)) else ((crew_able.f k e g h).bind fun ⟨b, j⟩ => if j < a then (some (([] : List Int), 180)) else (if (b.length : Int) < a then (some (([] : List Int), 70)) else ((heap_Init.f k b).bind fun l => if 0 ≤ a ∧ a * 8 ≤ 140737488355328 then ((crew_Pick.l1 k a (List.replicate a.toNat (0 : Int)) 0 l).bind fun d => some (d, 0)) else none)))
theorem crew_Pick.calls (k w F ai ag aC) (ae : List Int) (am ah U) (af : List Bool) (N : Int) (p : Int) (hp : Pre w F []) (a3 : aC = ae.length) (a1 : ae.length ≤ ag) (a2 : ag ≤ maxLen) (a0 : Sl (Kd.int .i64) F F ai ae) (az : U = af.length) (ax : af.length ≤ ah) (ay : ah ≤ maxLen) (aw : Sl Kd.bool F F am af) (aF : List Int) (a6 : Int) (H : crew_Pick.f k ae af N p = some (aF, a6)) :
    Calls Try.prog 53 #[.slice ai aC ag, .slice am U ah, iv N, iv p] w fun e w' => ∃ ak au aa aE, e = .returned (.tuple #[(.slice ak aa au), (iv a6)]) ∧ Ctx w F (domL []) w' F [aE] ∧ aa = aF.length ∧ Row (Kd.int .i64) F aE (.slice ak aa au) aF := by
 have C := Ctx.start hp
 generalize hD : domL [] = D at C ⊢
 unfold crew_Pick.f at H
 refine Calls.ofW Try.func53 rfl (by simp [Try.ntmps53]) <| W.sr rfl <| WL.rd to 2 rfl <| W.seq <| W.sr rfl <| WL.run to 2 rfl ?_
 obtain ⟨L, bn, H⟩ := bindE H
 refine WL.cq C (crew_right.calls k _ F ai ag aC ae am ah U af C.pre0 a3 a1 a2 a0 az ax ay aw L bn) (ne.fr rfl rfl) fun u an => ?_
 refine WL.run to 2 rfl <| WL.cut (fun b u => b 25 = .bool (((!L) || (decide (p < 1))) || (decide (N < 0))) ∧ b 0 = .slice ai aC ag ∧ b 1 = .slice am U ah ∧ b 2 = iv N ∧ b 3 = iv p ∧ Ctx w F D u F []) ?_ ?_
 ·rcases Bool.eq_false_or_eq_true (!L) with r | r
  ·exact WL.kn 18 (congrArg Value.bool r) <| WL.offs 2 18 false rfl rfl <| WL.run to 2 rfl <| WL.offs 2 22 false rfl rfl <| WL.run to 1 rfl <| WL.done ⟨(congrArg Value.bool (show true = (((!L) || (decide (p < 1))) || (decide (N < 0))) from by simp [r])), rfl, rfl, rfl, rfl, an⟩
  ·refine WL.kn 18 (congrArg Value.bool r) <| WL.run to 4 rfl ?_
   rcases Bool.eq_false_or_eq_true (decide (p < 1)) with E | E
   ·exact WL.kn 22 (congrArg Value.bool E) <| WL.offs 2 22 false rfl rfl <| WL.run to 1 rfl <| WL.done ⟨(congrArg Value.bool (show true = (((!L) || (decide (p < 1))) || (decide (N < 0))) from by simp [r, E])), rfl, rfl, rfl, rfl, an⟩
   ·exact WL.kn 22 (congrArg Value.bool E) <| WL.run to 3 rfl <| WL.done ⟨(congrArg Value.bool (show (decide (N < 0)) = (((!L) || (decide (p < 1))) || (decide (N < 0))) from by simp [r, E])), rfl, rfl, rfl, rfl, an⟩
 ·rintro b u ⟨bt, bu, bv, bw, bx, aq⟩
  apply kn b (.c bt (.c bu (.c bv (.c bw (.c bx .n)))))
  rcases iteE H with ⟨X, H⟩ | ⟨X, H⟩
  ·refine W.condT (congrArg Value.bool X) <| W.sr rfl <| WL.rd to 2 rfl <| W.ret <| thenE_r ?_
   have bE : Cx [CH.emp] := aq.pick [0] rfl
   simp only [Option.some.injEq, Prod.mk.injEq] at H
   obtain ⟨bP, bQ⟩ := H
   subst bP bQ
   exact post_r (resE2 rfl rfl rfl) ⟨none, 0, 0, CH.emp, rfl, bE, rfl, (Row.nil _ _)⟩
  refine W.condF (congrArg Value.bool (Bool.eq_false_iff.2 X)) <| W.skip <| W.sr rfl <| WL.run to 3 rfl ?_
  obtain ⟨⟨aH, bZ⟩, bo, H⟩ := bindE H
  refine WL.callH (crew_able.calls k _ F ai ag aC ae am ah U af N aq.pre0 a3 a1 a2 a0 az ax ay aw aH bZ bo) (ne.fr rfl rfl) ?_
  rintro bW u ⟨al, av, aD, V, rfl, bG, bq, bj⟩
  refine ⟨_, rfl, ?_⟩
  have bH : Cx [V] := Ctx.call0 aq bG
  refine WL.run to 3 rfl ?_
  obtain ⟨j, b4, bz, bI⟩ := ev_alloc (P := Try.prog) (e := 110) [.slice none 0 0] bH zr110 rfl
  refine WL.val (bz _ _) ?_
  let bB : CH := CH.row j 0 [.slice al aD av]
  refine WL.st bI 0 0 [.slice al aD av] rfl rfl rfl rfl (Put.lit 0 rfl) (ones_of rfl) sz110 fun u (T : Cx [bB, V]) => ?_
  refine WL.rd to 1 rfl <| W.seq <| W.block <| W.sr rfl <| WL.rd to 4 rfl ?_
  rcases iteE H with ⟨Y, H⟩ | ⟨Y, H⟩
  ·refine W.cT Y rfl <| W.sr rfl <| WL.rd to 2 rfl <| W.ret <| inB_r <| thenE_r ?_
   have bJ : Cx [CH.emp] := T.pick [2] rfl
   simp only [Option.some.injEq, Prod.mk.injEq] at H
   obtain ⟨bR, bS⟩ := H
   subst bR bS
   exact post_r (resE2 rfl rfl rfl) ⟨none, 0, 0, CH.emp, rfl, bJ, rfl, (Row.nil _ _)⟩
  refine W.cF Y rfl <| W.sr rfl <| WL.lv T 0 0 rfl rfl Try.underlying110 rfl rfl <| WL.ln (aH.length : Int) rfl Try.underlying110 (by omega) <| WL.rd to 3 rfl ?_
  rcases iteE H with ⟨Z, H⟩ | ⟨Z, H⟩
  ·refine W.cT Z rfl <| W.sr rfl <| WL.rd to 2 rfl <| W.ret <| inB_r <| thenE_r ?_
   have bK : Cx [CH.emp] := T.pick [2] rfl
   simp only [Option.some.injEq, Prod.mk.injEq] at H
   obtain ⟨bU, bV⟩ := H
   subst bU bV
   exact post_r (resE2 rfl rfl rfl) ⟨none, 0, 0, CH.emp, rfl, bK, rfl, (Row.nil _ _)⟩
  refine W.cF Z rfl <| W.skip <| inB_n <| W.sr rfl <| WL.val (Yl.mkIface (v := .pointer (some ⟨j, 0, none⟩)) rfl Try.underlying114 rfl) ?_
  obtain ⟨a7, bp, H⟩ := bindE H
  refine WL.callH (heap_Init.calls k _ F j 0 al av aD V aH (Ctx.pre (qs := [bB, V]) (rest := []) T) bq bj a7 bp) (ne.fr rfl rfl) ?_
  rintro bW u ⟨aY, aZ, a4, a5, rfl, bL, br, bk⟩
  refine ⟨_, rfl, ?_⟩
  let b2 : CH := CH.row j 0 [.slice aY a4 aZ]
  have bM : Cx [b2, a5] := Ctx.call (qs := [bB, V]) (rest := []) T bL
  refine WL.done <| W.sr rfl <| WL.run to 1 rfl ?_
  obtain ⟨bm, H⟩ := guardE H
  obtain ⟨bD, bO, bX, bY, b5, bs, bA, bN, bl⟩ := ev_make' (P := Try.prog) 3 (Kd.int .i64) bM Try.underlying29 ti3 0 rfl (by decide) p bm
  refine WL.val (bA _ _ _ _ _ _ rfl rfl) <| WL.rd to 1 rfl <| W.seq <| W.sr rfl <| WL.run to 1 rfl <| WL.ln ((List.replicate p.toNat (0 : Int)).length : Int) rfl Try.underlying29 (by omega) <| WL.rd to 1 rfl ?_
  obtain ⟨ac, a, H⟩ := bindE H
  refine W.cutM (fun b u => ∃ M O G S, b 12 = .slice M G O ∧ Ctx w F D u F [S] ∧ G = ac.length ∧ Row (Kd.int .i64) F S (.slice M G O) ac) ?_ ?_
  ·refine W.block <| W.loop (fun bi b u => ∃ (o : List Int) (g : Int) (J : List Thand), ∃ x A l h y B s m, Kn b [(10, .pointer (some ⟨j, 0, none⟩)), (12, .slice x l A), (47, iv ((List.replicate p.toNat (0 : Int)).length : Int)), (48, iv g)] ∧ Ctx w F D u F [h, CH.row j 0 [.slice y s B], m] ∧ l = o.length ∧ Row (Kd.int .i64) F h (.slice x l A) o ∧ s = J.length ∧ Row Thand.K F m (.slice y s B) J ∧ crew_Pick.l1 bi p o g J = some ac) k ⟨(List.replicate p.toNat (0 : Int)), 0, a7, bD, bO, bX, bY, aY, aZ, a4, a5, rfl, bN, bs, bl, br, bk, a⟩ ?_
   clear a
   rintro bi b u ⟨o, g, J, x, A, l, h, y, B, s, m, aU, ao, aP, Q, aQ, aJ, a⟩
   rcases bi with _ | aA
   · exact absurd a (by simp [crew_Pick.l1])
   rw [crew_Pick.l1] at a
   apply ks b aU
   refine W.sr rfl <| WL.rd to 1 rfl <| W.seq ?_
   rcases iteE a with ⟨R, a⟩ | ⟨R, a⟩
   ·refine W.cT R rfl <| W.skip <| W.seq <| W.block <| W.sr rfl <| WL.rd to 2 rfl <| W.region rfl ?_
    refine WL.run to 2 rfl <| WL.val (Yl.mkIface (v := .pointer (some ⟨j, 0, none⟩)) rfl Try.underlying114 rfl) ?_
    let bC : CH := CH.row j 0 [.slice y s B]
    have ap : Cx [bC, m, h] := ao.pick [1, 2, 0] rfl
    obtain ⟨⟨d, aG⟩, aM, a⟩ := bindE a
    refine WL.callH (heap_Pop.calls aA _ F j 0 y B s m J (Ctx.pre (qs := [bC, m]) (rest := [h]) ap) aQ aJ d aG aM) (ne.fr rfl rfl) ?_
    rintro bW u ⟨aj, ar, aB, I, rfl, a9, aR, aK⟩
    refine ⟨_, rfl, ?_⟩
    let aX : CH := CH.row j 0 [.slice aj aB ar]
    have ba : Cx [aX, I, h] := Ctx.call (qs := [bC, m]) (rest := [h]) ap a9
    refine WL.val (Yl.assertV (v := .agg (List.toArray [iv d.used, iv d.id])) rfl Try.underlying116 rfl) <| WL.val (Yl.field1 (cs := [iv d.used, iv d.id]) (v := iv d.id) (i := 1) rfl Try.underlying116 rfl Try.underlying3 rfl rfl) ?_
    obtain ⟨b0, a⟩ := guardE a
    obtain ⟨bf, aW, ad, b1⟩ := (Row.sl Q) (by omega)
    refine WL.val (Yl.elemAddr (i := g) rfl rfl ad Try.underlying29 sz3 (by omega)) ?_
    have aN : g.toNat < o.length := by first | omega | (simp only [List.length_set, List.length_replicate] at *; omega)
    obtain ⟨ab, b3, aV, bb, aL⟩ := ev_store (P := Try.prog) (t := 3) (Kd.int .i64) [aX, I] [] ba Q ad g.toNat 0 aN 0 (iv d.id) ([iv d.id]) rfl (ones_of rfl) (Nat.le_of_ble_eq_true rfl) sz3 (d.id) (fun _ h_ => rep_whole h_ rfl) ⟨bf, aW + g.toNat * 1, none⟩ rfl
    have aS : l = (o.set g.toNat d.id).length := by rw [List.length_set]; omega
    have bc : Cx [aX, I, ab] := bb
    refine WL.skip (aV _ _ _ _ rfl rfl) <| WL.done <| inB_n <| W.region rfl ?_
    refine WL.rd to 2 rfl ?_
    have bd : Cx [ab, aX, I] := bc.pick [2, 0, 1] rfl
    exact thenE_n ⟨aA, Nat.lt_succ_self _, o.set g.toNat d.id, wi64 (g + 1), aG, x, A, l, ab, aj, ar, aB, I, rfl, bd, aS, aL, aR, aK, a⟩
   refine W.cF R rfl <| W.exit <| thenE_x <| thenE_x <| inB_here ?_
   have be : Cx [h] := ao.pick [0] rfl
   cases a
   refine thenE_n ?_
   exact ⟨x, A, l, h, rfl, be, aP, Q⟩
  ·rintro b u ⟨M, O, G, S, aT, a8, aO, aI⟩
   apply kn b (.c aT .n)
   refine W.sr rfl <| WL.rd to 3 rfl <| W.ret ?_
   simp only [Option.some.injEq, Prod.mk.injEq] at H
   obtain ⟨bg, bh⟩ := H
   subst bg bh
   exact post_r (resE2 rfl rfl rfl) ⟨M, O, G, S, rfl, a8, aO, aI⟩
end Go.Proofs.Ytobdpbnadjkhiaa
