/- Functions of the program: each as a plain function of numbers and lists, and the proof that the program's own comes to it. Nothing is assumed but what each theorem says. -/
import Derived.Test.YtobdpbnadjkhiaaTGt
import Derived.Test.YtobdpbnadjkhiaaTGv
import Derived.Test.YtobdpbnadjkhiaaTGs
namespace Go.Proofs.Ytobdpbnadjkhiaa
open Go.RowKit Go.WG
set_option linter.unusedVariables false
set_option linter.unusedSimpArgs false
set_option maxRecDepth 100000
set_option maxHeartbeats 4000000
def tally_own.f (k : Nat) (a : List Int) : Option (List Int) := if (a.length + a.length / 4 + 192) * 1 ≤ 281474976710656 then (some a) else none
theorem tally_own.calls (k w F v i L) (h : List Int) (hp : Pre w F []) (I : L = h.length) (N : h.length ≤ i) (O : i ≤ maxLen) (G : Sl (Kd.int .u8) F F v h) (g : List Int) (H : tally_own.f k h = some g) :
    Calls Try.prog 70 #[.slice v L i] w fun e w' => ∃ j m d p, e = .returned (.slice j d m) ∧ Ctx w F (domL []) w' F [p] ∧ d = g.length ∧ Row (Kd.int .u8) F p (.slice j d m) g := by
 have C := Ctx.start hp
 generalize hD : domL [] = D at C ⊢
 unfold tally_own.f at H
 refine Calls.ofW Try.func70 rfl (by simp [Try.ntmps70]) <| W.sr rfl <| WL.rd to 1 rfl <| W.sr rfl ?_
 obtain ⟨U, V, Q, R, S, M, t, l, r⟩ := ev_lit0 (P := Try.prog) 5 (Kd.int .u8) C Try.underlying44 ti5
 refine WL.val (t _ _) <| WL.run to 1 rfl ?_
 obtain ⟨s, H⟩ := guardE H
 obtain ⟨x, B, J, o, T, b, u, y, a⟩ := ev_append' (P := Try.prog) (cb := i) 5 (Kd.int .u8) [] [] l r I G l.fro Try.underlying44 ti5 rfl zo5 (by decide) (by decide) (by simpa using s)
 have A : Cx [o] := y
 rw [List.nil_append] at b a
 refine WL.val (u _ _ _ _ rfl rfl) <| WL.rd to 1 rfl <| W.ret ?_
 have E := Option.some.inj H
 subst E
 exact post_r (resE1 rfl rfl) ⟨x, B, J, o, rfl, A, b, a⟩
def tally_Cast.l1 : Nat → List TCast → TCast → List TCast → Int → Option (Sum (List TCast) ((List TCast) × Int))
  | 0, _, _, _, _ => none
  | k + 1, d, g, b, a => if a < (d.length : Int) then (if 0 ≤ a ∧ a < (d.length : Int) then (if ((d.getD a.toNat TCast.z).Worker) = g.Worker then (some (Sum.inr (([] : List TCast), 190))) else ((tally_own.f k ((d.getD a.toNat TCast.z).Value)).bind fun e => if (b.length + 1 + (b.length + 1) / 4 + 192) * 32 ≤ 281474976710656 then (tally_Cast.l1 k d g (b ++ [(⟨(d.getD a.toNat TCast.z).Worker, e⟩ : TCast)]) (wi64 (a + 1))) else none)) else none) else (some (Sum.inl b))
def tally_Cast.f (k : Nat) (e : List TCast) (b : TCast) : Option ((List TCast) × Int) := if b.Worker < 0 then (some (([] : List TCast), 1)) else (if (b.Value.length : Int) > 32 then (some (([] : List TCast), 42)) else ((tally_Cast.l1 k e b ([] : List TCast) 0).bind fun g => sumE g (fun a => (tally_own.f k b.Value).bind fun d => if (a.length + 1 + (a.length + 1) / 4 + 192) * 32 ≤ 281474976710656 then (some (a ++ [(⟨b.Worker, d⟩ : TCast)], 0)) else none) (fun h => some h)))
theorem tally_Cast.calls (k w F bt aK b1) (r : List TCast) (ao af A) (l : TCast) (hp : Pre w F []) (cy : b1 = r.length) (cw : r.length ≤ aK) (cx : aK ≤ maxLen) (cd : Sl TCast.K F F bt r) (bZ : A = l.Value.length) (bX : l.Value.length ≤ af) (bY : af ≤ maxLen) (bW : Sl (Kd.int .u8) F F ao l.Value) (aJ : List TCast) (bs : Int) (H : tally_Cast.f k r l = some (aJ, bs)) :
    Calls Try.prog 56 #[.slice bt b1 aK, .agg (List.toArray [iv l.Worker, .slice ao A af])] w fun e w' => ∃ F' ar aA aj aI, e = .returned (.tuple #[(.slice ar aj aA), (iv bs)]) ∧ CH.le F F' ∧ Ctx w F (domL []) w' F' [aI] ∧ aj = aJ.length ∧ Row TCast.K F' aI (.slice ar aj aA) aJ := by
 have C := Ctx.start hp
 generalize hD : domL [] = D at C ⊢
 unfold tally_Cast.f at H
 refine Calls.ofW Try.func56 rfl (by simp [Try.ntmps56]) <| W.sr rfl ?_
 obtain ⟨aB, cz, b0, S⟩ := ev_box (P := Try.prog) 79 (.agg (List.toArray [iv l.Worker, .slice ao A af])) [iv l.Worker, .slice ao A af] C rfl
 refine WL.val (b0 _ _ _ rfl) <| WL.rd to 2 rfl <| W.seq <| W.block <| W.sr rfl <| WL.run to 1 rfl <| WL.lv S 0 0 rfl rfl Try.underlying3 rfl rfl <| WL.rd to 2 rfl ?_
 rcases iteE H with ⟨ag, H⟩ | ⟨ag, H⟩
 ·refine W.cT ag rfl <| W.sr rfl <| WL.rd to 2 rfl <| W.ret <| inB_r <| thenE_r ?_
  have b6 : Cx [CH.emp] := S.pick [1] rfl
  simp only [Option.some.injEq, Prod.mk.injEq] at H
  obtain ⟨b8, b9⟩ := H
  subst b8 b9
  exact post_r (resE2 rfl rfl rfl) ⟨F, none, 0, 0, CH.emp, rfl, (CH.le_refl _), b6, rfl, (Row.nil _ _)⟩
 refine W.cF ag rfl <| W.sr rfl <| WL.run to 1 rfl <| WL.lv S 0 1 rfl rfl Try.underlying44 rfl rfl <| WL.ln (l.Value.length : Int) rfl Try.underlying44 (by omega) <| WL.rd to 2 rfl ?_
 rcases iteE H with ⟨ah, H⟩ | ⟨ah, H⟩
 ·refine W.cT ah rfl <| W.sr rfl <| WL.rd to 2 rfl <| W.ret <| inB_r <| thenE_r ?_
  have b7 : Cx [CH.emp] := S.pick [1] rfl
  simp only [Option.some.injEq, Prod.mk.injEq] at H
  obtain ⟨ca, cc⟩ := H
  subst ca cc
  exact post_r (resE2 rfl rfl rfl) ⟨F, none, 0, 0, CH.emp, rfl, (CH.le_refl _), b7, rfl, (Row.nil _ _)⟩
 refine W.cF ah rfl <| W.skip <| inB_n <| W.sr rfl <| WL.rd to 1 rfl <| W.seq <| W.sr rfl <| WL.run to 1 rfl <| WL.ln (r.length : Int) rfl Try.underlying53 (by omega) ?_
 refine WL.rd to 1 rfl ?_
 obtain ⟨aF, a, H⟩ := bindE H
 let p : CH := CH.row aB 0 [iv l.Worker, .slice ao A af]
 refine W.cutM (fun m U => ∃ (R : List TCast), ∃ v V ad O y, Kn m [(3, .pointer (some ⟨aB, 0, none⟩)), (6, .slice V O ad)] ∧ Ctx w F D U v [y, p] ∧ CH.le F v ∧ O = R.length ∧ Row TCast.K v y (.slice V O ad) R ∧ aF = Sum.inl R) ?_ ?_
 ·refine W.block ?_
  have bx : Cx [CH.emp, p] := S.pick [1, 0] rfl
  refine W.loop (fun bV m U => ∃ (t : List TCast) (b : Int), ∃ h B G x o, Kn m [(3, .pointer (some ⟨aB, 0, none⟩)), (6, .slice B x G), (18, .slice bt b1 aK), (19, iv (r.length : Int)), (20, iv b)] ∧ Ctx w F D U h [o, p] ∧ CH.le F h ∧ x = t.length ∧ Row TCast.K h o (.slice B x G) t ∧ tally_Cast.l1 bV r l t b = some aF) k ⟨([] : List TCast), 0, F, none, 0, 0, CH.emp, rfl, bx, (CH.le_refl _), rfl, (Row.nil _ _), a⟩ ?_
  clear a
  rintro bV m U ⟨t, b, h, B, G, x, o, bi, Y, g, a9, an, a⟩
  rcases bV with _ | aC
  · exact absurd a (by simp [tally_Cast.l1])
  rw [tally_Cast.l1] at a
  apply ks m bi
  refine W.sr rfl <| WL.rd to 1 rfl <| W.seq ?_
  rcases iteE a with ⟨I, a⟩ | ⟨I, a⟩
  ·refine W.cT I rfl <| W.skip <| W.seq <| W.block <| W.sr rfl ?_
   obtain ⟨cg, a⟩ := guardE a
   obtain ⟨cl, ci, aL, a0⟩ := cd (by omega)
   refine WL.val (Yl.elemAddr (i := b) rfl rfl aL Try.underlying53 sz79 (by omega)) ?_
   obtain ⟨cf, bj, bk⟩ := a0 b.toNat _ (getD_some (d := TCast.z) (by omega))
   obtain ⟨ap, ay, aD, rfl, ba, a3, a6, aV⟩ := TCast.open bj
   let T : List Go.Value := [iv ((r.getD b.toNat TCast.z).Worker), .slice ap aD ay]
   refine WL.val (Yl.loadAgg (cs := T) rfl Try.underlying79 rfl sz79 (fun j u hu => by rw [add_of]; exact ((Y.fro.mono g)).cell (bk _ _ hu))) ?_
   obtain ⟨s, cp, bl, bz⟩ := ev_alloc (P := Try.prog) (e := 79) [iv 0, .slice none 0 0] Y zr79 rfl
   refine WL.val (bl _ _) <| WL.st bz 0 0 T rfl rfl rfl rfl (Put.lit 0 rfl) (ones_of rfl) sz79 fun U (E : Cx [CH.row s 0 T, o, p]) => ?_
   refine WL.done <| W.seq <| W.sr rfl <| WL.run to 1 rfl <| WL.lv E 0 0 rfl rfl Try.underlying3 rfl rfl <| WL.run to 1 rfl <| WL.lv E 2 0 rfl rfl Try.underlying3 rfl rfl <| WL.rd to 1 rfl ?_
   rcases iteE a with ⟨J, a⟩ | ⟨J, a⟩
   ·refine W.cT J rfl <| W.sr rfl <| WL.rd to 2 rfl <| W.ret ?_
    iterate 7 first | refine inB_r ?_ | refine thenE_r ?_
    cases a
    replace H := sumE_r H
    have bA : Cx [CH.emp] := E.pick [3] rfl
    simp only [Option.some.injEq, Prod.mk.injEq] at H
    obtain ⟨bQ, bR⟩ := H
    subst bQ bR
    exact post_r (resE2 rfl rfl rfl) ⟨h, none, 0, 0, CH.emp, rfl, g, bA, rfl, (Row.nil _ _)⟩
   refine W.cF J rfl <| W.skip <| W.regionA [([7, 8], CH.row s 0 T)] (by kernel_rfl) ?_
   have Z := Ctx.drewN E 1
   refine WA.takes [(0, none), (1, none), (2, some 0), (3, none), (4, some 0)] ⟨(Ctx.subI 0 Z rfl), trivial⟩ (by kernel_rfl) <| WT.run to 2 rfl <| WT.lv 0 rfl rfl rfl Try.underlying3 rfl rfl <| WT.run to 1 rfl <| WT.lv 1 rfl rfl rfl Try.underlying44 rfl rfl <| WT.done ?_
   obtain ⟨Q, a1, a⟩ := bindE a
   refine WA.up1 5 (by kernel_rfl) (Up.callH rfl (by kernel_rfl) rfl (tally_own.calls aC _ h ap ay aD ((r.getD b.toNat TCast.z).Value) Z.pre0 ba a3 a6 (Sl.mono aV g g) Q a1) (ne.fr rfl rfl) ?_)
   rintro cm U ⟨aq, az, aE, b4, rfl, bB, bb, aN⟩
   have aa : Cx [b4, CH.row s 0 T, o, p] := Ctx.call0 Z bB
   refine ⟨_, rfl, ⟨(Ctx.subI 1 aa rfl), trivial⟩, ?_⟩
   refine WA.takes [(6, none)] ⟨(Ctx.subI 1 aa rfl), trivial⟩ (by kernel_rfl) ?_
   let ce : List Go.Value := [iv ((r.getD b.toNat TCast.z).Worker), .slice aq aE az]
   refine WT.val rfl (fun _ hC_ => Yl.build (places := [(0, 1), (1, 1)]) (cs := List.toArray ce) Try.underlying79 zr79 (pl79 _ Try.underlying79) (partsB (.cons rfl (.cons rfl .nil))) rfl) ?_
   refine WT.done ?_
   obtain ⟨bK, M, bq, (bC : Cx [CH.row s 0 T, o, p])⟩ := Ctx.fzI 0 aa rfl
   obtain ⟨a4, a7, aW⟩ := Row.fz aN M bq
   have aO := Row.mono an M
   obtain ⟨cj, bM, cn, aG, cr, bc, bm, au, aP⟩ := ev_lit1' (P := Try.prog) 79 TCast.K bC Try.underlying53 ti79 ⟨by decide, by decide⟩ (⟨(r.getD b.toNat TCast.z).Worker, Q⟩ : TCast) (.agg (List.toArray ce)) (TCast.mk' _ (⟨(r.getD b.toNat TCast.z).Worker, Q⟩ : TCast) aq az aE bb a4 a7 aW)
   refine WA.up1 7 (by kernel_rfl) (Up.val rfl rfl rfl (bm _ _ _ rfl) ⟨trivial, trivial⟩ ?_)
   obtain ⟨aY, a⟩ := guardE a
   obtain ⟨bu, bN, b2, ak, ct, bd, bn, bD, aQ⟩ := ev_append' (P := Try.prog) (cb := bM) 79 TCast.K [aG, CH.row s 0 T] [p] au aO bc (Row.sl aP) (Ctx.subI 0 au rfl) Try.underlying53 ti79 rfl zo79 (by decide) (by decide) (by simpa using aY)
   have av : Cx [aG, CH.row s 0 T, ak, p] := bD
   refine WA.up1 8 (by kernel_rfl) (Up.val rfl rfl rfl (bn _ _ _ _ rfl rfl) ⟨trivial, trivial⟩ ?_)
   refine WA.takes [(9, none)] ⟨(Ctx.subI 1 av rfl), trivial⟩ (by kernel_rfl) <| WT.run to 1 rfl <| WT.done <| WA.done (by kernel_rfl) <| inB_n <| W.region rfl ?_
   refine WL.rd to 2 rfl ?_
   have bE : Cx [ak, p] := av.pick [2, 3] rfl
   exact thenE_n ⟨aC, Nat.lt_succ_self _, t ++ [(⟨(r.getD b.toNat TCast.z).Worker, Q⟩ : TCast)], wi64 (b + 1), bK, bu, bN, b2, ak, rfl, bE, (CH.le_trans g M), bd, aQ, a⟩
  refine W.cF I rfl <| W.exit <| thenE_x <| thenE_x <| inB_here ?_
  cases a
  refine thenE_n ?_
  exact ⟨t, h, B, G, x, o, rfl, Y, g, a9, an, rfl⟩
 ·rintro m U ⟨R, v, V, ad, O, y, bh, bw, L, ch, aM, rfl⟩
  replace H := sumE_l H
  apply ks m bh
  refine W.seq <| W.regionA [([7, 8], p)] (by kernel_rfl) ?_
  have ab := Ctx.drewN bw 1
  refine WA.takes [(0, none), (1, none), (2, some 0), (3, none), (4, some 0)] ⟨(Ctx.subI 1 ab rfl), trivial⟩ (by kernel_rfl) <| WT.run to 2 rfl <| WT.lv 0 rfl rfl rfl Try.underlying3 rfl rfl <| WT.run to 1 rfl <| WT.lv 1 rfl rfl rfl Try.underlying44 rfl rfl <| WT.done ?_
  obtain ⟨am, a2, H⟩ := bindE H
  refine WA.up1 5 (by kernel_rfl) (Up.callH rfl (by kernel_rfl) rfl (tally_own.calls k _ v ao af A l.Value ab.pre0 bZ bX bY (Sl.mono bW L L) am a2) (ne.fr rfl rfl) ?_)
  rintro cm U ⟨X, ae, ai, b5, rfl, bG, be, aR⟩
  have ac : Cx [b5, y, p] := Ctx.call0 ab bG
  refine ⟨_, rfl, ⟨(Ctx.subI 2 ac rfl), trivial⟩, ?_⟩
  refine WA.takes [(6, none)] ⟨(Ctx.subI 2 ac rfl), trivial⟩ (by kernel_rfl) <| WT.val rfl (fun _ hC_ => Yl.build (places := [(0, 1), (1, 1)]) (cs := List.toArray [iv l.Worker, .slice X ai ae]) Try.underlying79 zr79 (pl79 _ Try.underlying79) (partsB (.cons rfl (.cons rfl .nil))) rfl) ?_
  refine WT.done ?_
  obtain ⟨bL, N, br, (bH : Cx [y, p])⟩ := Ctx.fzI 0 ac rfl
  obtain ⟨a5, a8, aX⟩ := Row.fz aR N br
  have aS := Row.mono aM N
  obtain ⟨ck, bO, co, aH, cu, bf, bo, aw, aT⟩ := ev_lit1' (P := Try.prog) 79 TCast.K bH Try.underlying53 ti79 ⟨by decide, by decide⟩ (⟨l.Worker, am⟩ : TCast) (.agg (List.toArray [iv l.Worker, .slice X ai ae])) (TCast.mk' _ (⟨l.Worker, am⟩ : TCast) X ae ai be a5 a8 aX)
  refine WA.up1 7 (by kernel_rfl) (Up.val rfl rfl rfl (bo _ _ _ rfl) ⟨trivial, trivial⟩ ?_)
  obtain ⟨aZ, H⟩ := guardE H
  obtain ⟨bv, bP, b3, al, cv, bg, bp, bI, aU⟩ := ev_append' (P := Try.prog) (cb := bO) 79 TCast.K [aH] [p] aw aS bf (Row.sl aT) (Ctx.subI 0 aw rfl) Try.underlying53 ti79 rfl zo79 (by decide) (by decide) (by simpa using aZ)
  have ax : Cx [aH, al, p] := bI
  refine WA.up1 8 (by kernel_rfl) (Up.val rfl rfl rfl (bp _ _ _ _ rfl rfl) ⟨trivial, trivial⟩ ?_)
  refine WA.takes [(9, none), (10, none)] ⟨(Ctx.subI 2 ax rfl), trivial⟩ (by kernel_rfl) <| WT.run to 2 rfl <| WT.done <| WA.done (by kernel_rfl) <| W.ret ?_
  have bJ : Cx [al] := ax.pick [1] rfl
  simp only [Option.some.injEq, Prod.mk.injEq] at H
  obtain ⟨bS, bU⟩ := H
  subst bS bU
  exact post_r (resE2 rfl rfl rfl) ⟨bL, bv, bP, b3, al, rfl, (CH.le_trans L N), bJ, bg, aU⟩
def bytes_Equal.f (k : Nat) (a : List Int) (b : List Int) : Option Bool := some (decide ((strOfNums a) = (strOfNums b)))
theorem bytes_Equal.calls (k w F o h v) (a : List Int) (r i d) (b : List Int) (hp : Pre w F []) (u : v = a.length) (B : a.length ≤ h) (E : h ≤ maxLen) (t : Sl (Kd.int .u8) F F o a) (l : d = b.length) (y : b.length ≤ i) (A : i ≤ maxLen) (j : Sl (Kd.int .u8) F F r b) (g : Bool) (H : bytes_Equal.f k a b = some g) :
    Calls Try.prog 65 #[.slice o v h, .slice r d i] w fun e w' => e = .returned (.bool g) ∧ (∃ m, w' = w.drewN m) := by
 have C := Ctx.start hp
 generalize domL [] = D at C
 have x : ∃ m, w = w.drewN m := ⟨0, rfl⟩
 unfold bytes_Equal.f at H
 refine Calls.ofW Try.func65 rfl (by simp [Try.ntmps65]) <| W.sr rfl <| WL.rd to 1 rfl <| W.sr rfl <| WL.run to 1 rfl <| WL.val (Yl.convBS (xs := a) rfl u t (C.fro) Try.underlying44 Try.underlying5 Try.underlying9) <| WL.run to 1 rfl <| WL.val (Yl.convBS (xs := b) rfl l j (C.fro) Try.underlying44 Try.underlying5 Try.underlying9) <| WL.val (Yl.seqD (p := strOfNums a) (q := strOfNums b) rfl rfl) ?_
 refine WL.rd to 1 rfl <| W.ret ?_
 have s := Option.some.inj H
 subst s
 exact post_r (resE1 rfl rfl) ⟨rfl, x⟩
def tally_Decide.l1 : Nat → List TCast → Int → List (ByteArray × List (Int × Int)) → Int → Option (Sum Unit ((List Int) × Bool))
  | 0, _, _, _, _ => none
  | k + 1, b, g, d, a => if a < (b.length : Int) then (if 0 ≤ a ∧ a < (b.length : Int) then (if (((mget d (strOfNums ((b.getD a.toNat TCast.z).Value))).getD []).length : Int) > g then ((tally_own.f k ((b.getD a.toNat TCast.z).Value)).bind fun e => some (Sum.inr (e, true))) else (tally_Decide.l1 k b g d (wi64 (a + 1)))) else none) else (some (Sum.inl ()))
def tally_Decide.f (k : Nat) (a : List TCast) (b : Int) : Option ((List Int) × Bool) := if b < 0 then (some (([] : List Int), false)) else ((tally_voters.f k a).bind fun d => (tally_Decide.l1 k a b d 0).bind fun e => sumE e (fun _ => some (([] : List Int), false)) (fun g => some g))
theorem tally_Decide.calls (k w F S I ai) (h : List TCast) (T : Int) (hp : Pre w F []) (aO : ai = h.length) (aM : h.length ≤ I) (aN : I ≤ maxLen) (ak : Sl TCast.K F F S h) (R : List Int) (am : Bool) (H : tally_Decide.f k h T = some (R, am)) :
    Calls Try.prog 57 #[.slice S ai I, iv T] w fun e w' => ∃ B G t Q, e = .returned (.tuple #[(.slice B t G), (.bool am)]) ∧ Ctx w F (domL []) w' F [Q] ∧ t = R.length ∧ Row (Kd.int .u8) F Q (.slice B t G) R := by
 have C := Ctx.start hp
 generalize hD : domL [] = D at C ⊢
 unfold tally_Decide.f at H
 refine Calls.ofW Try.func57 rfl (by simp [Try.ntmps57]) <| W.sr rfl <| WL.rd to 2 rfl <| W.seq <| W.sr rfl <| WL.rd to 2 rfl ?_
 rcases iteE H with ⟨L, H⟩ | ⟨L, H⟩
 ·refine W.cT L rfl <| W.sr rfl <| WL.rd to 2 rfl <| W.ret <| thenE_r ?_
  have aS : Cx [CH.emp] := C.pick [0] rfl
  simp only [Option.some.injEq, Prod.mk.injEq] at H
  obtain ⟨aJ, aK⟩ := H
  subst aJ aK
  exact post_r (resE2 rfl rfl rfl) ⟨none, 0, 0, CH.emp, rfl, aS, rfl, (Row.nil _ _)⟩
 refine W.cF L rfl <| W.skip <| W.sr rfl <| WL.run to 1 rfl ?_
 obtain ⟨al, aE, H⟩ := bindE H
 refine WL.callH (tally_voters.calls k _ F S I ai h C.pre0 aO aM aN ak al aE) (ne.fr rfl rfl) ?_
 rintro aU r ⟨aL, m, rfl, aH, aD⟩
 refine ⟨_, rfl, ?_⟩
 have aI : Cx [m] := Ctx.call0 C aH
 refine WL.rd to 1 rfl <| W.seq <| W.sr rfl <| WL.run to 1 rfl <| WL.ln (h.length : Int) rfl Try.underlying53 (by omega) <| WL.rd to 1 rfl ?_
 obtain ⟨O, a, H⟩ := bindE H
 refine W.cutM (fun l r => Ctx w F D r F [m] ∧ O = Sum.inl ()) ?_ ?_
 ·refine W.block <| W.loop (fun aC l r => ∃ (b : Int), Kn l [(1, iv T), (6, .map (some aL)), (13, .slice S ai I), (14, iv (h.length : Int)), (15, iv b)] ∧ Ctx w F D r F [m] ∧ tally_Decide.l1 aC h T al b = some O) k ⟨0, rfl, aI, a⟩ ?_
  clear a
  rintro aC l r ⟨b, ad, s, a⟩
  rcases aC with _ | M
  · exact absurd a (by simp [tally_Decide.l1])
  rw [tally_Decide.l1] at a
  apply ks l ad
  refine W.sr rfl <| WL.rd to 1 rfl <| W.seq ?_
  rcases iteE a with ⟨o, a⟩ | ⟨o, a⟩
  ·refine W.cT o rfl <| W.skip <| W.seq <| W.block <| W.sr rfl ?_
   obtain ⟨aQ, a⟩ := guardE a
   obtain ⟨aT, aR, U, Y⟩ := ak (by omega)
   refine WL.val (Yl.elemAddr (i := b) rfl rfl U Try.underlying53 sz79 (by omega)) ?_
   obtain ⟨aP, ae, af⟩ := Y b.toNat _ (getD_some (d := TCast.z) (by omega))
   obtain ⟨A, E, N, rfl, y, aa, ab, x⟩ := TCast.open ae
   let aj : List Go.Value := [iv ((h.getD b.toNat TCast.z).Worker), .slice A N E]
   refine WL.val (Yl.loadAgg (cs := aj) rfl Try.underlying79 rfl sz79 (fun j u hu => by rw [add_of]; exact ((s.fro)).cell (af _ _ hu))) ?_
   obtain ⟨J, aW, ag, ap⟩ := ev_alloc (P := Try.prog) (e := 79) [iv 0, .slice none 0 0] s zr79 rfl
   refine WL.val (ag _ _) <| WL.st ap 0 0 aj rfl rfl rfl rfl (Put.lit 0 rfl) (ones_of rfl) sz79 fun r (g : Cx [CH.row J 0 aj, m]) => ?_
   refine WL.done <| W.sr rfl <| WL.run to 2 rfl <| WL.lv g 0 1 rfl rfl Try.underlying44 rfl rfl <| WL.val (Yl.convBS (xs := (h.getD b.toNat TCast.z).Value) rfl y x (g.fro) Try.underlying44 Try.underlying5 Try.underlying9) ?_
   obtain ⟨aV, X, ah⟩ := NMap.get aD Try.underlying118 Try.underlying9 rfl (keyStr) zr106 (strOfNums ((h.getD b.toNat TCast.z).Value))
   refine WL.val (ah _ (Ctx.subI 1 g rfl) _ _ _ _ rfl rfl) <| WL.val (Yl.lenMV X (Ctx.subI 1 g rfl) rfl Try.underlying106) <| WL.rd to 2 rfl ?_
   rcases iteE a with ⟨p, a⟩ | ⟨p, a⟩
   ·refine W.cT p rfl <| W.sr rfl <| WL.run to 1 rfl <| WL.lv g 0 1 rfl rfl Try.underlying44 rfl rfl ?_
    obtain ⟨aG, Z, a⟩ := bindE a
    refine WL.callH (tally_own.calls M _ F A E N ((h.getD b.toNat TCast.z).Value) g.pre0 y aa ab x aG Z) (ne.fr rfl rfl) ?_
    rintro aU r ⟨an, ax, aF, v, rfl, aq, ac, V⟩
    refine ⟨_, rfl, ?_⟩
    have ar : Cx [v, CH.row J 0 aj, m] := Ctx.call0 g aq
    refine WL.rd to 2 rfl <| W.ret ?_
    iterate 6 first | refine inB_r ?_ | refine thenE_r ?_
    cases a
    replace H := sumE_r H
    have au : Cx [v] := ar.pick [0] rfl
    simp only [Option.some.injEq, Prod.mk.injEq] at H
    obtain ⟨ay, az⟩ := H
    subst ay az
    exact post_r (resE2 rfl rfl rfl) ⟨an, ax, aF, v, rfl, au, ac, V⟩
   refine W.cF p rfl <| W.skip <| inB_n <| W.region rfl ?_
   refine WL.rd to 2 rfl ?_
   have av : Cx [m] := g.pick [1] rfl
   exact thenE_n ⟨M, Nat.lt_succ_self _, wi64 (b + 1), rfl, av, a⟩
  refine W.cF o rfl <| W.exit <| thenE_x <| thenE_x <| inB_here ?_
  cases a
  refine thenE_n ?_
  exact ⟨s, rfl⟩
 ·rintro l r ⟨ao, rfl⟩
  replace H := sumE_l H
  refine W.sr rfl <| WL.rd to 2 rfl <| W.ret ?_
  have aw : Cx [CH.emp] := ao.pick [1] rfl
  simp only [Option.some.injEq, Prod.mk.injEq] at H
  obtain ⟨aA, aB⟩ := H
  subst aA aB
  exact post_r (resE2 rfl rfl rfl) ⟨none, 0, 0, CH.emp, rfl, aw, rfl, (Row.nil _ _)⟩
def tally_Liars.l1 : Nat → List TCast → List Int → List (Int × Int) → Int → Option (List (Int × Int))
  | 0, _, _, _, _ => none
  | k + 1, d, e, b, a => if a < (d.length : Int) then (if 0 ≤ a ∧ a < (d.length : Int) then ((bytes_Equal.f k ((d.getD a.toNat TCast.z).Value) e).bind fun g => if g = true then (tally_Liars.l1 k d e b (wi64 (a + 1))) else (tally_Liars.l1 k d e (mset b ((d.getD a.toNat TCast.z).Worker) a) (wi64 (a + 1)))) else none) else (some b)
def tally_Liars.f (k : Nat) (b : List TCast) (d : List Int) : Option (List Int) := (tally_Liars.l1 k b d ([] : List (Int × Int)) 0).bind fun a => if a.length * 8 ≤ 140737488355328 then (some (sortI (a.map (·.1)))) else none
theorem tally_Liars.calls (k w F a4 ay bt) (y : List TCast) (ax ao ad) (af : List Int) (hp : Pre w F []) (bS : bt = y.length) (bQ : y.length ≤ ay) (bR : ay ≤ maxLen) (bC : Sl TCast.K F F a4 y) (bn : ad = af.length) (bl : af.length ≤ ao) (bm : ao ≤ maxLen) (bk : Sl (Kd.int .u8) F F ax af) (av : List Int) (H : tally_Liars.f k y af = some av) :
    Calls Try.prog 58 #[.slice a4 bt ay, .slice ax ad ao] w fun e w' => ∃ ai an U aq, e = .returned (.slice ai U an) ∧ Ctx w F (domL []) w' F [aq] ∧ U = av.length ∧ Row (Kd.int .i64) F aq (.slice ai U an) av := by
 have C := Ctx.start hp
 generalize hD : domL [] = D at C ⊢
 unfold tally_Liars.f at H
 refine Calls.ofW Try.func58 rfl (by simp [Try.ntmps58]) <| W.sr rfl <| WL.rd to 1 rfl <| W.sr rfl ?_
 obtain ⟨bB, bD, bV, bq, bv, bh⟩ := ev_makeMap (P := Try.prog) (α := Int) (β := Int) (t := 106) (Value.int .i64) (Value.int .i64) C
 refine WL.val (bq _ _) <| WL.rd to 1 rfl <| W.seq <| W.sr rfl <| WL.run to 1 rfl <| WL.ln (y.length : Int) rfl Try.underlying53 (by omega) <| WL.rd to 1 rfl ?_
 obtain ⟨s, a, H⟩ := bindE H
 refine W.cutM (fun g o => ∃ B b, g 5 = .map (some B) ∧ Ctx w F D o F [b] ∧ MRow (Value.int .i64) (Value.int .i64) b B s) ?_ ?_
 ·refine W.block <| W.loop (fun ag g o => ∃ (G : List (Int × Int)) (h : Int), ∃ r m, Kn g [(1, .slice ax ad ao), (5, .map (some r)), (11, .slice a4 bt ay), (12, iv (y.length : Int)), (13, iv h)] ∧ Ctx w F D o F [m] ∧ MRow (Value.int .i64) (Value.int .i64) m r G ∧ tally_Liars.l1 ag y af G h = some s) k ⟨([] : List (Int × Int)), 0, bB, bD, rfl, bv, bh, a⟩ ?_
  clear a
  rintro ag g o ⟨G, h, r, m, aR, O, J, a⟩
  rcases ag with _ | T
  · exact absurd a (by simp [tally_Liars.l1])
  rw [tally_Liars.l1] at a
  apply ks g aR
  refine W.sr rfl <| WL.rd to 1 rfl <| W.seq ?_
  rcases iteE a with ⟨L, a⟩ | ⟨L, a⟩
  ·refine W.cT L rfl <| W.skip <| W.seq <| W.block <| W.sr rfl <| WL.run to 1 rfl ?_
   obtain ⟨bH, a⟩ := guardE a
   obtain ⟨bJ, bI, aB, aI⟩ := bC (by omega)
   refine WL.val (Yl.elemAddr (i := h) rfl rfl aB Try.underlying53 sz79 (by omega)) ?_
   obtain ⟨bG, aS, aU⟩ := aI h.toNat _ (getD_some (d := TCast.z) (by omega))
   obtain ⟨ah, am, ap, rfl, aN, aK, aM, aH⟩ := TCast.open aS
   let au : List Go.Value := [iv ((y.getD h.toNat TCast.z).Worker), .slice ah ap am]
   refine WL.val (Yl.loadAgg (cs := au) rfl Try.underlying79 rfl sz79 (fun j u hu => by rw [add_of]; exact ((O.fro)).cell (aU _ _ hu))) ?_
   obtain ⟨S, bM, aV, a6⟩ := ev_alloc (P := Try.prog) (e := 79) [iv 0, .slice none 0 0] O zr79 rfl
   refine WL.val (aV _ _) <| WL.run to 1 rfl <| WL.st a6 0 0 au rfl rfl rfl rfl (Put.lit 0 rfl) (ones_of rfl) sz79 fun o (Q : Cx [CH.row S 0 au, m]) => ?_
   refine WL.done <| W.sr rfl <| WL.run to 1 rfl <| WL.lv Q 0 1 rfl rfl Try.underlying44 rfl rfl <| WL.run to 1 rfl ?_
   obtain ⟨bu, aJ, a⟩ := bindE a
   refine WL.cq Q (bytes_Equal.calls T _ F ah am ap ((y.getD h.toNat TCast.z).Value) ax ao ad af Q.pre0 aN aK aM aH bn bl bm bk bu aJ) (ne.fr rfl rfl) fun o R => ?_
   refine WL.rd to 1 rfl ?_
   rcases iteE a with ⟨M, a⟩ | ⟨M, a⟩
   ·refine W.condF (congrArg Value.bool (nb_t M)) <| W.skip <| inB_n <| W.region rfl ?_
    refine WL.rd to 2 rfl ?_
    have a7 : Cx [m] := R.pick [1] rfl
    exact thenE_n ⟨T, Nat.lt_succ_self _, G, wi64 (h + 1), r, m, rfl, a7, J, a⟩
   refine W.condT (congrArg Value.bool (nb_f M)) <| W.region rfl ?_
   refine WL.run to 2 rfl <| WL.lv R 0 0 rfl rfl Try.underlying3 rfl rfl <| WL.run to 1 rfl ?_
   obtain ⟨V, bN, aW, a8, aE⟩ := ev_mapUpdate (P := Try.prog) (ps1 := [CH.row S 0 au]) (ps2 := []) ((y.getD h.toNat TCast.z).Worker) h R J Try.underlying106 Try.underlying3 rfl (keyInt .i64)
   have a9 : Cx [CH.row S 0 au, V] := a8
   refine WL.skip (aW _ _ _ _ _ rfl rfl rfl) <| WL.done <| inB_n <| W.region rfl ?_
   refine WL.rd to 2 rfl ?_
   have ba : Cx [V] := a9.pick [1] rfl
   exact thenE_n ⟨T, Nat.lt_succ_self _, mset G ((y.getD h.toNat TCast.z).Worker) h, wi64 (h + 1), r, V, rfl, ba, aE, a⟩
  refine W.cF L rfl <| W.exit <| thenE_x <| thenE_x <| inB_here ?_
  cases a
  refine thenE_n ?_
  exact ⟨r, m, rfl, O, J⟩
 ·rintro g o ⟨B, b, aQ, a5, aD⟩
  apply kn g (.c aQ .n)
  refine W.sr rfl <| WL.rd to 1 rfl ?_
  obtain ⟨aa, H⟩ := guardE H
  obtain ⟨aA, az, ab, aC⟩ := aD
  have aj : Ctx _ _ _ _ F [CH.emp, b] := Ctx.emp a5
  refine W.seq <| W.cutM (fun g o => ∃ (A_ : Option Addr) (c_ I : Nat) (N : CH) (xs_ : List Int), g 8 = .slice A_ I c_ ∧ Ctx w F D o F [N, b] ∧ I = xs_.length ∧ Row (Kd.int .i64) F N (.slice A_ I c_) xs_ ∧ xs_.Perm (s.map (·.1))) ?_ ?_
  ·refine W.sr rfl <| WL.val (Yl.move (v := .map (some B)) rfl) ?_
   obtain ⟨aw, bO, aX, bb, aT, bf⟩ := ev_range (P := Try.prog) (ek := (Value.int .i64)) (ev' := (Value.int .i64)) (l := s) aj (Sub.mono (Ctx.sub_mem (p := b) aj (by simp)) (by rw [ab]; exact CH.le_refl _)) Try.underlying106
   refine WL.val (aX _ _ _ rfl) <| WL.done <| W.block <| W.loop (fun ag g o => ∃ (A_ : Option Addr) (c_ I : Nat) (N : CH) (xs_ : List Int), g 29 = .pointer (some ⟨aw, 0, none⟩) ∧ g 8 = .slice A_ I c_ ∧ Ctx w F D o F [N, b] ∧ I = xs_.length ∧ Row (Kd.int .i64) F N (.slice A_ I c_) xs_ ∧ Iter (Value.int .i64) (Value.int .i64) o aw B aA az xs_ ag) _ ⟨none, 0, 0, CH.emp, [], rfl, rfl, bb, rfl, Row.nil _ _, bf⟩ ?_
   rintro ag g o ⟨A_, c_, I, N, xs_, hi_, a2, C_, hn_, hR_, I_⟩
   refine W.sr rfl ?_
   rcases Iter.next (P := Try.prog) (fun v => match v with | .int _ n => n | _ => 0) (fun _ => rfl) I_ C_ (Sub.mono (Ctx.sub_mem (p := b) C_ (by simp)) (by rw [ab]; exact CH.le_refl _)) aT aC with ⟨hperm_, hy_⟩ | ⟨k_, v_, bW, left_, hl_, hlen_, hy_, al, bw, he_⟩
   ·refine WL.val (hy_ _ _ _ hi_) <| WL.val (Yl.extract (v := .bool false) rfl rfl) <| WL.done <| thenE_n <| W.seq <| W.condF rfl <| W.exit <| thenE_x <| thenE_x ?_
    exact inB_here <| thenE_n ⟨A_, c_, I, N, xs_, a2, C_, hn_, hR_, hperm_⟩
   ·refine WL.val (hy_ _ _ _ hi_) <| WL.val (Yl.extract (v := .bool true) rfl rfl) <| WL.done <| thenE_n <| W.seq <| W.condT rfl <| W.skip <| thenE_n <| W.block ?_
    refine W.sr rfl <| WL.val (he_ _ _ _ hi_) <| WL.val (Yl.extract (v := iv k_) rfl rfl) <| WL.val (Yl.assign (v := iv k_) rfl) <| WL.done <| thenE_n <| W.region rfl ?_
    refine WL.val (Yl.move (v := .slice A_ I c_) a2) <| WL.val (Yl.move (v := iv k_) rfl) ?_
    have bx := Ctx.start al.pre1
    obtain ⟨bP, bA, bU, bE, bX, bo, br, aZ, bi⟩ := ev_lit1' (P := Try.prog) 3 (Kd.int .i64) bx Try.underlying29 ti3 ⟨by decide, by decide⟩ k_ (iv k_) rfl
    refine WL.val (br _ _ _ rfl) ?_
    obtain ⟨aY, a1, a3, ar, bY, bp, bs, bz, bj⟩ := ev_append' (P := Try.prog) (cb := bA) 3 (Kd.int .i64) [bE] [b] aZ hR_ bo (Row.sl bi) (Ctx.sub_of [] [N, b] aZ) Try.underlying29 ti3 rfl zo3 (by decide) (by decide) (by have bK : xs_.length + 1 ≤ s.length := hlen_; have bL := aa; simp only [List.length_cons, List.length_nil]; omega)
    have a0 : Ctx _ _ _ _ F [ar, b] := Ctx.drop [] [ar, b] bz
    exact WL.val (bs _ _ _ _ rfl rfl) <| WL.val (Yl.assign (v := .slice aY a3 a1) rfl) <| WL.done <| inB_n <| thenE_n ⟨left_, hl_, aY, a1, a3, ar, xs_ ++ [k_], hi_, rfl, al.call1 a0, bp, bj, Iter.keep bw al a0⟩
  ·rintro g o ⟨x, A, E, X, ae, Z, ak, aO, aF, ac⟩
   have aL : slices_Sort.f 0 ae = some (sortI (s.map (·.1))) := by unfold slices_Sort.f; rw [if_pos (by rw [ac.length_eq, List.length_map]; exact aa), sortI_perm ac]
   refine W.sr rfl <| WL.val (Yl.move (v := .slice x E A) Z) <| WL.call (args := #[.slice x E A]) (Yenter.fn Try.func72 (by kernel_rfl) rfl (argsE (.cons rfl .nil))) (slices_Sort.calls 0 _ F x A E X ae (Ctx.pre (qs := [X]) (rest := [b]) ak) aO aF _ aL) ?_
   rintro bZ o ⟨Y, rfl, bc, aP, aG⟩
   refine ⟨_, rfl, ?_⟩
   refine WL.done ?_
   have bd : Cx [Y, b] := Ctx.call (qs := [X]) (rest := [b]) ak bc
   refine thenE_n <| W.sr rfl <| WL.val (Yl.move (v := .slice x E A) Z) <| WL.rd to 1 rfl <| W.ret ?_
   have be : Cx [Y] := bd.pick [0] rfl
   have bg := Option.some.inj H
   subst bg
   exact post_r (resE1 rfl rfl) ⟨x, A, E, Y, rfl, be, aP, aG⟩
end Go.Proofs.Ytobdpbnadjkhiaa
