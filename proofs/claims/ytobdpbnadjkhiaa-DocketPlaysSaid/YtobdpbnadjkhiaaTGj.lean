/- Functions of the program: each as a plain function of numbers and lists, and the proof that the program's own comes to it. Nothing is assumed but what each theorem says. -/
import Derived.Test.YtobdpbnadjkhiaaTGi
namespace Go.Proofs.Ytobdpbnadjkhiaa
open Go.RowKit Go.WG
set_option linter.unusedVariables false
set_option linter.unusedSimpArgs false
set_option maxRecDepth 100000
set_option maxHeartbeats 4000000
def juratref21_job.f (k : Nat) (d : TState) (a : TRecord) : Option (Int × Int) := (if a.Job < 1 then (some (true)) else (some (decide (a.Job > (d.Jobs.length : Int))))).bind fun b => if b = true then (some (0, 211)) else (some (wi64 (a.Job - 1), 0))
theorem juratref21_job.calls (k w F L B S M E v r m x s o y) (a : TState) (t p A) (h : TRecord) (hp : Pre w F []) (aB : S = a.Eras.length) (az : a.Eras.length ≤ B) (aA : B ≤ maxLen) (ay : Sl TEra.K F F L a.Eras) (au : v = a.Jobs.length) (ak : a.Jobs.length ≤ E) (ao : E ≤ maxLen) (ag : Sl TJob.K F F M a.Jobs) (av : x = a.Used.length) (al : a.Used.length ≤ m) (ap : m ≤ maxLen) (ah : Sl (Kd.int .i64) F F r a.Used) (aw : y = a.Barred.length) (am : a.Barred.length ≤ o) (aq : o ≤ maxLen) (ai : Sl Kd.bool F F s a.Barred) (i : h.Nonce.length = 32) (ax : A = h.Data.length) (an : h.Data.length ≤ p) (ar : p ≤ maxLen) (aj : Sl (Kd.int .u8) F F t h.Data) (I : Int) (J : Int) (H : juratref21_job.f k a h = some (I, J)) :
    Calls Try.prog 61 #[.agg (List.toArray (TState.q a L S B M v E r x m s y o)), .agg (List.toArray ((TRecord.q h t A p)))] w fun e w' => e = .returned (.tuple #[(iv I), (iv J)]) ∧ Ctx w F (domL []) w' F [] := by
 have C := Ctx.start hp
 generalize hD : domL [] = D at C ⊢
 unfold juratref21_job.f at H
 refine Calls.ofW Try.func61 rfl (by simp [Try.ntmps61]) <| W.sr rfl ?_
 let T : List Go.Value := TState.q a L S B M v E r x m s y o
 obtain ⟨ad, aC, Q, V⟩ := ev_box (P := Try.prog) 32 (.agg (List.toArray T)) T C rfl
 refine WL.val (Q _ _ _ rfl) ?_
 let U : List Go.Value := TRecord.q h t A p
 obtain ⟨G, aD, R, g⟩ := ev_box (P := Try.prog) 46 (.agg (List.toArray U)) U V rfl
 refine WL.val (R _ _ _ rfl) <| WL.rd to 2 rfl <| W.seq <| W.sr rfl <| WL.run to 1 rfl <| WL.lv g 0 35 rfl rfl Try.underlying3 rfl (at_skip 2 33 rfl (at_skip 32 1 (len_map i) rfl)) <| WL.run to 2 rfl ?_
 obtain ⟨ae, b, H⟩ := bindE H
 refine WL.cut (fun d af => d 16 = .bool ae ∧ d 3 = .pointer (some ⟨G, 0, none⟩) ∧ Ctx w F D af F [CH.row G 0 U, CH.row ad 0 T]) ?_ ?_
 ·rcases iteE b with ⟨j, b⟩ | ⟨j, b⟩
  ·refine WL.kn 9 (congrArg Value.bool (decide_eq_true j)) <| WL.offs 6 9 false rfl rfl <| WL.run to 1 rfl ?_
   cases b
   exact WL.done ⟨rfl, rfl, g⟩
  refine WL.kn 9 (congrArg Value.bool (decide_eq_false j)) <| WL.run to 1 rfl <| WL.lvG g 0 35 rfl rfl rfl rfl Try.underlying3 rfl (at_skip 2 33 rfl (at_skip 32 1 (len_map i) rfl)) <| WL.run to 1 rfl <| WL.lvG g 1 1 rfl rfl rfl rfl Try.underlying28 rfl rfl <| WL.lnG (a.Jobs.length : Int) rfl rfl rfl Try.underlying28 (by omega) <| WL.run to 2 rfl ?_
  cases b
  exact WL.done ⟨rfl, rfl, g⟩
 ·rintro d af ⟨N, O, u⟩
  apply kn d (.c N (.c O .n))
  rcases iteE H with ⟨l, H⟩ | ⟨l, H⟩
  ·refine W.condT (congrArg Value.bool l) <| W.sr rfl <| WL.rd to 2 rfl <| W.ret <| thenE_r ?_
   have X : Cx [] := u.pick [] rfl
   simp only [Option.some.injEq, Prod.mk.injEq] at H
   obtain ⟨Z, aa⟩ := H
   subst Z aa
   exact post_r (resE2 rfl rfl rfl) ⟨rfl, X⟩
  refine W.condF (congrArg Value.bool (Bool.eq_false_iff.2 l)) <| W.skip <| W.sr rfl <| WL.run to 1 rfl <| WL.lv u 0 35 rfl rfl Try.underlying3 rfl (at_skip 2 33 rfl (at_skip 32 1 (len_map i) rfl)) <| WL.rd to 3 rfl <| W.ret ?_
  have Y : Cx [] := u.pick [] rfl
  simp only [Option.some.injEq, Prod.mk.injEq] at H
  obtain ⟨ab, ac⟩ := H
  subst ab ac
  exact post_r (resE2 rfl rfl rfl) ⟨rfl, Y⟩
def juratref21_assign.l1 : Nat → List Int → Int → TState → TJob → Option (TState × TJob)
  | 0, _, _, _, _ => none
  | k + 1, e, b, d, a => if b < (e.length : Int) then (if 0 ≤ b ∧ b < (e.length : Int) then (if 0 ≤ (e.getD b.toNat 0) ∧ (e.getD b.toNat 0) < (d.Used.length : Int) then (if (a.Indexes.length + 1 + (a.Indexes.length + 1) / 4 + 192) * 8 ≤ 281474976710656 then (juratref21_assign.l1 k e (wi64 (b + 1)) (⟨d.Eras, d.Jobs, d.Used.set (e.getD b.toNat 0).toNat (wi64 ((d.Used.getD (e.getD b.toNat 0).toNat 0) + 1)), d.Barred, d.Heads⟩ : TState) (⟨a.Payload, a.State, a.Attempt, a.Epoch, a.Until, a.Workers, a.Indexes ++ [d.Used.getD (e.getD b.toNat 0).toNat 0], a.Votes, a.Value⟩ : TJob)) else none) else none) else none) else (some (d, a))
def juratref21_assign.f (k : Nat) (l : TConfig) (a : TState) (m : TRecord) : Option (TState × Int) := if (a.Eras.length : Int) = 0 then (some (a, 210)) else ((juratref21_job.f k a m).bind fun ⟨d, j⟩ => if j = 0 then (if 0 ≤ d ∧ d < (a.Jobs.length : Int) then (if ((a.Jobs.getD d.toNat TJob.z).State) = 1 then (if m.Time = 0 then (some (a, 213)) else (if 0 ≤ l.Height then ((juratref18_Pick.f k a.Used a.Barred (shlOp .i64 1 l.Height) (wi64 ((wi64 (2 * l.Faulty)) + 1))).bind fun ⟨g, h⟩ => if h = 0 then ((juratref21_Epoch.f k a).bind fun e => (juratref21_assign.l1 k g 0 a (⟨(a.Jobs.getD d.toNat TJob.z).Payload, 2, wi64 (((a.Jobs.getD d.toNat TJob.z).Attempt) + 1), e, m.Time, g, ([] : List Int), ([] : List TCast), ([] : List Int)⟩ : TJob)).bind fun ⟨b, o⟩ => if 0 ≤ d ∧ d < (b.Jobs.length : Int) then ((some (b.Jobs.set d.toNat o)).bind fun i => some ((⟨b.Eras, i, b.Used, b.Barred, b.Heads⟩ : TState), 0)) else none) else (some (a, h))) else none)) else (some (a, 212))) else none) else (some (a, j)))
theorem juratref21_assign.calls (k w F) (cD : TConfig) (bx bO bq R bz bX br l ax az ap x ay aA aq y) (aj : TState) (cQ cu dx) (bN : TRecord) (hp : Pre w F [R, l, x, y]) (bo : bq = aj.Eras.length) (aB : Row TEra.K F R (.slice bx bq bO) aj.Eras) (aE : br = aj.Jobs.length) (Z : Row TJob.K F l (.slice bz br bX) aj.Jobs) (au : ap = aj.Used.length) (U : Row (Kd.int .i64) F x (.slice ax ap az) aj.Used) (av : aq = aj.Barred.length) (V : Row Kd.bool F y (.slice ay aq aA) aj.Barred) (cf : bN.Nonce.length = 32) (gG : dx = bN.Data.length) (gC : bN.Data.length ≤ cu) (gE : cu ≤ maxLen) (gy : Sl (Kd.int .u8) F F cQ bN.Data) (aL : TState) (gf : Int) (H : juratref21_assign.f k cD aj bN = some (aL, gf)) :
    Calls Try.prog 45 #[.agg (List.toArray (TConfig.q cD)), .agg (List.toArray (TState.q aj bx bq bO bz br bX ax ap az ay aq aA)), .agg (List.toArray ((TRecord.q bN cQ dx cu)))] w fun e w' => ∃ F' cM cY ck dz cN cZ cl dA cO c1 cm dB cP c2 cn dC, e = .returned (.tuple #[(.agg (List.toArray (TState.q aL cM ck cY cN cl cZ cO cm c1 cP cn c2))), (iv gf)]) ∧ CH.le F F' ∧ Ctx w F (domL [R, l, x, y]) w' F' [dz, dA, dB, dC] ∧ ck = aL.Eras.length ∧ Row TEra.K F' dz (.slice cM ck cY) aL.Eras ∧ cl = aL.Jobs.length ∧ Row TJob.K F' dA (.slice cN cl cZ) aL.Jobs ∧ cm = aL.Used.length ∧ Row (Kd.int .i64) F' dB (.slice cO cm c1) aL.Used ∧ cn = aL.Barred.length ∧ Row Kd.bool F' dC (.slice cP cn c2) aL.Barred := by
 have C := Ctx.start hp
 generalize hD : domL [R, l, x, y] = D at C ⊢
 unfold juratref21_assign.f at H
 refine Calls.ofW Try.func45 rfl (by simp [Try.ntmps45]) <| W.sr rfl ?_
 let M : List Go.Value := TConfig.q cD
 obtain ⟨h, ib, gJ, gU⟩ := ev_box (P := Try.prog) 23 (.agg (List.toArray M)) M C rfl
 refine WL.val (gJ _ _ _ rfl) ?_
 let E : List Go.Value := TState.q aj bx bq bO bz br bX ax ap az ay aq aA
 obtain ⟨a, ic, gK, gV⟩ := ev_box (P := Try.prog) 32 (.agg (List.toArray E)) E gU rfl
 refine WL.val (gK _ _ _ rfl) ?_
 let N : List Go.Value := TRecord.q bN cQ dx cu
 obtain ⟨j, id, gL, gW⟩ := ev_box (P := Try.prog) 46 (.agg (List.toArray N)) N gV rfl
 refine WL.val (gL _ _ _ rfl) ?_
 let T : List Go.Value := [.slice none 0 0, .slice none 0 0, .slice none 0 0, .slice none 0 0, iv 0]
 obtain ⟨b, ie, gM, bM⟩ := ev_alloc (P := Try.prog) (e := 32) T gW zr32 rfl
 refine WL.val (gM _ _) <| WL.rd to 1 rfl <| W.seq <| W.sr rfl <| WL.run to 1 rfl <| WL.lv bM 2 0 rfl rfl Try.underlying27 rfl rfl <| WL.ln (aj.Eras.length : Int) rfl Try.underlying27 (by omega) <| WL.rd to 1 rfl ?_
 rcases iteE H with ⟨cH, H⟩ | ⟨cH, H⟩
 ·refine W.cT cH rfl <| W.sr rfl <| WL.la bM 2 rfl rfl Try.underlying32 rfl sz32 <| WL.st bM 0 0 E rfl rfl rfl rfl (Put.lit 0 rfl) (ones_of rfl) sz32 fun ar (ge : Cx [CH.row b 0 E, CH.row j 0 N, CH.row a 0 E, CH.row h 0 M, R, l, x, y]) => ?_
  refine WL.rd to 1 rfl <| W.ret <| thenE_r ?_
  have gX : Cx [R, l, x, y] := ge.pick [4, 5, 6, 7] rfl
  simp only [Option.some.injEq, Prod.mk.injEq] at H
  obtain ⟨g3, g4⟩ := H
  subst g3 g4
  exact post_r (resET rfl ((.cell rfl (run_loadVA2 (g := b) (off := 0) (o := 0) (cs := E) (us := E) Try.underlying32 rfl sz32 (Ctx.subI 0 ge rfl) rfl) (.tmp rfl .nil))) rfl) ⟨F, bx, bO, bq, R, bz, bX, br, l, ax, az, ap, x, ay, aA, aq, y, rfl, (CH.le_refl _), gX, bo, aB, aE, Z, au, U, av, V⟩
 refine W.cF cH rfl <| W.skip <| W.sr rfl <| WL.la bM 2 rfl rfl Try.underlying32 rfl sz32 <| WL.la bM 1 rfl rfl Try.underlying46 rfl (sz_of sz46 (len_app rfl (len_app (len_map cf) rfl))) ?_
 obtain ⟨g0, aS, ⟨gO, gP, gQ, gR, _⟩, gY⟩ := Ctx.lend [R, l, x, y] (ps := [CH.row b 0 T, CH.row j 0 N, CH.row a 0 E, CH.row h 0 M]) (Ctx.pick [4, 5, 6, 7, 0, 1, 2, 3] bM rfl)
 obtain ⟨⟨Y, hc⟩, gB, H⟩ := bindE H
 refine WL.callH (juratref21_job.calls k _ g0 bx bO bq bz bX br ax az ap ay aA aq aj cQ cu dx bN (Ctx.pre (qs := []) (rest := [CH.row b 0 T, CH.row j 0 N, CH.row a 0 E, CH.row h 0 M]) gY) bo (Row.len_le aB).1 (Row.len_le aB).2.1 (Sl.mono (Row.sl aB) aS gO) aE (Row.len_le Z).1 (Row.len_le Z).2.1 (Sl.mono (Row.sl Z) aS gP) au (Row.len_le U).1 (Row.len_le U).2.1 (Sl.mono (Row.sl U) aS gQ) av (Row.len_le V).1 (Row.len_le V).2.1 (Sl.mono (Row.sl V) aS gR) cf gG gC gE (Sl.mono gy aS aS) Y hc gB) (ne.fr rfl rfl) ?_
 rintro g5 ar ⟨rfl, gZ⟩
 refine ⟨_, rfl, ?_⟩
 have aJ : Cx [CH.row b 0 T, CH.row j 0 N, CH.row a 0 E, CH.row h 0 M, R, l, x, y] := Ctx.callL (qs := []) (rest := [CH.row b 0 T, CH.row j 0 N, CH.row a 0 E, CH.row h 0 M, R, l, x, y]) bM aS gZ
 refine WL.rd to 5 rfl <| W.seq <| W.sr rfl <| WL.rd to 2 rfl ?_
 rcases iteE H with ⟨cI, H⟩ | ⟨cI, H⟩
 ·refine W.nF cI rfl <| W.skip <| W.seq <| W.sr rfl <| WL.run to 1 rfl <| WL.lv aJ 2 1 rfl rfl Try.underlying28 rfl rfl <| WL.run to 1 rfl ?_
  obtain ⟨hN, H⟩ := guardE H
  obtain ⟨h5, hZ, cG, gA⟩ := (Row.sl Z) (by omega)
  refine WL.val (Yl.elemAddr (i := Y) rfl rfl cG Try.underlying28 sz55 (by omega)) <| WL.run to 1 rfl ?_
  obtain ⟨hJ, gI, cJ⟩ := gA Y.toNat _ (getD_some (d := TJob.z) (by omega))
  obtain ⟨cR, c3, dy, h2, h6, h9, h3, h7, ia, h4, h8, hX, hH, hI, hY, rfl, gH, gD, gF, gz, hS, hO, hQ, hL, hT, hP, hR, hM, hs, hn, hq, hk, ht, ho, hr, hl⟩ := TJob.open gI
  refine WL.val (Yl.load (v := iv ((aj.Jobs.getD Y.toNat TJob.z).State)) rfl Try.underlying3 rfl (((Ctx.subI 5 aJ rfl)).cell (cJ 1 _ rfl))) <| WL.rd to 1 rfl ?_
  rcases iteE H with ⟨cg, H⟩ | ⟨cg, H⟩
  ·refine W.nF cg rfl <| W.skip <| W.seq <| W.sr rfl <| WL.run to 1 rfl <| WL.lv aJ 1 36 rfl rfl Try.underlying3 rfl (at_skip 2 34 rfl (at_skip 32 2 (len_map cf) rfl)) <| WL.rd to 1 rfl ?_
   rcases iteE H with ⟨ch, H⟩ | ⟨ch, H⟩
   ·refine W.cT ch rfl <| W.sr rfl <| WL.la aJ 2 rfl rfl Try.underlying32 rfl sz32 <| WL.st aJ 0 0 E rfl rfl rfl rfl (Put.lit 0 rfl) (ones_of rfl) sz32 fun ar (dD : Cx [CH.row b 0 E, CH.row j 0 N, CH.row a 0 E, CH.row h 0 M, R, l, x, y]) => ?_
    refine WL.rd to 1 rfl <| W.ret <| thenE_r ?_
    have gg : Cx [R, l, x, y] := dD.pick [4, 5, 6, 7] rfl
    simp only [Option.some.injEq, Prod.mk.injEq] at H
    obtain ⟨gt, gu⟩ := H
    subst gt gu
    exact post_r (resET rfl ((.cell rfl (run_loadVA2 (g := b) (off := 0) (o := 0) (cs := E) (us := E) Try.underlying32 rfl sz32 (Ctx.subI 0 dD rfl) rfl) (.tmp rfl .nil))) rfl) ⟨F, bx, bO, bq, R, bz, bX, br, l, ax, az, ap, x, ay, aA, aq, y, rfl, (CH.le_refl _), gg, bo, aB, aE, Z, au, U, av, V⟩
   refine W.cF ch rfl <| W.skip <| W.seq <| W.regionA [([11], CH.row a 0 E), ([11], CH.row h 0 M)] (by kernel_rfl) ?_
   have b8 := Ctx.drewN aJ 1
   refine WA.takes [(0, none), (1, some 0), (2, none), (3, some 0), (4, none), (5, some 1), (6, none), (7, none), (8, some 1), (9, none), (10, none)] ⟨(Ctx.subI 2 b8 rfl), (Ctx.subI 3 b8 rfl), trivial⟩ (by kernel_rfl) <| WT.run to 1 rfl <| WT.lv 2 rfl rfl rfl Try.underlying29 rfl rfl <| WT.run to 1 rfl <| WT.lv 3 rfl rfl rfl Try.underlying30 rfl rfl <| WT.run to 1 rfl <| WT.lv 2 rfl rfl rfl Try.underlying3 rfl rfl ?_
   obtain ⟨fd, H⟩ := guardE H
   refine WT.val rfl (fun _ hC_ => Yl.shl (m := 1) (n := cD.Height) (r := shlOp .i64 1 cD.Height) rfl rfl fd rfl) ?_
   refine WT.run to 1 rfl <| WT.lv 0 rfl rfl rfl Try.underlying3 rfl rfl <| WT.run to 2 rfl <| WT.done ?_
   obtain ⟨gr, cj, ⟨f5, f6, _⟩, gh⟩ := Ctx.lend [x, y] (ps := [CH.row b 0 T, CH.row j 0 N, CH.row a 0 E, CH.row h 0 M, R, l]) (Ctx.pick [6, 7, 0, 1, 2, 3, 4, 5] b8 rfl)
   obtain ⟨⟨A, gT⟩, fe, H⟩ := bindE H
   refine WA.up1 11 (by kernel_rfl) (Up.callH rfl (by kernel_rfl) rfl (juratref18_Pick.calls k _ gr ax az ap aj.Used ay aA aq aj.Barred (shlOp .i64 1 cD.Height) (wi64 ((wi64 (2 * cD.Faulty)) + 1)) (Ctx.pre (qs := []) (rest := [CH.row b 0 T, CH.row j 0 N, CH.row a 0 E, CH.row h 0 M, R, l]) gh) au (Row.len_le U).1 (Row.len_le U).2.1 (Sl.mono (Row.sl U) cj f5) av (Row.len_le V).1 (Row.len_le V).2.1 (Sl.mono (Row.sl V) cj f6) A gT fe) (ne.fr rfl rfl) ?_)
   rintro g5 ar ⟨a3, a8, bf, ak, rfl, gi, fl, eW⟩
   have eX : Row (Kd.int .i64) F ak (.slice a3 bf a8) A := eW
   have bL : Cx [ak, CH.row b 0 T, CH.row j 0 N, CH.row a 0 E, CH.row h 0 M, R, l, x, y] := Ctx.callL (qs := []) (rest := [CH.row b 0 T, CH.row j 0 N, CH.row a 0 E, CH.row h 0 M, R, l, x, y]) b8 cj gi
   refine ⟨_, rfl, ⟨trivial, trivial, trivial⟩, ?_⟩
   refine WA.takes [(12, none), (13, none), (14, none), (15, none), (16, none)] ⟨(Ctx.subI 3 bL rfl), (Ctx.subI 4 bL rfl), trivial⟩ (by kernel_rfl) <| WT.run to 5 rfl <| WT.done <| WA.done (by kernel_rfl) <| W.seq <| W.sr rfl <| WL.rd to 2 rfl ?_
   rcases iteE H with ⟨ci, H⟩ | ⟨ci, H⟩
   ·refine W.nF ci rfl <| W.skip <| W.seq <| W.regionA [([20], CH.row a 0 E), ([20], l), ([20], CH.row j 0 N)] (by kernel_rfl) ?_
    have b9 := Ctx.drewN bL 1
    refine WA.takes [(0, none), (1, some 0), (2, none), (3, none), (4, none), (5, some 1), (6, none), (7, some 0), (8, none), (9, none), (10, none), (11, some 1), (12, none), (13, some 0), (15, none), (16, some 2), (17, none)] ⟨(Ctx.subI 3 b9 rfl), (Ctx.subI 6 b9 rfl), (Ctx.subI 2 b9 rfl), trivial⟩ (by kernel_rfl) <| WT.run to 1 rfl <| WT.lv 1 rfl rfl rfl Try.underlying28 rfl rfl <| WT.run to 1 rfl <| WT.val rfl (fun _ hC_ => Yl.elemAddr (i := Y) rfl rfl cG Try.underlying28 sz55 (by omega)) ?_
    refine WT.run to 1 rfl <| WT.val rfl (fun _ hC_ => Yl.load (v := .slice cR dy c3) rfl Try.underlying44 rfl (((show Sub l _ from hC_)).cell (cJ 0 _ rfl))) ?_
    refine WT.run to 1 rfl <| WT.lv 1 rfl rfl rfl Try.underlying28 rfl rfl <| WT.run to 1 rfl <| WT.val rfl (fun _ hC_ => Yl.elemAddr (i := Y) rfl rfl cG Try.underlying28 sz55 (by omega)) ?_
    refine WT.run to 1 rfl <| WT.val rfl (fun _ hC_ => Yl.load (v := iv ((aj.Jobs.getD Y.toNat TJob.z).Attempt)) rfl Try.underlying3 rfl (((show Sub l _ from hC_)).cell (cJ 2 _ rfl))) ?_
    refine WT.run to 1 rfl <| WT.val rfl (fun _ hC_ => Yl.loadVA (g := a) (off := 0) (o := 0) (cs := E) (us := E) rfl Try.underlying32 rfl sz32 (show Sub (CH.row a 0 E) _ from hC_) rfl) ?_
    refine WT.run to 1 rfl <| WT.lv 36 rfl rfl rfl Try.underlying3 rfl (at_skip 2 34 rfl (at_skip 32 2 (len_map cf) rfl)) <| WT.run to 1 rfl <| WT.done ?_
    obtain ⟨ai, rs178_14h, H⟩ := bindE H
    let gc : List Go.Value := [.slice none 0 0, iv 0, iv 0, iv 0, iv 0, .slice none 0 0, .slice none 0 0, .slice none 0 0, .slice none 0 0]
    let cL : List Go.Value := [.slice cR dy c3, iv 2, iv (wi64 (((aj.Jobs.getD Y.toNat TJob.z).Attempt) + 1)), iv ai, iv bN.Time, .slice a3 bf a8, .slice none 0 0, .slice none 0 0, .slice none 0 0]
    refine WA.par (fun L_ G ar => ∃ s ab, Ctx w F D ar F [ab, ak, CH.row b 0 T, CH.row j 0 N, CH.row a 0 E, CH.row h 0 M, R, l, x, y] ∧ G 4 = .pointer (some ⟨a, 0, none⟩) ∧ G 6 = .pointer (some ⟨b, 0, none⟩) ∧ G 8 = iv Y ∧ G 10 = .slice a3 bf a8 ∧ G 64 = .slice cR dy c3 ∧ G 71 = iv (wi64 (((aj.Jobs.getD Y.toNat TJob.z).Attempt) + 1)) ∧ G 72 = .agg (List.toArray E) ∧ G 75 = iv bN.Time ∧ G 76 = .slice a3 bf a8 ∧ cond (L_ 19) (G 11 = .pointer (some ⟨s, 0, none⟩) ∧ ab = CH.row s 0 gc) (True) ∧ cond (L_ 14) (G 73 = iv ai) True ∧ cond (L_ 18) (G 77 = .agg (List.toArray cL)) True) [(14, [], []), (18, [14], []), (19, [], [])] [0, 1, 2, 3, 4, 5, 6, 7, 8, 9, 10, 11, 12, 13, 15, 16, 17] [0, 1, 2, 3, 4, 5, 6, 7, 8, 9, 10, 11, 12, 13, 14, 15, 16, 17, 18, 19] #[true, true, true, true, true, true, true, true, true, true, true, true, true, true, true, true, true, true, true, true, false] 1 3 (by kernel_rfl) ?_ (.cons ?_ (.cons ?_ (.cons ?_ .nil))) ?_
    ·have gj := Ctx.emp b9
     exact ⟨0, CH.emp, gj, rfl, rfl, rfl, rfl, rfl, rfl, rfl, rfl, rfl, (iF rfl trivial), (iF rfl trivial), (iF rfl trivial)⟩
    ·intro L_ G ar hk_ hI_
     obtain ⟨hU, _⟩ := hk_
     obtain ⟨s, ab, dE, fy, fA, fB, fC, fD, fE, ds, fF, fG, fa, hi, eR⟩ := hI_
     obtain ⟨gs, a2, ⟨f7, f8, f9, ga, _⟩, gk⟩ := Ctx.lend [R, l, x, y] (ps := [ab, ak, CH.row b 0 T, CH.row j 0 N, CH.row a 0 E, CH.row h 0 M]) (Ctx.pick [6, 7, 8, 9, 0, 1, 2, 3, 4, 5] dE rfl)
     refine UpI.callH rfl (by kernel_rfl) (juratref21_Epoch.calls k _ gs bx bO bq bz bX br ax az ap ay aA aq aj (Ctx.pre (qs := []) (rest := [ab, ak, CH.row b 0 T, CH.row j 0 N, CH.row a 0 E, CH.row h 0 M]) gk) bo (Row.len_le aB).1 (Row.len_le aB).2.1 (Sl.mono (Row.sl aB) a2 f7) aE (Row.len_le Z).1 (Row.len_le Z).2.1 (Sl.mono (Row.sl Z) a2 f8) au (Row.len_le U).1 (Row.len_le U).2.1 (Sl.mono (Row.sl U) a2 f9) av (Row.len_le V).1 (Row.len_le V).2.1 (Sl.mono (Row.sl V) a2 ga) ai rs178_14h) (ne.fn rfl (argsE (.cons ds .nil))) ?_
     rintro g5 ar ⟨rfl, gl⟩
     have ca : Cx [ab, ak, CH.row b 0 T, CH.row j 0 N, CH.row a 0 E, CH.row h 0 M, R, l, x, y] := Ctx.callL (qs := []) (rest := [ab, ak, CH.row b 0 T, CH.row j 0 N, CH.row a 0 E, CH.row h 0 M, R, l, x, y]) dE a2 gl
     refine ⟨_, rfl, ⟨(Ctx.subI 4 ca rfl), (Ctx.subI 7 ca rfl), (Ctx.subI 3 ca rfl), trivial⟩, ?_⟩
     exact ⟨s, ab, ca, fy, fA, fB, fC, fD, fE, ds, fF, fG, fa, (iT rfl rfl), eR⟩
    ·intro L_ G ar hk_ hI_
     obtain ⟨gN, hV, _⟩ := hk_
     obtain ⟨s, ab, cc, fH, fI, fJ, fK, dt, du, fL, dv, dw, fb, c4, hj⟩ := hI_
     have gv := cT gN c4
     refine UpI.val rfl rfl (Yl.build (places := [(0, 1), (1, 1), (2, 1), (3, 1), (4, 1), (5, 1), (6, 1), (7, 1), (8, 1)]) (cs := List.toArray cL) Try.underlying55 zr55 (pl55 _ Try.underlying55) (partsB (.cons dt (.cons rfl (.cons du (.cons gv (.cons dv (.cons dw .nil))))))) rfl) ⟨(Ctx.subI 4 cc rfl), (Ctx.subI 7 cc rfl), (Ctx.subI 3 cc rfl), trivial⟩ ?_
     exact ⟨s, ab, cc, fH, fI, fJ, fK, dt, du, fL, dv, dw, fb, c4, (iT rfl rfl)⟩
    ·intro L_ G ar hk_ hI_
     obtain ⟨hW, _⟩ := hk_
     obtain ⟨s, ab, gm, fM, fN, fO, fP, fQ, fR, fS, fT, fU, hm, eS, eT⟩ := hI_
     obtain ⟨cE, h0, f1, cd⟩ := ev_alloc (P := Try.prog) (e := 55) gc gm zr55 rfl
     refine UpI.val rfl rfl (f1 _ _) ⟨(Ctx.subI 5 cd rfl), (Ctx.subI 8 cd rfl), (Ctx.subI 4 cd rfl), trivial⟩ ?_
     have gn : Cx [CH.row cE 0 gc, ak, CH.row b 0 T, CH.row j 0 N, CH.row a 0 E, CH.row h 0 M, R, l, x, y] := cd.pick [0, 2, 3, 4, 5, 6, 7, 8, 9, 10] rfl
     exact ⟨cE, (CH.row cE 0 gc), gn, fM, fN, fO, fP, fQ, fR, fS, fT, fU, (iT rfl ⟨rfl, rfl⟩), eS, eT⟩
    ·rintro G ar ⟨s, ab, go, fV, fW, fX, fY, hv, hw, hx, hy, hz, fc, eU, eV⟩
     obtain ⟨dG, rfl⟩ := cT rfl fc
     have hK := cT rfl eU
     have gw := cT rfl eV
     obtain ⟨h1, f2, gp⟩ := ev_setI (P := Try.prog) (ps1 := []) (ps2 := [ak, CH.row b 0 T, CH.row j 0 N, CH.row a 0 E, CH.row h 0 M, R, l, x, y]) (t := 55) 0 cL (.agg (List.toArray cL)) go rfl rfl (ones_of rfl) sz55
     have gq : Cx [CH.row s 0 cL, ak, CH.row b 0 T, CH.row j 0 N, CH.row a 0 E, CH.row h 0 M, R, l, x, y] := gp
     refine WA.up1 20 (by kernel_rfl) (Up.skip rfl rfl (f2 _ _ _ _ dG gw) ⟨trivial, trivial, trivial, trivial⟩ ?_)
     refine WA.done (by kernel_rfl) <| W.seq <| W.sr rfl <| WL.rd to 1 rfl ?_
     obtain ⟨⟨aa, Q⟩, J, H⟩ := bindE H
     refine W.cutM (fun G ar => ∃ X bA bP bg al bB bQ aT bn bC bR bh am bD bS bi an bE a9 b1 bG ba b2 bH bU bj cK bI bV bk cp bJ bW bl b3, Kn G [(4, .pointer (some ⟨a, 0, none⟩)), (6, .pointer (some ⟨b, 0, none⟩)), (8, iv Y), (11, .pointer (some ⟨s, 0, none⟩))] ∧ Ctx w F D ar X [CH.row a 0 (TState.q aa bA bg bP bB aT bQ bC bh bR bD bi bS), al, bn, am, an, CH.row s 0 (TJob.q Q bE b1 a9 bG b2 ba bH bj bU bI bk bV bJ bl bW), cK, cp, b3, CH.row b 0 T, CH.row j 0 N, CH.row h 0 M] ∧ CH.le F X ∧ bg = aa.Eras.length ∧ Row TEra.K X al (.slice bA bg bP) aa.Eras ∧ aT = aa.Jobs.length ∧ Row TJob.K X bn (.slice bB aT bQ) aa.Jobs ∧ bh = aa.Used.length ∧ Row (Kd.int .i64) X am (.slice bC bh bR) aa.Used ∧ bi = aa.Barred.length ∧ Row Kd.bool X an (.slice bD bi bS) aa.Barred ∧ b1 = Q.Payload.length ∧ Q.Payload.length ≤ a9 ∧ a9 ≤ maxLen ∧ Sl (Kd.int .u8) X X bE Q.Payload ∧ b2 = Q.Workers.length ∧ Q.Workers.length ≤ ba ∧ ba ≤ maxLen ∧ Sl (Kd.int .i64) X X bG Q.Workers ∧ bj = Q.Indexes.length ∧ Row (Kd.int .i64) X cK (.slice bH bj bU) Q.Indexes ∧ bk = Q.Votes.length ∧ Row TCast.K X cp (.slice bI bk bV) Q.Votes ∧ bl = Q.Value.length ∧ Row (Kd.int .u8) X b3 (.slice bJ bl bW) Q.Value) ?_ ?_
     ·refine W.block ?_
      obtain ⟨S, ao, gb, cC⟩ := Ctx.fzI 1 gq rfl
      replace cC : Cx [CH.row s 0 cL, CH.row b 0 T, CH.row j 0 N, CH.row a 0 E, CH.row h 0 M, R, l, x, y] := cC
      obtain ⟨fh, fk, dc⟩ := Row.fz eX ao gb
      have e4 := Row.mono aB ao
      have e5 := Row.mono Z ao
      have e6 := Row.mono U ao
      have e7 := Row.mono V ao
      have es : Cx [CH.row a 0 E, R, l, x, y, CH.row s 0 cL, CH.emp, CH.emp, CH.emp, CH.row b 0 T, CH.row j 0 N, CH.row h 0 M] := cC.pick [3, 5, 6, 7, 8, 0, 9, 9, 9, 1, 2, 4] rfl
      refine W.loop (fun gx G ar => ∃ (u : Int) (p : TState) (B : TJob), ∃ a4 bb aU ac a5 bc aV ad a6 bd aF ae a7 be aW af aM aC aX aN aD aY bK bY bm cr aO aQ aG ag aP aR aH ah, Kn G [(4, .pointer (some ⟨a, 0, none⟩)), (6, .pointer (some ⟨b, 0, none⟩)), (8, iv Y), (10, .slice a3 bf a8), (11, .pointer (some ⟨s, 0, none⟩)), (12, iv u)] ∧ Ctx w F D ar S [CH.row a 0 (TState.q p a4 aU bb a5 aV bc a6 aF bd a7 aW be), ac, ad, ae, af, CH.row s 0 (TJob.q B aM aX aC aN aY aD bK bm bY aO aG aQ aP aH aR), cr, ag, ah, CH.row b 0 T, CH.row j 0 N, CH.row h 0 M] ∧ aU = p.Eras.length ∧ Row TEra.K S ac (.slice a4 aU bb) p.Eras ∧ aV = p.Jobs.length ∧ Row TJob.K S ad (.slice a5 aV bc) p.Jobs ∧ aF = p.Used.length ∧ Row (Kd.int .i64) S ae (.slice a6 aF bd) p.Used ∧ aW = p.Barred.length ∧ Row Kd.bool S af (.slice a7 aW be) p.Barred ∧ aX = B.Payload.length ∧ B.Payload.length ≤ aC ∧ aC ≤ maxLen ∧ Sl (Kd.int .u8) S S aM B.Payload ∧ aY = B.Workers.length ∧ B.Workers.length ≤ aD ∧ aD ≤ maxLen ∧ Sl (Kd.int .i64) S S aN B.Workers ∧ bm = B.Indexes.length ∧ Row (Kd.int .i64) S cr (.slice bK bm bY) B.Indexes ∧ aG = B.Votes.length ∧ Row TCast.K S ag (.slice aO aG aQ) B.Votes ∧ aH = B.Value.length ∧ Row (Kd.int .u8) S ah (.slice aP aH aR) B.Value ∧ juratref21_assign.l1 gx A u p B = some (aa, Q)) k ⟨0, aj, (⟨(aj.Jobs.getD Y.toNat TJob.z).Payload, 2, wi64 (((aj.Jobs.getD Y.toNat TJob.z).Attempt) + 1), ai, bN.Time, A, ([] : List Int), ([] : List TCast), ([] : List Int)⟩ : TJob), bx, bO, bq, R, bz, bX, br, l, ax, az, ap, x, ay, aA, aq, y, cR, c3, dy, a3, a8, bf, none, 0, 0, CH.emp, none, 0, 0, CH.emp, none, 0, 0, CH.emp, (.c fV (.c fW (.c fX (.c fY (.c dG (.c rfl .n)))))), es, bo, e4, aE, e5, au, e6, av, e7, gH, gD, gF, (Sl.mono gz ao ao), fl, fh, fk, dc, rfl, (Row.nil _ _), rfl, (Row.nil _ _), rfl, (Row.nil _ _), J⟩ ?_
      clear J
      rintro gx G ar ⟨u, p, B, a4, bb, aU, ac, a5, bc, aV, ad, a6, bd, aF, ae, a7, be, aW, af, aM, aC, aX, aN, aD, aY, bK, bY, bm, cr, aO, aQ, aG, ag, aP, aR, aH, ah, f0, dF, dj, c6, dk, c7, fw, ce, dl, c8, dm, df, dh, dd, dp, dg, di, de, fx, c9, dq, da, dr, db, J⟩
      rcases gx with _ | f3
      · exact absurd J (by simp [juratref21_assign.l1])
      rw [juratref21_assign.l1] at J
      apply ks G f0
      refine W.seq <| W.sr rfl <| WL.run to 2 rfl <| WL.ln (A.length : Int) rfl Try.underlying29 (by omega) <| WL.rd to 1 rfl ?_
      rcases iteE J with ⟨bZ, J⟩ | ⟨bZ, J⟩
      ·refine W.cT bZ rfl <| W.skip <| W.seq <| W.block <| W.seq ?_
       let gS : List Go.Value := TJob.q B aM aX aC aN aY aD bK bm bY aO aG aQ aP aH aR
       let ct : List Go.Value := TState.q p a4 aU bb a5 aV bc a6 aF bd a7 aW be
       refine W.regionA [([11, 13], CH.row s 0 gS), ([10, 11, 13], CH.row a 0 ct), ([10, 11, 13], S), ([10, 11, 13], ae)] (by kernel_rfl) ?_
       have aZ := Ctx.drewN dF 1
       refine WA.takes [(0, none), (1, some 0), (2, none), (3, some 1), (4, none), (5, none), (6, none), (7, some 2), (8, none), (9, some 3)] ⟨(Ctx.subI 5 aZ rfl), (Ctx.subI 0 aZ rfl), (aZ.fro), (Ctx.subI 3 aZ rfl), trivial⟩ (by kernel_rfl) <| WT.run to 1 rfl <| WT.lv 6 rfl rfl rfl Try.underlying29 rfl rfl <| WT.run to 1 rfl <| WT.lv 2 rfl rfl rfl Try.underlying29 rfl rfl <| WT.run to 2 rfl ?_
       obtain ⟨g6, J⟩ := guardE J
       obtain ⟨hh, ha, cv, d3⟩ := dc (by omega)
       refine WT.val rfl (fun _ hC_ => Yl.elemAddr (i := u) rfl rfl cv Try.underlying29 sz3 (by omega)) ?_
       obtain ⟨g1, eg, cz⟩ := d3 u.toNat _ (getD_some (d := 0) (by omega))
       obtain rfl := eg
       refine WT.val rfl (fun _ hC_ => Yl.load (v := iv (A.getD u.toNat 0)) rfl Try.underlying3 rfl (((Sub.mono (show Sub S _ from hC_) (CH.le_refl _))).cell (cz 0 _ rfl))) ?_
       obtain ⟨g7, J⟩ := guardE J
       obtain ⟨eG, eq, a1, d4⟩ := (Row.sl ce) (by omega)
       refine WT.val rfl (fun _ hC_ => Yl.elemAddr (i := A.getD u.toNat 0) rfl rfl a1 Try.underlying29 sz3 (by omega)) ?_
       obtain ⟨g2, eh, cA⟩ := d4 (A.getD u.toNat 0).toNat _ (getD_some (d := 0) (by omega))
       obtain rfl := eh
       refine WT.val rfl (fun _ hC_ => Yl.load (v := iv (p.Used.getD (A.getD u.toNat 0).toNat 0)) rfl Try.underlying3 rfl (((show Sub ae _ from hC_)).cell (cA 0 _ rfl))) ?_
       refine WT.done ?_
       obtain ⟨he, eI, hA, aI, hB, ed, ei, b4, dH⟩ := ev_lit1' (P := Try.prog) 3 (Kd.int .i64) aZ Try.underlying29 ti3 ⟨by decide, by decide⟩ (p.Used.getD (A.getD u.toNat 0).toNat 0) (iv (p.Used.getD (A.getD u.toNat 0).toNat 0)) rfl
       refine WA.up1 10 (by kernel_rfl) (Up.val rfl rfl rfl (ei _ _ _ rfl) ⟨(Ctx.subI 6 b4 rfl), trivial, trivial, trivial, trivial⟩ ?_)
       obtain ⟨d2, J⟩ := guardE J
       obtain ⟨bs, bu, bv, aw, hC, ee, ej, et, dI⟩ := ev_append' (P := Try.prog) (cb := eI) 3 (Kd.int .i64) [aI, CH.row a 0 ct, ac, ad, ae, af, CH.row s 0 gS] [ag, ah, CH.row b 0 T, CH.row j 0 N, CH.row h 0 M] b4 c9 ed (Row.sl dH) (Ctx.subI 0 b4 rfl) Try.underlying29 ti3 rfl zo3 (by decide) (by decide) (by simpa using d2)
       have a0 : Cx [aI, CH.row a 0 ct, ac, ad, ae, af, CH.row s 0 gS, aw, ag, ah, CH.row b 0 T, CH.row j 0 N, CH.row h 0 M] := et
       refine WA.up1 11 (by kernel_rfl) (Up.val rfl rfl rfl (ej _ _ _ _ rfl rfl) ⟨trivial, trivial, trivial, trivial, trivial⟩ ?_)
       refine WA.takes [(12, none)] ⟨(Ctx.subI 6 a0 rfl), (Ctx.subI 1 a0 rfl), (a0.fro), (Ctx.subI 4 a0 rfl), trivial⟩ (by kernel_rfl) <| WT.run to 1 rfl <| WT.done ?_
       obtain ⟨hE, ek, eu⟩ := ev_setI (P := Try.prog) (ps1 := [aI, CH.row a 0 ct, ac, ad, ae, af]) (ps2 := [aw, ag, ah, CH.row b 0 T, CH.row j 0 N, CH.row h 0 M]) (t := 29) 6 [.slice bs bv bu] (.slice bs bv bu) a0 rfl rfl (ones_of rfl) sz29
       let gd : List Go.Value := TJob.q B aM aX aC aN aY aD bs bv bu aO aG aQ aP aH aR
       have ew : Cx [aI, CH.row a 0 ct, ac, ad, ae, af, CH.row s 0 gd, aw, ag, ah, CH.row b 0 T, CH.row j 0 N, CH.row h 0 M] := eu
       refine WA.up1 13 (by kernel_rfl) (Up.skip rfl rfl (ek _ _ _ _ rfl rfl) ⟨trivial, trivial, trivial, trivial, trivial⟩ ?_)
       refine WA.done (by kernel_rfl) <| W.regionA [([10], CH.row a 0 ct), ([10], S), ([10], ae)] (by kernel_rfl) ?_
       have bt := Ctx.drewN ew 1
       refine WA.takes [(0, none), (1, some 0), (2, none), (3, none), (4, none), (5, some 1), (6, none), (7, some 2), (8, none), (9, none)] ⟨(Ctx.subI 1 bt rfl), (bt.fro), (Ctx.subI 4 bt rfl), trivial⟩ (by kernel_rfl) <| WT.run to 1 rfl <| WT.lv 2 rfl rfl rfl Try.underlying29 rfl rfl <| WT.run to 2 rfl <| WT.val rfl (fun _ hC_ => Yl.elemAddr (i := u) rfl rfl cv Try.underlying29 sz3 (by omega)) ?_
       refine WT.val rfl (fun _ hC_ => Yl.load (v := iv (A.getD u.toNat 0)) rfl Try.underlying3 rfl (((Sub.mono (show Sub S _ from hC_) (CH.le_refl _))).cell (cz 0 _ rfl))) ?_
       refine WT.val rfl (fun _ hC_ => Yl.elemAddr (i := A.getD u.toNat 0) rfl rfl a1 Try.underlying29 sz3 (by omega)) ?_
       refine WT.val rfl (fun _ hC_ => Yl.load (v := iv (p.Used.getD (A.getD u.toNat 0).toNat 0)) rfl Try.underlying3 rfl (((show Sub ae _ from hC_)).cell (cA 0 _ rfl))) ?_
       refine WT.run to 1 rfl <| WT.val rfl (fun _ hC_ => Yl.elemAddr (i := A.getD u.toNat 0) rfl rfl a1 Try.underlying29 sz3 (by omega)) ?_
       refine WT.done ?_
       have d5 : (A.getD u.toNat 0).toNat < p.Used.length := by first | omega | (simp only [List.length_set, List.length_replicate] at *; omega)
       let hb : List Go.Value := [iv (wi64 ((p.Used.getD (A.getD u.toNat 0).toNat 0) + 1))]
       obtain ⟨co, hF, el, ex, dJ⟩ := ev_store (P := Try.prog) (t := 3) (Kd.int .i64) [aI, CH.row a 0 ct, ac, ad] [af, CH.row s 0 gd, aw, ag, ah, CH.row b 0 T, CH.row j 0 N, CH.row h 0 M] bt ce a1 (A.getD u.toNat 0).toNat 0 d5 0 (iv (wi64 ((p.Used.getD (A.getD u.toNat 0).toNat 0) + 1))) (hb) rfl (ones_of rfl) (Nat.le_of_ble_eq_true rfl) sz3 (wi64 ((p.Used.getD (A.getD u.toNat 0).toNat 0) + 1)) (fun _ h_ => rep_whole h_ rfl) ⟨eG, eq + (A.getD u.toNat 0).toNat * 1, none⟩ rfl
       have ef : aF = (p.Used.set (A.getD u.toNat 0).toNat (wi64 ((p.Used.getD (A.getD u.toNat 0).toNat 0) + 1))).length := by rw [List.length_set]; omega
       have ey : Cx [aI, CH.row a 0 ct, ac, ad, co, af, CH.row s 0 gd, aw, ag, ah, CH.row b 0 T, CH.row j 0 N, CH.row h 0 M] := ex
       refine WA.up1 10 (by kernel_rfl) (Up.skip rfl rfl (el _ _ _ _ rfl rfl) ⟨trivial, trivial, trivial, trivial⟩ ?_)
       refine WA.done (by kernel_rfl) <| inB_n <| W.region rfl ?_
       refine WL.rd to 3 rfl ?_
       have ez : Cx [CH.row a 0 ct, ac, ad, co, af, CH.row s 0 gd, aw, ag, ah, CH.row b 0 T, CH.row j 0 N, CH.row h 0 M] := ey.pick [1, 2, 3, 4, 5, 6, 7, 8, 9, 10, 11, 12] rfl
       exact thenE_n ⟨f3, Nat.lt_succ_self _, wi64 (u + 1), (⟨p.Eras, p.Jobs, p.Used.set (A.getD u.toNat 0).toNat (wi64 ((p.Used.getD (A.getD u.toNat 0).toNat 0) + 1)), p.Barred, p.Heads⟩ : TState), (⟨B.Payload, B.State, B.Attempt, B.Epoch, B.Until, B.Workers, B.Indexes ++ [p.Used.getD (A.getD u.toNat 0).toNat 0], B.Votes, B.Value⟩ : TJob), a4, bb, aU, ac, a5, bc, aV, ad, a6, bd, aF, co, a7, be, aW, af, aM, aC, aX, aN, aD, aY, bs, bu, bv, aw, aO, aQ, aG, ag, aP, aR, aH, ah, rfl, ez, dj, c6, dk, c7, ef, dJ, dl, c8, dm, df, dh, dd, dp, dg, di, de, ee, dI, dq, da, dr, db, J⟩
      refine W.cF bZ rfl <| W.exit <| thenE_x <| thenE_x <| inB_here ?_
      cases J
      refine thenE_n ?_
      exact ⟨S, a4, bb, aU, ac, a5, bc, aV, ad, a6, bd, aF, ae, a7, be, aW, af, aM, aC, aX, aN, aD, aY, bK, bY, bm, cr, aO, aQ, aG, ag, aP, aR, aH, ah, rfl, dF, ao, dj, c6, dk, c7, fw, ce, dl, c8, dm, df, dh, dd, dp, dg, di, de, fx, c9, dq, da, dr, db⟩
     ·rintro G ar ⟨X, bA, bP, bg, al, bB, bQ, aT, bn, bC, bR, bh, am, bD, bS, bi, an, bE, a9, b1, bG, ba, b2, bH, bU, bj, cK, bI, bV, bk, cp, bJ, bW, bl, b3, fZ, cB, f4, fm, eY, hu, c5, fo, eZ, fp, e0, fq, ff, fi, e8, fs, fg, fj, e9, ft, e1, fu, e2, fv, e3⟩
      apply ks G fZ
      refine W.sr rfl <| WL.run to 1 rfl <| WL.lv cB 0 1 rfl rfl Try.underlying28 rfl rfl <| WL.run to 1 rfl <| WL.la cB 5 rfl rfl Try.underlying55 rfl sz55 ?_
      obtain ⟨g8, H⟩ := guardE H
      obtain ⟨eH, er, cw, g9⟩ := (Row.sl c5) (by omega)
      refine WL.val (Yl.elemAddr (i := Y) rfl rfl cw Try.underlying28 sz55 (by omega)) ?_
      obtain ⟨hf, O, en, b5⟩ := Ctx.fzI 6 cB rfl
      let aK : List Go.Value := TState.q aa bA bg bP bB aT bQ bC bh bR bD bi bS
      let bp : List Go.Value := TJob.q Q bE b1 a9 bG b2 ba bH bj bU bI bk bV bJ bl bW
      replace b5 : Cx [CH.row a 0 aK, al, bn, am, an, CH.row s 0 bp, cp, b3, CH.row b 0 T, CH.row j 0 N, CH.row h 0 M] := b5
      obtain ⟨d7, ea, dZ⟩ := Row.fz e1 O en
      have dK := Row.mono c5 O
      have dL := Row.mono e2 O
      have dM := Row.mono e3 O
      have dN := Row.mono eY O
      have dO := Row.mono eZ O
      have dP := Row.mono e0 O
      obtain ⟨hg, L, eo, b6⟩ := Ctx.fzI 6 b5 rfl
      replace b6 : Cx [CH.row a 0 aK, al, bn, am, an, CH.row s 0 bp, b3, CH.row b 0 T, CH.row j 0 N, CH.row h 0 M] := b6
      obtain ⟨d8, eb, d0⟩ := Row.fz dL L eo
      have dQ := Row.mono dK L
      have dR := Row.mono dM L
      have dS := Row.mono dN L
      have dT := Row.mono dO L
      have dU := Row.mono dP L
      obtain ⟨eF, I, ep, b7⟩ := Ctx.fzI 6 b6 rfl
      replace b7 : Cx [CH.row a 0 aK, al, bn, am, an, CH.row s 0 bp, CH.row b 0 T, CH.row j 0 N, CH.row h 0 M] := b7
      obtain ⟨d9, ec, d1⟩ := Row.fz dR I ep
      have dV := Row.mono dQ I
      have dW := Row.mono dS I
      have dX := Row.mono dT I
      have dY := Row.mono dU I
      have d6 : Y.toNat < aa.Jobs.length := by first | omega | (simp only [List.length_set, List.length_replicate] at *; omega)
      obtain ⟨bw, hG, em, eA, cx⟩ := ev_store (P := Try.prog) (t := 55) TJob.K [CH.row a 0 aK, al] [am, an, CH.row s 0 bp, CH.row b 0 T, CH.row j 0 N, CH.row h 0 M] b7 dV cw Y.toNat 0 d6 TJob.z (.agg (List.toArray bp)) (bp) rfl (ones_of rfl) (Nat.le_of_ble_eq_true rfl) sz55 (Q) (fun _ h_ => rep_whole h_ (TJob.mk' _ Q bE a9 b1 bG ba b2 bH bU bj bI bV bk bJ bW bl fq ff fi (Sl.mono e8 (CH.le_trans O (CH.le_trans L I)) (CH.le_trans O (CH.le_trans L I))) fs fg fj (Sl.mono e9 (CH.le_trans O (CH.le_trans L I)) (CH.le_trans O (CH.le_trans L I))) ft d7 ea (Sl.mono dZ (CH.le_trans L I) (CH.le_trans L I)) fu d8 eb (Sl.mono d0 I I) fv d9 ec d1)) ⟨eH, er + Y.toNat * 9, none⟩ rfl
      have cy : aT = (aa.Jobs.set Y.toNat Q).length := by rw [List.length_set]; omega
      obtain ⟨hd, b0, H⟩ := bindE H
      replace b0 := Option.some.inj b0
      rw [b0] at cx cy
      have cS : Cx [CH.row a 0 aK, al, bw, am, an, CH.row s 0 bp, CH.row b 0 T, CH.row j 0 N, CH.row h 0 M] := eA
      refine WL.skip (em _ _ _ _ rfl rfl) <| WL.done <| W.sr rfl <| WL.la cS 0 rfl rfl Try.underlying32 rfl sz32 <| WL.st cS 6 0 aK rfl rfl rfl rfl (Put.lit 0 rfl) (ones_of rfl) sz32 fun ar (cU : Cx [CH.row a 0 aK, al, bw, am, an, CH.row s 0 bp, CH.row b 0 aK, CH.row j 0 N, CH.row h 0 M]) => ?_
      refine WL.rd to 1 rfl <| W.ret ?_
      have eB : Cx [al, bw, am, an] := cU.pick [1, 2, 3, 4] rfl
      simp only [Option.some.injEq, Prod.mk.injEq] at H
      obtain ⟨eJ, eK⟩ := H
      subst eJ eK
      exact post_r (resET rfl ((.cell rfl (run_loadVA2 (g := b) (off := 0) (o := 0) (cs := aK) (us := aK) Try.underlying32 rfl sz32 (Ctx.subI 6 cU rfl) rfl) (.tmp rfl .nil))) rfl) ⟨eF, bA, bP, bg, al, bB, bQ, aT, bw, bC, bR, bh, am, bD, bS, bi, an, rfl, (CH.le_trans f4 (CH.le_trans O (CH.le_trans L I))), eB, fm, dW, cy, cx, fo, dX, fp, dY⟩
   refine W.nT ci rfl <| W.sr rfl <| WL.la bL 3 rfl rfl Try.underlying32 rfl sz32 <| WL.run to 1 rfl <| WL.st bL 1 0 E rfl rfl rfl rfl (Put.lit 0 rfl) (ones_of rfl) sz32 fun ar (cV : Cx [ak, CH.row b 0 E, CH.row j 0 N, CH.row a 0 E, CH.row h 0 M, R, l, x, y]) => ?_
   refine WL.rd to 1 rfl <| W.ret <| thenE_r ?_
   have eC : Cx [R, l, x, y] := cV.pick [5, 6, 7, 8] rfl
   simp only [Option.some.injEq, Prod.mk.injEq] at H
   obtain ⟨eL, eM⟩ := H
   subst eL eM
   exact post_r (resET rfl ((.cell rfl (run_loadVA2 (g := b) (off := 0) (o := 0) (cs := E) (us := E) Try.underlying32 rfl sz32 (Ctx.subI 1 cV rfl) rfl) (.tmp rfl .nil))) rfl) ⟨F, bx, bO, bq, R, bz, bX, br, l, ax, az, ap, x, ay, aA, aq, y, rfl, (CH.le_refl _), eC, bo, aB, aE, Z, au, U, av, V⟩
  refine W.nT cg rfl <| W.sr rfl <| WL.la aJ 2 rfl rfl Try.underlying32 rfl sz32 <| WL.st aJ 0 0 E rfl rfl rfl rfl (Put.lit 0 rfl) (ones_of rfl) sz32 fun ar (cW : Cx [CH.row b 0 E, CH.row j 0 N, CH.row a 0 E, CH.row h 0 M, R, l, x, y]) => ?_
  refine WL.rd to 1 rfl <| W.ret <| thenE_r ?_
  have eD : Cx [R, l, x, y] := cW.pick [4, 5, 6, 7] rfl
  simp only [Option.some.injEq, Prod.mk.injEq] at H
  obtain ⟨eN, eO⟩ := H
  subst eN eO
  exact post_r (resET rfl ((.cell rfl (run_loadVA2 (g := b) (off := 0) (o := 0) (cs := E) (us := E) Try.underlying32 rfl sz32 (Ctx.subI 0 cW rfl) rfl) (.tmp rfl .nil))) rfl) ⟨F, bx, bO, bq, R, bz, bX, br, l, ax, az, ap, x, ay, aA, aq, y, rfl, (CH.le_refl _), eD, bo, aB, aE, Z, au, U, av, V⟩
 refine W.nT cI rfl <| W.sr rfl <| WL.la aJ 2 rfl rfl Try.underlying32 rfl sz32 <| WL.run to 1 rfl <| WL.st aJ 0 0 E rfl rfl rfl rfl (Put.lit 0 rfl) (ones_of rfl) sz32 fun ar (cX : Cx [CH.row b 0 E, CH.row j 0 N, CH.row a 0 E, CH.row h 0 M, R, l, x, y]) => ?_
 refine WL.rd to 1 rfl <| W.ret <| thenE_r ?_
 have eE : Cx [R, l, x, y] := cX.pick [4, 5, 6, 7] rfl
 simp only [Option.some.injEq, Prod.mk.injEq] at H
 obtain ⟨eP, eQ⟩ := H
 subst eP eQ
 exact post_r (resET rfl ((.cell rfl (run_loadVA2 (g := b) (off := 0) (o := 0) (cs := E) (us := E) Try.underlying32 rfl sz32 (Ctx.subI 0 cX rfl) rfl) (.tmp rfl .nil))) rfl) ⟨F, bx, bO, bq, R, bz, bX, br, l, ax, az, ap, x, ay, aA, aq, y, rfl, (CH.le_refl _), eE, bo, aB, aE, Z, au, U, av, V⟩
def juratref21_vote.l1 : Nat → List Int → Int → TState → Option TState
  | 0, _, _, _ => none
  | k + 1, d, a, b => if a < (d.length : Int) then (if 0 ≤ a ∧ a < (d.length : Int) then (if 0 ≤ (d.getD a.toNat 0) ∧ (d.getD a.toNat 0) < (b.Barred.length : Int) then (juratref21_vote.l1 k d (wi64 (a + 1)) (⟨b.Eras, b.Jobs, b.Used, b.Barred.set (d.getD a.toNat 0).toNat true, b.Heads⟩ : TState)) else none) else none) else (some b)
def juratref21_vote.f (k : Nat) (s : TConfig) (b : TState) (i : TRecord) : Option (TState × Int) := (juratref21_job.f k b i).bind fun ⟨a, m⟩ => if m = 0 then (if 0 ≤ a ∧ a < (b.Jobs.length : Int) then (if ((b.Jobs.getD a.toNat TJob.z).State) = 1 then (some (b, 212)) else ((juratref21_place.f k ((b.Jobs.getD a.toNat TJob.z).Workers) i.By).bind fun o => if o < 0 then (some (b, 214)) else ((juratref19_Cast.f k ((b.Jobs.getD a.toNat TJob.z).Votes) (⟨i.By, i.Data⟩ : TCast)).bind fun ⟨e, g⟩ => if g = 0 then ((juratref19_Decide.f k e s.Faulty).bind fun ⟨h, p⟩ => if p = true then ((juratref19_Liars.f k e h).bind fun r => (juratref21_vote.l1 k r 0 b).bind fun d => if 0 ≤ a ∧ a < (d.Jobs.length : Int) then ((some (d.Jobs.set a.toNat (⟨(b.Jobs.getD a.toNat TJob.z).Payload, 3, (b.Jobs.getD a.toNat TJob.z).Attempt, (b.Jobs.getD a.toNat TJob.z).Epoch, (b.Jobs.getD a.toNat TJob.z).Until, (b.Jobs.getD a.toNat TJob.z).Workers, (b.Jobs.getD a.toNat TJob.z).Indexes, e, h⟩ : TJob))).bind fun j => some ((⟨d.Eras, j, d.Used, d.Barred, d.Heads⟩ : TState), 0)) else none) else ((some (b.Jobs.set a.toNat (⟨(b.Jobs.getD a.toNat TJob.z).Payload, (b.Jobs.getD a.toNat TJob.z).State, (b.Jobs.getD a.toNat TJob.z).Attempt, (b.Jobs.getD a.toNat TJob.z).Epoch, (b.Jobs.getD a.toNat TJob.z).Until, (b.Jobs.getD a.toNat TJob.z).Workers, (b.Jobs.getD a.toNat TJob.z).Indexes, e, (b.Jobs.getD a.toNat TJob.z).Value⟩ : TJob))).bind fun l => some ((⟨b.Eras, l, b.Used, b.Barred, b.Heads⟩ : TState), 0))) else (some (b, g))))) else none) else (some (b, m))
theorem juratref21_vote.calls (k w F) (da : TConfig) (be bg ba J bf bh aQ y ah aj ab p ai ak ac r) (b : TState) (bi a1 bn) (aP : TRecord) (hp : Pre w F [J, y, p, r]) (a9 : ba = b.Eras.length) (a7 : Row TEra.K F J (.slice be ba bg) b.Eras) (aL : aQ = b.Jobs.length) (Z : Row TJob.K F y (.slice bf aQ bh) b.Jobs) (ar : ab = b.Used.length) (ap : Row (Kd.int .i64) F p (.slice ah ab aj) b.Used) (au : ac = b.Barred.length) (aq : Row Kd.bool F r (.slice ai ac ak) b.Barred) (a8 : aP.Nonce.length = 32) (c1 : bn = aP.Data.length) (cU : aP.Data.length ≤ a1) (cX : a1 ≤ maxLen) (cQ : Sl (Kd.int .u8) F F bi aP.Data) (al : TState) (dP : Int) (H : juratref21_vote.f k da b aP = some (al, dP)) :
    Calls Try.prog 46 #[.agg (List.toArray (TConfig.q da)), .agg (List.toArray (TState.q b be ba bg bf aQ bh ah ab aj ai ac ak)), .agg (List.toArray ((TRecord.q aP bi bn a1)))] w fun e w' => ∃ F' cw cM bU c5 cx cN bV c6 cy cO bW c7 cz cP bX c8, e = .returned (.tuple #[(.agg (List.toArray (TState.q al cw bU cM cx bV cN cy bW cO cz bX cP))), (iv dP)]) ∧ CH.le F F' ∧ Ctx w F (domL [J, y, p, r]) w' F' [c5, c6, c7, c8] ∧ bU = al.Eras.length ∧ Row TEra.K F' c5 (.slice cw bU cM) al.Eras ∧ bV = al.Jobs.length ∧ Row TJob.K F' c6 (.slice cx bV cN) al.Jobs ∧ bW = al.Used.length ∧ Row (Kd.int .i64) F' c7 (.slice cy bW cO) al.Used ∧ bX = al.Barred.length ∧ Row Kd.bool F' c8 (.slice cz bX cP) al.Barred := by
 have C := Ctx.start hp
 generalize hD : domL [J, y, p, r] = D at C ⊢
 unfold juratref21_vote.f at H
 refine Calls.ofW Try.func46 rfl (by simp [Try.ntmps46]) <| W.sr rfl ?_
 let M : List Go.Value := TConfig.q da
 obtain ⟨B, ff, ey, eN⟩ := ev_box (P := Try.prog) 23 (.agg (List.toArray M)) M C rfl
 refine WL.val (ey _ _ _ rfl) ?_
 let A : List Go.Value := TState.q b be ba bg bf aQ bh ah ab aj ai ac ak
 obtain ⟨x, fg, ez, eO⟩ := ev_box (P := Try.prog) 32 (.agg (List.toArray A)) A eN rfl
 refine WL.val (ez _ _ _ rfl) ?_
 let N : List Go.Value := TRecord.q aP bi bn a1
 obtain ⟨E, fh, eA, eP⟩ := ev_box (P := Try.prog) 46 (.agg (List.toArray N)) N eO rfl
 refine WL.val (eA _ _ _ rfl) ?_
 let S : List Go.Value := [.slice none 0 0, .slice none 0 0, .slice none 0 0, .slice none 0 0, iv 0]
 obtain ⟨m, fi, eB, b3⟩ := ev_alloc (P := Try.prog) (e := 32) S eP zr32 rfl
 refine WL.val (eB _ _) <| WL.rd to 1 rfl <| W.sr rfl <| WL.la b3 2 rfl rfl Try.underlying32 rfl sz32 <| WL.la b3 1 rfl rfl Try.underlying46 rfl (sz_of sz46 (len_app rfl (len_app (len_map a8) rfl))) ?_
 obtain ⟨eS, av, ⟨eD, eE, eF, eG, _⟩, eQ⟩ := Ctx.lend [J, y, p, r] (ps := [CH.row m 0 S, CH.row E 0 N, CH.row x 0 A, CH.row B 0 M]) (Ctx.pick [4, 5, 6, 7, 0, 1, 2, 3] b3 rfl)
 obtain ⟨⟨a, eU⟩, er, H⟩ := bindE H
 refine WL.callH (juratref21_job.calls k _ eS be bg ba bf bh aQ ah aj ab ai ak ac b bi a1 bn aP (Ctx.pre (qs := []) (rest := [CH.row m 0 S, CH.row E 0 N, CH.row x 0 A, CH.row B 0 M]) eQ) a9 (Row.len_le a7).1 (Row.len_le a7).2.1 (Sl.mono (Row.sl a7) av eD) aL (Row.len_le Z).1 (Row.len_le Z).2.1 (Sl.mono (Row.sl Z) av eE) ar (Row.len_le ap).1 (Row.len_le ap).2.1 (Sl.mono (Row.sl ap) av eF) au (Row.len_le aq).1 (Row.len_le aq).2.1 (Sl.mono (Row.sl aq) av eG) a8 c1 cU cX (Sl.mono cQ av av) a eU er) (ne.fr rfl rfl) ?_
 rintro en U ⟨rfl, eR⟩
 refine ⟨_, rfl, ?_⟩
 have bJ : Cx [CH.row m 0 S, CH.row E 0 N, CH.row x 0 A, CH.row B 0 M, J, y, p, r] := Ctx.callL (qs := []) (rest := [CH.row m 0 S, CH.row E 0 N, CH.row x 0 A, CH.row B 0 M, J, y, p, r]) b3 av eR
 refine WL.rd to 5 rfl <| W.seq <| W.sr rfl <| WL.rd to 2 rfl ?_
 rcases iteE H with ⟨bP, H⟩ | ⟨bP, H⟩
 ·refine W.nF bP rfl <| W.skip <| W.sr rfl <| WL.run to 1 rfl <| WL.lv bJ 2 1 rfl rfl Try.underlying28 rfl rfl <| WL.run to 1 rfl ?_
  obtain ⟨e8, H⟩ := guardE H
  obtain ⟨eT, eJ, bN, eq⟩ := (Row.sl Z) (by omega)
  refine WL.val (Yl.elemAddr (i := a) rfl rfl bN Try.underlying28 sz55 (by omega)) ?_
  obtain ⟨e7, ew, ex⟩ := eq a.toNat _ (getD_some (d := TJob.z) (by omega))
  obtain ⟨bj, bl, bo, a0, a6, bb, bk, bm, bp, dM, dN, dO, b2, b4, bD, rfl, c2, cV, cY, cR, bS, bQ, bR, bO, c3, cW, cZ, cS, eu, es, et, ep, dv, dt, du, di⟩ := TJob.open ew
  let b0 : List Go.Value := (TJob.q (b.Jobs.getD a.toNat TJob.z) bj bo bl a0 bb a6 bk bp bm dM dO dN b2 bD b4)
  refine WL.val (Yl.loadAgg (cs := b0) rfl Try.underlying55 rfl sz55 (fun j u hu => by rw [add_of]; exact ((Ctx.subI 5 bJ rfl)).cell (ex _ _ hu))) ?_
  let e9 : List Go.Value := [.slice none 0 0, iv 0, iv 0, iv 0, iv 0, .slice none 0 0, .slice none 0 0, .slice none 0 0, .slice none 0 0]
  obtain ⟨s, fb, dF, dR⟩ := ev_alloc (P := Try.prog) (e := 55) e9 bJ zr55 rfl
  refine WL.val (dF _ _) <| WL.st dR 0 0 b0 rfl rfl rfl rfl (Put.lit 0 rfl) (ones_of rfl) sz55 fun U (am : Cx [CH.row s 0 b0, CH.row m 0 S, CH.row E 0 N, CH.row x 0 A, CH.row B 0 M, J, y, p, r]) => ?_
  refine WL.done <| W.seq <| W.sr rfl <| WL.run to 1 rfl <| WL.lv am 0 1 rfl rfl Try.underlying3 rfl rfl <| WL.rd to 1 rfl ?_
  rcases iteE H with ⟨bv, H⟩ | ⟨bv, H⟩
  ·refine W.cT bv rfl <| W.sr rfl <| WL.la am 3 rfl rfl Try.underlying32 rfl sz32 <| WL.st am 1 0 A rfl rfl rfl rfl (Put.lit 0 rfl) (ones_of rfl) sz32 fun U (cA : Cx [CH.row s 0 b0, CH.row m 0 A, CH.row E 0 N, CH.row x 0 A, CH.row B 0 M, J, y, p, r]) => ?_
   refine WL.rd to 1 rfl <| W.ret <| thenE_r ?_
   have dS : Cx [J, y, p, r] := cA.pick [5, 6, 7, 8] rfl
   simp only [Option.some.injEq, Prod.mk.injEq] at H
   obtain ⟨eb, ec⟩ := H
   subst eb ec
   exact post_r (resET rfl ((.cell rfl (run_loadVA2 (g := m) (off := 0) (o := 0) (cs := A) (us := A) Try.underlying32 rfl sz32 (Ctx.subI 1 cA rfl) rfl) (.tmp rfl .nil))) rfl) ⟨F, be, bg, ba, J, bf, bh, aQ, y, ah, aj, ab, p, ai, ak, ac, r, rfl, (CH.le_refl _), dS, a9, a7, aL, Z, ar, ap, au, aq⟩
  refine W.cF bv rfl <| W.skip <| W.seq <| W.sr rfl <| WL.run to 1 rfl <| WL.lv am 0 5 rfl rfl Try.underlying29 rfl rfl <| WL.run to 1 rfl <| WL.lv am 2 37 rfl rfl Try.underlying3 rfl (at_skip 2 35 rfl (at_skip 32 3 (len_map a8) rfl)) ?_
  obtain ⟨eK, dk, H⟩ := bindE H
  refine WL.cq am (juratref21_place.calls k _ F a0 a6 bb ((b.Jobs.getD a.toNat TJob.z).Workers) aP.By am.pre0 bS bQ bR bO eK dk) (ne.fr rfl rfl) fun U an => ?_
  refine WL.rd to 1 rfl ?_
  rcases iteE H with ⟨bw, H⟩ | ⟨bw, H⟩
  ·refine W.cT bw rfl <| W.sr rfl <| WL.la an 3 rfl rfl Try.underlying32 rfl sz32 <| WL.st an 1 0 A rfl rfl rfl rfl (Put.lit 0 rfl) (ones_of rfl) sz32 fun U (cB : Cx [CH.row s 0 b0, CH.row m 0 A, CH.row E 0 N, CH.row x 0 A, CH.row B 0 M, J, y, p, r]) => ?_
   refine WL.rd to 1 rfl <| W.ret <| thenE_r ?_
   have dT : Cx [J, y, p, r] := cB.pick [5, 6, 7, 8] rfl
   simp only [Option.some.injEq, Prod.mk.injEq] at H
   obtain ⟨ed, ee⟩ := H
   subst ed ee
   exact post_r (resET rfl ((.cell rfl (run_loadVA2 (g := m) (off := 0) (o := 0) (cs := A) (us := A) Try.underlying32 rfl sz32 (Ctx.subI 1 cB rfl) rfl) (.tmp rfl .nil))) rfl) ⟨F, be, bg, ba, J, bf, bh, aQ, y, ah, aj, ab, p, ai, ak, ac, r, rfl, (CH.le_refl _), dT, a9, a7, aL, Z, ar, ap, au, aq⟩
  refine W.cF bw rfl <| W.skip <| W.sr rfl <| WL.run to 1 rfl <| WL.lv an 0 7 rfl rfl Try.underlying53 rfl rfl <| WL.run to 1 rfl <| WL.lv an 2 37 rfl rfl Try.underlying3 rfl (at_skip 2 35 rfl (at_skip 32 3 (len_map a8) rfl)) <| WL.run to 1 rfl <| WL.lv an 2 34 rfl rfl Try.underlying44 rfl (at_skip 2 32 rfl (at_skip 32 0 (len_map a8) rfl)) ?_
  refine WL.val (Yl.build (places := [(0, 1), (1, 1)]) (cs := List.toArray [iv aP.By, .slice bi bn a1]) Try.underlying79 zr79 (pl79 _ Try.underlying79) (partsB (.cons rfl (.cons rfl .nil))) rfl) ?_
  obtain ⟨⟨V, eL⟩, dl, H⟩ := bindE H
  refine WL.callH (juratref19_Cast.calls k _ F dM dN dO ((b.Jobs.getD a.toNat TJob.z).Votes) bi a1 bn (⟨aP.By, aP.Data⟩ : TCast) an.pre0 eu es et ep c1 cU cX cQ V eL dl) (ne.fr rfl rfl) ?_
  rintro en U ⟨d7, X, Y, aa, bY, rfl, h, dU, aV, dc⟩
  refine ⟨_, rfl, ?_⟩
  have bK : Cx [bY, CH.row s 0 b0, CH.row m 0 S, CH.row E 0 N, CH.row x 0 A, CH.row B 0 M, J, y, p, r] := Ctx.call0 an dU
  have b7 := Row.mono a7 h
  have b8 := Row.mono Z h
  have b9 := Row.mono ap h
  have ca := Row.mono aq h
  refine WL.rd to 5 rfl <| W.seq <| W.sr rfl <| WL.rd to 2 rfl ?_
  rcases iteE H with ⟨bx, H⟩ | ⟨bx, H⟩
  ·refine W.nF bx rfl <| W.skip <| W.sr rfl <| WL.run to 2 rfl ?_
   let b1 : List Go.Value := (TJob.q (b.Jobs.getD a.toNat TJob.z) bj bo bl a0 bb a6 bk bp bm X aa Y b2 bD b4)
   refine WL.st bK 1 7 [.slice X aa Y] rfl rfl rfl rfl (Put.lit 7 rfl) (ones_of rfl) sz53 fun U (cC : Cx [bY, CH.row s 0 b1, CH.row m 0 S, CH.row E 0 N, CH.row x 0 A, CH.row B 0 M, J, y, p, r]) => ?_
   refine WL.done <| W.sr rfl <| WL.run to 2 rfl <| WL.lv cC 5 0 rfl rfl Try.underlying3 rfl rfl ?_
   obtain ⟨L, l, dJ, br⟩ := Ctx.fzI 0 cC rfl
   replace br : Cx [CH.row s 0 b1, CH.row m 0 S, CH.row E 0 N, CH.row x 0 A, CH.row B 0 M, J, y, p, r] := br
   obtain ⟨aT, aU, aS⟩ := Row.fz dc l dJ
   have cb := Row.mono b7 l
   have cc := Row.mono b8 l
   have cd := Row.mono b9 l
   have ce := Row.mono ca l
   obtain ⟨⟨bd, eM⟩, dm, H⟩ := bindE H
   refine WL.callH (juratref19_Decide.calls k _ L X Y aa V da.Faulty br.pre0 aV aT aU aS bd eM dm) (ne.fr rfl rfl) ?_
   rintro en U ⟨bq, bt, bE, rfl, ⟨eH, rfl⟩, co, cm, cn, cl⟩
   refine ⟨_, rfl, ?_⟩
   have bs := Ctx.drewN br eH
   refine WL.rd to 5 rfl <| W.seq <| W.sr rfl <| WL.rd to 1 rfl ?_
   rcases iteE H with ⟨bz, H⟩ | ⟨bz, H⟩
   ·refine W.condT (congrArg Value.bool bz) <| W.sr rfl <| WL.run to 1 rfl ?_
    let fa : List Go.Value := [.slice bj bo bl, iv 3, iv ((b.Jobs.getD a.toNat TJob.z).Attempt), iv ((b.Jobs.getD a.toNat TJob.z).Epoch), iv ((b.Jobs.getD a.toNat TJob.z).Until), .slice a0 bb a6, .slice bk bp bm, .slice X aa Y, .slice b2 bD b4]
    refine WL.st bs 0 1 [iv 3] rfl rfl rfl rfl (Put.lit 1 rfl) (ones_of rfl) sz3 fun U (dV : Cx [CH.row s 0 fa, CH.row m 0 S, CH.row E 0 N, CH.row x 0 A, CH.row B 0 M, J, y, p, r]) => ?_
    refine WL.done <| W.sr rfl <| WL.run to 2 rfl ?_
    let aR : List Go.Value := [.slice bj bo bl, iv 3, iv ((b.Jobs.getD a.toNat TJob.z).Attempt), iv ((b.Jobs.getD a.toNat TJob.z).Epoch), iv ((b.Jobs.getD a.toNat TJob.z).Until), .slice a0 bb a6, .slice bk bp bm, .slice X aa Y, .slice bq bE bt]
    refine WL.st dV 0 8 [.slice bq bE bt] rfl rfl rfl rfl (Put.lit 8 rfl) (ones_of rfl) sz44 fun U (cD : Cx [CH.row s 0 aR, CH.row m 0 S, CH.row E 0 N, CH.row x 0 A, CH.row B 0 M, J, y, p, r]) => ?_
    refine WL.done <| W.sr rfl <| WL.run to 2 rfl ?_
    obtain ⟨T, dp, H⟩ := bindE H
    refine WL.callH (juratref19_Liars.calls k _ L X Y aa V bq bt bE bd cD.pre0 aV aT aU aS co cm cn cl T dp) (ne.fr rfl rfl) ?_
    rintro en U ⟨dQ, ea, eI, R, rfl, dW, e1, dd⟩
    refine ⟨_, rfl, ?_⟩
    have dX : Cx [R, CH.row s 0 aR, CH.row m 0 S, CH.row E 0 N, CH.row x 0 A, CH.row B 0 M, J, y, p, r] := Ctx.call0 cD dW
    refine WL.rd to 1 rfl <| W.sr rfl <| WL.rd to 1 rfl ?_
    obtain ⟨O, I, H⟩ := bindE H
    refine W.cutM (fun ao U => ∃ aW a2 aM ae aX a3 aw bZ aY a4 aN af aZ a5 aO ag, Kn ao [(4, .pointer (some ⟨x, 0, none⟩)), (6, .pointer (some ⟨m, 0, none⟩)), (8, iv a), (10, .pointer (some ⟨s, 0, none⟩))] ∧ Ctx w F D U L [CH.row x 0 (TState.q O aW aM a2 aX aw a3 aY aN a4 aZ aO a5), ae, bZ, af, ag, R, CH.row s 0 aR, CH.row m 0 S, CH.row E 0 N, CH.row B 0 M] ∧ aM = O.Eras.length ∧ Row TEra.K L ae (.slice aW aM a2) O.Eras ∧ aw = O.Jobs.length ∧ Row TJob.K L bZ (.slice aX aw a3) O.Jobs ∧ aN = O.Used.length ∧ Row (Kd.int .i64) L af (.slice aY aN a4) O.Used ∧ aO = O.Barred.length ∧ Row Kd.bool L ag (.slice aZ aO a5) O.Barred) ?_ ?_
    ·refine W.block ?_
     have dY : Cx [CH.row x 0 A, J, y, p, r, R, CH.row s 0 aR, CH.row m 0 S, CH.row E 0 N, CH.row B 0 M] := dX.pick [4, 6, 7, 8, 9, 0, 1, 2, 3, 5] rfl
     refine W.loop (fun eo ao U => ∃ (Q : Int) (G : TState), ∃ aD aH ax aA aE aI ay aB aF aJ az aC aG aK ad bG, Kn ao [(4, .pointer (some ⟨x, 0, none⟩)), (6, .pointer (some ⟨m, 0, none⟩)), (8, iv a), (10, .pointer (some ⟨s, 0, none⟩)), (14, .slice dQ eI ea), (15, iv Q)] ∧ Ctx w F D U L [CH.row x 0 (TState.q G aD ax aH aE ay aI aF az aJ aG ad aK), aA, aB, aC, bG, R, CH.row s 0 aR, CH.row m 0 S, CH.row E 0 N, CH.row B 0 M] ∧ ax = G.Eras.length ∧ Row TEra.K L aA (.slice aD ax aH) G.Eras ∧ ay = G.Jobs.length ∧ Row TJob.K L aB (.slice aE ay aI) G.Jobs ∧ az = G.Used.length ∧ Row (Kd.int .i64) L aC (.slice aF az aJ) G.Used ∧ ad = G.Barred.length ∧ Row Kd.bool L bG (.slice aG ad aK) G.Barred ∧ juratref21_vote.l1 eo T Q G = some O) k ⟨0, b, be, bg, ba, J, bf, bh, aQ, y, ah, aj, ab, p, ai, ak, ac, r, rfl, dY, a9, cb, aL, cc, ar, cd, au, ce, I⟩ ?_
     clear I
     rintro eo ao U ⟨Q, G, aD, aH, ax, aA, aE, aI, ay, aB, aF, aJ, az, aC, aG, aK, ad, bG, dC, cE, cp, cg, cr, ch, ct, ci, dz, bu, I⟩
     rcases eo with _ | eC
     · exact absurd I (by simp [juratref21_vote.l1])
     rw [juratref21_vote.l1] at I
     apply ks ao dC
     refine W.seq <| W.sr rfl <| WL.run to 2 rfl <| WL.ln (T.length : Int) rfl Try.underlying29 (by omega) <| WL.rd to 1 rfl ?_
     rcases iteE I with ⟨bA, I⟩ | ⟨bA, I⟩
     ·refine W.cT bA rfl <| W.skip <| W.seq <| W.block ?_
      let c9 : List Go.Value := TState.q G aD ax aH aE ay aI aF az aJ aG ad aK
      refine W.regionA [([7], CH.row x 0 c9), ([7], R)] (by kernel_rfl) ?_
      have bM := Ctx.drewN cE 1
      refine WA.takes [(0, none), (1, some 0), (2, none), (3, none), (4, none), (5, some 1), (6, none)] ⟨(Ctx.subI 0 bM rfl), (Ctx.subI 5 bM rfl), trivial⟩ (by kernel_rfl) <| WT.run to 1 rfl <| WT.lv 3 rfl rfl rfl Try.underlying30 rfl rfl <| WT.run to 2 rfl ?_
      obtain ⟨eW, I⟩ := guardE I
      obtain ⟨e6, e3, db, dj⟩ := (Row.sl dd) (by omega)
      refine WT.val rfl (fun _ hC_ => Yl.elemAddr (i := Q) rfl rfl db Try.underlying29 sz3 (by omega)) ?_
      obtain ⟨eV, dD, dE⟩ := dj Q.toNat _ (getD_some (d := 0) (by omega))
      obtain rfl := dD
      refine WT.val rfl (fun _ hC_ => Yl.load (v := iv (T.getD Q.toNat 0)) rfl Try.underlying3 rfl (((show Sub R _ from hC_)).cell (dE 0 _ rfl))) ?_
      obtain ⟨eX, I⟩ := guardE I
      obtain ⟨d8, dK, b5, eZ⟩ := (Row.sl bu) (by omega)
      refine WT.val rfl (fun _ hC_ => Yl.elemAddr (i := T.getD Q.toNat 0) rfl rfl b5 Try.underlying30 sz4 (by omega)) ?_
      refine WT.done ?_
      have dq : (T.getD Q.toNat 0).toNat < G.Barred.length := by first | omega | (simp only [List.length_set, List.length_replicate] at *; omega)
      obtain ⟨c4, fc, dG, dZ, dh⟩ := ev_store (P := Try.prog) (t := 4) Kd.bool [CH.row x 0 c9, aA, aB, aC] [R, CH.row s 0 aR, CH.row m 0 S, CH.row E 0 N, CH.row B 0 M] bM bu b5 (T.getD Q.toNat 0).toNat 0 dq false (.bool true) ([.bool true]) rfl (ones_of rfl) (Nat.le_of_ble_eq_true rfl) sz4 (true) (fun _ h_ => rep_whole h_ rfl) ⟨d8, dK + (T.getD Q.toNat 0).toNat * 1, none⟩ rfl
      have dA : ad = (G.Barred.set (T.getD Q.toNat 0).toNat true).length := by rw [List.length_set]; omega
      have d0 : Cx [CH.row x 0 c9, aA, aB, aC, c4, R, CH.row s 0 aR, CH.row m 0 S, CH.row E 0 N, CH.row B 0 M] := dZ
      refine WA.up1 7 (by kernel_rfl) (Up.skip rfl rfl (dG _ _ _ _ rfl rfl) ⟨trivial, trivial, trivial⟩ ?_)
      refine WA.done (by kernel_rfl) <| inB_n <| W.region rfl ?_
      exact WL.rd to 3 rfl <| thenE_n ⟨eC, Nat.lt_succ_self _, wi64 (Q + 1), (⟨G.Eras, G.Jobs, G.Used, G.Barred.set (T.getD Q.toNat 0).toNat true, G.Heads⟩ : TState), aD, aH, ax, aA, aE, aI, ay, aB, aF, aJ, az, aC, aG, aK, ad, c4, rfl, d0, cp, cg, cr, ch, ct, ci, dA, dh, I⟩
     refine W.cF bA rfl <| W.exit <| thenE_x <| thenE_x <| inB_here ?_
     cases I
     refine thenE_n ?_
     exact ⟨aD, aH, ax, aA, aE, aI, ay, aB, aF, aJ, az, aC, aG, aK, ad, bG, rfl, cE, cp, cg, cr, ch, ct, ci, dz, bu⟩
    ·rintro ao U ⟨aW, a2, aM, ae, aX, a3, aw, bZ, aY, a4, aN, af, aZ, a5, aO, ag, dB, bL, dw, de, e2, cf, dx, df, dy, dg⟩
     apply ks ao dB
     refine W.sr rfl <| WL.run to 1 rfl <| WL.lv bL 0 1 rfl rfl Try.underlying28 rfl rfl <| WL.run to 1 rfl <| WL.la bL 6 rfl rfl Try.underlying55 rfl sz55 ?_
     obtain ⟨eY, H⟩ := guardE H
     obtain ⟨d9, dL, b6, e0⟩ := (Row.sl cf) (by omega)
     refine WL.val (Yl.elemAddr (i := a) rfl rfl b6 Try.underlying28 sz55 (by omega)) ?_
     have dr : a.toNat < O.Jobs.length := by first | omega | (simp only [List.length_set, List.length_replicate] at *; omega)
     let bc : List Go.Value := TState.q O aW aM a2 aX aw a3 aY aN a4 aZ aO a5
     obtain ⟨bH, fd, dH, d1, cj⟩ := ev_store (P := Try.prog) (t := 55) TJob.K [CH.row x 0 bc, ae] [af, ag, R, CH.row s 0 aR, CH.row m 0 S, CH.row E 0 N, CH.row B 0 M] bL cf b6 a.toNat 0 dr TJob.z (.agg (List.toArray aR)) (aR) rfl (ones_of rfl) (Nat.le_of_ble_eq_true rfl) sz55 ((⟨(b.Jobs.getD a.toNat TJob.z).Payload, 3, (b.Jobs.getD a.toNat TJob.z).Attempt, (b.Jobs.getD a.toNat TJob.z).Epoch, (b.Jobs.getD a.toNat TJob.z).Until, (b.Jobs.getD a.toNat TJob.z).Workers, (b.Jobs.getD a.toNat TJob.z).Indexes, V, bd⟩ : TJob)) (fun _ h_ => rep_whole h_ (TJob.mk' _ (⟨(b.Jobs.getD a.toNat TJob.z).Payload, 3, (b.Jobs.getD a.toNat TJob.z).Attempt, (b.Jobs.getD a.toNat TJob.z).Epoch, (b.Jobs.getD a.toNat TJob.z).Until, (b.Jobs.getD a.toNat TJob.z).Workers, (b.Jobs.getD a.toNat TJob.z).Indexes, V, bd⟩ : TJob) bj bl bo a0 a6 bb bk bm bp X Y aa bq bt bE c2 cV cY (Sl.mono cR (CH.le_trans h l) (CH.le_trans h l)) bS bQ bR (Sl.mono bO (CH.le_trans h l) (CH.le_trans h l)) c3 cW cZ (Sl.mono cS (CH.le_trans h l) (CH.le_trans h l)) aV aT aU aS co cm cn cl)) ⟨d9, dL + a.toNat * 9, none⟩ rfl
     have cu : aw = (O.Jobs.set a.toNat (⟨(b.Jobs.getD a.toNat TJob.z).Payload, 3, (b.Jobs.getD a.toNat TJob.z).Attempt, (b.Jobs.getD a.toNat TJob.z).Epoch, (b.Jobs.getD a.toNat TJob.z).Until, (b.Jobs.getD a.toNat TJob.z).Workers, (b.Jobs.getD a.toNat TJob.z).Indexes, V, bd⟩ : TJob)).length := by rw [List.length_set]; omega
     obtain ⟨e4, bB, H⟩ := bindE H
     replace bB := Option.some.inj bB
     rw [bB] at cj cu
     have cG : Cx [CH.row x 0 bc, ae, bH, af, ag, R, CH.row s 0 aR, CH.row m 0 S, CH.row E 0 N, CH.row B 0 M] := d1
     refine WL.skip (dH _ _ _ _ rfl rfl) <| WL.done <| W.sr rfl <| WL.la cG 0 rfl rfl Try.underlying32 rfl sz32 <| WL.st cG 7 0 bc rfl rfl rfl rfl (Put.lit 0 rfl) (ones_of rfl) sz32 fun U (cH : Cx [CH.row x 0 bc, ae, bH, af, ag, R, CH.row s 0 aR, CH.row m 0 bc, CH.row E 0 N, CH.row B 0 M]) => ?_
     refine WL.rd to 1 rfl <| W.ret ?_
     have d2 : Cx [ae, bH, af, ag] := cH.pick [1, 2, 3, 4] rfl
     simp only [Option.some.injEq, Prod.mk.injEq] at H
     obtain ⟨ef, eg⟩ := H
     subst ef eg
     exact post_r (resET rfl ((.cell rfl (run_loadVA2 (g := m) (off := 0) (o := 0) (cs := bc) (us := bc) Try.underlying32 rfl sz32 (Ctx.subI 7 cH rfl) rfl) (.tmp rfl .nil))) rfl) ⟨L, aW, a2, aM, ae, aX, a3, aw, bH, aY, a4, aN, af, aZ, a5, aO, ag, rfl, (CH.le_trans h l), d2, dw, de, cu, cj, dx, df, dy, dg⟩
   refine W.condF (congrArg Value.bool (Bool.eq_false_iff.2 bz)) <| W.skip <| W.sr rfl <| WL.run to 1 rfl <| WL.lv bs 3 1 rfl rfl Try.underlying28 rfl rfl <| WL.run to 1 rfl <| WL.la bs 0 rfl rfl Try.underlying55 rfl sz55 <| WL.val (Yl.elemAddr (i := a) rfl rfl bN Try.underlying28 sz55 (by omega)) ?_
   have ds : a.toNat < b.Jobs.length := by first | omega | (simp only [List.length_set, List.length_replicate] at *; omega)
   obtain ⟨bI, fe, dI, d3, ck⟩ := ev_store (P := Try.prog) (t := 55) TJob.K [CH.row s 0 b1, CH.row m 0 S, CH.row E 0 N, CH.row x 0 A, CH.row B 0 M, J] [p, r] bs cc bN a.toNat 0 ds TJob.z (.agg (List.toArray b1)) (b1) rfl (ones_of rfl) (Nat.le_of_ble_eq_true rfl) sz55 ((⟨(b.Jobs.getD a.toNat TJob.z).Payload, (b.Jobs.getD a.toNat TJob.z).State, (b.Jobs.getD a.toNat TJob.z).Attempt, (b.Jobs.getD a.toNat TJob.z).Epoch, (b.Jobs.getD a.toNat TJob.z).Until, (b.Jobs.getD a.toNat TJob.z).Workers, (b.Jobs.getD a.toNat TJob.z).Indexes, V, (b.Jobs.getD a.toNat TJob.z).Value⟩ : TJob)) (fun _ h_ => rep_whole h_ (TJob.mk' _ (⟨(b.Jobs.getD a.toNat TJob.z).Payload, (b.Jobs.getD a.toNat TJob.z).State, (b.Jobs.getD a.toNat TJob.z).Attempt, (b.Jobs.getD a.toNat TJob.z).Epoch, (b.Jobs.getD a.toNat TJob.z).Until, (b.Jobs.getD a.toNat TJob.z).Workers, (b.Jobs.getD a.toNat TJob.z).Indexes, V, (b.Jobs.getD a.toNat TJob.z).Value⟩ : TJob) bj bl bo a0 a6 bb bk bm bp X Y aa b2 b4 bD c2 cV cY (Sl.mono cR (CH.le_trans h l) (CH.le_trans h l)) bS bQ bR (Sl.mono bO (CH.le_trans h l) (CH.le_trans h l)) c3 cW cZ (Sl.mono cS (CH.le_trans h l) (CH.le_trans h l)) aV aT aU aS dv dt du (Sl.mono di (CH.le_trans h l) (CH.le_trans h l)))) ⟨eT, eJ + a.toNat * 9, none⟩ rfl
   have cv : aQ = (b.Jobs.set a.toNat (⟨(b.Jobs.getD a.toNat TJob.z).Payload, (b.Jobs.getD a.toNat TJob.z).State, (b.Jobs.getD a.toNat TJob.z).Attempt, (b.Jobs.getD a.toNat TJob.z).Epoch, (b.Jobs.getD a.toNat TJob.z).Until, (b.Jobs.getD a.toNat TJob.z).Workers, (b.Jobs.getD a.toNat TJob.z).Indexes, V, (b.Jobs.getD a.toNat TJob.z).Value⟩ : TJob)).length := by rw [List.length_set]; omega
   obtain ⟨e5, bC, H⟩ := bindE H
   replace bC := Option.some.inj bC
   rw [bC] at ck cv
   have cI : Cx [CH.row s 0 b1, CH.row m 0 S, CH.row E 0 N, CH.row x 0 A, CH.row B 0 M, J, bI, p, r] := d3
   refine WL.skip (dI _ _ _ _ rfl rfl) <| WL.done <| W.sr rfl <| WL.la cI 3 rfl rfl Try.underlying32 rfl sz32 <| WL.st cI 1 0 A rfl rfl rfl rfl (Put.lit 0 rfl) (ones_of rfl) sz32 fun U (cJ : Cx [CH.row s 0 b1, CH.row m 0 A, CH.row E 0 N, CH.row x 0 A, CH.row B 0 M, J, bI, p, r]) => ?_
   refine WL.rd to 1 rfl <| W.ret ?_
   have d4 : Cx [J, bI, p, r] := cJ.pick [5, 6, 7, 8] rfl
   simp only [Option.some.injEq, Prod.mk.injEq] at H
   obtain ⟨eh, ei⟩ := H
   subst eh ei
   exact post_r (resET rfl ((.cell rfl (run_loadVA2 (g := m) (off := 0) (o := 0) (cs := A) (us := A) Try.underlying32 rfl sz32 (Ctx.subI 1 cJ rfl) rfl) (.tmp rfl .nil))) rfl) ⟨L, be, bg, ba, J, bf, bh, aQ, bI, ah, aj, ab, p, ai, ak, ac, r, rfl, (CH.le_trans h l), d4, a9, cb, cv, ck, ar, cd, au, ce⟩
  refine W.nT bx rfl <| W.sr rfl <| WL.la bK 4 rfl rfl Try.underlying32 rfl sz32 <| WL.run to 1 rfl <| WL.st bK 2 0 A rfl rfl rfl rfl (Put.lit 0 rfl) (ones_of rfl) sz32 fun U (cK : Cx [bY, CH.row s 0 b0, CH.row m 0 A, CH.row E 0 N, CH.row x 0 A, CH.row B 0 M, J, y, p, r]) => ?_
  refine WL.rd to 1 rfl <| W.ret <| thenE_r ?_
  have d5 : Cx [J, y, p, r] := cK.pick [6, 7, 8, 9] rfl
  simp only [Option.some.injEq, Prod.mk.injEq] at H
  obtain ⟨ej, ek⟩ := H
  subst ej ek
  exact post_r (resET rfl ((.cell rfl (run_loadVA2 (g := m) (off := 0) (o := 0) (cs := A) (us := A) Try.underlying32 rfl sz32 (Ctx.subI 2 cK rfl) rfl) (.tmp rfl .nil))) rfl) ⟨d7, be, bg, ba, J, bf, bh, aQ, y, ah, aj, ab, p, ai, ak, ac, r, rfl, h, d5, a9, b7, aL, b8, ar, b9, au, ca⟩
 refine W.nT bP rfl <| W.sr rfl <| WL.la bJ 2 rfl rfl Try.underlying32 rfl sz32 <| WL.run to 1 rfl <| WL.st bJ 0 0 A rfl rfl rfl rfl (Put.lit 0 rfl) (ones_of rfl) sz32 fun U (cL : Cx [CH.row m 0 A, CH.row E 0 N, CH.row x 0 A, CH.row B 0 M, J, y, p, r]) => ?_
 refine WL.rd to 1 rfl <| W.ret <| thenE_r ?_
 have d6 : Cx [J, y, p, r] := cL.pick [4, 5, 6, 7] rfl
 simp only [Option.some.injEq, Prod.mk.injEq] at H
 obtain ⟨el, em⟩ := H
 subst el em
 exact post_r (resET rfl ((.cell rfl (run_loadVA2 (g := m) (off := 0) (o := 0) (cs := A) (us := A) Try.underlying32 rfl sz32 (Ctx.subI 0 cL rfl) rfl) (.tmp rfl .nil))) rfl) ⟨F, be, bg, ba, J, bf, bh, aQ, y, ah, aj, ab, p, ai, ak, ac, r, rfl, (CH.le_refl _), d6, a9, a7, aL, Z, ar, ap, au, aq⟩
def juratref21_expire.f (k : Nat) (a : TState) (g : TRecord) : Option (TState × Int) := (juratref21_job.f k a g).bind fun ⟨b, e⟩ => if e = 0 then (if 0 ≤ b ∧ b < (a.Jobs.length : Int) then (if ((a.Jobs.getD b.toNat TJob.z).State) = 2 then (if g.Time < ((a.Jobs.getD b.toNat TJob.z).Until) then (some (a, 213)) else ((some (a.Jobs.set b.toNat (⟨(a.Jobs.getD b.toNat TJob.z).Payload, 1, (a.Jobs.getD b.toNat TJob.z).Attempt, 0, 0, ([] : List Int), ([] : List Int), ([] : List TCast), ([] : List Int)⟩ : TJob))).bind fun d => some ((⟨a.Eras, d, a.Used, a.Barred, a.Heads⟩ : TState), 0))) else (some (a, 212))) else none) else (some (a, e))
theorem juratref21_expire.calls (k w F ae ah ac r af aj V j M O I a N Q J b) (m : TState) (aw ai aA) (ag : TRecord) (hp : Pre w F [r, j, a, b]) (ak : ac = m.Eras.length) (S : Row TEra.K F r (.slice ae ac ah) m.Eras) (Z : V = m.Jobs.length) (u : Row TJob.K F j (.slice af V aj) m.Jobs) (T : I = m.Used.length) (B : Row (Kd.int .i64) F a (.slice M I O) m.Used) (U : J = m.Barred.length) (E : Row Kd.bool F b (.slice N J Q) m.Barred) (an : ag.Nonce.length = 32) (bl : aA = ag.Data.length) (bh : ag.Data.length ≤ ai) (bj : ai ≤ maxLen) (bd : Sl (Kd.int .u8) F F aw ag.Data) (A : TState) (aZ : Int) (H : juratref21_expire.f k m ag = some (A, aZ)) :
    Calls Try.prog 47 #[.agg (List.toArray (TState.q m ae ac ah af V aj M I O N J Q)), .agg (List.toArray ((TRecord.q ag aw aA ai)))] w fun e w' => ∃ F' aB aL ap aR aC aM aq aS aD aN ar aT aE aO au aU, e = .returned (.tuple #[(.agg (List.toArray (TState.q A aB ap aL aC aq aM aD ar aN aE au aO))), (iv aZ)]) ∧ CH.le F F' ∧ Ctx w F (domL [r, j, a, b]) w' F' [aR, aS, aT, aU] ∧ ap = A.Eras.length ∧ Row TEra.K F' aR (.slice aB ap aL) A.Eras ∧ aq = A.Jobs.length ∧ Row TJob.K F' aS (.slice aC aq aM) A.Jobs ∧ ar = A.Used.length ∧ Row (Kd.int .i64) F' aT (.slice aD ar aN) A.Used ∧ au = A.Barred.length ∧ Row Kd.bool F' aU (.slice aE au aO) A.Barred := by
 have C := Ctx.start hp
 generalize hD : domL [r, j, a, b] = D at C ⊢
 unfold juratref21_expire.f at H
 refine Calls.ofW Try.func47 rfl (by simp [Try.ntmps47]) <| W.sr rfl ?_
 let l : List Go.Value := TState.q m ae ac ah af V aj M I O N J Q
 obtain ⟨s, cd, bo, bx⟩ := ev_box (P := Try.prog) 32 (.agg (List.toArray l)) l C rfl
 refine WL.val (bo _ _ _ rfl) ?_
 let R : List Go.Value := TRecord.q ag aw aA ai
 obtain ⟨y, ce, bp, bz⟩ := ev_box (P := Try.prog) 46 (.agg (List.toArray R)) R bx rfl
 refine WL.val (bp _ _ _ rfl) ?_
 let av : List Go.Value := [.slice none 0 0, .slice none 0 0, .slice none 0 0, .slice none 0 0, iv 0]
 obtain ⟨p, cf, bq, ax⟩ := ev_alloc (P := Try.prog) (e := 32) av bz zr32 rfl
 refine WL.val (bq _ _) <| WL.rd to 1 rfl <| W.sr rfl <| WL.la ax 2 rfl rfl Try.underlying32 rfl sz32 <| WL.la ax 1 rfl rfl Try.underlying46 rfl (sz_of sz46 (len_app rfl (len_app (len_map an) rfl))) ?_
 obtain ⟨bC, G, ⟨br, bs, bt, bu, _⟩, bA⟩ := Ctx.lend [r, j, a, b] (ps := [CH.row p 0 av, CH.row y 0 R, CH.row s 0 l]) (Ctx.pick [3, 4, 5, 6, 0, 1, 2] ax rfl)
 obtain ⟨⟨h, bE⟩, bg, H⟩ := bindE H
 refine WL.callH (juratref21_job.calls k _ bC ae ah ac af aj V M O I N Q J m aw ai aA ag (Ctx.pre (qs := []) (rest := [CH.row p 0 av, CH.row y 0 R, CH.row s 0 l]) bA) ak (Row.len_le S).1 (Row.len_le S).2.1 (Sl.mono (Row.sl S) G br) Z (Row.len_le u).1 (Row.len_le u).2.1 (Sl.mono (Row.sl u) G bs) T (Row.len_le B).1 (Row.len_le B).2.1 (Sl.mono (Row.sl B) G bt) U (Row.len_le E).1 (Row.len_le E).2.1 (Sl.mono (Row.sl E) G bu) an bl bh bj (Sl.mono bd G G) h bE bg) (ne.fr rfl rfl) ?_
 rintro cg aY ⟨rfl, bB⟩
 refine ⟨_, rfl, ?_⟩
 have x : Cx [CH.row p 0 av, CH.row y 0 R, CH.row s 0 l, r, j, a, b] := Ctx.callL (qs := []) (rest := [CH.row p 0 av, CH.row y 0 R, CH.row s 0 l, r, j, a, b]) ax G bB
 refine WL.rd to 5 rfl <| W.seq <| W.sr rfl <| WL.rd to 2 rfl ?_
 rcases iteE H with ⟨ao, H⟩ | ⟨ao, H⟩
 ·refine W.nF ao rfl <| W.skip <| W.seq <| W.sr rfl <| WL.run to 1 rfl <| WL.lv x 2 1 rfl rfl Try.underlying28 rfl rfl <| WL.run to 1 rfl ?_
  obtain ⟨bM, H⟩ := guardE H
  obtain ⟨bD, bv, L, bf⟩ := (Row.sl u) (by omega)
  refine WL.val (Yl.elemAddr (i := h) rfl rfl L Try.underlying28 sz55 (by omega)) <| WL.run to 1 rfl ?_
  obtain ⟨bI, bn, ab⟩ := bf h.toNat _ (getD_some (d := TJob.z) (by omega))
  obtain ⟨aF, aP, aQ, b1, b5, b9, b2, b6, ca, b3, b7, cb, b4, b8, cc, rfl, bm, bi, bk, be, bW, bN, bR, bJ, bX, bO, bS, bK, bY, bP, bU, bL, bZ, bQ, bV, bG⟩ := TJob.open bn
  refine WL.val (Yl.load (v := iv ((m.Jobs.getD h.toNat TJob.z).State)) rfl Try.underlying3 rfl (((Ctx.subI 4 x rfl)).cell (ab 1 _ rfl))) <| WL.rd to 1 rfl ?_
  rcases iteE H with ⟨X, H⟩ | ⟨X, H⟩
  ·refine W.nF X rfl <| W.skip <| W.seq <| W.seq <| W.region_quiet (by kernel_rfl) (by kernel_rfl) rfl ?_
   refine WQ.run to 1 rfl <| WQ.lv x 1 36 rfl rfl Try.underlying3 rfl (at_skip 2 34 rfl (at_skip 32 2 (len_map an) rfl)) <| WQ.run to 1 rfl <| WQ.lv x 2 1 rfl rfl Try.underlying28 rfl rfl <| WQ.run to 1 rfl <| WQ.vl (fun _ => Yl.elemAddr (i := h) rfl rfl L Try.underlying28 sz55 (by omega)) ?_
   refine WQ.run to 1 rfl <| WQ.vl (fun _ => Yl.load (v := iv ((m.Jobs.getD h.toNat TJob.z).Until)) rfl Try.underlying3 rfl (((Ctx.subI 4 (x.drewN _) rfl)).cell (ab 4 _ rfl))) ?_
   refine WQ.run to 1 rfl <| WQ.done (fun aX => ?_)
   have al := Ctx.drewN x aX
   rcases iteE H with ⟨Y, H⟩ | ⟨Y, H⟩
   ·refine W.cT Y rfl <| W.sr rfl <| WL.la al 2 rfl rfl Try.underlying32 rfl sz32 <| WL.st al 0 0 l rfl rfl rfl rfl (Put.lit 0 rfl) (ones_of rfl) sz32 fun aY (aG : Cx [CH.row p 0 l, CH.row y 0 R, CH.row s 0 l, r, j, a, b]) => ?_
    refine WL.rd to 1 rfl <| W.ret <| thenE_r ?_
    have a0 : Cx [r, j, a, b] := aG.pick [3, 4, 5, 6] rfl
    simp only [Option.some.injEq, Prod.mk.injEq] at H
    obtain ⟨a5, a6⟩ := H
    subst a5 a6
    exact post_r (resET rfl ((.cell rfl (run_loadVA2 (g := p) (off := 0) (o := 0) (cs := l) (us := l) Try.underlying32 rfl sz32 (Ctx.subI 0 aG rfl) rfl) (.tmp rfl .nil))) rfl) ⟨F, ae, ah, ac, r, af, aj, V, j, M, O, I, a, N, Q, J, b, rfl, (CH.le_refl _), a0, ak, S, Z, u, T, B, U, E⟩
   refine W.cF Y rfl <| W.skip <| W.seq <| W.regionA [([17], CH.row s 0 l), ([17], j)] (by kernel_rfl) ?_
   have am := Ctx.drewN al 1
   refine WA.takes [(0, none), (1, some 0), (2, none), (3, none), (4, some 0), (5, none), (6, none), (7, none), (8, some 1), (9, none), (10, some 0), (11, none), (12, none), (13, none), (14, some 1), (15, none), (16, none)] ⟨(Ctx.subI 2 am rfl), (Ctx.subI 4 am rfl), trivial⟩ (by kernel_rfl) <| WT.run to 1 rfl <| WT.lv 1 rfl rfl rfl Try.underlying28 rfl rfl <| WT.run to 2 rfl <| WT.lv 1 rfl rfl rfl Try.underlying28 rfl rfl <| WT.run to 1 rfl <| WT.val rfl (fun _ hC_ => Yl.elemAddr (i := h) rfl rfl L Try.underlying28 sz55 (by omega)) ?_
   refine WT.run to 1 rfl <| WT.val rfl (fun _ hC_ => Yl.load (v := .slice aF aQ aP) rfl Try.underlying44 rfl (((show Sub j _ from hC_)).cell (ab 0 _ rfl))) ?_
   refine WT.run to 1 rfl <| WT.lv 1 rfl rfl rfl Try.underlying28 rfl rfl <| WT.run to 1 rfl <| WT.val rfl (fun _ hC_ => Yl.elemAddr (i := h) rfl rfl L Try.underlying28 sz55 (by omega)) ?_
   refine WT.run to 1 rfl <| WT.val rfl (fun _ hC_ => Yl.load (v := iv ((m.Jobs.getD h.toNat TJob.z).Attempt)) rfl Try.underlying3 rfl (((show Sub j _ from hC_)).cell (ab 2 _ rfl))) ?_
   let bw : List Go.Value := [.slice aF aQ aP, iv 1, iv ((m.Jobs.getD h.toNat TJob.z).Attempt), iv 0, iv 0, .slice none 0 0, .slice none 0 0, .slice none 0 0, .slice none 0 0]
   refine WT.val rfl (fun _ hC_ => Yl.build (places := [(0, 1), (1, 1), (2, 1), (3, 1), (4, 1), (5, 1), (6, 1), (7, 1), (8, 1)]) (cs := List.toArray bw) Try.underlying55 zr55 (pl55 _ Try.underlying55) (partsB (.cons rfl (.cons rfl (.cons rfl .nil)))) rfl) ?_
   refine WT.val rfl (fun _ hC_ => Yl.elemAddr (i := h) rfl rfl L Try.underlying28 sz55 (by omega)) ?_
   refine WT.done ?_
   have aV : h.toNat < m.Jobs.length := by first | omega | (simp only [List.length_set, List.length_replicate] at *; omega)
   obtain ⟨ad, b0, aW, a1, ay⟩ := ev_store (P := Try.prog) (t := 55) TJob.K [CH.row p 0 av, CH.row y 0 R, CH.row s 0 l, r] [a, b] am u L h.toNat 0 aV TJob.z (.agg (List.toArray bw)) (bw) rfl (ones_of rfl) (Nat.le_of_ble_eq_true rfl) sz55 ((⟨(m.Jobs.getD h.toNat TJob.z).Payload, 1, (m.Jobs.getD h.toNat TJob.z).Attempt, 0, 0, ([] : List Int), ([] : List Int), ([] : List TCast), ([] : List Int)⟩ : TJob)) (fun _ h_ => rep_whole h_ (TJob.mk' _ (⟨(m.Jobs.getD h.toNat TJob.z).Payload, 1, (m.Jobs.getD h.toNat TJob.z).Attempt, 0, 0, ([] : List Int), ([] : List Int), ([] : List TCast), ([] : List Int)⟩ : TJob) aF aP aQ none 0 0 none 0 0 none 0 0 none 0 0 bm bi bk be rfl (Nat.le_refl _) (Nat.zero_le _) (Sl.nil _ _ _ _) rfl (Nat.le_refl _) (Nat.zero_le _) (Sl.nil _ _ _ _) rfl (Nat.le_refl _) (Nat.zero_le _) (Sl.nil _ _ _ _) rfl (Nat.le_refl _) (Nat.zero_le _) (Sl.nil _ _ _ _))) ⟨bD, bv + h.toNat * 9, none⟩ rfl
   have az : V = (m.Jobs.set h.toNat (⟨(m.Jobs.getD h.toNat TJob.z).Payload, 1, (m.Jobs.getD h.toNat TJob.z).Attempt, 0, 0, ([] : List Int), ([] : List Int), ([] : List TCast), ([] : List Int)⟩ : TJob)).length := by rw [List.length_set]; omega
   obtain ⟨bH, aa, H⟩ := bindE H
   replace aa := Option.some.inj aa
   rw [aa] at ay az
   have aH : Cx [CH.row p 0 av, CH.row y 0 R, CH.row s 0 l, r, ad, a, b] := a1
   refine WA.up1 17 (by kernel_rfl) (Up.skip rfl rfl (aW _ _ _ _ rfl rfl) ⟨trivial, trivial, trivial⟩ ?_)
   refine WA.done (by kernel_rfl) <| W.sr rfl <| WL.la aH 2 rfl rfl Try.underlying32 rfl sz32 <| WL.st aH 0 0 l rfl rfl rfl rfl (Put.lit 0 rfl) (ones_of rfl) sz32 fun aY (aI : Cx [CH.row p 0 l, CH.row y 0 R, CH.row s 0 l, r, ad, a, b]) => ?_
   refine WL.rd to 1 rfl <| W.ret ?_
   have a2 : Cx [r, ad, a, b] := aI.pick [3, 4, 5, 6] rfl
   simp only [Option.some.injEq, Prod.mk.injEq] at H
   obtain ⟨a7, a8⟩ := H
   subst a7 a8
   exact post_r (resET rfl ((.cell rfl (run_loadVA2 (g := p) (off := 0) (o := 0) (cs := l) (us := l) Try.underlying32 rfl sz32 (Ctx.subI 0 aI rfl) rfl) (.tmp rfl .nil))) rfl) ⟨F, ae, ah, ac, r, af, aj, V, ad, M, O, I, a, N, Q, J, b, rfl, (CH.le_refl _), a2, ak, S, az, ay, T, B, U, E⟩
  refine W.nT X rfl <| W.sr rfl <| WL.la x 2 rfl rfl Try.underlying32 rfl sz32 <| WL.st x 0 0 l rfl rfl rfl rfl (Put.lit 0 rfl) (ones_of rfl) sz32 fun aY (aJ : Cx [CH.row p 0 l, CH.row y 0 R, CH.row s 0 l, r, j, a, b]) => ?_
  refine WL.rd to 1 rfl <| W.ret <| thenE_r ?_
  have a3 : Cx [r, j, a, b] := aJ.pick [3, 4, 5, 6] rfl
  simp only [Option.some.injEq, Prod.mk.injEq] at H
  obtain ⟨a9, ba⟩ := H
  subst a9 ba
  exact post_r (resET rfl ((.cell rfl (run_loadVA2 (g := p) (off := 0) (o := 0) (cs := l) (us := l) Try.underlying32 rfl sz32 (Ctx.subI 0 aJ rfl) rfl) (.tmp rfl .nil))) rfl) ⟨F, ae, ah, ac, r, af, aj, V, j, M, O, I, a, N, Q, J, b, rfl, (CH.le_refl _), a3, ak, S, Z, u, T, B, U, E⟩
 refine W.nT ao rfl <| W.sr rfl <| WL.la x 2 rfl rfl Try.underlying32 rfl sz32 <| WL.run to 1 rfl <| WL.st x 0 0 l rfl rfl rfl rfl (Put.lit 0 rfl) (ones_of rfl) sz32 fun aY (aK : Cx [CH.row p 0 l, CH.row y 0 R, CH.row s 0 l, r, j, a, b]) => ?_
 refine WL.rd to 1 rfl <| W.ret <| thenE_r ?_
 have a4 : Cx [r, j, a, b] := aK.pick [3, 4, 5, 6] rfl
 simp only [Option.some.injEq, Prod.mk.injEq] at H
 obtain ⟨bb, bc⟩ := H
 subst bb bc
 exact post_r (resET rfl ((.cell rfl (run_loadVA2 (g := p) (off := 0) (o := 0) (cs := l) (us := l) Try.underlying32 rfl sz32 (Ctx.subI 0 aK rfl) rfl) (.tmp rfl .nil))) rfl) ⟨F, ae, ah, ac, r, af, aj, V, j, M, O, I, a, N, Q, J, b, rfl, (CH.le_refl _), a4, ak, S, Z, u, T, B, U, E⟩
def juratref21_does.l1 : Nat → Int → TState → Option TState
  | 0, _, _ => none
  | k + 1, b, a => if b < (a.Jobs.length : Int) then (if 0 ≤ b ∧ b < (a.Jobs.length : Int) then (if ((a.Jobs.getD b.toNat TJob.z).State) = 2 then ((some (a.Jobs.set b.toNat (⟨(a.Jobs.getD b.toNat TJob.z).Payload, 1, (a.Jobs.getD b.toNat TJob.z).Attempt, 0, 0, ([] : List Int), ([] : List Int), ([] : List TCast), ([] : List Int)⟩ : TJob))).bind fun d => juratref21_does.l1 k (wi64 (b + 1)) (⟨a.Eras, d, a.Used, a.Barred, a.Heads⟩ : TState)) else (juratref21_does.l1 k (wi64 (b + 1)) a)) else none) else (some a)
def juratref21_does.f (k : Nat) (d : TConfig) (a : TState) (b : TRecord) : Option (TState × Int) := if b.Kind = 1 then ((juratref21_Epoch.f k a).bind fun o => if b.Epoch ≤ o then (some (a, 210)) else (if (a.Eras.length : Int) ≥ 256 then (some (a, 90)) else (if (a.Eras.length + 1 + (a.Eras.length + 1) / 4 + 192) * 40 ≤ 281474976710656 then ((juratref21_does.l1 k 0 (⟨a.Eras ++ [(⟨b.Epoch, b.Nonce⟩ : TEra)], a.Jobs, a.Used, a.Barred, a.Heads⟩ : TState)).bind fun m => some (m, 0)) else none))) else (if b.Kind = 2 then (if (a.Eras.length : Int) = 0 then (some (a, 210)) else (if (a.Jobs.length : Int) ≥ d.Jobs then (some (a, 90)) else (if (b.Data.length + b.Data.length / 4 + 192) * 1 ≤ 281474976710656 then (if (a.Jobs.length + 1 + (a.Jobs.length + 1) / 4 + 192) * 152 ≤ 281474976710656 then (some ((⟨a.Eras, a.Jobs ++ [(⟨b.Data, 1, 0, 0, 0, ([] : List Int), ([] : List Int), ([] : List TCast), ([] : List Int)⟩ : TJob)], a.Used, a.Barred, a.Heads⟩ : TState), 0)) else none) else none))) else (if b.Kind = 3 then ((juratref21_assign.f k d a b).bind fun ⟨e, g⟩ => some (e, g)) else (if b.Kind = 4 then ((juratref21_vote.f k d a b).bind fun ⟨h, i⟩ => some (h, i)) else (if b.Kind = 5 then ((juratref21_expire.f k a b).bind fun ⟨j, l⟩ => some (j, l)) else (if b.Kind = 6 then (if (a.Eras.length : Int) = 0 then (some (a, 210)) else (if 0 ≤ d.Heads then (if a.Heads = (shlOp .i64 1 d.Heads) then (some (a, 70)) else (some ((⟨a.Eras, a.Jobs, a.Used, a.Barred, wi64 (a.Heads + 1)⟩ : TState), 0))) else none)) else (some (a, 0)))))))
theorem juratref21_does.calls (k w F) (bY : TConfig) (al an ah A am ao aj l S U Q h T V R j) (Z : TState) (a7 aV a8) (ab : TRecord) (hp : Pre w F [A, l, h, j]) (ag : ah = Z.Eras.length) (ac : Row TEra.K F A (.slice al ah an) Z.Eras) (aa : aj = Z.Jobs.length) (L : Row TJob.K F l (.slice am aj ao) Z.Jobs) (X : Q = Z.Used.length) (M : Row (Kd.int .i64) F h (.slice S Q U) Z.Used) (Y : R = Z.Barred.length) (N : Row Kd.bool F j (.slice T R V) Z.Barred) (ae : ab.Nonce.length = 32) (bv : a8 = ab.Data.length) (b3 : ab.Data.length ≤ aV) (b4 : aV ≤ maxLen) (bj : Sl (Kd.int .u8) F F a7 ab.Data) (az : TState) (eY : Int) (H : juratref21_does.f k bY Z ab = some (az, eY)) :
    Calls Try.prog 34 #[.agg (List.toArray (TConfig.q bY)), .agg (List.toArray (TState.q Z al ah an am aj ao S Q U T R V)), .agg (List.toArray ((TRecord.q ab a7 a8 aV)))] w fun e w' => ∃ F' cz db b6 dy cA dc b7 dz cB dd b8 dA cC de b9 dB, e = .returned (.tuple #[(.agg (List.toArray (TState.q az cz b6 db cA b7 dc cB b8 dd cC b9 de))), (iv eY)]) ∧ CH.le F F' ∧ Ctx w F (domL [A, l, h, j]) w' F' [dy, dz, dA, dB] ∧ b6 = az.Eras.length ∧ Row TEra.K F' dy (.slice cz b6 db) az.Eras ∧ b7 = az.Jobs.length ∧ Row TJob.K F' dz (.slice cA b7 dc) az.Jobs ∧ b8 = az.Used.length ∧ Row (Kd.int .i64) F' dA (.slice cB b8 dd) az.Used ∧ b9 = az.Barred.length ∧ Row Kd.bool F' dB (.slice cC b9 de) az.Barred := by
 have C := Ctx.start hp
 generalize hD : domL [A, l, h, j] = D at C ⊢
 unfold juratref21_does.f at H
 refine Calls.ofW Try.func34 rfl (by simp [Try.ntmps34]) <| W.sr rfl ?_
 let E : List Go.Value := TConfig.q bY
 obtain ⟨u, hf, f0, gf⟩ := ev_box (P := Try.prog) 23 (.agg (List.toArray E)) E C rfl
 refine WL.val (f0 _ _ _ rfl) ?_
 let x : List Go.Value := TState.q Z al ah an am aj ao S Q U T R V
 obtain ⟨p, hg, f1, gg⟩ := ev_box (P := Try.prog) 32 (.agg (List.toArray x)) x gf rfl
 refine WL.val (f1 _ _ _ rfl) ?_
 let B : List Go.Value := TRecord.q ab a7 a8 aV
 obtain ⟨s, hh, f2, gh⟩ := ev_box (P := Try.prog) 46 (.agg (List.toArray B)) B gg rfl
 refine WL.val (f2 _ _ _ rfl) ?_
 let O : List Go.Value := [.slice none 0 0, .slice none 0 0, .slice none 0 0, .slice none 0 0, iv 0]
 obtain ⟨b, hi, f3, J⟩ := ev_alloc (P := Try.prog) (e := 32) O gh zr32 rfl
 refine WL.val (f3 _ _) <| WL.rd to 1 rfl <| W.seq <| W.sr rfl <| WL.run to 1 rfl <| WL.lv J 1 0 rfl rfl Try.underlying3 rfl rfl <| WL.done <| W.block <| W.sr rfl ?_
 refine WL.rd to 2 rfl ?_
 rcases iteE H with ⟨b0, H⟩ | ⟨b0, H⟩
 ·refine W.cT b0 rfl <| W.seq <| W.seq <| W.regionA [([], CH.row s 0 B), ([3], CH.row p 0 x)] (by kernel_rfl) ?_
  have ca := Ctx.drewN J 1
  refine WA.takes [(0, none), (1, some 0), (2, some 1)] ⟨(Ctx.subI 1 ca rfl), (Ctx.subI 2 ca rfl), trivial⟩ (by kernel_rfl) <| WT.run to 1 rfl <| WT.lv 1 rfl rfl rfl Try.underlying3 rfl rfl <| WT.val rfl (fun _ hC_ => Yl.loadVA (g := p) (off := 0) (o := 0) (cs := x) (us := x) rfl Try.underlying32 rfl sz32 (show Sub (CH.row p 0 x) _ from hC_) rfl) ?_
  refine WT.done ?_
  obtain ⟨gm, a5, ⟨f5, f6, f7, f8, _⟩, gi⟩ := Ctx.lend [A, l, h, j] (ps := [CH.row b 0 O, CH.row s 0 B, CH.row p 0 x, CH.row u 0 E]) (Ctx.pick [4, 5, 6, 7, 0, 1, 2, 3] ca rfl)
  obtain ⟨gu, fY, H⟩ := bindE H
  refine WA.up1 3 (by kernel_rfl) (Up.callH rfl (by kernel_rfl) rfl (juratref21_Epoch.calls k _ gm al an ah am ao aj S U Q T V R Z (Ctx.pre (qs := []) (rest := [CH.row b 0 O, CH.row s 0 B, CH.row p 0 x, CH.row u 0 E]) gi) ag (Row.len_le ac).1 (Row.len_le ac).2.1 (Sl.mono (Row.sl ac) a5 f5) aa (Row.len_le L).1 (Row.len_le L).2.1 (Sl.mono (Row.sl L) a5 f6) X (Row.len_le M).1 (Row.len_le M).2.1 (Sl.mono (Row.sl M) a5 f7) Y (Row.len_le N).1 (Row.len_le N).2.1 (Sl.mono (Row.sl N) a5 f8) gu fY) (ne.fr rfl rfl) ?_)
  rintro fU ad ⟨rfl, gj⟩
  have ak : Cx [CH.row b 0 O, CH.row s 0 B, CH.row p 0 x, CH.row u 0 E, A, l, h, j] := Ctx.callL (qs := []) (rest := [CH.row b 0 O, CH.row s 0 B, CH.row p 0 x, CH.row u 0 E, A, l, h, j]) ca a5 gj
  refine ⟨_, rfl, ⟨(Ctx.subI 1 ak rfl), trivial, trivial⟩, ?_⟩
  refine WA.takes [(4, none)] ⟨(Ctx.subI 1 ak rfl), (Ctx.subI 2 ak rfl), trivial⟩ (by kernel_rfl) <| WT.run to 1 rfl <| WT.done <| WA.done (by kernel_rfl) ?_
  rcases iteE H with ⟨b1, H⟩ | ⟨b1, H⟩
  ·refine W.cT b1 rfl <| W.sr rfl <| WL.la ak 2 rfl rfl Try.underlying32 rfl sz32 <| WL.st ak 0 0 x rfl rfl rfl rfl (Put.lit 0 rfl) (ones_of rfl) sz32 fun ad (eU : Cx [CH.row b 0 x, CH.row s 0 B, CH.row p 0 x, CH.row u 0 E, A, l, h, j]) => ?_
   refine WL.rd to 1 rfl <| W.ret ?_
   iterate 3 first | refine inB_r ?_ | refine thenE_r ?_
   have gk : Cx [A, l, h, j] := eU.pick [4, 5, 6, 7] rfl
   simp only [Option.some.injEq, Prod.mk.injEq] at H
   obtain ⟨go, gp⟩ := H
   subst go gp
   exact post_r (resET rfl ((.cell rfl (run_loadVA2 (g := b) (off := 0) (o := 0) (cs := x) (us := x) Try.underlying32 rfl sz32 (Ctx.subI 0 eU rfl) rfl) (.tmp rfl .nil))) rfl) ⟨F, al, an, ah, A, am, ao, aj, l, S, U, Q, h, T, V, R, j, rfl, (CH.le_refl _), gk, ag, ac, aa, L, X, M, Y, N⟩
  refine W.cF b1 rfl <| W.skip <| W.seq <| W.sr rfl <| WL.run to 1 rfl <| WL.lv ak 2 0 rfl rfl Try.underlying27 rfl rfl <| WL.ln (Z.Eras.length : Int) rfl Try.underlying27 (by omega) <| WL.rd to 1 rfl ?_
  rcases iteE H with ⟨b2, H⟩ | ⟨b2, H⟩
  ·refine W.cT b2 rfl <| W.sr rfl <| WL.la ak 2 rfl rfl Try.underlying32 rfl sz32 <| WL.st ak 0 0 x rfl rfl rfl rfl (Put.lit 0 rfl) (ones_of rfl) sz32 fun ad (eV : Cx [CH.row b 0 x, CH.row s 0 B, CH.row p 0 x, CH.row u 0 E, A, l, h, j]) => ?_
   refine WL.rd to 1 rfl <| W.ret ?_
   iterate 3 first | refine inB_r ?_ | refine thenE_r ?_
   have gl : Cx [A, l, h, j] := eV.pick [4, 5, 6, 7] rfl
   simp only [Option.some.injEq, Prod.mk.injEq] at H
   obtain ⟨gq, gr⟩ := H
   subst gq gr
   exact post_r (resET rfl ((.cell rfl (run_loadVA2 (g := b) (off := 0) (o := 0) (cs := x) (us := x) Try.underlying32 rfl sz32 (Ctx.subI 0 eV rfl) rfl) (.tmp rfl .nil))) rfl) ⟨F, al, an, ah, A, am, ao, aj, l, S, U, Q, h, T, V, R, j, rfl, (CH.le_refl _), gl, ag, ac, aa, L, X, M, Y, N⟩
  refine W.cF b2 rfl <| W.skip <| W.sr rfl <| WL.run to 1 rfl <| WL.lv ak 2 0 rfl rfl Try.underlying27 rfl rfl <| WL.run to 1 rfl <| WL.lv ak 1 1 rfl rfl Try.underlying3 rfl rfl <| WL.run to 1 rfl <| WL.val (Yl.loadVA (g := s) (off := 0) (o := 2) (cs := B) (us := ab.Nonce.map (Value.int .u8)) rfl Try.underlying43 rfl (sz_of sz43 (len_map ae)) (Ctx.subI 1 ak rfl) (mid_skip 2 0 rfl (mid_here rfl))) ?_
  let gs : List Go.Value := [iv ab.Epoch] ++ (ab.Nonce.map (Value.int .u8))
  refine WL.val (Yl.build (places := [(0, 1), (1, 32)]) (cs := List.toArray gs) Try.underlying65 zr65 (pl65 _ Try.underlying65) (partsB (.cons rfl (.cons rfl .nil))) (Fills.run (a := [iv 0] ++ ((List.replicate 32 (0 : Int)).map (Value.int .u8))) (c := [iv ab.Epoch] ++ (ab.Nonce.map (Value.int .u8))) (.put (us := [iv ab.Epoch]) rfl rfl rfl (Put.left (Put.lit 0 rfl)) (.put (us := ab.Nonce.map (Value.int .u8)) rfl rfl (len_map ae) (Put.skip 1 0 rfl (Put.all 32 (len_map (List.length_replicate ..)) (len_map ae))) .nil)))) ?_
  obtain ⟨hd, gn, he, aK, hj, fZ, f4, eW, fW⟩ := ev_lit1' (P := Try.prog) 65 TEra.K ak Try.underlying27 ti65 ⟨by decide, by decide⟩ (⟨ab.Epoch, ab.Nonce⟩ : TEra) (.agg (List.toArray gs)) (TEra.mk' _ (⟨ab.Epoch, ab.Nonce⟩ : TEra)  ae)
  refine WL.val (f4 _ _ _ rfl) ?_
  obtain ⟨fX, H⟩ := guardE H
  obtain ⟨cD, df, dw, bD, g6, ei, eG, eZ, dG⟩ := ev_append' (P := Try.prog) (cb := gn) 65 TEra.K [aK, CH.row b 0 O, CH.row s 0 B, CH.row p 0 x, CH.row u 0 E] [l, h, j] eW ac fZ (Row.sl fW) (Ctx.subI 0 eW rfl) Try.underlying27 ti65 rfl zo65 (by decide) (by decide) (by simpa using fX)
  have e0 : Cx [aK, CH.row b 0 O, CH.row s 0 B, CH.row p 0 x, CH.row u 0 E, bD, l, h, j] := eZ
  refine WL.val (eG _ _ _ _ rfl rfl) <| WL.run to 1 rfl ?_
  let gt : List Go.Value := TState.q Z cD dw df am aj ao S Q U T R V
  refine WL.st e0 3 0 [.slice cD dw df] rfl rfl rfl rfl (Put.lit 0 rfl) (ones_of rfl) sz27 fun ad (e1 : Cx [aK, CH.row b 0 O, CH.row s 0 B, CH.row p 0 gt, CH.row u 0 E, bD, l, h, j]) => ?_
  refine WL.done <| W.sr rfl <| WL.rd to 1 rfl ?_
  obtain ⟨af, I, H⟩ := bindE H
  refine W.cutM (fun aI ad => ∃ aX a1 aM aQ aY a2 aN aR aZ a3 aO aS a0 a4 aP aT, Kn aI [(4, .pointer (some ⟨p, 0, none⟩)), (6, .pointer (some ⟨b, 0, none⟩))] ∧ Ctx w F D ad F [CH.row p 0 (TState.q af aX aM a1 aY aN a2 aZ aO a3 a0 aP a4), aQ, aR, aS, aT, aK, CH.row b 0 O, CH.row s 0 B, CH.row u 0 E] ∧ aM = af.Eras.length ∧ Row TEra.K F aQ (.slice aX aM a1) af.Eras ∧ aN = af.Jobs.length ∧ Row TJob.K F aR (.slice aY aN a2) af.Jobs ∧ aO = af.Used.length ∧ Row (Kd.int .i64) F aS (.slice aZ aO a3) af.Used ∧ aP = af.Barred.length ∧ Row Kd.bool F aT (.slice a0 aP a4) af.Barred) ?_ ?_
  ·refine W.block ?_
   have e2 : Cx [CH.row p 0 gt, bD, l, h, j, aK, CH.row b 0 O, CH.row s 0 B, CH.row u 0 E] := e1.pick [3, 5, 6, 7, 8, 0, 1, 2, 4] rfl
   refine W.loop (fun fV aI ad => ∃ (G : Int) (y : TState), ∃ aA aE ap au aB aF ai av aC aG aq aw aD aH ar ax, Kn aI [(4, .pointer (some ⟨p, 0, none⟩)), (6, .pointer (some ⟨b, 0, none⟩)), (8, iv G)] ∧ Ctx w F D ad F [CH.row p 0 (TState.q y aA ap aE aB ai aF aC aq aG aD ar aH), au, av, aw, ax, aK, CH.row b 0 O, CH.row s 0 B, CH.row u 0 E] ∧ ap = y.Eras.length ∧ Row TEra.K F au (.slice aA ap aE) y.Eras ∧ ai = y.Jobs.length ∧ Row TJob.K F av (.slice aB ai aF) y.Jobs ∧ aq = y.Used.length ∧ Row (Kd.int .i64) F aw (.slice aC aq aG) y.Used ∧ ar = y.Barred.length ∧ Row Kd.bool F ax (.slice aD ar aH) y.Barred ∧ juratref21_does.l1 fV G y = some af) k ⟨0, (⟨Z.Eras ++ [(⟨ab.Epoch, ab.Nonce⟩ : TEra)], Z.Jobs, Z.Used, Z.Barred, Z.Heads⟩ : TState), cD, df, dw, bD, am, ao, aj, l, S, U, Q, h, T, V, R, j, rfl, e2, ei, dG, aa, L, X, M, Y, N, I⟩ ?_
   clear I
   rintro fV aI ad ⟨G, y, aA, aE, ap, au, aB, aF, ai, av, aC, aG, aq, aw, aD, aH, ar, ax, eE, aL, bw, bg, ce, aW, bx, bh, bz, bi, I⟩
   rcases fV with _ | dg
   · exact absurd I (by simp [juratref21_does.l1])
   rw [juratref21_does.l1] at I
   apply ks aI eE
   refine W.seq <| W.sr rfl <| WL.run to 2 rfl <| WL.lv aL 0 1 rfl rfl Try.underlying28 rfl rfl <| WL.ln (y.Jobs.length : Int) rfl Try.underlying28 (by omega) <| WL.rd to 1 rfl ?_
   rcases iteE I with ⟨bk, I⟩ | ⟨bk, I⟩
   ·refine W.cT bk rfl <| W.skip <| W.seq <| W.block <| W.sr rfl <| WL.run to 1 rfl <| WL.lv aL 0 1 rfl rfl Try.underlying28 rfl rfl <| WL.run to 1 rfl ?_
    obtain ⟨gA, I⟩ := guardE I
    obtain ⟨fv, eS, aJ, d9⟩ := (Row.sl aW) (by omega)
    refine WL.val (Yl.elemAddr (i := G) rfl rfl aJ Try.underlying28 sz55 (by omega)) <| WL.run to 1 rfl ?_
    obtain ⟨gv, eF, bA⟩ := d9 G.toNat _ (getD_some (d := TJob.z) (by omega))
    obtain ⟨bR, bZ, b5, gO, gU, gZ, gP, gV, g0, gQ, gW, g1, gR, gX, g2, rfl, en, ee, eg, d4, gJ, gB, gF, gw, gK, gC, gG, gx, gL, gD, gH, gy, gM, gE, gI, gz⟩ := TJob.open eF
    refine WL.val (Yl.load (v := iv ((y.Jobs.getD G.toNat TJob.z).State)) rfl Try.underlying3 rfl (((Ctx.subI 2 aL rfl)).cell (bA 1 _ rfl))) <| WL.rd to 1 rfl ?_
    rcases iteE I with ⟨bl, I⟩ | ⟨bl, I⟩
    ·refine W.cT bl rfl ?_
     let ga : List Go.Value := TState.q y aA ap aE aB ai aF aC aq aG aD ar aH
     refine W.regionA [([17], CH.row p 0 ga), ([17], av)] (by kernel_rfl) ?_
     have bS := Ctx.drewN aL 1
     refine WA.takes [(0, none), (1, some 0), (2, none), (3, none), (4, some 0), (5, none), (6, none), (7, none), (8, some 1), (9, none), (10, some 0), (11, none), (12, none), (13, none), (14, some 1), (15, none), (16, none)] ⟨(Ctx.subI 0 bS rfl), (Ctx.subI 2 bS rfl), trivial⟩ (by kernel_rfl) <| WT.run to 1 rfl <| WT.lv 1 rfl rfl rfl Try.underlying28 rfl rfl <| WT.run to 2 rfl <| WT.lv 1 rfl rfl rfl Try.underlying28 rfl rfl <| WT.run to 1 rfl <| WT.val rfl (fun _ hC_ => Yl.elemAddr (i := G) rfl rfl aJ Try.underlying28 sz55 (by omega)) ?_
     refine WT.run to 1 rfl <| WT.val rfl (fun _ hC_ => Yl.load (v := .slice bR b5 bZ) rfl Try.underlying44 rfl (((show Sub av _ from hC_)).cell (bA 0 _ rfl))) ?_
     refine WT.run to 1 rfl <| WT.lv 1 rfl rfl rfl Try.underlying28 rfl rfl <| WT.run to 1 rfl <| WT.val rfl (fun _ hC_ => Yl.elemAddr (i := G) rfl rfl aJ Try.underlying28 sz55 (by omega)) ?_
     refine WT.run to 1 rfl <| WT.val rfl (fun _ hC_ => Yl.load (v := iv ((y.Jobs.getD G.toNat TJob.z).Attempt)) rfl Try.underlying3 rfl (((show Sub av _ from hC_)).cell (bA 2 _ rfl))) ?_
     let gb : List Go.Value := [.slice bR b5 bZ, iv 1, iv ((y.Jobs.getD G.toNat TJob.z).Attempt), iv 0, iv 0, .slice none 0 0, .slice none 0 0, .slice none 0 0, .slice none 0 0]
     refine WT.val rfl (fun _ hC_ => Yl.build (places := [(0, 1), (1, 1), (2, 1), (3, 1), (4, 1), (5, 1), (6, 1), (7, 1), (8, 1)]) (cs := List.toArray gb) Try.underlying55 zr55 (pl55 _ Try.underlying55) (partsB (.cons rfl (.cons rfl (.cons rfl .nil)))) rfl) ?_
     refine WT.val rfl (fun _ hC_ => Yl.elemAddr (i := G) rfl rfl aJ Try.underlying28 sz55 (by omega)) ?_
     refine WT.done ?_
     have ed : G.toNat < y.Jobs.length := by first | omega | (simp only [List.length_set, List.length_replicate] at *; omega)
     obtain ⟨dx, g7, eH, e3, cc⟩ := ev_store (P := Try.prog) (t := 55) TJob.K [CH.row p 0 ga, au] [aw, ax, aK, CH.row b 0 O, CH.row s 0 B, CH.row u 0 E] bS aW aJ G.toNat 0 ed TJob.z (.agg (List.toArray gb)) (gb) rfl (ones_of rfl) (Nat.le_of_ble_eq_true rfl) sz55 ((⟨(y.Jobs.getD G.toNat TJob.z).Payload, 1, (y.Jobs.getD G.toNat TJob.z).Attempt, 0, 0, ([] : List Int), ([] : List Int), ([] : List TCast), ([] : List Int)⟩ : TJob)) (fun _ h_ => rep_whole h_ (TJob.mk' _ (⟨(y.Jobs.getD G.toNat TJob.z).Payload, 1, (y.Jobs.getD G.toNat TJob.z).Attempt, 0, 0, ([] : List Int), ([] : List Int), ([] : List TCast), ([] : List Int)⟩ : TJob) bR bZ b5 none 0 0 none 0 0 none 0 0 none 0 0 en ee eg d4 rfl (Nat.le_refl _) (Nat.zero_le _) (Sl.nil _ _ _ _) rfl (Nat.le_refl _) (Nat.zero_le _) (Sl.nil _ _ _ _) rfl (Nat.le_refl _) (Nat.zero_le _) (Sl.nil _ _ _ _) rfl (Nat.le_refl _) (Nat.zero_le _) (Sl.nil _ _ _ _))) ⟨fv, eS + G.toNat * 9, none⟩ rfl
     have cf : ai = (y.Jobs.set G.toNat (⟨(y.Jobs.getD G.toNat TJob.z).Payload, 1, (y.Jobs.getD G.toNat TJob.z).Attempt, 0, 0, ([] : List Int), ([] : List Int), ([] : List TCast), ([] : List Int)⟩ : TJob)).length := by rw [List.length_set]; omega
     obtain ⟨eT, bB, I⟩ := bindE I
     replace bB := Option.some.inj bB
     rw [bB] at cc cf
     have e4 : Cx [CH.row p 0 ga, au, dx, aw, ax, aK, CH.row b 0 O, CH.row s 0 B, CH.row u 0 E] := e3
     refine WA.up1 17 (by kernel_rfl) (Up.skip rfl rfl (eH _ _ _ _ rfl rfl) ⟨trivial, trivial, trivial⟩ ?_)
     refine WA.done (by kernel_rfl) <| inB_n <| W.region rfl ?_
     exact WL.rd to 3 rfl <| thenE_n ⟨dg, Nat.lt_succ_self _, wi64 (G + 1), (⟨y.Eras, eT, y.Used, y.Barred, y.Heads⟩ : TState), aA, aE, ap, au, aB, aF, ai, dx, aC, aG, aq, aw, aD, aH, ar, ax, rfl, e4, bw, bg, cf, cc, bx, bh, bz, bi, I⟩
    refine W.cF bl rfl <| W.skip <| inB_n <| W.region rfl ?_
    exact WL.rd to 3 rfl <| thenE_n ⟨dg, Nat.lt_succ_self _, wi64 (G + 1), y, aA, aE, ap, au, aB, aF, ai, av, aC, aG, aq, aw, aD, aH, ar, ax, rfl, aL, bw, bg, ce, aW, bx, bh, bz, bi, I⟩
   refine W.cF bk rfl <| W.exit <| thenE_x <| thenE_x <| inB_here ?_
   cases I
   refine thenE_n ?_
   exact ⟨aA, aE, ap, au, aB, aF, ai, av, aC, aG, aq, aw, aD, aH, ar, ax, rfl, aL, bw, bg, ce, aW, bx, bh, bz, bi⟩
  ·rintro aI ad ⟨aX, a1, aM, aQ, aY, a2, aN, aR, aZ, a3, aO, aS, a0, a4, aP, aT, eD, cE, ej, dH, ek, dI, el, dJ, em, dK⟩
   apply ks aI eD
   refine inB_n <| W.sr rfl <| WL.la cE 0 rfl rfl Try.underlying32 rfl sz32 ?_
   let dC : List Go.Value := TState.q af aX aM a1 aY aN a2 aZ aO a3 a0 aP a4
   refine WL.st cE 6 0 dC rfl rfl rfl rfl (Put.lit 0 rfl) (ones_of rfl) sz32 fun ad (cG : Cx [CH.row p 0 dC, aQ, aR, aS, aT, aK, CH.row b 0 dC, CH.row s 0 B, CH.row u 0 E]) => ?_
   refine WL.rd to 1 rfl <| W.ret ?_
   have e5 : Cx [aQ, aR, aS, aT] := cG.pick [1, 2, 3, 4] rfl
   simp only [Option.some.injEq, Prod.mk.injEq] at H
   obtain ⟨fx, fy⟩ := H
   subst fx fy
   exact post_r (resET rfl ((.cell rfl (run_loadVA2 (g := b) (off := 0) (o := 0) (cs := dC) (us := dC) Try.underlying32 rfl sz32 (Ctx.subI 6 cG rfl) rfl) (.tmp rfl .nil))) rfl) ⟨F, aX, a1, aM, aQ, aY, a2, aN, aR, aZ, a3, aO, aS, a0, a4, aP, aT, rfl, (CH.le_refl _), e5, ej, dH, ek, dI, el, dJ, em, dK⟩
 refine W.cF b0 rfl <| W.sr rfl <| WL.rd to 2 rfl ?_
 rcases iteE H with ⟨bm, H⟩ | ⟨bm, H⟩
 ·refine W.cT bm rfl <| W.seq <| W.sr rfl <| WL.run to 1 rfl <| WL.lv J 2 0 rfl rfl Try.underlying27 rfl rfl <| WL.ln (Z.Eras.length : Int) rfl Try.underlying27 (by omega) <| WL.rd to 1 rfl ?_
  rcases iteE H with ⟨bn, H⟩ | ⟨bn, H⟩
  ·refine W.cT bn rfl <| W.sr rfl <| WL.la J 2 rfl rfl Try.underlying32 rfl sz32 <| WL.st J 0 0 x rfl rfl rfl rfl (Put.lit 0 rfl) (ones_of rfl) sz32 fun ad (cH : Cx [CH.row b 0 x, CH.row s 0 B, CH.row p 0 x, CH.row u 0 E, A, l, h, j]) => ?_
   refine WL.rd to 1 rfl <| W.ret ?_
   iterate 3 first | refine inB_r ?_ | refine thenE_r ?_
   have e6 : Cx [A, l, h, j] := cH.pick [4, 5, 6, 7] rfl
   simp only [Option.some.injEq, Prod.mk.injEq] at H
   obtain ⟨fA, fB⟩ := H
   subst fA fB
   exact post_r (resET rfl ((.cell rfl (run_loadVA2 (g := b) (off := 0) (o := 0) (cs := x) (us := x) Try.underlying32 rfl sz32 (Ctx.subI 0 cH rfl) rfl) (.tmp rfl .nil))) rfl) ⟨F, al, an, ah, A, am, ao, aj, l, S, U, Q, h, T, V, R, j, rfl, (CH.le_refl _), e6, ag, ac, aa, L, X, M, Y, N⟩
  refine W.cF bn rfl <| W.skip <| W.seq <| W.sr rfl <| WL.run to 1 rfl <| WL.lv J 2 1 rfl rfl Try.underlying28 rfl rfl <| WL.ln (Z.Jobs.length : Int) rfl Try.underlying28 (by omega) <| WL.run to 1 rfl <| WL.lv J 3 4 rfl rfl Try.underlying3 rfl rfl ?_
  refine WL.rd to 1 rfl ?_
  rcases iteE H with ⟨bo, H⟩ | ⟨bo, H⟩
  ·refine W.cT bo rfl <| W.sr rfl <| WL.la J 2 rfl rfl Try.underlying32 rfl sz32 <| WL.st J 0 0 x rfl rfl rfl rfl (Put.lit 0 rfl) (ones_of rfl) sz32 fun ad (cI : Cx [CH.row b 0 x, CH.row s 0 B, CH.row p 0 x, CH.row u 0 E, A, l, h, j]) => ?_
   refine WL.rd to 1 rfl <| W.ret ?_
   iterate 3 first | refine inB_r ?_ | refine thenE_r ?_
   have e7 : Cx [A, l, h, j] := cI.pick [4, 5, 6, 7] rfl
   simp only [Option.some.injEq, Prod.mk.injEq] at H
   obtain ⟨fC, fD⟩ := H
   subst fC fD
   exact post_r (resET rfl ((.cell rfl (run_loadVA2 (g := b) (off := 0) (o := 0) (cs := x) (us := x) Try.underlying32 rfl sz32 (Ctx.subI 0 cI rfl) rfl) (.tmp rfl .nil))) rfl) ⟨F, al, an, ah, A, am, ao, aj, l, S, U, Q, h, T, V, R, j, rfl, (CH.le_refl _), e7, ag, ac, aa, L, X, M, Y, N⟩
  refine W.cF bo rfl <| W.skip <| W.regionA [([8, 10], CH.row p 0 x), ([5, 7, 8, 10], CH.row s 0 B)] (by kernel_rfl) ?_
  have bU := Ctx.drewN J 1
  refine WA.takes [(0, none), (1, some 0), (3, none), (4, some 1)] ⟨(Ctx.subI 2 bU rfl), (Ctx.subI 1 bU rfl), trivial⟩ (by kernel_rfl) <| WT.run to 1 rfl <| WT.lv 1 rfl rfl rfl Try.underlying28 rfl rfl <| WT.run to 1 rfl <| WT.lv 34 rfl rfl rfl Try.underlying44 rfl (at_skip 2 32 rfl (at_skip 32 0 (len_map ae) rfl)) <| WT.done ?_
  obtain ⟨gS, gY, g3, g5, g8, gN, eI, bc, dL⟩ := ev_lit0 (P := Try.prog) 5 (Kd.int .u8) bU Try.underlying44 ti5
  refine WA.up1 2 (by kernel_rfl) (Up.val rfl rfl rfl (eI _ _) ⟨(Ctx.subI 3 bc rfl), (Ctx.subI 2 bc rfl), trivial⟩ ?_)
  obtain ⟨d6, H⟩ := guardE H
  obtain ⟨ck, cX, dh, f9, g9, cg, eJ, e8, cd⟩ := ev_append' (P := Try.prog) (cb := aV) 5 (Kd.int .u8) [] [CH.row b 0 O, CH.row s 0 B, CH.row p 0 x, CH.row u 0 E, A, l, h, j] bc dL bv bj bc.fro Try.underlying44 ti5 rfl zo5 (by decide) (by decide) (by simpa using d6)
  have bd : Cx [f9, CH.row b 0 O, CH.row s 0 B, CH.row p 0 x, CH.row u 0 E, A, l, h, j] := e8
  rw [List.nil_append] at cg cd
  refine WA.up1 5 (by kernel_rfl) (Up.val rfl rfl rfl (eJ _ _ _ _ rfl rfl) ⟨(Ctx.subI 3 bd rfl), trivial, trivial⟩ ?_)
  refine WA.takes [(6, none)] ⟨(Ctx.subI 3 bd rfl), (Ctx.subI 2 bd rfl), trivial⟩ (by kernel_rfl) ?_
  let eX : List Go.Value := [.slice ck dh cX, iv 1, iv 0, iv 0, iv 0, .slice none 0 0, .slice none 0 0, .slice none 0 0, .slice none 0 0]
  refine WT.val rfl (fun _ hC_ => Yl.build (places := [(0, 1), (1, 1), (2, 1), (3, 1), (4, 1), (5, 1), (6, 1), (7, 1), (8, 1)]) (cs := List.toArray eX) Try.underlying55 zr55 (pl55 _ Try.underlying55) (partsB (.cons rfl (.cons rfl .nil))) rfl) ?_
  refine WT.done ?_
  obtain ⟨fq, ay, eQ, bV⟩ := Ctx.fzI 0 bd rfl
  replace bV : Cx [CH.row b 0 O, CH.row s 0 B, CH.row p 0 x, CH.row u 0 E, A, l, h, j] := bV
  obtain ⟨ef, eh, d5⟩ := Row.fz cd ay eQ
  have dM := Row.mono ac ay
  have dN := Row.mono L ay
  have dO := Row.mono M ay
  have dP := Row.mono N ay
  obtain ⟨gT, fw, g4, a6, ha, eo, eK, bW, dQ⟩ := ev_lit1' (P := Try.prog) 55 TJob.K bV Try.underlying28 ti55 ⟨by decide, by decide⟩ (⟨ab.Data, 1, 0, 0, 0, ([] : List Int), ([] : List Int), ([] : List TCast), ([] : List Int)⟩ : TJob) (.agg (List.toArray eX)) (TJob.mk' _ (⟨ab.Data, 1, 0, 0, 0, ([] : List Int), ([] : List Int), ([] : List TCast), ([] : List Int)⟩ : TJob) ck cX dh none 0 0 none 0 0 none 0 0 none 0 0 cg ef eh d5 rfl (Nat.le_refl _) (Nat.zero_le _) (Sl.nil _ _ _ _) rfl (Nat.le_refl _) (Nat.zero_le _) (Sl.nil _ _ _ _) rfl (Nat.le_refl _) (Nat.zero_le _) (Sl.nil _ _ _ _) rfl (Nat.le_refl _) (Nat.zero_le _) (Sl.nil _ _ _ _))
  refine WA.up1 7 (by kernel_rfl) (Up.val rfl rfl rfl (eK _ _ _ rfl) ⟨(Ctx.subI 3 bW rfl), trivial, trivial⟩ ?_)
  obtain ⟨d7, H⟩ := guardE H
  obtain ⟨bb, bf, bC, aU, hb, ep, eL, e9, dR⟩ := ev_append' (P := Try.prog) (cb := fw) 55 TJob.K [a6, CH.row b 0 O, CH.row s 0 B, CH.row p 0 x, CH.row u 0 E, A] [h, j] bW dN eo (Row.sl dQ) (Ctx.subI 0 bW rfl) Try.underlying28 ti55 rfl zo55 (by decide) (by decide) (by simpa using d7)
  have bX : Cx [a6, CH.row b 0 O, CH.row s 0 B, CH.row p 0 x, CH.row u 0 E, A, aU, h, j] := e9
  refine WA.up1 8 (by kernel_rfl) (Up.val rfl rfl rfl (eL _ _ _ _ rfl rfl) ⟨trivial, trivial, trivial⟩ ?_)
  refine WA.takes [(9, none)] ⟨(Ctx.subI 3 bX rfl), (Ctx.subI 2 bX rfl), trivial⟩ (by kernel_rfl) <| WT.run to 1 rfl <| WT.done ?_
  obtain ⟨hc, eM, fa⟩ := ev_setI (P := Try.prog) (ps1 := [a6, CH.row b 0 O, CH.row s 0 B]) (ps2 := [CH.row u 0 E, A, aU, h, j]) (t := 28) 1 [.slice bb bC bf] (.slice bb bC bf) bX rfl rfl (ones_of rfl) sz28
  let a9 : List Go.Value := TState.q Z al ah an bb bC bf S Q U T R V
  have cJ : Cx [a6, CH.row b 0 O, CH.row s 0 B, CH.row p 0 a9, CH.row u 0 E, A, aU, h, j] := fa
  refine WA.up1 10 (by kernel_rfl) (Up.skip rfl rfl (eM _ _ _ _ rfl rfl) ⟨trivial, trivial, trivial⟩ ?_)
  refine WA.done (by kernel_rfl) <| inB_n <| W.sr rfl <| WL.la cJ 3 rfl rfl Try.underlying32 rfl sz32 <| WL.st cJ 1 0 a9 rfl rfl rfl rfl (Put.lit 0 rfl) (ones_of rfl) sz32 fun ad (cK : Cx [a6, CH.row b 0 a9, CH.row s 0 B, CH.row p 0 a9, CH.row u 0 E, A, aU, h, j]) => ?_
  refine WL.rd to 1 rfl <| W.ret ?_
  have fb : Cx [A, aU, h, j] := cK.pick [5, 6, 7, 8] rfl
  simp only [Option.some.injEq, Prod.mk.injEq] at H
  obtain ⟨fE, fF⟩ := H
  subst fE fF
  exact post_r (resET rfl ((.cell rfl (run_loadVA2 (g := b) (off := 0) (o := 0) (cs := a9) (us := a9) Try.underlying32 rfl sz32 (Ctx.subI 1 cK rfl) rfl) (.tmp rfl .nil))) rfl) ⟨fq, al, an, ah, A, bb, bf, bC, aU, S, U, Q, h, T, V, R, j, rfl, ay, fb, ag, dM, ep, dR, X, dO, Y, dP⟩
 refine W.cF bm rfl <| W.sr rfl <| WL.rd to 2 rfl ?_
 rcases iteE H with ⟨bp, H⟩ | ⟨bp, H⟩
 ·refine W.cT bp rfl <| W.sr rfl <| WL.la J 3 rfl rfl Try.underlying23 rfl sz23 <| WL.la J 2 rfl rfl Try.underlying32 rfl sz32 <| WL.la J 1 rfl rfl Try.underlying46 rfl (sz_of sz46 (len_app rfl (len_app (len_map ae) rfl))) ?_
  have cL : Cx [A, l, h, j, CH.row b 0 O, CH.row s 0 B, CH.row p 0 x, CH.row u 0 E] := J.pick [4, 5, 6, 7, 0, 1, 2, 3] rfl
  obtain ⟨⟨dD, gc⟩, ea, H⟩ := bindE H
  refine WL.callH (juratref21_assign.calls k _ F bY al an ah A am ao aj l S U Q h T V R j Z a7 aV a8 ab (Ctx.pre (qs := [A, l, h, j]) (rest := [CH.row b 0 O, CH.row s 0 B, CH.row p 0 x, CH.row u 0 E]) cL) ag ac aa L X M Y N ae bv b3 b4 bj dD gc ea) (ne.fr rfl rfl) ?_
  rintro fU ad ⟨fs, cl, cY, di, bE, cm, cZ, dj, bG, cn, c1, dk, bH, co, c2, dl, bI, rfl, eN, fc, eq, dS, er, dT, es, dU, et, dV⟩
  refine ⟨_, rfl, ?_⟩
  have fd : Cx [bE, bG, bH, bI, CH.row b 0 O, CH.row s 0 B, CH.row p 0 x, CH.row u 0 E] := Ctx.call (qs := [A, l, h, j]) (rest := [CH.row b 0 O, CH.row s 0 B, CH.row p 0 x, CH.row u 0 E]) cL fc
  refine WL.run to 2 rfl ?_
  let ch : List Go.Value := TState.q dD cl di cY cm dj cZ cn dk c1 co dl c2
  refine WL.st fd 4 0 ch rfl rfl rfl rfl (Put.lit 0 rfl) (ones_of rfl) sz32 fun ad (cM : Cx [bE, bG, bH, bI, CH.row b 0 ch, CH.row s 0 B, CH.row p 0 x, CH.row u 0 E]) => ?_
  refine WL.rd to 1 rfl <| W.ret <| inB_r <| thenE_r ?_
  have fe : Cx [bE, bG, bH, bI] := cM.pick [0, 1, 2, 3] rfl
  simp only [Option.some.injEq, Prod.mk.injEq] at H
  obtain ⟨fG, fH⟩ := H
  subst fG fH
  exact post_r (resET rfl ((.cell rfl (run_loadVA2 (g := b) (off := 0) (o := 0) (cs := ch) (us := ch) Try.underlying32 rfl sz32 (Ctx.subI 4 cM rfl) rfl) (.tmp rfl .nil))) rfl) ⟨fs, cl, cY, di, bE, cm, cZ, dj, bG, cn, c1, dk, bH, co, c2, dl, bI, rfl, eN, fe, eq, dS, er, dT, es, dU, et, dV⟩
 refine W.cF bp rfl <| W.sr rfl <| WL.rd to 2 rfl ?_
 rcases iteE H with ⟨bq, H⟩ | ⟨bq, H⟩
 ·refine W.cT bq rfl <| W.sr rfl <| WL.la J 3 rfl rfl Try.underlying23 rfl sz23 <| WL.la J 2 rfl rfl Try.underlying32 rfl sz32 <| WL.la J 1 rfl rfl Try.underlying46 rfl (sz_of sz46 (len_app rfl (len_app (len_map ae) rfl))) ?_
  have cN : Cx [A, l, h, j, CH.row b 0 O, CH.row s 0 B, CH.row p 0 x, CH.row u 0 E] := J.pick [4, 5, 6, 7, 0, 1, 2, 3] rfl
  obtain ⟨⟨dE, gd⟩, eb, H⟩ := bindE H
  refine WL.callH (juratref21_vote.calls k _ F bY al an ah A am ao aj l S U Q h T V R j Z a7 aV a8 ab (Ctx.pre (qs := [A, l, h, j]) (rest := [CH.row b 0 O, CH.row s 0 B, CH.row p 0 x, CH.row u 0 E]) cN) ag ac aa L X M Y N ae bv b3 b4 bj dE gd eb) (ne.fr rfl rfl) ?_
  rintro fU ad ⟨ft, cp, c3, dm, bJ, cr, c4, dp, bK, ct, c5, dq, bL, cu, c6, dr, bM, rfl, eO, ff, eu, dW, ew, dX, ex, dY, ey, dZ⟩
  refine ⟨_, rfl, ?_⟩
  have fg : Cx [bJ, bK, bL, bM, CH.row b 0 O, CH.row s 0 B, CH.row p 0 x, CH.row u 0 E] := Ctx.call (qs := [A, l, h, j]) (rest := [CH.row b 0 O, CH.row s 0 B, CH.row p 0 x, CH.row u 0 E]) cN ff
  refine WL.run to 2 rfl ?_
  let ci : List Go.Value := TState.q dE cp dm c3 cr dp c4 ct dq c5 cu dr c6
  refine WL.st fg 4 0 ci rfl rfl rfl rfl (Put.lit 0 rfl) (ones_of rfl) sz32 fun ad (cO : Cx [bJ, bK, bL, bM, CH.row b 0 ci, CH.row s 0 B, CH.row p 0 x, CH.row u 0 E]) => ?_
  refine WL.rd to 1 rfl <| W.ret <| inB_r <| thenE_r ?_
  have fh : Cx [bJ, bK, bL, bM] := cO.pick [0, 1, 2, 3] rfl
  simp only [Option.some.injEq, Prod.mk.injEq] at H
  obtain ⟨fI, fJ⟩ := H
  subst fI fJ
  exact post_r (resET rfl ((.cell rfl (run_loadVA2 (g := b) (off := 0) (o := 0) (cs := ci) (us := ci) Try.underlying32 rfl sz32 (Ctx.subI 4 cO rfl) rfl) (.tmp rfl .nil))) rfl) ⟨ft, cp, c3, dm, bJ, cr, c4, dp, bK, ct, c5, dq, bL, cu, c6, dr, bM, rfl, eO, fh, eu, dW, ew, dX, ex, dY, ey, dZ⟩
 refine W.cF bq rfl <| W.sr rfl <| WL.rd to 2 rfl ?_
 rcases iteE H with ⟨br, H⟩ | ⟨br, H⟩
 ·refine W.cT br rfl <| W.sr rfl <| WL.la J 2 rfl rfl Try.underlying32 rfl sz32 <| WL.la J 1 rfl rfl Try.underlying46 rfl (sz_of sz46 (len_app rfl (len_app (len_map ae) rfl))) ?_
  have cP : Cx [A, l, h, j, CH.row b 0 O, CH.row s 0 B, CH.row p 0 x, CH.row u 0 E] := J.pick [4, 5, 6, 7, 0, 1, 2, 3] rfl
  obtain ⟨⟨dF, ge⟩, ec, H⟩ := bindE H
  refine WL.callH (juratref21_expire.calls k _ F al an ah A am ao aj l S U Q h T V R j Z a7 aV a8 ab (Ctx.pre (qs := [A, l, h, j]) (rest := [CH.row b 0 O, CH.row s 0 B, CH.row p 0 x, CH.row u 0 E]) cP) ag ac aa L X M Y N ae bv b3 b4 bj dF ge ec) (ne.fr rfl rfl) ?_
  rintro fU ad ⟨fu, cv, c7, ds, bN, cw, c8, dt, bO, cx, c9, du, bP, cy, da, dv, bQ, rfl, eP, fi, ez, d0, eA, d1, eB, d2, eC, d3⟩
  refine ⟨_, rfl, ?_⟩
  have fj : Cx [bN, bO, bP, bQ, CH.row b 0 O, CH.row s 0 B, CH.row p 0 x, CH.row u 0 E] := Ctx.call (qs := [A, l, h, j]) (rest := [CH.row b 0 O, CH.row s 0 B, CH.row p 0 x, CH.row u 0 E]) cP fi
  refine WL.run to 2 rfl ?_
  let cj : List Go.Value := TState.q dF cv ds c7 cw dt c8 cx du c9 cy dv da
  refine WL.st fj 4 0 cj rfl rfl rfl rfl (Put.lit 0 rfl) (ones_of rfl) sz32 fun ad (cQ : Cx [bN, bO, bP, bQ, CH.row b 0 cj, CH.row s 0 B, CH.row p 0 x, CH.row u 0 E]) => ?_
  refine WL.rd to 1 rfl <| W.ret <| inB_r <| thenE_r ?_
  have fk : Cx [bN, bO, bP, bQ] := cQ.pick [0, 1, 2, 3] rfl
  simp only [Option.some.injEq, Prod.mk.injEq] at H
  obtain ⟨fK, fL⟩ := H
  subst fK fL
  exact post_r (resET rfl ((.cell rfl (run_loadVA2 (g := b) (off := 0) (o := 0) (cs := cj) (us := cj) Try.underlying32 rfl sz32 (Ctx.subI 4 cQ rfl) rfl) (.tmp rfl .nil))) rfl) ⟨fu, cv, c7, ds, bN, cw, c8, dt, bO, cx, c9, du, bP, cy, da, dv, bQ, rfl, eP, fk, ez, d0, eA, d1, eB, d2, eC, d3⟩
 refine W.cF br rfl <| W.sr rfl <| WL.rd to 2 rfl ?_
 rcases iteE H with ⟨bs, H⟩ | ⟨bs, H⟩
 ·refine W.cT bs rfl <| W.seq <| W.sr rfl <| WL.run to 1 rfl <| WL.lv J 2 0 rfl rfl Try.underlying27 rfl rfl <| WL.ln (Z.Eras.length : Int) rfl Try.underlying27 (by omega) <| WL.rd to 1 rfl ?_
  rcases iteE H with ⟨bt, H⟩ | ⟨bt, H⟩
  ·refine W.cT bt rfl <| W.sr rfl <| WL.la J 2 rfl rfl Try.underlying32 rfl sz32 <| WL.st J 0 0 x rfl rfl rfl rfl (Put.lit 0 rfl) (ones_of rfl) sz32 fun ad (cR : Cx [CH.row b 0 x, CH.row s 0 B, CH.row p 0 x, CH.row u 0 E, A, l, h, j]) => ?_
   refine WL.rd to 1 rfl <| W.ret ?_
   iterate 3 first | refine inB_r ?_ | refine thenE_r ?_
   have fl : Cx [A, l, h, j] := cR.pick [4, 5, 6, 7] rfl
   simp only [Option.some.injEq, Prod.mk.injEq] at H
   obtain ⟨fM, fN⟩ := H
   subst fM fN
   exact post_r (resET rfl ((.cell rfl (run_loadVA2 (g := b) (off := 0) (o := 0) (cs := x) (us := x) Try.underlying32 rfl sz32 (Ctx.subI 0 cR rfl) rfl) (.tmp rfl .nil))) rfl) ⟨F, al, an, ah, A, am, ao, aj, l, S, U, Q, h, T, V, R, j, rfl, (CH.le_refl _), fl, ag, ac, aa, L, X, M, Y, N⟩
  refine W.cF bt rfl <| W.skip <| W.seq <| W.seq <| W.region_quiet (by kernel_rfl) (by kernel_rfl) rfl ?_
  refine WQ.run to 1 rfl <| WQ.lv J 2 4 rfl rfl Try.underlying3 rfl rfl <| WQ.run to 1 rfl <| WQ.lv J 3 6 rfl rfl Try.underlying3 rfl rfl ?_
  obtain ⟨d8, H⟩ := guardE H
  refine WQ.vl (fun _ => Yl.shl (m := 1) (n := bY.Heads) (r := shlOp .i64 1 bY.Heads) rfl rfl d8 rfl) ?_
  refine WQ.run to 1 rfl <| WQ.done (fun eR => ?_)
  have be := Ctx.drewN J eR
  rcases iteE H with ⟨bu, H⟩ | ⟨bu, H⟩
  ·refine W.cT bu rfl <| W.sr rfl <| WL.la be 2 rfl rfl Try.underlying32 rfl sz32 <| WL.st be 0 0 x rfl rfl rfl rfl (Put.lit 0 rfl) (ones_of rfl) sz32 fun ad (cS : Cx [CH.row b 0 x, CH.row s 0 B, CH.row p 0 x, CH.row u 0 E, A, l, h, j]) => ?_
   refine WL.rd to 1 rfl <| W.ret ?_
   iterate 3 first | refine inB_r ?_ | refine thenE_r ?_
   have fm : Cx [A, l, h, j] := cS.pick [4, 5, 6, 7] rfl
   simp only [Option.some.injEq, Prod.mk.injEq] at H
   obtain ⟨fO, fP⟩ := H
   subst fO fP
   exact post_r (resET rfl ((.cell rfl (run_loadVA2 (g := b) (off := 0) (o := 0) (cs := x) (us := x) Try.underlying32 rfl sz32 (Ctx.subI 0 cS rfl) rfl) (.tmp rfl .nil))) rfl) ⟨F, al, an, ah, A, am, ao, aj, l, S, U, Q, h, T, V, R, j, rfl, (CH.le_refl _), fm, ag, ac, aa, L, X, M, Y, N⟩
  refine W.cF bu rfl <| W.skip <| W.region rfl ?_
  refine WL.run to 1 rfl <| WL.lv be 2 4 rfl rfl Try.underlying3 rfl rfl <| WL.run to 2 rfl ?_
  let ba : List Go.Value := [.slice al ah an, .slice am aj ao, .slice S Q U, .slice T R V, iv (wi64 (Z.Heads + 1))]
  refine WL.st be 2 4 [iv (wi64 (Z.Heads + 1))] rfl rfl rfl rfl (Put.lit 4 rfl) (ones_of rfl) sz3 fun ad (cU : Cx [CH.row b 0 O, CH.row s 0 B, CH.row p 0 ba, CH.row u 0 E, A, l, h, j]) => ?_
  refine WL.done <| inB_n <| W.sr rfl <| WL.la cU 2 rfl rfl Try.underlying32 rfl sz32 <| WL.st cU 0 0 ba rfl rfl rfl rfl (Put.lit 0 rfl) (ones_of rfl) sz32 fun ad (cV : Cx [CH.row b 0 ba, CH.row s 0 B, CH.row p 0 ba, CH.row u 0 E, A, l, h, j]) => ?_
  refine WL.rd to 1 rfl <| W.ret ?_
  have fo : Cx [A, l, h, j] := cV.pick [4, 5, 6, 7] rfl
  simp only [Option.some.injEq, Prod.mk.injEq] at H
  obtain ⟨fQ, fR⟩ := H
  subst fQ fR
  exact post_r (resET rfl ((.cell rfl (run_loadVA2 (g := b) (off := 0) (o := 0) (cs := ba) (us := ba) Try.underlying32 rfl sz32 (Ctx.subI 0 cV rfl) rfl) (.tmp rfl .nil))) rfl) ⟨F, al, an, ah, A, am, ao, aj, l, S, U, Q, h, T, V, R, j, rfl, (CH.le_refl _), fo, ag, ac, aa, L, X, M, Y, N⟩
 refine W.cF bs rfl <| W.skip <| inB_n <| W.sr rfl <| WL.la J 2 rfl rfl Try.underlying32 rfl sz32 <| WL.st J 0 0 x rfl rfl rfl rfl (Put.lit 0 rfl) (ones_of rfl) sz32 fun ad (cW : Cx [CH.row b 0 x, CH.row s 0 B, CH.row p 0 x, CH.row u 0 E, A, l, h, j]) => ?_
 refine WL.rd to 1 rfl <| W.ret ?_
 have fp : Cx [A, l, h, j] := cW.pick [4, 5, 6, 7] rfl
 simp only [Option.some.injEq, Prod.mk.injEq] at H
 obtain ⟨fS, fT⟩ := H
 subst fS fT
 exact post_r (resET rfl ((.cell rfl (run_loadVA2 (g := b) (off := 0) (o := 0) (cs := x) (us := x) Try.underlying32 rfl sz32 (Ctx.subI 0 cW rfl) rfl) (.tmp rfl .nil))) rfl) ⟨F, al, an, ah, A, am, ao, aj, l, S, U, Q, h, T, V, R, j, rfl, (CH.le_refl _), fp, ag, ac, aa, L, X, M, Y, N⟩
def juratref21_Apply.f (k : Nat) (e : TConfig) (g : TState) (h : TRecord) : Option (TState × Int) := ((juratref21_Right.f k e).bind fun i => if i = true then ((juratref21_StateMay.f k e g).bind fun j => if j = true then ((juratref21_May.f k h).bind fun l => some (!l)) else (some true)) else (some true)).bind fun m => if m = true then (some ((⟨([] : List TEra), ([] : List TJob), ([] : List Int), ([] : List Bool), 0⟩ : TState), 1)) else ((juratref21_Copy.f k g).bind fun b => (juratref21_does.f k e b h).bind fun ⟨d, a⟩ => if a = 0 then (some (d, 0)) else (some ((⟨([] : List TEra), ([] : List TJob), ([] : List Int), ([] : List Bool), 0⟩ : TState), a)))
theorem juratref21_Apply.calls (k w F) (aY : TConfig) (bS a4 bV bU a9 aD aB aq aE aC ar aF) (I : TState) (ai ag az) (ap : TRecord) (hp : Pre w F []) (cM : bV = I.Eras.length) (cK : I.Eras.length ≤ a4) (cL : a4 ≤ maxLen) (cJ : Sl TEra.K F F bS I.Eras) (bm : aD = I.Jobs.length) (bg : I.Jobs.length ≤ a9) (bj : a9 ≤ maxLen) (ba : Sl TJob.K F F bU I.Jobs) (bn : aE = I.Used.length) (bh : I.Used.length ≤ aq) (bk : aq ≤ maxLen) (bb : Sl (Kd.int .i64) F F aB I.Used) (bo : aF = I.Barred.length) (bi : I.Barred.length ≤ ar) (bl : ar ≤ maxLen) (bc : Sl Kd.bool F F aC I.Barred) (ab : ap.Nonce.length = 32) (aL : az = ap.Data.length) (aJ : ap.Data.length ≤ ag) (aK : ag ≤ maxLen) (aH : Sl (Kd.int .u8) F F ai ap.Data) (R : TState) (d1 : Int) (H : juratref21_Apply.f k aY I ap = some (R, d1)) :
    Calls Try.prog 16 #[.agg (List.toArray (TConfig.q aY)), .agg (List.toArray (TState.q I bS bV a4 bU aD a9 aB aE aq aC aF ar)), .agg (List.toArray ((TRecord.q ap ai az ag)))] w fun e w' => ∃ F' cc cD bp c5 cd cE bq c6 ce cG br c7 cf cH bs c8, e = .returned (.tuple #[(.agg (List.toArray (TState.q R cc bp cD cd bq cE ce br cG cf bs cH))), (iv d1)]) ∧ CH.le F F' ∧ Ctx w F (domL []) w' F' [c5, c6, c7, c8] ∧ bp = R.Eras.length ∧ Row TEra.K F' c5 (.slice cc bp cD) R.Eras ∧ bq = R.Jobs.length ∧ Row TJob.K F' c6 (.slice cd bq cE) R.Jobs ∧ br = R.Used.length ∧ Row (Kd.int .i64) F' c7 (.slice ce br cG) R.Used ∧ bs = R.Barred.length ∧ Row Kd.bool F' c8 (.slice cf bs cH) R.Barred := by
 have C := Ctx.start hp
 generalize hD : domL [] = D at C ⊢
 unfold juratref21_Apply.f at H
 refine Calls.ofW Try.func16 rfl (by simp [Try.ntmps16]) <| W.sr rfl ?_
 let p : List Go.Value := TConfig.q aY
 obtain ⟨i, fc, eD, eM⟩ := ev_box (P := Try.prog) 23 (.agg (List.toArray p)) p C rfl
 refine WL.val (eD _ _ _ rfl) ?_
 let r : List Go.Value := TState.q I bS bV a4 bU aD a9 aB aE aq aC aF ar
 obtain ⟨j, fd, eE, eN⟩ := ev_box (P := Try.prog) 32 (.agg (List.toArray r)) r eM rfl
 refine WL.val (eE _ _ _ rfl) ?_
 let s : List Go.Value := TRecord.q ap ai az ag
 obtain ⟨l, fe, eF, eO⟩ := ev_box (P := Try.prog) 46 (.agg (List.toArray s)) s eN rfl
 refine WL.val (eF _ _ _ rfl) ?_
 let d : List Go.Value := [.slice none 0 0, .slice none 0 0, .slice none 0 0, .slice none 0 0, iv 0]
 obtain ⟨h, ff, eG, cg⟩ := ev_alloc (P := Try.prog) (e := 32) d eO zr32 rfl
 refine WL.val (eG _ _) <| WL.rd to 1 rfl <| W.seq <| W.seq ?_
 obtain ⟨eZ, m, H⟩ := bindE H
 refine W.cutM (fun y Q => Kn y [(3, .pointer (some ⟨i, 0, none⟩)), (4, .pointer (some ⟨j, 0, none⟩)), (5, .pointer (some ⟨l, 0, none⟩)), (6, .pointer (some ⟨h, 0, none⟩)), (23, .bool eZ)] ∧ Ctx w F D Q F [CH.row h 0 d, CH.row l 0 s, CH.row j 0 r, CH.row i 0 p]) ?_ ?_
 ·refine W.region rfl ?_
  refine WL.la cg 3 rfl rfl Try.underlying23 rfl sz23 ?_
  obtain ⟨eW, ez, m⟩ := bindE m
  refine WL.c0 cg (juratref21_Right.calls k _ F aY cg.pre0  eW ez) (ne.fr rfl rfl) fun Q aX => ?_
  refine WL.run to 2 rfl ?_
  rcases iteE m with ⟨bd, m⟩ | ⟨bd, m⟩
  ·refine WL.kn 13 (congrArg Value.bool (nb_t bd)) <| WL.laG aX 3 rfl rfl rfl rfl Try.underlying23 rfl sz23 <| WL.laG aX 2 rfl rfl rfl rfl Try.underlying32 rfl sz32 <| WL.on rfl rfl ?_
   obtain ⟨eX, eA, m⟩ := bindE m
   refine WL.c0 aX (juratref21_StateMay.calls k _ F aY bS a4 bV bU a9 aD aB aq aE aC ar aF I aX.pre0 cM cK cL cJ bm bg bj ba bn bh bk bb bo bi bl bc eX eA) (ne.fr rfl rfl) fun Q bH => ?_
   refine WL.run to 3 rfl ?_
   rcases iteE m with ⟨be, m⟩ | ⟨be, m⟩
   ·refine WL.kn 19 (congrArg Value.bool (nb_t be)) <| WL.laG bH 1 rfl rfl rfl rfl Try.underlying46 rfl (sz_of sz46 (len_app rfl (len_app (len_map ab) rfl))) <| WL.on rfl rfl ?_
    obtain ⟨eY, eB, m⟩ := bindE m
    refine WL.c0 bH (juratref21_May.calls k _ F ai ag az ap bH.pre0 ab aL aJ aK aH eY eB) (ne.fr rfl rfl) fun Q eP => ?_
    refine WL.rd to 2 rfl ?_
    cases m
    refine thenE_n ?_
    exact ⟨rfl, eP⟩
   refine WL.kn 19 (congrArg Value.bool (nb_f be)) <| WL.offs 3 19 false rfl rfl <| WL.rd to 1 rfl ?_
   cases m
   refine thenE_n ?_
   exact ⟨rfl, bH⟩
  refine WL.kn 13 (congrArg Value.bool (nb_f bd)) <| WL.offs 4 13 false rfl rfl <| WL.run to 2 rfl <| WL.offs 3 19 false rfl rfl <| WL.rd to 1 rfl ?_
  cases m
  refine thenE_n ?_
  exact ⟨rfl, aX⟩
 ·rintro y Q ⟨eC, dZ⟩
  apply ks y eC
  rcases iteE H with ⟨bf, H⟩ | ⟨bf, H⟩
  ·refine W.condT (congrArg Value.bool bf) <| W.sr rfl <| WL.val (Yl.build (places := [(0, 1), (1, 1), (2, 1), (3, 1), (4, 1)]) (cs := List.toArray d) Try.underlying32 zr32 (pl32 _ Try.underlying32) (partsB .nil) rfl) <| WL.st dZ 0 0 d rfl rfl rfl rfl (Put.lit 0 rfl) (ones_of rfl) sz32 fun Q (d0 : Cx [CH.row h 0 d, CH.row l 0 s, CH.row j 0 r, CH.row i 0 p]) => ?_
   refine WL.rd to 1 rfl <| W.ret <| thenE_r ?_
   have eQ : Cx [CH.emp, CH.emp, CH.emp, CH.emp] := d0.pick [4, 4, 4, 4] rfl
   simp only [Option.some.injEq, Prod.mk.injEq] at H
   obtain ⟨eR, eS⟩ := H
   subst eR eS
   exact post_r (resET rfl ((.cell rfl (run_loadVA2 (g := h) (off := 0) (o := 0) (cs := d) (us := d) Try.underlying32 rfl sz32 (Ctx.subI 0 d0 rfl) rfl) (.tmp rfl .nil))) rfl) ⟨F, none, 0, 0, CH.emp, none, 0, 0, CH.emp, none, 0, 0, CH.emp, none, 0, 0, CH.emp, rfl, (CH.le_refl _), eQ, rfl, (Row.nil _ _), rfl, (Row.nil _ _), rfl, (Row.nil _ _), rfl, (Row.nil _ _)⟩
  refine W.condF (congrArg Value.bool (Bool.eq_false_iff.2 bf)) <| W.skip <| W.seq <| W.regionA [([4, 9], CH.row i 0 p), ([2, 4, 9], CH.row j 0 r), ([4, 9], CH.row l 0 s)] (by kernel_rfl) ?_
  have X := Ctx.drewN dZ 1
  refine WA.takes [(0, some 0), (1, some 1), (3, some 2)] ⟨(Ctx.subI 3 X rfl), (Ctx.subI 2 X rfl), (Ctx.subI 1 X rfl), trivial⟩ (by kernel_rfl) <| WT.val rfl (fun _ hC_ => Yl.loadVA (g := i) (off := 0) (o := 0) (cs := p) (us := p) rfl Try.underlying23 rfl sz23 (show Sub (CH.row i 0 p) _ from hC_) rfl) ?_
  refine WT.val rfl (fun _ hC_ => Yl.loadVA (g := j) (off := 0) (o := 0) (cs := r) (us := r) rfl Try.underlying32 rfl sz32 (show Sub (CH.row j 0 r) _ from hC_) rfl) ?_
  refine WT.val rfl (fun _ hC_ => Yl.loadVA (g := l) (off := 0) (o := 0) (cs := s) (us := s) rfl Try.underlying46 rfl (sz_of sz46 (len_app rfl (len_app (len_map ab) rfl))) (show Sub (CH.row l 0 s) _ from hC_) (take_all _)) ?_
  refine WT.done ?_
  obtain ⟨x, rs233_2h, H⟩ := bindE H
  obtain ⟨⟨a, b⟩, rs233_4h, H⟩ := bindE H
  refine WA.joinAt (fun y Q => ∃ u ay aA aZ a5 aO S a0 a6 aP T a1 a7 aQ U a2 a8 aR V aj au ac A ak av ad B al aw ae E am ax af G, y 6 = .pointer (some ⟨h, 0, none⟩) ∧ y 8 = .pointer (some ⟨ay, aA, none⟩) ∧ y 31 = .agg (List.toArray (TState.q a aj ac au ak ad av al ae aw am af ax)) ∧ y 32 = iv b ∧ Ctx w F D Q u [CH.row ay aA (TState.q (⟨([] : List TEra), ([] : List TJob), ([] : List Int), ([] : List Bool), 0⟩ : TState) aZ aO a5 a0 aP a6 a1 aQ a7 a2 aR a8), S, T, U, V, A, B, E, G, CH.row h 0 d, CH.row l 0 s, CH.row j 0 r, CH.row i 0 p] ∧ CH.le F u ∧ aO = ((⟨([] : List TEra), ([] : List TJob), ([] : List Int), ([] : List Bool), 0⟩ : TState).Eras).length ∧ Row TEra.K u S (.slice aZ aO a5) ((⟨([] : List TEra), ([] : List TJob), ([] : List Int), ([] : List Bool), 0⟩ : TState).Eras) ∧ aP = ((⟨([] : List TEra), ([] : List TJob), ([] : List Int), ([] : List Bool), 0⟩ : TState).Jobs).length ∧ Row TJob.K u T (.slice a0 aP a6) ((⟨([] : List TEra), ([] : List TJob), ([] : List Int), ([] : List Bool), 0⟩ : TState).Jobs) ∧ aQ = ((⟨([] : List TEra), ([] : List TJob), ([] : List Int), ([] : List Bool), 0⟩ : TState).Used).length ∧ Row (Kd.int .i64) u U (.slice a1 aQ a7) ((⟨([] : List TEra), ([] : List TJob), ([] : List Int), ([] : List Bool), 0⟩ : TState).Used) ∧ aR = ((⟨([] : List TEra), ([] : List TJob), ([] : List Int), ([] : List Bool), 0⟩ : TState).Barred).length ∧ Row Kd.bool u V (.slice a2 aR a8) ((⟨([] : List TEra), ([] : List TJob), ([] : List Int), ([] : List Bool), 0⟩ : TState).Barred) ∧ ac = a.Eras.length ∧ Row TEra.K u A (.slice aj ac au) a.Eras ∧ ad = a.Jobs.length ∧ Row TJob.K u B (.slice ak ad av) a.Jobs ∧ ae = a.Used.length ∧ Row (Kd.int .i64) u E (.slice al ae aw) a.Used ∧ af = a.Barred.length ∧ Row Kd.bool u G (.slice am af ax) a.Barred) #[true, true, true, true, true, true, true, true, true, false, false] 2 ?_ ?_
  ·intro aM
   refine WA.up2 2 8 (by kernel_rfl) ?_ ?_
   ·refine Up.callH rfl (by kernel_rfl) rfl (juratref21_Copy.calls k _ F bS a4 bV bU a9 aD aB aq aE aC ar aF I X.pre0 cM cK cL cJ bm bg bj ba bn bh bk bb bo bi bl bc x rs233_2h) (ne.fr rfl rfl) ?_
    rintro c9 Q ⟨ck, bW, cl, cN, J, bX, cm, cO, L, bY, cn, cP, M, bZ, co, cQ, N, rfl, O, d7, bM, bI, bN, bJ, bO, bK, bP, bL⟩
    have an : Cx [J, L, M, N, CH.row h 0 d, CH.row l 0 s, CH.row j 0 r, CH.row i 0 p] := Ctx.call0 X d7
    refine ⟨_, rfl, ⟨(Ctx.subI 7 an rfl), trivial, (Ctx.subI 5 an rfl), trivial⟩, ?_⟩
    refine WA.up2 4 8 (by kernel_rfl) ?_ ?_
    ·refine Up.callH rfl (by kernel_rfl) rfl (juratref21_does.calls k _ ck aY bW cl cN J bX cm cO L bY cn cP M bZ co cQ N x ai ag az ap (Ctx.pre (qs := [J, L, M, N]) (rest := [CH.row h 0 d, CH.row l 0 s, CH.row j 0 r, CH.row i 0 p]) an) bM bI bN bJ bO bK bP bL ab aL aJ aK (Sl.mono aH O O) a b rs233_4h) (ne.fr rfl rfl) ?_
     rintro c9 Q ⟨em, b0, cp, cR, bt, b1, cr, cS, bu, b2, ct, cU, bv, b3, cu, cV, bw, rfl, dW, d8, dA, de, dB, df, dC, dg, dD, dh⟩
     have d9 : Cx [bt, bu, bv, bw, CH.row h 0 d, CH.row l 0 s, CH.row j 0 r, CH.row i 0 p] := Ctx.call (qs := [J, L, M, N]) (rest := [CH.row h 0 d, CH.row l 0 s, CH.row j 0 r, CH.row i 0 p]) an d8
     refine ⟨_, rfl, ⟨trivial, trivial, trivial, trivial⟩, ?_⟩
     let eT : List Go.Value := TState.q a b0 cR cp b1 cS cr b2 cU ct b3 cV cu
     refine WA.take none [] 5 rfl (by kernel_rfl) (by kernel_rfl) rfl trivial ⟨trivial, trivial, trivial, trivial⟩ (fun _ hC_ => Yl.move (v := .tuple #[(.agg (List.toArray eT)), (iv b)]) rfl) ?_
     refine WA.take none [] 6 rfl (by kernel_rfl) (by kernel_rfl) rfl trivial ⟨trivial, trivial, trivial, trivial⟩ (fun _ hC_ => Yl.extract (v := .agg (List.toArray eT)) rfl rfl) ?_
     refine WA.take none [] 7 rfl (by kernel_rfl) (by kernel_rfl) rfl trivial ⟨trivial, trivial, trivial, trivial⟩ (fun _ hC_ => Yl.extract (v := iv b) rfl rfl) ?_
     obtain ⟨cI, e8, dS, ea⟩ := ev_alloc (P := Try.prog) (e := 32) d d9 zr32 rfl
     refine WA.up1 8 (by kernel_rfl) (Up.val rfl rfl rfl (dS _ _) ⟨trivial, trivial, trivial, trivial⟩ ?_)
     have eb : Cx [CH.row cI 0 d, CH.emp, CH.emp, CH.emp, CH.emp, bt, bu, bv, bw, CH.row h 0 d, CH.row l 0 s, CH.row j 0 r, CH.row i 0 p] := ea.pick [0, 9, 9, 9, 9, 1, 2, 3, 4, 5, 6, 7, 8] rfl
     exact aM _ _ ⟨em, cI, 0, none, 0, 0, CH.emp, none, 0, 0, CH.emp, none, 0, 0, CH.emp, none, 0, 0, CH.emp, b0, cp, cR, bt, b1, cr, cS, bu, b2, ct, cU, bv, b3, cu, cV, bw, rfl, rfl, rfl, rfl, eb, (CH.le_trans O dW), rfl, (Row.nil _ _), rfl, (Row.nil _ _), rfl, (Row.nil _ _), rfl, (Row.nil _ _), dA, de, dB, df, dC, dg, dD, dh⟩
    ·obtain ⟨Z, e9, dT, a3⟩ := ev_alloc (P := Try.prog) (e := 32) d an zr32 rfl
     refine Up.val rfl rfl rfl (dT _ _) ⟨(Ctx.subI 8 a3 rfl), trivial, (Ctx.subI 6 a3 rfl), trivial⟩ ?_
     have ch : Cx [J, L, M, N, CH.row Z 0 d, CH.row h 0 d, CH.row l 0 s, CH.row j 0 r, CH.row i 0 p] := a3.pick [1, 2, 3, 4, 0, 5, 6, 7, 8] rfl
     refine WA.up1 4 (by kernel_rfl) (Up.callH rfl (by kernel_rfl) rfl (juratref21_does.calls k _ ck aY bW cl cN J bX cm cO L bY cn cP M bZ co cQ N x ai ag az ap (Ctx.pre (qs := [J, L, M, N]) (rest := [CH.row Z 0 d, CH.row h 0 d, CH.row l 0 s, CH.row j 0 r, CH.row i 0 p]) ch) bM bI bN bJ bO bK bP bL ab aL aJ aK (Sl.mono aH O O) a b rs233_4h) (ne.fr rfl rfl) ?_)
     rintro c9 Q ⟨en, b4, cv, cW, bx, b5, cw, cX, bz, b6, cx, cY, bA, b7, cy, cZ, bB, rfl, dX, ec, dE, di, dF, dj, dG, dk, dH, dl⟩
     have ed : Cx [bx, bz, bA, bB, CH.row Z 0 d, CH.row h 0 d, CH.row l 0 s, CH.row j 0 r, CH.row i 0 p] := Ctx.call (qs := [J, L, M, N]) (rest := [CH.row Z 0 d, CH.row h 0 d, CH.row l 0 s, CH.row j 0 r, CH.row i 0 p]) ch ec
     refine ⟨_, rfl, ⟨trivial, trivial, trivial, trivial⟩, ?_⟩
     let eU : List Go.Value := TState.q a b4 cW cv b5 cX cw b6 cY cx b7 cZ cy
     refine WA.take none [] 5 rfl (by kernel_rfl) (by kernel_rfl) rfl trivial ⟨trivial, trivial, trivial, trivial⟩ (fun _ hC_ => Yl.move (v := .tuple #[(.agg (List.toArray eU)), (iv b)]) rfl) ?_
     refine WA.take none [] 6 rfl (by kernel_rfl) (by kernel_rfl) rfl trivial ⟨trivial, trivial, trivial, trivial⟩ (fun _ hC_ => Yl.extract (v := .agg (List.toArray eU)) rfl rfl) ?_
     refine WA.take none [] 7 rfl (by kernel_rfl) (by kernel_rfl) rfl trivial ⟨trivial, trivial, trivial, trivial⟩ (fun _ hC_ => Yl.extract (v := iv b) rfl rfl) ?_
     have ee : Cx [CH.row Z 0 d, CH.emp, CH.emp, CH.emp, CH.emp, bx, bz, bA, bB, CH.row h 0 d, CH.row l 0 s, CH.row j 0 r, CH.row i 0 p] := ed.pick [4, 9, 9, 9, 9, 0, 1, 2, 3, 5, 6, 7, 8] rfl
     exact aM _ _ ⟨en, Z, 0, none, 0, 0, CH.emp, none, 0, 0, CH.emp, none, 0, 0, CH.emp, none, 0, 0, CH.emp, b4, cv, cW, bx, b5, cw, cX, bz, b6, cx, cY, bA, b7, cy, cZ, bB, rfl, rfl, rfl, rfl, ee, (CH.le_trans O dX), rfl, (Row.nil _ _), rfl, (Row.nil _ _), rfl, (Row.nil _ _), rfl, (Row.nil _ _), dE, di, dF, dj, dG, dk, dH, dl⟩
   ·obtain ⟨aa, fa, dU, ao⟩ := ev_alloc (P := Try.prog) (e := 32) d X zr32 rfl
    refine Up.val rfl rfl rfl (dU _ _) ⟨(Ctx.subI 4 ao rfl), (Ctx.subI 3 ao rfl), (Ctx.subI 2 ao rfl), trivial⟩ <| WA.up1 2 (by kernel_rfl) (Up.callH rfl (by kernel_rfl) rfl (juratref21_Copy.calls k _ F bS a4 bV bU a9 aD aB aq aE aC ar aF I ao.pre0 cM cK cL cJ bm bg bj ba bn bh bk bb bo bi bl bc x rs233_2h) (ne.fr rfl rfl) ?_)
    rintro c9 Q ⟨eo, d2, eq, eH, aS, d3, er, eI, aT, d4, es, eJ, aU, d5, et, eK, aV, rfl, aN, ef, dI, dm, dJ, dp, dK, dq, dL, dr⟩
    have aG : Cx [aS, aT, aU, aV, CH.row aa 0 d, CH.row h 0 d, CH.row l 0 s, CH.row j 0 r, CH.row i 0 p] := Ctx.call0 ao ef
    refine ⟨_, rfl, ⟨(Ctx.subI 8 aG rfl), trivial, (Ctx.subI 6 aG rfl), trivial⟩, ?_⟩
    refine WA.up1 4 (by kernel_rfl) (Up.callH rfl (by kernel_rfl) rfl (juratref21_does.calls k _ eo aY d2 eq eH aS d3 er eI aT d4 es eJ aU d5 et eK aV x ai ag az ap (Ctx.pre (qs := [aS, aT, aU, aV]) (rest := [CH.row aa 0 d, CH.row h 0 d, CH.row l 0 s, CH.row j 0 r, CH.row i 0 p]) aG) dI dm dJ dp dK dq dL dr ab aL aJ aK (Sl.mono aH aN aN) a b rs233_4h) (ne.fr rfl rfl) ?_)
    rintro c9 Q ⟨ep, b8, cz, c1, bC, b9, cA, c2, bD, ca, cB, c3, bE, cb, cC, c4, bG, rfl, dY, eg, dM, ds, dN, dt, dO, du, dP, dv⟩
    have eh : Cx [bC, bD, bE, bG, CH.row aa 0 d, CH.row h 0 d, CH.row l 0 s, CH.row j 0 r, CH.row i 0 p] := Ctx.call (qs := [aS, aT, aU, aV]) (rest := [CH.row aa 0 d, CH.row h 0 d, CH.row l 0 s, CH.row j 0 r, CH.row i 0 p]) aG eg
    refine ⟨_, rfl, ⟨trivial, trivial, trivial, trivial⟩, ?_⟩
    let eV : List Go.Value := TState.q a b8 c1 cz b9 c2 cA ca c3 cB cb c4 cC
    refine WA.take none [] 5 rfl (by kernel_rfl) (by kernel_rfl) rfl trivial ⟨trivial, trivial, trivial, trivial⟩ (fun _ hC_ => Yl.move (v := .tuple #[(.agg (List.toArray eV)), (iv b)]) rfl) ?_
    refine WA.take none [] 6 rfl (by kernel_rfl) (by kernel_rfl) rfl trivial ⟨trivial, trivial, trivial, trivial⟩ (fun _ hC_ => Yl.extract (v := .agg (List.toArray eV)) rfl rfl) ?_
    refine WA.take none [] 7 rfl (by kernel_rfl) (by kernel_rfl) rfl trivial ⟨trivial, trivial, trivial, trivial⟩ (fun _ hC_ => Yl.extract (v := iv b) rfl rfl) ?_
    have ei : Cx [CH.row aa 0 d, CH.emp, CH.emp, CH.emp, CH.emp, bC, bD, bE, bG, CH.row h 0 d, CH.row l 0 s, CH.row j 0 r, CH.row i 0 p] := eh.pick [4, 9, 9, 9, 9, 0, 1, 2, 3, 5, 6, 7, 8] rfl
    exact aM _ _ ⟨ep, aa, 0, none, 0, 0, CH.emp, none, 0, 0, CH.emp, none, 0, 0, CH.emp, none, 0, 0, CH.emp, b8, cz, c1, bC, b9, cA, c2, bD, ca, cB, c3, bE, cb, cC, c4, bG, rfl, rfl, rfl, rfl, ei, (CH.le_trans aN dY), rfl, (Row.nil _ _), rfl, (Row.nil _ _), rfl, (Row.nil _ _), rfl, (Row.nil _ _), dM, ds, dN, dt, dO, du, dP, dv⟩
  ·rintro y Q ⟨u, ay, aA, aZ, a5, aO, S, a0, a6, aP, T, a1, a7, aQ, U, a2, a8, aR, V, aj, au, ac, A, ak, av, ad, B, al, aw, ae, E, am, ax, af, G, ah, bQ, dQ, dR, d6, bR, e4, e0, e5, e1, e6, e2, e7, e3, dw, da, dx, db, dy, dc, dz, dd⟩
   let aW : List Go.Value := TState.q a aj ac au ak ad av al ae aw am af ax
   obtain ⟨fb, dV, ej⟩ := ev_setI (P := Try.prog) (ps1 := []) (ps2 := [S, T, U, V, A, B, E, G, CH.row h 0 d, CH.row l 0 s, CH.row j 0 r, CH.row i 0 p]) (t := 32) 0 aW (.agg (List.toArray aW)) d6 rfl rfl (ones_of rfl) sz32
   let eL : CH := CH.row ay aA aW
   have Y : Cx [eL, S, T, U, V, A, B, E, G, CH.row h 0 d, CH.row l 0 s, CH.row j 0 r, CH.row i 0 p] := ej
   refine WA.up1 9 (by kernel_rfl) (Up.skip rfl rfl (dV _ _ _ _ bQ dQ) ⟨trivial, trivial, trivial, trivial⟩ ?_)
   refine WA.takes [(10, none)] ⟨(Ctx.subI 12 Y rfl), (Ctx.subI 11 Y rfl), (Ctx.subI 10 Y rfl), trivial⟩ (by kernel_rfl) <| WT.val rfl (fun _ hC_ => Yl.assign (v := iv b) (by exact dR)) ?_
   refine WT.done <| WA.done (by kernel_rfl) <| W.seq <| W.sr rfl <| WL.rd to 2 rfl ?_
   rcases iteE H with ⟨aI, H⟩ | ⟨aI, H⟩
   ·refine W.nF aI rfl <| W.skip <| W.sr rfl <| WL.val (Yl.loadVA (g := ay) (off := aA) (o := 0) (cs := aW) (us := aW) bQ Try.underlying32 rfl sz32 (Ctx.subI 0 Y rfl) rfl) <| WL.st Y 9 0 aW rfl ah rfl rfl (Put.lit 0 rfl) (ones_of rfl) sz32 fun Q (ci : Cx [eL, S, T, U, V, A, B, E, G, CH.row h 0 aW, CH.row l 0 s, CH.row j 0 r, CH.row i 0 p]) => ?_
    refine WL.rd to 1 rfl <| W.ret ?_
    have ek : Cx [A, B, E, G] := ci.pick [5, 6, 7, 8] rfl
    simp only [Option.some.injEq, Prod.mk.injEq] at H
    obtain ⟨eu, ew⟩ := H
    subst eu ew
    exact post_r (resET rfl ((.cell ah (run_loadVA2 (g := h) (off := 0) (o := 0) (cs := aW) (us := aW) Try.underlying32 rfl sz32 (Ctx.subI 9 ci rfl) rfl) (.tmp rfl .nil))) rfl) ⟨u, aj, au, ac, A, ak, av, ad, B, al, aw, ae, E, am, ax, af, G, rfl, bR, ek, dw, da, dx, db, dy, dc, dz, dd⟩
   refine W.nT aI rfl <| W.sr rfl <| WL.val (Yl.build (places := [(0, 1), (1, 1), (2, 1), (3, 1), (4, 1)]) (cs := List.toArray d) Try.underlying32 zr32 (pl32 _ Try.underlying32) (partsB .nil) rfl) <| WL.run to 1 rfl <| WL.st Y 9 0 d rfl ah rfl rfl (Put.lit 0 rfl) (ones_of rfl) sz32 fun Q (cj : Cx [eL, S, T, U, V, A, B, E, G, CH.row h 0 d, CH.row l 0 s, CH.row j 0 r, CH.row i 0 p]) => ?_
   refine WL.rd to 1 rfl <| W.ret <| thenE_r ?_
   have el : Cx [CH.emp, CH.emp, CH.emp, CH.emp] := cj.pick [13, 13, 13, 13] rfl
   simp only [Option.some.injEq, Prod.mk.injEq] at H
   obtain ⟨ex, ey⟩ := H
   subst ex ey
   exact post_r (resET rfl ((.cell ah (run_loadVA2 (g := h) (off := 0) (o := 0) (cs := d) (us := d) Try.underlying32 rfl sz32 (Ctx.subI 9 cj rfl) rfl) (.tmp rfl .nil))) rfl) ⟨u, none, 0, 0, CH.emp, none, 0, 0, CH.emp, none, 0, 0, CH.emp, none, 0, 0, CH.emp, rfl, bR, el, rfl, (Row.nil _ _), rfl, (Row.nil _ _), rfl, (Row.nil _ _), rfl, (Row.nil _ _)⟩
end Go.Proofs.Ytobdpbnadjkhiaa
