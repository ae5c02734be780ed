/- Functions of the program: each as a plain function of numbers and lists, and the proof that the program's own comes to it. Nothing is assumed but what each theorem says. -/
import Derived.Test.YtobdpbnadjkhiaaTGd
namespace Go.Proofs.Ytobdpbnadjkhiaa
open Go.RowKit Go.WG
set_option linter.unusedVariables false
set_option linter.unusedSimpArgs false
set_option maxRecDepth 100000
set_option maxHeartbeats 4000000
def docket_clone.l2 : Nat → TState → Int → Int → TJob → Option TJob
  | 0, _, _, _, _ => none
  | k + 1, e, d, b, a => if b < (((e.Jobs.getD d.toNat TJob.z).Votes).length : Int) then (if 0 ≤ b ∧ b < (((e.Jobs.getD d.toNat TJob.z).Votes).length : Int) then (if (((((e.Jobs.getD d.toNat TJob.z).Votes).getD b.toNat TCast.z).Value).length + ((((e.Jobs.getD d.toNat TJob.z).Votes).getD b.toNat TCast.z).Value).length / 4 + 192) * 1 ≤ 281474976710656 then (if (a.Votes.length + 1 + (a.Votes.length + 1) / 4 + 192) * 32 ≤ 281474976710656 then (docket_clone.l2 k e d (wi64 (b + 1)) (⟨a.Payload, a.State, a.Attempt, a.Epoch, a.Until, a.Workers, a.Indexes, a.Votes ++ [(⟨(((e.Jobs.getD d.toNat TJob.z).Votes).getD b.toNat TCast.z).Worker, (((e.Jobs.getD d.toNat TJob.z).Votes).getD b.toNat TCast.z).Value⟩ : TCast)], a.Value⟩ : TJob)) else none) else none) else none) else (some a)
def docket_clone.l1 : Nat → TState → Int → TState → Option TState
  | 0, _, _, _ => none
  | k + 1, d, a, b => if a < (d.Jobs.length : Int) then (if 0 ≤ a ∧ a < (d.Jobs.length : Int) then (if (((d.Jobs.getD a.toNat TJob.z).Payload).length + ((d.Jobs.getD a.toNat TJob.z).Payload).length / 4 + 192) * 1 ≤ 281474976710656 then (if (((d.Jobs.getD a.toNat TJob.z).Workers).length + ((d.Jobs.getD a.toNat TJob.z).Workers).length / 4 + 192) * 8 ≤ 281474976710656 then (if (((d.Jobs.getD a.toNat TJob.z).Indexes).length + ((d.Jobs.getD a.toNat TJob.z).Indexes).length / 4 + 192) * 8 ≤ 281474976710656 then (if (((d.Jobs.getD a.toNat TJob.z).Value).length + ((d.Jobs.getD a.toNat TJob.z).Value).length / 4 + 192) * 1 ≤ 281474976710656 then ((docket_clone.l2 k d a 0 (⟨(d.Jobs.getD a.toNat TJob.z).Payload, (d.Jobs.getD a.toNat TJob.z).State, (d.Jobs.getD a.toNat TJob.z).Attempt, (d.Jobs.getD a.toNat TJob.z).Epoch, (d.Jobs.getD a.toNat TJob.z).Until, (d.Jobs.getD a.toNat TJob.z).Workers, (d.Jobs.getD a.toNat TJob.z).Indexes, ([] : List TCast), (d.Jobs.getD a.toNat TJob.z).Value⟩ : TJob)).bind fun e => if (b.Jobs.length + 1 + (b.Jobs.length + 1) / 4 + 192) * 152 ≤ 281474976710656 then (docket_clone.l1 k d (wi64 (a + 1)) (⟨b.Eras, b.Jobs ++ [e], b.Used, b.Barred, b.Heads⟩ : TState)) else none) else none) else none) else none) else none) else none) else (some b)
def docket_clone.f (k : Nat) (a : TState) : Option TState := if (a.Eras.length + a.Eras.length / 4 + 192) * 40 ≤ 281474976710656 then (if (a.Used.length + a.Used.length / 4 + 192) * 8 ≤ 281474976710656 then (if (a.Barred.length + a.Barred.length / 4 + 192) * 1 ≤ 281474976710656 then ((docket_clone.l1 k a 0 (⟨a.Eras, ([] : List TJob), a.Used, a.Barred, a.Heads⟩ : TState)).bind fun b => some b) else none) else none) else none
theorem docket_clone.calls (k w F kt e1 nc di cV b3 d6 cA eP d7 cB eQ) (G : TState) (hp : Pre w F []) (pk : nc = G.Eras.length) (qW : G.Eras.length ≤ e1) (qX : e1 ≤ maxLen) (o4 : Sl TEra.K F F kt G.Eras) (qG : b3 = G.Jobs.length) (qA : G.Jobs.length ≤ cV) (qD : cV ≤ maxLen) (n2 : Sl TJob.K F F di G.Jobs) (n5 : eP = G.Used.length) (qB : G.Used.length ≤ cA) (qE : cA ≤ maxLen) (n3 : Sl (Kd.int .i64) F F d6 G.Used) (n6 : eQ = G.Barred.length) (qC : G.Barred.length ≤ cB) (qF : cB ≤ maxLen) (n4 : Sl Kd.bool F F d7 G.Barred) (bH : TState) (H : docket_clone.f k G = some bH) :
    Calls Try.prog 30 #[.agg (List.toArray (TState.q G kt nc e1 di b3 cV d6 eP cA d7 eQ cB))] w fun e w' => ∃ F' de dp cr dT df dq ct dU dg dr cu dV dh ds cv dW, e = .returned (.agg (List.toArray (TState.q bH de cr dp df ct dq dg cu dr dh cv ds))) ∧ CH.le F F' ∧ Ctx w F (domL []) w' F' [dT, dU, dV, dW] ∧ cr = bH.Eras.length ∧ Row TEra.K F' dT (.slice de cr dp) bH.Eras ∧ ct = bH.Jobs.length ∧ Row TJob.K F' dU (.slice df ct dq) bH.Jobs ∧ cu = bH.Used.length ∧ Row (Kd.int .i64) F' dV (.slice dg cu dr) bH.Used ∧ cv = bH.Barred.length ∧ Row Kd.bool F' dW (.slice dh cv ds) bH.Barred := by
 have C := Ctx.start hp
 generalize hD : domL [] = D at C ⊢
 unfold docket_clone.f at H
 refine Calls.ofW Try.func30 rfl (by simp [Try.ntmps30]) <| W.sr rfl ?_
 let J : List Go.Value := TState.q G kt nc e1 di b3 cV d6 eP cA d7 eQ cB
 obtain ⟨y, qY, n7, oP⟩ := ev_box (P := Try.prog) 32 (.agg (List.toArray J)) J C rfl
 refine WL.val (n7 _ _ _ rfl) ?_
 let I : List Go.Value := [.slice none 0 0, .slice none 0 0, .slice none 0 0, .slice none 0 0, iv 0]
 obtain ⟨x, qZ, n8, oQ⟩ := ev_alloc (P := Try.prog) (e := 32) I oP zr32 rfl
 refine WL.val (n8 _ _) <| WL.done <| W.seq <| W.regionA [([16], CH.row y 0 J)] (by kernel_rfl) ?_
 have gO := Ctx.drewN oQ 1
 refine WA.takes [(1, none), (2, some 0), (5, none), (6, some 0), (9, none), (10, some 0), (12, none), (13, some 0)] ⟨(Ctx.subI 1 gO rfl), trivial⟩ (by kernel_rfl) <| WT.run to 1 rfl <| WT.lv 0 rfl rfl rfl Try.underlying27 rfl rfl <| WT.run to 1 rfl <| WT.lv 2 rfl rfl rfl Try.underlying29 rfl rfl <| WT.run to 1 rfl <| WT.lv 3 rfl rfl rfl Try.underlying30 rfl rfl <| WT.run to 1 rfl <| WT.lv 4 rfl rfl rfl Try.underlying3 rfl rfl ?_
 refine WT.done ?_
 obtain ⟨lU, H⟩ := guardE H
 obtain ⟨lV, H⟩ := guardE H
 obtain ⟨lW, H⟩ := guardE H
 refine WA.par (fun L_ a aB => ∃ ai al Z N aj am aa O ak an ab Q b S, Ctx w F D aB F [N, O, Q, S, CH.row x 0 I, CH.row y 0 J] ∧ a 1 = .pointer (some ⟨y, 0, none⟩) ∧ a 2 = .pointer (some ⟨x, 0, none⟩) ∧ a 11 = .slice kt nc e1 ∧ a 15 = .slice d6 eP cA ∧ a 19 = .slice d7 eQ cB ∧ a 22 = iv G.Heads ∧ cond (L_ 3) (a 12 = .slice ai Z al ∧ Z = G.Eras.length ∧ Row TEra.K F N (.slice ai Z al) G.Eras) (cond (L_ 0) (∃ dY d1 c9, a 9 = .slice dY c9 d1 ∧ c9 = ([] : List TEra).length ∧ Row TEra.K F N (.slice dY c9 d1) ([] : List TEra)) (True)) ∧ cond (L_ 7) (a 16 = .slice aj aa am ∧ aa = G.Used.length ∧ Row (Kd.int .i64) F O (.slice aj aa am) G.Used) (cond (L_ 4) (∃ dZ d2 da, a 13 = .slice dZ da d2 ∧ da = ([] : List Int).length ∧ Row (Kd.int .i64) F O (.slice dZ da d2) ([] : List Int)) (True)) ∧ cond (L_ 11) (a 20 = .slice ak ab an ∧ ab = G.Barred.length ∧ Row Kd.bool F Q (.slice ak ab an) G.Barred) (cond (L_ 8) (∃ d0 d3 db, a 17 = .slice d0 db d3 ∧ db = ([] : List Bool).length ∧ Row Kd.bool F Q (.slice d0 db d3) ([] : List Bool)) (True)) ∧ cond (L_ 15) (a 3 = .pointer (some ⟨b, 0, none⟩) ∧ S = CH.row b 0 I) (True) ∧ cond (L_ 14) (a 23 = .agg (List.toArray (TState.q G ai Z al none 0 0 aj aa am ak ab an))) True) [(0, [], [3, 14]), (3, [0], [14]), (4, [], [7, 14]), (7, [3, 4], [14]), (8, [], [11, 14]), (11, [7, 8], [14]), (14, [3, 7, 11], []), (15, [], [])] [1, 2, 5, 6, 9, 10, 12, 13] [0, 1, 2, 3, 4, 5, 6, 7, 8, 9, 10, 11, 12, 13, 14, 15] #[true, true, true, true, true, true, true, true, true, true, true, true, true, true, true, true, false] 1 8 (by kernel_rfl) ?_ (.cons ?_ (.cons ?_ (.cons ?_ (.cons ?_ (.cons ?_ (.cons ?_ (.cons ?_ (.cons ?_ .nil)))))))) ?_
 ·have nw := Ctx.emp gO
  have nx := Ctx.emp nw
  have ny := Ctx.emp nx
  have nz := Ctx.emp ny
  exact ⟨none, 0, 0, CH.emp, none, 0, 0, CH.emp, none, 0, 0, CH.emp, 0, CH.emp, nz, rfl, rfl, rfl, rfl, rfl, rfl, (iF rfl (iF rfl trivial)), (iF rfl (iF rfl trivial)), (iF rfl (iF rfl trivial)), (iF rfl trivial), (iF rfl trivial)⟩
 ·intro L_ a aB hk_ hI_
  obtain ⟨qH, n9, oa, _⟩ := hk_
  obtain ⟨ai, al, Z, N, aj, am, aa, O, ak, an, ab, Q, b, S, nA, l0, l3, l4, l5, l6, l7, pY, lr, ls, lu, pR⟩ := hI_
  obtain ⟨nq, nO, ow, ki, qO, lX, mO, g8, lo⟩ := ev_lit0 (P := Try.prog) 65 TEra.K nA Try.underlying27 ti65
  refine UpI.val rfl rfl (mO _ _) ⟨(Ctx.subI 6 g8 rfl), trivial⟩ ?_
  have nB : Cx [ki, O, Q, S, CH.row x 0 I, CH.row y 0 J] := g8.pick [0, 2, 3, 4, 5, 6] rfl
  exact ⟨ai, al, Z, ki, aj, am, aa, O, ak, an, ab, Q, b, S, nB, l0, l3, l4, l5, l6, l7, (iF n9 (iT rfl ⟨nq, nO, ow, rfl, lX, lo⟩)), lr, ls, lu, (iF oa trivial)⟩
 ·intro L_ a aB hk_ hI_
  obtain ⟨ob, oc, od, _⟩ := hk_
  obtain ⟨ai, al, Z, N, aj, am, aa, O, ak, an, ab, Q, b, S, g9, l8, l9, eK, ma, mb, mc, lw, lx, ly, lz, pS⟩ := hI_
  obtain ⟨dY, d1, c9, nV, p2, lk⟩ := cT ob (cF oc lw)
  obtain ⟨nr, nP, ox, kj, qP, eH, mP, nC, ey⟩ := ev_append' (P := Try.prog) (cb := e1) 65 TEra.K [] [O, Q, S, CH.row x 0 I, CH.row y 0 J] g9 lk pk o4 g9.fro Try.underlying27 ti65 rfl zo65 (by decide) (by decide) (by simpa using lU)
  have ha : Cx [kj, O, Q, S, CH.row x 0 I, CH.row y 0 J] := nC
  rw [List.nil_append] at eH ey
  refine UpI.val rfl rfl (mP _ _ _ _ nV eK) ⟨(Ctx.subI 5 ha rfl), trivial⟩ ?_
  exact ⟨nr, nP, ox, kj, aj, am, aa, O, ak, an, ab, Q, b, S, ha, l8, l9, eK, ma, mb, mc, (iT rfl ⟨rfl, eH, ey⟩), lx, ly, lz, (iF od trivial)⟩
 ·intro L_ a aB hk_ hI_
  obtain ⟨qI, oe, og, _⟩ := hk_
  obtain ⟨ai, al, Z, N, aj, am, aa, O, ak, an, ab, Q, b, S, nD, md, me, mf, mg, mh, mi, lA, pZ, lB, lC, pT⟩ := hI_
  obtain ⟨ns, nQ, oy, kk, qQ, lY, mQ, hb, lp⟩ := ev_lit0 (P := Try.prog) 3 (Kd.int .i64) nD Try.underlying29 ti3
  refine UpI.val rfl rfl (mQ _ _) ⟨(Ctx.subI 6 hb rfl), trivial⟩ ?_
  have nE : Cx [N, kk, Q, S, CH.row x 0 I, CH.row y 0 J] := hb.pick [1, 0, 3, 4, 5, 6] rfl
  exact ⟨ai, al, Z, N, aj, am, aa, kk, ak, an, ab, Q, b, S, nE, md, me, mf, mg, mh, mi, lA, (iF oe (iT rfl ⟨ns, nQ, oy, rfl, lY, lp⟩)), lB, lC, (iF og trivial)⟩
 ·intro L_ a aB hk_ hI_
  obtain ⟨oh, oi, oj, ok, _⟩ := hk_
  obtain ⟨ai, al, Z, N, aj, am, aa, O, ak, an, ab, Q, b, S, hc, mj, ml, mm, eL, mn, mo, eB, lD, lE, lF, pU⟩ := hI_
  obtain ⟨qv, c7, c5⟩ := cT oh eB
  obtain ⟨dZ, d2, da, nW, p3, ll⟩ := cT oi (cF oj lD)
  obtain ⟨nt, nR, oz, kl, qR, eI, mR, nG, ez⟩ := ev_append' (P := Try.prog) (cb := cA) 3 (Kd.int .i64) [N] [Q, S, CH.row x 0 I, CH.row y 0 J] hc ll n5 n3 hc.fro Try.underlying29 ti3 rfl zo3 (by decide) (by decide) (by simpa using lV)
  have hd : Cx [N, kl, Q, S, CH.row x 0 I, CH.row y 0 J] := nG
  rw [List.nil_append] at eI ez
  refine UpI.val rfl rfl (mR _ _ _ _ nW eL) ⟨(Ctx.subI 5 hd rfl), trivial⟩ ?_
  exact ⟨ai, al, Z, N, nt, nR, oz, kl, ak, an, ab, Q, b, S, hd, mj, ml, mm, eL, mn, mo, eB, (iT rfl ⟨rfl, eI, ez⟩), lE, lF, (iF ok trivial)⟩
 ·intro L_ a aB hk_ hI_
  obtain ⟨qJ, ol, om, _⟩ := hk_
  obtain ⟨ai, al, Z, N, aj, am, aa, O, ak, an, ab, Q, b, S, nH, mq, mr, ms, mt, mu, mv, lG, lH, p0, lI, pV⟩ := hI_
  obtain ⟨nu, nS, oA, km, qS, lZ, mS, he, lq⟩ := ev_lit0 (P := Try.prog) 4 Kd.bool nH Try.underlying30 ti4
  refine UpI.val rfl rfl (mS _ _) ⟨(Ctx.subI 6 he rfl), trivial⟩ ?_
  have nI : Cx [N, O, km, S, CH.row x 0 I, CH.row y 0 J] := he.pick [1, 2, 0, 4, 5, 6] rfl
  exact ⟨ai, al, Z, N, aj, am, aa, O, ak, an, ab, km, b, S, nI, mq, mr, ms, mt, mu, mv, lG, lH, (iF ol (iT rfl ⟨nu, nS, oA, rfl, lZ, lq⟩)), lI, (iF om trivial)⟩
 ·intro L_ a aB hk_ hI_
  obtain ⟨oo, op, oq, os, _⟩ := hk_
  obtain ⟨ai, al, Z, N, aj, am, aa, O, ak, an, ab, Q, b, S, hf, mw, mx, my, mz, eM, mA, lJ, eC, lK, lL, pW⟩ := hI_
  obtain ⟨qw, c8, c6⟩ := cT oo eC
  obtain ⟨d0, d3, db, nX, p4, lm⟩ := cT op (cF oq lK)
  obtain ⟨nv, nU, oB, ko, qT, eJ, mT, nJ, eA⟩ := ev_append' (P := Try.prog) (cb := cB) 4 Kd.bool [N, O] [S, CH.row x 0 I, CH.row y 0 J] hf lm n6 n4 hf.fro Try.underlying30 ti4 rfl zo4 (by decide) (by decide) (by simpa using lW)
  have hg : Cx [N, O, ko, S, CH.row x 0 I, CH.row y 0 J] := nJ
  rw [List.nil_append] at eJ eA
  refine UpI.val rfl rfl (mT _ _ _ _ nX eM) ⟨(Ctx.subI 5 hg rfl), trivial⟩ ?_
  exact ⟨ai, al, Z, N, aj, am, aa, O, nv, nU, oB, ko, b, S, hg, mw, mx, my, mz, eM, mA, lJ, eC, (iT rfl ⟨rfl, eJ, eA⟩), lL, (iF os trivial)⟩
 ·intro L_ a aB hk_ hI_
  obtain ⟨ot, ou, ov, qK, _⟩ := hk_
  obtain ⟨ai, al, Z, N, aj, am, aa, O, ak, an, ab, Q, b, S, hh, mB, mC, mD, mE, mF, eN, eD, eE, eF, lM, pX⟩ := hI_
  obtain ⟨nY, c7, c5⟩ := cT ot eD
  obtain ⟨nZ, c8, c6⟩ := cT ou eE
  obtain ⟨n0, eG, ex⟩ := cT ov eF
  let qM : List Go.Value := TState.q G ai Z al none 0 0 aj aa am ak ab an
  refine UpI.val rfl rfl (Yl.build (places := [(0, 1), (1, 1), (2, 1), (3, 1), (4, 1)]) (cs := List.toArray qM) Try.underlying32 zr32 (pl32 _ Try.underlying32) (partsB (.cons nY (.cons nZ (.cons n0 (.cons eN .nil))))) rfl) ⟨(Ctx.subI 5 hh rfl), trivial⟩ ?_
  exact ⟨ai, al, Z, N, aj, am, aa, O, ak, an, ab, Q, b, S, hh, mB, mC, mD, mE, mF, eN, eD, eE, eF, lM, (iT rfl rfl)⟩
 ·intro L_ a aB hk_ hI_
  obtain ⟨qL, _⟩ := hk_
  obtain ⟨ai, al, Z, N, aj, am, aa, O, ak, an, ab, Q, b, S, nK, mG, mH, mI, mJ, mK, mL, lN, lO, lP, p1, li⟩ := hI_
  obtain ⟨d4, qU, mU, hi⟩ := ev_alloc (P := Try.prog) (e := 32) I nK zr32 rfl
  refine UpI.val rfl rfl (mU _ _) ⟨(Ctx.subI 6 hi rfl), trivial⟩ ?_
  have nL : Cx [N, O, Q, CH.row d4 0 I, CH.row x 0 I, CH.row y 0 J] := hi.pick [1, 2, 3, 0, 5, 6] rfl
  exact ⟨ai, al, Z, N, aj, am, aa, O, ak, an, ab, Q, d4, (CH.row d4 0 I), nL, mG, mH, mI, mJ, mK, mL, lN, lO, lP, (iT rfl ⟨rfl, rfl⟩), li⟩
 ·rintro a aB ⟨ai, al, Z, N, aj, am, aa, O, ak, an, ab, Q, b, S, nM, mM, mN, p5, p6, p7, p8, lQ, lR, lS, lT, lj⟩
  obtain ⟨qx, c7, c5⟩ := cT rfl lQ
  obtain ⟨qy, c8, c6⟩ := cT rfl lR
  obtain ⟨qz, eG, ex⟩ := cT rfl lS
  obtain ⟨hq, rfl⟩ := cT rfl lT
  have n1 := cT rfl lj
  let nl : List Go.Value := TState.q G ai Z al none 0 0 aj aa am ak ab an
  obtain ⟨qV, mV, nN⟩ := ev_setI (P := Try.prog) (ps1 := [N, O, Q]) (ps2 := [CH.row x 0 I, CH.row y 0 J]) (t := 32) 0 nl (.agg (List.toArray nl)) nM rfl rfl (ones_of rfl) sz32
  have hj : Cx [N, O, Q, CH.row b 0 nl, CH.row x 0 I, CH.row y 0 J] := nN
  refine WA.up1 16 (by kernel_rfl) (Up.skip rfl rfl (mV _ _ _ _ hq n1) ⟨trivial, trivial⟩ ?_)
  refine WA.done (by kernel_rfl) <| W.seq <| W.sr rfl <| WL.val (Yl.fieldAddr (i := 1) mM Try.underlying32 rfl sz28) <| WL.lv hj 5 1 rfl rfl Try.underlying28 rfl rfl <| WL.ln (G.Jobs.length : Int) rfl Try.underlying28 (by omega) <| WL.rd to 1 rfl ?_
  obtain ⟨aJ, A, H⟩ := bindE H
  refine W.cutM (fun a aB => ∃ aZ bJ bQ bw bC bK bR bx bD bL bS bz bE bM bU bA bG, Kn a [(2, .pointer (some ⟨x, 0, none⟩)), (3, .pointer (some ⟨b, 0, none⟩))] ∧ Ctx w F D aB aZ [CH.row b 0 (TState.q aJ bJ bw bQ bK bx bR bL bz bS bM bA bU), bC, bD, bE, bG, CH.row x 0 I, CH.row y 0 J] ∧ CH.le F aZ ∧ bw = aJ.Eras.length ∧ Row TEra.K aZ bC (.slice bJ bw bQ) aJ.Eras ∧ bx = aJ.Jobs.length ∧ Row TJob.K aZ bD (.slice bK bx bR) aJ.Jobs ∧ bz = aJ.Used.length ∧ Row (Kd.int .i64) aZ bE (.slice bL bz bS) aJ.Used ∧ bA = aJ.Barred.length ∧ Row Kd.bool aZ bG (.slice bM bA bU) aJ.Barred) ?_ ?_
  ·refine W.block ?_
   have kB : Cx [CH.row b 0 nl, N, CH.emp, O, Q, CH.row x 0 I, CH.row y 0 J] := hj.pick [3, 0, 6, 1, 2, 4, 5] rfl
   refine W.loop (fun d5 a aB => ∃ (s : Int) (ag : TState), ∃ V bb be a0 h bN bV bB v bc bf a1 l bd bg a2 m, Kn a [(2, .pointer (some ⟨x, 0, none⟩)), (3, .pointer (some ⟨b, 0, none⟩)), (25, .slice di b3 cV), (26, iv (G.Jobs.length : Int)), (27, iv s)] ∧ Ctx w F D aB V [CH.row b 0 (TState.q ag bb a0 be bN bB bV bc a1 bf bd a2 bg), h, v, l, m, CH.row x 0 I, CH.row y 0 J] ∧ CH.le F V ∧ a0 = ag.Eras.length ∧ Row TEra.K V h (.slice bb a0 be) ag.Eras ∧ bB = ag.Jobs.length ∧ Row TJob.K V v (.slice bN bB bV) ag.Jobs ∧ a1 = ag.Used.length ∧ Row (Kd.int .i64) V l (.slice bc a1 bf) ag.Used ∧ a2 = ag.Barred.length ∧ Row Kd.bool V m (.slice bd a2 bg) ag.Barred ∧ docket_clone.l1 d5 G s ag = some aJ) k ⟨0, (⟨G.Eras, ([] : List TJob), G.Used, G.Barred, G.Heads⟩ : TState), F, ai, al, Z, N, none, 0, 0, CH.emp, aj, am, aa, O, ak, an, ab, Q, (.c mN (.c hq (.c rfl (.c rfl (.c rfl .n))))), kB, (CH.le_refl _), c7, c5, rfl, (Row.nil _ _), c8, c6, eG, ex, A⟩ ?_
   clear A
   rintro d5 a aB ⟨s, ag, V, bb, be, a0, h, bN, bV, bB, v, bc, bf, a1, l, bd, bg, a2, m, ir, cS, av, dB, cg, ig, ch, dC, ci, dD, cj, A⟩
   rcases d5 with _ | eO
   · exact absurd A (by simp [docket_clone.l1])
   rw [docket_clone.l1] at A
   apply ks a ir
   refine W.sr rfl <| WL.rd to 1 rfl <| W.seq ?_
   rcases iteE A with ⟨cl, A⟩ | ⟨cl, A⟩
   ·refine W.cT cl rfl <| W.skip <| W.seq <| W.block <| W.sr rfl ?_
    obtain ⟨o9, A⟩ := guardE A
    obtain ⟨pM, pA, hs, ia⟩ := n2 (by omega)
    refine WL.val (Yl.elemAddr (i := s) rfl rfl hs Try.underlying28 sz55 (by omega)) ?_
    obtain ⟨oX, jZ, j0⟩ := ia s.toNat _ (getD_some (d := TJob.z) (by omega))
    obtain ⟨d8, cW, eR, d9, cX, eS, ea, cY, eT, eb, et, eU, ku, eu, nd, rfl, ih, pa, pf, hM, ii, pb, pg, hN, ij, pc, ph, hO, pl, pd, pi, hP, ik, pe, pj, hQ⟩ := TJob.open jZ
    let ah : List Go.Value := (TJob.q (G.Jobs.getD s.toNat TJob.z) d8 eR cW d9 eS cX ea eT cY eb eU et ku nd eu)
    refine WL.val (Yl.loadAgg (cs := ah) rfl Try.underlying55 rfl sz55 (fun j u hu => by rw [add_of]; exact ((cS.fro.mono av)).cell (j0 _ _ hu))) ?_
    let kr : List Go.Value := [.slice none 0 0, iv 0, iv 0, iv 0, iv 0, .slice none 0 0, .slice none 0 0, .slice none 0 0, .slice none 0 0]
    obtain ⟨r, qi, j1, kC⟩ := ev_alloc (P := Try.prog) (e := 55) kr cS zr55 rfl
    refine WL.val (j1 _ _) ?_
    let aE : List Go.Value := TState.q ag bb a0 be bN bB bV bc a1 bf bd a2 bg
    refine WL.st kC 0 0 ah rfl rfl rfl rfl (Put.lit 0 rfl) (ones_of rfl) sz55 fun aB (kD : Cx [CH.row r 0 ah, CH.row b 0 aE, h, v, l, m, CH.row x 0 I, CH.row y 0 J]) => ?_
    refine WL.done <| W.seq <| W.regionA [([14], CH.row r 0 ah)] (by kernel_rfl) ?_
    have ed := Ctx.drewN kD 1
    refine WA.takes [(1, none), (2, some 0), (4, none), (5, some 0), (6, none), (7, some 0), (8, none), (9, some 0), (10, none), (11, some 0)] ⟨(Ctx.subI 0 ed rfl), trivial⟩ (by kernel_rfl) <| WT.run to 1 rfl <| WT.lv 0 rfl rfl rfl Try.underlying44 rfl rfl <| WT.run to 1 rfl <| WT.lv 1 rfl rfl rfl Try.underlying3 rfl rfl <| WT.run to 1 rfl <| WT.lv 2 rfl rfl rfl Try.underlying3 rfl rfl <| WT.run to 1 rfl <| WT.lv 3 rfl rfl rfl Try.underlying3 rfl rfl ?_
    refine WT.run to 1 rfl <| WT.lv 4 rfl rfl rfl Try.underlying3 rfl rfl <| WT.done ?_
    obtain ⟨h6, A⟩ := guardE A
    refine WA.par (fun L_ a aB => ∃ ap ar ae B p aH, Ctx w F D aB V [B, aH, CH.row r 0 ah, CH.row b 0 aE, h, v, l, m, CH.row x 0 I, CH.row y 0 J] ∧ a 2 = .pointer (some ⟨x, 0, none⟩) ∧ a 3 = .pointer (some ⟨b, 0, none⟩) ∧ a 5 = .pointer (some ⟨r, 0, none⟩) ∧ a 25 = .slice di b3 cV ∧ a 26 = iv (G.Jobs.length : Int) ∧ a 27 = iv s ∧ a 33 = .slice d8 eR cW ∧ a 36 = iv ((G.Jobs.getD s.toNat TJob.z).State) ∧ a 38 = iv ((G.Jobs.getD s.toNat TJob.z).Attempt) ∧ a 40 = iv ((G.Jobs.getD s.toNat TJob.z).Epoch) ∧ a 42 = iv ((G.Jobs.getD s.toNat TJob.z).Until) ∧ cond (L_ 3) (a 34 = .slice ap ae ar ∧ ae = ((G.Jobs.getD s.toNat TJob.z).Payload).length ∧ Row (Kd.int .u8) V B (.slice ap ae ar) ((G.Jobs.getD s.toNat TJob.z).Payload)) (cond (L_ 0) (∃ cO cZ b4, a 31 = .slice cO b4 cZ ∧ b4 = ([] : List Int).length ∧ Row (Kd.int .u8) V B (.slice cO b4 cZ) ([] : List Int)) (True)) ∧ cond (L_ 13) (a 6 = .pointer (some ⟨p, 0, none⟩) ∧ aH = CH.row p 0 kr) (True) ∧ cond (L_ 12) (a 43 = .agg (List.toArray (TJob.q (G.Jobs.getD s.toNat TJob.z) ap ae ar none 0 0 none 0 0 none 0 0 none 0 0))) True) [(0, [], [3, 12]), (3, [0], [12]), (12, [3], []), (13, [], [])] [1, 2, 4, 5, 6, 7, 8, 9, 10, 11] [0, 1, 2, 3, 4, 5, 6, 7, 8, 9, 10, 11, 12, 13] #[true, true, true, true, true, true, true, true, true, true, true, true, true, true, false] 1 4 (by kernel_rfl) ?_ (.cons ?_ (.cons ?_ (.cons ?_ (.cons ?_ .nil)))) ?_
    ·have kE := Ctx.emp ed
     have kF := Ctx.emp kE
     exact ⟨none, 0, 0, CH.emp, 0, CH.emp, kF, rfl, rfl, rfl, rfl, rfl, rfl, rfl, rfl, rfl, rfl, rfl, (iF rfl (iF rfl trivial)), (iF rfl trivial), (iF rfl trivial)⟩
    ·intro L_ a aB hk_ hI_
     obtain ⟨p9, mW, mX, _⟩ := hk_
     obtain ⟨ap, ar, ae, B, p, aH, kG, it, iu, iw, ix, iy, iz, iA, iB, iC, iD, iE, o5, hR, oY⟩ := hI_
     obtain ⟨kv, k2, nf, eV, qj, il, j2, ee, hF⟩ := ev_lit0 (P := Try.prog) 5 (Kd.int .u8) kG Try.underlying44 ti5
     refine UpI.val rfl rfl (j2 _ _) ⟨(Ctx.subI 3 ee rfl), trivial⟩ ?_
     have kH : Cx [eV, aH, CH.row r 0 ah, CH.row b 0 aE, h, v, l, m, CH.row x 0 I, CH.row y 0 J] := ee.pick [0, 2, 3, 4, 5, 6, 7, 8, 9, 10] rfl
     exact ⟨ap, ar, ae, eV, p, aH, kH, it, iu, iw, ix, iy, iz, iA, iB, iC, iD, iE, (iF mW (iT rfl ⟨kv, k2, nf, rfl, il, hF⟩)), hR, (iF mX trivial)⟩
    ·intro L_ a aB hk_ hI_
     obtain ⟨mY, mZ, m0, _⟩ := hk_
     obtain ⟨ap, ar, ae, B, p, aH, ef, iG, iH, iI, iJ, iK, iL, dJ, iM, iN, iO, iP, hS, hT, oZ⟩ := hI_
     obtain ⟨cO, cZ, b4, k8, pm, hE⟩ := cT mY (cF mZ hS)
     obtain ⟨kw, k3, ng, eW, qk, dF, j3, kI, du⟩ := ev_append' (P := Try.prog) (cb := cW) 5 (Kd.int .u8) [] [aH, CH.row r 0 ah, CH.row b 0 aE, h, v, l, m, CH.row x 0 I, CH.row y 0 J] ef hE ih (Sl.mono hM av av) ef.fro Try.underlying44 ti5 rfl zo5 (by decide) (by decide) (by simpa using h6)
     have eg : Cx [eW, aH, CH.row r 0 ah, CH.row b 0 aE, h, v, l, m, CH.row x 0 I, CH.row y 0 J] := kI
     rw [List.nil_append] at dF du
     refine UpI.val rfl rfl (j3 _ _ _ _ k8 dJ) ⟨(Ctx.subI 2 eg rfl), trivial⟩ ?_
     exact ⟨kw, k3, ng, eW, p, aH, eg, iG, iH, iI, iJ, iK, iL, dJ, iM, iN, iO, iP, (iT rfl ⟨rfl, dF, du⟩), hT, (iF m0 trivial)⟩
    ·intro L_ a aB hk_ hI_
     obtain ⟨m1, qa, _⟩ := hk_
     obtain ⟨ap, ar, ae, B, p, aH, eh, iQ, iR, iS, iU, iV, iW, iX, dK, dL, dM, dN, dy, hU, o0⟩ := hI_
     obtain ⟨k9, dE, dt⟩ := cT m1 dy
     let qN : List Go.Value := (TJob.q (G.Jobs.getD s.toNat TJob.z) ap ae ar none 0 0 none 0 0 none 0 0 none 0 0)
     refine UpI.val rfl rfl (Yl.build (places := [(0, 1), (1, 1), (2, 1), (3, 1), (4, 1), (5, 1), (6, 1), (7, 1), (8, 1)]) (cs := List.toArray qN) Try.underlying55 zr55 (pl55 _ Try.underlying55) (partsB (.cons k9 (.cons dK (.cons dL (.cons dM (.cons dN .nil)))))) rfl) ⟨(Ctx.subI 2 eh rfl), trivial⟩ ?_
     exact ⟨ap, ar, ae, B, p, aH, eh, iQ, iR, iS, iU, iV, iW, iX, dK, dL, dM, dN, dy, hU, (iT rfl rfl)⟩
    ·intro L_ a aB hk_ hI_
     obtain ⟨qb, _⟩ := hk_
     obtain ⟨ap, ar, ae, B, p, aH, kJ, iY, iZ, i0, i1, i2, i3, i4, i5, i6, i7, i8, hV, o6, ht⟩ := hI_
     obtain ⟨c4, ql, j4, ei⟩ := ev_alloc (P := Try.prog) (e := 55) kr kJ zr55 rfl
     refine UpI.val rfl rfl (j4 _ _) ⟨(Ctx.subI 3 ei rfl), trivial⟩ ?_
     have kK : Cx [B, CH.row c4 0 kr, CH.row r 0 ah, CH.row b 0 aE, h, v, l, m, CH.row x 0 I, CH.row y 0 J] := ei.pick [1, 0, 3, 4, 5, 6, 7, 8, 9, 10] rfl
     exact ⟨ap, ar, ae, B, c4, (CH.row c4 0 kr), kK, iY, iZ, i0, i1, i2, i3, i4, i5, i6, i7, i8, hV, (iT rfl ⟨rfl, rfl⟩), ht⟩
    ·rintro a aB ⟨ap, ar, ae, B, p, aH, kL, i9, ja, cn, jb, jc, jd, pq, pr, ps, pt, pu, hW, hX, hv⟩
     obtain ⟨pO, dE, dt⟩ := cT rfl hW
     obtain ⟨ew, rfl⟩ := cT rfl hX
     have lb := cT rfl hv
     let cz : List Go.Value := (TJob.q (G.Jobs.getD s.toNat TJob.z) ap ae ar none 0 0 none 0 0 none 0 0 none 0 0)
     obtain ⟨qm, j5, kM⟩ := ev_setI (P := Try.prog) (ps1 := [B]) (ps2 := [CH.row r 0 ah, CH.row b 0 aE, h, v, l, m, CH.row x 0 I, CH.row y 0 J]) (t := 55) 0 cz (.agg (List.toArray cz)) kL rfl rfl (ones_of rfl) sz55
     have kN : Cx [B, CH.row p 0 cz, CH.row r 0 ah, CH.row b 0 aE, h, v, l, m, CH.row x 0 I, CH.row y 0 J] := kM
     refine WA.up1 14 (by kernel_rfl) (Up.skip rfl rfl (j5 _ _ _ _ ew lb) ⟨trivial, trivial⟩ ?_)
     refine WA.done (by kernel_rfl) <| W.seq <| W.regionA [([7, 9, 11], CH.row r 0 ah)] (by kernel_rfl) ?_
     have ej := Ctx.drewN kN 1
     refine WA.takes [(1, none), (2, some 0), (5, none), (6, some 0)] ⟨(Ctx.subI 2 ej rfl), trivial⟩ (by kernel_rfl) <| WT.val rfl (fun _ hC_ => Yl.fieldAddr (i := 5) (by exact cn) Try.underlying55 rfl sz29) ?_
     refine WT.lv 5 rfl rfl rfl Try.underlying29 rfl rfl <| WT.val rfl (fun _ hC_ => Yl.fieldAddr (i := 6) (by exact cn) Try.underlying55 rfl sz29) ?_
     refine WT.lv 6 rfl rfl rfl Try.underlying29 rfl rfl <| WT.done ?_
     obtain ⟨h7, A⟩ := guardE A
     obtain ⟨h8, A⟩ := guardE A
     refine WA.par (fun L_ a aB => ∃ ac ad X L aq au af M, Ctx w F D aB V [L, M, B, CH.row p 0 cz, CH.row r 0 ah, CH.row b 0 aE, h, v, l, m, CH.row x 0 I, CH.row y 0 J] ∧ a 2 = .pointer (some ⟨x, 0, none⟩) ∧ a 3 = .pointer (some ⟨b, 0, none⟩) ∧ a 5 = .pointer (some ⟨r, 0, none⟩) ∧ a 6 = .pointer (some ⟨p, 0, none⟩) ∧ a 25 = .slice di b3 cV ∧ a 26 = iv (G.Jobs.length : Int) ∧ a 27 = iv s ∧ a 46 = .slice d9 eS cX ∧ a 50 = .slice ea eT cY ∧ cond (L_ 3) (a 47 = .slice ac X ad ∧ X = ((G.Jobs.getD s.toNat TJob.z).Workers).length ∧ Row (Kd.int .i64) V L (.slice ac X ad) ((G.Jobs.getD s.toNat TJob.z).Workers)) (cond (L_ 0) (∃ cP c1 b5, a 44 = .slice cP b5 c1 ∧ b5 = ([] : List Int).length ∧ Row (Kd.int .i64) V L (.slice cP b5 c1) ([] : List Int)) (True)) ∧ cond (L_ 7) (a 51 = .slice aq af au ∧ af = ((G.Jobs.getD s.toNat TJob.z).Indexes).length ∧ Row (Kd.int .i64) V M (.slice aq af au) ((G.Jobs.getD s.toNat TJob.z).Indexes)) (cond (L_ 4) (∃ cQ c2 b6, a 48 = .slice cQ b6 c2 ∧ b6 = ([] : List Int).length ∧ Row (Kd.int .i64) V M (.slice cQ b6 c2) ([] : List Int)) (True)) ∧ cond (L_ 8) (a 52 = .pointer (some ⟨p, 0 + 5, none⟩)) True) [(0, [], [3, 8]), (3, [0], [8]), (4, [], [7]), (7, [3, 4], []), (8, [0, 3], [])] [1, 2, 5, 6] [0, 1, 2, 3, 4, 5, 6, 7, 8] #[true, true, true, true, true, true, true, true, true, false, false, false] 3 5 (by kernel_rfl) ?_ (.cons ?_ (.cons ?_ (.cons ?_ (.cons ?_ (.cons ?_ .nil))))) ?_
     ·have kO := Ctx.emp ej
      have kP := Ctx.emp kO
      exact ⟨none, 0, 0, CH.emp, none, 0, 0, CH.emp, kP, i9, ja, cn, ew, jb, jc, jd, rfl, rfl, (iF rfl (iF rfl trivial)), (iF rfl (iF rfl trivial)), (iF rfl trivial)⟩
     ·intro L_ a aB hk_ hI_
      obtain ⟨qc, m2, m3, _⟩ := hk_
      obtain ⟨ac, ad, X, L, aq, au, af, M, kQ, je, jf, jg, jh, ji, jj, jk, jl, jm, o7, hY, o1⟩ := hI_
      obtain ⟨kx, k4, nh, eX, qn, io, j6, ek, hJ⟩ := ev_lit0 (P := Try.prog) 3 (Kd.int .i64) kQ Try.underlying29 ti3
      refine UpI.val rfl rfl (j6 _ _) ⟨(Ctx.subI 5 ek rfl), trivial⟩ ?_
      have kR : Cx [eX, M, B, CH.row p 0 cz, CH.row r 0 ah, CH.row b 0 aE, h, v, l, m, CH.row x 0 I, CH.row y 0 J] := ek.pick [0, 2, 3, 4, 5, 6, 7, 8, 9, 10, 11, 12] rfl
      exact ⟨ac, ad, X, eX, aq, au, af, M, kR, je, jf, jg, jh, ji, jj, jk, jl, jm, (iF m2 (iT rfl ⟨kx, k4, nh, rfl, io, hJ⟩)), hY, (iF m3 trivial)⟩
     ·intro L_ a aB hk_ hI_
      obtain ⟨m4, m5, m6, _⟩ := hk_
      obtain ⟨ac, ad, X, L, aq, au, af, M, el, jn, jo, jp, jq, jr, js, jt, dO, ju, hZ, h0, o2⟩ := hI_
      obtain ⟨cP, c1, b5, lc, pn, hG⟩ := cT m4 (cF m5 hZ)
      obtain ⟨ky, k5, ni, eY, qo, dG, j7, kS, dv⟩ := ev_append' (P := Try.prog) (cb := cX) 3 (Kd.int .i64) [] [M, B, CH.row p 0 cz, CH.row r 0 ah, CH.row b 0 aE, h, v, l, m, CH.row x 0 I, CH.row y 0 J] el hG ii (Sl.mono hN av av) el.fro Try.underlying29 ti3 rfl zo3 (by decide) (by decide) (by simpa using h7)
      have em : Cx [eY, M, B, CH.row p 0 cz, CH.row r 0 ah, CH.row b 0 aE, h, v, l, m, CH.row x 0 I, CH.row y 0 J] := kS
      rw [List.nil_append] at dG dv
      refine UpI.val rfl rfl (j7 _ _ _ _ lc dO) ⟨(Ctx.subI 4 em rfl), trivial⟩ ?_
      exact ⟨ky, k5, ni, eY, aq, au, af, M, em, jn, jo, jp, jq, jr, js, jt, dO, ju, (iT rfl ⟨rfl, dG, dv⟩), h0, (iF m6 trivial)⟩
     ·intro L_ a aB hk_ hI_
      obtain ⟨qd, m7, _⟩ := hk_
      obtain ⟨ac, ad, X, L, aq, au, af, M, kT, jv, jw, jx, jy, jz, jA, jB, jC, jD, h1, o8, hw⟩ := hI_
      obtain ⟨kz, k6, nj, eZ, qp, ip, j8, en, hK⟩ := ev_lit0 (P := Try.prog) 3 (Kd.int .i64) kT Try.underlying29 ti3
      refine UpI.val rfl rfl (j8 _ _) ⟨(Ctx.subI 5 en rfl), trivial⟩ ?_
      have kU : Cx [L, eZ, B, CH.row p 0 cz, CH.row r 0 ah, CH.row b 0 aE, h, v, l, m, CH.row x 0 I, CH.row y 0 J] := en.pick [1, 0, 3, 4, 5, 6, 7, 8, 9, 10, 11, 12] rfl
      exact ⟨ac, ad, X, L, aq, au, af, eZ, kU, jv, jw, jx, jy, jz, jA, jB, jC, jD, h1, (iF m7 (iT rfl ⟨kz, k6, nj, rfl, ip, hK⟩)), hw⟩
     ·intro L_ a aB hk_ hI_
      obtain ⟨m8, m9, na, _⟩ := hk_
      obtain ⟨ac, ad, X, L, aq, au, af, M, eo, jE, jF, jG, jH, jI, jJ, jK, jL, dP, dz, h2, hx⟩ := hI_
      obtain ⟨pP, cm, ck⟩ := cT m8 dz
      obtain ⟨cQ, c2, b6, ld, po, hH⟩ := cT m9 (cF na h2)
      obtain ⟨kA, k7, nk, e0, qq, dH, j9, kV, dw⟩ := ev_append' (P := Try.prog) (cb := cY) 3 (Kd.int .i64) [L] [B, CH.row p 0 cz, CH.row r 0 ah, CH.row b 0 aE, h, v, l, m, CH.row x 0 I, CH.row y 0 J] eo hH ij (Sl.mono hO av av) eo.fro Try.underlying29 ti3 rfl zo3 (by decide) (by decide) (by simpa using h8)
      have ep : Cx [L, e0, B, CH.row p 0 cz, CH.row r 0 ah, CH.row b 0 aE, h, v, l, m, CH.row x 0 I, CH.row y 0 J] := kV
      rw [List.nil_append] at dH dw
      refine UpI.val rfl rfl (j9 _ _ _ _ ld dP) ⟨(Ctx.subI 4 ep rfl), trivial⟩ ?_
      exact ⟨ac, ad, X, L, kA, k7, nk, e0, ep, jE, jF, jG, jH, jI, jJ, jK, jL, dP, dz, (iT rfl ⟨rfl, dH, dw⟩), hx⟩
     ·intro L_ a aB hk_ hI_
      obtain ⟨qe, nb, qf, _⟩ := hk_
      obtain ⟨ac, ad, X, L, aq, au, af, M, eq, jM, jN, jO, dQ, jP, jQ, jR, jS, jT, dA, h3, o3⟩ := hI_
      obtain ⟨pQ, cm, ck⟩ := cT nb dA
      refine UpI.val rfl rfl (Yl.fieldAddr (i := 5) dQ Try.underlying55 rfl sz29) ⟨(Ctx.subI 4 eq rfl), trivial⟩ ?_
      exact ⟨ac, ad, X, L, aq, au, af, M, eq, jM, jN, jO, dQ, jP, jQ, jR, jS, jT, dA, h3, (iT rfl rfl)⟩
     ·rintro a aB ⟨ac, ad, X, L, aq, au, af, M, kW, jU, jV, dR, co, jW, jX, jY, pv, pw, h4, h5, hy⟩
      obtain ⟨lf, cm, ck⟩ := cT rfl h4
      obtain ⟨lg, im, hI⟩ := cT rfl h5
      have lh := cT rfl hy
      obtain ⟨qr, ka, kX⟩ := ev_setI (P := Try.prog) (ps1 := [L, M, B]) (ps2 := [CH.row r 0 ah, CH.row b 0 aE, h, v, l, m, CH.row x 0 I, CH.row y 0 J]) (t := 29) 5 [.slice ac X ad] (.slice ac X ad) kW rfl rfl (ones_of rfl) sz29
      let pC : List Go.Value := (TJob.q (G.Jobs.getD s.toNat TJob.z) ap ae ar ac X ad none 0 0 none 0 0 none 0 0)
      have er : Cx [L, M, B, CH.row p 0 pC, CH.row r 0 ah, CH.row b 0 aE, h, v, l, m, CH.row x 0 I, CH.row y 0 J] := kX
      refine WA.up1 9 (by kernel_rfl) (Up.skip rfl rfl (ka _ _ _ _ lh lf) ⟨trivial, trivial⟩ ?_)
      refine WA.takes [(10, none)] ⟨(Ctx.subI 4 er rfl), trivial⟩ (by kernel_rfl) <| WT.val rfl (fun _ hC_ => Yl.fieldAddr (i := 6) (by exact co) Try.underlying55 rfl sz29) ?_
      refine WT.done ?_
      obtain ⟨qs, kb, kY⟩ := ev_setI (P := Try.prog) (ps1 := [L, M, B]) (ps2 := [CH.row r 0 ah, CH.row b 0 aE, h, v, l, m, CH.row x 0 I, CH.row y 0 J]) (t := 29) 6 [.slice aq af au] (.slice aq af au) er rfl rfl (ones_of rfl) sz29
      let kp : List Go.Value := (TJob.q (G.Jobs.getD s.toNat TJob.z) ap ae ar ac X ad aq af au none 0 0 none 0 0)
      have kZ : Cx [L, M, B, CH.row p 0 kp, CH.row r 0 ah, CH.row b 0 aE, h, v, l, m, CH.row x 0 I, CH.row y 0 J] := kY
      refine WA.up1 11 (by kernel_rfl) (Up.skip rfl rfl (kb _ _ _ _ rfl lg) ⟨trivial, trivial⟩ ?_)
      refine WA.done (by kernel_rfl) <| W.sr rfl ?_
      obtain ⟨pL, pN, qg, qh, qt, pp, kc, cU, hL⟩ := ev_lit0 (P := Try.prog) 5 (Kd.int .u8) kZ Try.underlying44 ti5
      refine WL.val (kc _ _) <| WL.val (Yl.fieldAddr (i := 8) dR Try.underlying55 rfl sz44) <| WL.lv cU 5 8 rfl rfl Try.underlying44 rfl rfl ?_
      obtain ⟨h9, A⟩ := guardE A
      obtain ⟨cR, c3, dc, b7, qu, dI, kd, k0, dx⟩ := ev_append' (P := Try.prog) (cb := eu) 5 (Kd.int .u8) [] [L, M, B, CH.row p 0 kp, CH.row r 0 ah, CH.row b 0 aE, h, v, l, m, CH.row x 0 I, CH.row y 0 J] cU hL ik (Sl.mono hQ av av) cU.fro Try.underlying44 ti5 rfl zo5 (by decide) (by decide) (by simpa using h9)
      have k1 : Cx [b7, L, M, B, CH.row p 0 kp, CH.row r 0 ah, CH.row b 0 aE, h, v, l, m, CH.row x 0 I, CH.row y 0 J] := k0
      rw [List.nil_append] at dI dx
      refine WL.val (kd _ _ _ _ rfl rfl) <| WL.val (Yl.fieldAddr (i := 8) co Try.underlying55 rfl sz44) ?_
      let nm : List Go.Value := (TJob.q (G.Jobs.getD s.toNat TJob.z) ap ae ar ac X ad aq af au none 0 0 cR dc c3)
      refine WL.st k1 4 8 [.slice cR dc c3] rfl rfl rfl rfl (Put.lit 8 rfl) (ones_of rfl) sz44 fun aB (es : Cx [b7, L, M, B, CH.row p 0 nm, CH.row r 0 ah, CH.row b 0 aE, h, v, l, m, CH.row x 0 I, CH.row y 0 J]) => ?_
      refine WL.done <| W.seq <| W.sr rfl <| WL.val (Yl.fieldAddr (i := 7) dR Try.underlying55 rfl sz53) <| WL.lv es 5 7 rfl rfl Try.underlying53 rfl rfl <| WL.ln (((G.Jobs.getD s.toNat TJob.z).Votes).length : Int) rfl Try.underlying53 (by omega) <| WL.rd to 1 rfl ?_
      obtain ⟨U, R, A⟩ := bindE A
      refine W.cutM (fun a aB => ∃ aK bh bo a4 cw bi bp a5 bX bj bq a6 bu bk br a7 ba bl bs a8 aY, Kn a [(2, .pointer (some ⟨x, 0, none⟩)), (3, .pointer (some ⟨b, 0, none⟩)), (6, .pointer (some ⟨p, 0, none⟩)), (25, .slice di b3 cV), (26, iv (G.Jobs.length : Int)), (27, iv s)] ∧ Ctx w F D aB aK [CH.row p 0 (TJob.q U bh a4 bo bi a5 bp bj a6 bq bk a7 br bl a8 bs), cw, bX, bu, ba, aY, CH.row r 0 ah, CH.row b 0 aE, h, v, l, m, CH.row x 0 I, CH.row y 0 J] ∧ CH.le V aK ∧ a4 = U.Payload.length ∧ Row (Kd.int .u8) aK cw (.slice bh a4 bo) U.Payload ∧ a5 = U.Workers.length ∧ Row (Kd.int .i64) aK bX (.slice bi a5 bp) U.Workers ∧ a6 = U.Indexes.length ∧ Row (Kd.int .i64) aK bu (.slice bj a6 bq) U.Indexes ∧ a7 = U.Votes.length ∧ Row TCast.K aK ba (.slice bk a7 br) U.Votes ∧ a8 = U.Value.length ∧ Row (Kd.int .u8) aK aY (.slice bl a8 bs) U.Value) ?_ ?_
      ·refine W.block ?_
       have gP : Cx [CH.row p 0 nm, B, L, M, CH.emp, b7, CH.row r 0 ah, CH.row b 0 aE, h, v, l, m, CH.row x 0 I, CH.row y 0 J] := es.pick [4, 3, 1, 2, 13, 0, 5, 6, 7, 8, 9, 10, 11, 12] rfl
       refine W.loop (fun d5 a aB => ∃ (aA : Int) (E : TJob), ∃ aI aQ aU aL aw aR aV aM ax aS aW aN ay bm bt a9 aP aT aX aO az, Kn a [(2, .pointer (some ⟨x, 0, none⟩)), (3, .pointer (some ⟨b, 0, none⟩)), (6, .pointer (some ⟨p, 0, none⟩)), (25, .slice di b3 cV), (26, iv (G.Jobs.length : Int)), (27, iv s), (60, .slice eb eU et), (61, iv (((G.Jobs.getD s.toNat TJob.z).Votes).length : Int)), (62, iv aA)] ∧ Ctx w F D aB aI [CH.row p 0 (TJob.q E aQ aL aU aR aM aV aS aN aW bm a9 bt aT aO aX), aw, ax, ay, aP, az, CH.row r 0 ah, CH.row b 0 aE, h, v, l, m, CH.row x 0 I, CH.row y 0 J] ∧ CH.le V aI ∧ aL = E.Payload.length ∧ Row (Kd.int .u8) aI aw (.slice aQ aL aU) E.Payload ∧ aM = E.Workers.length ∧ Row (Kd.int .i64) aI ax (.slice aR aM aV) E.Workers ∧ aN = E.Indexes.length ∧ Row (Kd.int .i64) aI ay (.slice aS aN aW) E.Indexes ∧ a9 = E.Votes.length ∧ Row TCast.K aI aP (.slice bm a9 bt) E.Votes ∧ aO = E.Value.length ∧ Row (Kd.int .u8) aI az (.slice aT aO aX) E.Value ∧ docket_clone.l2 d5 G s aA E = some U) eO ⟨0, (⟨(G.Jobs.getD s.toNat TJob.z).Payload, (G.Jobs.getD s.toNat TJob.z).State, (G.Jobs.getD s.toNat TJob.z).Attempt, (G.Jobs.getD s.toNat TJob.z).Epoch, (G.Jobs.getD s.toNat TJob.z).Until, (G.Jobs.getD s.toNat TJob.z).Workers, (G.Jobs.getD s.toNat TJob.z).Indexes, ([] : List TCast), (G.Jobs.getD s.toNat TJob.z).Value⟩ : TJob), V, ap, ar, ae, B, ac, ad, X, L, aq, au, af, M, none, 0, 0, CH.emp, cR, c3, dc, b7, (.c jU (.c jV (.c co (.c jW (.c jX (.c jY (.c rfl (.c rfl (.c rfl .n))))))))), gP, (CH.le_refl _), dE, dt, cm, ck, im, hI, rfl, (Row.nil _ _), dI, dx, R⟩ ?_
       clear R
       rintro d5 a aB ⟨aA, E, aI, aQ, aU, aL, aw, aR, aV, aM, ax, aS, aW, aN, ay, bm, bt, a9, aP, aT, aX, aO, az, gw, ca, aG, cJ, cC, cK, cD, cL, cE, gp, cG, cM, cH, R⟩
       rcases d5 with _ | ke
       · exact absurd R (by simp [docket_clone.l2])
       rw [docket_clone.l2] at R
       have e8 := Row.mono cg aG
       have e9 := Row.mono ch aG
       have fa := Row.mono ci aG
       have fb := Row.mono cj aG
       apply ks a gw
       refine W.sr rfl <| WL.rd to 1 rfl <| W.seq ?_
       rcases iteE R with ⟨b2, R⟩ | ⟨b2, R⟩
       ·refine W.cT b2 rfl <| W.skip <| W.seq <| W.block <| W.sr rfl ?_
        obtain ⟨oH, R⟩ := guardE R
        obtain ⟨oV, oL, e2, f7⟩ := hP (by omega)
        refine WL.val (Yl.elemAddr (i := aA) rfl rfl e2 Try.underlying53 sz79 (by omega)) ?_
        obtain ⟨oC, gx, gy⟩ := f7 aA.toNat _ (getD_some (d := TCast.z) (by omega))
        obtain ⟨gN, dl, kg, rfl, gq, oI, oJ, fX⟩ := TCast.open gx
        let kq : List Go.Value := [iv ((((G.Jobs.getD s.toNat TJob.z).Votes).getD aA.toNat TCast.z).Worker), .slice gN kg dl]
        refine WL.val (Yl.loadAgg (cs := kq) rfl Try.underlying79 rfl sz79 (fun j u hu => by rw [add_of]; exact ((ca.fro.mono (CH.le_trans av aG))).cell (gy _ _ hu))) ?_
        obtain ⟨hr, pD, gz, gQ⟩ := ev_alloc (P := Try.prog) (e := 79) [iv 0, .slice none 0 0] ca zr79 rfl
        refine WL.val (gz _ _) ?_
        let cy : List Go.Value := TJob.q E aQ aL aU aR aM aV aS aN aW bm a9 bt aT aO aX
        let b1 : CH := CH.row hr 0 kq
        refine WL.st gQ 0 0 kq rfl rfl rfl rfl (Put.lit 0 rfl) (ones_of rfl) sz79 fun aB (gR : Cx [b1, CH.row p 0 cy, aw, ax, ay, aP, az, CH.row r 0 ah, CH.row b 0 aE, h, v, l, m, CH.row x 0 I, CH.row y 0 J]) => ?_
        refine WL.done <| W.regionA [([10, 12], CH.row p 0 cy), ([9, 10, 12], b1)] (by kernel_rfl) ?_
        have cc := Ctx.drewN gR 1
        refine WA.takes [(0, none), (1, some 0), (2, none), (3, some 1), (5, none), (6, some 1)] ⟨(Ctx.subI 1 cc rfl), (Ctx.subI 0 cc rfl), trivial⟩ (by kernel_rfl) <| WT.run to 1 rfl <| WT.lv 7 rfl rfl rfl Try.underlying53 rfl rfl <| WT.run to 1 rfl <| WT.lv 0 rfl rfl rfl Try.underlying3 rfl rfl <| WT.run to 1 rfl <| WT.lv 1 rfl rfl rfl Try.underlying44 rfl rfl <| WT.done ?_
        obtain ⟨oM, oW, px, pB, pE, oK, gA, bO, fc⟩ := ev_lit0 (P := Try.prog) 5 (Kd.int .u8) cc Try.underlying44 ti5
        refine WA.up1 4 (by kernel_rfl) (Up.val rfl rfl rfl (gA _ _) ⟨(Ctx.subI 2 bO rfl), (Ctx.subI 1 bO rfl), trivial⟩ ?_)
        obtain ⟨f4, R⟩ := guardE R
        obtain ⟨dd, dm, dS, kh, pF, cN, gB, gS, cI⟩ := ev_append' (P := Try.prog) (cb := dl) 5 (Kd.int .u8) [] [b1, CH.row p 0 cy, aw, ax, ay, aP, az, CH.row r 0 ah, CH.row b 0 aE, h, v, l, m, CH.row x 0 I, CH.row y 0 J] bO fc gq (Sl.mono fX (CH.le_trans av aG) (CH.le_trans av aG)) bO.fro Try.underlying44 ti5 rfl zo5 (by decide) (by decide) (by simpa using f4)
        have bn : Cx [kh, b1, CH.row p 0 cy, aw, ax, ay, aP, az, CH.row r 0 ah, CH.row b 0 aE, h, v, l, m, CH.row x 0 I, CH.row y 0 J] := gS
        rw [List.nil_append] at cN cI
        refine WA.up1 7 (by kernel_rfl) (Up.val rfl rfl rfl (gB _ _ _ _ rfl rfl) ⟨(Ctx.subI 2 bn rfl), (Ctx.subI 1 bn rfl), trivial⟩ ?_)
        refine WA.takes [(8, none)] ⟨(Ctx.subI 2 bn rfl), (Ctx.subI 1 bn rfl), trivial⟩ (by kernel_rfl) ?_
        let nn : List Go.Value := [iv ((((G.Jobs.getD s.toNat TJob.z).Votes).getD aA.toNat TCast.z).Worker), .slice dd dS dm]
        refine WT.val rfl (fun _ hC_ => Yl.build (places := [(0, 1), (1, 1)]) (cs := List.toArray nn) Try.underlying79 zr79 (pl79 _ Try.underlying79) (partsB (.cons rfl (.cons rfl .nil))) rfl) ?_
        refine WT.done ?_
        obtain ⟨hk, aC, gH, (gT : Cx [b1, CH.row p 0 cy, aw, ax, ay, aP, az, CH.row r 0 ah, CH.row b 0 aE, h, v, l, m, CH.row x 0 I, CH.row y 0 J])⟩ := Ctx.fzI 0 bn rfl
        obtain ⟨f8, ge, fY⟩ := Row.fz cI aC gH
        have fd := Row.mono cG aC
        have oD := Row.mono e8 aC
        have oE := Row.mono e9 aC
        have oF := Row.mono fa aC
        have oG := Row.mono fb aC
        have fe := Row.mono cC aC
        have ff := Row.mono cD aC
        have fg := Row.mono cE aC
        have fh := Row.mono cH aC
        obtain ⟨oN, hm, py, bY, pG, gr, gC, cd, fi⟩ := ev_lit1' (P := Try.prog) 79 TCast.K gT Try.underlying53 ti79 ⟨by decide, by decide⟩ (⟨(((G.Jobs.getD s.toNat TJob.z).Votes).getD aA.toNat TCast.z).Worker, (((G.Jobs.getD s.toNat TJob.z).Votes).getD aA.toNat TCast.z).Value⟩ : TCast) (.agg (List.toArray nn)) (TCast.mk' _ (⟨(((G.Jobs.getD s.toNat TJob.z).Votes).getD aA.toNat TCast.z).Worker, (((G.Jobs.getD s.toNat TJob.z).Votes).getD aA.toNat TCast.z).Value⟩ : TCast) dd dm dS cN f8 ge fY)
        refine WA.up1 9 (by kernel_rfl) (Up.val rfl rfl rfl (gC _ _ _ rfl) ⟨(Ctx.subI 2 cd rfl), trivial, trivial⟩ ?_)
        obtain ⟨f5, R⟩ := guardE R
        obtain ⟨bI, bP, bW, bv, pH, gs, gD, gU, fj⟩ := ev_append' (P := Try.prog) (cb := hm) 79 TCast.K [bY, b1, CH.row p 0 cy, aw, ax, ay] [az, CH.row r 0 ah, CH.row b 0 aE, h, v, l, m, CH.row x 0 I, CH.row y 0 J] cd fd gr (Row.sl fi) (Ctx.subI 0 cd rfl) Try.underlying53 ti79 rfl zo79 (by decide) (by decide) (by simpa using f5)
        have ce : Cx [bY, b1, CH.row p 0 cy, aw, ax, ay, bv, az, CH.row r 0 ah, CH.row b 0 aE, h, v, l, m, CH.row x 0 I, CH.row y 0 J] := gU
        refine WA.up1 10 (by kernel_rfl) (Up.val rfl rfl rfl (gD _ _ _ _ rfl rfl) ⟨trivial, trivial, trivial⟩ ?_)
        refine WA.takes [(11, none)] ⟨(Ctx.subI 2 ce rfl), (Ctx.subI 1 ce rfl), trivial⟩ (by kernel_rfl) <| WT.run to 1 rfl <| WT.done ?_
        obtain ⟨pI, gE, gV⟩ := ev_setI (P := Try.prog) (ps1 := [bY, b1]) (ps2 := [aw, ax, ay, bv, az, CH.row r 0 ah, CH.row b 0 aE, h, v, l, m, CH.row x 0 I, CH.row y 0 J]) (t := 53) 7 [.slice bI bW bP] (.slice bI bW bP) ce rfl rfl (ones_of rfl) sz53
        let no : List Go.Value := TJob.q E aQ aL aU aR aM aV aS aN aW bI bW bP aT aO aX
        have gW : Cx [bY, b1, CH.row p 0 no, aw, ax, ay, bv, az, CH.row r 0 ah, CH.row b 0 aE, h, v, l, m, CH.row x 0 I, CH.row y 0 J] := gV
        refine WA.up1 12 (by kernel_rfl) (Up.skip rfl rfl (gE _ _ _ _ rfl rfl) ⟨trivial, trivial, trivial⟩ ?_)
        refine WA.done (by kernel_rfl) <| inB_n <| W.region rfl ?_
        refine WL.rd to 2 rfl ?_
        have gX : Cx [CH.row p 0 no, aw, ax, ay, bv, az, CH.row r 0 ah, CH.row b 0 aE, h, v, l, m, CH.row x 0 I, CH.row y 0 J] := gW.pick [2, 3, 4, 5, 6, 7, 8, 9, 10, 11, 12, 13, 14, 15] rfl
        exact thenE_n ⟨ke, Nat.lt_succ_self _, wi64 (aA + 1), (⟨E.Payload, E.State, E.Attempt, E.Epoch, E.Until, E.Workers, E.Indexes, E.Votes ++ [(⟨(((G.Jobs.getD s.toNat TJob.z).Votes).getD aA.toNat TCast.z).Worker, (((G.Jobs.getD s.toNat TJob.z).Votes).getD aA.toNat TCast.z).Value⟩ : TCast)], E.Value⟩ : TJob), hk, aQ, aU, aL, aw, aR, aV, aM, ax, aS, aW, aN, ay, bI, bP, bW, bv, aT, aX, aO, az, rfl, gX, (CH.le_trans aG aC), cJ, fe, cK, ff, cL, fg, gs, fj, cM, fh, R⟩
       refine W.cF b2 rfl <| W.exit <| thenE_x <| thenE_x <| inB_here ?_
       cases R
       refine thenE_n ?_
       exact ⟨aI, aQ, aU, aL, aw, aR, aV, aM, ax, aS, aW, aN, ay, bm, bt, a9, aP, aT, aX, aO, az, rfl, ca, aG, cJ, cC, cK, cD, cL, cE, gp, cG, cM, cH⟩
      ·rintro a aB ⟨aK, bh, bo, a4, cw, bi, bp, a5, bX, bj, bq, a6, bu, bk, br, a7, ba, bl, bs, a8, aY, gv, b9, a3, gk, e3, gl, e4, gm, e5, gn, e6, go, e7⟩
       have fk := Row.mono cg a3
       have fl := Row.mono ch a3
       have fm := Row.mono ci a3
       have fo := Row.mono cj a3
       apply ks a gv
       refine W.region rfl ?_
       refine WL.run to 1 rfl <| WL.lv b9 7 1 rfl rfl Try.underlying28 rfl rfl <| WL.la b9 0 rfl rfl Try.underlying55 rfl sz55 ?_
       let b0 : List Go.Value := TJob.q U bh a4 bo bi a5 bp bj a6 bq bk a7 br bl a8 bs
       obtain ⟨oR, aF, gI, (gY : Cx [CH.row p 0 b0, bX, bu, ba, aY, CH.row r 0 ah, CH.row b 0 aE, h, v, l, m, CH.row x 0 I, CH.row y 0 J])⟩ := Ctx.fzI 1 b9 rfl
       obtain ⟨f9, gf, fZ⟩ := Row.fz e3 aF gI
       have fp := Row.mono fl aF
       have fq := Row.mono e4 aF
       have fs := Row.mono e5 aF
       have ft := Row.mono e6 aF
       have fu := Row.mono e7 aF
       have fv := Row.mono fk aF
       have fw := Row.mono fm aF
       have fx := Row.mono fo aF
       obtain ⟨oS, aD, gJ, (gZ : Cx [CH.row p 0 b0, bu, ba, aY, CH.row r 0 ah, CH.row b 0 aE, h, v, l, m, CH.row x 0 I, CH.row y 0 J])⟩ := Ctx.fzI 1 gY rfl
       obtain ⟨ga, gg, f0⟩ := Row.fz fq aD gJ
       have fy := Row.mono fp aD
       have fA := Row.mono fs aD
       have fB := Row.mono ft aD
       have fC := Row.mono fu aD
       have fD := Row.mono fv aD
       have fE := Row.mono fw aD
       have fF := Row.mono fx aD
       obtain ⟨oT, ao, gK, (g0 : Cx [CH.row p 0 b0, ba, aY, CH.row r 0 ah, CH.row b 0 aE, h, v, l, m, CH.row x 0 I, CH.row y 0 J])⟩ := Ctx.fzI 1 gZ rfl
       obtain ⟨gb, gh, f1⟩ := Row.fz fA ao gK
       have fG := Row.mono fy ao
       have fH := Row.mono fB ao
       have fI := Row.mono fC ao
       have fJ := Row.mono fD ao
       have fK := Row.mono fE ao
       have fL := Row.mono fF ao
       obtain ⟨oU, Y, gL, (g1 : Cx [CH.row p 0 b0, aY, CH.row r 0 ah, CH.row b 0 aE, h, v, l, m, CH.row x 0 I, CH.row y 0 J])⟩ := Ctx.fzI 1 g0 rfl
       obtain ⟨gc, gi, f2⟩ := Row.fz fH Y gL
       have fM := Row.mono fG Y
       have fN := Row.mono fI Y
       have fO := Row.mono fJ Y
       have fP := Row.mono fK Y
       have fQ := Row.mono fL Y
       obtain ⟨hl, T, gM, (g2 : Cx [CH.row p 0 b0, CH.row r 0 ah, CH.row b 0 aE, h, v, l, m, CH.row x 0 I, CH.row y 0 J])⟩ := Ctx.fzI 1 g1 rfl
       obtain ⟨gd, gj, f3⟩ := Row.fz fN T gM
       have fR := Row.mono fM T
       have fS := Row.mono fO T
       have fT := Row.mono fP T
       have fU := Row.mono fQ T
       obtain ⟨oO, hn, pz, cx, pJ, gt, gF, dj, fV⟩ := ev_lit1' (P := Try.prog) 55 TJob.K g2 Try.underlying28 ti55 ⟨by decide, by decide⟩ U (.agg (List.toArray b0)) (TJob.mk' _ U bh bo a4 bi bp a5 bj bq a6 bk br a7 bl bs a8 gk f9 gf (Sl.mono fZ (CH.le_trans aD (CH.le_trans ao (CH.le_trans Y T))) (CH.le_trans aD (CH.le_trans ao (CH.le_trans Y T)))) gl ga gg (Sl.mono f0 (CH.le_trans ao (CH.le_trans Y T)) (CH.le_trans ao (CH.le_trans Y T))) gm gb gh (Sl.mono f1 (CH.le_trans Y T) (CH.le_trans Y T)) gn gc gi (Sl.mono f2 T T) go gd gj f3)
       refine WL.val (gF _ _ _ rfl) ?_
       obtain ⟨f6, A⟩ := guardE A
       obtain ⟨b8, cf, cp, bZ, pK, gu, gG, g3, fW⟩ := ev_append' (P := Try.prog) (cb := hn) 55 TJob.K [cx, CH.row p 0 b0, CH.row r 0 ah, CH.row b 0 aE, h] [l, m, CH.row x 0 I, CH.row y 0 J] dj fR gt (Row.sl fV) (Ctx.subI 0 dj rfl) Try.underlying28 ti55 rfl zo55 (by decide) (by decide) (by simpa using f6)
       have g4 : Cx [cx, CH.row p 0 b0, CH.row r 0 ah, CH.row b 0 aE, h, bZ, l, m, CH.row x 0 I, CH.row y 0 J] := g3
       refine WL.val (gG _ _ _ _ rfl rfl) <| WL.run to 1 rfl ?_
       let np : List Go.Value := TState.q ag bb a0 be b8 cp cf bc a1 bf bd a2 bg
       refine WL.st g4 3 1 [.slice b8 cp cf] rfl rfl rfl rfl (Put.lit 1 rfl) (ones_of rfl) sz28 fun aB (g5 : Cx [cx, CH.row p 0 b0, CH.row r 0 ah, CH.row b 0 np, h, bZ, l, m, CH.row x 0 I, CH.row y 0 J]) => ?_
       refine WL.done <| inB_n <| W.region rfl ?_
       refine WL.rd to 2 rfl ?_
       have g6 : Cx [CH.row b 0 np, h, bZ, l, m, CH.row x 0 I, CH.row y 0 J] := g5.pick [3, 4, 5, 6, 7, 8, 9] rfl
       exact thenE_n ⟨eO, Nat.lt_succ_self _, wi64 (s + 1), (⟨ag.Eras, ag.Jobs ++ [U], ag.Used, ag.Barred, ag.Heads⟩ : TState), hl, bb, be, a0, h, b8, cf, cp, bZ, bc, bf, a1, l, bd, bg, a2, m, rfl, g6, (CH.le_trans av (CH.le_trans a3 (CH.le_trans aF (CH.le_trans aD (CH.le_trans ao (CH.le_trans Y T)))))), dB, fS, gu, fW, dC, fT, dD, fU, A⟩
   refine W.cF cl rfl <| W.exit <| thenE_x <| thenE_x <| inB_here ?_
   cases A
   refine thenE_n ?_
   exact ⟨V, bb, be, a0, h, bN, bV, bB, v, bc, bf, a1, l, bd, bg, a2, m, rfl, cS, av, dB, cg, ig, ch, dC, ci, dD, cj⟩
  ·rintro a aB ⟨aZ, bJ, bQ, bw, bC, bK, bR, bx, bD, bL, bS, bz, bE, bM, bU, bA, bG, iq, ec, kf, ib, hz, ic, hA, id, hB, ie, hC⟩
   apply ks a iq
   refine W.sr rfl <| WL.la ec 0 rfl rfl Try.underlying32 rfl sz32 ?_
   let dX : List Go.Value := TState.q aJ bJ bw bQ bK bx bR bL bz bS bM bA bU
   refine WL.st ec 5 0 dX rfl rfl rfl rfl (Put.lit 0 rfl) (ones_of rfl) sz32 fun aB (dk : Cx [CH.row b 0 dX, bC, bD, bE, bG, CH.row x 0 dX, CH.row y 0 J]) => ?_
   refine WL.done <| W.ret ?_
   have g7 : Cx [bC, bD, bE, bG] := dk.pick [1, 2, 3, 4] rfl
   have ho := Option.some.inj H
   subst ho
   exact post_r (resEC rfl ((.cell rfl (run_loadVA2 (g := x) (off := 0) (o := 0) (cs := dX) (us := dX) Try.underlying32 rfl sz32 (Ctx.subI 5 dk rfl) rfl) .nil))) ⟨aZ, bJ, bQ, bw, bC, bK, bR, bx, bD, bL, bS, bz, bE, bM, bU, bA, bG, rfl, kf, g7, ib, hz, ic, hA, id, hB, ie, hC⟩
def docket_again.f (k : Nat) (a : (List TJob × Int)) : Option (List TJob) := (some (a.1.set a.2.toNat (⟨(a.1.getD a.2.toNat TJob.z).Payload, 1, (a.1.getD a.2.toNat TJob.z).Attempt, 0, 0, ([] : List Int), ([] : List Int), ([] : List TCast), ([] : List Int)⟩ : TJob))).bind fun b => some b
theorem docket_again.calls (k w F E Y l m) (a : (List TJob × Int)) (hp : Pre w F [m]) (aa : l = a.1.length) (R : Row TJob.K F m (.slice E l Y) a.1) (Z : 0 ≤ a.2 ∧ a.2 < (a.1.length : Int)) (B : List TJob) (H : docket_again.f k a = some B) :
    Calls Try.prog 50 #[elp E l 9 a.2] w fun e w' => ∃ F' A, e = .returned (.tuple #[]) ∧ CH.le F F' ∧ Ctx w F (domL [m]) w' F' [A] ∧ l = B.length ∧ Row TJob.K F' A (.slice E l Y) B := by
 have C := Ctx.start hp
 generalize hD : domL [m] = D at C ⊢
 unfold docket_again.f at H
 refine Calls.ofW Try.func50 rfl (by simp [Try.ntmps50]) ?_
 obtain ⟨s, g, x, V⟩ := (Row.sl R) (by omega)
 have u : elp E l 9 a.2 = .pointer (some ⟨s, g + a.2.toNat * 9, none⟩) := elp_eq x Z aa
 refine W.regionA [([11], m)] (by kernel_rfl) ?_
 have Q := Ctx.drewN C 1
 refine WA.takes [(0, none), (1, none), (2, none), (3, none), (4, some 0), (5, none), (6, none), (7, none), (8, some 0), (9, none), (10, none)] ⟨(Ctx.subI 0 Q rfl), trivial⟩ (by kernel_rfl) <| WT.val rfl (fun _ hC_ => Yl.move (v := .pointer (some ⟨s, g + a.2.toNat * 9, none⟩)) (by exact u)) ?_
 refine WT.val rfl (fun _ hC_ => Yl.move (v := .pointer (some ⟨s, g + a.2.toNat * 9, none⟩)) (by exact u)) ?_
 refine WT.run to 2 rfl ?_
 obtain ⟨ab, N, r⟩ := V a.2.toNat _ (getD_some (d := TJob.z) (by omega))
 obtain ⟨h, i, j, av, az, aD, aw, aA, aE, ax, aB, aF, ay, aC, aG, rfl, M, J, L, G, ao, ag, ak, ac, ap, ah, al, ad, aq, ai, am, ae, ar, aj, an, af⟩ := TJob.open N
 refine WT.val rfl (fun _ hC_ => Yl.load (v := .slice h j i) rfl Try.underlying44 rfl (((show Sub m _ from hC_)).cell (r 0 _ rfl))) ?_
 refine WT.val rfl (fun _ hC_ => Yl.move (v := .pointer (some ⟨s, g + a.2.toNat * 9, none⟩)) (by exact u)) ?_
 refine WT.run to 2 rfl <| WT.val rfl (fun _ hC_ => Yl.load (v := iv ((a.1.getD a.2.toNat TJob.z).Attempt)) rfl Try.underlying3 rfl (((show Sub m _ from hC_)).cell (r 2 _ rfl))) ?_
 let X : List Go.Value := [.slice h j i, iv 1, iv ((a.1.getD a.2.toNat TJob.z).Attempt), iv 0, iv 0, .slice none 0 0, .slice none 0 0, .slice none 0 0, .slice none 0 0]
 refine WT.val rfl (fun _ hC_ => Yl.build (places := [(0, 1), (1, 1), (2, 1), (3, 1), (4, 1), (5, 1), (6, 1), (7, 1), (8, 1)]) (cs := List.toArray X) Try.underlying55 zr55 (pl55 _ Try.underlying55) (partsB (.cons rfl (.cons rfl (.cons rfl .nil)))) rfl) ?_
 refine WT.run to 1 rfl <| WT.done ?_
 have I : a.2.toNat < a.1.length := by first | omega | (simp only [List.length_set, List.length_replicate] at *; omega)
 obtain ⟨y, aH, O, S, o⟩ := ev_store (P := Try.prog) (t := 55) TJob.K [] [] Q R x a.2.toNat 0 I TJob.z (.agg (List.toArray X)) (X) rfl (ones_of rfl) (Nat.le_of_ble_eq_true rfl) sz55 ((⟨(a.1.getD a.2.toNat TJob.z).Payload, 1, (a.1.getD a.2.toNat TJob.z).Attempt, 0, 0, ([] : List Int), ([] : List Int), ([] : List TCast), ([] : List Int)⟩ : TJob)) (fun _ h_ => rep_whole h_ (TJob.mk' _ (⟨(a.1.getD a.2.toNat TJob.z).Payload, 1, (a.1.getD a.2.toNat TJob.z).Attempt, 0, 0, ([] : List Int), ([] : List Int), ([] : List TCast), ([] : List Int)⟩ : TJob) h i j none 0 0 none 0 0 none 0 0 none 0 0 M J L G rfl (Nat.le_refl _) (Nat.zero_le _) (Sl.nil _ _ _ _) rfl (Nat.le_refl _) (Nat.zero_le _) (Sl.nil _ _ _ _) rfl (Nat.le_refl _) (Nat.zero_le _) (Sl.nil _ _ _ _) rfl (Nat.le_refl _) (Nat.zero_le _) (Sl.nil _ _ _ _))) ⟨s, g + a.2.toNat * 9, none⟩ rfl
 have p : l = (a.1.set a.2.toNat (⟨(a.1.getD a.2.toNat TJob.z).Payload, 1, (a.1.getD a.2.toNat TJob.z).Attempt, 0, 0, ([] : List Int), ([] : List Int), ([] : List TCast), ([] : List Int)⟩ : TJob)).length := by rw [List.length_set]; omega
 obtain ⟨au, b, H⟩ := bindE H
 replace b := Option.some.inj b
 rw [b] at o p
 have T : Cx [y] := S
 refine WA.up1 11 (by kernel_rfl) (Up.skip rfl rfl (O _ _ _ _ rfl rfl) ⟨trivial, trivial⟩ ?_)
 refine WA.done (by kernel_rfl) ?_
 have U := Option.some.inj H
 subst U
 exact post_n (resE0 rfl ) ⟨F, y, rfl, (CH.le_refl _), T, p, o⟩
def docket_work_job.f (k : Nat) (b : Twork) (a : TRecord) : Option (Int × Int) := (docket_between.f k a.Job 1 (b.State.Jobs.length : Int)).bind fun d => if d = true then (if 0 ≤ (wi64 (a.Job - 1)) ∧ (wi64 (a.Job - 1)) < (b.State.Jobs.length : Int) then (some (wi64 (a.Job - 1), 0)) else none) else (some ((-1), 211))
theorem docket_work_job.calls (k w F R S X Q ad b h j B s M E x N) (a : Twork) (G y O) (d : TRecord) (hp : Pre w F []) (aN : ad = a.State.Eras.length) (aL : a.State.Eras.length ≤ Q) (aM : Q ≤ maxLen) (aK : Sl TEra.K F F X a.State.Eras) (ab : j = a.State.Jobs.length) (ay : a.State.Jobs.length ≤ h) (aC : h ≤ maxLen) (Y : Sl TJob.K F F b a.State.Jobs) (aG : M = a.State.Used.length) (az : a.State.Used.length ≤ s) (aD : s ≤ maxLen) (au : Sl (Kd.int .i64) F F B a.State.Used) (aH : N = a.State.Barred.length) (aA : a.State.Barred.length ≤ x) (aE : x ≤ maxLen) (av : Sl Kd.bool F F E a.State.Barred) (L : CH.le (CH.row R S (Twork.q a X ad Q b j h B M s E N x)) F) (J : d.Nonce.length = 32) (aI : O = d.Data.length) (aB : d.Data.length ≤ y) (aF : y ≤ maxLen) (aw : Sl (Kd.int .u8) F F G d.Data) (T : Int) (U : Int) (H : docket_work_job.f k a d = some (T, U)) :
    Calls Try.prog 52 #[.pointer (some ⟨R, S, none⟩), .agg (List.toArray ((TRecord.q d G O y)))] w fun e w' => e = .returned (.tuple #[(elp b j 9 T), (iv U)]) ∧ Ctx w F (domL []) w' F [] := by
 have C := Ctx.start hp
 generalize hD : domL [] = D at C ⊢
 unfold docket_work_job.f at H
 refine Calls.ofW Try.func52 rfl (by simp [Try.ntmps52]) <| W.sr rfl ?_
 let aq : List Go.Value := TRecord.q d G O y
 obtain ⟨aJ, aO, ac, p⟩ := ev_box (P := Try.prog) 46 (.agg (List.toArray aq)) aq C rfl
 refine WL.val (ac _ _ _ rfl) <| WL.rd to 2 rfl <| W.seq <| W.seq <| W.region_quiet (by kernel_rfl) (by kernel_rfl) rfl ?_
 refine WQ.run to 1 rfl <| WQ.lv p 0 35 rfl rfl Try.underlying3 rfl (at_skip 2 33 rfl (at_skip 32 1 (len_map J) rfl)) <| WQ.run to 4 rfl ?_
 let ar : List Go.Value := Twork.q a X ad Q b j h B M s E N x
 refine WQ.vl (fun _ => Yl.loadV (g := R) (off := S) (o := 8) (cs := ar) (v := .slice b j h) rfl Try.underlying28 rfl (Sub.mono ((p.drewN _).fro) L) rfl) ?_
 refine WQ.vl (fun _ => Yl.lenN (A := b) (l := j) (q := h) (n := (a.State.Jobs.length : Int)) rfl Try.underlying28 (by omega)) ?_
 obtain ⟨V, aa, H⟩ := bindE H
 refine WQ.call (v := .bool V) (f := 26) (args := #[iv d.Job, iv 1, iv (a.State.Jobs.length : Int)]) (fun _ hw => by obtain ⟨_, rfl⟩ := hw; exact (ne.fr rfl rfl)) (fun _ hw => by obtain ⟨ap, rfl⟩ := hw; exact (docket_between.calls k _ F d.Job 1 (a.State.Jobs.length : Int) (p.drewN ap).pre0  V aa).mono (fun _ _ ⟨he, m_, hm_⟩ => ⟨he, ap + m_, by rw [hm_, World.drewN_drewN]⟩)) ?_
 refine WQ.run to 1 rfl <| WQ.done (fun ae => ?_)
 have r := Ctx.drewN p ae
 rcases iteE H with ⟨m, H⟩ | ⟨m, H⟩
 ·refine W.condF (congrArg Value.bool (nb_t m)) <| W.skip <| W.seq <| W.region_quiet (by kernel_rfl) (by kernel_rfl) rfl ?_
  refine WQ.run to 4 rfl <| WQ.vl (fun _ => Yl.loadV (g := R) (off := S) (o := 8) (cs := ar) (v := .slice b j h) rfl Try.underlying28 rfl (Sub.mono ((r.drewN _).fro) L) rfl) ?_
  refine WQ.run to 1 rfl <| WQ.lv r 0 35 rfl rfl Try.underlying3 rfl (at_skip 2 33 rfl (at_skip 32 1 (len_map J) rfl)) <| WQ.run to 1 rfl ?_
  obtain ⟨Z, H⟩ := guardE H
  obtain ⟨ak, ag, I, ax⟩ := Y (by omega)
  refine WQ.vl (fun _ => Yl.elemAddr (i := wi64 (d.Job - 1)) rfl rfl I Try.underlying28 sz55 (by omega)) ?_
  refine WQ.run to 2 rfl <| WQ.done (fun af => ?_)
  have ah := Ctx.drewN r af
  refine W.ret ?_
  have ai : Cx [] := ah.pick [] rfl
  simp only [Option.some.injEq, Prod.mk.injEq] at H
  obtain ⟨al, am⟩ := H
  subst al am
  exact post_r (resE2 (t := 4) (u := 5) rfl ((show _ = Value.pointer (some ⟨ak, ag + (wi64 (d.Job - 1)).toNat * 9, none⟩) from rfl).trans (elp_eq (z := 9) I Z ab).symm) rfl) ⟨rfl, ai⟩
 refine W.condT (congrArg Value.bool (nb_f m)) <| W.sr rfl <| WL.rd to 2 rfl <| W.ret <| thenE_r ?_
 have aj : Cx [] := r.pick [] rfl
 simp only [Option.some.injEq, Prod.mk.injEq] at H
 obtain ⟨an, ao⟩ := H
 subst an ao
 exact post_r (resE2 (t := 4) (u := 5) rfl ((show _ = Value.pointer none from rfl).trans elp_nil.symm) rfl) ⟨rfl, aj⟩
def docket_work_era.f (k : Nat) (a : Twork) : Option Int := if (a.State.Eras.length : Int) = 0 then (some 210) else (some 0)
theorem docket_work_era.calls (k w F A G u p x j d r l h s m i t) (a : Twork) (hp : Pre w F []) (ad : x = a.State.Eras.length) (ab : a.State.Eras.length ≤ p) (ac : p ≤ maxLen) (aa : Sl TEra.K F F u a.State.Eras) (V : r = a.State.Jobs.length) (P : a.State.Jobs.length ≤ d) (S : d ≤ maxLen) (M : Sl TJob.K F F j a.State.Jobs) (X : s = a.State.Used.length) (Q : a.State.Used.length ≤ h) (T : h ≤ maxLen) (N : Sl (Kd.int .i64) F F l a.State.Used) (Y : t = a.State.Barred.length) (R : a.State.Barred.length ≤ i) (U : i ≤ maxLen) (O : Sl Kd.bool F F m a.State.Barred) (B : CH.le (CH.row A G (Twork.q a u x p j r d l s h m t i)) F) (y : Int) (H : docket_work_era.f k a = some y) :
    Calls Try.prog 51 #[.pointer (some ⟨A, G, none⟩)] w fun e w' => e = .returned (iv y) ∧ (∃ E, w' = w.drewN E) := by
 have C := Ctx.start hp
 generalize domL [] = D at C
 have I : ∃ E, w = w.drewN E := ⟨0, rfl⟩
 unfold docket_work_era.f at H
 refine Calls.ofW Try.func51 rfl (by simp [Try.ntmps51]) <| W.sr rfl <| WL.rd to 1 rfl <| W.seq <| W.sr rfl <| WL.run to 4 rfl ?_
 let Z : List Go.Value := Twork.q a u x p j r d l s h m t i
 refine WL.val (Yl.loadV (g := A) (off := G) (o := 7) (cs := Z) (v := .slice u x p) rfl Try.underlying27 rfl (Sub.mono (C.fro) B) rfl) <| WL.ln (a.State.Eras.length : Int) rfl Try.underlying27 (by omega) <| WL.rd to 1 rfl ?_
 rcases iteE H with ⟨b, H⟩ | ⟨b, H⟩
 ·refine W.cT b rfl <| W.sr rfl <| WL.rd to 1 rfl <| W.ret <| thenE_r ?_
  have J := Option.some.inj H
  subst J
  exact post_r (resE1 rfl rfl) ⟨rfl, I⟩
 refine W.cF b rfl <| W.skip <| W.sr rfl <| WL.rd to 1 rfl <| W.ret ?_
 have L := Option.some.inj H
 subst L
 exact post_r (resE1 rfl rfl) ⟨rfl, I⟩
def docket_work_epoch.l1 : Nat → Twork → Int → Twork → Option Twork
  | 0, _, _, _ => none
  | k + 1, d, b, a => if b < (d.State.Jobs.length : Int) then (if 0 ≤ b ∧ b < (a.State.Jobs.length : Int) then (if ((a.State.Jobs.getD b.toNat TJob.z).State) = 2 then ((docket_again.f k (a.State.Jobs, b)).bind fun e => docket_work_epoch.l1 k d (wi64 (b + 1)) (⟨a.c, (⟨a.State.Eras, e, a.State.Used, a.State.Barred, a.State.Heads⟩ : TState)⟩ : Twork)) else (docket_work_epoch.l1 k d (wi64 (b + 1)) a)) else none) else (some a)
def docket_work_epoch.f (k : Nat) (a : Twork) (b : TRecord) : Option (Int × Twork) := (docket_Epoch.f k a.State).bind fun e => if b.Epoch ≤ e then (some (210, a)) else (if (a.State.Eras.length : Int) ≥ 256 then (some (90, a)) else (if (a.State.Eras.length + 1 + (a.State.Eras.length + 1) / 4 + 192) * 40 ≤ 281474976710656 then ((docket_work_epoch.l1 k a 0 (⟨a.c, (⟨a.State.Eras ++ [(⟨b.Epoch, b.Nonce⟩ : TEra)], a.State.Jobs, a.State.Used, a.State.Barred, a.State.Heads⟩ : TState)⟩ : Twork)).bind fun d => some (0, d)) else none))
theorem docket_work_epoch.calls (k w F m p aU aW aR aQ aC X N s S Y O u T Z Q x) (r : Twork) (bp bn bD) (J : TRecord) (hp : Pre w F [CH.row m p (Twork.q r aU aR aW aC N X S O Y T Q Z), aQ, s, u, x]) (bC : aR = r.State.Eras.length) (aS : Row TEra.K F aQ (.slice aU aR aW) r.State.Eras) (a3 : N = r.State.Jobs.length) (al : Row TJob.K F s (.slice aC N X) r.State.Jobs) (a4 : O = r.State.Used.length) (am : Row (Kd.int .i64) F u (.slice S O Y) r.State.Used) (a5 : Q = r.State.Barred.length) (an : Row Kd.bool F x (.slice T Q Z) r.State.Barred) (a0 : J.Nonce.length = 32) (du : bD = J.Data.length) (ds : J.Data.length ≤ bn) (dt : bn ≤ maxLen) (dr : Sl (Kd.int .u8) F F bp J.Data) (ce : Int) (ae : Twork) (H : docket_work_epoch.f k r J = some (ce, ae)) :
    Calls Try.prog 37 #[.pointer (some ⟨m, p, none⟩), .agg (List.toArray ((TRecord.q J bp bD bn)))] w fun e w' => ∃ F' bq bx bg bE br bz bh bG bs bA bi bH bt bB bj bI, e = .returned (iv ce) ∧ CH.le F F' ∧ Ctx w F (domL [CH.row m p (Twork.q r aU aR aW aC N X S O Y T Q Z), aQ, s, u, x]) w' F' [CH.row m p (Twork.q ae bq bg bx br bh bz bs bi bA bt bj bB), bE, bG, bH, bI] ∧ bg = ae.State.Eras.length ∧ Row TEra.K F' bE (.slice bq bg bx) ae.State.Eras ∧ bh = ae.State.Jobs.length ∧ Row TJob.K F' bG (.slice br bh bz) ae.State.Jobs ∧ bi = ae.State.Used.length ∧ Row (Kd.int .i64) F' bH (.slice bs bi bA) ae.State.Used ∧ bj = ae.State.Barred.length ∧ Row Kd.bool F' bI (.slice bt bj bB) ae.State.Barred := by
 have C := Ctx.start hp
 generalize hD : domL [CH.row m p (Twork.q r aU aR aW aC N X S O Y T Q Z), aQ, s, u, x] = D at C ⊢
 unfold docket_work_epoch.f at H
 refine Calls.ofW Try.func37 rfl (by simp [Try.ntmps37]) <| W.sr rfl ?_
 let G : List Go.Value := TRecord.q J bp bD bn
 obtain ⟨j, dG, cw, cB⟩ := ev_box (P := Try.prog) 46 (.agg (List.toArray G)) G C rfl
 refine WL.val (cw _ _ _ rfl) <| WL.rd to 1 rfl <| W.seq <| W.block <| W.seq ?_
 let au : List Go.Value := Twork.q r aU aR aW aC N X S O Y T Q Z
 refine W.regionA [([], CH.row j 0 G), ([6], CH.row m p au)] (by kernel_rfl) ?_
 have bm := Ctx.drewN cB 1
 refine WA.takes [(0, none), (1, some 0), (2, none), (3, none), (4, none), (5, some 1)] ⟨(Ctx.subI 0 bm rfl), (Ctx.subI 1 bm rfl), trivial⟩ (by kernel_rfl) <| WT.run to 1 rfl <| WT.lv 1 rfl rfl rfl Try.underlying3 rfl rfl <| WT.run to 3 rfl ?_
 let dA : List Go.Value := TState.q r.State aU aR aW aC N X S O Y T Q Z
 refine WT.val rfl (fun _ hC_ => Yl.loadVA (g := m) (off := p) (o := 7) (cs := au) (us := dA) rfl Try.underlying32 rfl sz32 (show Sub (CH.row m p au) _ from hC_) rfl) ?_
 refine WT.done ?_
 obtain ⟨cH, aK, ⟨cx, cy, cz, cA, _⟩, cC⟩ := Ctx.lend [aQ, s, u, x] (ps := [CH.row j 0 G, CH.row m p au]) (Ctx.pick [2, 3, 4, 5, 0, 1] bm rfl)
 obtain ⟨cP, cu, H⟩ := bindE H
 refine WA.up1 6 (by kernel_rfl) (Up.callH rfl (by kernel_rfl) rfl (docket_Epoch.calls k _ cH aU aW aR aC X N S Y O T Z Q r.State (Ctx.pre (qs := []) (rest := [CH.row j 0 G, CH.row m p au]) cC) bC (Row.len_le aS).1 (Row.len_le aS).2.1 (Sl.mono (Row.sl aS) aK cx) a3 (Row.len_le al).1 (Row.len_le al).2.1 (Sl.mono (Row.sl al) aK cy) a4 (Row.len_le am).1 (Row.len_le am).2.1 (Sl.mono (Row.sl am) aK cz) a5 (Row.len_le an).1 (Row.len_le an).2.1 (Sl.mono (Row.sl an) aK cA) cP cu) (ne.fr rfl rfl) ?_)
 rintro dq bl ⟨rfl, cD⟩
 have aE : Cx [CH.row j 0 G, CH.row m p au, aQ, s, u, x] := Ctx.callL (qs := []) (rest := [CH.row j 0 G, CH.row m p au, aQ, s, u, x]) bm aK cD
 refine ⟨_, rfl, ⟨(Ctx.subI 0 aE rfl), trivial, trivial⟩, ?_⟩
 refine WA.takes [(7, none), (8, none)] ⟨(Ctx.subI 0 aE rfl), (Ctx.subI 1 aE rfl), trivial⟩ (by kernel_rfl) <| WT.run to 2 rfl <| WT.done <| WA.done (by kernel_rfl) ?_
 rcases iteE H with ⟨bd, H⟩ | ⟨bd, H⟩
 ·refine W.cT bd rfl <| W.sr rfl <| WL.rd to 1 rfl <| W.ret <| inB_r <| thenE_r ?_
  have cE : Cx [CH.row m p au, aQ, s, u, x] := aE.pick [1, 2, 3, 4, 5] rfl
  simp only [Option.some.injEq, Prod.mk.injEq] at H
  obtain ⟨cJ, cK⟩ := H
  subst cJ cK
  exact post_r (resE1 rfl rfl) ⟨F, aU, aW, aR, aQ, aC, X, N, s, S, Y, O, u, T, Z, Q, x, rfl, (CH.le_refl _), cE, bC, aS, a3, al, a4, am, a5, an⟩
 refine W.cF bd rfl <| W.sr rfl <| WL.run to 4 rfl <| WL.lv aE 1 7 rfl rfl Try.underlying27 rfl rfl <| WL.ln (r.State.Eras.length : Int) rfl Try.underlying27 (by omega) <| WL.rd to 2 rfl ?_
 rcases iteE H with ⟨be, H⟩ | ⟨be, H⟩
 ·refine W.cT be rfl <| W.sr rfl <| WL.rd to 1 rfl <| W.ret <| inB_r <| thenE_r ?_
  have cG : Cx [CH.row m p au, aQ, s, u, x] := aE.pick [1, 2, 3, 4, 5] rfl
  simp only [Option.some.injEq, Prod.mk.injEq] at H
  obtain ⟨cL, cM⟩ := H
  subst cL cM
  exact post_r (resE1 rfl rfl) ⟨F, aU, aW, aR, aQ, aC, X, N, s, S, Y, O, u, T, Z, Q, x, rfl, (CH.le_refl _), cG, bC, aS, a3, al, a4, am, a5, an⟩
 refine W.cF be rfl <| W.skip <| inB_n <| W.seq <| W.regionA [([12, 16], CH.row m p au), ([11, 12, 16], CH.row j 0 G)] (by kernel_rfl) ?_
 have bw := Ctx.drewN aE 1
 refine WA.takes [(0, none), (1, none), (2, none), (3, none), (4, none), (5, some 0), (6, none), (7, some 1), (8, none), (9, some 1), (10, none)] ⟨(Ctx.subI 1 bw rfl), (Ctx.subI 0 bw rfl), trivial⟩ (by kernel_rfl) <| WT.run to 5 rfl <| WT.lv 7 rfl rfl rfl Try.underlying27 rfl rfl <| WT.run to 1 rfl <| WT.lv 1 rfl rfl rfl Try.underlying3 rfl rfl <| WT.run to 1 rfl <| WT.val rfl (fun _ hC_ => Yl.loadVA (g := j) (off := 0) (o := 2) (cs := G) (us := J.Nonce.map (Value.int .u8)) rfl Try.underlying43 rfl (sz_of sz43 (len_map a0)) (show Sub (CH.row j 0 G) _ from hC_) (mid_skip 2 0 rfl (mid_here rfl))) ?_
 let cN : List Go.Value := [iv J.Epoch] ++ (J.Nonce.map (Value.int .u8))
 refine WT.val rfl (fun _ hC_ => Yl.build (places := [(0, 1), (1, 32)]) (cs := List.toArray cN) Try.underlying65 zr65 (pl65 _ Try.underlying65) (partsB (.cons rfl (.cons rfl .nil))) (Fills.run (a := [iv 0] ++ ((List.replicate 32 (0 : Int)).map (Value.int .u8))) (c := [iv J.Epoch] ++ (J.Nonce.map (Value.int .u8))) (.put (us := [iv J.Epoch]) rfl rfl rfl (Put.left (Put.lit 0 rfl)) (.put (us := J.Nonce.map (Value.int .u8)) rfl rfl (len_map a0) (Put.skip 1 0 rfl (Put.all 32 (len_map (List.length_replicate ..)) (len_map a0))) .nil)))) ?_
 refine WT.done ?_
 obtain ⟨dE, cI, dF, R, dH, cv, b8, bb, bL⟩ := ev_lit1' (P := Try.prog) 65 TEra.K bw Try.underlying27 ti65 ⟨by decide, by decide⟩ (⟨J.Epoch, J.Nonce⟩ : TEra) (.agg (List.toArray cN)) (TEra.mk' _ (⟨J.Epoch, J.Nonce⟩ : TEra)  a0)
 refine WA.up1 11 (by kernel_rfl) (Up.val rfl rfl rfl (b8 _ _ _ rfl) ⟨(Ctx.subI 2 bb rfl), trivial, trivial⟩ ?_)
 obtain ⟨bW, H⟩ := guardE H
 obtain ⟨aT, aV, ba, aL, dC, bZ, b9, cf, bM⟩ := ev_append' (P := Try.prog) (cb := cI) 65 TEra.K [R, CH.row j 0 G, CH.row m p au] [s, u, x] bb aS cv (Row.sl bL) (Ctx.subI 0 bb rfl) Try.underlying27 ti65 rfl zo65 (by decide) (by decide) (by simpa using bW)
 have bc : Cx [R, CH.row j 0 G, CH.row m p au, aL, s, u, x] := cf
 refine WA.up1 12 (by kernel_rfl) (Up.val rfl rfl rfl (b9 _ _ _ _ rfl rfl) ⟨trivial, trivial, trivial⟩ ?_)
 refine WA.takes [(13, none), (14, none), (15, none)] ⟨(Ctx.subI 2 bc rfl), (Ctx.subI 1 bc rfl), trivial⟩ (by kernel_rfl) <| WT.run to 3 rfl <| WT.done ?_
 obtain ⟨dD, ca, cg⟩ := ev_setI (P := Try.prog) (ps1 := [R, CH.row j 0 G]) (ps2 := [aL, s, u, x]) (t := 27) 7 [.slice aT ba aV] (.slice aT ba aV) bc rfl rfl (ones_of rfl) sz27
 let cO : List Go.Value := Twork.q r aT ba aV aC N X S O Y T Q Z
 have bu : Cx [R, CH.row j 0 G, CH.row m p cO, aL, s, u, x] := cg
 refine WA.up1 16 (by kernel_rfl) (Up.skip rfl rfl (ca _ _ _ _ rfl rfl) ⟨trivial, trivial, trivial⟩ ?_)
 refine WA.done (by kernel_rfl) <| W.seq <| W.sr rfl <| WL.run to 4 rfl <| WL.lv bu 2 8 rfl rfl Try.underlying28 rfl rfl <| WL.ln (r.State.Jobs.length : Int) rfl Try.underlying28 (by omega) <| WL.rd to 1 rfl ?_
 obtain ⟨E, b, H⟩ := bindE H
 refine W.cutM (fun aJ bl => ∃ V ay aF ao aM az aG ap aN aA aH aq aO aB aI ar aP, Ctx w F D bl V [CH.row m p (Twork.q E ay ao aF az ap aG aA aq aH aB ar aI), aM, aN, aO, aP, R, CH.row j 0 G] ∧ CH.le F V ∧ ao = E.State.Eras.length ∧ Row TEra.K V aM (.slice ay ao aF) E.State.Eras ∧ ap = E.State.Jobs.length ∧ Row TJob.K V aN (.slice az ap aG) E.State.Jobs ∧ aq = E.State.Used.length ∧ Row (Kd.int .i64) V aO (.slice aA aq aH) E.State.Used ∧ ar = E.State.Barred.length ∧ Row Kd.bool V aP (.slice aB ar aI) E.State.Barred) ?_ ?_
 ·refine W.block ?_
  have ci : Cx [CH.row m p cO, aL, s, u, x, R, CH.row j 0 G] := bu.pick [2, 3, 4, 5, 6, 0, 1] rfl
  refine W.loop (fun ct aJ bl => ∃ (l : Int) (h : Twork), ∃ I af ai ab y U aa L M ag aj ac A ah ak ad B, Kn aJ [(0, .pointer (some ⟨m, p, none⟩)), (45, iv (r.State.Jobs.length : Int)), (46, iv l)] ∧ Ctx w F D bl I [CH.row m p (Twork.q h af ab ai U L aa ag ac aj ah ad ak), y, M, A, B, R, CH.row j 0 G] ∧ CH.le F I ∧ ab = h.State.Eras.length ∧ Row TEra.K I y (.slice af ab ai) h.State.Eras ∧ L = h.State.Jobs.length ∧ Row TJob.K I M (.slice U L aa) h.State.Jobs ∧ ac = h.State.Used.length ∧ Row (Kd.int .i64) I A (.slice ag ac aj) h.State.Used ∧ ad = h.State.Barred.length ∧ Row Kd.bool I B (.slice ah ad ak) h.State.Barred ∧ docket_work_epoch.l1 ct r l h = some E) k ⟨0, (⟨r.c, (⟨r.State.Eras ++ [(⟨J.Epoch, J.Nonce⟩ : TEra)], r.State.Jobs, r.State.Used, r.State.Barred, r.State.Heads⟩ : TState)⟩ : Twork), F, aT, aV, ba, aL, aC, X, N, s, S, Y, O, u, T, Z, Q, x, rfl, ci, (CH.le_refl _), bZ, bM, a3, al, a4, am, a5, an, b⟩ ?_
  clear b
  rintro ct aJ bl ⟨l, h, I, af, ai, ab, y, U, aa, L, M, ag, aj, ac, A, ah, ak, ad, B, b5, aD, a9, a6, aX, aw, av, a7, aY, a8, aZ, b⟩
  rcases ct with _ | bf
  · exact absurd b (by simp [docket_work_epoch.l1])
  rw [docket_work_epoch.l1] at b
  apply ks aJ b5
  refine W.sr rfl <| WL.rd to 1 rfl <| W.seq ?_
  rcases iteE b with ⟨a1, b⟩ | ⟨a1, b⟩
  ·refine W.cT a1 rfl <| W.skip <| W.seq <| W.block <| W.sr rfl <| WL.rd to 2 rfl <| W.sr rfl <| WL.run to 4 rfl <| WL.lv aD 0 8 rfl rfl Try.underlying28 rfl rfl ?_
   refine WL.run to 1 rfl ?_
   obtain ⟨cX, b⟩ := guardE b
   obtain ⟨co, cd, bo, bX⟩ := (Row.sl av) (by omega)
   refine WL.val (Yl.elemAddr (i := l) rfl rfl bo Try.underlying28 sz55 (by omega)) <| WL.rd to 1 rfl <| W.sr rfl <| WL.run to 3 rfl ?_
   obtain ⟨cQ, b6, b7⟩ := bX l.toNat _ (getD_some (d := TJob.z) (by omega))
   obtain ⟨de, dj, dv, df, dk, dw, dg, dl, dx, dh, dm, dy, di, dp, dz, rfl, c9, cY, c4, cR, da, cZ, c5, cS, db, c1, c6, cU, dc, c2, c7, cV, dd, c3, c8, cW⟩ := TJob.open b6
   refine WL.val (Yl.load (v := iv ((h.State.Jobs.getD l.toNat TJob.z).State)) rfl Try.underlying3 rfl (((Ctx.subI 2 aD rfl)).cell (b7 1 _ rfl))) <| WL.rd to 1 rfl ?_
   rcases iteE b with ⟨a2, b⟩ | ⟨a2, b⟩
   ·refine W.cT a2 rfl <| W.region rfl ?_
    refine WL.run to 1 rfl ?_
    let bJ : List Go.Value := Twork.q h af ab ai U L aa ag ac aj ah ad ak
    have bv : Cx [M, CH.row m p bJ, y, A, B, R, CH.row j 0 G] := aD.pick [2, 0, 1, 3, 4, 5, 6] rfl
    obtain ⟨bK, bY, b⟩ := bindE b
    refine WL.callH (docket_again.calls bf _ I U aa L M (h.State.Jobs, l) (Ctx.pre (qs := [M]) (rest := [CH.row m p bJ, y, A, B, R, CH.row j 0 G]) bv) aw av (show 0 ≤ l ∧ l < (h.State.Jobs.length : Int) from by omega) bK bY) (ne.fn rfl (argsE (.cons ((show _ = Value.pointer (some ⟨co, cd + l.toNat * 9, none⟩) from rfl).trans (elp_eq (z := 9) bo (show 0 ≤ l ∧ l < (h.State.Jobs.length : Int) from by omega) aw).symm) .nil))) ?_
    rintro dq bl ⟨cn, bk, rfl, ax, cj, b4, bR⟩
    refine ⟨_, rfl, ?_⟩
    have ck : Cx [bk, CH.row m p bJ, y, A, B, R, CH.row j 0 G] := Ctx.call (qs := [M]) (rest := [CH.row m p bJ, y, A, B, R, CH.row j 0 G]) bv cj
    have bS := Row.mono aX ax
    have bU := Row.mono aY ax
    have bV := Row.mono aZ ax
    refine WL.done <| inB_n <| W.region rfl ?_
    refine WL.rd to 2 rfl ?_
    have cl : Cx [CH.row m p bJ, y, bk, A, B, R, CH.row j 0 G] := ck.pick [1, 2, 0, 3, 4, 5, 6] rfl
    exact thenE_n ⟨bf, Nat.lt_succ_self _, wi64 (l + 1), (⟨h.c, (⟨h.State.Eras, bK, h.State.Used, h.State.Barred, h.State.Heads⟩ : TState)⟩ : Twork), cn, af, ai, ab, y, U, aa, L, bk, ag, aj, ac, A, ah, ak, ad, B, rfl, cl, (CH.le_trans a9 ax), a6, bS, b4, bR, a7, bU, a8, bV, b⟩
   refine W.cF a2 rfl <| W.skip <| inB_n <| W.region rfl ?_
   exact WL.rd to 2 rfl <| thenE_n ⟨bf, Nat.lt_succ_self _, wi64 (l + 1), h, I, af, ai, ab, y, U, aa, L, M, ag, aj, ac, A, ah, ak, ad, B, rfl, aD, a9, a6, aX, aw, av, a7, aY, a8, aZ, b⟩
  refine W.cF a1 rfl <| W.exit <| thenE_x <| thenE_x <| inB_here ?_
  cases b
  refine thenE_n ?_
  exact ⟨I, af, ai, ab, y, U, aa, L, M, ag, aj, ac, A, ah, ak, ad, B, aD, a9, a6, aX, aw, av, a7, aY, a8, aZ⟩
 ·rintro aJ bl ⟨V, ay, aF, ao, aM, az, aG, ap, aN, aA, aH, aq, aO, aB, aI, ar, aP, ch, cc, b0, bN, b1, bO, b2, bP, b3, bQ⟩
  refine W.sr rfl <| WL.rd to 1 rfl <| W.ret ?_
  let dB : List Go.Value := Twork.q E ay ao aF az ap aG aA aq aH aB ar aI
  have cm : Cx [CH.row m p dB, aM, aN, aO, aP] := ch.pick [0, 1, 2, 3, 4] rfl
  simp only [Option.some.injEq, Prod.mk.injEq] at H
  obtain ⟨cp, cr⟩ := H
  subst cp cr
  exact post_r (resE1 rfl rfl) ⟨V, ay, aF, ao, aM, az, aG, ap, aN, aA, aH, aq, aO, aB, aI, ar, aP, rfl, cc, cm, b0, bN, b1, bO, b2, bP, b3, bQ⟩
def docket_work_submit.f (k : Nat) (a : Twork) (d : TRecord) : Option (Int × Twork) := (docket_work_era.f k a).bind fun b => if b = 0 then (if (a.State.Jobs.length : Int) ≥ a.c.Jobs then (some (90, a)) else (if (d.Data.length + d.Data.length / 4 + 192) * 1 ≤ 281474976710656 then (if (a.State.Jobs.length + 1 + (a.State.Jobs.length + 1) / 4 + 192) * 152 ≤ 281474976710656 then (some (0, (⟨a.c, (⟨a.State.Eras, a.State.Jobs ++ [(⟨d.Data, 1, 0, 0, 0, ([] : List Int), ([] : List Int), ([] : List TCast), ([] : List Int)⟩ : TJob)], a.State.Used, a.State.Barred, a.State.Heads⟩ : TState)⟩ : Twork))) else none) else none)) else (some (b, a))
theorem docket_work_submit.calls (k w F h m O Q L g T B x d r u i a s v j b) (p : Twork) (aC af aJ) (X : TRecord) (hp : Pre w F [CH.row h m (Twork.q p O L Q T x B r i u s j v), g, d, a, b]) (aw : L = p.State.Eras.length) (R : Row TEra.K F g (.slice O L Q) p.State.Eras) (am : x = p.State.Jobs.length) (G : Row TJob.K F d (.slice T x B) p.State.Jobs) (Z : i = p.State.Used.length) (I : Row (Kd.int .i64) F a (.slice r i u) p.State.Used) (aa : j = p.State.Barred.length) (J : Row Kd.bool F b (.slice s j v) p.State.Barred) (bo : X.Nonce.length = 32) (bq : aJ = X.Data.length) (bN : X.Data.length ≤ af) (bO : af ≤ maxLen) (bn : Sl (Kd.int .u8) F F aC X.Data) (ba : Int) (y : Twork) (H : docket_work_submit.f k p X = some (ba, y)) :
    Calls Try.prog 38 #[.pointer (some ⟨h, m, none⟩), .agg (List.toArray ((TRecord.q X aC aJ af)))] w fun e w' => ∃ F' ay aE an aK az aF ao aL aA aG ap aM aB aH aq aN, e = .returned (iv ba) ∧ CH.le F F' ∧ Ctx w F (domL [CH.row h m (Twork.q p O L Q T x B r i u s j v), g, d, a, b]) w' F' [CH.row h m (Twork.q y ay an aE az ao aF aA ap aG aB aq aH), aK, aL, aM, aN] ∧ an = y.State.Eras.length ∧ Row TEra.K F' aK (.slice ay an aE) y.State.Eras ∧ ao = y.State.Jobs.length ∧ Row TJob.K F' aL (.slice az ao aF) y.State.Jobs ∧ ap = y.State.Used.length ∧ Row (Kd.int .i64) F' aM (.slice aA ap aG) y.State.Used ∧ aq = y.State.Barred.length ∧ Row Kd.bool F' aN (.slice aB aq aH) y.State.Barred := by
 have C := Ctx.start hp
 generalize hD : domL [CH.row h m (Twork.q p O L Q T x B r i u s j v), g, d, a, b] = D at C ⊢
 unfold docket_work_submit.f at H
 refine Calls.ofW Try.func38 rfl (by simp [Try.ntmps38]) <| W.sr rfl ?_
 let N : List Go.Value := TRecord.q X aC aJ af
 obtain ⟨E, bY, br, a8⟩ := ev_box (P := Try.prog) 46 (.agg (List.toArray N)) N C rfl
 refine WL.val (br _ _ _ rfl) <| WL.rd to 1 rfl <| W.seq <| W.sr rfl <| WL.run to 1 rfl ?_
 let ae : List Go.Value := Twork.q p O L Q T x B r i u s j v
 obtain ⟨bC, ab, ⟨bs, bt, bu, bv, bw, _⟩, bA⟩ := Ctx.lend [CH.row h m ae, g, d, a, b] (ps := [CH.row E 0 N]) (Ctx.pick [1, 2, 3, 4, 5, 0] a8 rfl)
 obtain ⟨bI, bp, H⟩ := bindE H
 refine WL.cq a8 (docket_work_era.calls k _ bC h m O Q L T B x r u i s v j p bA.pre0 aw (Row.len_le R).1 (Row.len_le R).2.1 (Sl.mono (Row.sl R) ab bt) am (Row.len_le G).1 (Row.len_le G).2.1 (Sl.mono (Row.sl G) ab bu) Z (Row.len_le I).1 (Row.len_le I).2.1 (Sl.mono (Row.sl I) ab bv) aa (Row.len_le J).1 (Row.len_le J).2.1 (Sl.mono (Row.sl J) ab bw) bs bI bp) (ne.fr rfl rfl) fun bZ ar => ?_
 refine WL.rd to 1 rfl <| W.sr rfl <| WL.rd to 2 rfl ?_
 rcases iteE H with ⟨ak, H⟩ | ⟨ak, H⟩
 ·refine W.nF ak rfl <| W.skip <| W.seq <| W.seq <| W.region_quiet (by kernel_rfl) (by kernel_rfl) rfl ?_
  refine WQ.run to 4 rfl <| WQ.lv ar 1 8 rfl rfl Try.underlying28 rfl rfl <| WQ.vl (fun _ => Yl.lenN (A := T) (l := x) (q := B) (n := (p.State.Jobs.length : Int)) rfl Try.underlying28 (by omega)) ?_
  refine WQ.run to 4 rfl <| WQ.lv ar 1 4 rfl rfl Try.underlying3 rfl rfl <| WQ.run to 1 rfl <| WQ.done (fun bx => ?_)
  have a9 := Ctx.drewN ar bx
  rcases iteE H with ⟨al, H⟩ | ⟨al, H⟩
  ·refine W.cT al rfl <| W.sr rfl <| WL.rd to 1 rfl <| W.ret <| thenE_r ?_
   have bB : Cx [CH.row h m ae, g, d, a, b] := a9.pick [1, 2, 3, 4, 5] rfl
   simp only [Option.some.injEq, Prod.mk.injEq] at H
   obtain ⟨bD, bE⟩ := H
   subst bD bE
   exact post_r (resE1 rfl rfl) ⟨F, O, Q, L, g, T, B, x, d, r, u, i, a, s, v, j, b, rfl, (CH.le_refl _), bB, aw, R, am, G, Z, I, aa, J⟩
  refine W.cF al rfl <| W.skip <| W.seq <| W.regionA [([12, 16], CH.row h m ae), ([9, 11, 12, 16], CH.row E 0 N)] (by kernel_rfl) ?_
  have ag := Ctx.drewN a9 1
  refine WA.takes [(0, none), (1, none), (2, none), (3, none), (4, none), (5, some 0), (7, none), (8, some 1)] ⟨(Ctx.subI 1 ag rfl), (Ctx.subI 0 ag rfl), trivial⟩ (by kernel_rfl) <| WT.run to 5 rfl <| WT.lv 8 rfl rfl rfl Try.underlying28 rfl rfl <| WT.run to 1 rfl <| WT.lv 34 rfl rfl rfl Try.underlying44 rfl (at_skip 2 32 rfl (at_skip 32 0 (len_map bo) rfl)) <| WT.done ?_
  obtain ⟨bK, bM, bP, bR, bS, bJ, a2, U, aO⟩ := ev_lit0 (P := Try.prog) 5 (Kd.int .u8) ag Try.underlying44 ti5
  refine WA.up1 6 (by kernel_rfl) (Up.val rfl rfl rfl (a2 _ _) ⟨(Ctx.subI 2 U rfl), (Ctx.subI 1 U rfl), trivial⟩ ?_)
  obtain ⟨aW, H⟩ := guardE H
  obtain ⟨ax, aD, aI, bz, bU, av, a3, bb, au⟩ := ev_append' (P := Try.prog) (cb := af) 5 (Kd.int .u8) [] [CH.row E 0 N, CH.row h m ae, g, d, a, b] U aO bq bn U.fro Try.underlying44 ti5 rfl zo5 (by decide) (by decide) (by simpa using aW)
  have V : Cx [bz, CH.row E 0 N, CH.row h m ae, g, d, a, b] := bb
  rw [List.nil_append] at av au
  refine WA.up1 9 (by kernel_rfl) (Up.val rfl rfl rfl (a3 _ _ _ _ rfl rfl) ⟨(Ctx.subI 2 V rfl), trivial, trivial⟩ ?_)
  refine WA.takes [(10, none)] ⟨(Ctx.subI 2 V rfl), (Ctx.subI 1 V rfl), trivial⟩ (by kernel_rfl) ?_
  let bG : List Go.Value := [.slice ax aI aD, iv 1, iv 0, iv 0, iv 0, .slice none 0 0, .slice none 0 0, .slice none 0 0, .slice none 0 0]
  refine WT.val rfl (fun _ hC_ => Yl.build (places := [(0, 1), (1, 1), (2, 1), (3, 1), (4, 1), (5, 1), (6, 1), (7, 1), (8, 1)]) (cs := List.toArray bG) Try.underlying55 zr55 (pl55 _ Try.underlying55) (partsB (.cons rfl (.cons rfl .nil))) rfl) ?_
  refine WT.done ?_
  obtain ⟨bh, o, a7, ah⟩ := Ctx.fzI 0 V rfl
  replace ah : Cx [CH.row E 0 N, CH.row h m ae, g, d, a, b] := ah
  obtain ⟨aY, aZ, aV⟩ := Row.fz au o a7
  have aP := Row.mono G o
  have aQ := Row.mono R o
  have aR := Row.mono I o
  have aS := Row.mono J o
  obtain ⟨bL, bi, bQ, ad, bV, a0, a4, ai, aT⟩ := ev_lit1' (P := Try.prog) 55 TJob.K ah Try.underlying28 ti55 ⟨by decide, by decide⟩ (⟨X.Data, 1, 0, 0, 0, ([] : List Int), ([] : List Int), ([] : List TCast), ([] : List Int)⟩ : TJob) (.agg (List.toArray bG)) (TJob.mk' _ (⟨X.Data, 1, 0, 0, 0, ([] : List Int), ([] : List Int), ([] : List TCast), ([] : List Int)⟩ : TJob) ax aD aI none 0 0 none 0 0 none 0 0 none 0 0 av aY aZ aV rfl (Nat.le_refl _) (Nat.zero_le _) (Sl.nil _ _ _ _) rfl (Nat.le_refl _) (Nat.zero_le _) (Sl.nil _ _ _ _) rfl (Nat.le_refl _) (Nat.zero_le _) (Sl.nil _ _ _ _) rfl (Nat.le_refl _) (Nat.zero_le _) (Sl.nil _ _ _ _))
  refine WA.up1 11 (by kernel_rfl) (Up.val rfl rfl rfl (a4 _ _ _ rfl) ⟨(Ctx.subI 2 ai rfl), trivial, trivial⟩ ?_)
  obtain ⟨aX, H⟩ := guardE H
  obtain ⟨S, Y, ac, M, bW, a1, a5, bc, aU⟩ := ev_append' (P := Try.prog) (cb := bi) 55 TJob.K [ad, CH.row E 0 N, CH.row h m ae, g] [a, b] ai aP a0 (Row.sl aT) (Ctx.subI 0 ai rfl) Try.underlying28 ti55 rfl zo55 (by decide) (by decide) (by simpa using aX)
  have aj : Cx [ad, CH.row E 0 N, CH.row h m ae, g, M, a, b] := bc
  refine WA.up1 12 (by kernel_rfl) (Up.val rfl rfl rfl (a5 _ _ _ _ rfl rfl) ⟨trivial, trivial, trivial⟩ ?_)
  refine WA.takes [(13, none), (14, none), (15, none)] ⟨(Ctx.subI 2 aj rfl), (Ctx.subI 1 aj rfl), trivial⟩ (by kernel_rfl) <| WT.run to 3 rfl <| WT.done ?_
  obtain ⟨bX, a6, bd⟩ := ev_setI (P := Try.prog) (ps1 := [ad, CH.row E 0 N]) (ps2 := [g, M, a, b]) (t := 28) 8 [.slice S ac Y] (.slice S ac Y) aj rfl rfl (ones_of rfl) sz28
  let bH : List Go.Value := Twork.q p O L Q S ac Y r i u s j v
  have be : Cx [ad, CH.row E 0 N, CH.row h m bH, g, M, a, b] := bd
  refine WA.up1 16 (by kernel_rfl) (Up.skip rfl rfl (a6 _ _ _ _ rfl rfl) ⟨trivial, trivial, trivial⟩ ?_)
  refine WA.done (by kernel_rfl) <| W.sr rfl <| WL.rd to 1 rfl <| W.ret ?_
  have bf : Cx [CH.row h m bH, g, M, a, b] := be.pick [2, 3, 4, 5, 6] rfl
  simp only [Option.some.injEq, Prod.mk.injEq] at H
  obtain ⟨bj, bk⟩ := H
  subst bj bk
  exact post_r (resE1 rfl rfl) ⟨bh, O, Q, L, g, S, Y, ac, M, r, u, i, a, s, v, j, b, rfl, o, bf, aw, aQ, a1, aU, Z, aR, aa, aS⟩
 refine W.nT ak rfl <| W.sr rfl <| WL.rd to 2 rfl <| W.ret <| thenE_r ?_
 have bg : Cx [CH.row h m ae, g, d, a, b] := ar.pick [1, 2, 3, 4, 5] rfl
 simp only [Option.some.injEq, Prod.mk.injEq] at H
 obtain ⟨bl, bm⟩ := H
 subst bl bm
 exact post_r (resE1 rfl rfl) ⟨F, O, Q, L, g, T, B, x, d, r, u, i, a, s, v, j, b, rfl, (CH.le_refl _), bg, aw, R, am, G, Z, I, aa, J⟩
def docket_work_head.f (k : Nat) (a : Twork) (d : TRecord) : Option (Int × Twork) := (docket_work_era.f k a).bind fun b => if b = 0 then (if 0 ≤ a.c.Heads then (if a.State.Heads = (shlOp .i64 1 a.c.Heads) then (some (70, a)) else (some (0, (⟨a.c, (⟨a.State.Eras, a.State.Jobs, a.State.Used, a.State.Barred, wi64 (a.State.Heads + 1)⟩ : TState)⟩ : Twork)))) else none) else (some (b, a))
theorem docket_work_head.calls (k w F B G I L E A J p h b l s i d o t j g) (a : Twork) (Z X ab) (S : TRecord) (hp : Pre w F [CH.row B G (Twork.q a I E L J h p l i s o j t), A, b, d, g]) (Y : E = a.State.Eras.length) (M : Row TEra.K F A (.slice I E L) a.State.Eras) (N : h = a.State.Jobs.length) (v : Row TJob.K F b (.slice J h p) a.State.Jobs) (O : i = a.State.Used.length) (x : Row (Kd.int .i64) F d (.slice l i s) a.State.Used) (Q : j = a.State.Barred.length) (y : Row Kd.bool F g (.slice o j t) a.State.Barred) (aX : S.Nonce.length = 32) (a0 : ab = S.Data.length) (aY : S.Data.length ≤ X) (aZ : X ≤ maxLen) (aW : Sl (Kd.int .u8) F F Z S.Data) (ax : Int) (u : Twork) (H : docket_work_head.f k a S = some (ax, u)) :
    Calls Try.prog 42 #[.pointer (some ⟨B, G, none⟩), .agg (List.toArray ((TRecord.q S Z ab X)))] w fun e w' => ∃ F' ah am ac ar ai an ad au aj ao ae av ak ap af aw, e = .returned (iv ax) ∧ CH.le F F' ∧ Ctx w F (domL [CH.row B G (Twork.q a I E L J h p l i s o j t), A, b, d, g]) w' F' [CH.row B G (Twork.q u ah ac am ai ad an aj ae ao ak af ap), ar, au, av, aw] ∧ ac = u.State.Eras.length ∧ Row TEra.K F' ar (.slice ah ac am) u.State.Eras ∧ ad = u.State.Jobs.length ∧ Row TJob.K F' au (.slice ai ad an) u.State.Jobs ∧ ae = u.State.Used.length ∧ Row (Kd.int .i64) F' av (.slice aj ae ao) u.State.Used ∧ af = u.State.Barred.length ∧ Row Kd.bool F' aw (.slice ak af ap) u.State.Barred := by
 have C := Ctx.start hp
 generalize hD : domL [CH.row B G (Twork.q a I E L J h p l i s o j t), A, b, d, g] = D at C ⊢
 unfold docket_work_head.f at H
 refine Calls.ofW Try.func42 rfl (by simp [Try.ntmps42]) <| W.sr rfl ?_
 let ag : List Go.Value := TRecord.q S Z ab X
 obtain ⟨aq, a2, aA, al⟩ := ev_box (P := Try.prog) 46 (.agg (List.toArray ag)) ag C rfl
 refine WL.val (aA _ _ _ rfl) <| WL.rd to 1 rfl <| W.sr rfl <| WL.run to 1 rfl ?_
 let aH : List Go.Value := Twork.q a I E L J h p l i s o j t
 obtain ⟨aN, R, ⟨aB, aC, aD, aE, aF, _⟩, aI⟩ := Ctx.lend [CH.row B G aH, A, b, d, g] (ps := [CH.row aq 0 ag]) (Ctx.pick [1, 2, 3, 4, 5, 0] al rfl)
 obtain ⟨aV, az, H⟩ := bindE H
 refine WL.cq al (docket_work_era.calls k _ aN B G I L E J p h l s i o t j a aI.pre0 Y (Row.len_le M).1 (Row.len_le M).2.1 (Sl.mono (Row.sl M) R aC) N (Row.len_le v).1 (Row.len_le v).2.1 (Sl.mono (Row.sl v) R aD) O (Row.len_le x).1 (Row.len_le x).2.1 (Sl.mono (Row.sl x) R aE) Q (Row.len_le y).1 (Row.len_le y).2.1 (Sl.mono (Row.sl y) R aF) aB aV az) (ne.fr rfl rfl) fun a1 V => ?_
 refine WL.rd to 1 rfl <| W.seq <| W.block <| W.sr rfl <| WL.rd to 3 rfl ?_
 rcases iteE H with ⟨T, H⟩ | ⟨T, H⟩
 ·refine W.nF T rfl <| W.seq <| W.region_quiet (by kernel_rfl) (by kernel_rfl) rfl ?_
  refine WQ.run to 4 rfl <| WQ.lv V 1 11 rfl rfl Try.underlying3 rfl rfl <| WQ.run to 4 rfl <| WQ.lv V 1 6 rfl rfl Try.underlying3 rfl rfl ?_
  obtain ⟨ay, H⟩ := guardE H
  refine WQ.vl (fun _ => Yl.shl (m := 1) (n := a.c.Heads) (r := shlOp .i64 1 a.c.Heads) rfl rfl ay rfl) ?_
  refine WQ.run to 2 rfl <| WQ.done (fun aG => ?_)
  have aa := Ctx.drewN V aG
  rcases iteE H with ⟨U, H⟩ | ⟨U, H⟩
  ·refine W.cT U rfl <| W.sr rfl <| WL.rd to 1 rfl <| W.ret <| inB_r <| thenE_r ?_
   have aJ : Cx [CH.row B G aH, A, b, d, g] := aa.pick [1, 2, 3, 4, 5] rfl
   simp only [Option.some.injEq, Prod.mk.injEq] at H
   obtain ⟨aO, aP⟩ := H
   subst aO aP
   exact post_r (resE1 rfl rfl) ⟨F, I, L, E, A, J, p, h, b, l, s, i, d, o, t, j, g, rfl, (CH.le_refl _), aJ, Y, M, N, v, O, x, Q, y⟩
  refine W.cF U rfl <| W.skip <| inB_n <| W.sr rfl <| WL.run to 4 rfl <| WL.lv aa 1 11 rfl rfl Try.underlying3 rfl rfl <| WL.run to 4 rfl ?_
  let aU : List Go.Value := [iv a.c.Faulty, iv a.c.Workers, iv a.c.Height, iv a.c.Bits, iv a.c.Jobs, iv a.c.Term, iv a.c.Heads, .slice I E L, .slice J h p, .slice l i s, .slice o j t, iv (wi64 (a.State.Heads + 1))]
  refine WL.st aa 1 11 [iv (wi64 (a.State.Heads + 1))] rfl rfl rfl rfl (Put.lit 11 rfl) (ones_of rfl) sz3 fun a1 (aK : Cx [CH.row aq 0 ag, CH.row B G aU, A, b, d, g]) => ?_
  refine WL.done <| W.sr rfl <| WL.rd to 1 rfl <| W.ret ?_
  have aL : Cx [CH.row B G aU, A, b, d, g] := aK.pick [1, 2, 3, 4, 5] rfl
  simp only [Option.some.injEq, Prod.mk.injEq] at H
  obtain ⟨aQ, aR⟩ := H
  subst aQ aR
  exact post_r (resE1 rfl rfl) ⟨F, I, L, E, A, J, p, h, b, l, s, i, d, o, t, j, g, rfl, (CH.le_refl _), aL, Y, M, N, v, O, x, Q, y⟩
 refine W.nT T rfl <| W.sr rfl <| WL.rd to 2 rfl <| W.ret <| inB_r <| thenE_r ?_
 have aM : Cx [CH.row B G aH, A, b, d, g] := V.pick [1, 2, 3, 4, 5] rfl
 simp only [Option.some.injEq, Prod.mk.injEq] at H
 obtain ⟨aS, aT⟩ := H
 subst aS aT
 exact post_r (resE1 rfl rfl) ⟨F, I, L, E, A, J, p, h, b, l, s, i, d, o, t, j, g, rfl, (CH.le_refl _), aM, Y, M, N, v, O, x, Q, y⟩
def docket_work_expire.f (k : Nat) (a : Twork) (g : TRecord) : Option (Int × Twork) := (docket_work_job.f k a g).bind fun ⟨b, d⟩ => if 0 ≤ b ∧ b < (a.State.Jobs.length : Int) then (if d = 0 then (if ((a.State.Jobs.getD b.toNat TJob.z).State) = 2 then (if g.Time < ((a.State.Jobs.getD b.toNat TJob.z).Until) then (some (213, a)) else ((docket_again.f k (a.State.Jobs, b)).bind fun e => some (0, (⟨a.c, (⟨a.State.Eras, e, a.State.Used, a.State.Barred, a.State.Heads⟩ : TState)⟩ : Twork)))) else (some (212, a))) else (some (d, a))) else (if d = 0 then (if False then (none) else none) else (some (d, a)))
theorem docket_work_expire.calls (k w F t u U X R i L o h g x A p a y B r b) (j : Twork) (an ac ao) (ab : TRecord) (hp : Pre w F [CH.row t u (Twork.q j U R X L h o x p A y r B), i, g, a, b]) (Z : R = j.State.Eras.length) (Q : Row TEra.K F i (.slice U R X) j.State.Eras) (m : h = j.State.Jobs.length) (l : Row TJob.K F g (.slice L h o) j.State.Jobs) (M : p = j.State.Used.length) (E : Row (Kd.int .i64) F a (.slice x p A) j.State.Used) (N : r = j.State.Barred.length) (G : Row Kd.bool F b (.slice y r B) j.State.Barred) (ad : ab.Nonce.length = 32) (bf : ao = ab.Data.length) (bd : ab.Data.length ≤ ac) (be : ac ≤ maxLen) (ba : Sl (Kd.int .u8) F F an ab.Data) (aR : Int) (I : Twork) (H : docket_work_expire.f k j ab = some (aR, I)) :
    Calls Try.prog 41 #[.pointer (some ⟨t, u, none⟩), .agg (List.toArray ((TRecord.q ab an ao ac)))] w fun e w' => ∃ F' ap ax ai aE aq ay aj aF ar az ak aG au aA al aH, e = .returned (iv aR) ∧ CH.le F F' ∧ Ctx w F (domL [CH.row t u (Twork.q j U R X L h o x p A y r B), i, g, a, b]) w' F' [CH.row t u (Twork.q I ap ai ax aq aj ay ar ak az au al aA), aE, aF, aG, aH] ∧ ai = I.State.Eras.length ∧ Row TEra.K F' aE (.slice ap ai ax) I.State.Eras ∧ aj = I.State.Jobs.length ∧ Row TJob.K F' aF (.slice aq aj ay) I.State.Jobs ∧ ak = I.State.Used.length ∧ Row (Kd.int .i64) F' aG (.slice ar ak az) I.State.Used ∧ al = I.State.Barred.length ∧ Row Kd.bool F' aH (.slice au al aA) I.State.Barred := by
 have C := Ctx.start hp
 generalize hD : domL [CH.row t u (Twork.q j U R X L h o x p A y r B), i, g, a, b] = D at C ⊢
 unfold docket_work_expire.f at H
 refine Calls.ofW Try.func41 rfl (by simp [Try.ntmps41]) <| W.sr rfl ?_
 let Y : List Go.Value := TRecord.q ab an ao ac
 obtain ⟨O, b8, bh, aw⟩ := ev_box (P := Try.prog) 46 (.agg (List.toArray Y)) Y C rfl
 refine WL.val (bh _ _ _ rfl) <| WL.rd to 1 rfl <| W.sr rfl <| WL.run to 1 rfl <| WL.la aw 0 rfl rfl Try.underlying46 rfl (sz_of sz46 (len_app rfl (len_app (len_map ad) rfl))) ?_
 let S : List Go.Value := Twork.q j U R X L h o x p A y r B
 obtain ⟨br, J, ⟨bi, bj, bk, bl, bm, _⟩, bp⟩ := Ctx.lend [CH.row t u S, i, g, a, b] (ps := [CH.row O 0 Y]) (Ctx.pick [1, 2, 3, 4, 5, 0] aw rfl)
 obtain ⟨⟨s, bs⟩, bc, H⟩ := bindE H
 refine WL.callH (docket_work_job.calls k _ br t u U X R L o h x A p y B r j an ac ao ab (Ctx.pre (qs := []) (rest := [CH.row O 0 Y]) bp) Z (Row.len_le Q).1 (Row.len_le Q).2.1 (Sl.mono (Row.sl Q) J bj) m (Row.len_le l).1 (Row.len_le l).2.1 (Sl.mono (Row.sl l) J bk) M (Row.len_le E).1 (Row.len_le E).2.1 (Sl.mono (Row.sl E) J bl) N (Row.len_le G).1 (Row.len_le G).2.1 (Sl.mono (Row.sl G) J bm) bi ad bf bd be (Sl.mono ba J J) s bs bc) (ne.fr rfl rfl) ?_
 rintro bu bR ⟨rfl, bq⟩
 refine ⟨_, rfl, ?_⟩
 have V : Cx [CH.row O 0 Y, CH.row t u S, i, g, a, b] := Ctx.callL (qs := []) (rest := [CH.row O 0 Y, CH.row t u S, i, g, a, b]) aw J bq
 refine WL.run to 1 rfl <| WL.val (Yl.extract (v := elp L h 9 s) rfl rfl) <| WL.run to 1 rfl ?_
 rcases iteE H with ⟨ae, H⟩ | ⟨ae, H⟩
 ·obtain ⟨aQ, aD, aB, bb⟩ := (Row.sl l) (by omega)
  refine WL.val (Yl.assign (v := .pointer (some ⟨aQ, aD + s.toNat * 9, none⟩)) (elp_eq aB ae m)) <| WL.rd to 1 rfl <| W.seq <| W.block <| W.sr rfl <| WL.rd to 3 rfl ?_
  rcases iteE H with ⟨af, H⟩ | ⟨af, H⟩
  ·refine W.nF af rfl <| W.sr rfl <| WL.run to 3 rfl ?_
   obtain ⟨bt, bg, aC⟩ := bb s.toNat _ (getD_some (d := TJob.z) (by omega))
   obtain ⟨bS, bY, b3, bU, bZ, b4, bV, b0, b5, bW, b1, b6, bX, b2, b7, rfl, bM, bB, bH, bv, bN, bC, bI, bw, bO, bD, bJ, bx, bP, bE, bK, bz, bQ, bG, bL, bA⟩ := TJob.open bg
   refine WL.val (Yl.load (v := iv ((j.State.Jobs.getD s.toNat TJob.z).State)) rfl Try.underlying3 rfl (((Ctx.subI 3 V rfl)).cell (aC 1 _ rfl))) <| WL.rd to 2 rfl ?_
   rcases iteE H with ⟨ag, H⟩ | ⟨ag, H⟩
   ·refine W.nF ag rfl <| W.seq <| W.region_quiet (by kernel_rfl) (by kernel_rfl) rfl ?_
    refine WQ.run to 1 rfl <| WQ.lv V 0 36 rfl rfl Try.underlying3 rfl (at_skip 2 34 rfl (at_skip 32 2 (len_map ad) rfl)) <| WQ.run to 3 rfl <| WQ.vl (fun _ => Yl.load (v := iv ((j.State.Jobs.getD s.toNat TJob.z).Until)) rfl Try.underlying3 rfl (((Ctx.subI 3 (V.drewN _) rfl)).cell (aC 4 _ rfl))) ?_
    refine WQ.run to 2 rfl <| WQ.done (fun bn => ?_)
    have aP := Ctx.drewN V bn
    rcases iteE H with ⟨ah, H⟩ | ⟨ah, H⟩
    ·refine W.cT ah rfl <| W.sr rfl <| WL.rd to 1 rfl <| W.ret <| inB_r <| thenE_r ?_
     have aS : Cx [CH.row t u S, i, g, a, b] := aP.pick [1, 2, 3, 4, 5] rfl
     simp only [Option.some.injEq, Prod.mk.injEq] at H
     obtain ⟨a0, a1⟩ := H
     subst a0 a1
     exact post_r (resE1 rfl rfl) ⟨F, U, X, R, i, L, o, h, g, x, A, p, a, y, B, r, b, rfl, (CH.le_refl _), aS, Z, Q, m, l, M, E, N, G⟩
    refine W.cF ah rfl <| W.skip <| inB_n <| W.sr rfl <| WL.run to 1 rfl ?_
    have av : Cx [g, CH.row O 0 Y, CH.row t u S, i, a, b] := aP.pick [3, 0, 1, 2, 4, 5] rfl
    obtain ⟨bo, aN, H⟩ := bindE H
    refine WL.callH (docket_again.calls k _ F L o h g (j.State.Jobs, s) (Ctx.pre (qs := [g]) (rest := [CH.row O 0 Y, CH.row t u S, i, a, b]) av) m l (show 0 ≤ s ∧ s < (j.State.Jobs.length : Int) from by omega) bo aN) (ne.fn rfl (argsE (.cons ((show _ = Value.pointer (some ⟨aQ, aD + s.toNat * 9, none⟩) from rfl).trans (elp_eq (z := 9) aB (show 0 ≤ s ∧ s < (j.State.Jobs.length : Int) from by omega) m).symm) .nil))) ?_
    rintro bu bR ⟨aZ, am, rfl, T, aT, aO, aI⟩
    refine ⟨_, rfl, ?_⟩
    have aU : Cx [am, CH.row O 0 Y, CH.row t u S, i, a, b] := Ctx.call (qs := [g]) (rest := [CH.row O 0 Y, CH.row t u S, i, a, b]) av aT
    have aJ := Row.mono Q T
    have aK := Row.mono E T
    have aL := Row.mono G T
    refine WL.done <| W.sr rfl <| WL.rd to 1 rfl <| W.ret ?_
    have aV : Cx [CH.row t u S, i, am, a, b] := aU.pick [2, 3, 0, 4, 5] rfl
    simp only [Option.some.injEq, Prod.mk.injEq] at H
    obtain ⟨a2, a3⟩ := H
    subst a2 a3
    exact post_r (resE1 rfl rfl) ⟨aZ, U, X, R, i, L, o, h, am, x, A, p, a, y, B, r, b, rfl, T, aV, Z, aJ, aO, aI, M, aK, N, aL⟩
   refine W.nT ag rfl <| W.sr rfl <| WL.rd to 1 rfl <| W.ret <| inB_r <| thenE_r ?_
   have aW : Cx [CH.row t u S, i, g, a, b] := V.pick [1, 2, 3, 4, 5] rfl
   simp only [Option.some.injEq, Prod.mk.injEq] at H
   obtain ⟨a4, a5⟩ := H
   subst a4 a5
   exact post_r (resE1 rfl rfl) ⟨F, U, X, R, i, L, o, h, g, x, A, p, a, y, B, r, b, rfl, (CH.le_refl _), aW, Z, Q, m, l, M, E, N, G⟩
  refine W.nT af rfl <| W.sr rfl <| WL.rd to 2 rfl <| W.ret <| inB_r <| thenE_r ?_
  have aX : Cx [CH.row t u S, i, g, a, b] := V.pick [1, 2, 3, 4, 5] rfl
  simp only [Option.some.injEq, Prod.mk.injEq] at H
  obtain ⟨a6, a7⟩ := H
  subst a6 a7
  exact post_r (resE1 rfl rfl) ⟨F, U, X, R, i, L, o, h, g, x, A, p, a, y, B, r, b, rfl, (CH.le_refl _), aX, Z, Q, m, l, M, E, N, G⟩
 ·refine WL.val (Yl.assign (v := .pointer none) (elp_no ae m)) <| WL.rd to 1 rfl <| W.seq <| W.block <| W.sr rfl <| WL.rd to 3 rfl ?_
  rcases iteE H with ⟨aa, H⟩ | ⟨aa, H⟩
  ·refine W.nF aa rfl <| W.sr rfl <| WL.run to 1 rfl ?_
   obtain ⟨aM, H⟩ := guardE H
   exact aM.elim
  refine W.nT aa rfl <| W.sr rfl <| WL.rd to 2 rfl <| W.ret <| inB_r <| thenE_r ?_
  have aY : Cx [CH.row t u S, i, g, a, b] := V.pick [1, 2, 3, 4, 5] rfl
  simp only [Option.some.injEq, Prod.mk.injEq] at H
  obtain ⟨a8, a9⟩ := H
  subst a8 a9
  exact post_r (resE1 rfl rfl) ⟨F, U, X, R, i, L, o, h, g, x, A, p, a, y, B, r, b, rfl, (CH.le_refl _), aY, Z, Q, m, l, M, E, N, G⟩
end Go.Proofs.Ytobdpbnadjkhiaa
