/- Functions of the program: each as a plain function of numbers and lists, and the proof that the program's own comes to it. Nothing is assumed but what each theorem says. -/
import Derived.Test.YtobdpbnadjkhiaaGreatTM4
import Derived.Test.YtobdpbnadjkhiaaGreatTM3
namespace Go.Proofs.YtobdpbnadjkhiaaGreat
open Go.RowKit Go.WG
set_option linter.unusedVariables false
set_option linter.unusedSimpArgs false
set_option maxRecDepth 100000
set_option maxHeartbeats 4000000
def tF.l2 : Nat → bF → Int → Int → bT → Option bT
  | 0, _, _, _, _ => none
  | k + 1, e, d, b, a => if b < (((e.Jobs.getD d.toNat bT.z).rI).length : Int) then (if 0 ≤ b ∧ b < (((e.Jobs.getD d.toNat bT.z).rI).length : Int) then (if (((((e.Jobs.getD d.toNat bT.z).rI).getD b.toNat rA.z).Value).length + ((((e.Jobs.getD d.toNat bT.z).rI).getD b.toNat rA.z).Value).length / 4 + 192) * 1 ≤ 281474976710656 then (if (a.rI.length + 1 + (a.rI.length + 1) / 4 + 192) * 32 ≤ 281474976710656 then (tF.l2 k e d (rB (b + 1)) (⟨a.Payload, a.State, a.Attempt, a.Epoch, a.Until, a.Workers, a.Indexes, a.rI ++ [(⟨(((e.Jobs.getD d.toNat bT.z).rI).getD b.toNat rA.z).Worker, (((e.Jobs.getD d.toNat bT.z).rI).getD b.toNat rA.z).Value⟩ : rA)], a.Value⟩ : bT)) else none) else none) else none) else (some a)
def tF.l1 : Nat → bF → Int → bF → Option bF
  | 0, _, _, _ => none
  | k + 1, d, a, b => if a < (d.Jobs.length : Int) then (if 0 ≤ a ∧ a < (d.Jobs.length : Int) then (if (((d.Jobs.getD a.toNat bT.z).Payload).length + ((d.Jobs.getD a.toNat bT.z).Payload).length / 4 + 192) * 1 ≤ 281474976710656 then (if (((d.Jobs.getD a.toNat bT.z).Workers).length + ((d.Jobs.getD a.toNat bT.z).Workers).length / 4 + 192) * 8 ≤ 281474976710656 then (if (((d.Jobs.getD a.toNat bT.z).Indexes).length + ((d.Jobs.getD a.toNat bT.z).Indexes).length / 4 + 192) * 8 ≤ 281474976710656 then (if (((d.Jobs.getD a.toNat bT.z).Value).length + ((d.Jobs.getD a.toNat bT.z).Value).length / 4 + 192) * 1 ≤ 281474976710656 then ((tF.l2 k d a 0 (⟨(d.Jobs.getD a.toNat bT.z).Payload, (d.Jobs.getD a.toNat bT.z).State, (d.Jobs.getD a.toNat bT.z).Attempt, (d.Jobs.getD a.toNat bT.z).Epoch, (d.Jobs.getD a.toNat bT.z).Until, (d.Jobs.getD a.toNat bT.z).Workers, (d.Jobs.getD a.toNat bT.z).Indexes, ([] : List rA), (d.Jobs.getD a.toNat bT.z).Value⟩ : bT)).bind fun e => if (b.Jobs.length + 1 + (b.Jobs.length + 1) / 4 + 192) * 152 ≤ 281474976710656 then (tF.l1 k d (rB (a + 1)) (⟨b.Eras, b.Jobs ++ [e], b.Used, b.Barred, b.Heads⟩ : bF)) else none) else none) else none) else none) else none) else none) else (some b)
def tF.f (k : Nat) (a : bF) : Option bF := if (a.Eras.length + a.Eras.length / 4 + 192) * 40 ≤ 281474976710656 then (if (a.Used.length + a.Used.length / 4 + 192) * 8 ≤ 281474976710656 then (if (a.Barred.length + a.Barred.length / 4 + 192) * 1 ≤ 281474976710656 then ((tF.l1 k a 0 (⟨a.Eras, ([] : List bT), a.Used, a.Barred, a.Heads⟩ : bF)).bind fun b => some b) else none) else none) else none
theorem tF.calls (k w F kv e3 nf dk cX b3 d8 cC eR d9 cD eS) (G : bF) (hp : Pre w F []) (pn : nf = G.Eras.length) (q1 : G.Eras.length ≤ e3) (q2 : e3 ≤ maxLen) (o7 : Sl sD.K F F kv G.Eras) (qL : b3 = G.Jobs.length) (qF : G.Jobs.length ≤ cX) (qI : cX ≤ maxLen) (n4 : Sl bT.K F F dk G.Jobs) (n7 : eR = G.Used.length) (qG : G.Used.length ≤ cC) (qJ : cC ≤ maxLen) (n5 : Sl KI F F d8 G.Used) (n8 : eS = G.Barred.length) (qH : G.Barred.length ≤ cD) (qK : cD ≤ maxLen) (n6 : Sl Kd.bool F F d9 G.Barred) (bH : bF) (H : tF.f k G = some bH) :
    Calls Tryz.prog 41 #[.agg (List.toArray (bF.q G kv nf e3 dk b3 cX d8 eR cC d9 eS cD))] w fun e w' => ∃ F' dg dr cu dV dh ds cv dW di dt cw dX dj du cx dY, e = .returned (.agg (List.toArray (bF.q bH dg cu dr dh cv ds di cw dt dj cx du))) ∧ CH.le F F' ∧ Ctx w F (sR []) w' F' [dV, dW, dX, dY] ∧ cu = bH.Eras.length ∧ Row sD.K F' dV (.slice dg cu dr) bH.Eras ∧ cv = bH.Jobs.length ∧ Row bT.K F' dW (.slice dh cv ds) bH.Jobs ∧ cw = bH.Used.length ∧ Row KI F' dX (.slice di cw dt) bH.Used ∧ cx = bH.Barred.length ∧ Row Kd.bool F' dY (.slice dj cx du) bH.Barred := by
 have C := Ctx.start hp
 generalize hD : sR [] = D at C ⊢
 unfold tF.f at H
 refine Calls.ofW Tryz.func41 rfl (by simp [Tryz.ntmps41]) <| W.sr rfl ?_
 let J : LV := bF.q G kv nf e3 dk b3 cX d8 eR cC d9 eS cD
 obtain ⟨y, q3, n9, oR⟩ := uR (P := Tryz.prog) 50 (.agg (List.toArray J)) J C rfl
 refine WL.val (n9 _ _ _ rfl) ?_
 let I : LV := [.slice none 0 0, .slice none 0 0, .slice none 0 0, .slice none 0 0, iv 0]
 obtain ⟨x, q4, oa, oS⟩ := sU (P := Tryz.prog) (e := 50) I oR zN rfl
 refine WL.val (oa _ _) <| WL.done <| W.seq <| W.uF [([16], r0 y J)] (by kernel_rfl) ?_
 have gQ := Ctx.drewN oS 1
 refine WA.sZ [(1, none), (2, some 0), (5, none), (6, some 0), (9, none), (10, some 0), (12, none), (13, some 0)] ⟨(Ctx.rO 1 gQ rfl), trivial⟩ (by kernel_rfl) <| WT.run to 1 rfl <| WT.lv 0 rfl rfl rfl wG rfl rfl <| WT.run to 1 rfl <| WT.lv 2 rfl rfl rfl tM rfl rfl <| WT.run to 1 rfl <| WT.lv 3 rfl rfl rfl zH rfl rfl <| WT.run to 1 rfl <| WT.lv 4 rfl rfl rfl u_3 rfl rfl ?_
 refine WT.done ?_
 obtain ⟨lW, H⟩ := rV H
 obtain ⟨lX, H⟩ := rV H
 obtain ⟨lY, H⟩ := rV H
 refine WA.par (fun L_ a aB => ∃ ai al Z N aj am aa O ak an ab Q b S, Ctx w F D aB F [N, O, Q, S, r0 x I, r0 y J] ∧ a 1 = pt y ∧ a 2 = pt x ∧ a 11 = .slice kv nf e3 ∧ a 15 = .slice d8 eR cC ∧ a 19 = .slice d9 eS cD ∧ a 22 = iv G.Heads ∧ cond (L_ 3) (a 12 = .slice ai Z al ∧ Z = G.Eras.length ∧ Row sD.K F N (.slice ai Z al) G.Eras) (cond (L_ 0) (∃ d0 d3 db, a 9 = .slice d0 db d3 ∧ db = ([] : List sD).length ∧ Row sD.K F N (.slice d0 db d3) ([] : List sD)) (True)) ∧ cond (L_ 7) (a 16 = .slice aj aa am ∧ aa = G.Used.length ∧ Row KI F O (.slice aj aa am) G.Used) (cond (L_ 4) (∃ d1 d4 dc, a 13 = .slice d1 dc d4 ∧ dc = ([] : List Int).length ∧ Row KI F O (.slice d1 dc d4) ([] : List Int)) (True)) ∧ cond (L_ 11) (a 20 = .slice ak ab an ∧ ab = G.Barred.length ∧ Row Kd.bool F Q (.slice ak ab an) G.Barred) (cond (L_ 8) (∃ d2 d5 dd, a 17 = .slice d2 dd d5 ∧ dd = ([] : List Bool).length ∧ Row Kd.bool F Q (.slice d2 dd d5) ([] : List Bool)) (True)) ∧ cond (L_ 15) (a 3 = pt b ∧ S = r0 b I) (True) ∧ cond (L_ 14) (a 23 = .agg (List.toArray (bF.q G ai Z al none 0 0 aj aa am ak ab an))) True) [(0, [], [3, 14]), (3, [0], [14]), (4, [], [7, 14]), (7, [3, 4], [14]), (8, [], [11, 14]), (11, [7, 8], [14]), (14, [3, 7, 11], []), (15, [], [])] [1, 2, 5, 6, 9, 10, 12, 13] [0, 1, 2, 3, 4, 5, 6, 7, 8, 9, 10, 11, 12, 13, 14, 15] #[true, true, true, true, true, true, true, true, true, true, true, true, true, true, true, true, false] 1 8 (by kernel_rfl) ?_ (.cons ?_ (.cons ?_ (.cons ?_ (.cons ?_ (.cons ?_ (.cons ?_ (.cons ?_ (.cons ?_ .nil)))))))) ?_
 ·have ny := Ctx.emp gQ
  have nz := Ctx.emp ny
  have nA := Ctx.emp nz
  have nB := Ctx.emp nA
  exact ⟨none, 0, 0, CH.emp, none, 0, 0, CH.emp, none, 0, 0, CH.emp, 0, CH.emp, nB, rfl, rfl, rfl, rfl, rfl, rfl, (iF rfl (iF rfl trivial)), (iF rfl (iF rfl trivial)), (iF rfl (iF rfl trivial)), (iF rfl trivial), (iF rfl trivial)⟩
 ·intro L_ a aB hk_ hI_
  obtain ⟨qM, ob, oc, _⟩ := hk_
  obtain ⟨ai, al, Z, N, aj, am, aa, O, ak, an, ab, Q, b, S, nC, l4, l5, l6, l7, l8, l9, p3, lu, lw, lx, pW⟩ := hI_
  obtain ⟨ns, nQ, oy, kk, qT, lZ, mQ, ha, lq⟩ := yC (P := Tryz.prog) 94 sD.K nC wG Fj
  refine UpI.val rfl rfl (mQ _ _) ⟨(Ctx.rO 6 ha rfl), trivial⟩ ?_
  have nD : Cx [kk, O, Q, S, r0 x I, r0 y J] := ha.pick [0, 2, 3, 4, 5, 6] rfl
  exact ⟨ai, al, Z, kk, aj, am, aa, O, ak, an, ab, Q, b, S, nD, l4, l5, l6, l7, l8, l9, (iF ob (iT rfl ⟨ns, nQ, oy, rfl, lZ, lq⟩)), lu, lw, lx, (iF oc trivial)⟩
 ·intro L_ a aB hk_ hI_
  obtain ⟨od, oe, og, _⟩ := hk_
  obtain ⟨ai, al, Z, N, aj, am, aa, O, ak, an, ab, Q, b, S, hb, ma, mb, eM, mc, md, me, ly, lz, lA, lB, pX⟩ := hI_
  obtain ⟨d0, d3, db, nX, p7, lm⟩ := cT od (cF oe ly)
  obtain ⟨nt, nR, oz, kl, qU, eJ, mR, nE, eA⟩ := sP (P := Tryz.prog) (cb := e3) 94 sD.K [] [O, Q, S, r0 x I, r0 y J] hb lm pn o7 hb.fro wG Fj rfl I8 (by decide) (by decide) (by simpa using lW)
  have hc : Cx [kl, O, Q, S, r0 x I, r0 y J] := nE
  rw [List.nil_append] at eJ eA
  refine UpI.val rfl rfl (mR _ _ _ _ nX eM) ⟨(Ctx.rO 5 hc rfl), trivial⟩ ?_
  exact ⟨nt, nR, oz, kl, aj, am, aa, O, ak, an, ab, Q, b, S, hc, ma, mb, eM, mc, md, me, (iT rfl ⟨rfl, eJ, eA⟩), lz, lA, lB, (iF og trivial)⟩
 ·intro L_ a aB hk_ hI_
  obtain ⟨qN, oh, oi, _⟩ := hk_
  obtain ⟨ai, al, Z, N, aj, am, aa, O, ak, an, ab, Q, b, S, nG, mf, mg, mh, mi, mj, ml, lC, p4, lD, lE, pY⟩ := hI_
  obtain ⟨nu, nS, oA, km, qV, l0, mS, hd, lr⟩ := yC (P := Tryz.prog) 3 KI nG tM ti3
  refine UpI.val rfl rfl (mS _ _) ⟨(Ctx.rO 6 hd rfl), trivial⟩ ?_
  have nH : Cx [N, km, Q, S, r0 x I, r0 y J] := hd.pick [1, 0, 3, 4, 5, 6] rfl
  exact ⟨ai, al, Z, N, aj, am, aa, km, ak, an, ab, Q, b, S, nH, mf, mg, mh, mi, mj, ml, lC, (iF oh (iT rfl ⟨nu, nS, oA, rfl, l0, lr⟩)), lD, lE, (iF oi trivial)⟩
 ·intro L_ a aB hk_ hI_
  obtain ⟨oj, ok, ol, om, _⟩ := hk_
  obtain ⟨ai, al, Z, N, aj, am, aa, O, ak, an, ab, Q, b, S, he, mm, mn, mo, eN, mq, mr, eD, lF, lG, lH, pZ⟩ := hI_
  obtain ⟨qA, c9, c7⟩ := cT oj eD
  obtain ⟨d1, d4, dc, nY, p8, lo⟩ := cT ok (cF ol lF)
  obtain ⟨nv, nU, oB, ko, qW, eK, mT, nI, eB⟩ := sP (P := Tryz.prog) (cb := cC) 3 KI [N] [Q, S, r0 x I, r0 y J] he lo n7 n5 he.fro tM ti3 rfl zo3 (by decide) (by decide) (by simpa using lX)
  have hf : Cx [N, ko, Q, S, r0 x I, r0 y J] := nI
  rw [List.nil_append] at eK eB
  refine UpI.val rfl rfl (mT _ _ _ _ nY eN) ⟨(Ctx.rO 5 hf rfl), trivial⟩ ?_
  exact ⟨ai, al, Z, N, nv, nU, oB, ko, ak, an, ab, Q, b, S, hf, mm, mn, mo, eN, mq, mr, eD, (iT rfl ⟨rfl, eK, eB⟩), lG, lH, (iF om trivial)⟩
 ·intro L_ a aB hk_ hI_
  obtain ⟨qO, oo, op, _⟩ := hk_
  obtain ⟨ai, al, Z, N, aj, am, aa, O, ak, an, ab, Q, b, S, nJ, ms, mt, mu, mv, mw, mx, lI, lJ, p5, lK, p0⟩ := hI_
  obtain ⟨nw, nV, oC, kp, qX, l3, mU, hg, ls⟩ := yC (P := Tryz.prog) 4 Kd.bool nJ zH ti4
  refine UpI.val rfl rfl (mU _ _) ⟨(Ctx.rO 6 hg rfl), trivial⟩ ?_
  have nK : Cx [N, O, kp, S, r0 x I, r0 y J] := hg.pick [1, 2, 0, 4, 5, 6] rfl
  exact ⟨ai, al, Z, N, aj, am, aa, O, ak, an, ab, kp, b, S, nK, ms, mt, mu, mv, mw, mx, lI, lJ, (iF oo (iT rfl ⟨nw, nV, oC, rfl, l3, ls⟩)), lK, (iF op trivial)⟩
 ·intro L_ a aB hk_ hI_
  obtain ⟨oq, os, ot, ou, _⟩ := hk_
  obtain ⟨ai, al, Z, N, aj, am, aa, O, ak, an, ab, Q, b, S, hh, my, mz, mA, mB, eO, mC, lL, eE, lM, lN, p1⟩ := hI_
  obtain ⟨qB, da, c8⟩ := cT oq eE
  obtain ⟨d2, d5, dd, nZ, p9, lp⟩ := cT os (cF ot lM)
  obtain ⟨nx, nW, oD, kq, qY, eL, mV, nL, eC⟩ := sP (P := Tryz.prog) (cb := cD) 4 Kd.bool [N, O] [S, r0 x I, r0 y J] hh lp n8 n6 hh.fro zH ti4 rfl zo4 (by decide) (by decide) (by simpa using lY)
  have hi : Cx [N, O, kq, S, r0 x I, r0 y J] := nL
  rw [List.nil_append] at eL eC
  refine UpI.val rfl rfl (mV _ _ _ _ nZ eO) ⟨(Ctx.rO 5 hi rfl), trivial⟩ ?_
  exact ⟨ai, al, Z, N, aj, am, aa, O, nx, nW, oD, kq, b, S, hi, my, mz, mA, mB, eO, mC, lL, eE, (iT rfl ⟨rfl, eL, eC⟩), lN, (iF ou trivial)⟩
 ·intro L_ a aB hk_ hI_
  obtain ⟨ov, ow, ox, qP, _⟩ := hk_
  obtain ⟨ai, al, Z, N, aj, am, aa, O, ak, an, ab, Q, b, S, hj, mD, mE, mF, mG, mH, eP, eF, eG, eH, lO, p2⟩ := hI_
  obtain ⟨n0, c9, c7⟩ := cT ov eF
  obtain ⟨n1, da, c8⟩ := cT ow eG
  obtain ⟨n2, eI, ez⟩ := cT ox eH
  let qR : LV := bF.q G ai Z al none 0 0 aj aa am ak ab an
  refine UpI.val rfl rfl (Yl.build (places := [(0, 1), (1, 1), (2, 1), (3, 1), (4, 1)]) (cs := List.toArray qR) wJ zN (DB _ wJ) (uV (.cons n0 (.cons n1 (.cons n2 (.cons eP .nil))))) rfl) ⟨(Ctx.rO 5 hj rfl), trivial⟩ ?_
  exact ⟨ai, al, Z, N, aj, am, aa, O, ak, an, ab, Q, b, S, hj, mD, mE, mF, mG, mH, eP, eF, eG, eH, lO, (iT rfl rfl)⟩
 ·intro L_ a aB hk_ hI_
  obtain ⟨qQ, _⟩ := hk_
  obtain ⟨ai, al, Z, N, aj, am, aa, O, ak, an, ab, Q, b, S, nM, mI, mJ, mK, mL, mM, mN, lP, lQ, lR, p6, lk⟩ := hI_
  obtain ⟨d6, qZ, mW, hk⟩ := sU (P := Tryz.prog) (e := 50) I nM zN rfl
  refine UpI.val rfl rfl (mW _ _) ⟨(Ctx.rO 6 hk rfl), trivial⟩ ?_
  have nN : Cx [N, O, Q, r0 d6 I, r0 x I, r0 y J] := hk.pick [1, 2, 3, 0, 5, 6] rfl
  exact ⟨ai, al, Z, N, aj, am, aa, O, ak, an, ab, Q, d6, (r0 d6 I), nN, mI, mJ, mK, mL, mM, mN, lP, lQ, lR, (iT rfl ⟨rfl, rfl⟩), lk⟩
 ·rintro a aB ⟨ai, al, Z, N, aj, am, aa, O, ak, an, ab, Q, b, S, nO, mO, mP, qa, qb, qc, qd, lS, lT, lU, lV, ll⟩
  obtain ⟨qC, c9, c7⟩ := cT rfl lS
  obtain ⟨qD, da, c8⟩ := cT rfl lT
  obtain ⟨qE, eI, ez⟩ := cT rfl lU
  obtain ⟨hs, rfl⟩ := cT rfl lV
  have n3 := cT rfl ll
  let nn : LV := bF.q G ai Z al none 0 0 aj aa am ak ab an
  obtain ⟨q0, mX, nP⟩ := vH (P := Tryz.prog) (ps1 := [N, O, Q]) (ps2 := [r0 x I, r0 y J]) (t := 50) 0 nn (.agg (List.toArray nn)) nO rfl rfl (rR rfl) wM
  have hl : Cx [N, O, Q, r0 b nn, r0 x I, r0 y J] := nP
  refine WA.up1 16 (by kernel_rfl) (Up.skip rfl rfl (mX _ _ _ _ hs n3) ⟨trivial, trivial⟩ ?_)
  refine WA.done (by kernel_rfl) <| W.seq <| W.sr rfl <| WL.val (Yl.fieldAddr (i := 1) mO wJ rfl Ii) <| WL.lv hl 5 1 rfl rfl wY rfl rfl <| WL.ln (G.Jobs.length : Int) rfl wY (by omega) <| WL.rd to 1 rfl ?_
  obtain ⟨aJ, A, H⟩ := rE H
  refine W.vG (fun a aB => ∃ aZ bJ bQ bw bC bK bR bx bD bL bS bz bE bM bU bA bG, Kn a [(2, pt x), (3, pt b)] ∧ Ctx w F D aB aZ [r0 b (bF.q aJ bJ bw bQ bK bx bR bL bz bS bM bA bU), bC, bD, bE, bG, r0 x I, r0 y J] ∧ CH.le F aZ ∧ oW sD.K aZ bC bJ bw bQ aJ.Eras (oW bT.K aZ bD bK bx bR aJ.Jobs (oW KI aZ bE bL bz bS aJ.Used (bA = aJ.Barred.length ∧ Row Kd.bool aZ bG (.slice bM bA bU) aJ.Barred)))) ?_ ?_
  ·refine W.block ?_
   have kD : Cx [r0 b nn, N, CH.emp, O, Q, r0 x I, r0 y J] := hl.pick [3, 0, 6, 1, 2, 4, 5] rfl
   refine W.loop (fun d7 a aB => ∃ (s : Int) (ag : bF), ∃ V bb be a0 h bN bV bB v bc bf a1 l bd bg a2 m, Kn a [(2, pt x), (3, pt b), (25, .slice dk b3 cX), (26, iv (G.Jobs.length : Int)), (27, iv s)] ∧ Ctx w F D aB V [r0 b (bF.q ag bb a0 be bN bB bV bc a1 bf bd a2 bg), h, v, l, m, r0 x I, r0 y J] ∧ CH.le F V ∧ bF.oS V ag bb a0 be h bN bB bV v bc a1 bf l bd a2 bg m (tF.l1 d7 G s ag = some aJ)) k ⟨0, (⟨G.Eras, ([] : List bT), G.Used, G.Barred, G.Heads⟩ : bF), F, ai, al, Z, N, none, 0, 0, CH.emp, aj, am, aa, O, ak, an, ab, Q, (.c mP (.c hs (.c rfl (.c rfl (.c rfl .n))))), kD, (CH.le_refl _), c9, c7, rfl, (Row.nil _ _), da, c8, eI, ez, A⟩ ?_
   clear A
   rintro d7 a aB ⟨s, ag, V, bb, be, a0, h, bN, bV, bB, v, bc, bf, a1, l, bd, bg, a2, m, iu, cV, av, dD, cg, ii, ch, dE, ci, dF, cj, A⟩
   rcases d7 with _ | eQ
   · exact absurd A (by simp [tF.l1])
   rw [tF.l1] at A
   apply ks a iu
   refine W.sr rfl <| WL.rd to 1 rfl <| W.seq ?_
   rcases rT A with ⟨cm, A⟩ | ⟨cm, A⟩
   ·refine W.cT cm rfl <| W.skip <| W.seq <| W.block <| W.sr rfl ?_
    obtain ⟨pc, A⟩ := rV A
    obtain ⟨pR, pF, hv, ic⟩ := n4 (by omega)
    refine WL.val (Yl.rW (i := s) rfl rfl hv wY yN (by omega)) ?_
    obtain ⟨o0, j1, j2⟩ := ic s.toNat _ (getD_some (d := bT.z) (by omega))
    obtain ⟨ea, cY, eT, eb, cZ, eU, ec, c1, eV, ed, ew, eW, kw, ex, ng, rfl, ij, pd, pi, hO, ik, pe, pj, hP, il, pf, pk, hQ, po, pg, pl, hR, im, ph, pm, hS⟩ := bT.open j1
    let ah : LV := (bT.q (G.Jobs.getD s.toNat bT.z) ea eT cY eb eU cZ ec eV c1 ed eW ew kw ng ex)
    refine WL.val (Yl.wC (cs := ah) rfl xG rfl yN (fun j u hu => by rw [vL]; exact ((cV.fro.mono av)).cell (j2 _ _ hu))) ?_
    let ku : LV := [.slice none 0 0, iv 0, iv 0, iv 0, iv 0, .slice none 0 0, .slice none 0 0, .slice none 0 0, .slice none 0 0]
    obtain ⟨r, qn, j3, kE⟩ := sU (P := Tryz.prog) (e := 63) ku cV Cv rfl
    refine WL.val (j3 _ _) ?_
    let aE : LV := bF.q ag bb a0 be bN bB bV bc a1 bf bd a2 bg
    refine WL.st kE 0 0 ah rfl rfl rfl rfl (Put.lit 0 rfl) (rR rfl) yN fun aB (kF : Cx [r0 r ah, r0 b aE, h, v, l, m, r0 x I, r0 y J]) => ?_
    refine WL.done <| W.seq <| W.uF [([14], r0 r ah)] (by kernel_rfl) ?_
    have ef := Ctx.drewN kF 1
    refine WA.sZ [(1, none), (2, some 0), (4, none), (5, some 0), (6, none), (7, some 0), (8, none), (9, some 0), (10, none), (11, some 0)] ⟨(Ctx.rO 0 ef rfl), trivial⟩ (by kernel_rfl) <| WT.run to 1 rfl <| WT.lv 0 rfl rfl rfl tG rfl rfl <| WT.run to 1 rfl <| WT.lv 1 rfl rfl rfl u_3 rfl rfl <| WT.run to 1 rfl <| WT.lv 2 rfl rfl rfl u_3 rfl rfl <| WT.run to 1 rfl <| WT.lv 3 rfl rfl rfl u_3 rfl rfl ?_
    refine WT.run to 1 rfl <| WT.lv 4 rfl rfl rfl u_3 rfl rfl <| WT.done ?_
    obtain ⟨h8, A⟩ := rV A
    refine WA.par (fun L_ a aB => ∃ ap ar ae B p aH, Ctx w F D aB V [B, aH, r0 r ah, r0 b aE, h, v, l, m, r0 x I, r0 y J] ∧ a 2 = pt x ∧ a 3 = pt b ∧ a 5 = pt r ∧ a 25 = .slice dk b3 cX ∧ a 26 = iv (G.Jobs.length : Int) ∧ a 27 = iv s ∧ a 33 = .slice ea eT cY ∧ a 36 = iv ((G.Jobs.getD s.toNat bT.z).State) ∧ a 38 = iv ((G.Jobs.getD s.toNat bT.z).Attempt) ∧ a 40 = iv ((G.Jobs.getD s.toNat bT.z).Epoch) ∧ a 42 = iv ((G.Jobs.getD s.toNat bT.z).Until) ∧ cond (L_ 3) (a 34 = .slice ap ae ar ∧ ae = ((G.Jobs.getD s.toNat bT.z).Payload).length ∧ Row KB V B (.slice ap ae ar) ((G.Jobs.getD s.toNat bT.z).Payload)) (cond (L_ 0) (∃ cQ c2 b4, a 31 = .slice cQ b4 c2 ∧ b4 = ([] : List Int).length ∧ Row KB V B (.slice cQ b4 c2) ([] : List Int)) (True)) ∧ cond (L_ 13) (a 6 = pt p ∧ aH = r0 p ku) (True) ∧ cond (L_ 12) (a 43 = .agg (List.toArray (bT.q (G.Jobs.getD s.toNat bT.z) ap ae ar none 0 0 none 0 0 none 0 0 none 0 0))) True) [(0, [], [3, 12]), (3, [0], [12]), (12, [3], []), (13, [], [])] [1, 2, 4, 5, 6, 7, 8, 9, 10, 11] [0, 1, 2, 3, 4, 5, 6, 7, 8, 9, 10, 11, 12, 13] #[true, true, true, true, true, true, true, true, true, true, true, true, true, true, false] 1 4 (by kernel_rfl) ?_ (.cons ?_ (.cons ?_ (.cons ?_ (.cons ?_ .nil)))) ?_
    ·have kG := Ctx.emp ef
     have kH := Ctx.emp kG
     exact ⟨none, 0, 0, CH.emp, 0, CH.emp, kH, rfl, rfl, rfl, rfl, rfl, rfl, rfl, rfl, rfl, rfl, rfl, (iF rfl (iF rfl trivial)), (iF rfl trivial), (iF rfl trivial)⟩
    ·intro L_ a aB hk_ hI_
     obtain ⟨qe, mY, mZ, _⟩ := hk_
     obtain ⟨ap, ar, ae, B, p, aH, kI, iw, ix, iy, iz, iA, iB, iC, iD, iE, iG, iH, o8, hT, o1⟩ := hI_
     obtain ⟨kx, k4, nh, eX, qo, io, j4, eg, hH⟩ := yC (P := Tryz.prog) 5 KB kI tG ti5
     refine UpI.val rfl rfl (j4 _ _) ⟨(Ctx.rO 3 eg rfl), trivial⟩ ?_
     have kJ : Cx [eX, aH, r0 r ah, r0 b aE, h, v, l, m, r0 x I, r0 y J] := eg.pick [0, 2, 3, 4, 5, 6, 7, 8, 9, 10] rfl
     exact ⟨ap, ar, ae, eX, p, aH, kJ, iw, ix, iy, iz, iA, iB, iC, iD, iE, iG, iH, (iF mY (iT rfl ⟨kx, k4, nh, rfl, io, hH⟩)), hT, (iF mZ trivial)⟩
    ·intro L_ a aB hk_ hI_
     obtain ⟨m0, m1, m2, _⟩ := hk_
     obtain ⟨ap, ar, ae, B, p, aH, eh, iI, iJ, iK, iL, iM, iN, dL, iO, iP, iQ, iR, hU, hV, o2⟩ := hI_
     obtain ⟨cQ, c2, b4, lb, pp, hG⟩ := cT m0 (cF m1 hU)
     obtain ⟨ky, k5, ni, eY, qp, dH, j5, kK, dw⟩ := sP (P := Tryz.prog) (cb := cY) 5 KB [] [aH, r0 r ah, r0 b aE, h, v, l, m, r0 x I, r0 y J] eh hG ij (Sl.mono hO av av) eh.fro tG ti5 rfl zo5 (by decide) (by decide) (by simpa using h8)
     have ei : Cx [eY, aH, r0 r ah, r0 b aE, h, v, l, m, r0 x I, r0 y J] := kK
     rw [List.nil_append] at dH dw
     refine UpI.val rfl rfl (j5 _ _ _ _ lb dL) ⟨(Ctx.rO 2 ei rfl), trivial⟩ ?_
     exact ⟨ky, k5, ni, eY, p, aH, ei, iI, iJ, iK, iL, iM, iN, dL, iO, iP, iQ, iR, (iT rfl ⟨rfl, dH, dw⟩), hV, (iF m2 trivial)⟩
    ·intro L_ a aB hk_ hI_
     obtain ⟨m3, qf, _⟩ := hk_
     obtain ⟨ap, ar, ae, B, p, aH, ej, iS, iU, iV, iW, iX, iY, iZ, dM, dN, dO, dP, dA, hW, o3⟩ := hI_
     obtain ⟨lc, dG, dv⟩ := cT m3 dA
     let qS : LV := (bT.q (G.Jobs.getD s.toNat bT.z) ap ae ar none 0 0 none 0 0 none 0 0 none 0 0)
     refine UpI.val rfl rfl (Yl.build (places := [(0, 1), (1, 1), (2, 1), (3, 1), (4, 1), (5, 1), (6, 1), (7, 1), (8, 1)]) (cs := List.toArray qS) xG Cv (IK _ xG) (uV (.cons lc (.cons dM (.cons dN (.cons dO (.cons dP .nil)))))) rfl) ⟨(Ctx.rO 2 ej rfl), trivial⟩ ?_
     exact ⟨ap, ar, ae, B, p, aH, ej, iS, iU, iV, iW, iX, iY, iZ, dM, dN, dO, dP, dA, hW, (iT rfl rfl)⟩
    ·intro L_ a aB hk_ hI_
     obtain ⟨qg, _⟩ := hk_
     obtain ⟨ap, ar, ae, B, p, aH, kL, i0, i1, i2, i3, i4, i5, i6, i7, i8, i9, ja, hX, o9, hw⟩ := hI_
     obtain ⟨c6, qq, j6, ek⟩ := sU (P := Tryz.prog) (e := 63) ku kL Cv rfl
     refine UpI.val rfl rfl (j6 _ _) ⟨(Ctx.rO 3 ek rfl), trivial⟩ ?_
     have kM : Cx [B, r0 c6 ku, r0 r ah, r0 b aE, h, v, l, m, r0 x I, r0 y J] := ek.pick [1, 0, 3, 4, 5, 6, 7, 8, 9, 10] rfl
     exact ⟨ap, ar, ae, B, c6, (r0 c6 ku), kM, i0, i1, i2, i3, i4, i5, i6, i7, i8, i9, ja, hX, (iT rfl ⟨rfl, rfl⟩), hw⟩
    ·rintro a aB ⟨ap, ar, ae, B, p, aH, kN, jb, jc, cp, jd, je, jf, pv, pw, px, py, pz, hY, hZ, hx⟩
     obtain ⟨pT, dG, dv⟩ := cT rfl hY
     obtain ⟨ey, rfl⟩ := cT rfl hZ
     have ld := cT rfl hx
     let cB : LV := (bT.q (G.Jobs.getD s.toNat bT.z) ap ae ar none 0 0 none 0 0 none 0 0 none 0 0)
     obtain ⟨qr, j7, kO⟩ := vH (P := Tryz.prog) (ps1 := [B]) (ps2 := [r0 r ah, r0 b aE, h, v, l, m, r0 x I, r0 y J]) (t := 63) 0 cB (.agg (List.toArray cB)) kN rfl rfl (rR rfl) yN
     have kP : Cx [B, r0 p cB, r0 r ah, r0 b aE, h, v, l, m, r0 x I, r0 y J] := kO
     refine WA.up1 14 (by kernel_rfl) (Up.skip rfl rfl (j7 _ _ _ _ ey ld) ⟨trivial, trivial⟩ ?_)
     refine WA.done (by kernel_rfl) <| W.seq <| W.uF [([7, 9, 11], r0 r ah)] (by kernel_rfl) ?_
     have el := Ctx.drewN kP 1
     refine WA.sZ [(1, none), (2, some 0), (5, none), (6, some 0)] ⟨(Ctx.rO 2 el rfl), trivial⟩ (by kernel_rfl) <| WT.val rfl (fun _ hC_ => Yl.fieldAddr (i := 5) (by exact cp) xG rfl AX) ?_
     refine WT.lv 5 rfl rfl rfl tM rfl rfl <| WT.val rfl (fun _ hC_ => Yl.fieldAddr (i := 6) (by exact cp) xG rfl AX) ?_
     refine WT.lv 6 rfl rfl rfl tM rfl rfl <| WT.done ?_
     obtain ⟨h9, A⟩ := rV A
     obtain ⟨ia, A⟩ := rV A
     refine WA.par (fun L_ a aB => ∃ ac ad X L aq au af M, Ctx w F D aB V [L, M, B, r0 p cB, r0 r ah, r0 b aE, h, v, l, m, r0 x I, r0 y J] ∧ a 2 = pt x ∧ a 3 = pt b ∧ a 5 = pt r ∧ a 6 = pt p ∧ a 25 = .slice dk b3 cX ∧ a 26 = iv (G.Jobs.length : Int) ∧ a 27 = iv s ∧ a 46 = .slice eb eU cZ ∧ a 50 = .slice ec eV c1 ∧ cond (L_ 3) (a 47 = .slice ac X ad ∧ X = ((G.Jobs.getD s.toNat bT.z).Workers).length ∧ Row KI V L (.slice ac X ad) ((G.Jobs.getD s.toNat bT.z).Workers)) (cond (L_ 0) (∃ cR c3 b5, a 44 = .slice cR b5 c3 ∧ b5 = ([] : List Int).length ∧ Row KI V L (.slice cR b5 c3) ([] : List Int)) (True)) ∧ cond (L_ 7) (a 51 = .slice aq af au ∧ af = ((G.Jobs.getD s.toNat bT.z).Indexes).length ∧ Row KI V M (.slice aq af au) ((G.Jobs.getD s.toNat bT.z).Indexes)) (cond (L_ 4) (∃ cS c4 b6, a 48 = .slice cS b6 c4 ∧ b6 = ([] : List Int).length ∧ Row KI V M (.slice cS b6 c4) ([] : List Int)) (True)) ∧ cond (L_ 8) (a 52 = .pointer (some ⟨p, 0 + 5, none⟩)) True) [(0, [], [3, 8]), (3, [0], [8]), (4, [], [7]), (7, [3, 4], []), (8, [0, 3], [])] [1, 2, 5, 6] [0, 1, 2, 3, 4, 5, 6, 7, 8] #[true, true, true, true, true, true, true, true, true, false, false, false] 3 5 (by kernel_rfl) ?_ (.cons ?_ (.cons ?_ (.cons ?_ (.cons ?_ (.cons ?_ .nil))))) ?_
     ·have kQ := Ctx.emp el
      have kR := Ctx.emp kQ
      exact ⟨none, 0, 0, CH.emp, none, 0, 0, CH.emp, kR, jb, jc, cp, ey, jd, je, jf, rfl, rfl, (iF rfl (iF rfl trivial)), (iF rfl (iF rfl trivial)), (iF rfl trivial)⟩
     ·intro L_ a aB hk_ hI_
      obtain ⟨qh, m4, m5, _⟩ := hk_
      obtain ⟨ac, ad, X, L, aq, au, af, M, kS, jg, jh, ji, jj, jk, jl, jm, jn, jo, pa, h0, o4⟩ := hI_
      obtain ⟨kz, k6, nj, eZ, qs, iq, j8, em, hL⟩ := yC (P := Tryz.prog) 3 KI kS tM ti3
      refine UpI.val rfl rfl (j8 _ _) ⟨(Ctx.rO 5 em rfl), trivial⟩ ?_
      have kT : Cx [eZ, M, B, r0 p cB, r0 r ah, r0 b aE, h, v, l, m, r0 x I, r0 y J] := em.pick [0, 2, 3, 4, 5, 6, 7, 8, 9, 10, 11, 12] rfl
      exact ⟨ac, ad, X, eZ, aq, au, af, M, kT, jg, jh, ji, jj, jk, jl, jm, jn, jo, (iF m4 (iT rfl ⟨kz, k6, nj, rfl, iq, hL⟩)), h0, (iF m5 trivial)⟩
     ·intro L_ a aB hk_ hI_
      obtain ⟨m6, m7, m8, _⟩ := hk_
      obtain ⟨ac, ad, X, L, aq, au, af, M, en, jp, jq, jr, js, jt, ju, jv, dQ, jw, h1, h2, o5⟩ := hI_
      obtain ⟨cR, c3, b5, lf, pr, hI⟩ := cT m6 (cF m7 h1)
      obtain ⟨kA, k7, nk, e0, qt, dI, j9, kU, dx⟩ := sP (P := Tryz.prog) (cb := cZ) 3 KI [] [M, B, r0 p cB, r0 r ah, r0 b aE, h, v, l, m, r0 x I, r0 y J] en hI ik (Sl.mono hP av av) en.fro tM ti3 rfl zo3 (by decide) (by decide) (by simpa using h9)
      have eo : Cx [e0, M, B, r0 p cB, r0 r ah, r0 b aE, h, v, l, m, r0 x I, r0 y J] := kU
      rw [List.nil_append] at dI dx
      refine UpI.val rfl rfl (j9 _ _ _ _ lf dQ) ⟨(Ctx.rO 4 eo rfl), trivial⟩ ?_
      exact ⟨kA, k7, nk, e0, aq, au, af, M, eo, jp, jq, jr, js, jt, ju, jv, dQ, jw, (iT rfl ⟨rfl, dI, dx⟩), h2, (iF m8 trivial)⟩
     ·intro L_ a aB hk_ hI_
      obtain ⟨qi, m9, _⟩ := hk_
      obtain ⟨ac, ad, X, L, aq, au, af, M, kV, jx, jy, jz, jA, jB, jC, jD, jE, jF, h3, pb, hy⟩ := hI_
      obtain ⟨kB, k8, nl, e1, qu, ir, ka, ep, hM⟩ := yC (P := Tryz.prog) 3 KI kV tM ti3
      refine UpI.val rfl rfl (ka _ _) ⟨(Ctx.rO 5 ep rfl), trivial⟩ ?_
      have kW : Cx [L, e1, B, r0 p cB, r0 r ah, r0 b aE, h, v, l, m, r0 x I, r0 y J] := ep.pick [1, 0, 3, 4, 5, 6, 7, 8, 9, 10, 11, 12] rfl
      exact ⟨ac, ad, X, L, aq, au, af, e1, kW, jx, jy, jz, jA, jB, jC, jD, jE, jF, h3, (iF m9 (iT rfl ⟨kB, k8, nl, rfl, ir, hM⟩)), hy⟩
     ·intro L_ a aB hk_ hI_
      obtain ⟨na, nb, nc, _⟩ := hk_
      obtain ⟨ac, ad, X, L, aq, au, af, M, eq, jG, jH, jI, jJ, jK, jL, jM, jN, dR, dB, h4, hz⟩ := hI_
      obtain ⟨pU, co, ck⟩ := cT na dB
      obtain ⟨cS, c4, b6, lg, ps, hJ⟩ := cT nb (cF nc h4)
      obtain ⟨kC, k9, nm, e2, qv, dJ, kb, kX, dy⟩ := sP (P := Tryz.prog) (cb := c1) 3 KI [L] [B, r0 p cB, r0 r ah, r0 b aE, h, v, l, m, r0 x I, r0 y J] eq hJ il (Sl.mono hQ av av) eq.fro tM ti3 rfl zo3 (by decide) (by decide) (by simpa using ia)
      have er : Cx [L, e2, B, r0 p cB, r0 r ah, r0 b aE, h, v, l, m, r0 x I, r0 y J] := kX
      rw [List.nil_append] at dJ dy
      refine UpI.val rfl rfl (kb _ _ _ _ lg dR) ⟨(Ctx.rO 4 er rfl), trivial⟩ ?_
      exact ⟨ac, ad, X, L, kC, k9, nm, e2, er, jG, jH, jI, jJ, jK, jL, jM, jN, dR, dB, (iT rfl ⟨rfl, dJ, dy⟩), hz⟩
     ·intro L_ a aB hk_ hI_
      obtain ⟨qj, nd, qk, _⟩ := hk_
      obtain ⟨ac, ad, X, L, aq, au, af, M, es, jO, jP, jQ, dS, jR, jS, jT, jU, jV, dC, h5, o6⟩ := hI_
      obtain ⟨pV, co, ck⟩ := cT nd dC
      refine UpI.val rfl rfl (Yl.fieldAddr (i := 5) dS xG rfl AX) ⟨(Ctx.rO 4 es rfl), trivial⟩ ?_
      exact ⟨ac, ad, X, L, aq, au, af, M, es, jO, jP, jQ, dS, jR, jS, jT, jU, jV, dC, h5, (iT rfl rfl)⟩
     ·rintro a aB ⟨ac, ad, X, L, aq, au, af, M, kY, jW, jX, dT, cr, jY, jZ, j0, pA, pB, h6, h7, hA⟩
      obtain ⟨lh, co, ck⟩ := cT rfl h6
      obtain ⟨li, ip, hK⟩ := cT rfl h7
      have lj := cT rfl hA
      obtain ⟨qw, kc, kZ⟩ := vH (P := Tryz.prog) (ps1 := [L, M, B]) (ps2 := [r0 r ah, r0 b aE, h, v, l, m, r0 x I, r0 y J]) (t := 47) 5 [.slice ac X ad] (.slice ac X ad) kY rfl rfl (rR rfl) AX
      let pH : LV := (bT.q (G.Jobs.getD s.toNat bT.z) ap ae ar ac X ad none 0 0 none 0 0 none 0 0)
      have et : Cx [L, M, B, r0 p pH, r0 r ah, r0 b aE, h, v, l, m, r0 x I, r0 y J] := kZ
      refine WA.up1 9 (by kernel_rfl) (Up.skip rfl rfl (kc _ _ _ _ lj lh) ⟨trivial, trivial⟩ ?_)
      refine WA.sZ [(10, none)] ⟨(Ctx.rO 4 et rfl), trivial⟩ (by kernel_rfl) <| WT.val rfl (fun _ hC_ => Yl.fieldAddr (i := 6) (by exact cr) xG rfl AX) ?_
      refine WT.done ?_
      obtain ⟨qx, kd, k0⟩ := vH (P := Tryz.prog) (ps1 := [L, M, B]) (ps2 := [r0 r ah, r0 b aE, h, v, l, m, r0 x I, r0 y J]) (t := 47) 6 [.slice aq af au] (.slice aq af au) et rfl rfl (rR rfl) AX
      let kr : LV := (bT.q (G.Jobs.getD s.toNat bT.z) ap ae ar ac X ad aq af au none 0 0 none 0 0)
      have k1 : Cx [L, M, B, r0 p kr, r0 r ah, r0 b aE, h, v, l, m, r0 x I, r0 y J] := k0
      refine WA.up1 11 (by kernel_rfl) (Up.skip rfl rfl (kd _ _ _ _ rfl li) ⟨trivial, trivial⟩ ?_)
      refine WA.done (by kernel_rfl) <| W.sr rfl ?_
      obtain ⟨pQ, pS, ql, qm, qy, pu, ke, cW, hN⟩ := yC (P := Tryz.prog) 5 KB k1 tG ti5
      refine WL.val (ke _ _) <| WL.val (Yl.fieldAddr (i := 8) dT xG rfl AP) <| WL.lv cW 5 8 rfl rfl tG rfl rfl ?_
      obtain ⟨ib, A⟩ := rV A
      obtain ⟨cU, c5, de, b7, qz, dK, kf, k2, dz⟩ := sP (P := Tryz.prog) (cb := ex) 5 KB [] [L, M, B, r0 p kr, r0 r ah, r0 b aE, h, v, l, m, r0 x I, r0 y J] cW hN im (Sl.mono hS av av) cW.fro tG ti5 rfl zo5 (by decide) (by decide) (by simpa using ib)
      have k3 : Cx [b7, L, M, B, r0 p kr, r0 r ah, r0 b aE, h, v, l, m, r0 x I, r0 y J] := k2
      rw [List.nil_append] at dK dz
      refine WL.val (kf _ _ _ _ rfl rfl) <| WL.val (Yl.fieldAddr (i := 8) cr xG rfl AP) ?_
      let no : LV := (bT.q (G.Jobs.getD s.toNat bT.z) ap ae ar ac X ad aq af au none 0 0 cU de c5)
      refine WL.st k3 4 8 [.slice cU de c5] rfl rfl rfl rfl (Put.lit 8 rfl) (rR rfl) AP fun aB (eu : Cx [b7, L, M, B, r0 p no, r0 r ah, r0 b aE, h, v, l, m, r0 x I, r0 y J]) => ?_
      refine WL.done <| W.seq <| W.sr rfl <| WL.val (Yl.fieldAddr (i := 7) dT xG rfl FW) <| WL.lv eu 5 7 rfl rfl wD rfl rfl <| WL.ln (((G.Jobs.getD s.toNat bT.z).rI).length : Int) rfl wD (by omega) <| WL.rd to 1 rfl ?_
      obtain ⟨U, R, A⟩ := rE A
      refine W.vG (fun a aB => ∃ aK bh bo a4 cy bi bp a5 bX bj bq a6 bu bk br a7 ba bl bs a8 aY, Kn a [(2, pt x), (3, pt b), (6, pt p), (25, .slice dk b3 cX), (26, iv (G.Jobs.length : Int)), (27, iv s)] ∧ Ctx w F D aB aK [r0 p (bT.q U bh a4 bo bi a5 bp bj a6 bq bk a7 br bl a8 bs), cy, bX, bu, ba, aY, r0 r ah, r0 b aE, h, v, l, m, r0 x I, r0 y J] ∧ CH.le V aK ∧ oW KB aK cy bh a4 bo U.Payload (oW KI aK bX bi a5 bp U.Workers (oW KI aK bu bj a6 bq U.Indexes (oW rA.K aK ba bk a7 br U.rI (a8 = U.Value.length ∧ Row KB aK aY (.slice bl a8 bs) U.Value))))) ?_ ?_
      ·refine W.block ?_
       have gR : Cx [r0 p no, B, L, M, CH.emp, b7, r0 r ah, r0 b aE, h, v, l, m, r0 x I, r0 y J] := eu.pick [4, 3, 1, 2, 13, 0, 5, 6, 7, 8, 9, 10, 11, 12] rfl
       refine W.loop (fun d7 a aB => ∃ (aA : Int) (E : bT), ∃ aI aQ aU aL aw aR aV aM ax aS aW aN ay bm bt a9 aP aT aX aO az, Kn a [(2, pt x), (3, pt b), (6, pt p), (25, .slice dk b3 cX), (26, iv (G.Jobs.length : Int)), (27, iv s), (60, .slice ed eW ew), (61, iv (((G.Jobs.getD s.toNat bT.z).rI).length : Int)), (62, iv aA)] ∧ Ctx w F D aB aI [r0 p (bT.q E aQ aL aU aR aM aV aS aN aW bm a9 bt aT aO aX), aw, ax, ay, aP, az, r0 r ah, r0 b aE, h, v, l, m, r0 x I, r0 y J] ∧ CH.le V aI ∧ bT.oS aI E aQ aL aU aw aR aM aV ax aS aN aW ay bm a9 bt aP aT aO aX az (tF.l2 d7 G s aA E = some U)) eQ ⟨0, (⟨(G.Jobs.getD s.toNat bT.z).Payload, (G.Jobs.getD s.toNat bT.z).State, (G.Jobs.getD s.toNat bT.z).Attempt, (G.Jobs.getD s.toNat bT.z).Epoch, (G.Jobs.getD s.toNat bT.z).Until, (G.Jobs.getD s.toNat bT.z).Workers, (G.Jobs.getD s.toNat bT.z).Indexes, ([] : List rA), (G.Jobs.getD s.toNat bT.z).Value⟩ : bT), V, ap, ar, ae, B, ac, ad, X, L, aq, au, af, M, none, 0, 0, CH.emp, cU, c5, de, b7, (.c jW (.c jX (.c cr (.c jY (.c jZ (.c j0 (.c rfl (.c rfl (.c rfl .n))))))))), gR, (CH.le_refl _), dG, dv, co, ck, ip, hK, rfl, (Row.nil _ _), dK, dz, R⟩ ?_
       clear R
       rintro d7 a aB ⟨aA, E, aI, aQ, aU, aL, aw, aR, aV, aM, ax, aS, aW, aN, ay, bm, bt, a9, aP, aT, aX, aO, az, gy, ca, aG, cL, cE, cM, cG, cN, cH, gr, cI, cO, cJ, R⟩
       rcases d7 with _ | kg
       · exact absurd R (by simp [tF.l2])
       rw [tF.l2] at R
       have fa := Row.mono cg aG
       have fb := Row.mono ch aG
       have fc := Row.mono ci aG
       have fd := Row.mono cj aG
       apply ks a gy
       refine W.sr rfl <| WL.rd to 1 rfl <| W.seq ?_
       rcases rT R with ⟨b2, R⟩ | ⟨b2, R⟩
       ·refine W.cT b2 rfl <| W.skip <| W.seq <| W.block <| W.sr rfl ?_
        obtain ⟨oJ, R⟩ := rV R
        obtain ⟨oY, oN, e4, f9⟩ := hR (by omega)
        refine WL.val (Yl.rW (i := aA) rfl rfl e4 wD yM (by omega)) ?_
        obtain ⟨oE, gz, gA⟩ := f9 aA.toNat _ (getD_some (d := rA.z) (by omega))
        obtain ⟨gP, dp, ki, rfl, gs, oK, oL, fZ⟩ := rA.open gz
        let kt : LV := [iv ((((G.Jobs.getD s.toNat bT.z).rI).getD aA.toNat rA.z).Worker), .slice gP ki dp]
        refine WL.val (Yl.wC (cs := kt) rfl Bq rfl yM (fun j u hu => by rw [vL]; exact ((ca.fro.mono (CH.le_trans av aG))).cell (gA _ _ hu))) ?_
        obtain ⟨ht, pI, gB, gS⟩ := sU (P := Tryz.prog) (e := 96) [iv 0, .slice none 0 0] ca CU rfl
        refine WL.val (gB _ _) ?_
        let cA : LV := bT.q E aQ aL aU aR aM aV aS aN aW bm a9 bt aT aO aX
        let b1 : CH := r0 ht kt
        refine WL.st gS 0 0 kt rfl rfl rfl rfl (Put.lit 0 rfl) (rR rfl) yM fun aB (gT : Cx [b1, r0 p cA, aw, ax, ay, aP, az, r0 r ah, r0 b aE, h, v, l, m, r0 x I, r0 y J]) => ?_
        refine WL.done <| W.uF [([10, 12], r0 p cA), ([9, 10, 12], b1)] (by kernel_rfl) ?_
        have cc := Ctx.drewN gT 1
        refine WA.sZ [(0, none), (1, some 0), (2, none), (3, some 1), (5, none), (6, some 1)] ⟨(Ctx.rO 1 cc rfl), (Ctx.rO 0 cc rfl), trivial⟩ (by kernel_rfl) <| WT.run to 1 rfl <| WT.lv 7 rfl rfl rfl wD rfl rfl <| WT.run to 1 rfl <| WT.lv 0 rfl rfl rfl u_3 rfl rfl <| WT.run to 1 rfl <| WT.lv 1 rfl rfl rfl tG rfl rfl <| WT.done ?_
        obtain ⟨oO, oZ, pC, pG, pJ, oM, gC, bO, fe⟩ := yC (P := Tryz.prog) 5 KB cc tG ti5
        refine WA.up1 4 (by kernel_rfl) (Up.val rfl rfl rfl (gC _ _) ⟨(Ctx.rO 2 bO rfl), (Ctx.rO 1 bO rfl), trivial⟩ ?_)
        obtain ⟨f6, R⟩ := rV R
        obtain ⟨df, dq, dU, kj, pK, cP, gD, gU, cK⟩ := sP (P := Tryz.prog) (cb := dp) 5 KB [] [b1, r0 p cA, aw, ax, ay, aP, az, r0 r ah, r0 b aE, h, v, l, m, r0 x I, r0 y J] bO fe gs (Sl.mono fZ (CH.le_trans av aG) (CH.le_trans av aG)) bO.fro tG ti5 rfl zo5 (by decide) (by decide) (by simpa using f6)
        have bn : Cx [kj, b1, r0 p cA, aw, ax, ay, aP, az, r0 r ah, r0 b aE, h, v, l, m, r0 x I, r0 y J] := gU
        rw [List.nil_append] at cP cK
        refine WA.up1 7 (by kernel_rfl) (Up.val rfl rfl rfl (gD _ _ _ _ rfl rfl) ⟨(Ctx.rO 2 bn rfl), (Ctx.rO 1 bn rfl), trivial⟩ ?_)
        refine WA.sZ [(8, none)] ⟨(Ctx.rO 2 bn rfl), (Ctx.rO 1 bn rfl), trivial⟩ (by kernel_rfl) ?_
        let np : LV := [iv ((((G.Jobs.getD s.toNat bT.z).rI).getD aA.toNat rA.z).Worker), .slice df dU dq]
        refine WT.val rfl (fun _ hC_ => Yl.build (places := [(0, 1), (1, 1)]) (cs := List.toArray np) Bq CU (G5 _ Bq) (uV (.cons rfl (.cons rfl .nil))) rfl) ?_
        refine WT.done ?_
        obtain ⟨hm, aC, gJ, (gV : Cx [b1, r0 p cA, aw, ax, ay, aP, az, r0 r ah, r0 b aE, h, v, l, m, r0 x I, r0 y J])⟩ := Ctx.fzI 0 bn rfl
        obtain ⟨ga, gg, f0⟩ := Row.fz cK aC gJ
        have ff := Row.mono cI aC
        have oF := Row.mono fa aC
        have oG := Row.mono fb aC
        have oH := Row.mono fc aC
        have oI := Row.mono fd aC
        have fg := Row.mono cE aC
        have fh := Row.mono cG aC
        have fi := Row.mono cH aC
        have fj := Row.mono cJ aC
        obtain ⟨oP, ho, pD, bY, pL, gt, gE, cd, fk⟩ := uO (P := Tryz.prog) 96 rA.K gV wD Ec ⟨by decide, by decide⟩ (⟨(((G.Jobs.getD s.toNat bT.z).rI).getD aA.toNat rA.z).Worker, (((G.Jobs.getD s.toNat bT.z).rI).getD aA.toNat rA.z).Value⟩ : rA) (.agg (List.toArray np)) (rA.mk' _ (⟨(((G.Jobs.getD s.toNat bT.z).rI).getD aA.toNat rA.z).Worker, (((G.Jobs.getD s.toNat bT.z).rI).getD aA.toNat rA.z).Value⟩ : rA) df dq dU cP ga gg f0)
        refine WA.up1 9 (by kernel_rfl) (Up.val rfl rfl rfl (gE _ _ _ rfl) ⟨(Ctx.rO 2 cd rfl), trivial, trivial⟩ ?_)
        obtain ⟨f7, R⟩ := rV R
        obtain ⟨bI, bP, bW, bv, pM, gu, gF, gW, fl⟩ := sP (P := Tryz.prog) (cb := ho) 96 rA.K [bY, b1, r0 p cA, aw, ax, ay] [az, r0 r ah, r0 b aE, h, v, l, m, r0 x I, r0 y J] cd ff gt (Row.sl fk) (Ctx.rO 0 cd rfl) wD Ec rfl Hi (by decide) (by decide) (by simpa using f7)
        have ce : Cx [bY, b1, r0 p cA, aw, ax, ay, bv, az, r0 r ah, r0 b aE, h, v, l, m, r0 x I, r0 y J] := gW
        refine WA.up1 10 (by kernel_rfl) (Up.val rfl rfl rfl (gF _ _ _ _ rfl rfl) ⟨trivial, trivial, trivial⟩ ?_)
        refine WA.sZ [(11, none)] ⟨(Ctx.rO 2 ce rfl), (Ctx.rO 1 ce rfl), trivial⟩ (by kernel_rfl) <| WT.run to 1 rfl <| WT.done ?_
        obtain ⟨pN, gG, gX⟩ := vH (P := Tryz.prog) (ps1 := [bY, b1]) (ps2 := [aw, ax, ay, bv, az, r0 r ah, r0 b aE, h, v, l, m, r0 x I, r0 y J]) (t := 61) 7 [.slice bI bW bP] (.slice bI bW bP) ce rfl rfl (rR rfl) FW
        let nq : LV := bT.q E aQ aL aU aR aM aV aS aN aW bI bW bP aT aO aX
        have gY : Cx [bY, b1, r0 p nq, aw, ax, ay, bv, az, r0 r ah, r0 b aE, h, v, l, m, r0 x I, r0 y J] := gX
        refine WA.up1 12 (by kernel_rfl) (Up.skip rfl rfl (gG _ _ _ _ rfl rfl) ⟨trivial, trivial, trivial⟩ ?_)
        refine WA.done (by kernel_rfl) <| tH <| W.region rfl ?_
        refine WL.rd to 2 rfl ?_
        have gZ : Cx [r0 p nq, aw, ax, ay, bv, az, r0 r ah, r0 b aE, h, v, l, m, r0 x I, r0 y J] := gY.pick [2, 3, 4, 5, 6, 7, 8, 9, 10, 11, 12, 13, 14, 15] rfl
        exact rF ⟨kg, Nat.lt_succ_self _, rB (aA + 1), (⟨E.Payload, E.State, E.Attempt, E.Epoch, E.Until, E.Workers, E.Indexes, E.rI ++ [(⟨(((G.Jobs.getD s.toNat bT.z).rI).getD aA.toNat rA.z).Worker, (((G.Jobs.getD s.toNat bT.z).rI).getD aA.toNat rA.z).Value⟩ : rA)], E.Value⟩ : bT), hm, aQ, aU, aL, aw, aR, aV, aM, ax, aS, aW, aN, ay, bI, bP, bW, bv, aT, aX, aO, az, rfl, gZ, (CH.le_trans aG aC), cL, fg, cM, fh, cN, fi, gu, fl, cO, fj, R⟩
       refine W.cF b2 rfl <| W.exit <| rM <| rM <| sL ?_
       cases R
       refine rF ?_
       exact ⟨aI, aQ, aU, aL, aw, aR, aV, aM, ax, aS, aW, aN, ay, bm, bt, a9, aP, aT, aX, aO, az, rfl, ca, aG, cL, cE, cM, cG, cN, cH, gr, cI, cO, cJ⟩
      ·rintro a aB ⟨aK, bh, bo, a4, cy, bi, bp, a5, bX, bj, bq, a6, bu, bk, br, a7, ba, bl, bs, a8, aY, gx, b9, a3, gm, e5, gn, e6, go, e7, gp, e8, gq, e9⟩
       have fm := Row.mono cg a3
       have fo := Row.mono ch a3
       have fp := Row.mono ci a3
       have fq := Row.mono cj a3
       apply ks a gx
       refine W.region rfl ?_
       refine WL.run to 1 rfl <| WL.lv b9 7 1 rfl rfl wY rfl rfl <| WL.la b9 0 rfl rfl xG rfl yN ?_
       let b0 : LV := bT.q U bh a4 bo bi a5 bp bj a6 bq bk a7 br bl a8 bs
       obtain ⟨oT, aF, gK, (g0 : Cx [r0 p b0, bX, bu, ba, aY, r0 r ah, r0 b aE, h, v, l, m, r0 x I, r0 y J])⟩ := Ctx.fzI 1 b9 rfl
       obtain ⟨gb, gh, f1⟩ := Row.fz e5 aF gK
       have fs := Row.mono fo aF
       have ft := Row.mono e6 aF
       have fu := Row.mono e7 aF
       have fv := Row.mono e8 aF
       have fw := Row.mono e9 aF
       have fx := Row.mono fm aF
       have fy := Row.mono fp aF
       have fA := Row.mono fq aF
       obtain ⟨oU, aD, gL, (g1 : Cx [r0 p b0, bu, ba, aY, r0 r ah, r0 b aE, h, v, l, m, r0 x I, r0 y J])⟩ := Ctx.fzI 1 g0 rfl
       obtain ⟨gc, gi, f2⟩ := Row.fz ft aD gL
       have fB := Row.mono fs aD
       have fC := Row.mono fu aD
       have fD := Row.mono fv aD
       have fE := Row.mono fw aD
       have fF := Row.mono fx aD
       have fG := Row.mono fy aD
       have fH := Row.mono fA aD
       obtain ⟨oV, ao, gM, (g2 : Cx [r0 p b0, ba, aY, r0 r ah, r0 b aE, h, v, l, m, r0 x I, r0 y J])⟩ := Ctx.fzI 1 g1 rfl
       obtain ⟨gd, gj, f3⟩ := Row.fz fC ao gM
       have fI := Row.mono fB ao
       have fJ := Row.mono fD ao
       have fK := Row.mono fE ao
       have fL := Row.mono fF ao
       have fM := Row.mono fG ao
       have fN := Row.mono fH ao
       obtain ⟨oX, Y, gN, (g3 : Cx [r0 p b0, aY, r0 r ah, r0 b aE, h, v, l, m, r0 x I, r0 y J])⟩ := Ctx.fzI 1 g2 rfl
       obtain ⟨ge, gk, f4⟩ := Row.fz fJ Y gN
       have fO := Row.mono fI Y
       have fP := Row.mono fK Y
       have fQ := Row.mono fL Y
       have fR := Row.mono fM Y
       have fS := Row.mono fN Y
       obtain ⟨hn, T, gO, (g4 : Cx [r0 p b0, r0 r ah, r0 b aE, h, v, l, m, r0 x I, r0 y J])⟩ := Ctx.fzI 1 g3 rfl
       obtain ⟨gf, gl, f5⟩ := Row.fz fP T gO
       have fT := Row.mono fO T
       have fU := Row.mono fQ T
       have fV := Row.mono fR T
       have fW := Row.mono fS T
       obtain ⟨oQ, hq, pE, cz, pO, gv, gH, dl, fX⟩ := uO (P := Tryz.prog) 63 bT.K g4 wY FF ⟨by decide, by decide⟩ U (.agg (List.toArray b0)) (bT.mk' _ U bh bo a4 bi bp a5 bj bq a6 bk br a7 bl bs a8 gm gb gh (Sl.mono f1 (CH.le_trans aD (CH.le_trans ao (CH.le_trans Y T))) (CH.le_trans aD (CH.le_trans ao (CH.le_trans Y T)))) gn gc gi (Sl.mono f2 (CH.le_trans ao (CH.le_trans Y T)) (CH.le_trans ao (CH.le_trans Y T))) go gd gj (Sl.mono f3 (CH.le_trans Y T) (CH.le_trans Y T)) gp ge gk (Sl.mono f4 T T) gq gf gl f5)
       refine WL.val (gH _ _ _ rfl) ?_
       obtain ⟨f8, A⟩ := rV A
       obtain ⟨b8, cf, ct, bZ, pP, gw, gI, g5, fY⟩ := sP (P := Tryz.prog) (cb := hq) 63 bT.K [cz, r0 p b0, r0 r ah, r0 b aE, h] [l, m, r0 x I, r0 y J] dl fT gv (Row.sl fX) (Ctx.rO 0 dl rfl) wY FF rfl I9 (by decide) (by decide) (by simpa using f8)
       have g6 : Cx [cz, r0 p b0, r0 r ah, r0 b aE, h, bZ, l, m, r0 x I, r0 y J] := g5
       refine WL.val (gI _ _ _ _ rfl rfl) <| WL.run to 1 rfl ?_
       let nr : LV := bF.q ag bb a0 be b8 ct cf bc a1 bf bd a2 bg
       refine WL.st g6 3 1 [.slice b8 ct cf] rfl rfl rfl rfl (Put.lit 1 rfl) (rR rfl) Ii fun aB (g7 : Cx [cz, r0 p b0, r0 r ah, r0 b nr, h, bZ, l, m, r0 x I, r0 y J]) => ?_
       refine WL.done <| tH <| W.region rfl ?_
       refine WL.rd to 2 rfl ?_
       have g8 : Cx [r0 b nr, h, bZ, l, m, r0 x I, r0 y J] := g7.pick [3, 4, 5, 6, 7, 8, 9] rfl
       exact rF ⟨eQ, Nat.lt_succ_self _, rB (s + 1), (⟨ag.Eras, ag.Jobs ++ [U], ag.Used, ag.Barred, ag.Heads⟩ : bF), hn, bb, be, a0, h, b8, cf, ct, bZ, bc, bf, a1, l, bd, bg, a2, m, rfl, g8, (CH.le_trans av (CH.le_trans a3 (CH.le_trans aF (CH.le_trans aD (CH.le_trans ao (CH.le_trans Y T)))))), dD, fU, gw, fY, dE, fV, dF, fW, A⟩
   refine W.cF cm rfl <| W.exit <| rM <| rM <| sL ?_
   cases A
   refine rF ?_
   exact ⟨V, bb, be, a0, h, bN, bV, bB, v, bc, bf, a1, l, bd, bg, a2, m, rfl, cV, av, dD, cg, ii, ch, dE, ci, dF, cj⟩
  ·rintro a aB ⟨aZ, bJ, bQ, bw, bC, bK, bR, bx, bD, bL, bS, bz, bE, bM, bU, bA, bG, it, ee, kh, id, hB, ie, hC, ig, hE, ih, hF⟩
   apply ks a it
   refine W.sr rfl <| WL.la ee 0 rfl rfl wJ rfl wM ?_
   let dZ : LV := bF.q aJ bJ bw bQ bK bx bR bL bz bS bM bA bU
   refine WL.st ee 5 0 dZ rfl rfl rfl rfl (Put.lit 0 rfl) (rR rfl) wM fun aB (dm : Cx [r0 b dZ, bC, bD, bE, bG, r0 x dZ, r0 y J]) => ?_
   refine WL.done <| W.ret ?_
   have g9 : Cx [bC, bD, bE, bG] := dm.pick [1, 2, 3, 4] rfl
   have hr := Option.some.inj H
   subst hr
   exact rH (BU rfl ((.cell rfl (tS (g := x) (off := 0) (o := 0) (cs := dZ) (us := dZ) wJ rfl wM (Ctx.rO 5 dm rfl) rfl) .nil))) ⟨aZ, bJ, bQ, bw, bC, bK, bR, bx, bD, bL, bS, bz, bE, bM, bU, bA, bG, rfl, kh, g9, id, hB, ie, hC, ig, hE, ih, hF⟩
def xY.f (k : Nat) (a : (List bT × Int)) : Option (List bT) := (some (a.1.set a.2.toNat (⟨(a.1.getD a.2.toNat bT.z).Payload, 1, (a.1.getD a.2.toNat bT.z).Attempt, 0, 0, ([] : List Int), ([] : List Int), ([] : List rA), ([] : List Int)⟩ : bT))).bind fun b => some b
theorem xY.calls (k w F E Y l m) (a : (List bT × Int)) (hp : Pre w F [m]) (aa : l = a.1.length) (R : Row bT.K F m (.slice E l Y) a.1) (Z : 0 ≤ a.2 ∧ a.2 < (a.1.length : Int)) (B : List bT) (H : xY.f k a = some B) :
    Calls Tryz.prog 77 #[elp E l 9 a.2] w fun e w' => ∃ F' A, e = .returned (.tuple #[]) ∧ CH.le F F' ∧ Ctx w F (sR [m]) w' F' [A] ∧ l = B.length ∧ Row bT.K F' A (.slice E l Y) B := by
 have C := Ctx.start hp
 generalize hD : sR [m] = D at C ⊢
 unfold xY.f at H
 refine Calls.ofW Tryz.func77 rfl (by simp [Tryz.ntmps77]) ?_
 obtain ⟨s, g, x, V⟩ := (Row.sl R) (by omega)
 have u : elp E l 9 a.2 = .pointer (some ⟨s, g + a.2.toNat * 9, none⟩) := B0 x Z aa
 refine W.uF [([11], m)] (by kernel_rfl) ?_
 have Q := Ctx.drewN C 1
 refine WA.sZ [(0, none), (1, none), (2, none), (3, none), (4, some 0), (5, none), (6, none), (7, none), (8, some 0), (9, none), (10, none)] ⟨(Ctx.rO 0 Q rfl), trivial⟩ (by kernel_rfl) <| WT.val rfl (fun _ hC_ => Yl.move (v := .pointer (some ⟨s, g + a.2.toNat * 9, none⟩)) (by exact u)) ?_
 refine WT.val rfl (fun _ hC_ => Yl.move (v := .pointer (some ⟨s, g + a.2.toNat * 9, none⟩)) (by exact u)) ?_
 refine WT.run to 2 rfl ?_
 obtain ⟨ab, N, r⟩ := V a.2.toNat _ (getD_some (d := bT.z) (by omega))
 obtain ⟨h, i, j, av, az, aD, aw, aA, aE, ax, aB, aF, ay, aC, aG, rfl, M, J, L, G, ao, ag, ak, ac, ap, ah, al, ad, aq, ai, am, ae, ar, aj, an, af⟩ := bT.open N
 refine WT.val rfl (fun _ hC_ => Yl.load (v := .slice h j i) rfl tG rfl (((show Sub m _ from hC_)).cell (r 0 _ rfl))) ?_
 refine WT.val rfl (fun _ hC_ => Yl.move (v := .pointer (some ⟨s, g + a.2.toNat * 9, none⟩)) (by exact u)) ?_
 refine WT.run to 2 rfl <| WT.val rfl (fun _ hC_ => Yl.load (v := iv ((a.1.getD a.2.toNat bT.z).Attempt)) rfl u_3 rfl (((show Sub m _ from hC_)).cell (r 2 _ rfl))) ?_
 let X : LV := [.slice h j i, iv 1, iv ((a.1.getD a.2.toNat bT.z).Attempt), iv 0, iv 0, .slice none 0 0, .slice none 0 0, .slice none 0 0, .slice none 0 0]
 refine WT.val rfl (fun _ hC_ => Yl.build (places := [(0, 1), (1, 1), (2, 1), (3, 1), (4, 1), (5, 1), (6, 1), (7, 1), (8, 1)]) (cs := List.toArray X) xG Cv (IK _ xG) (uV (.cons rfl (.cons rfl (.cons rfl .nil)))) rfl) ?_
 refine WT.run to 1 rfl <| WT.done ?_
 have I : a.2.toNat < a.1.length := by first | omega | (simp only [List.length_set, List.length_replicate] at *; omega)
 obtain ⟨y, aH, O, S, o⟩ := zD (P := Tryz.prog) (t := 63) bT.K [] [] Q R x a.2.toNat 0 I bT.z (.agg (List.toArray X)) (X) rfl (rR rfl) (Nat.le_of_ble_eq_true rfl) yN ((⟨(a.1.getD a.2.toNat bT.z).Payload, 1, (a.1.getD a.2.toNat bT.z).Attempt, 0, 0, ([] : List Int), ([] : List Int), ([] : List rA), ([] : List Int)⟩ : bT)) (fun _ h_ => Ah h_ (bT.mk' _ (⟨(a.1.getD a.2.toNat bT.z).Payload, 1, (a.1.getD a.2.toNat bT.z).Attempt, 0, 0, ([] : List Int), ([] : List Int), ([] : List rA), ([] : List Int)⟩ : bT) h i j none 0 0 none 0 0 none 0 0 none 0 0 M J L G rfl (Nat.le_refl _) (Nat.zero_le _) (Sl.nil _ _ _ _) rfl (Nat.le_refl _) (Nat.zero_le _) (Sl.nil _ _ _ _) rfl (Nat.le_refl _) (Nat.zero_le _) (Sl.nil _ _ _ _) rfl (Nat.le_refl _) (Nat.zero_le _) (Sl.nil _ _ _ _))) ⟨s, g + a.2.toNat * 9, none⟩ rfl
 have p : l = (a.1.set a.2.toNat (⟨(a.1.getD a.2.toNat bT.z).Payload, 1, (a.1.getD a.2.toNat bT.z).Attempt, 0, 0, ([] : List Int), ([] : List Int), ([] : List rA), ([] : List Int)⟩ : bT)).length := by rw [List.length_set]; omega
 obtain ⟨au, b, H⟩ := rE H
 replace b := Option.some.inj b
 rw [b] at o p
 have T : Cx [y] := S
 refine WA.up1 11 (by kernel_rfl) (Up.skip rfl rfl (O _ _ _ _ rfl rfl) ⟨trivial, trivial⟩ ?_)
 refine WA.done (by kernel_rfl) ?_
 have U := Option.some.inj H
 subst U
 exact B2 (DU rfl ) ⟨F, y, rfl, (CH.le_refl _), T, p, o⟩
def vN.f (k : Nat) (b : sF) (a : rD) : Option (Int × Int) := (sV.f k a.Job 1 (b.State.Jobs.length : Int)).bind fun d => if d = true then (if 0 ≤ (rB (a.Job - 1)) ∧ (rB (a.Job - 1)) < (b.State.Jobs.length : Int) then (some (rB (a.Job - 1), 0)) else none) else (some ((-1), 211))
theorem vN.calls (k w F R S X Q ad b h j B s M E x N) (a : sF) (G y O) (d : rD) (hp : Pre w F []) (aN : ad = a.State.Eras.length) (aL : a.State.Eras.length ≤ Q) (aM : Q ≤ maxLen) (aK : Sl sD.K F F X a.State.Eras) (ab : j = a.State.Jobs.length) (ay : a.State.Jobs.length ≤ h) (aC : h ≤ maxLen) (Y : Sl bT.K F F b a.State.Jobs) (aG : M = a.State.Used.length) (az : a.State.Used.length ≤ s) (aD : s ≤ maxLen) (au : Sl KI F F B a.State.Used) (aH : N = a.State.Barred.length) (aA : a.State.Barred.length ≤ x) (aE : x ≤ maxLen) (av : Sl Kd.bool F F E a.State.Barred) (L : CH.le (CH.row R S (sF.q a X ad Q b j h B M s E N x)) F) (J : d.Nonce.length = 32) (aI : O = d.Data.length) (aB : d.Data.length ≤ y) (aF : y ≤ maxLen) (aw : Sl KB F F G d.Data) (T : Int) (U : Int) (H : vN.f k a d = some (T, U)) :
    Calls Tryz.prog 79 #[.pointer (some ⟨R, S, none⟩), .agg (List.toArray ((rD.q d G O y)))] w fun e w' => e = .returned (.tuple #[(elp b j 9 T), (iv U)]) ∧ Ctx w F (sR []) w' F [] := by
 have C := Ctx.start hp
 generalize hD : sR [] = D at C ⊢
 unfold vN.f at H
 refine Calls.ofW Tryz.func79 rfl (by simp [Tryz.ntmps79]) <| W.sr rfl ?_
 let aq : LV := rD.q d G O y
 obtain ⟨aJ, aO, ac, p⟩ := uR (P := Tryz.prog) 26 (.agg (List.toArray aq)) aq C rfl
 refine WL.val (ac _ _ _ rfl) <| WL.rd to 2 rfl <| W.seq <| W.seq <| W.tY (by kernel_rfl) (by kernel_rfl) rfl ?_
 refine WQ.run to 1 rfl <| WQ.lv p 0 35 rfl rfl u_3 rfl (tQ 2 33 rfl (tQ 32 1 (rL J) rfl)) <| WQ.run to 4 rfl ?_
 let ar : LV := sF.q a X ad Q b j h B M s E N x
 refine WQ.vl (fun _ => Yl.Ad (g := R) (off := S) (o := 8) (cs := ar) (v := .slice b j h) rfl wY rfl (Sub.mono ((p.drewN _).fro) L) rfl) ?_
 refine WQ.vl (fun _ => Yl.Bw (A := b) (l := j) (q := h) (n := (a.State.Jobs.length : Int)) rfl wY (by omega)) ?_
 obtain ⟨V, aa, H⟩ := rE H
 refine WQ.call (v := .bool V) (f := 50) (args := #[iv d.Job, iv 1, iv (a.State.Jobs.length : Int)]) (fun _ hw => by obtain ⟨_, rfl⟩ := hw; exact (ne.fr rfl rfl)) (fun _ hw => by obtain ⟨ap, rfl⟩ := hw; exact (sV.calls k _ F d.Job 1 (a.State.Jobs.length : Int) (p.drewN ap).tX  V aa).mono (fun _ _ ⟨he, m_, hm_⟩ => ⟨he, ap + m_, by rw [hm_, World.drewN_drewN]⟩)) ?_
 refine WQ.run to 1 rfl <| WQ.done (fun ae => ?_)
 have r := Ctx.drewN p ae
 rcases rT H with ⟨m, H⟩ | ⟨m, H⟩
 ·refine W.uD (cb (zP m)) <| W.skip <| W.seq <| W.tY (by kernel_rfl) (by kernel_rfl) rfl ?_
  refine WQ.run to 4 rfl <| WQ.vl (fun _ => Yl.Ad (g := R) (off := S) (o := 8) (cs := ar) (v := .slice b j h) rfl wY rfl (Sub.mono ((r.drewN _).fro) L) rfl) ?_
  refine WQ.run to 1 rfl <| WQ.lv r 0 35 rfl rfl u_3 rfl (tQ 2 33 rfl (tQ 32 1 (rL J) rfl)) <| WQ.run to 1 rfl ?_
  obtain ⟨Z, H⟩ := rV H
  obtain ⟨ak, ag, I, ax⟩ := Y (by omega)
  refine WQ.vl (fun _ => Yl.rW (i := rB (d.Job - 1)) rfl rfl I wY yN (by omega)) ?_
  refine WQ.run to 2 rfl <| WQ.done (fun af => ?_)
  have ah := Ctx.drewN r af
  refine W.ret ?_
  have ai : Cx [] := ah.pick [] rfl
  obtain ⟨al, am⟩ := sp H
  subst al am
  exact rH (yI (t := 4) (u := 5) rfl ((show _ = Value.pointer (some ⟨ak, ag + (rB (d.Job - 1)).toNat * 9, none⟩) from rfl).trans (B0 (z := 9) I Z ab).symm) rfl) ⟨rfl, ai⟩
 refine W.uI (cb (zO m)) <| W.sr rfl <| WL.rd to 2 rfl <| W.ret <| rS ?_
 have aj : Cx [] := r.pick [] rfl
 obtain ⟨an, ao⟩ := sp H
 subst an ao
 exact rH (yI (t := 4) (u := 5) rfl ((show _ = Value.pointer none from rfl).trans IA.symm) rfl) ⟨rfl, aj⟩
def vO.f (k : Nat) (a : sF) : Option Int := if (a.State.Eras.length : Int) = 0 then (some 210) else (some 0)
theorem vO.calls (k w F A G u p x j d r l h s m i t) (a : sF) (hp : Pre w F []) (ad : x = a.State.Eras.length) (ab : a.State.Eras.length ≤ p) (ac : p ≤ maxLen) (aa : Sl sD.K F F u a.State.Eras) (V : r = a.State.Jobs.length) (P : a.State.Jobs.length ≤ d) (S : d ≤ maxLen) (M : Sl bT.K F F j a.State.Jobs) (X : s = a.State.Used.length) (Q : a.State.Used.length ≤ h) (T : h ≤ maxLen) (N : Sl KI F F l a.State.Used) (Y : t = a.State.Barred.length) (R : a.State.Barred.length ≤ i) (U : i ≤ maxLen) (O : Sl Kd.bool F F m a.State.Barred) (B : CH.le (CH.row A G (sF.q a u x p j r d l s h m t i)) F) (y : Int) (H : vO.f k a = some y) :
    Calls Tryz.prog 78 #[.pointer (some ⟨A, G, none⟩)] w fun e w' => e = .returned (iv y) ∧ (∃ E, w' = w.drewN E) := by
 have C := Ctx.start hp
 generalize sR [] = D at C
 have I : ∃ E, w = w.drewN E := ⟨0, rfl⟩
 unfold vO.f at H
 refine Calls.ofW Tryz.func78 rfl (by simp [Tryz.ntmps78]) <| W.sr rfl <| WL.rd to 1 rfl <| W.seq <| W.sr rfl <| WL.run to 4 rfl ?_
 let Z : LV := sF.q a u x p j r d l s h m t i
 refine WL.val (Yl.Ad (g := A) (off := G) (o := 7) (cs := Z) (v := .slice u x p) rfl wG rfl (Sub.mono (C.fro) B) rfl) <| WL.ln (a.State.Eras.length : Int) rfl wG (by omega) <| WL.rd to 1 rfl ?_
 rcases rT H with ⟨b, H⟩ | ⟨b, H⟩
 ·refine W.cT b rfl <| W.sr rfl <| WL.rd to 1 rfl <| W.ret <| rS ?_
  have J := Option.some.inj H
  subst J
  exact rH (sE rfl rfl) ⟨rfl, I⟩
 refine W.cF b rfl <| W.skip <| W.sr rfl <| WL.rd to 1 rfl <| W.ret ?_
 have L := Option.some.inj H
 subst L
 exact rH (sE rfl rfl) ⟨rfl, I⟩
def tB.l1 : Nat → sF → Int → sF → Option sF
  | 0, _, _, _ => none
  | k + 1, d, b, a => if b < (d.State.Jobs.length : Int) then (if 0 ≤ b ∧ b < (a.State.Jobs.length : Int) then (if ((a.State.Jobs.getD b.toNat bT.z).State) = 2 then ((xY.f k (a.State.Jobs, b)).bind fun e => tB.l1 k d (rB (b + 1)) (⟨a.c, (⟨a.State.Eras, e, a.State.Used, a.State.Barred, a.State.Heads⟩ : bF)⟩ : sF)) else (tB.l1 k d (rB (b + 1)) a)) else none) else (some a)
def tB.f (k : Nat) (a : sF) (b : rD) : Option (Int × sF) := (xP.f k a.State).bind fun e => if b.Epoch ≤ e then (some (210, a)) else (if (a.State.Eras.length : Int) ≥ 256 then (some (90, a)) else (if (a.State.Eras.length + 1 + (a.State.Eras.length + 1) / 4 + 192) * 40 ≤ 281474976710656 then ((tB.l1 k a 0 (⟨a.c, (⟨a.State.Eras ++ [(⟨b.Epoch, b.Nonce⟩ : sD)], a.State.Jobs, a.State.Used, a.State.Barred, a.State.Heads⟩ : bF)⟩ : sF)).bind fun d => some (0, d)) else none))
theorem tB.calls (k w F m p aU aW aR aQ aC X N s S Y O u T Z Q x) (r : sF) (bp bn bD) (J : rD) (hp : Pre w F [CH.row m p (sF.q r aU aR aW aC N X S O Y T Q Z), aQ, s, u, x]) (bC : aR = r.State.Eras.length) (aS : Row sD.K F aQ (.slice aU aR aW) r.State.Eras) (a3 : N = r.State.Jobs.length) (al : Row bT.K F s (.slice aC N X) r.State.Jobs) (a4 : O = r.State.Used.length) (am : Row KI F u (.slice S O Y) r.State.Used) (a5 : Q = r.State.Barred.length) (an : Row Kd.bool F x (.slice T Q Z) r.State.Barred) (a0 : J.Nonce.length = 32) (dw : bD = J.Data.length) (du : J.Data.length ≤ bn) (dv : bn ≤ maxLen) (dt : Sl KB F F bp J.Data) (ce : Int) (ae : sF) (H : tB.f k r J = some (ce, ae)) :
    Calls Tryz.prog 64 #[.pointer (some ⟨m, p, none⟩), .agg (List.toArray ((rD.q J bp bD bn)))] w fun e w' => ∃ F' bq bx bg bE br bz bh bG bs bA bi bH bt bB bj bI, e = .returned (iv ce) ∧ CH.le F F' ∧ Ctx w F (sR [CH.row m p (sF.q r aU aR aW aC N X S O Y T Q Z), aQ, s, u, x]) w' F' [CH.row m p (sF.q ae bq bg bx br bh bz bs bi bA bt bj bB), bE, bG, bH, bI] ∧ bg = ae.State.Eras.length ∧ Row sD.K F' bE (.slice bq bg bx) ae.State.Eras ∧ bh = ae.State.Jobs.length ∧ Row bT.K F' bG (.slice br bh bz) ae.State.Jobs ∧ bi = ae.State.Used.length ∧ Row KI F' bH (.slice bs bi bA) ae.State.Used ∧ bj = ae.State.Barred.length ∧ Row Kd.bool F' bI (.slice bt bj bB) ae.State.Barred := by
 have C := Ctx.start hp
 generalize hD : sR [CH.row m p (sF.q r aU aR aW aC N X S O Y T Q Z), aQ, s, u, x] = D at C ⊢
 unfold tB.f at H
 refine Calls.ofW Tryz.func64 rfl (by simp [Tryz.ntmps64]) <| W.sr rfl ?_
 let G : LV := rD.q J bp bD bn
 obtain ⟨j, dI, cy, cD⟩ := uR (P := Tryz.prog) 26 (.agg (List.toArray G)) G C rfl
 refine WL.val (cy _ _ _ rfl) <| WL.rd to 1 rfl <| W.seq <| W.block <| W.seq ?_
 let au : LV := sF.q r aU aR aW aC N X S O Y T Q Z
 refine W.uF [([], r0 j G), ([6], CH.row m p au)] (by kernel_rfl) ?_
 have bm := Ctx.drewN cD 1
 refine WA.sZ [(0, none), (1, some 0), (2, none), (3, none), (4, none), (5, some 1)] ⟨(Ctx.rO 0 bm rfl), (Ctx.rO 1 bm rfl), trivial⟩ (by kernel_rfl) <| WT.run to 1 rfl <| WT.lv 1 rfl rfl rfl u_3 rfl rfl <| WT.run to 3 rfl ?_
 let dC : LV := bF.q r.State aU aR aW aC N X S O Y T Q Z
 refine WT.val rfl (fun _ hC_ => Yl.xD (g := m) (off := p) (o := 7) (cs := au) (us := dC) rfl wJ rfl wM (show Sub (CH.row m p au) _ from hC_) rfl) ?_
 refine WT.done ?_
 obtain ⟨cJ, aK, ⟨cz, cA, cB, cC, _⟩, cE⟩ := Ctx.B1 [aQ, s, u, x] (ps := [r0 j G, CH.row m p au]) (Ctx.pick [2, 3, 4, 5, 0, 1] bm rfl)
 obtain ⟨cR, cw, H⟩ := rE H
 refine WA.up1 6 (by kernel_rfl) (Up.sI rfl (by kernel_rfl) rfl (xP.calls k _ cJ aU aW aR aC X N S Y O T Z Q r.State (cE.pq 0) bC (Row.rP aS).1 (Row.rP aS).2.1 (Sl.mono (Row.sl aS) aK cz) a3 (Row.rP al).1 (Row.rP al).2.1 (Sl.mono (Row.sl al) aK cA) a4 (Row.rP am).1 (Row.rP am).2.1 (Sl.mono (Row.sl am) aK cB) a5 (Row.rP an).1 (Row.rP an).2.1 (Sl.mono (Row.sl an) aK cC) cR cw) (ne.fr rfl rfl) ?_)
 rintro ds bl ⟨rfl, cG⟩
 have aE : Cx [r0 j G, CH.row m p au, aQ, s, u, x] := Ctx.cl 0 bm aK cG
 refine ⟨_, rfl, ⟨(Ctx.rO 0 aE rfl), trivial, trivial⟩, ?_⟩
 refine WA.sZ [(7, none), (8, none)] ⟨(Ctx.rO 0 aE rfl), (Ctx.rO 1 aE rfl), trivial⟩ (by kernel_rfl) <| WT.run to 2 rfl <| WT.done <| WA.done (by kernel_rfl) ?_
 rcases rT H with ⟨bd, H⟩ | ⟨bd, H⟩
 ·refine W.cT bd rfl <| W.sr rfl <| WL.rd to 1 rfl <| W.ret <| uX <| rS ?_
  have cH : Cx [CH.row m p au, aQ, s, u, x] := aE.pick [1, 2, 3, 4, 5] rfl
  obtain ⟨cL, cM⟩ := sp H
  subst cL cM
  exact rH (sE rfl rfl) ⟨F, aU, aW, aR, aQ, aC, X, N, s, S, Y, O, u, T, Z, Q, x, rfl, (CH.le_refl _), cH, bC, aS, a3, al, a4, am, a5, an⟩
 refine W.cF bd rfl <| W.sr rfl <| WL.run to 4 rfl <| WL.lv aE 1 7 rfl rfl wG rfl rfl <| WL.ln (r.State.Eras.length : Int) rfl wG (by omega) <| WL.rd to 2 rfl ?_
 rcases rT H with ⟨be, H⟩ | ⟨be, H⟩
 ·refine W.cT be rfl <| W.sr rfl <| WL.rd to 1 rfl <| W.ret <| uX <| rS ?_
  have cI : Cx [CH.row m p au, aQ, s, u, x] := aE.pick [1, 2, 3, 4, 5] rfl
  obtain ⟨cN, cO⟩ := sp H
  subst cN cO
  exact rH (sE rfl rfl) ⟨F, aU, aW, aR, aQ, aC, X, N, s, S, Y, O, u, T, Z, Q, x, rfl, (CH.le_refl _), cI, bC, aS, a3, al, a4, am, a5, an⟩
 refine W.cF be rfl <| W.skip <| tH <| W.seq <| W.uF [([12, 16], CH.row m p au), ([11, 12, 16], r0 j G)] (by kernel_rfl) ?_
 have bw := Ctx.drewN aE 1
 refine WA.sZ [(0, none), (1, none), (2, none), (3, none), (4, none), (5, some 0), (6, none), (7, some 1), (8, none), (9, some 1), (10, none)] ⟨(Ctx.rO 1 bw rfl), (Ctx.rO 0 bw rfl), trivial⟩ (by kernel_rfl) <| WT.run to 5 rfl <| WT.lv 7 rfl rfl rfl wG rfl rfl <| WT.run to 1 rfl <| WT.lv 1 rfl rfl rfl u_3 rfl rfl <| WT.run to 1 rfl <| WT.val rfl (fun _ hC_ => Yl.xD (g := j) (off := 0) (o := 2) (cs := G) (us := J.Nonce.map (Value.int .u8)) rfl zC rfl (uY yL (rL a0)) (show Sub (r0 j G) _ from hC_) (zU 2 0 rfl (Ca rfl))) ?_
 let cP : LV := [iv J.Epoch] ++ (J.Nonce.map (Value.int .u8))
 refine WT.val rfl (fun _ hC_ => Yl.build (places := [(0, 1), (1, 32)]) (cs := List.toArray cP) Dh GX (JW _ Dh) (uV (.cons rfl (.cons rfl .nil))) (zF.run (a := [iv 0] ++ ((List.replicate 32 (0 : Int)).map (Value.int .u8))) (c := [iv J.Epoch] ++ (J.Nonce.map (Value.int .u8))) (.put (us := [iv J.Epoch]) rfl rfl rfl (Put.left (Put.lit 0 rfl)) (.put (us := J.Nonce.map (Value.int .u8)) rfl rfl (rL a0) (Put.skip 1 0 rfl (Put.all 32 (rL (List.length_replicate ..)) (rL a0))) .nil)))) ?_
 refine WT.done ?_
 obtain ⟨dG, cK, dH, R, dJ, cx, b8, bb, bL⟩ := uO (P := Tryz.prog) 94 sD.K bw wG Fj ⟨by decide, by decide⟩ (⟨J.Epoch, J.Nonce⟩ : sD) (.agg (List.toArray cP)) (sD.mk' _ (⟨J.Epoch, J.Nonce⟩ : sD)  a0)
 refine WA.up1 11 (by kernel_rfl) (Up.val rfl rfl rfl (b8 _ _ _ rfl) ⟨(Ctx.rO 2 bb rfl), trivial, trivial⟩ ?_)
 obtain ⟨bW, H⟩ := rV H
 obtain ⟨aT, aV, ba, aL, dE, bZ, b9, cf, bM⟩ := sP (P := Tryz.prog) (cb := cK) 94 sD.K [R, r0 j G, CH.row m p au] [s, u, x] bb aS cx (Row.sl bL) (Ctx.rO 0 bb rfl) wG Fj rfl I8 (by decide) (by decide) (by simpa using bW)
 have bc : Cx [R, r0 j G, CH.row m p au, aL, s, u, x] := cf
 refine WA.up1 12 (by kernel_rfl) (Up.val rfl rfl rfl (b9 _ _ _ _ rfl rfl) ⟨trivial, trivial, trivial⟩ ?_)
 refine WA.sZ [(13, none), (14, none), (15, none)] ⟨(Ctx.rO 2 bc rfl), (Ctx.rO 1 bc rfl), trivial⟩ (by kernel_rfl) <| WT.run to 3 rfl <| WT.done ?_
 obtain ⟨dF, ca, cg⟩ := vH (P := Tryz.prog) (ps1 := [R, r0 j G]) (ps2 := [aL, s, u, x]) (t := 45) 7 [.slice aT ba aV] (.slice aT ba aV) bc rfl rfl (rR rfl) Jv
 let cQ : LV := sF.q r aT ba aV aC N X S O Y T Q Z
 have bu : Cx [R, r0 j G, CH.row m p cQ, aL, s, u, x] := cg
 refine WA.up1 16 (by kernel_rfl) (Up.skip rfl rfl (ca _ _ _ _ rfl rfl) ⟨trivial, trivial, trivial⟩ ?_)
 refine WA.done (by kernel_rfl) <| W.seq <| W.sr rfl <| WL.run to 4 rfl <| WL.lv bu 2 8 rfl rfl wY rfl rfl <| WL.ln (r.State.Jobs.length : Int) rfl wY (by omega) <| WL.rd to 1 rfl ?_
 obtain ⟨E, b, H⟩ := rE H
 refine W.vG (fun aJ bl => ∃ V ay aF ao aM az aG ap aN aA aH aq aO aB aI ar aP, Ctx w F D bl V [CH.row m p (sF.q E ay ao aF az ap aG aA aq aH aB ar aI), aM, aN, aO, aP, R, r0 j G] ∧ CH.le F V ∧ oW sD.K V aM ay ao aF E.State.Eras (oW bT.K V aN az ap aG E.State.Jobs (oW KI V aO aA aq aH E.State.Used (ar = E.State.Barred.length ∧ Row Kd.bool V aP (.slice aB ar aI) E.State.Barred)))) ?_ ?_
 ·refine W.block ?_
  have ci : Cx [CH.row m p cQ, aL, s, u, x, R, r0 j G] := bu.pick [2, 3, 4, 5, 6, 0, 1] rfl
  refine W.loop (fun cv aJ bl => ∃ (l : Int) (h : sF), ∃ I af ai ab y U aa L M ag aj ac A ah ak ad B, Kn aJ [(0, .pointer (some ⟨m, p, none⟩)), (45, iv (r.State.Jobs.length : Int)), (46, iv l)] ∧ Ctx w F D bl I [CH.row m p (sF.q h af ab ai U L aa ag ac aj ah ad ak), y, M, A, B, R, r0 j G] ∧ CH.le F I ∧ bF.oS I h.State af ab ai y U L aa M ag ac aj A ah ad ak B (tB.l1 cv r l h = some E)) k ⟨0, (⟨r.c, (⟨r.State.Eras ++ [(⟨J.Epoch, J.Nonce⟩ : sD)], r.State.Jobs, r.State.Used, r.State.Barred, r.State.Heads⟩ : bF)⟩ : sF), F, aT, aV, ba, aL, aC, X, N, s, S, Y, O, u, T, Z, Q, x, rfl, ci, (CH.le_refl _), bZ, bM, a3, al, a4, am, a5, an, b⟩ ?_
  clear b
  rintro cv aJ bl ⟨l, h, I, af, ai, ab, y, U, aa, L, M, ag, aj, ac, A, ah, ak, ad, B, b5, aD, a9, a6, aX, aw, av, a7, aY, a8, aZ, b⟩
  rcases cv with _ | bf
  · exact absurd b (by simp [tB.l1])
  rw [tB.l1] at b
  apply ks aJ b5
  refine W.sr rfl <| WL.rd to 1 rfl <| W.seq ?_
  rcases rT b with ⟨a1, b⟩ | ⟨a1, b⟩
  ·refine W.cT a1 rfl <| W.skip <| W.seq <| W.block <| W.sr rfl <| WL.rd to 2 rfl <| W.sr rfl <| WL.run to 4 rfl <| WL.lv aD 0 8 rfl rfl wY rfl rfl ?_
   refine WL.run to 1 rfl ?_
   obtain ⟨cZ, b⟩ := rV b
   obtain ⟨cr, cd, bo, bX⟩ := (Row.sl av) (by omega)
   refine WL.val (Yl.rW (i := l) rfl rfl bo wY yN (by omega)) <| WL.rd to 1 rfl <| W.sr rfl <| WL.run to 3 rfl ?_
   obtain ⟨cS, b6, b7⟩ := bX l.toNat _ (getD_some (d := bT.z) (by omega))
   obtain ⟨dg, dl, dx, dh, dm, dy, di, dp, dz, dj, dq, dA, dk, dr, dB, rfl, db, c1, c6, cU, dc, c2, c7, cV, dd, c3, c8, cW, de, c4, c9, cX, df, c5, da, cY⟩ := bT.open b6
   refine WL.val (Yl.load (v := iv ((h.State.Jobs.getD l.toNat bT.z).State)) rfl u_3 rfl (((Ctx.rO 2 aD rfl)).cell (b7 1 _ rfl))) <| WL.rd to 1 rfl ?_
   rcases rT b with ⟨a2, b⟩ | ⟨a2, b⟩
   ·refine W.cT a2 rfl <| W.region rfl ?_
    refine WL.run to 1 rfl ?_
    let bJ : LV := sF.q h af ab ai U L aa ag ac aj ah ad ak
    have bv : Cx [M, CH.row m p bJ, y, A, B, R, r0 j G] := aD.pick [2, 0, 1, 3, 4, 5, 6] rfl
    obtain ⟨bK, bY, b⟩ := rE b
    refine WL.sI (xY.calls bf _ I U aa L M (h.State.Jobs, l) (bv.pq 1) aw av (show 0 ≤ l ∧ l < (h.State.Jobs.length : Int) from by omega) bK bY) (ne.fn rfl (Aq (.cons ((show _ = Value.pointer (some ⟨cr, cd + l.toNat * 9, none⟩) from rfl).trans (B0 (z := 9) bo (show 0 ≤ l ∧ l < (h.State.Jobs.length : Int) from by omega) aw).symm) .nil))) ?_
    rintro ds bl ⟨cp, bk, rfl, ax, cj, b4, bR⟩
    refine ⟨_, rfl, ?_⟩
    have ck : Cx [bk, CH.row m p bJ, y, A, B, R, r0 j G] := Ctx.cn 1 bv cj
    have bS := Row.mono aX ax
    have bU := Row.mono aY ax
    have bV := Row.mono aZ ax
    refine WL.done <| tH <| W.region rfl ?_
    refine WL.rd to 2 rfl ?_
    have cm : Cx [CH.row m p bJ, y, bk, A, B, R, r0 j G] := ck.pick [1, 2, 0, 3, 4, 5, 6] rfl
    exact rF ⟨bf, Nat.lt_succ_self _, rB (l + 1), (⟨h.c, (⟨h.State.Eras, bK, h.State.Used, h.State.Barred, h.State.Heads⟩ : bF)⟩ : sF), cp, af, ai, ab, y, U, aa, L, bk, ag, aj, ac, A, ah, ak, ad, B, rfl, cm, (CH.le_trans a9 ax), a6, bS, b4, bR, a7, bU, a8, bV, b⟩
   refine W.cF a2 rfl <| W.skip <| tH <| W.region rfl ?_
   exact WL.rd to 2 rfl <| rF ⟨bf, Nat.lt_succ_self _, rB (l + 1), h, I, af, ai, ab, y, U, aa, L, M, ag, aj, ac, A, ah, ak, ad, B, rfl, aD, a9, a6, aX, aw, av, a7, aY, a8, aZ, b⟩
  refine W.cF a1 rfl <| W.exit <| rM <| rM <| sL ?_
  cases b
  refine rF ?_
  exact ⟨I, af, ai, ab, y, U, aa, L, M, ag, aj, ac, A, ah, ak, ad, B, aD, a9, a6, aX, aw, av, a7, aY, a8, aZ⟩
 ·rintro aJ bl ⟨V, ay, aF, ao, aM, az, aG, ap, aN, aA, aH, aq, aO, aB, aI, ar, aP, ch, cc, b0, bN, b1, bO, b2, bP, b3, bQ⟩
  refine W.sr rfl <| WL.rd to 1 rfl <| W.ret ?_
  let dD : LV := sF.q E ay ao aF az ap aG aA aq aH aB ar aI
  have co : Cx [CH.row m p dD, aM, aN, aO, aP] := ch.pick [0, 1, 2, 3, 4] rfl
  obtain ⟨ct, cu⟩ := sp H
  subst ct cu
  exact rH (sE rfl rfl) ⟨V, ay, aF, ao, aM, az, aG, ap, aN, aA, aH, aq, aO, aB, aI, ar, aP, rfl, cc, co, b0, bN, b1, bO, b2, bP, b3, bQ⟩
def vV.f (k : Nat) (a : sF) (d : rD) : Option (Int × sF) := (vO.f k a).bind fun b => if b = 0 then (if (a.State.Jobs.length : Int) ≥ a.c.Jobs then (some (90, a)) else (if (d.Data.length + d.Data.length / 4 + 192) * 1 ≤ 281474976710656 then (if (a.State.Jobs.length + 1 + (a.State.Jobs.length + 1) / 4 + 192) * 152 ≤ 281474976710656 then (some (0, (⟨a.c, (⟨a.State.Eras, a.State.Jobs ++ [(⟨d.Data, 1, 0, 0, 0, ([] : List Int), ([] : List Int), ([] : List rA), ([] : List Int)⟩ : bT)], a.State.Used, a.State.Barred, a.State.Heads⟩ : bF)⟩ : sF))) else none) else none)) else (some (b, a))
theorem vV.calls (k w F h m O Q L g T B x d r u i a s v j b) (p : sF) (aC af aJ) (X : rD) (hp : Pre w F [CH.row h m (sF.q p O L Q T x B r i u s j v), g, d, a, b]) (aw : L = p.State.Eras.length) (R : Row sD.K F g (.slice O L Q) p.State.Eras) (am : x = p.State.Jobs.length) (G : Row bT.K F d (.slice T x B) p.State.Jobs) (Z : i = p.State.Used.length) (I : Row KI F a (.slice r i u) p.State.Used) (aa : j = p.State.Barred.length) (J : Row Kd.bool F b (.slice s j v) p.State.Barred) (bo : X.Nonce.length = 32) (bq : aJ = X.Data.length) (bN : X.Data.length ≤ af) (bO : af ≤ maxLen) (bn : Sl KB F F aC X.Data) (ba : Int) (y : sF) (H : vV.f k p X = some (ba, y)) :
    Calls Tryz.prog 65 #[.pointer (some ⟨h, m, none⟩), .agg (List.toArray ((rD.q X aC aJ af)))] w fun e w' => ∃ F' ay aE an aK az aF ao aL aA aG ap aM aB aH aq aN, e = .returned (iv ba) ∧ CH.le F F' ∧ Ctx w F (sR [CH.row h m (sF.q p O L Q T x B r i u s j v), g, d, a, b]) w' F' [CH.row h m (sF.q y ay an aE az ao aF aA ap aG aB aq aH), aK, aL, aM, aN] ∧ an = y.State.Eras.length ∧ Row sD.K F' aK (.slice ay an aE) y.State.Eras ∧ ao = y.State.Jobs.length ∧ Row bT.K F' aL (.slice az ao aF) y.State.Jobs ∧ ap = y.State.Used.length ∧ Row KI F' aM (.slice aA ap aG) y.State.Used ∧ aq = y.State.Barred.length ∧ Row Kd.bool F' aN (.slice aB aq aH) y.State.Barred := by
 have C := Ctx.start hp
 generalize hD : sR [CH.row h m (sF.q p O L Q T x B r i u s j v), g, d, a, b] = D at C ⊢
 unfold vV.f at H
 refine Calls.ofW Tryz.func65 rfl (by simp [Tryz.ntmps65]) <| W.sr rfl ?_
 let N : LV := rD.q X aC aJ af
 obtain ⟨E, bY, br, a8⟩ := uR (P := Tryz.prog) 26 (.agg (List.toArray N)) N C rfl
 refine WL.val (br _ _ _ rfl) <| WL.rd to 1 rfl <| W.seq <| W.sr rfl <| WL.run to 1 rfl ?_
 let ae : LV := sF.q p O L Q T x B r i u s j v
 obtain ⟨bC, ab, ⟨bs, bt, bu, bv, bw, _⟩, bA⟩ := Ctx.B1 [CH.row h m ae, g, d, a, b] (ps := [r0 E N]) (Ctx.pick [1, 2, 3, 4, 5, 0] a8 rfl)
 obtain ⟨bI, bp, H⟩ := rE H
 refine WL.cq a8 (vO.calls k _ bC h m O Q L T B x r u i s v j p bA.tX aw (Row.rP R).1 (Row.rP R).2.1 (Sl.mono (Row.sl R) ab bt) am (Row.rP G).1 (Row.rP G).2.1 (Sl.mono (Row.sl G) ab bu) Z (Row.rP I).1 (Row.rP I).2.1 (Sl.mono (Row.sl I) ab bv) aa (Row.rP J).1 (Row.rP J).2.1 (Sl.mono (Row.sl J) ab bw) bs bI bp) (ne.fr rfl rfl) fun bZ ar => ?_
 refine WL.rd to 1 rfl <| W.sr rfl <| WL.rd to 2 rfl ?_
 rcases rT H with ⟨ak, H⟩ | ⟨ak, H⟩
 ·refine W.nF ak rfl <| W.skip <| W.seq <| W.seq <| W.tY (by kernel_rfl) (by kernel_rfl) rfl ?_
  refine WQ.run to 4 rfl <| WQ.lv ar 1 8 rfl rfl wY rfl rfl <| WQ.vl (fun _ => Yl.Bw (A := T) (l := x) (q := B) (n := (p.State.Jobs.length : Int)) rfl wY (by omega)) ?_
  refine WQ.run to 4 rfl <| WQ.lv ar 1 4 rfl rfl u_3 rfl rfl <| WQ.run to 1 rfl <| WQ.done (fun bx => ?_)
  have a9 := Ctx.drewN ar bx
  rcases rT H with ⟨al, H⟩ | ⟨al, H⟩
  ·refine W.cT al rfl <| W.sr rfl <| WL.rd to 1 rfl <| W.ret <| rS ?_
   have bB : Cx [CH.row h m ae, g, d, a, b] := a9.pick [1, 2, 3, 4, 5] rfl
   obtain ⟨bD, bE⟩ := sp H
   subst bD bE
   exact rH (sE rfl rfl) ⟨F, O, Q, L, g, T, B, x, d, r, u, i, a, s, v, j, b, rfl, (CH.le_refl _), bB, aw, R, am, G, Z, I, aa, J⟩
  refine W.cF al rfl <| W.skip <| W.seq <| W.uF [([12, 16], CH.row h m ae), ([9, 11, 12, 16], r0 E N)] (by kernel_rfl) ?_
  have ag := Ctx.drewN a9 1
  refine WA.sZ [(0, none), (1, none), (2, none), (3, none), (4, none), (5, some 0), (7, none), (8, some 1)] ⟨(Ctx.rO 1 ag rfl), (Ctx.rO 0 ag rfl), trivial⟩ (by kernel_rfl) <| WT.run to 5 rfl <| WT.lv 8 rfl rfl rfl wY rfl rfl <| WT.run to 1 rfl <| WT.lv 34 rfl rfl rfl tG rfl (tQ 2 32 rfl (tQ 32 0 (rL bo) rfl)) <| WT.done ?_
  obtain ⟨bK, bM, bP, bR, bS, bJ, a2, U, aO⟩ := yC (P := Tryz.prog) 5 KB ag tG ti5
  refine WA.up1 6 (by kernel_rfl) (Up.val rfl rfl rfl (a2 _ _) ⟨(Ctx.rO 2 U rfl), (Ctx.rO 1 U rfl), trivial⟩ ?_)
  obtain ⟨aW, H⟩ := rV H
  obtain ⟨ax, aD, aI, bz, bU, av, a3, bb, au⟩ := sP (P := Tryz.prog) (cb := af) 5 KB [] [r0 E N, CH.row h m ae, g, d, a, b] U aO bq bn U.fro tG ti5 rfl zo5 (by decide) (by decide) (by simpa using aW)
  have V : Cx [bz, r0 E N, CH.row h m ae, g, d, a, b] := bb
  rw [List.nil_append] at av au
  refine WA.up1 9 (by kernel_rfl) (Up.val rfl rfl rfl (a3 _ _ _ _ rfl rfl) ⟨(Ctx.rO 2 V rfl), trivial, trivial⟩ ?_)
  refine WA.sZ [(10, none)] ⟨(Ctx.rO 2 V rfl), (Ctx.rO 1 V rfl), trivial⟩ (by kernel_rfl) ?_
  let bG : LV := [.slice ax aI aD, iv 1, iv 0, iv 0, iv 0, .slice none 0 0, .slice none 0 0, .slice none 0 0, .slice none 0 0]
  refine WT.val rfl (fun _ hC_ => Yl.build (places := [(0, 1), (1, 1), (2, 1), (3, 1), (4, 1), (5, 1), (6, 1), (7, 1), (8, 1)]) (cs := List.toArray bG) xG Cv (IK _ xG) (uV (.cons rfl (.cons rfl .nil))) rfl) ?_
  refine WT.done ?_
  obtain ⟨bh, o, a7, ah⟩ := Ctx.fzI 0 V rfl
  replace ah : Cx [r0 E N, CH.row h m ae, g, d, a, b] := ah
  obtain ⟨aY, aZ, aV⟩ := Row.fz au o a7
  have aP := Row.mono G o
  have aQ := Row.mono R o
  have aR := Row.mono I o
  have aS := Row.mono J o
  obtain ⟨bL, bi, bQ, ad, bV, a0, a4, ai, aT⟩ := uO (P := Tryz.prog) 63 bT.K ah wY FF ⟨by decide, by decide⟩ (⟨X.Data, 1, 0, 0, 0, ([] : List Int), ([] : List Int), ([] : List rA), ([] : List Int)⟩ : bT) (.agg (List.toArray bG)) (bT.mk' _ (⟨X.Data, 1, 0, 0, 0, ([] : List Int), ([] : List Int), ([] : List rA), ([] : List Int)⟩ : bT) ax aD aI none 0 0 none 0 0 none 0 0 none 0 0 av aY aZ aV rfl (Nat.le_refl _) (Nat.zero_le _) (Sl.nil _ _ _ _) rfl (Nat.le_refl _) (Nat.zero_le _) (Sl.nil _ _ _ _) rfl (Nat.le_refl _) (Nat.zero_le _) (Sl.nil _ _ _ _) rfl (Nat.le_refl _) (Nat.zero_le _) (Sl.nil _ _ _ _))
  refine WA.up1 11 (by kernel_rfl) (Up.val rfl rfl rfl (a4 _ _ _ rfl) ⟨(Ctx.rO 2 ai rfl), trivial, trivial⟩ ?_)
  obtain ⟨aX, H⟩ := rV H
  obtain ⟨S, Y, ac, M, bW, a1, a5, bc, aU⟩ := sP (P := Tryz.prog) (cb := bi) 63 bT.K [ad, r0 E N, CH.row h m ae, g] [a, b] ai aP a0 (Row.sl aT) (Ctx.rO 0 ai rfl) wY FF rfl I9 (by decide) (by decide) (by simpa using aX)
  have aj : Cx [ad, r0 E N, CH.row h m ae, g, M, a, b] := bc
  refine WA.up1 12 (by kernel_rfl) (Up.val rfl rfl rfl (a5 _ _ _ _ rfl rfl) ⟨trivial, trivial, trivial⟩ ?_)
  refine WA.sZ [(13, none), (14, none), (15, none)] ⟨(Ctx.rO 2 aj rfl), (Ctx.rO 1 aj rfl), trivial⟩ (by kernel_rfl) <| WT.run to 3 rfl <| WT.done ?_
  obtain ⟨bX, a6, bd⟩ := vH (P := Tryz.prog) (ps1 := [ad, r0 E N]) (ps2 := [g, M, a, b]) (t := 46) 8 [.slice S ac Y] (.slice S ac Y) aj rfl rfl (rR rfl) Ii
  let bH : LV := sF.q p O L Q S ac Y r i u s j v
  have be : Cx [ad, r0 E N, CH.row h m bH, g, M, a, b] := bd
  refine WA.up1 16 (by kernel_rfl) (Up.skip rfl rfl (a6 _ _ _ _ rfl rfl) ⟨trivial, trivial, trivial⟩ ?_)
  refine WA.done (by kernel_rfl) <| W.sr rfl <| WL.rd to 1 rfl <| W.ret ?_
  have bf : Cx [CH.row h m bH, g, M, a, b] := be.pick [2, 3, 4, 5, 6] rfl
  obtain ⟨bj, bk⟩ := sp H
  subst bj bk
  exact rH (sE rfl rfl) ⟨bh, O, Q, L, g, S, Y, ac, M, r, u, i, a, s, v, j, b, rfl, o, bf, aw, aQ, a1, aU, Z, aR, aa, aS⟩
 refine W.nT ak rfl <| W.sr rfl <| WL.rd to 2 rfl <| W.ret <| rS ?_
 have bg : Cx [CH.row h m ae, g, d, a, b] := ar.pick [1, 2, 3, 4, 5] rfl
 obtain ⟨bl, bm⟩ := sp H
 subst bl bm
 exact rH (sE rfl rfl) ⟨F, O, Q, L, g, T, B, x, d, r, u, i, a, s, v, j, b, rfl, (CH.le_refl _), bg, aw, R, am, G, Z, I, aa, J⟩
def wL.f (k : Nat) (a : sF) (d : rD) : Option (Int × sF) := (vO.f k a).bind fun b => if b = 0 then (if 0 ≤ a.c.Heads then (if a.State.Heads = (vP .i64 1 a.c.Heads) then (some (70, a)) else (some (0, (⟨a.c, (⟨a.State.Eras, a.State.Jobs, a.State.Used, a.State.Barred, rB (a.State.Heads + 1)⟩ : bF)⟩ : sF)))) else none) else (some (b, a))
theorem wL.calls (k w F B G I L E A J p h b l s i d o t j g) (a : sF) (Z X ab) (S : rD) (hp : Pre w F [CH.row B G (sF.q a I E L J h p l i s o j t), A, b, d, g]) (Y : E = a.State.Eras.length) (M : Row sD.K F A (.slice I E L) a.State.Eras) (N : h = a.State.Jobs.length) (v : Row bT.K F b (.slice J h p) a.State.Jobs) (O : i = a.State.Used.length) (x : Row KI F d (.slice l i s) a.State.Used) (Q : j = a.State.Barred.length) (y : Row Kd.bool F g (.slice o j t) a.State.Barred) (aX : S.Nonce.length = 32) (a0 : ab = S.Data.length) (aY : S.Data.length ≤ X) (aZ : X ≤ maxLen) (aW : Sl KB F F Z S.Data) (ax : Int) (u : sF) (H : wL.f k a S = some (ax, u)) :
    Calls Tryz.prog 69 #[.pointer (some ⟨B, G, none⟩), .agg (List.toArray ((rD.q S Z ab X)))] w fun e w' => ∃ F' ah am ac ar ai an ad au aj ao ae av ak ap af aw, e = .returned (iv ax) ∧ CH.le F F' ∧ Ctx w F (sR [CH.row B G (sF.q a I E L J h p l i s o j t), A, b, d, g]) w' F' [CH.row B G (sF.q u ah ac am ai ad an aj ae ao ak af ap), ar, au, av, aw] ∧ ac = u.State.Eras.length ∧ Row sD.K F' ar (.slice ah ac am) u.State.Eras ∧ ad = u.State.Jobs.length ∧ Row bT.K F' au (.slice ai ad an) u.State.Jobs ∧ ae = u.State.Used.length ∧ Row KI F' av (.slice aj ae ao) u.State.Used ∧ af = u.State.Barred.length ∧ Row Kd.bool F' aw (.slice ak af ap) u.State.Barred := by
 have C := Ctx.start hp
 generalize hD : sR [CH.row B G (sF.q a I E L J h p l i s o j t), A, b, d, g] = D at C ⊢
 unfold wL.f at H
 refine Calls.ofW Tryz.func69 rfl (by simp [Tryz.ntmps69]) <| W.sr rfl ?_
 let ag : LV := rD.q S Z ab X
 obtain ⟨aq, a2, aA, al⟩ := uR (P := Tryz.prog) 26 (.agg (List.toArray ag)) ag C rfl
 refine WL.val (aA _ _ _ rfl) <| WL.rd to 1 rfl <| W.sr rfl <| WL.run to 1 rfl ?_
 let aH : LV := sF.q a I E L J h p l i s o j t
 obtain ⟨aN, R, ⟨aB, aC, aD, aE, aF, _⟩, aI⟩ := Ctx.B1 [CH.row B G aH, A, b, d, g] (ps := [r0 aq ag]) (Ctx.pick [1, 2, 3, 4, 5, 0] al rfl)
 obtain ⟨aV, az, H⟩ := rE H
 refine WL.cq al (vO.calls k _ aN B G I L E J p h l s i o t j a aI.tX Y (Row.rP M).1 (Row.rP M).2.1 (Sl.mono (Row.sl M) R aC) N (Row.rP v).1 (Row.rP v).2.1 (Sl.mono (Row.sl v) R aD) O (Row.rP x).1 (Row.rP x).2.1 (Sl.mono (Row.sl x) R aE) Q (Row.rP y).1 (Row.rP y).2.1 (Sl.mono (Row.sl y) R aF) aB aV az) (ne.fr rfl rfl) fun a1 V => ?_
 refine WL.rd to 1 rfl <| W.seq <| W.block <| W.sr rfl <| WL.rd to 3 rfl ?_
 rcases rT H with ⟨T, H⟩ | ⟨T, H⟩
 ·refine W.nF T rfl <| W.seq <| W.tY (by kernel_rfl) (by kernel_rfl) rfl ?_
  refine WQ.run to 4 rfl <| WQ.lv V 1 11 rfl rfl u_3 rfl rfl <| WQ.run to 4 rfl <| WQ.lv V 1 6 rfl rfl u_3 rfl rfl ?_
  obtain ⟨ay, H⟩ := rV H
  refine WQ.vl (fun _ => Yl.shl (m := 1) (n := a.c.Heads) (r := vP .i64 1 a.c.Heads) rfl rfl ay rfl) ?_
  refine WQ.run to 2 rfl <| WQ.done (fun aG => ?_)
  have aa := Ctx.drewN V aG
  rcases rT H with ⟨U, H⟩ | ⟨U, H⟩
  ·refine W.cT U rfl <| W.sr rfl <| WL.rd to 1 rfl <| W.ret <| uX <| rS ?_
   have aJ : Cx [CH.row B G aH, A, b, d, g] := aa.pick [1, 2, 3, 4, 5] rfl
   obtain ⟨aO, aP⟩ := sp H
   subst aO aP
   exact rH (sE rfl rfl) ⟨F, I, L, E, A, J, p, h, b, l, s, i, d, o, t, j, g, rfl, (CH.le_refl _), aJ, Y, M, N, v, O, x, Q, y⟩
  refine W.cF U rfl <| W.skip <| tH <| W.sr rfl <| WL.run to 4 rfl <| WL.lv aa 1 11 rfl rfl u_3 rfl rfl <| WL.run to 4 rfl ?_
  let aU : LV := [iv a.c.Faulty, iv a.c.Workers, iv a.c.Height, iv a.c.Bits, iv a.c.Jobs, iv a.c.Term, iv a.c.Heads, .slice I E L, .slice J h p, .slice l i s, .slice o j t, iv (rB (a.State.Heads + 1))]
  refine WL.st aa 1 11 [iv (rB (a.State.Heads + 1))] rfl rfl rfl rfl (Put.lit 11 rfl) (rR rfl) sz3 fun a1 (aK : Cx [r0 aq ag, CH.row B G aU, A, b, d, g]) => ?_
  refine WL.done <| W.sr rfl <| WL.rd to 1 rfl <| W.ret ?_
  have aL : Cx [CH.row B G aU, A, b, d, g] := aK.pick [1, 2, 3, 4, 5] rfl
  obtain ⟨aQ, aR⟩ := sp H
  subst aQ aR
  exact rH (sE rfl rfl) ⟨F, I, L, E, A, J, p, h, b, l, s, i, d, o, t, j, g, rfl, (CH.le_refl _), aL, Y, M, N, v, O, x, Q, y⟩
 refine W.nT T rfl <| W.sr rfl <| WL.rd to 2 rfl <| W.ret <| uX <| rS ?_
 have aM : Cx [CH.row B G aH, A, b, d, g] := V.pick [1, 2, 3, 4, 5] rfl
 obtain ⟨aS, aT⟩ := sp H
 subst aS aT
 exact rH (sE rfl rfl) ⟨F, I, L, E, A, J, p, h, b, l, s, i, d, o, t, j, g, rfl, (CH.le_refl _), aM, Y, M, N, v, O, x, Q, y⟩
def vX.f (k : Nat) (a : sF) (g : rD) : Option (Int × sF) := (vN.f k a g).bind fun ⟨b, d⟩ => if 0 ≤ b ∧ b < (a.State.Jobs.length : Int) then (if d = 0 then (if ((a.State.Jobs.getD b.toNat bT.z).State) = 2 then (if g.Time < ((a.State.Jobs.getD b.toNat bT.z).Until) then (some (213, a)) else ((xY.f k (a.State.Jobs, b)).bind fun e => some (0, (⟨a.c, (⟨a.State.Eras, e, a.State.Used, a.State.Barred, a.State.Heads⟩ : bF)⟩ : sF)))) else (some (212, a))) else (some (d, a))) else (if d = 0 then (if False then (none) else none) else (some (d, a)))
theorem vX.calls (k w F t u U X R i L o h g x A p a y B r b) (j : sF) (an ac ao) (ab : rD) (hp : Pre w F [CH.row t u (sF.q j U R X L h o x p A y r B), i, g, a, b]) (Z : R = j.State.Eras.length) (Q : Row sD.K F i (.slice U R X) j.State.Eras) (m : h = j.State.Jobs.length) (l : Row bT.K F g (.slice L h o) j.State.Jobs) (M : p = j.State.Used.length) (E : Row KI F a (.slice x p A) j.State.Used) (N : r = j.State.Barred.length) (G : Row Kd.bool F b (.slice y r B) j.State.Barred) (ad : ab.Nonce.length = 32) (bf : ao = ab.Data.length) (bd : ab.Data.length ≤ ac) (be : ac ≤ maxLen) (ba : Sl KB F F an ab.Data) (aR : Int) (I : sF) (H : vX.f k j ab = some (aR, I)) :
    Calls Tryz.prog 68 #[.pointer (some ⟨t, u, none⟩), .agg (List.toArray ((rD.q ab an ao ac)))] w fun e w' => ∃ F' ap ax ai aE aq ay aj aF ar az ak aG au aA al aH, e = .returned (iv aR) ∧ CH.le F F' ∧ Ctx w F (sR [CH.row t u (sF.q j U R X L h o x p A y r B), i, g, a, b]) w' F' [CH.row t u (sF.q I ap ai ax aq aj ay ar ak az au al aA), aE, aF, aG, aH] ∧ ai = I.State.Eras.length ∧ Row sD.K F' aE (.slice ap ai ax) I.State.Eras ∧ aj = I.State.Jobs.length ∧ Row bT.K F' aF (.slice aq aj ay) I.State.Jobs ∧ ak = I.State.Used.length ∧ Row KI F' aG (.slice ar ak az) I.State.Used ∧ al = I.State.Barred.length ∧ Row Kd.bool F' aH (.slice au al aA) I.State.Barred := by
 have C := Ctx.start hp
 generalize hD : sR [CH.row t u (sF.q j U R X L h o x p A y r B), i, g, a, b] = D at C ⊢
 unfold vX.f at H
 refine Calls.ofW Tryz.func68 rfl (by simp [Tryz.ntmps68]) <| W.sr rfl ?_
 let Y : LV := rD.q ab an ao ac
 obtain ⟨O, b8, bh, aw⟩ := uR (P := Tryz.prog) 26 (.agg (List.toArray Y)) Y C rfl
 refine WL.val (bh _ _ _ rfl) <| WL.rd to 1 rfl <| W.sr rfl <| WL.run to 1 rfl <| WL.la aw 0 rfl rfl Bg rfl (uY BP (tP rfl (tP (rL ad) rfl))) ?_
 let S : LV := sF.q j U R X L h o x p A y r B
 obtain ⟨br, J, ⟨bi, bj, bk, bl, bm, _⟩, bp⟩ := Ctx.B1 [CH.row t u S, i, g, a, b] (ps := [r0 O Y]) (Ctx.pick [1, 2, 3, 4, 5, 0] aw rfl)
 obtain ⟨⟨s, bs⟩, bc, H⟩ := rE H
 refine WL.sI (vN.calls k _ br t u U X R L o h x A p y B r j an ac ao ab (bp.pq 0) Z (Row.rP Q).1 (Row.rP Q).2.1 (Sl.mono (Row.sl Q) J bj) m (Row.rP l).1 (Row.rP l).2.1 (Sl.mono (Row.sl l) J bk) M (Row.rP E).1 (Row.rP E).2.1 (Sl.mono (Row.sl E) J bl) N (Row.rP G).1 (Row.rP G).2.1 (Sl.mono (Row.sl G) J bm) bi ad bf bd be (Sl.mono ba J J) s bs bc) (ne.fr rfl rfl) ?_
 rintro bu bR ⟨rfl, bq⟩
 refine ⟨_, rfl, ?_⟩
 have V : Cx [r0 O Y, CH.row t u S, i, g, a, b] := Ctx.cl 0 aw J bq
 refine WL.run to 1 rfl <| WL.val (Yl.extract (v := elp L h 9 s) rfl rfl) <| WL.run to 1 rfl ?_
 rcases rT H with ⟨ae, H⟩ | ⟨ae, H⟩
 ·obtain ⟨aQ, aD, aB, bb⟩ := (Row.sl l) (by omega)
  refine WL.val (Yl.assign (v := .pointer (some ⟨aQ, aD + s.toNat * 9, none⟩)) (B0 aB ae m)) <| WL.rd to 1 rfl <| W.seq <| W.block <| W.sr rfl <| WL.rd to 3 rfl ?_
  rcases rT H with ⟨af, H⟩ | ⟨af, H⟩
  ·refine W.nF af rfl <| W.sr rfl <| WL.run to 3 rfl ?_
   obtain ⟨bt, bg, aC⟩ := bb s.toNat _ (getD_some (d := bT.z) (by omega))
   obtain ⟨bS, bY, b3, bU, bZ, b4, bV, b0, b5, bW, b1, b6, bX, b2, b7, rfl, bM, bB, bH, bv, bN, bC, bI, bw, bO, bD, bJ, bx, bP, bE, bK, bz, bQ, bG, bL, bA⟩ := bT.open bg
   refine WL.val (Yl.load (v := iv ((j.State.Jobs.getD s.toNat bT.z).State)) rfl u_3 rfl (((Ctx.rO 3 V rfl)).cell (aC 1 _ rfl))) <| WL.rd to 2 rfl ?_
   rcases rT H with ⟨ag, H⟩ | ⟨ag, H⟩
   ·refine W.nF ag rfl <| W.seq <| W.tY (by kernel_rfl) (by kernel_rfl) rfl ?_
    refine WQ.run to 1 rfl <| WQ.lv V 0 36 rfl rfl u_3 rfl (tQ 2 34 rfl (tQ 32 2 (rL ad) rfl)) <| WQ.run to 3 rfl <| WQ.vl (fun _ => Yl.load (v := iv ((j.State.Jobs.getD s.toNat bT.z).Until)) rfl u_3 rfl (((Ctx.rO 3 (V.drewN _) rfl)).cell (aC 4 _ rfl))) ?_
    refine WQ.run to 2 rfl <| WQ.done (fun bn => ?_)
    have aP := Ctx.drewN V bn
    rcases rT H with ⟨ah, H⟩ | ⟨ah, H⟩
    ·refine W.cT ah rfl <| W.sr rfl <| WL.rd to 1 rfl <| W.ret <| uX <| rS ?_
     have aS : Cx [CH.row t u S, i, g, a, b] := aP.pick [1, 2, 3, 4, 5] rfl
     obtain ⟨a0, a1⟩ := sp H
     subst a0 a1
     exact rH (sE rfl rfl) ⟨F, U, X, R, i, L, o, h, g, x, A, p, a, y, B, r, b, rfl, (CH.le_refl _), aS, Z, Q, m, l, M, E, N, G⟩
    refine W.cF ah rfl <| W.skip <| tH <| W.sr rfl <| WL.run to 1 rfl ?_
    have av : Cx [g, r0 O Y, CH.row t u S, i, a, b] := aP.pick [3, 0, 1, 2, 4, 5] rfl
    obtain ⟨bo, aN, H⟩ := rE H
    refine WL.sI (xY.calls k _ F L o h g (j.State.Jobs, s) (av.pq 1) m l (show 0 ≤ s ∧ s < (j.State.Jobs.length : Int) from by omega) bo aN) (ne.fn rfl (Aq (.cons ((show _ = Value.pointer (some ⟨aQ, aD + s.toNat * 9, none⟩) from rfl).trans (B0 (z := 9) aB (show 0 ≤ s ∧ s < (j.State.Jobs.length : Int) from by omega) m).symm) .nil))) ?_
    rintro bu bR ⟨aZ, am, rfl, T, aT, aO, aI⟩
    refine ⟨_, rfl, ?_⟩
    have aU : Cx [am, r0 O Y, CH.row t u S, i, a, b] := Ctx.cn 1 av aT
    have aJ := Row.mono Q T
    have aK := Row.mono E T
    have aL := Row.mono G T
    refine WL.done <| W.sr rfl <| WL.rd to 1 rfl <| W.ret ?_
    have aV : Cx [CH.row t u S, i, am, a, b] := aU.pick [2, 3, 0, 4, 5] rfl
    obtain ⟨a2, a3⟩ := sp H
    subst a2 a3
    exact rH (sE rfl rfl) ⟨aZ, U, X, R, i, L, o, h, am, x, A, p, a, y, B, r, b, rfl, T, aV, Z, aJ, aO, aI, M, aK, N, aL⟩
   refine W.nT ag rfl <| W.sr rfl <| WL.rd to 1 rfl <| W.ret <| uX <| rS ?_
   have aW : Cx [CH.row t u S, i, g, a, b] := V.pick [1, 2, 3, 4, 5] rfl
   obtain ⟨a4, a5⟩ := sp H
   subst a4 a5
   exact rH (sE rfl rfl) ⟨F, U, X, R, i, L, o, h, g, x, A, p, a, y, B, r, b, rfl, (CH.le_refl _), aW, Z, Q, m, l, M, E, N, G⟩
  refine W.nT af rfl <| W.sr rfl <| WL.rd to 2 rfl <| W.ret <| uX <| rS ?_
  have aX : Cx [CH.row t u S, i, g, a, b] := V.pick [1, 2, 3, 4, 5] rfl
  obtain ⟨a6, a7⟩ := sp H
  subst a6 a7
  exact rH (sE rfl rfl) ⟨F, U, X, R, i, L, o, h, g, x, A, p, a, y, B, r, b, rfl, (CH.le_refl _), aX, Z, Q, m, l, M, E, N, G⟩
 ·refine WL.val (Yl.assign (v := .pointer none) (F3 ae m)) <| WL.rd to 1 rfl <| W.seq <| W.block <| W.sr rfl <| WL.rd to 3 rfl ?_
  rcases rT H with ⟨aa, H⟩ | ⟨aa, H⟩
  ·refine W.nF aa rfl <| W.sr rfl <| WL.run to 1 rfl ?_
   obtain ⟨aM, H⟩ := rV H
   exact aM.elim
  refine W.nT aa rfl <| W.sr rfl <| WL.rd to 2 rfl <| W.ret <| uX <| rS ?_
  have aY : Cx [CH.row t u S, i, g, a, b] := V.pick [1, 2, 3, 4, 5] rfl
  obtain ⟨a8, a9⟩ := sp H
  subst a8 a9
  exact rH (sE rfl rfl) ⟨F, U, X, R, i, L, o, h, g, x, A, p, a, y, B, r, b, rfl, (CH.le_refl _), aY, Z, Q, m, l, M, E, N, G⟩
end Go.Proofs.YtobdpbnadjkhiaaGreat
namespace Go.Proofs.YtobdpbnadjkhiaaGreat
open Go.RowKit Go.WG
set_option linter.unusedVariables false
set_option linter.unusedSimpArgs false
set_option maxRecDepth 100000
set_option maxHeartbeats 4000000
def wA.l1 : Nat → List Int → Int → Option (Sum Unit Bool)
  | 0, _, _ => none
  | k + 1, b, a => if a < (b.length : Int) then (if 0 ≤ a ∧ a < (b.length : Int) then (if (b.getD a.toNat 0) < 0 then (some (Sum.inr false)) else (wA.l1 k b (rB (a + 1)))) else none) else (some (Sum.inl ()))
def wA.f (k : Nat) (a : List Int) (d : List Bool) : Option Bool := (wA.l1 k a 0).bind fun e => vS e (fun _ => (if (a.length : Int) = (d.length : Int) then (some (decide ((a.length : Int) ≤ 8))) else (some (false))).bind fun b => some b) (fun g => some g)
theorem wA.calls (k w F x u G) (l : List Int) (I E t) (B : List Bool) (hp : Pre w F []) (ao : G = l.length) (am : l.length ≤ u) (an : u ≤ maxLen) (aa : Sl KI F F x l) (ai : t = B.length) (ag : B.length ≤ E) (ah : E ≤ maxLen) (ae : Sl Kd.bool F F I B) (M : Bool) (H : wA.f k l B = some M) :
    Calls Tryz.prog 90 #[.slice x G u, .slice I t E] w fun e w' => e = .returned (.bool M) ∧ (∃ m, w' = w.drewN m) := by
 have C := Ctx.start hp
 generalize sR [] = D at C
 have ac : ∃ m, w = w.drewN m := ⟨0, rfl⟩
 unfold wA.f at H
 refine Calls.ofW Tryz.func90 rfl (by simp [Tryz.ntmps90]) <| W.sr rfl <| WL.rd to 1 rfl <| W.seq <| W.sr rfl <| WL.run to 1 rfl <| WL.ln (l.length : Int) rfl tM (by omega) <| WL.rd to 1 rfl ?_
 obtain ⟨L, a, H⟩ := rE H
 refine W.vG (fun b h => Kn b [(0, .slice x G u), (1, .slice I t E)] ∧ Ctx w F D h F [] ∧ (∃ m, h = w.drewN m) ∧ L = Sum.inl ()) ?_ ?_
 ·refine W.block <| W.loop (fun O b h => ∃ (j : Int), Kn b [(0, .slice x G u), (1, .slice I t E), (7, .slice x G u), (8, iv (l.length : Int)), (9, iv j)] ∧ Ctx w F D h F [] ∧ (∃ m, h = w.drewN m) ∧ wA.l1 O l j = some L) k ⟨0, rfl, C, ac, a⟩ ?_
  clear a
  rintro O b h ⟨j, S, y, o, a⟩
  rcases O with _ | ab
  · exact absurd a (by simp [wA.l1])
  rw [wA.l1] at a
  apply ks b S
  refine W.sr rfl <| WL.rd to 1 rfl <| W.seq ?_
  rcases rT a with ⟨p, a⟩ | ⟨p, a⟩
  ·refine W.cT p rfl <| W.skip <| W.seq <| W.block <| W.sr rfl ?_
   obtain ⟨af, a⟩ := rV a
   obtain ⟨al, aj, P, Q⟩ := aa (by omega)
   refine WL.val (Yl.rW (i := j) rfl rfl P tM sz3 (by omega)) ?_
   obtain ⟨ad, U, V⟩ := Q j.toNat _ (getD_some (d := 0) (by omega))
   obtain rfl := U
   refine WL.val (Yl.load (v := iv (l.getD j.toNat 0)) rfl u_3 rfl (((y.fro)).cell (V 0 _ rfl))) <| WL.rd to 1 rfl <| W.sr rfl <| WL.rd to 2 rfl ?_
   rcases rT a with ⟨r, a⟩ | ⟨r, a⟩
   ·refine W.cT r rfl <| W.sr rfl <| WL.rd to 1 rfl <| W.ret ?_
    iterate 6 first | refine uX ?_ | refine rS ?_
    cases a
    replace H := wB H
    have X := Option.some.inj H
    subst X
    exact rH (sE rfl rfl) ⟨rfl, o⟩
   refine W.cF r rfl <| W.skip <| tH <| W.region rfl ?_
   exact WL.rd to 2 rfl <| rF ⟨ab, Nat.lt_succ_self _, rB (j + 1), rfl, y, o, a⟩
  refine W.cF p rfl <| W.exit <| rM <| rM <| sL ?_
  cases a
  refine rF ?_
  exact ⟨rfl, y, o, rfl⟩
 ·rintro b h ⟨R, J, A, rfl⟩
  replace H := wI H
  apply ks b R
  refine W.sr rfl <| WL.run to 1 rfl <| WL.ln (l.length : Int) rfl tM (by omega) <| WL.run to 1 rfl <| WL.ln (B.length : Int) rfl zH (by omega) <| WL.run to 2 rfl ?_
  obtain ⟨Z, g, H⟩ := rE H
  refine WL.cut (fun b h => b 4 = .bool Z ∧ Ctx w F D h F [] ∧ (∃ m, h = w.drewN m)) ?_ ?_
  ·rcases rT g with ⟨s, g⟩ | ⟨s, g⟩
   ·refine WL.kn 21 (cb (decide_eq_true s)) <| WL.run to 1 rfl <| WL.lnG (l.length : Int) rfl rfl rfl tM (by omega) <| WL.run to 3 rfl ?_
    cases g
    exact WL.done ⟨rfl, J, A⟩
   refine WL.kn 21 (cb (decide_eq_false s)) <| WL.sN 3 21 true rfl rfl <| WL.run to 2 rfl ?_
   cases g
   exact WL.done ⟨rfl, J, A⟩
  ·rintro b h ⟨T, ak, N⟩
   apply kn b (.c T .n)
   refine W.ret ?_
   have Y := Option.some.inj H
   subst Y
   exact rH (sE rfl rfl) ⟨rfl, N⟩
def vJ.l1 : Nat → List Int → List Bool → Int → List sA → Int → Int → Option ((List sA) × Int)
  | 0, _, _, _, _, _, _ => none
  | k + 1, e, f, g, b, d, a => if a < (e.length : Int) then (if 0 ≤ a ∧ a < (e.length : Int) then (if 0 ≤ a ∧ a < (f.length : Int) then (if (f.getD a.toNat false) = true then (vJ.l1 k e f g b d (rB (a + 1))) else (if (e.getD a.toNat 0) < g then (if (b.length + 1 + (b.length + 1) / 4 + 192) * 16 ≤ 281474976710656 then (vJ.l1 k e f g (b ++ [(⟨e.getD a.toNat 0, a⟩ : sA)]) (rB (d + 1)) (rB (a + 1))) else none) else (vJ.l1 k e f g b (rB (d + 1)) (rB (a + 1))))) else none) else none) else (some (b, d))
def vJ.f (k : Nat) (d : List Int) (e : List Bool) (g : Int) : Option ((List sA) × Int) := (vJ.l1 k d e g ([] : List sA) 0 0).bind fun ⟨a, b⟩ => some (a, b)
theorem vJ.calls (k w F az ab aO) (s : List Int) (aB ac T) (O : List Bool) (aa : Int) (hp : Pre w F []) (a8 : aO = s.length) (a6 : s.length ≤ ab) (a7 : ab ≤ maxLen) (aP : Sl KI F F az s) (a2 : T = O.length) (a0 : O.length ≤ ac) (a1 : ac ≤ maxLen) (aM : Sl Kd.bool F F aB O) (X : List sA) (ay : Int) (H : vJ.f k s O aa = some (X, ay)) :
    Calls Tryz.prog 91 #[.slice az aO ab, .slice aB T ac, iv aa] w fun e w' => ∃ Q S L V, e = .returned (.tuple #[(.slice Q L S), (iv ay)]) ∧ Ctx w F (sR []) w' F [V] ∧ L = X.length ∧ Row sA.K F V (.slice Q L S) X := by
 have C := Ctx.start hp
 generalize hD : sR [] = D at C ⊢
 unfold vJ.f at H
 refine Calls.ofW Tryz.func91 rfl (by simp [Tryz.ntmps91]) <| W.sr rfl <| WL.rd to 2 rfl <| W.sr rfl <| WL.rd to 1 rfl <| W.sr rfl <| WL.rd to 1 rfl <| W.seq <| W.sr rfl ?_
 refine WL.run to 1 rfl <| WL.ln (s.length : Int) rfl tM (by omega) <| WL.rd to 1 rfl ?_
 obtain ⟨⟨N, Z⟩, a, H⟩ := rE H
 refine W.vG (fun g Y => ∃ x y u I, Kn g [(8, .slice x u y), (9, iv Z)] ∧ Ctx w F D Y F [I] ∧ u = N.length ∧ Row sA.K F I (.slice x u y) N) ?_ ?_
 ·refine W.block ?_
  have aD : Cx [CH.emp] := C.pick [0] rfl
  refine W.loop (fun aL g Y => ∃ (j : List sA) (r : Int) (b : Int), ∃ l o h p, Kn g [(1, .slice aB T ac), (2, iv aa), (8, .slice l h o), (9, iv r), (12, .slice az aO ab), (13, iv (s.length : Int)), (14, iv b)] ∧ Ctx w F D Y F [p] ∧ oW sA.K F p l h o j (vJ.l1 aL s O aa j r b = some (N, Z))) k ⟨([] : List sA), 0, 0, none, 0, 0, CH.emp, rfl, aD, rfl, (Row.nil _ _), a⟩ ?_
  clear a
  rintro aL g Y ⟨j, r, b, l, o, h, p, ap, m, G, t, a⟩
  rcases aL with _ | J
  · exact absurd a (by simp [vJ.l1])
  rw [vJ.l1] at a
  apply ks g ap
  refine W.sr rfl <| WL.rd to 1 rfl <| W.seq ?_
  rcases rT a with ⟨A, a⟩ | ⟨A, a⟩
  ·refine W.cT A rfl <| W.skip <| W.seq <| W.block <| W.sr rfl <| WL.run to 1 rfl ?_
   obtain ⟨aT, a⟩ := rV a
   obtain ⟨aY, aV, ad, aj⟩ := aP (by omega)
   refine WL.val (Yl.rW (i := b) rfl rfl ad tM sz3 (by omega)) ?_
   obtain ⟨aR, aq, au⟩ := aj b.toNat _ (getD_some (d := 0) (by omega))
   obtain rfl := aq
   refine WL.val (Yl.load (v := iv (s.getD b.toNat 0)) rfl u_3 rfl (((m.fro)).cell (au 0 _ rfl))) <| WL.rd to 2 rfl <| W.seq <| W.sr rfl <| WL.run to 2 rfl ?_
   obtain ⟨aU, a⟩ := rV a
   obtain ⟨aZ, aW, ae, ak⟩ := aM (by omega)
   refine WL.val (Yl.rW (i := b) rfl rfl ae zH sz4 (by omega)) ?_
   obtain ⟨aS, ar, av⟩ := ak b.toNat _ (getD_some (d := false) (by omega))
   obtain rfl := ar
   refine WL.val (Yl.load (v := .bool (O.getD b.toNat false)) rfl u_4 rfl (((m.fro)).cell (av 0 _ rfl))) <| WL.done ?_
   rcases rT a with ⟨B, a⟩ | ⟨B, a⟩
   ·refine W.uI (cb B) <| W.exit <| rM <| sL <| W.region rfl ?_
    exact WL.rd to 2 rfl <| rF ⟨J, Nat.lt_succ_self _, j, r, rB (b + 1), l, o, h, p, rfl, m, G, t, a⟩
   refine W.uD (cb (Bool.eq_false_iff.2 B)) <| W.skip <| W.sr rfl <| WL.rd to 3 rfl <| W.sr rfl <| WL.rd to 3 rfl ?_
   rcases rT a with ⟨E, a⟩ | ⟨E, a⟩
   ·refine W.cT E rfl <| W.region rfl ?_
    refine WL.run to 3 rfl ?_
    let aQ : LV := [iv (s.getD b.toNat 0), iv b]
    refine WL.val (Yl.build (places := [(0, 1), (1, 1)]) (cs := List.toArray aQ) CA Jk (Ka _ CA) (uV (.cons rfl (.cons rfl .nil))) rfl) ?_
    obtain ⟨aX, aH, a3, U, a4, am, aw, R, ag⟩ := uO (P := Tryz.prog) 149 sA.K m yH Jd ⟨by decide, by decide⟩ (⟨s.getD b.toNat 0, b⟩ : sA) (.agg (List.toArray aQ)) (sA.mk' _ (⟨s.getD b.toNat 0, b⟩ : sA)  )
    refine WL.val (aw _ _ _ rfl) ?_
    obtain ⟨ai, a⟩ := rV a
    obtain ⟨aA, aI, aN, M, a5, an, ax, aE, ah⟩ := sP (P := Tryz.prog) (cb := aH) 149 sA.K [U] [] R t am (Row.sl ag) (Ctx.rO 0 R rfl) yH Jd rfl KD (by decide) (by decide) (by simpa using ai)
    have aF : Cx [U, M] := aE
    refine WL.val (ax _ _ _ _ rfl rfl) <| WL.rd to 1 rfl <| tH <| W.region rfl ?_
    refine WL.rd to 2 rfl ?_
    have aG : Cx [M] := aF.pick [1] rfl
    exact rF ⟨J, Nat.lt_succ_self _, j ++ [(⟨s.getD b.toNat 0, b⟩ : sA)], rB (r + 1), rB (b + 1), aA, aI, aN, M, rfl, aG, an, ah, a⟩
   refine W.cF E rfl <| W.skip <| tH <| W.region rfl ?_
   exact WL.rd to 2 rfl <| rF ⟨J, Nat.lt_succ_self _, j, rB (r + 1), rB (b + 1), l, o, h, p, rfl, m, G, t, a⟩
  refine W.cF A rfl <| W.exit <| rM <| rM <| sL ?_
  cases a
  refine rF ?_
  exact ⟨l, o, h, p, rfl, m, G, t⟩
 ·rintro g Y ⟨x, y, u, I, ao, aC, al, af⟩
  apply ks g ao
  refine W.sr rfl <| WL.rd to 4 rfl <| W.ret ?_
  obtain ⟨aJ, aK⟩ := sp H
  subst aJ aK
  exact rH (yI rfl rfl rfl) ⟨x, y, u, I, rfl, aC, al, af⟩
def xH.f (k : Nat) (a : List sA) : Option Int := some (a.length : Int)
theorem xH.calls (k w F h d i) (a : List sA) (hp : Pre w F []) (r : i = a.length) (o : a.length ≤ d) (p : d ≤ maxLen) (m : Sl sA.K F F h a) (b : Int) (H : xH.f k a = some b) :
    Calls Tryz.prog 138 #[.slice h i d] w fun e w' => e = .returned (iv b) ∧ (∃ g, w' = w.drewN g) := by
 have C := Ctx.start hp
 generalize sR [] = D at C
 have j : ∃ g, w = w.drewN g := ⟨0, rfl⟩
 unfold xH.f at H
 refine Calls.ofW Tryz.func138 rfl (by simp [Tryz.ntmps138]) <| W.sr rfl <| WL.rd to 1 rfl <| W.sr rfl <| WL.run to 1 rfl <| WL.ln (a.length : Int) rfl yH (by omega) <| WL.rd to 1 rfl <| W.ret ?_
 have l := Option.some.inj H
 subst l
 exact rH (sE rfl rfl) ⟨rfl, j⟩
def wE.f (k : Nat) (a : List sA) (b : Int) (d : Int) : Option Bool := if 0 ≤ b ∧ b < (a.length : Int) then (if 0 ≤ d ∧ d < (a.length : Int) then ((if ((a.getD b.toNat sA.z).used) < ((a.getD d.toNat sA.z).used) then (some (true)) else (if ((a.getD b.toNat sA.z).used) = ((a.getD d.toNat sA.z).used) then (some (decide (((a.getD b.toNat sA.z).id) < ((a.getD d.toNat sA.z).id)))) else (some (false)))).bind fun e => some e) else none) else none
theorem wE.calls (k w F I y N) (g : List sA) (h : Int) (j : Int) (hp : Pre w F []) (Z : N = g.length) (X : g.length ≤ y) (Y : y ≤ maxLen) (M : Sl sA.K F F I g) (u : Bool) (H : wE.f k g h j = some u) :
    Calls Tryz.prog 139 #[.slice I N y, iv h, iv j] w fun e w' => e = .returned (.bool u) ∧ (∃ G, w' = w.drewN G) := by
 have C := Ctx.start hp
 generalize sR [] = D at C
 have O : ∃ G, w = w.drewN G := ⟨0, rfl⟩
 unfold wE.f at H
 refine Calls.ofW Tryz.func139 rfl (by simp [Tryz.ntmps139]) <| W.sr rfl <| WL.rd to 1 rfl <| W.seq <| W.tY (by kernel_rfl) (by kernel_rfl) rfl ?_
 refine WQ.run to 2 rfl ?_
 obtain ⟨R, H⟩ := rV H
 obtain ⟨V, T, b, s⟩ := M (by omega)
 refine WQ.vl (fun _ => Yl.rW (i := h) rfl rfl b yH zQ (by omega)) ?_
 refine WQ.run to 1 rfl ?_
 obtain ⟨P, B, p⟩ := s h.toNat _ (getD_some (d := sA.z) (by omega))
 obtain ⟨rfl⟩ := sA.open B
 refine WQ.vl (fun _ => Yl.load (v := iv ((g.getD h.toNat sA.z).used)) rfl u_3 rfl ((((C.drewN _).fro)).cell (p 0 _ rfl))) ?_
 refine WQ.run to 2 rfl ?_
 obtain ⟨S, H⟩ := rV H
 refine WQ.vl (fun _ => Yl.rW (i := j) rfl rfl b yH zQ (by omega)) ?_
 refine WQ.run to 1 rfl ?_
 obtain ⟨Q, E, r⟩ := s j.toNat _ (getD_some (d := sA.z) (by omega))
 obtain ⟨rfl⟩ := sA.open E
 refine WQ.vl (fun _ => Yl.load (v := iv ((g.getD j.toNat sA.z).used)) rfl u_3 rfl ((((C.drewN _).fro)).cell (r 0 _ rfl))) ?_
 refine WQ.run to 2 rfl ?_
 obtain ⟨L, a, H⟩ := rE H
 refine WQ.cut (fun l => l 6 = .bool L) ?_ ?_
 ·rcases rT a with ⟨m, a⟩ | ⟨m, a⟩
  ·refine WQ.kn 18 (cb (decide_eq_true m)) <| WQ.sN 12 18 false rfl rfl <| WQ.HX 11 30 true rfl rfl <| WQ.sN 1 18 false rfl rfl <| WQ.run to 2 rfl ?_
   cases a
   exact WQ.done rfl
  refine WQ.kn 18 (cb (decide_eq_false m)) <| WQ.run to 2 rfl <| WQ.vOn rfl rfl (fun _ => Yl.rW (i := h) rfl rfl b yH zQ (by omega)) ?_
  refine WQ.run to 1 rfl <| WQ.vOn rfl rfl (fun _ => Yl.load (v := iv ((g.getD h.toNat sA.z).used)) rfl u_3 rfl ((((C.drewN _).fro)).cell (p 0 _ rfl))) ?_
  refine WQ.run to 2 rfl <| WQ.vOn rfl rfl (fun _ => Yl.rW (i := j) rfl rfl b yH zQ (by omega)) ?_
  refine WQ.run to 1 rfl <| WQ.vOn rfl rfl (fun _ => Yl.load (v := iv ((g.getD j.toNat sA.z).used)) rfl u_3 rfl ((((C.drewN _).fro)).cell (r 0 _ rfl))) ?_
  refine WQ.run to 2 rfl ?_
  rcases rT a with ⟨o, a⟩ | ⟨o, a⟩
  ·refine WQ.kn 30 (cb (decide_eq_true o)) <| WQ.run to 2 rfl <| WQ.vOn rfl rfl (fun _ => Yl.rW (i := h) rfl rfl b yH zQ (by omega)) ?_
   refine WQ.run to 1 rfl <| WQ.vOn rfl rfl (fun _ => Yl.load (v := iv ((g.getD h.toNat sA.z).id)) rfl u_3 rfl ((((C.drewN _).fro)).cell (p 1 _ rfl))) ?_
   refine WQ.run to 2 rfl <| WQ.vOn rfl rfl (fun _ => Yl.rW (i := j) rfl rfl b yH zQ (by omega)) ?_
   refine WQ.run to 1 rfl <| WQ.vOn rfl rfl (fun _ => Yl.load (v := iv ((g.getD j.toNat sA.z).id)) rfl u_3 rfl ((((C.drewN _).fro)).cell (r 1 _ rfl))) ?_
   refine WQ.run to 4 rfl ?_
   cases a
   exact WQ.done rfl
  refine WQ.kn 30 (cb (decide_eq_false o)) <| WQ.sN 11 30 true rfl rfl <| WQ.run to 3 rfl ?_
  cases a
  exact WQ.done rfl
 ·rintro l A
  intro t
  have U := Ctx.drewN C t
  have x := yX O t
  apply kn l (.c A .n)
  refine W.ret ?_
  have J := Option.some.inj H
  subst J
  exact rH (sE rfl rfl) ⟨rfl, x⟩
def wW.f (k : Nat) (b : List sA) (e : Int) (a : Int) : Option (List sA) := if 0 ≤ a ∧ a < (b.length : Int) then (if 0 ≤ e ∧ e < (b.length : Int) then ((some (b.set e.toNat (b.getD a.toNat sA.z))).bind fun d => if 0 ≤ a ∧ a < (d.length : Int) then ((some (d.set a.toNat (b.getD e.toNat sA.z))).bind fun g => some g) else none) else none) else none
theorem wW.calls (k w F L M p r) (a : List sA) (b : Int) (g : Int) (hp : Pre w F [r]) (ar : p = a.length) (G : Row sA.K F r (.slice L p M) a) (A : List sA) (H : wW.f k a b g = some A) :
    Calls Tryz.prog 140 #[.slice L p M, iv b, iv g] w fun e w' => ∃ J, e = .returned (.tuple #[]) ∧ Ctx w F (sR [r]) w' F [J] ∧ p = A.length ∧ Row sA.K F J (.slice L p M) A := by
 have C := Ctx.start hp
 generalize hD : sR [r] = D at C ⊢
 unfold wW.f at H
 refine Calls.ofW Tryz.func140 rfl (by simp [Tryz.ntmps140]) <| W.uF [([13, 15], r)] (by kernel_rfl) ?_
 have E := Ctx.drewN C 1
 refine WA.sZ [(0, none), (1, none), (2, none), (3, none), (4, none), (5, none), (6, none), (7, some 0), (8, none), (9, none), (10, none), (11, some 0), (12, none)] ⟨(Ctx.rO 0 E rfl), trivial⟩ (by kernel_rfl) <| WT.run to 6 rfl ?_
 obtain ⟨am, H⟩ := rV H
 obtain ⟨ag, Y, h, x⟩ := (Row.sl G) (by omega)
 refine WT.val rfl (fun _ hC_ => Yl.rW (i := g) rfl rfl h yH zQ (by omega)) ?_
 obtain ⟨ak, R, T⟩ := x g.toNat _ (getD_some (d := sA.z) (by omega))
 obtain ⟨rfl⟩ := sA.open R
 let aa : LV := [iv ((a.getD g.toNat sA.z).used), iv ((a.getD g.toNat sA.z).id)]
 refine WT.val rfl (fun _ hC_ => Yl.wC (cs := aa) rfl CA rfl zQ (fun j u hu => by rw [vL]; exact ((show Sub r _ from hC_)).cell (T _ _ hu))) ?_
 refine WT.run to 2 rfl ?_
 obtain ⟨an, H⟩ := rV H
 refine WT.val rfl (fun _ hC_ => Yl.rW (i := b) rfl rfl h yH zQ (by omega)) ?_
 obtain ⟨al, S, U⟩ := x b.toNat _ (getD_some (d := sA.z) (by omega))
 obtain ⟨rfl⟩ := sA.open S
 let ab : LV := [iv ((a.getD b.toNat sA.z).used), iv ((a.getD b.toNat sA.z).id)]
 refine WT.val rfl (fun _ hC_ => Yl.wC (cs := ab) rfl CA rfl zQ (fun j u hu => by rw [vL]; exact ((show Sub r _ from hC_)).cell (U _ _ hu))) ?_
 refine WT.val rfl (fun _ hC_ => Yl.rW (i := b) rfl rfl h yH zQ (by omega)) ?_
 refine WT.done ?_
 have N : b.toNat < a.length := by first | omega | (simp only [List.length_set, List.length_replicate] at *; omega)
 obtain ⟨aj, au, V, ac, l⟩ := zD (P := Tryz.prog) (t := 149) sA.K [] [] E G h b.toNat 0 N sA.z (.agg (List.toArray aa)) (aa) rfl (rR rfl) (Nat.le_of_ble_eq_true rfl) zQ (a.getD g.toNat sA.z) (fun _ h_ => Ah h_ (sA.mk' _ (a.getD g.toNat sA.z)  )) ⟨ag, Y + b.toNat * 2, none⟩ rfl
 have Q : p = (a.set b.toNat (a.getD g.toNat sA.z)).length := by rw [List.length_set]; omega
 obtain ⟨B, m, H⟩ := rE H
 replace m := Option.some.inj m
 rw [m] at l Q
 have ad : Cx [aj] := ac
 refine WA.up1 13 (by kernel_rfl) (Up.skip rfl rfl (V _ _ _ _ rfl rfl) ⟨trivial, trivial⟩ ?_)
 obtain ⟨ao, H⟩ := rV H
 obtain ⟨ah, Z, s, ap⟩ := (Row.sl l) (by omega)
 refine WA.take none [] 14 rfl (by kernel_rfl) (by kernel_rfl) rfl trivial ⟨trivial, trivial⟩ (fun _ hC_ => Yl.rW (i := g) rfl rfl s yH zQ (by omega)) ?_
 have O : g.toNat < B.length := by first | omega | (simp only [List.length_set, List.length_replicate] at *; omega)
 obtain ⟨I, av, X, ae, v⟩ := zD (P := Tryz.prog) (t := 149) sA.K [] [] ad l s g.toNat 0 O sA.z (.agg (List.toArray ab)) (ab) rfl (rR rfl) (Nat.le_of_ble_eq_true rfl) zQ (a.getD b.toNat sA.z) (fun _ h_ => Ah h_ (sA.mk' _ (a.getD b.toNat sA.z)  )) ⟨ah, Z + g.toNat * 2, none⟩ rfl
 have y : p = (B.set g.toNat (a.getD b.toNat sA.z)).length := by rw [List.length_set]; omega
 obtain ⟨aq, o, H⟩ := rE H
 replace o := Option.some.inj o
 rw [o] at v y
 have af : Cx [I] := ae
 refine WA.up1 15 (by kernel_rfl) (Up.skip rfl rfl (X _ _ _ _ rfl rfl) ⟨trivial, trivial⟩ ?_)
 refine WA.done (by kernel_rfl) ?_
 have ai := Option.some.inj H
 subst ai
 exact B2 (DU rfl ) ⟨I, rfl, af, y, v⟩
def xQ.f (k : Nat) (a : List sA) : Option (sA × (List sA)) := if 0 ≤ (rB ((a.length : Int) - 1)) ∧ (rB ((a.length : Int) - 1)) < (a.length : Int) then (if 0 ≤ (rB ((a.length : Int) - 1)) ∧ (rB ((a.length : Int) - 1)) ≤ (a.length : Int) then (some (a.getD (rB ((a.length : Int) - 1)).toNat sA.z, a.take (rB ((a.length : Int) - 1)).toNat)) else none) else none
theorem xQ.calls (k w F b g l m o h) (a : List sA) (hp : Pre w F [CH.row b g [.slice l o m], h]) (ag : o = a.length) (p : Row sA.K F h (.slice l o m) a) (t : sA) (x : List sA) (H : xQ.f k a = some (t, x)) :
    Calls Tryz.prog 141 #[.pointer (some ⟨b, g, none⟩)] w fun e w' => ∃ y E r I, e = .returned (.iface 149 (.agg (List.toArray [iv t.used, iv t.id]))) ∧ Ctx w F (sR [CH.row b g [.slice l o m], h]) w' F [CH.row b g [.slice y r E], I] ∧ r = x.length ∧ Row sA.K F I (.slice y r E) x := by
 have C := Ctx.start hp
 generalize hD : sR [CH.row b g [.slice l o m], h] = D at C ⊢
 unfold xQ.f at H
 refine Calls.ofW Tryz.func141 rfl (by simp [Tryz.ntmps141]) <| W.sr rfl <| WL.rd to 1 rfl <| W.sr rfl <| WL.run to 2 rfl <| WL.lv C 0 0 rfl rfl yH rfl rfl <| WL.ln (a.length : Int) rfl yH (by omega) <| WL.rd to 2 rfl <| W.sr rfl ?_
 refine WL.run to 2 rfl <| WL.lv C 0 0 rfl rfl yH rfl rfl <| WL.run to 1 rfl ?_
 obtain ⟨af, H⟩ := rV H
 obtain ⟨ae, ab, J, N⟩ := (Row.sl p) (by omega)
 refine WL.val (Yl.rW (i := rB ((a.length : Int) - 1)) rfl rfl J yH zQ (by omega)) ?_
 obtain ⟨Z, Q, R⟩ := N (rB ((a.length : Int) - 1)).toNat _ (getD_some (d := sA.z) (by omega))
 obtain ⟨rfl⟩ := sA.open Q
 let s : LV := [iv ((a.getD (rB ((a.length : Int) - 1)).toNat sA.z).used), iv ((a.getD (rB ((a.length : Int) - 1)).toNat sA.z).id)]
 refine WL.val (Yl.wC (cs := s) rfl CA rfl zQ (fun j u hu => by rw [vL]; exact ((Ctx.rO 1 C rfl)).cell (R _ _ hu))) ?_
 obtain ⟨G, ah, S, U⟩ := sU (P := Tryz.prog) (e := 149) [iv 0, iv 0] C Jk rfl
 refine WL.val (S _ _) ?_
 let ac : CH := CH.row b g [.slice l o m]
 refine WL.st U 0 0 s rfl rfl rfl rfl (Put.lit 0 rfl) (rR rfl) zQ fun ad (A : Cx [r0 G s, ac, h]) => ?_
 refine WL.done <| W.sr rfl <| WL.run to 3 rfl <| WL.lv A 1 0 rfl rfl yH rfl rfl <| WL.run to 1 rfl ?_
 obtain ⟨M, H⟩ := rV H
 have aa := (Row.rP p).1
 obtain ⟨O, L⟩ := Row.take p (rB ((a.length : Int) - 1)).toNat (by omega)
 refine WL.val (Yl.GL rfl yH zQ rfl ⟨M.1, by omega⟩) <| WL.run to 1 rfl ?_
 let T : LV := [.slice l ((rB ((a.length : Int) - 1)).toNat) m]
 refine WL.st A 1 0 T rfl rfl rfl rfl (Put.lit 0 rfl) (rR rfl) Jl fun ad (B : Cx [r0 G s, CH.row b g T, h]) => ?_
 refine WL.done <| W.sr rfl <| WL.la B 0 rfl rfl CA rfl zQ <| WL.val (Yl.E3 (v := .agg (List.toArray s)) rfl CA rfl) <| WL.rd to 1 rfl <| W.ret ?_
 have V : Cx [CH.row b g T, h] := B.pick [1, 2] rfl
 obtain ⟨X, Y⟩ := sp H
 subst X Y
 exact rH (sE rfl rfl) ⟨l, m, (rB ((a.length : Int) - 1)).toNat, h, rfl, V, O, L⟩
def vZ.l1 : Nat → Int → Int → List sA → Option (Int × (List sA))
  | 0, _, _, _ => none
  | k + 1, e, a, b => if ((decide ((rB ((rB (2 * a)) + 1)) ≥ e)) || (decide ((rB ((rB (2 * a)) + 1)) < 0))) = true then (some (a, b)) else (((if (rB ((rB ((rB (2 * a)) + 1)) + 1)) < e then ((wE.f k b (rB ((rB ((rB (2 * a)) + 1)) + 1)) (rB ((rB (2 * a)) + 1))).bind fun g => some g) else (some false)).bind fun j => if j = true then (some (rB ((rB ((rB (2 * a)) + 1)) + 1))) else (some (rB ((rB (2 * a)) + 1)))).bind fun d => (wE.f k b d a).bind fun h => if h = true then ((wW.f k b a d).bind fun i => vZ.l1 k e d i) else (some (a, b)))
def vZ.f (k : Nat) (e : List sA) (d : Int) (g : Int) : Option (Bool × (List sA)) := (vZ.l1 k g d e).bind fun ⟨a, b⟩ => some (decide (a > d), b)
theorem vZ.calls (k w F x y aa af Z ai) (am : List sA) (S : Int) (B : Int) (hp : Pre w F [CH.row x y [.slice aa Z af], ai]) (a1 : Z = am.length) (a0 : Row sA.K F ai (.slice aa Z af) am) (aK : Bool) (aj : List sA) (H : vZ.f k am S B = some (aK, aj)) :
    Calls Tryz.prog 98 #[.iface 147 (.pointer (some ⟨x, y, none⟩)), iv S, iv B] w fun e w' => ∃ ab ag V ah, e = .returned (.bool aK) ∧ Ctx w F (sR [CH.row x y [.slice aa Z af], ai]) w' F [CH.row x y [.slice ab V ag], ah] ∧ V = aj.length ∧ Row sA.K F ah (.slice ab V ag) aj := by
 have C := Ctx.start hp
 generalize hD : sR [CH.row x y [.slice aa Z af], ai] = D at C ⊢
 unfold vZ.f at H
 refine Calls.ofW Tryz.func98 rfl (by simp [Tryz.ntmps98]) <| W.sr rfl <| WL.rd to 1 rfl <| W.sr rfl <| WL.rd to 2 rfl <| W.seq ?_
 obtain ⟨⟨al, Y⟩, a, H⟩ := rE H
 refine W.vG (fun b r => ∃ I J E Q, Kn b [(1, iv S), (7, iv al)] ∧ Ctx w F D r F [CH.row x y [.slice I E J], Q] ∧ E = Y.length ∧ Row sA.K F Q (.slice I E J) Y) ?_ ?_
 ·refine W.block <| W.loop (fun aW b r => ∃ (d : Int) (s : List sA), ∃ h i g j, Kn b [(0, .iface 147 (.pointer (some ⟨x, y, none⟩))), (1, iv S), (2, iv B), (7, iv d)] ∧ Ctx w F D r F [CH.row x y [.slice h g i], j] ∧ oW sA.K F j h g i s (vZ.l1 aW B d s = some (al, Y))) k ⟨S, am, aa, af, Z, ai, rfl, C, a1, a0, a⟩ ?_
  clear a
  rintro aW b r ⟨d, s, h, i, g, j, ax, ac, u, l, a⟩
  rcases aW with _ | P
  · exact absurd a (by simp [vZ.l1])
  rw [vZ.l1] at a
  apply ks b ax
  refine W.block <| W.sr rfl <| WL.rd to 4 rfl <| W.seq <| W.sr rfl <| WL.run to 4 rfl ?_
  let G : CH := CH.row x y [.slice h g i]
  refine WL.cut (fun b r => b 21 = .bool ((decide ((rB ((rB (2 * d)) + 1)) ≥ B)) || (decide ((rB ((rB (2 * d)) + 1)) < 0))) ∧ b 0 = .iface 147 (.pointer (some ⟨x, y, none⟩)) ∧ b 1 = iv S ∧ b 2 = iv B ∧ b 7 = iv d ∧ b 8 = iv (rB ((rB (2 * d)) + 1)) ∧ Ctx w F D r F [G, j]) ?_ ?_
  ·rcases Bool.eq_false_or_eq_true (decide ((rB ((rB (2 * d)) + 1)) ≥ B)) with t | t
   ·exact WL.kn 18 (cb t) <| WL.sN 2 18 false rfl rfl <| WL.run to 1 rfl <| WL.done ⟨(cb (show true = ((decide ((rB ((rB (2 * d)) + 1)) ≥ B)) || (decide ((rB ((rB (2 * d)) + 1)) < 0))) from by simp [t])), rfl, rfl, rfl, rfl, rfl, ac⟩
   ·exact WL.kn 18 (cb t) <| WL.run to 3 rfl <| WL.done ⟨(cb (show (decide ((rB ((rB (2 * d)) + 1)) < 0)) = ((decide ((rB ((rB (2 * d)) + 1)) ≥ B)) || (decide ((rB ((rB (2 * d)) + 1)) < 0))) from by simp [t])), rfl, rfl, rfl, rfl, rfl, ac⟩
  ·rintro b r ⟨ay, az, aA, aB, aC, aD, A⟩
   apply kn b (.c ay (.c az (.c aA (.c aB (.c aC (.c aD .n))))))
   rcases rT a with ⟨L, a⟩ | ⟨L, a⟩
   ·refine W.uI (cb L) <| W.exit <| rM <| H5 rfl <| rM <| sL ?_
    cases a
    refine rF ?_
    exact ⟨h, i, g, j, rfl, A, u, l⟩
   refine W.uD (cb (Bool.eq_false_iff.2 L)) <| W.skip <| W.sr rfl <| WL.rd to 2 rfl <| W.seq ?_
   obtain ⟨R, m, a⟩ := rE a
   refine W.vG (fun b r => Kn b [(0, .iface 147 (.pointer (some ⟨x, y, none⟩))), (1, iv S), (2, iv B), (7, iv d), (9, iv R)] ∧ Ctx w F D r F [G, j]) ?_ ?_
   ·refine W.sr rfl <| WL.rd to 3 rfl <| W.seq ?_
    obtain ⟨aZ, p, m⟩ := rE m
    refine W.vG (fun b r => Kn b [(0, .iface 147 (.pointer (some ⟨x, y, none⟩))), (1, iv S), (2, iv B), (7, iv d), (9, iv (rB ((rB (2 * d)) + 1))), (10, iv (rB ((rB ((rB (2 * d)) + 1)) + 1))), (33, .bool aZ)] ∧ Ctx w F D r F [G, j]) ?_ ?_
    ·refine W.region rfl ?_
     refine WL.run to 4 rfl ?_
     rcases rT p with ⟨M, p⟩ | ⟨M, p⟩
     ·refine WL.kn 28 (cb (decide_eq_true M)) <| WL.run to 3 rfl <| WL.on rfl rfl ?_
      obtain ⟨aS, aG, aI, (aM : Cx [G])⟩ := Ctx.fzI 1 A rfl
      obtain ⟨aX, ap, p⟩ := rE p
      refine WL.cq A (wE.calls P _ aS h i g s (rB ((rB ((rB (2 * d)) + 1)) + 1)) (rB ((rB (2 * d)) + 1)) aM.tX u (Row.rP l).1 (Row.rP l).2.1 (Sl.mono (Row.sl l) aG aI) aX ap) (vD.GY (v := .slice h g i) rfl (by kernel_rfl) Cb (Am (o := 0) (cs := [.slice h g i]) (v := .slice h g i) yH rfl (Ctx.rO 0 A rfl) rfl) Tryz.func139 (by kernel_rfl) rfl (Aq (.cons rfl (.cons rfl .nil)))) fun r aN => ?_
      refine WL.rd to 1 rfl ?_
      cases p
      refine rF ?_
      exact ⟨rfl, aN⟩
     refine WL.kn 28 (cb (decide_eq_false M)) <| WL.sN 4 28 true rfl rfl <| WL.rd to 1 rfl ?_
     cases p
     refine rF ?_
     exact ⟨rfl, A⟩
    ·rintro b r ⟨aF, ad⟩
     apply ks b aF
     rcases rT m with ⟨N, m⟩ | ⟨N, m⟩
     ·refine W.uI (cb N) <| W.region rfl ?_
      refine WL.rd to 2 rfl ?_
      cases m
      refine rF ?_
      exact ⟨rfl, ad⟩
     refine W.uD (cb (Bool.eq_false_iff.2 N)) <| W.skip ?_
     cases m
     refine rF ?_
     exact ⟨rfl, ad⟩
   ·rintro b r ⟨aE, T⟩
    apply ks b aE
    refine W.seq <| W.sr rfl <| WL.run to 3 rfl ?_
    obtain ⟨aT, aH, aJ, (aO : Cx [G])⟩ := Ctx.fzI 1 T rfl
    obtain ⟨aY, aq, a⟩ := rE a
    refine WL.cq T (wE.calls P _ aT h i g s R d aO.tX u (Row.rP l).1 (Row.rP l).2.1 (Sl.mono (Row.sl l) aH aJ) aY aq) (vD.GY (v := .slice h g i) rfl (by kernel_rfl) Cb (Am (o := 0) (cs := [.slice h g i]) (v := .slice h g i) yH rfl (Ctx.rO 0 T rfl) rfl) Tryz.func139 (by kernel_rfl) rfl (Aq (.cons rfl (.cons rfl .nil)))) fun r U => ?_
    refine WL.rd to 1 rfl ?_
    rcases rT a with ⟨O, a⟩ | ⟨O, a⟩
    ·refine W.uD (cb (zP O)) <| W.skip <| W.sr rfl <| WL.run to 3 rfl ?_
     have ae : Cx [j, G] := U.pick [1, 0] rfl
     obtain ⟨ak, ar, a⟩ := rE a
     refine WL.sI (wW.calls P _ F h i g j s d R (ae.pq 1) u l ak ar) (vD.GY (v := .slice h g i) rfl (by kernel_rfl) Cb (Am (o := 0) (cs := [.slice h g i]) (v := .slice h g i) yH rfl (Ctx.rO 0 U rfl) rfl) Tryz.func140 (by kernel_rfl) rfl (Aq (.cons rfl (.cons rfl .nil)))) ?_
     rintro a2 r ⟨X, rfl, aP, av, ao⟩
     refine ⟨_, rfl, ?_⟩
     have aQ : Cx [X, G] := Ctx.cn 1 ae aP
     refine WL.done <| W.region rfl ?_
     refine WL.rd to 2 rfl <| tH ?_
     have aR : Cx [G, X] := aQ.pick [1, 0] rfl
     exact rF ⟨P, Nat.lt_succ_self _, R, ak, h, i, g, X, rfl, aR, av, ao, a⟩
    refine W.uI (cb (zO O)) <| W.exit <| rM <| H5 rfl <| rM <| sL ?_
    cases a
    refine rF ?_
    exact ⟨h, i, g, j, rfl, U, u, l⟩
 ·rintro b r ⟨I, J, E, Q, aw, aL, au, an⟩
  apply ks b aw
  refine W.sr rfl <| WL.rd to 4 rfl <| W.ret ?_
  obtain ⟨aU, aV⟩ := sp H
  subst aU aV
  exact rH (sE rfl rfl) ⟨I, J, E, Q, rfl, aL, au, an⟩
def wK.l1 : Nat → Int → Int → List sA → Option (List sA)
  | 0, _, _, _ => none
  | k + 1, d, a, b => if a ≥ 0 then ((vZ.f k b a d).bind fun ⟨g, e⟩ => wK.l1 k d (rB (a - 1)) e) else (some b)
def wK.f (k : Nat) (b : List sA) : Option (List sA) := (xH.f k b).bind fun a => (wK.l1 k a (rB ((rB (a.tdiv 2)) - 1)) b).bind fun d => some d
theorem wK.calls (k w F i j x y p aa) (S : List sA) (hp : Pre w F [CH.row i j [.slice x p y], aa]) (ah : p = S.length) (N : Row sA.K F aa (.slice x p y) S) (ab : List sA) (H : wK.f k S = some ab) :
    Calls Tryz.prog 92 #[.iface 147 (.pointer (some ⟨i, j, none⟩))] w fun e w' => ∃ R U G Z, e = .returned (.tuple #[]) ∧ Ctx w F (sR [CH.row i j [.slice x p y], aa]) w' F [CH.row i j [.slice R G U], Z] ∧ G = ab.length ∧ Row sA.K F Z (.slice R G U) ab := by
 have C := Ctx.start hp
 generalize hD : sR [CH.row i j [.slice x p y], aa] = D at C ⊢
 unfold wK.f at H
 refine Calls.ofW Tryz.func92 rfl (by simp [Tryz.ntmps92]) <| W.sr rfl <| WL.run to 1 rfl ?_
 let aA : CH := CH.row i j [.slice x p y]
 obtain ⟨az, aq, ar, (av : Cx [aA])⟩ := Ctx.fzI 1 C rfl
 obtain ⟨s, an, H⟩ := rE H
 refine WL.cq C (xH.calls k _ az x y p S av.tX ah (Row.rP N).1 (Row.rP N).2.1 (Sl.mono (Row.sl N) aq ar) s an) (vD.GY (v := .slice x p y) rfl (by kernel_rfl) Cb (Am (o := 0) (cs := [.slice x p y]) (v := .slice x p y) yH rfl (Ctx.rO 0 C rfl) rfl) Tryz.func138 (by kernel_rfl) rfl (Aq .nil)) fun I aw => ?_
 refine WL.rd to 1 rfl <| W.sr rfl <| WL.run to 1 rfl <| WL.val (Yl.quo (m := s) (n := 2) (r := rB (s.tdiv 2)) rfl rfl (by decide) rfl) <| WL.rd to 2 rfl ?_
 obtain ⟨ad, a, H⟩ := rE H
 refine W.vG (fun l I => ∃ J L B P, Ctx w F D I F [CH.row i j [.slice J B L], P] ∧ B = ad.length ∧ Row sA.K F P (.slice J B L) ad) ?_ ?_
 ·refine W.block <| W.loop (fun al l I => ∃ (t : Int) (u : List sA), ∃ g h b d, Kn l [(0, .iface 147 (.pointer (some ⟨i, j, none⟩))), (2, iv s), (3, iv t)] ∧ Ctx w F D I F [CH.row i j [.slice g b h], d] ∧ oW sA.K F d g b h u (wK.l1 al s t u = some ad)) k ⟨rB ((rB (s.tdiv 2)) - 1), S, x, y, p, aa, rfl, aw, ah, N, a⟩ ?_
  clear a
  rintro al l I ⟨t, u, g, h, b, d, ap, E, O, M, a⟩
  rcases al with _ | V
  · exact absurd a (by simp [wK.l1])
  rw [wK.l1] at a
  apply ks l ap
  refine W.seq <| W.sr rfl <| WL.rd to 2 rfl ?_
  rcases rT a with ⟨A, a⟩ | ⟨A, a⟩
  ·refine W.cT A rfl <| W.skip <| W.seq <| W.block <| W.region rfl ?_
   refine WL.run to 3 rfl ?_
   obtain ⟨⟨au, ac⟩, af, a⟩ := rE a
   let ay : CH := CH.row i j [.slice g b h]
   refine WL.sI (vZ.calls V _ F i j g h b d u t s (E.pq 2) O M au ac af) (ne.fr rfl rfl) ?_
   rintro aC I ⟨Q, T, X, Y, rfl, ai, ag, ae⟩
   refine ⟨_, rfl, ?_⟩
   let aB : CH := CH.row i j [.slice Q X T]
   have aj : Cx [aB, Y] := Ctx.cn 2 E ai
   refine WL.done <| tH <| W.region rfl ?_
   exact WL.rd to 3 rfl <| rF ⟨V, Nat.lt_succ_self _, rB (t - 1), ac, Q, T, X, Y, rfl, aj, ag, ae, a⟩
  refine W.cF A rfl <| W.exit <| rM <| rM <| sL ?_
  cases a
  refine rF ?_
  exact ⟨g, h, b, d, E, O, M⟩
 ·rintro l I ⟨J, L, B, P, ax, ao, am⟩
  have ak := Option.some.inj H
  subst ak
  exact B2 (DU rfl ) ⟨J, L, B, P, rfl, ax, ao, am⟩
def AG.f (k : Nat) (b : List sA) : Option (sA × (List sA)) := (xH.f k b).bind fun a => (wW.f k b 0 (rB (a - 1))).bind fun d => (vZ.f k d 0 (rB (a - 1))).bind fun ⟨i, e⟩ => (xQ.f k e).bind fun ⟨g, h⟩ => some (g, h)
theorem AG.calls (k w F g h b d a j) (r : List sA) (hp : Pre w F [CH.row g h [.slice b a d], j]) (O : a = r.length) (m : Row sA.K F j (.slice b a d) r) (t : sA) (x : List sA) (H : AG.f k r = some (t, x)) :
    Calls Tryz.prog 93 #[.iface 147 (.pointer (some ⟨g, h, none⟩))] w fun e w' => ∃ B N s S, e = .returned (.iface 149 (.agg (List.toArray [iv t.used, iv t.id]))) ∧ Ctx w F (sR [CH.row g h [.slice b a d], j]) w' F [CH.row g h [.slice B s N], S] ∧ s = x.length ∧ Row sA.K F S (.slice B s N) x := by
 have C := Ctx.start hp
 generalize hD : sR [CH.row g h [.slice b a d], j] = D at C ⊢
 unfold AG.f at H
 refine Calls.ofW Tryz.func93 rfl (by simp [Tryz.ntmps93]) <| W.sr rfl <| WL.rd to 1 rfl <| W.sr rfl <| WL.run to 1 rfl ?_
 let l : CH := CH.row g h [.slice b a d]
 obtain ⟨ay, ag, ah, (ak : Cx [l])⟩ := Ctx.fzI 1 C rfl
 obtain ⟨u, Z, H⟩ := rE H
 refine WL.cq C (xH.calls k _ ay b d a r ak.tX O (Row.rP m).1 (Row.rP m).2.1 (Sl.mono (Row.sl m) ag ah) u Z) (vD.GY (v := .slice b a d) rfl (by kernel_rfl) Cb (Am (o := 0) (cs := [.slice b a d]) (v := .slice b a d) yH rfl (Ctx.rO 0 C rfl) rfl) Tryz.func138 (by kernel_rfl) rfl (Aq .nil)) fun aj E => ?_
 refine WL.rd to 2 rfl <| W.sr rfl <| WL.run to 2 rfl ?_
 have G : Cx [j, l] := E.pick [1, 0] rfl
 obtain ⟨T, aa, H⟩ := rE H
 refine WL.sI (wW.calls k _ F b d a j r 0 (rB (u - 1)) (G.pq 1) O m T aa) (vD.GY (v := .slice b a d) rfl (by kernel_rfl) Cb (Am (o := 0) (cs := [.slice b a d]) (v := .slice b a d) yH rfl (Ctx.rO 0 E rfl) rfl) Tryz.func140 (by kernel_rfl) rfl (Aq (.cons rfl (.cons rfl .nil)))) ?_
 rintro au aj ⟨i, rfl, al, ad, V⟩
 refine ⟨_, rfl, ?_⟩
 have am : Cx [i, l] := Ctx.cn 1 G al
 refine WL.done <| W.sr rfl <| WL.run to 2 rfl ?_
 have I : Cx [l, i] := am.pick [1, 0] rfl
 obtain ⟨⟨av, U⟩, ab, H⟩ := rE H
 refine WL.sI (vZ.calls k _ F g h b d a i T 0 (rB (u - 1)) (I.pq 2) ad V av U ab) (ne.fr rfl rfl) ?_
 rintro au aj ⟨y, L, P, p, rfl, an, ae, X⟩
 refine ⟨_, rfl, ?_⟩
 let ai : CH := CH.row g h [.slice y P L]
 have J : Cx [ai, p] := Ctx.cn 2 I an
 refine WL.done <| W.sr rfl <| WL.run to 1 rfl ?_
 obtain ⟨⟨aw, ax⟩, ac, H⟩ := rE H
 refine WL.sI (xQ.calls k _ F g h y L P p U (J.pq 2) ae X aw ax ac) (vD.inv rfl (by kernel_rfl) Cb Tryz.func141 (by kernel_rfl) rfl (Aq .nil)) ?_
 rintro au aj ⟨A, M, Q, R, rfl, ao, af, Y⟩
 refine ⟨_, rfl, ?_⟩
 let az : CH := CH.row g h [.slice A Q M]
 have ap : Cx [az, R] := Ctx.cn 2 J ao
 refine WL.rd to 1 rfl <| W.ret ?_
 obtain ⟨aq, ar⟩ := sp H
 subst aq ar
 exact rH (sE rfl rfl) ⟨A, M, Q, R, rfl, ap, af, Y⟩
def wO.l1 : Nat → Int → List Int → Int → List sA → Option (List Int)
  | 0, _, _, _, _ => none
  | k + 1, h, b, a, g => if a < ((List.replicate h.toNat (0 : Int)).length : Int) then ((AG.f k g).bind fun ⟨d, e⟩ => if 0 ≤ a ∧ a < (b.length : Int) then (wO.l1 k h (b.set a.toNat d.id) (rB (a + 1)) e) else none) else (some b)
def wO.f (k : Nat) (e : List Int) (g : List Bool) (h : Int) (a : Int) : Option ((List Int) × Int) := (wA.f k e g).bind fun i => if (((!i) || (decide (a < 1))) || (decide (h < 0))) = true then (some (([] : List Int), 1)) else ((vJ.f k e g h).bind fun ⟨b, j⟩ => if j < a then (some (([] : List Int), 180)) else (if (b.length : Int) < a then (some (([] : List Int), 70)) else ((wK.f k b).bind fun l => if 0 ≤ a ∧ a * 8 ≤ 140737488355328 then ((wO.l1 k a (List.replicate a.toNat (0 : Int)) 0 l).bind fun d => some (d, 0)) else none)))
theorem wO.calls (k w F ai ag aC) (ae : List Int) (am ah U) (af : List Bool) (N : Int) (p : Int) (hp : Pre w F []) (a3 : aC = ae.length) (a1 : ae.length ≤ ag) (a2 : ag ≤ maxLen) (a0 : Sl KI F F ai ae) (az : U = af.length) (ax : af.length ≤ ah) (ay : ah ≤ maxLen) (aw : Sl Kd.bool F F am af) (aF : List Int) (a6 : Int) (H : wO.f k ae af N p = some (aF, a6)) :
    Calls Tryz.prog 80 #[.slice ai aC ag, .slice am U ah, iv N, iv p] w fun e w' => ∃ ak au aa aE, e = .returned (.tuple #[(.slice ak aa au), (iv a6)]) ∧ Ctx w F (sR []) w' F [aE] ∧ aa = aF.length ∧ Row KI F aE (.slice ak aa au) aF := by
 have C := Ctx.start hp
 generalize hD : sR [] = D at C ⊢
 unfold wO.f at H
 refine Calls.ofW Tryz.func80 rfl (by simp [Tryz.ntmps80]) <| W.sr rfl <| WL.rd to 2 rfl <| W.seq <| W.sr rfl <| WL.run to 2 rfl ?_
 obtain ⟨L, bn, H⟩ := rE H
 refine WL.cq C (wA.calls k _ F ai ag aC ae am ah U af C.tX a3 a1 a2 a0 az ax ay aw L bn) (ne.fr rfl rfl) fun u an => ?_
 refine WL.run to 2 rfl <| WL.cut (fun b u => b 25 = .bool (((!L) || (decide (p < 1))) || (decide (N < 0))) ∧ b 0 = .slice ai aC ag ∧ b 1 = .slice am U ah ∧ b 2 = iv N ∧ b 3 = iv p ∧ Ctx w F D u F []) ?_ ?_
 ·rcases Bool.eq_false_or_eq_true (!L) with r | r
  ·exact WL.kn 18 (cb r) <| WL.sN 2 18 false rfl rfl <| WL.run to 2 rfl <| WL.sN 2 22 false rfl rfl <| WL.run to 1 rfl <| WL.done ⟨(cb (show true = (((!L) || (decide (p < 1))) || (decide (N < 0))) from by simp [r])), rfl, rfl, rfl, rfl, an⟩
  ·refine WL.kn 18 (cb r) <| WL.run to 4 rfl ?_
   rcases Bool.eq_false_or_eq_true (decide (p < 1)) with E | E
   ·exact WL.kn 22 (cb E) <| WL.sN 2 22 false rfl rfl <| WL.run to 1 rfl <| WL.done ⟨(cb (show true = (((!L) || (decide (p < 1))) || (decide (N < 0))) from by simp [r, E])), rfl, rfl, rfl, rfl, an⟩
   ·exact WL.kn 22 (cb E) <| WL.run to 3 rfl <| WL.done ⟨(cb (show (decide (N < 0)) = (((!L) || (decide (p < 1))) || (decide (N < 0))) from by simp [r, E])), rfl, rfl, rfl, rfl, an⟩
 ·rintro b u ⟨bt, bu, bv, bw, bx, aq⟩
  apply kn b (.c bt (.c bu (.c bv (.c bw (.c bx .n)))))
  rcases rT H with ⟨X, H⟩ | ⟨X, H⟩
  ·refine W.uI (cb X) <| W.sr rfl <| WL.rd to 2 rfl <| W.ret <| rS ?_
   have bE : Cx [CH.emp] := aq.pick [0] rfl
   obtain ⟨bP, bQ⟩ := sp H
   subst bP bQ
   exact rH (yI rfl rfl rfl) ⟨none, 0, 0, CH.emp, rfl, bE, rfl, (Row.nil _ _)⟩
  refine W.uD (cb (Bool.eq_false_iff.2 X)) <| W.skip <| W.sr rfl <| WL.run to 3 rfl ?_
  obtain ⟨⟨aH, bZ⟩, bo, H⟩ := rE H
  refine WL.sI (vJ.calls k _ F ai ag aC ae am ah U af N aq.tX a3 a1 a2 a0 az ax ay aw aH bZ bo) (ne.fr rfl rfl) ?_
  rintro bW u ⟨al, av, aD, V, rfl, bG, bq, bj⟩
  refine ⟨_, rfl, ?_⟩
  have bH : Cx [V] := Ctx.wS aq bG
  refine WL.run to 3 rfl ?_
  obtain ⟨j, b4, bz, bI⟩ := sU (P := Tryz.prog) (e := 143) [.slice none 0 0] bH JY rfl
  refine WL.val (bz _ _) ?_
  let bB : CH := r0 j [.slice al aD av]
  refine WL.st bI 0 0 [.slice al aD av] rfl rfl rfl rfl (Put.lit 0 rfl) (rR rfl) Jl fun u (T : Cx [bB, V]) => ?_
  refine WL.rd to 1 rfl <| W.seq <| W.block <| W.sr rfl <| WL.rd to 4 rfl ?_
  rcases rT H with ⟨Y, H⟩ | ⟨Y, H⟩
  ·refine W.cT Y rfl <| W.sr rfl <| WL.rd to 2 rfl <| W.ret <| uX <| rS ?_
   have bJ : Cx [CH.emp] := T.pick [2] rfl
   obtain ⟨bR, bS⟩ := sp H
   subst bR bS
   exact rH (yI rfl rfl rfl) ⟨none, 0, 0, CH.emp, rfl, bJ, rfl, (Row.nil _ _)⟩
  refine W.cF Y rfl <| W.sr rfl <| WL.lv T 0 0 rfl rfl yH rfl rfl <| WL.ln (aH.length : Int) rfl yH (by omega) <| WL.rd to 3 rfl ?_
  rcases rT H with ⟨Z, H⟩ | ⟨Z, H⟩
  ·refine W.cT Z rfl <| W.sr rfl <| WL.rd to 2 rfl <| W.ret <| uX <| rS ?_
   have bK : Cx [CH.emp] := T.pick [2] rfl
   obtain ⟨bU, bV⟩ := sp H
   subst bU bV
   exact rH (yI rfl rfl rfl) ⟨none, 0, 0, CH.emp, rfl, bK, rfl, (Row.nil _ _)⟩
  refine W.cF Z rfl <| W.skip <| tH <| W.sr rfl <| WL.val (Yl.E3 (v := pt j) rfl Cb rfl) ?_
  obtain ⟨a7, bp, H⟩ := rE H
  refine WL.sI (wK.calls k _ F j 0 al av aD V aH (T.pq 2) bq bj a7 bp) (ne.fr rfl rfl) ?_
  rintro bW u ⟨aY, aZ, a4, a5, rfl, bL, br, bk⟩
  refine ⟨_, rfl, ?_⟩
  let b2 : CH := r0 j [.slice aY a4 aZ]
  have bM : Cx [b2, a5] := Ctx.cn 2 T bL
  refine WL.done <| W.sr rfl <| WL.run to 1 rfl ?_
  obtain ⟨bm, H⟩ := rV H
  obtain ⟨bD, bO, bX, bY, b5, bs, bA, bN, bl⟩ := Cn (P := Tryz.prog) 3 KI bM tM ti3 0 rfl (by decide) p bm
  refine WL.val (bA _ _ _ _ _ _ rfl rfl) <| WL.rd to 1 rfl <| W.seq <| W.sr rfl <| WL.run to 1 rfl <| WL.ln ((List.replicate p.toNat (0 : Int)).length : Int) rfl tM (by omega) <| WL.rd to 1 rfl ?_
  obtain ⟨ac, a, H⟩ := rE H
  refine W.vG (fun b u => ∃ M O G S, b 12 = .slice M G O ∧ Ctx w F D u F [S] ∧ G = ac.length ∧ Row KI F S (.slice M G O) ac) ?_ ?_
  ·refine W.block <| W.loop (fun bi b u => ∃ (o : List Int) (g : Int) (J : List sA), ∃ x A l h y B s m, Kn b [(10, pt j), (12, .slice x l A), (47, iv ((List.replicate p.toNat (0 : Int)).length : Int)), (48, iv g)] ∧ Ctx w F D u F [h, r0 j [.slice y s B], m] ∧ oW KI F h x l A o (oW sA.K F m y s B J (wO.l1 bi p o g J = some ac))) k ⟨(List.replicate p.toNat (0 : Int)), 0, a7, bD, bO, bX, bY, aY, aZ, a4, a5, rfl, bN, bs, bl, br, bk, a⟩ ?_
   clear a
   rintro bi b u ⟨o, g, J, x, A, l, h, y, B, s, m, aU, ao, aP, Q, aQ, aJ, a⟩
   rcases bi with _ | aA
   · exact absurd a (by simp [wO.l1])
   rw [wO.l1] at a
   apply ks b aU
   refine W.sr rfl <| WL.rd to 1 rfl <| W.seq ?_
   rcases rT a with ⟨R, a⟩ | ⟨R, a⟩
   ·refine W.cT R rfl <| W.skip <| W.seq <| W.block <| W.sr rfl <| WL.rd to 2 rfl <| W.region rfl ?_
    refine WL.run to 2 rfl <| WL.val (Yl.E3 (v := pt j) rfl Cb rfl) ?_
    let bC : CH := r0 j [.slice y s B]
    have ap : Cx [bC, m, h] := ao.pick [1, 2, 0] rfl
    obtain ⟨⟨d, aG⟩, aM, a⟩ := rE a
    refine WL.sI (AG.calls aA _ F j 0 y B s m J (ap.pq 2) aQ aJ d aG aM) (ne.fr rfl rfl) ?_
    rintro bW u ⟨aj, ar, aB, I, rfl, a9, aR, aK⟩
    refine ⟨_, rfl, ?_⟩
    let aX : CH := r0 j [.slice aj aB ar]
    have ba : Cx [aX, I, h] := Ctx.cn 2 ap a9
    refine WL.val (Yl.IV (v := .agg (List.toArray [iv d.used, iv d.id])) rfl CA rfl) <| WL.val (Yl.Jn (cs := [iv d.used, iv d.id]) (v := iv d.id) (i := 1) rfl CA rfl u_3 rfl rfl) ?_
    obtain ⟨b0, a⟩ := rV a
    obtain ⟨bf, aW, ad, b1⟩ := (Row.sl Q) (by omega)
    refine WL.val (Yl.rW (i := g) rfl rfl ad tM sz3 (by omega)) ?_
    have aN : g.toNat < o.length := by first | omega | (simp only [List.length_set, List.length_replicate] at *; omega)
    obtain ⟨ab, b3, aV, bb, aL⟩ := zD (P := Tryz.prog) (t := 3) KI [aX, I] [] ba Q ad g.toNat 0 aN 0 (iv d.id) ([iv d.id]) rfl (rR rfl) (Nat.le_of_ble_eq_true rfl) sz3 (d.id) (fun _ h_ => Ah h_ rfl) ⟨bf, aW + g.toNat * 1, none⟩ rfl
    have aS : l = (o.set g.toNat d.id).length := by rw [List.length_set]; omega
    have bc : Cx [aX, I, ab] := bb
    refine WL.skip (aV _ _ _ _ rfl rfl) <| WL.done <| tH <| W.region rfl ?_
    refine WL.rd to 2 rfl ?_
    have bd : Cx [ab, aX, I] := bc.pick [2, 0, 1] rfl
    exact rF ⟨aA, Nat.lt_succ_self _, o.set g.toNat d.id, rB (g + 1), aG, x, A, l, ab, aj, ar, aB, I, rfl, bd, aS, aL, aR, aK, a⟩
   refine W.cF R rfl <| W.exit <| rM <| rM <| sL ?_
   have be : Cx [h] := ao.pick [0] rfl
   cases a
   refine rF ?_
   exact ⟨x, A, l, h, rfl, be, aP, Q⟩
  ·rintro b u ⟨M, O, G, S, aT, a8, aO, aI⟩
   apply kn b (.c aT .n)
   refine W.sr rfl <| WL.rd to 3 rfl <| W.ret ?_
   obtain ⟨bg, bh⟩ := sp H
   subst bg bh
   exact rH (yI rfl rfl rfl) ⟨M, O, G, S, rfl, a8, aO, aI⟩
end Go.Proofs.YtobdpbnadjkhiaaGreat
