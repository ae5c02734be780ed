/- Functions of the program: each as a plain function of numbers and lists, and the proof that the program's own comes to it. Nothing is assumed but what each theorem says. -/
import Derived.Test.YtobdpbnadjkhiaaGreatTM5
namespace Go.Proofs.YtobdpbnadjkhiaaGreat
open Go.RowKit Go.WG
set_option linter.unusedVariables false
set_option linter.unusedSimpArgs false
set_option maxRecDepth 100000
set_option maxHeartbeats 4000000
def tN.l1 : Nat → List Int → Int → sF → Option sF
  | 0, _, _, _ => none
  | k + 1, d, b, a => if b < (d.length : Int) then (if 0 ≤ b ∧ b < (d.length : Int) then (if 0 ≤ (d.getD b.toNat 0) ∧ (d.getD b.toNat 0) < (a.State.Barred.length : Int) then (tN.l1 k d (rB (b + 1)) (⟨a.c, (⟨a.State.Eras, a.State.Jobs, a.State.Used, a.State.Barred.set (d.getD b.toNat 0).toNat true, a.State.Heads⟩ : bF)⟩ : sF)) else none) else none) else (some a)
def tN.f (k : Nat) (a : sF) (l : rD) : Option (Int × sF) := (vN.f k a l).bind fun ⟨b, g⟩ => if 0 ≤ b ∧ b < (a.State.Jobs.length : Int) then (if g = 0 then (if ((a.State.Jobs.getD b.toNat bT.z).State) = 1 then (some (212, a)) else ((uK.f k (a.State.Jobs.getD b.toNat bT.z) l.By).bind fun o => if o = true then ((uW.f k ((a.State.Jobs.getD b.toNat bT.z).rI) (⟨l.By, l.Data⟩ : rA)).bind fun ⟨e, i⟩ => if i = 0 then ((some (a.State.Jobs.set b.toNat ({ a.State.Jobs.getD b.toNat bT.z with rI := e }))).bind fun d => (uL.f k e a.c.Faulty).bind fun ⟨j, p⟩ => if p = true then ((some (d.set b.toNat ({ d.getD b.toNat bT.z with State := 3 }))).bind fun h => (some (h.set b.toNat ({ h.getD b.toNat bT.z with Value := j }))).bind fun m => (vC.f k e j).bind fun r => (tN.l1 k r 0 (⟨a.c, (⟨a.State.Eras, m, a.State.Used, a.State.Barred, a.State.Heads⟩ : bF)⟩ : sF)).bind fun s => some (0, s)) else (some (0, (⟨a.c, (⟨a.State.Eras, d, a.State.Used, a.State.Barred, a.State.Heads⟩ : bF)⟩ : sF)))) else (some (i, a))) else (some (214, a)))) else (some (g, a))) else (if g = 0 then (if False then (none) else none) else (some (g, a)))
theorem tN.calls (k w F p r aq ax an s am R y m O S M a Q T N b) (x : sF) (a5 aR a6) (aK : rD) (hp : Pre w F [CH.row p r (sF.q x aq an ax am y R O M S Q N T), s, m, a, b]) (aJ : an = x.State.Eras.length) (aI : Row sD.K F s (.slice aq an ax) x.State.Eras) (aa : y = x.State.Jobs.length) (U : Row bT.K F m (.slice am y R) x.State.Jobs) (ab : M = x.State.Used.length) (Y : Row KI F a (.slice O M S) x.State.Used) (ac : N = x.State.Barred.length) (Z : Row Kd.bool F b (.slice Q N T) x.State.Barred) (aX : aK.Nonce.length = 32) (cB : a6 = aK.Data.length) (cx : aK.Data.length ≤ aR) (cz : aR ≤ maxLen) (cv : Sl KB F F a5 aK.Data) (ey : Int) (ae : sF) (H : tN.f k x aK = some (ey, ae)) :
    Calls Tryz.prog 67 #[.pointer (some ⟨p, r, none⟩), .agg (List.toArray ((rD.q aK a5 a6 aR)))] w fun e w' => ∃ F' cf cp bI cG cg cr bJ cH ch ct bK cI ci cu bL cJ, e = .returned (iv ey) ∧ CH.le F F' ∧ Ctx w F (sR [CH.row p r (sF.q x aq an ax am y R O M S Q N T), s, m, a, b]) w' F' [CH.row p r (sF.q ae cf bI cp cg bJ cr ch bK ct ci bL cu), cG, cH, cI, cJ] ∧ bI = ae.State.Eras.length ∧ Row sD.K F' cG (.slice cf bI cp) ae.State.Eras ∧ bJ = ae.State.Jobs.length ∧ Row bT.K F' cH (.slice cg bJ cr) ae.State.Jobs ∧ bK = ae.State.Used.length ∧ Row KI F' cI (.slice ch bK ct) ae.State.Used ∧ bL = ae.State.Barred.length ∧ Row Kd.bool F' cJ (.slice ci bL cu) ae.State.Barred := by
 have C := Ctx.start hp
 generalize hD : sR [CH.row p r (sF.q x aq an ax am y R O M S Q N T), s, m, a, b] = D at C ⊢
 unfold tN.f at H
 refine Calls.ofW Tryz.func67 rfl (by simp [Tryz.ntmps67]) <| W.sr rfl ?_
 let E : LV := rD.q aK a5 a6 aR
 obtain ⟨o, gU, fV, cm⟩ := uR (P := Tryz.prog) 26 (.agg (List.toArray E)) E C rfl
 refine WL.val (fV _ _ _ rfl) <| WL.rd to 1 rfl <| W.sr rfl <| WL.run to 1 rfl <| WL.la cm 0 rfl rfl Bg rfl (uY BP (tP rfl (tP (rL aX) rfl))) ?_
 let J : LV := sF.q x aq an ax am y R O M S Q N T
 obtain ⟨gn, af, ⟨fX, fY, fZ, f0, f1, _⟩, gk⟩ := Ctx.B1 [CH.row p r J, s, m, a, b] (ps := [r0 o E]) (Ctx.pick [1, 2, 3, 4, 5, 0] cm rfl)
 obtain ⟨⟨g, gr⟩, fH, H⟩ := rE H
 refine WL.sI (vN.calls k _ gn p r aq ax an am R y O S M Q T N x a5 aR a6 aK (gk.pq 0) aJ (Row.rP aI).1 (Row.rP aI).2.1 (Sl.mono (Row.sl aI) af fY) aa (Row.rP U).1 (Row.rP U).2.1 (Sl.mono (Row.sl U) af fZ) ab (Row.rP Y).1 (Row.rP Y).2.1 (Sl.mono (Row.sl Y) af f0) ac (Row.rP Z).1 (Row.rP Z).2.1 (Sl.mono (Row.sl Z) af f1) fX aX cB cx cz (Sl.mono cv af af) g gr fH) (ne.fr rfl rfl) ?_
 rintro cK a4 ⟨rfl, gl⟩
 refine ⟨_, rfl, ?_⟩
 have bz : Cx [r0 o E, CH.row p r J, s, m, a, b] := Ctx.cl 0 cm af gl
 refine WL.run to 1 rfl <| WL.val (Yl.extract (v := elp am y 9 g) rfl rfl) <| WL.run to 1 rfl ?_
 rcases rT H with ⟨bD, H⟩ | ⟨bD, H⟩
 ·obtain ⟨bO, bu, be, fG⟩ := (Row.sl U) (by omega)
  refine WL.val (Yl.assign (v := .pointer (some ⟨bO, bu + g.toNat * 9, none⟩)) (B0 be bD aa)) <| WL.rd to 1 rfl <| W.seq <| W.block <| W.sr rfl <| WL.rd to 3 rfl ?_
  rcases rT H with ⟨bE, H⟩ | ⟨bE, H⟩
  ·refine W.nF bE rfl <| W.sr rfl <| WL.run to 3 rfl ?_
   obtain ⟨gL, fU, bH⟩ := fG g.toNat _ (getD_some (d := bT.z) (by omega))
   obtain ⟨el, ep, et, em, eq, eu, en, er, ew, bN, bP, ce, eo, es, ex, rfl, fQ, fI, fM, fC, fR, fJ, fN, fD, fS, fK, fO, fE, cC, cy, cA, cw, fT, fL, fP, fF⟩ := bT.open fU
   refine WL.val (Yl.load (v := iv ((x.State.Jobs.getD g.toNat bT.z).State)) rfl u_3 rfl (((Ctx.rO 3 bz rfl)).cell (bH 1 _ rfl))) <| WL.rd to 2 rfl ?_
   rcases rT H with ⟨bG, H⟩ | ⟨bG, H⟩
   ·refine W.cT bG rfl <| W.sr rfl <| WL.rd to 1 rfl <| W.ret <| uX <| rS ?_
    have gm : Cx [CH.row p r J, s, m, a, b] := bz.pick [1, 2, 3, 4, 5] rfl
    obtain ⟨go, gp⟩ := sp H
    subst go gp
    exact rH (sE rfl rfl) ⟨F, aq, ax, an, s, am, R, y, m, O, S, M, a, Q, T, N, b, rfl, (CH.le_refl _), gm, aJ, aI, aa, U, ab, Y, ac, Z⟩
   refine W.cF bG rfl <| W.seq <| W.uF [([5], m), ([5], r0 o E)] (by kernel_rfl) ?_
   have a8 := Ctx.drewN bz 1
   refine WA.sZ [(0, none), (1, none), (2, some 0), (3, none), (4, some 1)] ⟨(Ctx.rO 3 a8 rfl), (Ctx.rO 0 a8 rfl), trivial⟩ (by kernel_rfl) <| WT.run to 2 rfl ?_
   let gO : LV := (bT.q (x.State.Jobs.getD g.toNat bT.z) el et ep em eu eq en ew er bN ce bP eo ex es)
   refine WT.val rfl (fun _ hC_ => Yl.wC (cs := gO) rfl xG rfl yN (fun j u hu => by rw [vL]; exact ((show Sub m _ from hC_)).cell (bH _ _ hu))) ?_
   refine WT.run to 1 rfl <| WT.lv 37 rfl rfl rfl u_3 rfl (tQ 2 35 rfl (tQ 32 3 (rL aX) rfl)) <| WT.done ?_
   obtain ⟨gh, dg, H⟩ := rE H
   refine WA.up1 5 (by kernel_rfl) (Up.sI rfl (by kernel_rfl) rfl (uK.calls k _ F el ep et em eq eu en er ew bN bP ce eo es ex (x.State.Jobs.getD g.toNat bT.z) aK.By a8.tX fQ fI fM fC fR fJ fN fD fS fK fO fE cC cy cA cw fT fL fP fF gh dg) (ne.fr rfl rfl) ?_)
   rintro cK a4 ⟨rfl, eN⟩
   have a9 : Cx [r0 o E, CH.row p r J, s, m, a, b] := Ctx.wS a8 eN
   refine ⟨_, rfl, ⟨trivial, trivial, trivial⟩, ?_⟩
   refine WA.sZ [(6, none), (7, none)] ⟨(Ctx.rO 3 a9 rfl), (Ctx.rO 0 a9 rfl), trivial⟩ (by kernel_rfl) <| WT.run to 2 rfl <| WT.done <| WA.done (by kernel_rfl) ?_
   rcases rT H with ⟨bi, H⟩ | ⟨bi, H⟩
   ·refine W.uD (cb (zP bi)) <| W.skip <| tH <| W.seq <| W.uF [([9], m), ([9], r0 o E)] (by kernel_rfl) ?_
    have ba := Ctx.drewN a9 1
    refine WA.sZ [(0, none), (1, none), (2, none), (3, some 0), (4, none), (5, some 1), (6, none), (7, some 1), (8, none)] ⟨(Ctx.rO 3 ba rfl), (Ctx.rO 0 ba rfl), trivial⟩ (by kernel_rfl) <| WT.run to 3 rfl <| WT.val rfl (fun _ hC_ => Yl.load (v := .slice bN ce bP) rfl wD rfl (((show Sub m _ from hC_)).cell (bH 7 _ rfl))) ?_
    refine WT.run to 1 rfl <| WT.lv 37 rfl rfl rfl u_3 rfl (tQ 2 35 rfl (tQ 32 3 (rL aX) rfl)) <| WT.run to 1 rfl <| WT.lv 34 rfl rfl rfl tG rfl (tQ 2 32 rfl (tQ 32 0 (rL aX) rfl)) <| WT.val rfl (fun _ hC_ => Yl.build (places := [(0, 1), (1, 1)]) (cs := List.toArray [iv aK.By, .slice a5 a6 aR]) Bq CU (G5 _ Bq) (uV (.cons rfl (.cons rfl .nil))) rfl) ?_
    refine WT.done ?_
    obtain ⟨⟨aH, gi⟩, dh, H⟩ := rE H
    refine WA.up1 9 (by kernel_rfl) (Up.sI rfl (by kernel_rfl) rfl (uW.calls k _ F bN bP ce ((x.State.Jobs.getD g.toNat bT.z).rI) a5 aR a6 (⟨aK.By, aK.Data⟩ : rA) ba.tX cC cy cA cw cB cx cz cv aH gi dh) (ne.fr rfl rfl) ?_)
    rintro cK a4 ⟨e6, aL, aQ, aY, gg, rfl, V, eO, bp, cM⟩
    have bb : Cx [gg, r0 o E, CH.row p r J, s, m, a, b] := Ctx.wS ba eO
    have bR := Row.mono aI V
    have bS := Row.mono U V
    have bU := Row.mono Y V
    have bV := Row.mono Z V
    refine ⟨_, rfl, ⟨trivial, trivial, trivial⟩, ?_⟩
    refine WA.sZ [(10, none), (11, none), (12, none), (13, none), (14, none)] ⟨(Ctx.rO 4 bb rfl), (Ctx.rO 1 bb rfl), trivial⟩ (by kernel_rfl) <| WT.run to 5 rfl <| WT.done <| WA.done (by kernel_rfl) <| W.seq <| W.sr rfl <| WL.rd to 2 rfl ?_
    rcases rT H with ⟨bj, H⟩ | ⟨bj, H⟩
    ·refine W.nF bj rfl <| W.skip <| W.sr rfl <| WL.run to 4 rfl ?_
     obtain ⟨co, X, eh, bA⟩ := Ctx.fzI 0 bb rfl
     replace bA : Cx [r0 o E, CH.row p r J, s, m, a, b] := bA
     obtain ⟨bn, bo, bh⟩ := Row.fz cM X eh
     have bW := Row.mono bR X
     have cN := Row.mono bS X
     have bX := Row.mono bU X
     have bY := Row.mono bV X
     have dk : g.toNat < x.State.Jobs.length := by first | omega | (simp only [List.length_set, List.length_replicate] at *; omega)
     obtain ⟨bv, gQ, ed, eP, bf⟩ := zD (P := Tryz.prog) (t := 61) bT.K [r0 o E, CH.row p r J, s] [a, b] bA cN be g.toNat 7 dk bT.z (.slice aL aY aQ) ([.slice aL aY aQ]) rfl (rR rfl) (Nat.le_of_ble_eq_true rfl) FW ({ x.State.Jobs.getD g.toNat bT.z with rI := aH }) (by rintro _ h_; obtain ⟨ez, e8, f2, eA, e9, f3, eB, fa, f4, gG, gJ, gM, eC, fb, f5, rfl, dQ, dq, dD, c1, dR, dr, dE, c2, dS, ds, dF, c3, gC, gy, gA, gt, dT, dt, dG, c4⟩ := bT.open h_; exact bT.mk' _ ({ x.State.Jobs.getD g.toNat bT.z with rI := aH }) ez e8 f2 eA e9 f3 eB fa f4 aL aQ aY eC fb f5 dQ dq dD c1 dR dr dE c2 dS ds dF c3 bp bn bo bh dT dt dG c4) ⟨bO, bu + g.toNat * 9 + 7, none⟩ rfl
     have b7 : y = (x.State.Jobs.set g.toNat ({ x.State.Jobs.getD g.toNat bT.z with rI := aH })).length := by rw [List.length_set]; omega
     obtain ⟨ao, bq, H⟩ := rE H
     replace bq := Option.some.inj bq
     rw [bq] at bf b7
     have bB : Cx [r0 o E, CH.row p r J, s, bv, a, b] := eP
     refine WL.skip (ed _ _ _ _ rfl rfl) <| WL.done <| W.seq <| W.sr rfl <| WL.run to 5 rfl <| WL.lv bB 1 0 rfl rfl u_3 rfl rfl ?_
     obtain ⟨⟨a3, gj⟩, di, H⟩ := rE H
     refine WL.sI (uL.calls k _ co aL aQ aY aH x.c.Faulty bB.tX bp bn bo bh a3 gj di) (ne.fr rfl rfl) ?_
     rintro cK a4 ⟨a7, bd, bt, bM, rfl, eQ, b8, cO⟩
     refine ⟨_, rfl, ?_⟩
     have cj : Cx [bM, r0 o E, CH.row p r J, s, bv, a, b] := Ctx.wS bB eQ
     refine WL.rd to 5 rfl <| W.sr rfl <| WL.rd to 1 rfl ?_
     rcases rT H with ⟨bk, H⟩ | ⟨bk, H⟩
     ·refine W.uI (cb bk) <| W.sr rfl <| WL.run to 5 rfl ?_
      have dl : g.toNat < ao.length := by first | omega | (simp only [List.length_set, List.length_replicate] at *; omega)
      obtain ⟨cD, gR, ee, eR, bZ⟩ := zD (P := Tryz.prog) (t := 3) bT.K [bM, r0 o E, CH.row p r J, s] [a, b] cj bf be g.toNat 1 dl bT.z (iv 3) ([iv 3]) rfl (rR rfl) (Nat.le_of_ble_eq_true rfl) sz3 ({ ao.getD g.toNat bT.z with State := 3 }) (by rintro _ h_; obtain ⟨eD, fc, f6, eE, fd, f7, eF, fe, f8, eG, ff, f9, eH, fg, ga, rfl, dU, du, dH, c5, dV, dv, dI, c6, dW, dw, dJ, c7, dX, dx, dK, c8, dY, dy, dL, c9⟩ := bT.open h_; exact bT.mk' _ ({ ao.getD g.toNat bT.z with State := 3 }) eD fc f6 eE fd f7 eF fe f8 eG ff f9 eH fg ga dU du dH c5 dV dv dI c6 dW dw dJ c7 dX dx dK c8 dY dy dL c9) ⟨bO, bu + g.toNat * 9 + 1, none⟩ rfl
      have dZ : y = (ao.set g.toNat ({ ao.getD g.toNat bT.z with State := 3 })).length := by rw [List.length_set]; omega
      obtain ⟨ap, br, H⟩ := rE H
      replace br := Option.some.inj br
      rw [br] at bZ dZ
      have eS : Cx [bM, r0 o E, CH.row p r J, s, cD, a, b] := eR
      refine WL.skip (ee _ _ _ _ rfl rfl) <| WL.run to 2 rfl ?_
      obtain ⟨B, L, ei, bC⟩ := Ctx.fzI 0 eS rfl
      replace bC : Cx [r0 o E, CH.row p r J, s, cD, a, b] := bC
      obtain ⟨b5, b6, b4⟩ := Row.fz cO L ei
      have cP := Row.mono bW L
      have cQ := Row.mono bZ L
      have cR := Row.mono bX L
      have cS := Row.mono bY L
      have dm : g.toNat < ap.length := by first | omega | (simp only [List.length_set, List.length_replicate] at *; omega)
      obtain ⟨bw, gS, ef, eT, b0⟩ := zD (P := Tryz.prog) (t := 24) bT.K [r0 o E, CH.row p r J, s] [a, b] bC cQ be g.toNat 8 dm bT.z (.slice a7 bt bd) ([.slice a7 bt bd]) rfl (rR rfl) (Nat.le_of_ble_eq_true rfl) AP ({ ap.getD g.toNat bT.z with Value := a3 }) (by rintro _ h_; obtain ⟨eI, fh, gb, eJ, fi, gc, eK, fj, gd, eL, fk, ge, gH, gK, gN, rfl, d0, dz, dM, da, d1, dA, dN, db, d2, dB, dO, dc, d3, dC, dP, dd, gD, gz, gB, gu⟩ := bT.open h_; exact bT.mk' _ ({ ap.getD g.toNat bT.z with Value := a3 }) eI fh gb eJ fi gc eK fj gd eL fk ge a7 bd bt d0 dz dM da d1 dA dN db d2 dB dO dc d3 dC dP dd b8 b5 b6 b4) ⟨bO, bu + g.toNat * 9 + 8, none⟩ rfl
      have b9 : y = (ap.set g.toNat ({ ap.getD g.toNat bT.z with Value := a3 })).length := by rw [List.length_set]; omega
      obtain ⟨ek, bs, H⟩ := rE H
      replace bs := Option.some.inj bs
      rw [bs] at b0 b9
      have ck : Cx [r0 o E, CH.row p r J, s, bw, a, b] := eT
      refine WL.skip (ef _ _ _ _ rfl rfl) <| WL.done <| W.sr rfl <| WL.run to 2 rfl ?_
      obtain ⟨G, dj, H⟩ := rE H
      refine WL.sI (vC.calls k _ B aL aQ aY aH a7 bd bt a3 ck.tX bp bn bo (Sl.mono bh L L) b8 b5 b6 b4 G dj) (ne.fr rfl rfl) ?_
      rintro cK a4 ⟨eM, fl, gf, aG, rfl, eU, gE, cU⟩
      refine ⟨_, rfl, ?_⟩
      have eV : Cx [aG, r0 o E, CH.row p r J, s, bw, a, b] := Ctx.wS ck eU
      refine WL.ln (G.length : Int) rfl tM (by omega) <| WL.rd to 1 rfl ?_
      obtain ⟨I, l, H⟩ := rE H
      refine W.vG (fun aW a4 => ∃ aM aS aC aZ aN aT aD a0 aO aU aE a1 aP aV aF a2, Ctx w F D a4 B [CH.row p r (sF.q I aM aC aS aN aD aT aO aE aU aP aF aV), aZ, a0, a1, a2, aG, r0 o E] ∧ oW sD.K B aZ aM aC aS I.State.Eras (oW bT.K B a0 aN aD aT I.State.Jobs (oW KI B a1 aO aE aU I.State.Used (aF = I.State.Barred.length ∧ Row Kd.bool B a2 (.slice aP aF aV) I.State.Barred)))) ?_ ?_
      ·refine W.block ?_
       have eX : Cx [CH.row p r J, s, bw, a, b, aG, r0 o E] := eV.pick [2, 3, 4, 5, 6, 0, 1] rfl
       refine W.loop (fun fB aW a4 => ∃ (A : Int) (h : sF), ∃ ar ay ag aj au az ah ak av aA ai al aw aB ad bx, Kn aW [(0, .pointer (some ⟨p, r, none⟩)), (76, .slice eM gf fl), (77, iv (G.length : Int)), (78, iv A)] ∧ Ctx w F D a4 B [CH.row p r (sF.q h ar ag ay au ah az av ai aA aw ad aB), aj, ak, al, bx, aG, r0 o E] ∧ bF.oS B h.State ar ag ay aj au ah az ak av ai aA al aw ad aB bx (tN.l1 fB G A h = some I)) k ⟨0, (⟨x.c, (⟨x.State.Eras, ek, x.State.Used, x.State.Barred, x.State.Heads⟩ : bF)⟩ : sF), aq, ax, an, s, am, R, y, bw, O, S, M, a, Q, T, N, b, rfl, eX, aJ, cP, b9, b0, ab, cR, ac, cS, l⟩ ?_
       clear l
       rintro fB aW a4 ⟨A, h, ar, ay, ag, aj, au, az, ah, ak, av, aA, ai, al, aw, aB, ad, bx, ea, bc, ca, b1, cc, b2, cd, b3, d8, bg, l⟩
       rcases fB with _ | fW
       · exact absurd l (by simp [tN.l1])
       rw [tN.l1] at l
       apply ks aW ea
       refine W.sr rfl <| WL.rd to 1 rfl <| W.seq ?_
       rcases rT l with ⟨bl, l⟩ | ⟨bl, l⟩
       ·refine W.cT bl rfl <| W.skip <| W.seq <| W.block <| W.sr rfl ?_
        obtain ⟨gv, l⟩ := rV l
        obtain ⟨gI, gF, cL, df⟩ := (Row.sl cU) (by omega)
        refine WL.val (Yl.rW (i := A) rfl rfl cL tM sz3 (by omega)) ?_
        obtain ⟨gs, eb, ec⟩ := df A.toNat _ (getD_some (d := 0) (by omega))
        obtain rfl := eb
        refine WL.val (Yl.load (v := iv (G.getD A.toNat 0)) rfl u_3 rfl (((Ctx.rO 5 bc rfl)).cell (ec 0 _ rfl))) <| WL.rd to 1 rfl <| W.region rfl ?_
        refine WL.run to 4 rfl <| WL.lv bc 0 10 rfl rfl zH rfl rfl <| WL.run to 1 rfl ?_
        obtain ⟨gw, l⟩ := rV l
        obtain ⟨e7, ej, bQ, gx⟩ := (Row.sl bg) (by omega)
        refine WL.val (Yl.rW (i := G.getD A.toNat 0) rfl rfl bQ zH sz4 (by omega)) ?_
        have dp : (G.getD A.toNat 0).toNat < h.State.Barred.length := by first | omega | (simp only [List.length_set, List.length_replicate] at *; omega)
        let gq : LV := sF.q h ar ag ay au ah az av ai aA aw ad aB
        obtain ⟨cE, gT, eg, eY, cZ⟩ := zD (P := Tryz.prog) (t := 4) Kd.bool [CH.row p r gq, aj, ak, al] [aG, r0 o E] bc bg bQ (G.getD A.toNat 0).toNat 0 dp false (.bool true) ([.bool true]) rfl (rR rfl) (Nat.le_of_ble_eq_true rfl) sz4 (true) (fun _ h_ => Ah h_ rfl) ⟨e7, ej + (G.getD A.toNat 0).toNat * 1, none⟩ rfl
        have d9 : ad = (h.State.Barred.set (G.getD A.toNat 0).toNat true).length := by rw [List.length_set]; omega
        have eZ : Cx [CH.row p r gq, aj, ak, al, cE, aG, r0 o E] := eY
        refine WL.skip (eg _ _ _ _ rfl rfl) <| WL.done <| tH <| W.region rfl ?_
        exact WL.rd to 2 rfl <| rF ⟨fW, Nat.lt_succ_self _, rB (A + 1), (⟨h.c, (⟨h.State.Eras, h.State.Jobs, h.State.Used, h.State.Barred.set (G.getD A.toNat 0).toNat true, h.State.Heads⟩ : bF)⟩ : sF), ar, ay, ag, aj, au, az, ah, ak, av, aA, ai, al, aw, aB, ad, cE, rfl, eZ, ca, b1, cc, b2, cd, b3, d9, cZ, l⟩
       refine W.cF bl rfl <| W.exit <| rM <| rM <| sL ?_
       cases l
       refine rF ?_
       exact ⟨ar, ay, ag, aj, au, az, ah, ak, av, aA, ai, al, aw, aB, ad, bx, bc, ca, b1, cc, b2, cd, b3, d8, bg⟩
      ·rintro aW a4 ⟨aM, aS, aC, aZ, aN, aT, aD, a0, aO, aU, aE, a1, aP, aV, aF, a2, eW, d4, cV, d5, cW, d6, cX, d7, cY⟩
       refine W.sr rfl <| WL.rd to 1 rfl <| W.ret ?_
       let gP : LV := sF.q I aM aC aS aN aD aT aO aE aU aP aF aV
       have e0 : Cx [CH.row p r gP, aZ, a0, a1, a2] := eW.pick [0, 1, 2, 3, 4] rfl
       obtain ⟨fm, fo⟩ := sp H
       subst fm fo
       exact rH (sE rfl rfl) ⟨B, aM, aS, aC, aZ, aN, aT, aD, a0, aO, aU, aE, a1, aP, aV, aF, a2, rfl, (CH.le_trans V (CH.le_trans X L)), e0, d4, cV, d5, cW, d6, cX, d7, cY⟩
     refine W.uD (cb (Bool.eq_false_iff.2 bk)) <| W.skip <| W.sr rfl <| WL.rd to 1 rfl <| W.ret ?_
     have e1 : Cx [CH.row p r J, s, bv, a, b] := cj.pick [2, 3, 4, 5, 6] rfl
     obtain ⟨fp, fq⟩ := sp H
     subst fp fq
     exact rH (sE rfl rfl) ⟨co, aq, ax, an, s, am, R, y, bv, O, S, M, a, Q, T, N, b, rfl, (CH.le_trans V X), e1, aJ, bW, b7, bf, ab, bX, ac, bY⟩
    refine W.nT bj rfl <| W.sr rfl <| WL.rd to 2 rfl <| W.ret <| rS ?_
    have e2 : Cx [CH.row p r J, s, m, a, b] := bb.pick [2, 3, 4, 5, 6] rfl
    obtain ⟨fs, ft⟩ := sp H
    subst fs ft
    exact rH (sE rfl rfl) ⟨e6, aq, ax, an, s, am, R, y, m, O, S, M, a, Q, T, N, b, rfl, V, e2, aJ, bR, aa, bS, ab, bU, ac, bV⟩
   refine W.uI (cb (zO bi)) <| W.sr rfl <| WL.rd to 1 rfl <| W.ret <| uX <| rS ?_
   have e3 : Cx [CH.row p r J, s, m, a, b] := a9.pick [1, 2, 3, 4, 5] rfl
   obtain ⟨fu, fv⟩ := sp H
   subst fu fv
   exact rH (sE rfl rfl) ⟨F, aq, ax, an, s, am, R, y, m, O, S, M, a, Q, T, N, b, rfl, (CH.le_refl _), e3, aJ, aI, aa, U, ab, Y, ac, Z⟩
  refine W.nT bE rfl <| W.sr rfl <| WL.rd to 2 rfl <| W.ret <| uX <| rS ?_
  have e4 : Cx [CH.row p r J, s, m, a, b] := bz.pick [1, 2, 3, 4, 5] rfl
  obtain ⟨fw, fx⟩ := sp H
  subst fw fx
  exact rH (sE rfl rfl) ⟨F, aq, ax, an, s, am, R, y, m, O, S, M, a, Q, T, N, b, rfl, (CH.le_refl _), e4, aJ, aI, aa, U, ab, Y, ac, Z⟩
 ·refine WL.val (Yl.assign (v := .pointer none) (F3 bD aa)) <| WL.rd to 1 rfl <| W.seq <| W.block <| W.sr rfl <| WL.rd to 3 rfl ?_
  rcases rT H with ⟨bm, H⟩ | ⟨bm, H⟩
  ·refine W.nF bm rfl <| W.sr rfl <| WL.run to 1 rfl ?_
   obtain ⟨de, H⟩ := rV H
   exact de.elim
  refine W.nT bm rfl <| W.sr rfl <| WL.rd to 2 rfl <| W.ret <| uX <| rS ?_
  have e5 : Cx [CH.row p r J, s, m, a, b] := bz.pick [1, 2, 3, 4, 5] rfl
  obtain ⟨fy, fA⟩ := sp H
  subst fy fA
  exact rH (sE rfl rfl) ⟨F, aq, ax, an, s, am, R, y, m, O, S, M, a, Q, T, N, b, rfl, (CH.le_refl _), e5, aJ, aI, aa, U, ab, Y, ac, Z⟩
def sY.l1 : Nat → List Int → Int → sF → bT → Option (sF × bT)
  | 0, _, _, _, _ => none
  | k + 1, e, d, b, a => if d < (e.length : Int) then (if 0 ≤ d ∧ d < (e.length : Int) then (if 0 ≤ (e.getD d.toNat 0) ∧ (e.getD d.toNat 0) < (b.State.Used.length : Int) then (if (a.Indexes.length + 1 + (a.Indexes.length + 1) / 4 + 192) * 8 ≤ 281474976710656 then (sY.l1 k e (rB (d + 1)) (⟨b.c, (⟨b.State.Eras, b.State.Jobs, b.State.Used.set (e.getD d.toNat 0).toNat (rB ((b.State.Used.getD (e.getD d.toNat 0).toNat 0) + 1)), b.State.Barred, b.State.Heads⟩ : bF)⟩ : sF) (⟨a.Payload, a.State, a.Attempt, a.Epoch, a.Until, a.Workers, a.Indexes ++ [b.State.Used.getD (e.getD d.toNat 0).toNat 0], a.rI, a.Value⟩ : bT)) else none) else none) else none) else (some (b, a))
def sY.f (k : Nat) (a : sF) (j : rD) : Option (Int × sF) := (vO.f k a).bind fun i => if i = 0 then ((vN.f k a j).bind fun ⟨b, e⟩ => if 0 ≤ b ∧ b < (a.State.Jobs.length : Int) then (if e = 0 then (if ((a.State.Jobs.getD b.toNat bT.z).State) = 1 then (if j.Time = 0 then (some (213, (⟨a.c, (⟨a.State.Eras, a.State.Jobs.set b.toNat (a.State.Jobs.getD b.toNat bT.z), a.State.Used, a.State.Barred, a.State.Heads⟩ : bF)⟩ : sF))) else (if 0 ≤ a.c.Height then ((wV.f k a.c).bind fun l => (wO.f k a.State.Used a.State.Barred (vP .i64 1 a.c.Height) l).bind fun ⟨g, h⟩ => if h = 0 then ((xR.f k a.State).bind fun m => (sY.l1 k g 0 a (⟨(a.State.Jobs.getD b.toNat bT.z).Payload, 2, rB (((a.State.Jobs.getD b.toNat bT.z).Attempt) + 1), m, j.Time, g, ([] : List Int), (a.State.Jobs.getD b.toNat bT.z).rI, (a.State.Jobs.getD b.toNat bT.z).Value⟩ : bT)).bind fun ⟨d, o⟩ => some (0, (⟨d.c, (⟨d.State.Eras, a.State.Jobs.set b.toNat o, d.State.Used, d.State.Barred, d.State.Heads⟩ : bF)⟩ : sF))) else (some (h, (⟨a.c, (⟨a.State.Eras, a.State.Jobs.set b.toNat (a.State.Jobs.getD b.toNat bT.z), a.State.Used, a.State.Barred, a.State.Heads⟩ : bF)⟩ : sF)))) else none)) else (some (212, (⟨a.c, (⟨a.State.Eras, a.State.Jobs.set b.toNat (a.State.Jobs.getD b.toNat bT.z), a.State.Used, a.State.Barred, a.State.Heads⟩ : bF)⟩ : sF)))) else (some (e, (⟨a.c, (⟨a.State.Eras, a.State.Jobs.set b.toNat (a.State.Jobs.getD b.toNat bT.z), a.State.Used, a.State.Barred, a.State.Heads⟩ : bF)⟩ : sF)))) else (if e = 0 then (if False then (none) else none) else (some (e, a)))) else (some (i, a))
theorem sY.calls (k w F s u aW aX aP J aw X O aE ad af ab j ae ag ac l) (y : sF) (da cV dH) (bd : rD) (hp : Pre w F [CH.row s u (sF.q y aW aP aX aw O X ad ab af ae ac ag), J, aE, j, l]) (aY : aP = y.State.Eras.length) (au : Row sD.K F J (.slice aW aP aX) y.State.Eras) (bE : O = y.State.Jobs.length) (ay : Row bT.K F aE (.slice aw O X) y.State.Jobs) (az : ab = y.State.Used.length) (T : Row KI F j (.slice ad ab af) y.State.Used) (aA : ac = y.State.Barred.length) (U : Row Kd.bool F l (.slice ae ac ag) y.State.Barred) (cA : bd.Nonce.length = 32) (gz : dH = bd.Data.length) (gx : bd.Data.length ≤ cV) (gy : cV ≤ maxLen) (gv : Sl KB F F da bd.Data) (f1 : Int) (aZ : sF) (H : sY.f k y bd = some (f1, aZ)) :
    Calls Tryz.prog 66 #[.pointer (some ⟨s, u, none⟩), .agg (List.toArray ((rD.q bd da dH cV)))] w fun e w' => ∃ F' c6 dc cK dI c7 dd cL dJ c8 de cM dK c9 df cN dL, e = .returned (iv f1) ∧ CH.le F F' ∧ Ctx w F (sR [CH.row s u (sF.q y aW aP aX aw O X ad ab af ae ac ag), J, aE, j, l]) w' F' [CH.row s u (sF.q aZ c6 cK dc c7 cL dd c8 cM de c9 cN df), dI, dJ, dK, dL] ∧ cK = aZ.State.Eras.length ∧ Row sD.K F' dI (.slice c6 cK dc) aZ.State.Eras ∧ cL = aZ.State.Jobs.length ∧ Row bT.K F' dJ (.slice c7 cL dd) aZ.State.Jobs ∧ cM = aZ.State.Used.length ∧ Row KI F' dK (.slice c8 cM de) aZ.State.Used ∧ cN = aZ.State.Barred.length ∧ Row Kd.bool F' dL (.slice c9 cN df) aZ.State.Barred := by
 have C := Ctx.start hp
 generalize hD : sR [CH.row s u (sF.q y aW aP aX aw O X ad ab af ae ac ag), J, aE, j, l] = D at C ⊢
 unfold sY.f at H
 refine Calls.ofW Tryz.func66 rfl (by simp [Tryz.ntmps66]) <| W.sr rfl ?_
 let I : LV := rD.q bd da dH cV
 obtain ⟨p, ho, gA, f0⟩ := uR (P := Tryz.prog) 26 (.agg (List.toArray I)) I C rfl
 refine WL.val (gA _ _ _ rfl) <| WL.rd to 1 rfl <| W.sr rfl <| WL.run to 1 rfl ?_
 let L : LV := sF.q y aW aP aX aw O X ad ab af ae ac ag
 obtain ⟨gK, cJ, ⟨gC, gD, gE, gF, gG, _⟩, gJ⟩ := Ctx.B1 [CH.row s u L, J, aE, j, l] (ps := [r0 p I]) (Ctx.pick [1, 2, 3, 4, 5, 0] f0 rfl)
 obtain ⟨gW, gw, H⟩ := rE H
 refine WL.cq f0 (vO.calls k _ gK s u aW aX aP aw X O ad af ab ae ag ac y gJ.tX aY (Row.rP au).1 (Row.rP au).2.1 (Sl.mono (Row.sl au) cJ gD) bE (Row.rP ay).1 (Row.rP ay).2.1 (Sl.mono (Row.sl ay) cJ gE) az (Row.rP T).1 (Row.rP T).2.1 (Sl.mono (Row.sl T) cJ gF) aA (Row.rP U).1 (Row.rP U).2.1 (Sl.mono (Row.sl U) cJ gG) gC gW gw) (ne.fr rfl rfl) fun cp db => ?_
 refine WL.rd to 1 rfl <| W.sr rfl <| WL.rd to 1 rfl <| W.seq <| W.sr rfl <| WL.rd to 2 rfl ?_
 rcases rT H with ⟨bS, H⟩ | ⟨bS, H⟩
 ·refine W.cT bS rfl <| W.region rfl ?_
  refine WL.run to 1 rfl <| WL.la db 0 rfl rfl Bg rfl (uY BP (tP rfl (tP (rL cA) rfl))) ?_
  obtain ⟨go, aH, ⟨fR, fS, fT, fU, fV, _⟩, f3⟩ := Ctx.B1 [CH.row s u L, J, aE, j, l] (ps := [r0 p I]) (Ctx.pick [1, 2, 3, 4, 5, 0] db rfl)
  obtain ⟨⟨a, gH⟩, ff, H⟩ := rE H
  refine WL.sI (vN.calls k _ go s u aW aX aP aw X O ad af ab ae ag ac y da cV dH bd (f3.pq 0) aY (Row.rP au).1 (Row.rP au).2.1 (Sl.mono (Row.sl au) aH fS) bE (Row.rP ay).1 (Row.rP ay).2.1 (Sl.mono (Row.sl ay) aH fT) az (Row.rP T).1 (Row.rP T).2.1 (Sl.mono (Row.sl T) aH fU) aA (Row.rP U).1 (Row.rP U).2.1 (Sl.mono (Row.sl U) aH fV) fR cA gz gx gy (Sl.mono gv aH aH) a gH ff) (ne.fr rfl rfl) ?_
  rintro gt cp ⟨rfl, f4⟩
  refine ⟨_, rfl, ?_⟩
  have dO : Cx [r0 p I, CH.row s u L, J, aE, j, l] := Ctx.cl 0 db aH f4
  refine WL.run to 1 rfl <| WL.val (Yl.extract (v := elp aw O 9 a) rfl rfl) <| WL.run to 1 rfl ?_
  rcases rT H with ⟨cB, H⟩ | ⟨cB, H⟩
  ·obtain ⟨Z, S, dg, g5⟩ := (Row.sl ay) (by omega)
   have f5 : Cx [aE, r0 p I, CH.row s u L, J, j, l] := dO.pick [3, 0, 1, 2, 4, 5] rfl
   obtain ⟨b, h, g2, fJ, f6, aD⟩ := Row.foc ay dg f5 a.toNat 9 rfl (by omega) bT.z
   obtain ⟨ah, ak, an, aF, aG, aI, av, ax, aB, ai, al, ao, aj, am, ap, rfl, bo, bi, bl, bf, bY, bU, bW, bQ, bZ, bV, bX, bR, bp, bj, bm, bg, bq, bk, bn, bh⟩ := bT.open fJ
   let hd : LV := (bT.q (y.State.Jobs.getD a.toNat bT.z) ah an ak aF aI aG av aB ax ai ao al aj ap am)
   let bM : CH := CH.row Z (S + a.toNat * 9) hd
   have bu : Cx [b, bM, h, r0 p I, CH.row s u L, J, j, l] := f6
   refine WL.val (Yl.assign (v := .pointer (some ⟨Z, S + a.toNat * 9, none⟩)) (B0 dg cB bE)) <| WL.rd to 1 rfl <| W.seq <| W.block <| W.sr rfl <| WL.rd to 3 rfl ?_
   rcases rT H with ⟨cC, H⟩ | ⟨cC, H⟩
   ·refine W.nF cC rfl <| W.sr rfl <| WL.run to 3 rfl <| WL.lv bu 1 1 rfl rfl u_3 rfl rfl <| WL.rd to 2 rfl ?_
    rcases rT H with ⟨cD, H⟩ | ⟨cD, H⟩
    ·refine W.nF cD rfl <| W.sr rfl <| WL.run to 1 rfl <| WL.lv bu 3 36 rfl rfl u_3 rfl (tQ 2 34 rfl (tQ 32 2 (rL cA) rfl)) <| WL.rd to 2 rfl ?_
     rcases rT H with ⟨cE, H⟩ | ⟨cE, H⟩
     ·refine W.cT cE rfl <| W.sr rfl <| WL.rd to 1 rfl <| W.ret <| uX <| rS ?_
      obtain ⟨c4, f7, eZ⟩ := Row.Fx (x := (y.State.Jobs.getD a.toNat bT.z)) aD (CH.le_refl _) (bT.mk' _ (y.State.Jobs.getD a.toNat bT.z) ah ak an aF aG aI av ax aB ai al ao aj am ap bo bi bl bf bY bU bW bQ bZ bV bX bR bp bj bm bg bq bk bn bh) bu
      have fv : O = (y.State.Jobs.set a.toNat (y.State.Jobs.getD a.toNat bT.z)).length := by rw [List.length_set]; omega
      have f8 : Cx [c4, r0 p I, CH.row s u L, J, j, l] := f7
      have f9 : Cx [CH.row s u L, J, c4, j, l] := f8.pick [2, 3, 0, 4, 5] rfl
      obtain ⟨gr, gs⟩ := sp H
      subst gr gs
      exact rH (sE rfl rfl) ⟨F, aW, aX, aP, J, aw, X, O, c4, ad, af, ab, j, ae, ag, ac, l, rfl, (CH.le_refl _), f9, aY, au, fv, eZ, az, T, aA, U⟩
     refine W.cF cE rfl <| W.skip <| tH <| W.seq <| W.uF [([21], CH.row s u L)] (by kernel_rfl) ?_
     have cX := Ctx.drewN bu 1
     refine WA.sZ [(0, none), (1, none), (2, none), (3, none), (4, some 0), (5, none), (6, none), (7, none), (8, none), (9, some 0), (10, none), (11, none), (12, none), (13, none), (14, some 0), (15, none), (16, none), (17, none), (18, none), (19, some 0)] ⟨(Ctx.rO 4 cX rfl), trivial⟩ (by kernel_rfl) <| WT.run to 4 rfl <| WT.lv 9 rfl rfl rfl tM rfl rfl <| WT.run to 4 rfl <| WT.lv 10 rfl rfl rfl zH rfl rfl <| WT.run to 4 rfl <| WT.lv 2 rfl rfl rfl u_3 rfl rfl ?_
     obtain ⟨fd, H⟩ := rV H
     refine WT.val rfl (fun _ hC_ => Yl.shl (m := 1) (n := y.c.Height) (r := vP .i64 1 y.c.Height) rfl rfl fd rfl) ?_
     refine WT.run to 3 rfl ?_
     let he : LV := rK.q y.c
     refine WT.val rfl (fun _ hC_ => Yl.xD (g := s) (off := u) (o := 0) (cs := L) (us := he) rfl zZ rfl Ac (show Sub (CH.row s u L) _ from hC_) rfl) ?_
     refine WT.done ?_
     obtain ⟨ek, fg, H⟩ := rE H
     refine WA.up1 20 (by kernel_rfl) (Up.sI rfl (by kernel_rfl) rfl (wV.calls k _ F y.c cX.tX  ek fg) (ne.fr rfl rfl) ?_)
     rintro gt cp ⟨rfl, ga⟩
     have cY : Cx [b, bM, h, r0 p I, CH.row s u L, J, j, l] := Ctx.wS cX ga
     refine ⟨_, rfl, ⟨(Ctx.rO 4 cY rfl), trivial⟩, ?_⟩
     obtain ⟨gp, cI, ⟨fW, fX, _⟩, gb⟩ := Ctx.B1 [j, l] (ps := [b, bM, h, r0 p I, CH.row s u L, J]) (Ctx.pick [6, 7, 0, 1, 2, 3, 4, 5] cY rfl)
     obtain ⟨⟨E, gI⟩, fh, H⟩ := rE H
     refine WA.up1 21 (by kernel_rfl) (Up.sI rfl (by kernel_rfl) rfl (wO.calls k _ gp ad af ab y.State.Used ae ag ac y.State.Barred (vP .i64 1 y.c.Height) ek (gb.pq 0) az (Row.rP T).1 (Row.rP T).2.1 (Sl.mono (Row.sl T) cI fW) aA (Row.rP U).1 (Row.rP U).2.1 (Sl.mono (Row.sl U) cI fX) E gI fh) (ne.fr rfl rfl) ?_)
     rintro gt cp ⟨a0, a5, a6, R, rfl, gc, fw, e0⟩
     have e1 : Row KI F R (.slice a0 a6 a5) E := e0
     have cZ : Cx [R, b, bM, h, r0 p I, CH.row s u L, J, j, l] := Ctx.cl 0 cY cI gc
     refine ⟨_, rfl, ⟨trivial, trivial⟩, ?_⟩
     refine WA.sZ [(22, none), (23, none), (24, none), (25, none), (26, none)] ⟨(Ctx.rO 5 cZ rfl), trivial⟩ (by kernel_rfl) <| WT.run to 5 rfl <| WT.done <| WA.done (by kernel_rfl) <| W.seq <| W.sr rfl <| WL.rd to 2 rfl ?_
     rcases rT H with ⟨cG, H⟩ | ⟨cG, H⟩
     ·refine W.nF cG rfl <| W.skip <| W.seq <| W.uF [([20, 23, 26, 29, 32], bM), ([14, 20, 23, 26, 29, 32], CH.row s u L), ([29, 32], r0 p I)] (by kernel_rfl) ?_
      have ca := Ctx.drewN cZ 1
      refine WA.sZ [(0, none), (1, none), (2, none), (3, none), (4, none), (5, none), (6, none), (7, none), (8, some 0), (9, none), (10, none), (11, none), (12, none), (13, some 1), (15, none), (16, some 2), (17, none)] ⟨(Ctx.rO 2 ca rfl), (Ctx.rO 5 ca rfl), (Ctx.rO 4 ca rfl), trivial⟩ (by kernel_rfl) <| WT.run to 8 rfl <| WT.lv 2 rfl rfl rfl u_3 rfl rfl <| WT.run to 4 rfl ?_
      let hf : LV := bF.q y.State aW aP aX aw O X ad ab af ae ac ag
      refine WT.val rfl (fun _ hC_ => Yl.xD (g := s) (off := u) (o := 7) (cs := L) (us := hf) rfl wJ rfl wM (show Sub (CH.row s u L) _ from hC_) rfl) ?_
      refine WT.run to 1 rfl <| WT.lv 36 rfl rfl rfl u_3 rfl (tQ 2 34 rfl (tQ 32 2 (rL cA) rfl)) <| WT.run to 1 rfl <| WT.done ?_
      obtain ⟨gq, dF, fY, c1⟩ := Ctx.fzI 6 ca rfl
      replace c1 : Cx [R, b, bM, h, r0 p I, CH.row s u L, j, l] := c1
      obtain ⟨aU, fi, H⟩ := rE H
      refine WA.up1 14 (by kernel_rfl) (Up.sI rfl (by kernel_rfl) rfl (xR.calls k _ gq aW aX aP aw X O ad af ab ae ag ac y.State (c1.pq 0) aY (Row.rP au).1 (Row.rP au).2.1 (Sl.mono (Row.sl au) dF fY) aU fi) (ne.fr rfl rfl) ?_)
      rintro gt cp ⟨rfl, gd⟩
      have bv : Cx [R, b, bM, h, r0 p I, CH.row s u L, J, j, l] := Ctx.cl 0 ca dF gd
      refine ⟨_, rfl, ⟨(Ctx.rO 2 bv rfl), trivial, (Ctx.rO 4 bv rfl), trivial⟩, ?_⟩
      refine WA.sZ [(18, none), (19, none)] ⟨(Ctx.rO 2 bv rfl), (Ctx.rO 5 bv rfl), (Ctx.rO 4 bv rfl), trivial⟩ (by kernel_rfl) <| WT.run to 2 rfl <| WT.done ?_
      obtain ⟨hj, fM, ge⟩ := vH (P := Tryz.prog) (ps1 := [R, b]) (ps2 := [h, r0 p I, CH.row s u L, J, j, l]) (t := 3) 1 [iv 2] (iv 2) bv rfl rfl (rR rfl) sz3
      let hg : LV := [.slice ah an ak, iv 2, iv ((y.State.Jobs.getD a.toNat bT.z).Attempt), iv ((y.State.Jobs.getD a.toNat bT.z).Epoch), iv ((y.State.Jobs.getD a.toNat bT.z).Until), .slice aF aI aG, .slice av aB ax, .slice ai ao al, .slice aj ap am]
      let hi : CH := CH.row Z (S + a.toNat * 9) hg
      have cv : Cx [R, b, hi, h, r0 p I, CH.row s u L, J, j, l] := ge
      refine WA.up1 20 (by kernel_rfl) (Up.skip rfl rfl (fM _ _ _ _ rfl rfl) ⟨trivial, trivial, (Ctx.rO 4 cv rfl), trivial⟩ ?_)
      refine WA.take none [] 21 rfl (by kernel_rfl) (by kernel_rfl) rfl trivial ⟨trivial, trivial, (Ctx.rO 4 cv rfl), trivial⟩ (fun _ hC_ => Yl.nilCheck rfl) ?_
      refine WA.take none [] 22 rfl (by kernel_rfl) (by kernel_rfl) rfl trivial ⟨trivial, trivial, (Ctx.rO 4 cv rfl), trivial⟩ (fun _ hC_ => Yl.fieldAddr (i := 2) rfl xG rfl sz3) ?_
      let hh : LV := [iv (rB (((y.State.Jobs.getD a.toNat bT.z).Attempt) + 1))]
      obtain ⟨hk, fN, gf⟩ := vH (P := Tryz.prog) (ps1 := [R, b]) (ps2 := [h, r0 p I, CH.row s u L, J, j, l]) (t := 3) 2 hh (iv (rB (((y.State.Jobs.getD a.toNat bT.z).Attempt) + 1))) cv rfl rfl (rR rfl) sz3
      let gN : LV := [.slice ah an ak, iv 2, iv (rB (((y.State.Jobs.getD a.toNat bT.z).Attempt) + 1)), iv ((y.State.Jobs.getD a.toNat bT.z).Epoch), iv ((y.State.Jobs.getD a.toNat bT.z).Until), .slice aF aI aG, .slice av aB ax, .slice ai ao al, .slice aj ap am]
      let gX : CH := CH.row Z (S + a.toNat * 9) gN
      have cw : Cx [R, b, gX, h, r0 p I, CH.row s u L, J, j, l] := gf
      refine WA.up1 23 (by kernel_rfl) (Up.skip rfl rfl (fN _ _ _ _ rfl rfl) ⟨trivial, trivial, (Ctx.rO 4 cw rfl), trivial⟩ ?_)
      refine WA.take none [] 24 rfl (by kernel_rfl) (by kernel_rfl) rfl trivial ⟨trivial, trivial, (Ctx.rO 4 cw rfl), trivial⟩ (fun _ hC_ => Yl.nilCheck rfl) ?_
      refine WA.take none [] 25 rfl (by kernel_rfl) (by kernel_rfl) rfl trivial ⟨trivial, trivial, (Ctx.rO 4 cw rfl), trivial⟩ (fun _ hC_ => Yl.fieldAddr (i := 3) rfl xG rfl sz3) ?_
      obtain ⟨hl, fO, gg⟩ := vH (P := Tryz.prog) (ps1 := [R, b]) (ps2 := [h, r0 p I, CH.row s u L, J, j, l]) (t := 3) 3 [iv aU] (iv aU) cw rfl rfl (rR rfl) sz3
      let gO : LV := [.slice ah an ak, iv 2, iv (rB (((y.State.Jobs.getD a.toNat bT.z).Attempt) + 1)), iv aU, iv ((y.State.Jobs.getD a.toNat bT.z).Until), .slice aF aI aG, .slice av aB ax, .slice ai ao al, .slice aj ap am]
      let gY : CH := CH.row Z (S + a.toNat * 9) gO
      have cx : Cx [R, b, gY, h, r0 p I, CH.row s u L, J, j, l] := gg
      refine WA.up1 26 (by kernel_rfl) (Up.skip rfl rfl (fO _ _ _ _ rfl rfl) ⟨trivial, trivial, (Ctx.rO 4 cx rfl), trivial⟩ ?_)
      refine WA.take none [] 27 rfl (by kernel_rfl) (by kernel_rfl) rfl trivial ⟨trivial, trivial, (Ctx.rO 4 cx rfl), trivial⟩ (fun _ hC_ => Yl.nilCheck rfl) ?_
      refine WA.take none [] 28 rfl (by kernel_rfl) (by kernel_rfl) rfl trivial ⟨trivial, trivial, (Ctx.rO 4 cx rfl), trivial⟩ (fun _ hC_ => Yl.fieldAddr (i := 4) rfl xG rfl sz3) ?_
      obtain ⟨hm, fP, gh⟩ := vH (P := Tryz.prog) (ps1 := [R, b]) (ps2 := [h, r0 p I, CH.row s u L, J, j, l]) (t := 3) 4 [iv bd.Time] (iv bd.Time) cx rfl rfl (rR rfl) sz3
      let gP : LV := [.slice ah an ak, iv 2, iv (rB (((y.State.Jobs.getD a.toNat bT.z).Attempt) + 1)), iv aU, iv bd.Time, .slice aF aI aG, .slice av aB ax, .slice ai ao al, .slice aj ap am]
      let gZ : CH := CH.row Z (S + a.toNat * 9) gP
      have gi : Cx [R, b, gZ, h, r0 p I, CH.row s u L, J, j, l] := gh
      refine WA.up1 29 (by kernel_rfl) (Up.skip rfl rfl (fP _ _ _ _ rfl rfl) ⟨trivial, trivial, trivial, trivial⟩ ?_)
      refine WA.take none [] 30 rfl (by kernel_rfl) (by kernel_rfl) rfl trivial ⟨trivial, trivial, trivial, trivial⟩ (fun _ hC_ => Yl.nilCheck rfl) ?_
      refine WA.take none [] 31 rfl (by kernel_rfl) (by kernel_rfl) rfl trivial ⟨trivial, trivial, trivial, trivial⟩ (fun _ hC_ => Yl.fieldAddr (i := 5) rfl xG rfl AX) ?_
      obtain ⟨hn, fQ, gj⟩ := vH (P := Tryz.prog) (ps1 := [R, b]) (ps2 := [h, r0 p I, CH.row s u L, J, j, l]) (t := 47) 5 [.slice a0 a6 a5] (.slice a0 a6 a5) gi rfl rfl (rR rfl) AX
      let gQ : LV := [.slice ah an ak, iv 2, iv (rB (((y.State.Jobs.getD a.toNat bT.z).Attempt) + 1)), iv aU, iv bd.Time, .slice a0 a6 a5, .slice av aB ax, .slice ai ao al, .slice aj ap am]
      let g0 : CH := CH.row Z (S + a.toNat * 9) gQ
      have gk : Cx [R, b, g0, h, r0 p I, CH.row s u L, J, j, l] := gj
      refine WA.up1 32 (by kernel_rfl) (Up.skip rfl rfl (fQ _ _ _ _ rfl rfl) ⟨trivial, trivial, trivial, trivial⟩ ?_)
      refine WA.done (by kernel_rfl) <| W.sr rfl <| WL.run to 3 rfl ?_
      let gR : LV := [.slice ah an ak, iv 2, iv (rB (((y.State.Jobs.getD a.toNat bT.z).Attempt) + 1)), iv aU, iv bd.Time, .slice a0 a6 a5, .slice none 0 0, .slice ai ao al, .slice aj ap am]
      let el : CH := CH.row Z (S + a.toNat * 9) gR
      refine WL.st gk 2 6 [.slice none 0 0] rfl rfl rfl rfl (Put.lit 6 rfl) (rR rfl) AX fun cp (gl : Cx [R, b, el, h, r0 p I, CH.row s u L, J, j, l]) => ?_
      refine WL.done <| W.seq <| W.sr rfl <| WL.run to 1 rfl <| WL.ln (E.length : Int) rfl tM (by omega) <| WL.rd to 1 rfl ?_
      obtain ⟨⟨aK, Q⟩, N, H⟩ := rE H
      refine W.vG (fun ch cp => ∃ V b1 cc bG aR b2 cd bH aS b3 ce bI aT b4 bw cj b5 bx ck b6 cf bJ c5 b7 bz cm b8 bA co, Ctx w F D cp V [CH.row s u (sF.q aK b1 bG cc aw O X b2 bH cd b3 bI ce), aR, aS, aT, CH.row Z (S + a.toNat * 9) (bT.q Q b4 cj bw b5 ck bx b6 bJ cf b7 cm bz b8 co bA), c5, b, h, r0 p I] ∧ CH.le F V ∧ oW sD.K V aR b1 bG cc aK.State.Eras (oW KI V aS b2 bH cd aK.State.Used (oW Kd.bool V aT b3 bI ce aK.State.Barred (sW KB V b4 cj bw Q.Payload (sW KI V b5 ck bx Q.Workers (oW KI V c5 b6 bJ cf Q.Indexes (sW rA.K V b7 cm bz Q.rI (co = Q.Value.length ∧ Q.Value.length ≤ bA ∧ bA ≤ maxLen ∧ Sl KB V V b8 Q.Value)))))))) ?_ ?_
      ·refine W.block ?_
       obtain ⟨Y, aa, fZ, c2⟩ := Ctx.fzI 0 gl rfl
       replace c2 : Cx [b, el, h, r0 p I, CH.row s u L, J, j, l] := c2
       obtain ⟨fo, fu, dk⟩ := Row.fz e1 aa fZ
       have e6 := Row.mono T aa
       have e7 := Row.mono U aa
       have e8 := Row.mono au aa
       have gn : Cx [CH.row s u L, J, j, l, el, CH.emp, b, h, r0 p I] := c2.pick [4, 5, 6, 7, 1, 8, 0, 2, 3] rfl
       refine W.loop (fun gu ch cp => ∃ (G : Int) (A : sF) (B : bT), ∃ br bB a7 aq bs bC aQ aC bt bD a8 ar a1 aL a9 a2 aM ba b9 cg bK cU a3 aN bb a4 aO bc, Kn ch [(0, .pointer (some ⟨s, u, none⟩)), (6, .pointer (some ⟨Z, S + a.toNat * 9, none⟩)), (93, .slice a0 a6 a5), (94, iv (E.length : Int)), (95, iv G)] ∧ Ctx w F D cp Y [CH.row s u (sF.q A br a7 bB aw O X bs aQ bC bt a8 bD), aq, aC, ar, CH.row Z (S + a.toNat * 9) (bT.q B a1 a9 aL a2 ba aM b9 bK cg a3 bb aN a4 bc aO), cU, b, h, r0 p I] ∧ oW sD.K Y aq br a7 bB A.State.Eras (oW KI Y aC bs aQ bC A.State.Used (oW Kd.bool Y ar bt a8 bD A.State.Barred (sW KB Y a1 a9 aL B.Payload (sW KI Y a2 ba aM B.Workers (oW KI Y cU b9 bK cg B.Indexes (sW rA.K Y a3 bb aN B.rI (sW KB Y a4 bc aO B.Value (sY.l1 gu E G A B = some (aK, Q)))))))))) k ⟨0, y, (⟨(y.State.Jobs.getD a.toNat bT.z).Payload, 2, rB (((y.State.Jobs.getD a.toNat bT.z).Attempt) + 1), aU, bd.Time, E, ([] : List Int), (y.State.Jobs.getD a.toNat bT.z).rI, (y.State.Jobs.getD a.toNat bT.z).Value⟩ : bT), aW, aX, aP, J, ad, af, ab, j, ae, ag, ac, l, ah, ak, an, a0, a5, a6, none, 0, 0, CH.emp, ai, al, ao, aj, am, ap, rfl, gn, aY, e8, az, e6, aA, e7, bo, bi, bl, (Sl.mono bf aa aa), fw, fo, fu, dk, rfl, (Row.nil _ _), bp, bj, bm, (Sl.mono bg aa aa), bq, bk, bn, (Sl.mono bh aa aa), N⟩ ?_
       clear N
       rintro gu ch cp ⟨G, A, B, br, bB, a7, aq, bs, bC, aQ, aC, bt, bD, a8, ar, a1, aL, a9, a2, aM, ba, b9, cg, bK, cU, a3, aN, bb, a4, aO, bc, fI, c3, dz, dh, fG, cz, dA, di, dB, dr, dv, dl, dC, ds, dw, dm, fH, dj, dD, dt, dx, dp, dE, du, dy, dq, N⟩
       rcases gu with _ | gB
       · exact absurd N (by simp [sY.l1])
       rw [sY.l1] at N
       apply ks ch fI
       refine W.sr rfl <| WL.rd to 1 rfl <| W.seq ?_
       rcases rT N with ⟨cH, N⟩ | ⟨cH, N⟩
       ·refine W.cT cH rfl <| W.skip <| W.seq <| W.block <| W.sr rfl ?_
        obtain ⟨g4, N⟩ := rV N
        obtain ⟨hc, g7, eY, fe⟩ := dk (by omega)
        refine WL.val (Yl.rW (i := G) rfl rfl eY tM sz3 (by omega)) ?_
        obtain ⟨g3, fK, fL⟩ := fe G.toNat _ (getD_some (d := 0) (by omega))
        obtain rfl := fK
        refine WL.val (Yl.load (v := iv (E.getD G.toNat 0)) rfl u_3 rfl (((c3.fro)).cell (fL 0 _ rfl))) <| WL.rd to 1 rfl <| W.seq ?_
        let gS : LV := bT.q B a1 a9 aL a2 ba aM b9 bK cg a3 bb aN a4 bc aO
        let bL : LV := sF.q A br a7 bB aw O X bs aQ bC bt a8 bD
        let em : CH := CH.row Z (S + a.toNat * 9) gS
        refine W.uF [([14, 17], em), ([13, 14, 17], CH.row s u bL), ([13, 14, 17], aC)] (by kernel_rfl) ?_
        have cy := Ctx.drewN c3 1
        refine WA.sZ [(0, none), (1, none), (2, none), (3, none), (4, some 0), (5, none), (6, none), (7, none), (8, none), (9, some 1), (10, none), (11, none), (12, some 2)] ⟨(Ctx.rO 4 cy rfl), (Ctx.rO 0 cy rfl), (Ctx.rO 2 cy rfl), trivial⟩ (by kernel_rfl) <| WT.run to 4 rfl <| WT.lv 6 rfl rfl rfl tM rfl rfl <| WT.run to 4 rfl <| WT.lv 9 rfl rfl rfl tM rfl rfl <| WT.run to 1 rfl ?_
        obtain ⟨gM, N⟩ := rV N
        obtain ⟨eK, ej, be, d2⟩ := (Row.sl cz) (by omega)
        refine WT.val rfl (fun _ hC_ => Yl.rW (i := E.getD G.toNat 0) rfl rfl be tM sz3 (by omega)) ?_
        obtain ⟨gL, ed, cW⟩ := d2 (E.getD G.toNat 0).toNat _ (getD_some (d := 0) (by omega))
        obtain rfl := ed
        refine WT.val rfl (fun _ hC_ => Yl.load (v := iv (A.State.Used.getD (E.getD G.toNat 0).toNat 0)) rfl u_3 rfl (((show Sub aC _ from hC_)).cell (cW 0 _ rfl))) ?_
        refine WT.done ?_
        obtain ⟨g1, eL, g6, aV, g8, d6, ee, cr, dP⟩ := uO (P := Tryz.prog) 3 KI cy tM ti3 ⟨by decide, by decide⟩ (A.State.Used.getD (E.getD G.toNat 0).toNat 0) (iv (A.State.Used.getD (E.getD G.toNat 0).toNat 0)) rfl
        refine WA.up1 13 (by kernel_rfl) (Up.val rfl rfl rfl (ee _ _ _ rfl) ⟨(Ctx.rO 5 cr rfl), trivial, trivial, trivial⟩ ?_)
        obtain ⟨d0, N⟩ := rV N
        obtain ⟨bN, bP, b0, aJ, g9, d7, ef, en, dQ⟩ := sP (P := Tryz.prog) (cb := eL) 3 KI [aV, CH.row s u bL, aq, aC, ar, em] [b, h, r0 p I] cr dj d6 (Row.sl dP) (Ctx.rO 0 cr rfl) tM ti3 rfl zo3 (by decide) (by decide) (by simpa using d0)
        have bO : Cx [aV, CH.row s u bL, aq, aC, ar, em, aJ, b, h, r0 p I] := en
        refine WA.up1 14 (by kernel_rfl) (Up.val rfl rfl rfl (ef _ _ _ _ rfl rfl) ⟨trivial, trivial, trivial, trivial⟩ ?_)
        refine WA.sZ [(15, none), (16, none)] ⟨(Ctx.rO 5 bO rfl), (Ctx.rO 1 bO rfl), (Ctx.rO 3 bO rfl), trivial⟩ (by kernel_rfl) <| WT.run to 2 rfl <| WT.done ?_
        obtain ⟨ha, eg, eo⟩ := vH (P := Tryz.prog) (ps1 := [aV, CH.row s u bL, aq, aC, ar]) (ps2 := [aJ, b, h, r0 p I]) (t := 47) 6 [.slice bN b0 bP] (.slice bN b0 bP) bO rfl rfl (rR rfl) AX
        let gT : LV := bT.q B a1 a9 aL a2 ba aM bN b0 bP a3 bb aN a4 bc aO
        let dN : CH := CH.row Z (S + a.toNat * 9) gT
        have ct : Cx [aV, CH.row s u bL, aq, aC, ar, dN, aJ, b, h, r0 p I] := eo
        refine WA.up1 17 (by kernel_rfl) (Up.skip rfl rfl (eg _ _ _ _ rfl rfl) ⟨trivial, trivial, trivial, trivial⟩ ?_)
        refine WA.done (by kernel_rfl) <| W.region rfl ?_
        refine WL.run to 4 rfl <| WL.lv ct 1 9 rfl rfl tM rfl rfl <| WL.run to 1 rfl <| WL.val (Yl.rW (i := E.getD G.toNat 0) rfl rfl be tM sz3 (by omega)) <| WL.val (Yl.load (v := iv (A.State.Used.getD (E.getD G.toNat 0).toNat 0)) rfl u_3 rfl (((Ctx.rO 3 ct rfl)).cell (cW 0 _ rfl))) <| WL.run to 1 rfl <| WL.val (Yl.rW (i := E.getD G.toNat 0) rfl rfl be tM sz3 (by omega)) ?_
        have d3 : (E.getD G.toNat 0).toNat < A.State.Used.length := by first | omega | (simp only [List.length_set, List.length_replicate] at *; omega)
        let gU : LV := [iv (rB ((A.State.Used.getD (E.getD G.toNat 0).toNat 0) + 1))]
        obtain ⟨cO, hb, eh, ep, dR⟩ := zD (P := Tryz.prog) (t := 3) KI [aV, CH.row s u bL, aq] [ar, dN, aJ, b, h, r0 p I] ct cz be (E.getD G.toNat 0).toNat 0 d3 0 (iv (rB ((A.State.Used.getD (E.getD G.toNat 0).toNat 0) + 1))) (gU) rfl (rR rfl) (Nat.le_of_ble_eq_true rfl) sz3 (rB ((A.State.Used.getD (E.getD G.toNat 0).toNat 0) + 1)) (fun _ h_ => Ah h_ rfl) ⟨eK, ej + (E.getD G.toNat 0).toNat * 1, none⟩ rfl
        have d8 : aQ = (A.State.Used.set (E.getD G.toNat 0).toNat (rB ((A.State.Used.getD (E.getD G.toNat 0).toNat 0) + 1))).length := by rw [List.length_set]; omega
        have eq : Cx [aV, CH.row s u bL, aq, cO, ar, dN, aJ, b, h, r0 p I] := ep
        refine WL.skip (eh _ _ _ _ rfl rfl) <| WL.done <| tH <| W.region rfl ?_
        refine WL.rd to 2 rfl ?_
        have er : Cx [CH.row s u bL, aq, cO, ar, dN, aJ, b, h, r0 p I] := eq.pick [1, 2, 3, 4, 5, 6, 7, 8, 9] rfl
        exact rF ⟨gB, Nat.lt_succ_self _, rB (G + 1), (⟨A.c, (⟨A.State.Eras, A.State.Jobs, A.State.Used.set (E.getD G.toNat 0).toNat (rB ((A.State.Used.getD (E.getD G.toNat 0).toNat 0) + 1)), A.State.Barred, A.State.Heads⟩ : bF)⟩ : sF), (⟨B.Payload, B.State, B.Attempt, B.Epoch, B.Until, B.Workers, B.Indexes ++ [A.State.Used.getD (E.getD G.toNat 0).toNat 0], B.rI, B.Value⟩ : bT), br, bB, a7, aq, bs, bC, aQ, cO, bt, bD, a8, ar, a1, aL, a9, a2, aM, ba, bN, bP, b0, aJ, a3, aN, bb, a4, aO, bc, rfl, er, dz, dh, d8, dR, dA, di, dB, dr, dv, dl, dC, ds, dw, dm, d7, dQ, dD, dt, dx, dp, dE, du, dy, dq, N⟩
       refine W.cF cH rfl <| W.exit <| rM <| rM <| sL ?_
       cases N
       refine rF ?_
       exact ⟨Y, br, bB, a7, aq, bs, bC, aQ, aC, bt, bD, a8, ar, a1, aL, a9, a2, aM, ba, b9, cg, bK, cU, a3, aN, bb, a4, aO, bc, c3, aa, dz, dh, fG, cz, dA, di, dB, dr, dv, dl, dC, ds, dw, dm, fH, dj, dD, dt, dx, dp, dE, du, dy, dq⟩
      ·rintro ch cp ⟨V, b1, cc, bG, aR, b2, cd, bH, aS, b3, ce, bI, aT, b4, bw, cj, b5, bx, ck, b6, cf, bJ, c5, b7, bz, cm, b8, bA, co, gm, dG, fx, e2, fy, e3, fA, e4, fB, fj, fp, e9, fC, fk, fq, fa, fD, e5, fE, fl, fs, fb, fF, fm, ft, fc⟩
       refine W.sr rfl <| WL.rd to 1 rfl <| W.ret ?_
       obtain ⟨eJ, M, ei, cu⟩ := Ctx.fzI 5 gm rfl
       let dM : LV := sF.q aK b1 bG cc aw O X b2 bH cd b3 bI ce
       let gV : LV := bT.q Q b4 cj bw b5 ck bx b6 bJ cf b7 cm bz b8 co bA
       let f2 : CH := CH.row Z (S + a.toNat * 9) gV
       replace cu : Cx [CH.row s u dM, aR, aS, aT, f2, b, h, r0 p I] := cu
       obtain ⟨d4, d5, dZ⟩ := Row.fz e5 M ei
       have dS := Row.mono e2 M
       have dT := Row.mono e3 M
       have dU := Row.mono e4 M
       have es : Cx [b, f2, h, CH.row s u dM, aR, aS, aT, r0 p I] := cu.pick [5, 4, 6, 0, 1, 2, 3, 7] rfl
       obtain ⟨cP, et, dV⟩ := Row.Fx (x := Q) aD (CH.le_trans dG M) (bT.mk' _ Q b4 bw cj b5 bx ck b6 cf bJ b7 bz cm b8 bA co fB fj fp (Sl.mono e9 M M) fC fk fq (Sl.mono fa M M) fD d4 d5 dZ fE fl fs (Sl.mono fb M M) fF fm ft (Sl.mono fc M M)) es
       have d9 : O = (y.State.Jobs.set a.toNat Q).length := by rw [List.length_set]; omega
       have eu : Cx [cP, CH.row s u dM, aR, aS, aT, r0 p I] := et
       have ew : Cx [CH.row s u dM, aR, cP, aS, aT] := eu.pick [1, 2, 0, 3, 4] rfl
       obtain ⟨eM, eN⟩ := sp H
       subst eM eN
       exact rH (sE rfl rfl) ⟨eJ, b1, cc, bG, aR, aw, X, O, cP, b2, cd, bH, aS, b3, ce, bI, aT, rfl, (CH.le_trans dG M), ew, fx, dS, d9, dV, fy, dT, fA, dU⟩
     refine W.nT cG rfl <| W.sr rfl <| WL.rd to 2 rfl <| W.ret <| rS ?_
     have ex : Cx [b, bM, h, R, r0 p I, CH.row s u L, J, j, l] := cZ.pick [1, 2, 3, 0, 4, 5, 6, 7, 8] rfl
     obtain ⟨cQ, ey, dW⟩ := Row.Fx (x := (y.State.Jobs.getD a.toNat bT.z)) aD (CH.le_refl _) (bT.mk' _ (y.State.Jobs.getD a.toNat bT.z) ah ak an aF aG aI av ax aB ai al ao aj am ap bo bi bl bf bY bU bW bQ bZ bV bX bR bp bj bm bg bq bk bn bh) ex
     have ea : O = (y.State.Jobs.set a.toNat (y.State.Jobs.getD a.toNat bT.z)).length := by rw [List.length_set]; omega
     have ez : Cx [cQ, R, r0 p I, CH.row s u L, J, j, l] := ey
     have eA : Cx [CH.row s u L, J, cQ, j, l] := ez.pick [3, 4, 0, 5, 6] rfl
     obtain ⟨eO, eP⟩ := sp H
     subst eO eP
     exact rH (sE rfl rfl) ⟨F, aW, aX, aP, J, aw, X, O, cQ, ad, af, ab, j, ae, ag, ac, l, rfl, (CH.le_refl _), eA, aY, au, ea, dW, az, T, aA, U⟩
    refine W.nT cD rfl <| W.sr rfl <| WL.rd to 1 rfl <| W.ret <| uX <| rS ?_
    obtain ⟨cR, eB, dX⟩ := Row.Fx (x := (y.State.Jobs.getD a.toNat bT.z)) aD (CH.le_refl _) (bT.mk' _ (y.State.Jobs.getD a.toNat bT.z) ah ak an aF aG aI av ax aB ai al ao aj am ap bo bi bl bf bY bU bW bQ bZ bV bX bR bp bj bm bg bq bk bn bh) bu
    have eb : O = (y.State.Jobs.set a.toNat (y.State.Jobs.getD a.toNat bT.z)).length := by rw [List.length_set]; omega
    have eC : Cx [cR, r0 p I, CH.row s u L, J, j, l] := eB
    have eD : Cx [CH.row s u L, J, cR, j, l] := eC.pick [2, 3, 0, 4, 5] rfl
    obtain ⟨eQ, eR⟩ := sp H
    subst eQ eR
    exact rH (sE rfl rfl) ⟨F, aW, aX, aP, J, aw, X, O, cR, ad, af, ab, j, ae, ag, ac, l, rfl, (CH.le_refl _), eD, aY, au, eb, dX, az, T, aA, U⟩
   refine W.nT cC rfl <| W.sr rfl <| WL.rd to 2 rfl <| W.ret <| uX <| rS ?_
   obtain ⟨cS, eE, dY⟩ := Row.Fx (x := (y.State.Jobs.getD a.toNat bT.z)) aD (CH.le_refl _) (bT.mk' _ (y.State.Jobs.getD a.toNat bT.z) ah ak an aF aG aI av ax aB ai al ao aj am ap bo bi bl bf bY bU bW bQ bZ bV bX bR bp bj bm bg bq bk bn bh) bu
   have ec : O = (y.State.Jobs.set a.toNat (y.State.Jobs.getD a.toNat bT.z)).length := by rw [List.length_set]; omega
   have eF : Cx [cS, r0 p I, CH.row s u L, J, j, l] := eE
   have eG : Cx [CH.row s u L, J, cS, j, l] := eF.pick [2, 3, 0, 4, 5] rfl
   obtain ⟨eS, eT⟩ := sp H
   subst eS eT
   exact rH (sE rfl rfl) ⟨F, aW, aX, aP, J, aw, X, O, cS, ad, af, ab, j, ae, ag, ac, l, rfl, (CH.le_refl _), eG, aY, au, ec, dY, az, T, aA, U⟩
  ·refine WL.val (Yl.assign (v := .pointer none) (F3 cB bE)) <| WL.rd to 1 rfl <| W.seq <| W.block <| W.sr rfl <| WL.rd to 3 rfl ?_
   rcases rT H with ⟨ci, H⟩ | ⟨ci, H⟩
   ·refine W.nF ci rfl <| W.sr rfl <| WL.run to 1 rfl ?_
    obtain ⟨d1, H⟩ := rV H
    exact d1.elim
   refine W.nT ci rfl <| W.sr rfl <| WL.rd to 2 rfl <| W.ret <| uX <| rS ?_
   have eH : Cx [CH.row s u L, J, aE, j, l] := dO.pick [1, 2, 3, 4, 5] rfl
   obtain ⟨eU, eV⟩ := sp H
   subst eU eV
   exact rH (sE rfl rfl) ⟨F, aW, aX, aP, J, aw, X, O, aE, ad, af, ab, j, ae, ag, ac, l, rfl, (CH.le_refl _), eH, aY, au, bE, ay, az, T, aA, U⟩
 refine W.cF bS rfl <| W.skip <| W.seq <| W.block <| W.sr rfl <| WL.rd to 3 rfl <| W.nT bS rfl <| W.sr rfl <| WL.rd to 2 rfl ?_
 refine W.ret <| uX <| rS ?_
 have eI : Cx [CH.row s u L, J, aE, j, l] := db.pick [1, 2, 3, 4, 5] rfl
 obtain ⟨eW, eX⟩ := sp H
 subst eW eX
 exact rH (sE rfl rfl) ⟨F, aW, aX, aP, J, aw, X, O, aE, ad, af, ab, j, ae, ag, ac, l, rfl, (CH.le_refl _), eI, aY, au, bE, ay, az, T, aA, U⟩
def yQ.f (k : Nat) (a : Int) : Option Int := if a = 1 then (some 64) else (if a = 2 then (some 65) else (if a = 3 then (some 66) else (if a = 4 then (some 67) else (if a = 5 then (some 68) else (some 69)))))
theorem yQ.calls (k w F) (m : Int) (hp : Pre w F [])  (j : Int) (H : yQ.f k m = some j) :
    Calls Tryz.prog 42 #[iv m] w fun e w' => e = .returned (fnV j) ∧ (∃ l, w' = w.drewN l) := by
 have C := Ctx.start hp
 generalize sR [] = D at C
 have a : ∃ l, w = w.drewN l := ⟨0, rfl⟩
 unfold yQ.f at H
 refine Calls.ofW Tryz.func42 rfl (by simp [Tryz.ntmps42]) <| W.sr rfl <| WL.rd to 1 rfl <| W.seq <| W.sr rfl <| WL.rd to 1 rfl <| W.block <| W.sr rfl <| WL.rd to 2 rfl ?_
 rcases rT H with ⟨b, H⟩ | ⟨b, H⟩
 ·refine W.cT b rfl <| W.sr rfl <| WL.rd to 1 rfl <| W.ret <| uX <| rS ?_
  have r := Option.some.inj H
  subst r
  exact rH (sE (t := 2) rfl ((show _ = Value.func (.func 64) #[] #[] from rfl).trans (B4 64).symm)) ⟨rfl, a⟩
 refine W.cF b rfl <| W.sr rfl <| WL.rd to 2 rfl ?_
 rcases rT H with ⟨d, H⟩ | ⟨d, H⟩
 ·refine W.cT d rfl <| W.sr rfl <| WL.rd to 1 rfl <| W.ret <| uX <| rS ?_
  have s := Option.some.inj H
  subst s
  exact rH (sE (t := 2) rfl ((show _ = Value.func (.func 65) #[] #[] from rfl).trans (B4 65).symm)) ⟨rfl, a⟩
 refine W.cF d rfl <| W.sr rfl <| WL.rd to 2 rfl ?_
 rcases rT H with ⟨g, H⟩ | ⟨g, H⟩
 ·refine W.cT g rfl <| W.sr rfl <| WL.rd to 1 rfl <| W.ret <| uX <| rS ?_
  have u := Option.some.inj H
  subst u
  exact rH (sE (t := 2) rfl ((show _ = Value.func (.func 66) #[] #[] from rfl).trans (B4 66).symm)) ⟨rfl, a⟩
 refine W.cF g rfl <| W.sr rfl <| WL.rd to 2 rfl ?_
 rcases rT H with ⟨h, H⟩ | ⟨h, H⟩
 ·refine W.cT h rfl <| W.sr rfl <| WL.rd to 1 rfl <| W.ret <| uX <| rS ?_
  have v := Option.some.inj H
  subst v
  exact rH (sE (t := 2) rfl ((show _ = Value.func (.func 67) #[] #[] from rfl).trans (B4 67).symm)) ⟨rfl, a⟩
 refine W.cF h rfl <| W.sr rfl <| WL.rd to 2 rfl ?_
 rcases rT H with ⟨i, H⟩ | ⟨i, H⟩
 ·refine W.cT i rfl <| W.sr rfl <| WL.rd to 1 rfl <| W.ret <| uX <| rS ?_
  have o := Option.some.inj H
  subst o
  exact rH (sE (t := 2) rfl ((show _ = Value.func (.func 68) #[] #[] from rfl).trans (B4 68).symm)) ⟨rfl, a⟩
 refine W.cF i rfl <| W.skip <| tH <| W.sr rfl <| WL.rd to 1 rfl <| W.ret ?_
 have p := Option.some.inj H
 subst p
 exact rH (sE (t := 2) rfl ((show _ = Value.func (.func 69) #[] #[] from rfl).trans (B4 69).symm)) ⟨rfl, a⟩
def wT.f (k : Nat) (d : rK) (x : bF) (e : rD) : Option (bF × Int) := ((tL.f k d).bind fun y => if y = 0 then ((sJ.f k d x).bind fun A => if A = true then ((tJ.f k e).bind fun B => some (!B)) else (some true)) else (some true)).bind fun C => if C = true then (some ((⟨([] : List sD), ([] : List bT), ([] : List Int), ([] : List Bool), 0⟩ : bF), 1)) else ((tF.f k x).bind fun a => ((yQ.f k e.Kind).bind fun b => if b = 64 then ((tB.f k (⟨d, a⟩ : sF) e).bind fun ⟨h, i⟩ => some (h, i)) else (if b = 65 then ((vV.f k (⟨d, a⟩ : sF) e).bind fun ⟨j, l⟩ => some (j, l)) else (if b = 66 then ((sY.f k (⟨d, a⟩ : sF) e).bind fun ⟨m, o⟩ => some (m, o)) else (if b = 67 then ((tN.f k (⟨d, a⟩ : sF) e).bind fun ⟨p, r⟩ => some (p, r)) else (if b = 68 then ((vX.f k (⟨d, a⟩ : sF) e).bind fun ⟨s, t⟩ => some (s, t)) else (if b = 69 then ((wL.f k (⟨d, a⟩ : sF) e).bind fun ⟨u, v⟩ => some (u, v)) else (if False then (none) else none))))))).bind fun ⟨g, w⟩ => if g = 0 then (some (w.State, 0)) else (some ((⟨([] : List sD), ([] : List bT), ([] : List Int), ([] : List Bool), 0⟩ : bF), g)))
theorem wT.calls (k w F) (E : rK) (bz bw cP bA bx a0 aX aO a1 aY aP a2) (ac : bF) (aq ad ar) (az : rD) (hp : Pre w F []) (e6 : cP = ac.Eras.length) (e4 : ac.Eras.length ≤ bw) (e5 : bw ≤ maxLen) (e3 : Sl sD.K F F bz ac.Eras) (cM : a0 = ac.Jobs.length) (cG : ac.Jobs.length ≤ bx) (cJ : bx ≤ maxLen) (cC : Sl bT.K F F bA ac.Jobs) (cN : a1 = ac.Used.length) (cH : ac.Used.length ≤ aO) (cK : aO ≤ maxLen) (cD : Sl KI F F aX ac.Used) (cO : a2 = ac.Barred.length) (cI : ac.Barred.length ≤ aP) (cL : aP ≤ maxLen) (cE : Sl Kd.bool F F aY ac.Barred) (U : az.Nonce.length = 32) (aI : ar = az.Data.length) (aG : az.Data.length ≤ ad) (aH : ad ≤ maxLen) (aF : Sl KB F F aq az.Data) (au : bF) (e8 : Int) (H : wT.f k E ac az = some (au, e8)) :
    Calls Tryz.prog 15 #[.agg (List.toArray (rK.q E)), .agg (List.toArray (bF.q ac bz cP bw bA a0 bx aX a1 aO aY a2 aP)), .agg (List.toArray ((rD.q az aq ar ad)))] w fun e w' => ∃ F' bb bh aT bs bc bi aU bt bd bj aV bu be bk aW bv, e = .returned (.tuple #[(.agg (List.toArray (bF.q au bb aT bh bc aU bi bd aV bj be aW bk))), (iv e8)]) ∧ CH.le F F' ∧ Ctx w F (sR []) w' F' [bs, bt, bu, bv] ∧ aT = au.Eras.length ∧ Row sD.K F' bs (.slice bb aT bh) au.Eras ∧ aU = au.Jobs.length ∧ Row bT.K F' bt (.slice bc aU bi) au.Jobs ∧ aV = au.Used.length ∧ Row KI F' bu (.slice bd aV bj) au.Used ∧ aW = au.Barred.length ∧ Row Kd.bool F' bv (.slice be aW bk) au.Barred := by
 have C := Ctx.start hp
 generalize hD : sR [] = D at C ⊢
 unfold wT.f at H
 refine Calls.ofW Tryz.func15 rfl (by simp [Tryz.ntmps15]) <| W.sr rfl ?_
 let x : LV := rK.q E
 obtain ⟨i, f3, fv, fJ⟩ := uR (P := Tryz.prog) 42 (.agg (List.toArray x)) x C rfl
 refine WL.val (fv _ _ _ rfl) ?_
 let y : LV := bF.q ac bz cP bw bA a0 bx aX a1 aO aY a2 aP
 obtain ⟨j, f4, fw, fK⟩ := uR (P := Tryz.prog) 50 (.agg (List.toArray y)) y fJ rfl
 refine WL.val (fw _ _ _ rfl) ?_
 let A : LV := rD.q az aq ar ad
 obtain ⟨l, f5, fx, fL⟩ := uR (P := Tryz.prog) 26 (.agg (List.toArray A)) A fK rfl
 refine WL.val (fx _ _ _ rfl) ?_
 let u : LV := [.slice none 0 0, .slice none 0 0, .slice none 0 0, .slice none 0 0, iv 0]
 obtain ⟨h, f6, fy, b1⟩ := sU (P := Tryz.prog) (e := 50) u fL zN rfl
 refine WL.val (fy _ _) <| WL.rd to 1 rfl <| W.seq <| W.seq ?_
 obtain ⟨fX, v, H⟩ := rE H
 refine W.vG (fun aE aa => Kn aE [(3, pt i), (4, pt j), (5, pt l), (6, pt h), (23, .bool fX)] ∧ Ctx w F D aa F [r0 h u, r0 l A, r0 j y, r0 i x]) ?_ ?_
 ·refine W.region rfl ?_
  refine WL.la b1 3 rfl rfl zZ rfl Ac ?_
  obtain ⟨fU, fq, v⟩ := rE v
  refine WL.c0 b1 (tL.calls k _ F E b1.tX  fU fq) (ne.fr rfl rfl) fun aa aZ => ?_
  refine WL.run to 2 rfl ?_
  rcases rT v with ⟨a8, v⟩ | ⟨a8, v⟩
  ·refine WL.kn 13 (cb (wP a8)) <| WL.laG aZ 3 rfl rfl rfl rfl zZ rfl Ac <| WL.laG aZ 2 rfl rfl rfl rfl wJ rfl wM <| WL.on rfl rfl ?_
   obtain ⟨fV, fs, v⟩ := rE v
   refine WL.c0 aZ (sJ.calls k _ F E bz bw cP bA bx a0 aX aO a1 aY aP a2 ac aZ.tX e6 e4 e5 e3 cM cG cJ cC cN cH cK cD cO cI cL cE fV fs) (ne.fr rfl rfl) fun aa bg => ?_
   refine WL.run to 3 rfl ?_
   rcases rT v with ⟨a9, v⟩ | ⟨a9, v⟩
   ·refine WL.kn 19 (cb (zP a9)) <| WL.laG bg 1 rfl rfl rfl rfl Bg rfl (uY BP (tP rfl (tP (rL U) rfl))) <| WL.on rfl rfl ?_
    obtain ⟨fW, ft, v⟩ := rE v
    refine WL.c0 bg (tJ.calls k _ F aq ad ar az bg.tX U aI aG aH aF fW ft) (ne.fr rfl rfl) fun aa fM => ?_
    refine WL.rd to 2 rfl ?_
    cases v
    refine rF ?_
    exact ⟨rfl, fM⟩
   refine WL.kn 19 (cb (zO a9)) <| WL.sN 3 19 false rfl rfl <| WL.rd to 1 rfl ?_
   cases v
   refine rF ?_
   exact ⟨rfl, bg⟩
  refine WL.kn 13 (cb (wQ a8)) <| WL.sN 4 13 false rfl rfl <| WL.run to 2 rfl <| WL.sN 3 19 false rfl rfl <| WL.rd to 1 rfl ?_
  cases v
  refine rF ?_
  exact ⟨rfl, aZ⟩
 ·rintro aE aa ⟨fu, e1⟩
  apply ks aE fu
  rcases rT H with ⟨ba, H⟩ | ⟨ba, H⟩
  ·refine W.uI (cb ba) <| W.sr rfl <| WL.val (Yl.build (places := [(0, 1), (1, 1), (2, 1), (3, 1), (4, 1)]) (cs := List.toArray u) wJ zN (DB _ wJ) (uV .nil) rfl) <| WL.st e1 0 0 u rfl rfl rfl rfl (Put.lit 0 rfl) (rR rfl) wM fun aa (e2 : Cx [r0 h u, r0 l A, r0 j y, r0 i x]) => ?_
   refine WL.rd to 1 rfl <| W.ret <| rS ?_
   have fN : Cx [CH.emp, CH.emp, CH.emp, CH.emp] := e2.pick [4, 4, 4, 4] rfl
   obtain ⟨fO, fP⟩ := sp H
   subst fO fP
   exact rH (Au rfl ((.cell rfl (tS (g := h) (off := 0) (o := 0) (cs := u) (us := u) wJ rfl wM (Ctx.rO 0 e2 rfl) rfl) (.tmp rfl .nil))) rfl) ⟨F, none, 0, 0, CH.emp, none, 0, 0, CH.emp, none, 0, 0, CH.emp, none, 0, 0, CH.emp, rfl, (CH.le_refl _), fN, rfl, (Row.nil _ _), rfl, (Row.nil _ _), rfl, (Row.nil _ _), rfl, (Row.nil _ _)⟩
  refine W.uD (cb (Bool.eq_false_iff.2 ba)) <| W.skip <| W.seq <| W.uF [([4], r0 i x), ([2, 4], r0 j y)] (by kernel_rfl) ?_
  have aQ := Ctx.drewN e1 1
  refine WA.sZ [(0, some 0), (1, some 1)] ⟨(Ctx.rO 3 aQ rfl), (Ctx.rO 2 aQ rfl), trivial⟩ (by kernel_rfl) <| WT.val rfl (fun _ hC_ => Yl.xD (g := i) (off := 0) (o := 0) (cs := x) (us := x) rfl zZ rfl Ac (show Sub (r0 i x) _ from hC_) rfl) ?_
  refine WT.val rfl (fun _ hC_ => Yl.xD (g := j) (off := 0) (o := 0) (cs := y) (us := y) rfl wJ rfl wM (show Sub (r0 j y) _ from hC_) rfl) ?_
  refine WT.done ?_
  obtain ⟨I, ei, H⟩ := rE H
  refine WA.up1 2 (by kernel_rfl) (Up.sI rfl (by kernel_rfl) rfl (tF.calls k _ F bz bw cP bA bx a0 aX aO a1 aY aP a2 ac aQ.tX e6 e4 e5 e3 cM cG cJ cC cN cH cK cD cO cI cL cE I ei) (ne.fr rfl rfl) ?_)
  rintro a7 aa ⟨ab, J, Q, V, m, L, R, X, p, M, S, Y, r, N, T, Z, s, rfl, t, e9, am, ai, an, aj, ao, ak, ap, al⟩
  have aR : Cx [m, p, r, s, r0 h u, r0 l A, r0 j y, r0 i x] := Ctx.wS aQ e9
  refine ⟨_, rfl, ⟨(Ctx.rO 7 aR rfl), trivial, trivial⟩, ?_⟩
  refine WA.sZ [(3, none)] ⟨(Ctx.rO 7 aR rfl), (Ctx.rO 6 aR rfl), trivial⟩ (by kernel_rfl) ?_
  let aN : LV := [iv E.Faulty, iv E.Workers, iv E.Height, iv E.Bits, iv E.Jobs, iv E.Term, iv E.Heads, .slice J V Q, .slice L X R, .slice M Y S, .slice N Z T, iv I.Heads]
  let fY : LV := bF.q I J V Q L X R M Y S N Z T
  refine WT.val rfl (fun _ hC_ => Yl.build (places := [(0, 7), (7, 5)]) (cs := List.toArray aN) J1 K8 (KM _ J1) (uV (.cons rfl (.cons rfl .nil))) (zF.run (a := [iv 0, iv 0, iv 0, iv 0, iv 0, iv 0, iv 0, .slice none 0 0, .slice none 0 0, .slice none 0 0, .slice none 0 0, iv 0]) (c := [iv E.Faulty, iv E.Workers, iv E.Height, iv E.Bits, iv E.Jobs, iv E.Term, iv E.Heads, .slice J V Q, .slice L X R, .slice M Y S, .slice N Z T, iv I.Heads]) (.put (us := x) rfl rfl rfl (Put.lit 0 rfl) (.put (us := fY) rfl rfl rfl (Put.lit 7 rfl) .nil)))) ?_
  refine WT.done ?_
  obtain ⟨d, f2, eU, a4⟩ := uR (P := Tryz.prog) 90 (.agg (List.toArray aN)) aN aR rfl
  refine WA.up1 4 (by kernel_rfl) (Up.val rfl rfl rfl (eU _ _ _ rfl) ⟨trivial, trivial, trivial⟩ ?_)
  refine WA.sZ [(5, none)] ⟨(Ctx.rO 8 a4 rfl), (Ctx.rO 7 a4 rfl), trivial⟩ (by kernel_rfl) <| WT.run to 1 rfl <| WT.done <| WA.done (by kernel_rfl) <| W.seq <| W.seq ?_
  obtain ⟨⟨fI, G⟩, b, H⟩ := rE H
  refine W.vG (fun aE aa => ∃ O av aA ae aJ aw aB af aK ax aC ag aL ay aD ah aM, Kn aE [(6, pt h), (8, pt d), (9, iv fI)] ∧ Ctx w F D aa O [r0 d (sF.q G av ae aA aw af aB ax ag aC ay ah aD), aJ, aK, aL, aM, r0 h u, r0 l A, r0 j y, r0 i x] ∧ CH.le ab O ∧ oW sD.K O aJ av ae aA G.State.Eras (oW bT.K O aK aw af aB G.State.Jobs (oW KI O aL ax ag aC G.State.Used (ah = G.State.Barred.length ∧ Row Kd.bool O aM (.slice ay ah aD) G.State.Barred)))) ?_ ?_
  ·refine W.uF [([5], r0 l A)] (by kernel_rfl) ?_
   have a6 := Ctx.drewN a4 1
   refine WA.sZ [(0, none), (1, some 0), (3, none), (4, some 0)] ⟨(Ctx.rO 6 a6 rfl), trivial⟩ (by kernel_rfl) <| WT.run to 1 rfl <| WT.lv 0 rfl rfl rfl u_3 rfl rfl <| WT.run to 1 rfl <| WT.val rfl (fun _ hC_ => Yl.xD (g := l) (off := 0) (o := 0) (cs := A) (us := A) rfl Bg rfl (uY BP (tP rfl (tP (rL U) rfl))) (show Sub (r0 l A) _ from hC_) (xX _)) ?_
   refine WT.done ?_
   obtain ⟨fB, ej, b⟩ := rE b
   refine WA.up1 2 (by kernel_rfl) (Up.sI rfl (by kernel_rfl) rfl (yQ.calls k _ ab az.Kind a6.tX  fB ej) (ne.fr rfl rfl) ?_)
   rintro a7 aa ⟨rfl, ⟨fA, rfl⟩⟩
   have B := Ctx.drewN a6 fA
   refine ⟨_, rfl, ⟨(Ctx.rO 6 B rfl), trivial⟩, ?_⟩
   rcases rT b with ⟨bl, b⟩ | ⟨bl, b⟩
   ·obtain ⟨⟨fC, dG⟩, ek, b⟩ := rE b
    refine WA.up1 5 (by kernel_rfl) (Up.sI rfl (by kernel_rfl) rfl (tB.calls k _ ab d 0 J Q V m L R X p M S Y r N T Z s (⟨E, I⟩ : sF) aq ad ar az (B.pq 5) am ai an aj ao ak ap al U aI aG aH (Sl.mono aF t t) fC dG ek) (vD.fnT (CT 64 bl) Tryz.func64 (by kernel_rfl) rfl (Aq (.cons rfl (.cons rfl .nil)))) ?_)
    rintro a7 aa ⟨fh, bB, b9, cQ, dg, bC, ca, cR, dh, bD, cc, cS, di, bE, cd, cU, dj, rfl, eV, fa, eu, dT, ew, dU, ex, dV, ey, dW⟩
    let fZ : LV := sF.q dG bB cQ b9 bC cR ca bD cS cc bE cU cd
    have b2 : Cx [r0 d fZ, dg, dh, di, dj, r0 h u, r0 l A, r0 j y, r0 i x] := Ctx.cn 5 B fa
    refine ⟨_, rfl, ⟨trivial, trivial⟩, ?_⟩
    refine WA.sZ [(6, none)] ⟨(Ctx.rO 6 b2 rfl), trivial⟩ (by kernel_rfl) <| WT.run to 1 rfl <| WT.done <| WA.done (by kernel_rfl) ?_
    cases b
    refine rF ?_
    exact ⟨fh, bB, b9, cQ, dg, bC, ca, cR, dh, bD, cc, cS, di, bE, cd, cU, dj, rfl, b2, eV, eu, dT, ew, dU, ex, dV, ey, dW⟩
   ·rcases rT b with ⟨bm, b⟩ | ⟨bm, b⟩
    ·obtain ⟨⟨fD, dH⟩, el, b⟩ := rE b
     refine WA.up1 5 (by kernel_rfl) (Up.sI rfl (by kernel_rfl) rfl (vV.calls k _ ab d 0 J Q V m L R X p M S Y r N T Z s (⟨E, I⟩ : sF) aq ad ar az (B.pq 5) am ai an aj ao ak ap al U aI aG aH (Sl.mono aF t t) fD dH el) (vD.fnT (CT 65 bm) Tryz.func65 (by kernel_rfl) rfl (Aq (.cons rfl (.cons rfl .nil)))) ?_)
     rintro a7 aa ⟨fi, bG, ce, cV, dk, bH, cf, cW, dl, bI, cg, cX, dm, bJ, ch, cY, dp, rfl, eW, fb, ez, dX, eA, dY, eB, dZ, eC, d0⟩
     let f0 : LV := sF.q dH bG cV ce bH cW cf bI cX cg bJ cY ch
     have b3 : Cx [r0 d f0, dk, dl, dm, dp, r0 h u, r0 l A, r0 j y, r0 i x] := Ctx.cn 5 B fb
     refine ⟨_, rfl, ⟨trivial, trivial⟩, ?_⟩
     refine WA.sZ [(6, none)] ⟨(Ctx.rO 6 b3 rfl), trivial⟩ (by kernel_rfl) <| WT.run to 1 rfl <| WT.done <| WA.done (by kernel_rfl) ?_
     cases b
     refine rF ?_
     exact ⟨fi, bG, ce, cV, dk, bH, cf, cW, dl, bI, cg, cX, dm, bJ, ch, cY, dp, rfl, b3, eW, ez, dX, eA, dY, eB, dZ, eC, d0⟩
    ·rcases rT b with ⟨bn, b⟩ | ⟨bn, b⟩
     ·obtain ⟨⟨fE, dI⟩, em, b⟩ := rE b
      refine WA.up1 5 (by kernel_rfl) (Up.sI rfl (by kernel_rfl) rfl (sY.calls k _ ab d 0 J Q V m L R X p M S Y r N T Z s (⟨E, I⟩ : sF) aq ad ar az (B.pq 5) am ai an aj ao ak ap al U aI aG aH (Sl.mono aF t t) fE dI em) (vD.fnT (CT 66 bn) Tryz.func66 (by kernel_rfl) rfl (Aq (.cons rfl (.cons rfl .nil)))) ?_)
      rintro a7 aa ⟨fj, bK, ci, cZ, dq, bL, cj, c1, dr, bM, ck, c2, ds, bN, cm, c3, dt, rfl, eX, fc, eD, d1, eE, d2, eF, d3, eG, d4⟩
      let f1 : LV := sF.q dI bK cZ ci bL c1 cj bM c2 ck bN c3 cm
      have b4 : Cx [r0 d f1, dq, dr, ds, dt, r0 h u, r0 l A, r0 j y, r0 i x] := Ctx.cn 5 B fc
      refine ⟨_, rfl, ⟨trivial, trivial⟩, ?_⟩
      refine WA.sZ [(6, none)] ⟨(Ctx.rO 6 b4 rfl), trivial⟩ (by kernel_rfl) <| WT.run to 1 rfl <| WT.done <| WA.done (by kernel_rfl) ?_
      cases b
      refine rF ?_
      exact ⟨fj, bK, ci, cZ, dq, bL, cj, c1, dr, bM, ck, c2, ds, bN, cm, c3, dt, rfl, b4, eX, eD, d1, eE, d2, eF, d3, eG, d4⟩
     ·rcases rT b with ⟨bo, b⟩ | ⟨bo, b⟩
      ·obtain ⟨⟨fF, dJ⟩, en, b⟩ := rE b
       refine WA.up1 5 (by kernel_rfl) (Up.sI rfl (by kernel_rfl) rfl (tN.calls k _ ab d 0 J Q V m L R X p M S Y r N T Z s (⟨E, I⟩ : sF) aq ad ar az (B.pq 5) am ai an aj ao ak ap al U aI aG aH (Sl.mono aF t t) fF dJ en) (vD.fnT (CT 67 bo) Tryz.func67 (by kernel_rfl) rfl (Aq (.cons rfl (.cons rfl .nil)))) ?_)
       rintro a7 aa ⟨fk, bO, co, c4, du, bP, cp, c5, dv, bQ, cr, c6, dw, bR, ct, c7, dx, rfl, eY, fd, eH, d5, eI, d6, eJ, d7, eK, d8⟩
       let fQ : LV := sF.q dJ bO c4 co bP c5 cp bQ c6 cr bR c7 ct
       have b5 : Cx [r0 d fQ, du, dv, dw, dx, r0 h u, r0 l A, r0 j y, r0 i x] := Ctx.cn 5 B fd
       refine ⟨_, rfl, ⟨trivial, trivial⟩, ?_⟩
       refine WA.sZ [(6, none)] ⟨(Ctx.rO 6 b5 rfl), trivial⟩ (by kernel_rfl) <| WT.run to 1 rfl <| WT.done <| WA.done (by kernel_rfl) ?_
       cases b
       refine rF ?_
       exact ⟨fk, bO, co, c4, du, bP, cp, c5, dv, bQ, cr, c6, dw, bR, ct, c7, dx, rfl, b5, eY, eH, d5, eI, d6, eJ, d7, eK, d8⟩
      ·rcases rT b with ⟨bp, b⟩ | ⟨bp, b⟩
       ·obtain ⟨⟨fG, dK⟩, eo, b⟩ := rE b
        refine WA.up1 5 (by kernel_rfl) (Up.sI rfl (by kernel_rfl) rfl (vX.calls k _ ab d 0 J Q V m L R X p M S Y r N T Z s (⟨E, I⟩ : sF) aq ad ar az (B.pq 5) am ai an aj ao ak ap al U aI aG aH (Sl.mono aF t t) fG dK eo) (vD.fnT (CT 68 bp) Tryz.func68 (by kernel_rfl) rfl (Aq (.cons rfl (.cons rfl .nil)))) ?_)
        rintro a7 aa ⟨fl, bS, cu, c8, dy, bU, cv, c9, dz, bV, cw, da, dA, bW, cx, db, dB, rfl, eZ, fe, eL, d9, eM, ea, eN, eb, eO, ec⟩
        let fR : LV := sF.q dK bS c8 cu bU c9 cv bV da cw bW db cx
        have b6 : Cx [r0 d fR, dy, dz, dA, dB, r0 h u, r0 l A, r0 j y, r0 i x] := Ctx.cn 5 B fe
        refine ⟨_, rfl, ⟨trivial, trivial⟩, ?_⟩
        refine WA.sZ [(6, none)] ⟨(Ctx.rO 6 b6 rfl), trivial⟩ (by kernel_rfl) <| WT.run to 1 rfl <| WT.done <| WA.done (by kernel_rfl) ?_
        cases b
        refine rF ?_
        exact ⟨fl, bS, cu, c8, dy, bU, cv, c9, dz, bV, cw, da, dA, bW, cx, db, dB, rfl, b6, eZ, eL, d9, eM, ea, eN, eb, eO, ec⟩
       ·rcases rT b with ⟨bq, b⟩ | ⟨bq, b⟩
        ·obtain ⟨⟨fH, dL⟩, ep, b⟩ := rE b
         refine WA.up1 5 (by kernel_rfl) (Up.sI rfl (by kernel_rfl) rfl (wL.calls k _ ab d 0 J Q V m L R X p M S Y r N T Z s (⟨E, I⟩ : sF) aq ad ar az (B.pq 5) am ai an aj ao ak ap al U aI aG aH (Sl.mono aF t t) fH dL ep) (vD.fnT (CT 69 bq) Tryz.func69 (by kernel_rfl) rfl (Aq (.cons rfl (.cons rfl .nil)))) ?_)
         rintro a7 aa ⟨fm, bX, cy, dc, dC, bY, cz, dd, dD, bZ, cA, de, dE, b0, cB, df, dF, rfl, e0, ff, eP, ed, eQ, ee, eR, ef, eS, eg⟩
         let fS : LV := sF.q dL bX dc cy bY dd cz bZ de cA b0 df cB
         have b7 : Cx [r0 d fS, dC, dD, dE, dF, r0 h u, r0 l A, r0 j y, r0 i x] := Ctx.cn 5 B ff
         refine ⟨_, rfl, ⟨trivial, trivial⟩, ?_⟩
         refine WA.sZ [(6, none)] ⟨(Ctx.rO 6 b7 rfl), trivial⟩ (by kernel_rfl) <| WT.run to 1 rfl <| WT.done <| WA.done (by kernel_rfl) ?_
         cases b
         refine rF ?_
         exact ⟨fm, bX, cy, dc, dC, bY, cz, dd, dD, bZ, cA, de, dE, b0, cB, df, dF, rfl, b7, e0, eP, ed, eQ, ee, eR, ef, eS, eg⟩
        ·obtain ⟨eh, b⟩ := rV b
         exact eh.elim
  ·rintro aE aa ⟨O, av, aA, ae, aJ, aw, aB, af, aK, ax, aC, ag, aL, ay, aD, ah, aM, eT, a5, br, eq, dP, er, dQ, es, dR, et, dS⟩
   apply ks aE eT
   refine W.sr rfl <| WL.rd to 2 rfl ?_
   rcases rT H with ⟨aS, H⟩ | ⟨aS, H⟩
   ·refine W.nF aS rfl <| W.skip <| W.sr rfl <| WL.run to 3 rfl ?_
    let e7 : LV := sF.q G av ae aA aw af aB ax ag aC ay ah aD
    let a3 : LV := bF.q G.State av ae aA aw af aB ax ag aC ay ah aD
    refine WL.val (Yl.xD (g := d) (off := 0) (o := 7) (cs := e7) (us := a3) rfl wJ rfl wM (Ctx.rO 0 a5 rfl) rfl) <| WL.st a5 5 0 a3 rfl rfl rfl rfl (Put.lit 0 rfl) (rR rfl) wM fun aa (b8 : Cx [r0 d e7, aJ, aK, aL, aM, r0 h a3, r0 l A, r0 j y, r0 i x]) => ?_
    refine WL.rd to 1 rfl <| W.ret ?_
    have fg : Cx [aJ, aK, aL, aM] := b8.pick [1, 2, 3, 4] rfl
    obtain ⟨fo, fp⟩ := sp H
    subst fo fp
    exact rH (Au rfl ((.cell rfl (tS (g := h) (off := 0) (o := 0) (cs := a3) (us := a3) wJ rfl wM (Ctx.rO 5 b8 rfl) rfl) (.tmp rfl .nil))) rfl) ⟨O, av, aA, ae, aJ, aw, aB, af, aK, ax, aC, ag, aL, ay, aD, ah, aM, rfl, (CH.le_trans t br), fg, eq, dP, er, dQ, es, dR, et, dS⟩
   refine W.nT aS rfl <| W.sr rfl <| WL.val (Yl.build (places := [(0, 1), (1, 1), (2, 1), (3, 1), (4, 1)]) (cs := List.toArray u) wJ zN (DB _ wJ) (uV .nil) rfl) <| WL.run to 1 rfl ?_
   let fT : LV := sF.q G av ae aA aw af aB ax ag aC ay ah aD
   refine WL.st a5 5 0 u rfl rfl rfl rfl (Put.lit 0 rfl) (rR rfl) wM fun aa (bf : Cx [r0 d fT, aJ, aK, aL, aM, r0 h u, r0 l A, r0 j y, r0 i x]) => ?_
   refine WL.rd to 1 rfl <| W.ret <| rS ?_
   have dM : Cx [CH.emp, CH.emp, CH.emp, CH.emp] := bf.pick [9, 9, 9, 9] rfl
   obtain ⟨dN, dO⟩ := sp H
   subst dN dO
   exact rH (Au rfl ((.cell rfl (tS (g := h) (off := 0) (o := 0) (cs := u) (us := u) wJ rfl wM (Ctx.rO 5 bf rfl) rfl) (.tmp rfl .nil))) rfl) ⟨O, none, 0, 0, CH.emp, none, 0, 0, CH.emp, none, 0, 0, CH.emp, none, 0, 0, CH.emp, rfl, (CH.le_trans t br), dM, rfl, (Row.nil _ _), rfl, (Row.nil _ _), rfl, (Row.nil _ _), rfl, (Row.nil _ _)⟩
end Go.Proofs.YtobdpbnadjkhiaaGreat
namespace Go.Proofs.YtobdpbnadjkhiaaGreat
open Go.RowKit Go.WG
set_option linter.unusedVariables false
set_option linter.unusedSimpArgs false
set_option maxRecDepth 100000
set_option maxHeartbeats 4000000
def tD.l1 : Nat → Int → Int → bF → Option (Int × bF)
  | 0, _, _, _ => none
  | k + 1, b, a, d => if a < ([(⟨1, 1, (List.replicate 32 (0 : Int)), ([] : List Int), 0, 0, 0⟩ : rD), (⟨2, 0, (List.replicate 32 (0 : Int)), ([] : List Int), 0, 0, 0⟩ : rD), (⟨3, 0, (List.replicate 32 (0 : Int)), ([] : List Int), 1, 9, 0⟩ : rD), (⟨4, 0, (List.replicate 32 (0 : Int)), [7], 1, 0, 0⟩ : rD)].length : Int) then (if 0 ≤ a ∧ a < ([(⟨1, 1, (List.replicate 32 (0 : Int)), ([] : List Int), 0, 0, 0⟩ : rD), (⟨2, 0, (List.replicate 32 (0 : Int)), ([] : List Int), 0, 0, 0⟩ : rD), (⟨3, 0, (List.replicate 32 (0 : Int)), ([] : List Int), 1, 9, 0⟩ : rD), (⟨4, 0, (List.replicate 32 (0 : Int)), [7], 1, 0, 0⟩ : rD)].length : Int) then (if b = 0 then ((wT.f k (⟨0, 1, 0, 1, 1, 1, 0⟩ : rK) d ([(⟨1, 1, (List.replicate 32 (0 : Int)), ([] : List Int), 0, 0, 0⟩ : rD), (⟨2, 0, (List.replicate 32 (0 : Int)), ([] : List Int), 0, 0, 0⟩ : rD), (⟨3, 0, (List.replicate 32 (0 : Int)), ([] : List Int), 1, 9, 0⟩ : rD), (⟨4, 0, (List.replicate 32 (0 : Int)), [7], 1, 0, 0⟩ : rD)].getD a.toNat rD.z)).bind fun ⟨e, g⟩ => tD.l1 k g (rB (a + 1)) e) else (tD.l1 k b (rB (a + 1)) d)) else none) else (some (b, d))
def tD.f (k : Nat)  : Option Bool := (yJ.f k (⟨0, 1, 0, 1, 1, 1, 0⟩ : rK)).bind fun ⟨h, g⟩ => (tD.l1 k g 0 h).bind fun ⟨d, a⟩ => (if d = 0 then (if (a.Jobs.length : Int) = 1 then (if 0 ≤ (0 : Int) ∧ (0 : Int) < (a.Jobs.length : Int) then (if ((a.Jobs.getD (0 : Int).toNat bT.z).State) = 3 then (if (((a.Jobs.getD (0 : Int).toNat bT.z).Value).length : Int) = 1 then ((xP.f k a).bind fun b => some (decide (b = 1))) else (some false)) else (some false)) else none) else (some false)) else (some false)).bind fun e => some e
theorem tD.calls (k w F)  (hp : Pre w F [])  (cV : Bool) (H : tD.f k  = some cV) :
    Calls Tryz.prog 5 #[] w fun e w' => e = .returned (.bool cV) ∧ Ctx w F (sR []) w' F [] := by
 have C := Ctx.start hp
 generalize hD : sR [] = D at C ⊢
 unfold tD.f at H
 refine Calls.ofW Tryz.func5 rfl (by simp [Tryz.ntmps5]) <| W.sr rfl <| WL.rd to 1 rfl <| W.sr rfl ?_
 let A : LV := [iv 0, iv 1, iv 0, iv 1, iv 1, iv 1, iv 0]
 refine WL.val (Yl.build (places := [(0, 1), (1, 1), (2, 1), (3, 1), (4, 1), (5, 1), (6, 1)]) (cs := List.toArray A) zZ KH (KX _ zZ) (uV (.cons rfl (.cons rfl (.cons rfl (.cons rfl .nil))))) rfl) ?_
 let eL : LV := [iv 0, iv 0, iv 0, iv 0, iv 0, iv 0, iv 0]
 obtain ⟨B, eW, dV, ew⟩ := sU (P := Tryz.prog) (e := 42) eL C KH rfl
 refine WL.val (dV _ _) <| WL.st ew 0 0 A rfl rfl rfl rfl (Put.lit 0 rfl) (rR rfl) Ac fun ah (cZ : Cx [r0 B A]) => ?_
 refine WL.done <| W.sr rfl <| WL.la cZ 0 rfl rfl zZ rfl Ac ?_
 obtain ⟨⟨dH, cW⟩, dU, H⟩ := rE H
 refine WL.sI (yJ.calls k _ F (⟨0, 1, 0, 1, 1, 1, 0⟩ : rK) cZ.tX  dH cW dU) (ne.fr rfl rfl) ?_
 rintro dT ah ⟨cI, cM, cQ, a4, cJ, cN, cR, a5, cK, cO, cS, a6, cL, cP, cU, a7, rfl, dL, dx, di, dy, dj, dz, dk, dA, dl⟩
 refine ⟨_, rfl, ?_⟩
 have dM : Cx [a4, a5, a6, a7, r0 B A] := Ctx.wS cZ dL
 refine WL.run to 3 rfl ?_
 let eM : LV := [.slice none 0 0, .slice none 0 0, .slice none 0 0, .slice none 0 0, iv 0]
 obtain ⟨h, eT, dC, dN⟩ := sU (P := Tryz.prog) (e := 50) eM dM zN rfl
 refine WL.val (dC _ _) ?_
 let cH : LV := bF.q dH cI cQ cM cJ cR cN cK cS cO cL cU cP
 refine WL.st dN 0 0 cH rfl rfl rfl rfl (Put.lit 0 rfl) (rR rfl) wM fun ah (dO : Cx [r0 h cH, a4, a5, a6, a7, r0 B A]) => ?_
 refine WL.rd to 1 rfl <| W.seq <| W.sr rfl ?_
 let eN : LV := [iv 1, iv 1] ++ ((List.replicate 32 (0 : Int)).map (Value.int .u8) ++ [.slice none 0 0, iv 0, iv 0, iv 0])
 refine WL.val (Yl.build (places := [(0, 1), (1, 1), (2, 32), (34, 1), (35, 1), (36, 1), (37, 1)]) (cs := List.toArray eN) Bg Fy (H9 _ Bg) (uV (.cons rfl (.cons rfl .nil))) (zF.run (a := [iv 0, iv 0] ++ ((List.replicate 32 (0 : Int)).map (Value.int .u8) ++ [.slice none 0 0, iv 0, iv 0, iv 0])) (c := [iv 1, iv 1] ++ ((List.replicate 32 (0 : Int)).map (Value.int .u8) ++ [.slice none 0 0, iv 0, iv 0, iv 0])) (.put (us := [iv 1]) rfl rfl rfl (Put.left (Put.lit 0 rfl)) (.put (us := [iv 1]) rfl rfl rfl (Put.left (Put.lit 1 rfl)) .nil)))) ?_
 let eO : LV := [iv 2, iv 0] ++ ((List.replicate 32 (0 : Int)).map (Value.int .u8) ++ [.slice none 0 0, iv 0, iv 0, iv 0])
 refine WL.val (Yl.build (places := [(0, 1), (1, 1), (2, 32), (34, 1), (35, 1), (36, 1), (37, 1)]) (cs := List.toArray eO) Bg Fy (H9 _ Bg) (uV (.cons rfl .nil)) (zF.run (a := [iv 0, iv 0] ++ ((List.replicate 32 (0 : Int)).map (Value.int .u8) ++ [.slice none 0 0, iv 0, iv 0, iv 0])) (c := [iv 2, iv 0] ++ ((List.replicate 32 (0 : Int)).map (Value.int .u8) ++ [.slice none 0 0, iv 0, iv 0, iv 0])) (.put (us := [iv 2]) rfl rfl rfl (Put.left (Put.lit 0 rfl)) .nil))) ?_
 let eP : LV := [iv 3, iv 0] ++ ((List.replicate 32 (0 : Int)).map (Value.int .u8) ++ [.slice none 0 0, iv 1, iv 9, iv 0])
 refine WL.val (Yl.build (places := [(0, 1), (1, 1), (2, 32), (34, 1), (35, 1), (36, 1), (37, 1)]) (cs := List.toArray eP) Bg Fy (H9 _ Bg) (uV (.cons rfl (.cons rfl (.cons rfl .nil)))) (zF.run (a := [iv 0, iv 0] ++ ((List.replicate 32 (0 : Int)).map (Value.int .u8) ++ [.slice none 0 0, iv 0, iv 0, iv 0])) (c := [iv 3, iv 0] ++ ((List.replicate 32 (0 : Int)).map (Value.int .u8) ++ [.slice none 0 0, iv 1, iv 9, iv 0])) (.put (us := [iv 3]) rfl rfl rfl (Put.left (Put.lit 0 rfl)) (.put (us := [iv 1]) rfl rfl rfl (Put.skip 2 33 rfl (Put.skip 32 1 (rL (List.length_replicate ..)) (Put.lit 1 rfl))) (.put (us := [iv 9]) rfl rfl rfl (Put.skip 2 34 rfl (Put.skip 32 2 (rL (List.length_replicate ..)) (Put.lit 2 rfl))) .nil))))) ?_
 obtain ⟨a1, a2, a3, eS, eU, dB, dD, dP, dm⟩ := uO (P := Tryz.prog) 5 KB dO tG ti5 ⟨by decide, by decide⟩ 7 (.int .u8 7) rfl
 refine WL.val (dD _ _ _ rfl) ?_
 let eQ : LV := [iv 4, iv 0] ++ ((List.replicate 32 (0 : Int)).map (Value.int .u8) ++ [.slice a1 a3 a2, iv 1, iv 0, iv 0])
 refine WL.val (Yl.build (places := [(0, 1), (1, 1), (2, 32), (34, 1), (35, 1), (36, 1), (37, 1)]) (cs := List.toArray eQ) Bg Fy (H9 _ Bg) (uV (.cons rfl (.cons rfl (.cons rfl .nil)))) (zF.run (a := [iv 0, iv 0] ++ ((List.replicate 32 (0 : Int)).map (Value.int .u8) ++ [.slice none 0 0, iv 0, iv 0, iv 0])) (c := [iv 4, iv 0] ++ ((List.replicate 32 (0 : Int)).map (Value.int .u8) ++ [.slice a1 a3 a2, iv 1, iv 0, iv 0])) (.put (us := [iv 4]) rfl rfl rfl (Put.left (Put.lit 0 rfl)) (.put (us := [iv 1]) rfl rfl rfl (Put.skip 2 33 rfl (Put.skip 32 1 (rL (List.length_replicate ..)) (Put.lit 1 rfl))) (.put (us := [.slice a1 a3 a2]) rfl rfl rfl (Put.skip 2 32 rfl (Put.skip 32 0 (rL (List.length_replicate ..)) (Put.lit 0 rfl))) .nil))))) ?_
 obtain ⟨bo, aC, dF, (dQ : Cx [r0 h cH, a4, a5, a6, a7, r0 B A])⟩ := Ctx.fzI 0 dP rfl
 obtain ⟨dv, dw, du⟩ := Row.fz dm aC dF
 have dp := Row.mono di aC
 have dq := Row.mono dj aC
 have dr := Row.mono dk aC
 have ds := Row.mono dl aC
 let dX : LV := [.agg (List.toArray ([iv 1, iv 1] ++ ((List.replicate 32 (0 : Int)).map (Value.int .u8) ++ [.slice none 0 0, iv 0, iv 0, iv 0]))), .agg (List.toArray ([iv 2, iv 0] ++ ((List.replicate 32 (0 : Int)).map (Value.int .u8) ++ [.slice none 0 0, iv 0, iv 0, iv 0]))), .agg (List.toArray ([iv 3, iv 0] ++ ((List.replicate 32 (0 : Int)).map (Value.int .u8) ++ [.slice none 0 0, iv 1, iv 9, iv 0]))), .agg (List.toArray ([iv 4, iv 0] ++ ((List.replicate 32 (0 : Int)).map (Value.int .u8) ++ [.slice a1 a3 a2, iv 1, iv 0, iv 0])))]
 obtain ⟨dK, dS, dW, s, eV, eG, dE, dR, dt⟩ := Cs (P := Tryz.prog) 26 rD.K dQ Fo K5 (by decide) [(⟨1, 1, (List.replicate 32 (0 : Int)), ([] : List Int), 0, 0, 0⟩ : rD), (⟨2, 0, (List.replicate 32 (0 : Int)), ([] : List Int), 0, 0, 0⟩ : rD), (⟨3, 0, (List.replicate 32 (0 : Int)), ([] : List Int), 1, 9, 0⟩ : rD), (⟨4, 0, (List.replicate 32 (0 : Int)), [7], 1, 0, 0⟩ : rD)] dX (.cons (rD.mk' _ (⟨1, 1, (List.replicate 32 (0 : Int)), ([] : List Int), 0, 0, 0⟩ : rD) none 0 0 (List.length_replicate ..) rfl (Nat.le_refl _) (Nat.zero_le _) (Sl.nil _ _ _ _)) (.cons (rD.mk' _ (⟨2, 0, (List.replicate 32 (0 : Int)), ([] : List Int), 0, 0, 0⟩ : rD) none 0 0 (List.length_replicate ..) rfl (Nat.le_refl _) (Nat.zero_le _) (Sl.nil _ _ _ _)) (.cons (rD.mk' _ (⟨3, 0, (List.replicate 32 (0 : Int)), ([] : List Int), 1, 9, 0⟩ : rD) none 0 0 (List.length_replicate ..) rfl (Nat.le_refl _) (Nat.zero_le _) (Sl.nil _ _ _ _)) (.cons (rD.mk' _ (⟨4, 0, (List.replicate 32 (0 : Int)), [7], 1, 0, 0⟩ : rD) a1 a2 a3 (List.length_replicate ..) dB dv dw du) .nil)))) 4 rfl (by decide) (by decide)
 refine WL.val (dE _ [(.tmp 12), (.tmp 13), (.tmp 14), (.tmp 16)] _ (.cons rfl (.cons rfl (.cons rfl (.cons rfl .nil))))) <| WL.ln ([(⟨1, 1, (List.replicate 32 (0 : Int)), ([] : List Int), 0, 0, 0⟩ : rD), (⟨2, 0, (List.replicate 32 (0 : Int)), ([] : List Int), 0, 0, 0⟩ : rD), (⟨3, 0, (List.replicate 32 (0 : Int)), ([] : List Int), 1, 9, 0⟩ : rD), (⟨4, 0, (List.replicate 32 (0 : Int)), [7], 1, 0, 0⟩ : rD)].length : Int) rfl Fo (by omega) <| WL.rd to 1 rfl ?_
 obtain ⟨⟨bC, l⟩, g, H⟩ := rE H
 refine W.vG (fun y ah => ∃ L ar ay al ac au az am ad av aA an ae aw aB ao af, Kn y [(2, pt h), (3, iv bC)] ∧ Ctx w F D ah L [r0 h (bF.q l ar al ay au am az av an aA aw ao aB), ac, ad, ae, af, s, r0 B A] ∧ CH.le bo L ∧ oW sD.K L ac ar al ay l.Eras (oW bT.K L ad au am az l.Jobs (oW KI L ae av an aA l.Used (ao = l.Barred.length ∧ Row Kd.bool L af (.slice aw ao aB) l.Barred)))) ?_ ?_
 ·refine W.block ?_
  have cY : Cx [r0 h cH, a4, a5, a6, a7, s, r0 B A] := dR.pick [1, 2, 3, 4, 5, 0, 6] rfl
  refine W.loop (fun dh y ah => ∃ (a0 : Int) (o : Int) (p : bF), ∃ I S X M ag T Y N R U Z O J V aa Q G, Kn y [(1, pt B), (2, pt h), (3, iv a0), (17, .slice dK dW dS), (18, iv ([(⟨1, 1, (List.replicate 32 (0 : Int)), ([] : List Int), 0, 0, 0⟩ : rD), (⟨2, 0, (List.replicate 32 (0 : Int)), ([] : List Int), 0, 0, 0⟩ : rD), (⟨3, 0, (List.replicate 32 (0 : Int)), ([] : List Int), 1, 9, 0⟩ : rD), (⟨4, 0, (List.replicate 32 (0 : Int)), [7], 1, 0, 0⟩ : rD)].length : Int)), (19, iv o)] ∧ Ctx w F D ah I [r0 h (bF.q p S M X T N Y U O Z V Q aa), ag, R, J, G, s, r0 B A] ∧ CH.le bo I ∧ bF.oS I p S M X ag T N Y R U O Z J V Q aa G (tD.l1 dh a0 o p = some (bC, l))) k ⟨cW, 0, dH, bo, cI, cM, cQ, a4, cJ, cN, cR, a5, cK, cO, cS, a6, cL, cP, cU, a7, rfl, cY, (CH.le_refl _), dx, dp, dy, dq, dz, dr, dA, ds, g⟩ ?_
  clear g
  rintro dh y ah ⟨a0, o, p, I, S, X, M, ag, T, Y, N, R, U, Z, O, J, V, aa, Q, G, cr, a9, aq, aS, aI, aT, aJ, aU, aK, aV, aL, g⟩
  rcases dh with _ | bd
  · exact absurd g (by simp [tD.l1])
  rw [tD.l1] at g
  have bg := Row.mono dt aq
  apply ks y cr
  refine W.sr rfl <| WL.rd to 1 rfl <| W.seq ?_
  rcases rT g with ⟨aM, g⟩ | ⟨aM, g⟩
  ·refine W.cT aM rfl <| W.skip <| W.seq <| W.block <| W.sr rfl ?_
   obtain ⟨d7, g⟩ := rV g
   obtain ⟨eA, ep, bD, bZ⟩ := (Row.sl bg) (by omega)
   refine WL.val (Yl.rW (i := o) rfl rfl bD Fo BP (by omega)) ?_
   obtain ⟨dZ, cu, cw⟩ := bZ o.toNat _ (getD_some (d := rD.z) (by omega))
   obtain ⟨bj, bp, bu, rfl, ai, ci, b3, b8, bU⟩ := rD.open cu
   let ak : LV := [iv (([(⟨1, 1, (List.replicate 32 (0 : Int)), ([] : List Int), 0, 0, 0⟩ : rD), (⟨2, 0, (List.replicate 32 (0 : Int)), ([] : List Int), 0, 0, 0⟩ : rD), (⟨3, 0, (List.replicate 32 (0 : Int)), ([] : List Int), 1, 9, 0⟩ : rD), (⟨4, 0, (List.replicate 32 (0 : Int)), [7], 1, 0, 0⟩ : rD)].getD o.toNat rD.z).Kind), iv (([(⟨1, 1, (List.replicate 32 (0 : Int)), ([] : List Int), 0, 0, 0⟩ : rD), (⟨2, 0, (List.replicate 32 (0 : Int)), ([] : List Int), 0, 0, 0⟩ : rD), (⟨3, 0, (List.replicate 32 (0 : Int)), ([] : List Int), 1, 9, 0⟩ : rD), (⟨4, 0, (List.replicate 32 (0 : Int)), [7], 1, 0, 0⟩ : rD)].getD o.toNat rD.z).Epoch)] ++ ((([(⟨1, 1, (List.replicate 32 (0 : Int)), ([] : List Int), 0, 0, 0⟩ : rD), (⟨2, 0, (List.replicate 32 (0 : Int)), ([] : List Int), 0, 0, 0⟩ : rD), (⟨3, 0, (List.replicate 32 (0 : Int)), ([] : List Int), 1, 9, 0⟩ : rD), (⟨4, 0, (List.replicate 32 (0 : Int)), [7], 1, 0, 0⟩ : rD)].getD o.toNat rD.z).Nonce).map (Value.int .u8) ++ [.slice bj bu bp, iv (([(⟨1, 1, (List.replicate 32 (0 : Int)), ([] : List Int), 0, 0, 0⟩ : rD), (⟨2, 0, (List.replicate 32 (0 : Int)), ([] : List Int), 0, 0, 0⟩ : rD), (⟨3, 0, (List.replicate 32 (0 : Int)), ([] : List Int), 1, 9, 0⟩ : rD), (⟨4, 0, (List.replicate 32 (0 : Int)), [7], 1, 0, 0⟩ : rD)].getD o.toNat rD.z).Job), iv (([(⟨1, 1, (List.replicate 32 (0 : Int)), ([] : List Int), 0, 0, 0⟩ : rD), (⟨2, 0, (List.replicate 32 (0 : Int)), ([] : List Int), 0, 0, 0⟩ : rD), (⟨3, 0, (List.replicate 32 (0 : Int)), ([] : List Int), 1, 9, 0⟩ : rD), (⟨4, 0, (List.replicate 32 (0 : Int)), [7], 1, 0, 0⟩ : rD)].getD o.toNat rD.z).Time), iv (([(⟨1, 1, (List.replicate 32 (0 : Int)), ([] : List Int), 0, 0, 0⟩ : rD), (⟨2, 0, (List.replicate 32 (0 : Int)), ([] : List Int), 0, 0, 0⟩ : rD), (⟨3, 0, (List.replicate 32 (0 : Int)), ([] : List Int), 1, 9, 0⟩ : rD), (⟨4, 0, (List.replicate 32 (0 : Int)), [7], 1, 0, 0⟩ : rD)].getD o.toNat rD.z).By)])
   refine WL.val (Yl.wC (cs := ak) rfl Bg rfl (uY BP (tP rfl (tP (rL ai) rfl))) (fun j u hu => by rw [vL]; exact ((Ctx.rO 5 a9 rfl)).cell (cw _ _ hu))) ?_
   let dY : LV := [iv 0, iv 0] ++ ((List.replicate 32 (0 : Int)).map (Value.int .u8) ++ [.slice none 0 0, iv 0, iv 0, iv 0])
   obtain ⟨ab, eR, cx, c1⟩ := sU (P := Tryz.prog) (e := 26) dY a9 Fy rfl
   refine WL.val (cx _ _) ?_
   let aD : LV := bF.q p S M X T N Y U O Z V Q aa
   refine WL.st c1 0 0 ak rfl rfl rfl rfl (Put.all 38 (tP rfl (tP (rL (List.length_replicate ..)) rfl)) (tP rfl (tP (rL ai) rfl))) (yB (rR rfl) (yB (wN _ _) (rR rfl))) (uY BP (tP rfl (tP (rL ai) rfl))) fun ah (ax : Cx [r0 ab ak, r0 h aD, ag, R, J, G, s, r0 B A]) => ?_
   refine WL.done <| W.sr rfl <| WL.rd to 2 rfl ?_
   rcases rT g with ⟨aN, g⟩ | ⟨aN, g⟩
   ·refine W.cT aN rfl <| W.region rfl ?_
    refine WL.la ax 7 rfl rfl zZ rfl Ac <| WL.la ax 1 rfl rfl wJ rfl wM <| WL.la ax 0 rfl rfl Bg rfl (uY BP (tP rfl (tP (rL ai) rfl))) ?_
    obtain ⟨ex, E, cy, ba⟩ := Ctx.fzI 2 ax rfl
    replace ba : Cx [r0 ab ak, r0 h aD, R, J, G, s, r0 B A] := ba
    obtain ⟨b4, b9, bV⟩ := Row.fz aI E cy
    have bE := Row.mono bg E
    have bG := Row.mono aJ E
    have bH := Row.mono aK E
    have bI := Row.mono aL E
    obtain ⟨ey, x, cz, bb⟩ := Ctx.fzI 2 ba rfl
    replace bb : Cx [r0 ab ak, r0 h aD, J, G, s, r0 B A] := bb
    obtain ⟨b5, ca, bW⟩ := Row.fz bG x cz
    have bJ := Row.mono bE x
    have bK := Row.mono bH x
    have bL := Row.mono bI x
    obtain ⟨ez, r, cA, bc⟩ := Ctx.fzI 2 bb rfl
    replace bc : Cx [r0 ab ak, r0 h aD, G, s, r0 B A] := bc
    obtain ⟨b6, cc, bX⟩ := Row.fz bK r cA
    have bM := Row.mono bJ r
    have bN := Row.mono bL r
    obtain ⟨dc, m, cB, aE⟩ := Ctx.fzI 2 bc rfl
    replace aE : Cx [r0 ab ak, r0 h aD, s, r0 B A] := aE
    obtain ⟨b7, cd, bY⟩ := Row.fz bN m cB
    have bO := Row.mono bM m
    obtain ⟨⟨be, bB⟩, b1, g⟩ := rE g
    refine WL.sI (wT.calls bd _ dc (⟨0, 1, 0, 1, 1, 1, 0⟩ : rK) S X M T Y N U Z O V aa Q p bj bp bu ([(⟨1, 1, (List.replicate 32 (0 : Int)), ([] : List Int), 0, 0, 0⟩ : rD), (⟨2, 0, (List.replicate 32 (0 : Int)), ([] : List Int), 0, 0, 0⟩ : rD), (⟨3, 0, (List.replicate 32 (0 : Int)), ([] : List Int), 1, 9, 0⟩ : rD), (⟨4, 0, (List.replicate 32 (0 : Int)), [7], 1, 0, 0⟩ : rD)].getD o.toNat rD.z) aE.tX aS b4 b9 (Sl.mono bV (CH.le_trans x (CH.le_trans r m)) (CH.le_trans x (CH.le_trans r m))) aT b5 ca (Sl.mono bW (CH.le_trans r m) (CH.le_trans r m)) aU b6 cc (Sl.mono bX m m) aV b7 cd bY ai ci b3 b8 (Sl.mono bU (CH.le_trans E (CH.le_trans x (CH.le_trans r m))) (CH.le_trans E (CH.le_trans x (CH.le_trans r m)))) be bB b1) (ne.fr rfl rfl) ?_
    rintro dT ah ⟨dd, bk, bq, bv, aW, bl, br, bw, aX, bm, bs, bx, aY, bn, bt, bz, aZ, rfl, bi, c2, cj, bP, ck, bQ, cm, bR, co, bS⟩
    refine ⟨_, rfl, ?_⟩
    have c3 : Cx [aW, aX, aY, aZ, r0 ab ak, r0 h aD, s, r0 B A] := Ctx.wS aE c2
    have d1 := Row.mono bO bi
    refine WL.run to 3 rfl ?_
    let bA : LV := bF.q be bk bv bq bl bw br bm bx bs bn bz bt
    refine WL.st c3 5 0 bA rfl rfl rfl rfl (Put.lit 0 rfl) (rR rfl) wM fun ah (c4 : Cx [aW, aX, aY, aZ, r0 ab ak, r0 h bA, s, r0 B A]) => ?_
    refine WL.rd to 1 rfl <| tH <| W.region rfl ?_
    refine WL.rd to 2 rfl ?_
    have c5 : Cx [r0 h bA, aW, aX, aY, aZ, s, r0 B A] := c4.pick [5, 0, 1, 2, 3, 6, 7] rfl
    exact rF ⟨bd, Nat.lt_succ_self _, bB, rB (o + 1), be, dd, bk, bq, bv, aW, bl, br, bw, aX, bm, bs, bx, aY, bn, bt, bz, aZ, rfl, c5, (CH.le_trans aq (CH.le_trans E (CH.le_trans x (CH.le_trans r (CH.le_trans m bi))))), cj, bP, ck, bQ, cm, bR, co, bS, g⟩
   refine W.cF aN rfl <| W.skip <| tH <| W.region rfl ?_
   refine WL.rd to 2 rfl ?_
   have c6 : Cx [r0 h aD, ag, R, J, G, s, r0 B A] := ax.pick [1, 2, 3, 4, 5, 6, 7] rfl
   exact rF ⟨bd, Nat.lt_succ_self _, a0, rB (o + 1), p, I, S, X, M, ag, T, Y, N, R, U, Z, O, J, V, aa, Q, G, rfl, c6, aq, aS, aI, aT, aJ, aU, aK, aV, aL, g⟩
  refine W.cF aM rfl <| W.exit <| rM <| rM <| sL ?_
  cases g
  refine rF ?_
  exact ⟨I, S, X, M, ag, T, Y, N, R, U, Z, O, J, V, aa, Q, G, rfl, a9, aq, aS, aI, aT, aJ, aU, aK, aV, aL⟩
 ·rintro y ah ⟨L, ar, ay, al, ac, au, az, am, ad, av, aA, an, ae, aw, aB, ao, af, cp, t, eo, ce, aF, cf, ap, cg, aG, ch, aH⟩
  apply ks y cp
  refine W.seq ?_
  obtain ⟨dJ, b, H⟩ := rE H
  let a8 : LV := bF.q l ar al ay au am az av an aA aw ao aB
  refine W.vG (fun y ah => y 0 = .bool dJ ∧ Ctx w F D ah L [r0 h a8, ac, ad, ae, af, s, r0 B A]) ?_ ?_
  ·refine W.region rfl ?_
   refine WL.run to 3 rfl ?_
   rcases rT b with ⟨aO, b⟩ | ⟨aO, b⟩
   ·refine WL.kn 35 (cb (decide_eq_true aO)) <| WL.run to 1 rfl <| WL.lvG t 0 1 rfl rfl rfl rfl wY rfl rfl <| WL.lnG (l.Jobs.length : Int) rfl rfl rfl wY (by omega) <| WL.run to 3 rfl ?_
    rcases rT b with ⟨aP, b⟩ | ⟨aP, b⟩
    ·refine WL.kn 41 (cb (decide_eq_true aP)) <| WL.run to 1 rfl <| WL.lvG t 0 1 rfl rfl rfl rfl wY rfl rfl ?_
     obtain ⟨d8, b⟩ := rV b
     obtain ⟨eB, eq, bf, b0⟩ := (Row.sl ap) (by omega)
     refine WL.xC rfl rfl (Yl.rW (i := 0) rfl rfl bf wY yN (by omega)) <| WL.run to 1 rfl ?_
     obtain ⟨d0, cv, bh⟩ := b0 (0 : Int).toNat _ (getD_some (d := bT.z) (by omega))
     obtain ⟨er, eC, eH, es, eD, eI, et, eE, eJ, eu, eF, eK, cX, df, dG, rfl, ej, d9, ee, d2, ek, ea, ef, d3, el, eb, eg, d4, em, ec, eh, d5, en, ed, ei, d6⟩ := bT.open cv
     refine WL.xC rfl rfl (Yl.load (v := iv ((l.Jobs.getD (0 : Int).toNat bT.z).State)) rfl u_3 rfl (((Ctx.rO 2 t rfl)).cell (bh 1 _ rfl))) <| WL.run to 3 rfl ?_
     rcases rT b with ⟨aQ, b⟩ | ⟨aQ, b⟩
     ·refine WL.kn 49 (cb (decide_eq_true aQ)) <| WL.run to 1 rfl <| WL.lvG t 0 1 rfl rfl rfl rfl wY rfl rfl <| WL.xC rfl rfl (Yl.rW (i := 0) rfl rfl bf wY yN (by omega)) <| WL.run to 1 rfl <| WL.xC rfl rfl (Yl.load (v := .slice cX dG df) rfl tG rfl (((Ctx.rO 2 t rfl)).cell (bh 8 _ rfl))) <| WL.lnG (((l.Jobs.getD (0 : Int).toNat bT.z).Value).length : Int) rfl rfl rfl tG (by omega) <| WL.run to 3 rfl ?_
      rcases rT b with ⟨aR, b⟩ | ⟨aR, b⟩
      ·refine WL.kn 58 (cb (decide_eq_true aR)) <| WL.laG t 0 rfl rfl rfl rfl wJ rfl wM <| WL.on rfl rfl ?_
       obtain ⟨de, aj, ⟨cC, cD, cE, cG, _⟩, c8⟩ := Ctx.B1 [ac, ad, ae, af] (ps := [r0 h a8, s, r0 B A]) (Ctx.pick [1, 2, 3, 4, 0, 5, 6] t rfl)
       obtain ⟨dI, b2, b⟩ := rE b
       refine WL.sI (xP.calls k _ de ar ay al au az am av aA an aw aB ao l (c8.pq 0) ce (Row.rP aF).1 (Row.rP aF).2.1 (Sl.mono (Row.sl aF) aj cC) cf (Row.rP ap).1 (Row.rP ap).2.1 (Sl.mono (Row.sl ap) aj cD) cg (Row.rP aG).1 (Row.rP aG).2.1 (Sl.mono (Row.sl aG) aj cE) ch (Row.rP aH).1 (Row.rP aH).2.1 (Sl.mono (Row.sl aH) aj cG) dI b2) (ne.fr rfl rfl) ?_
       rintro dT ah ⟨rfl, c9⟩
       refine ⟨_, rfl, ?_⟩
       have da : Cx [r0 h a8, ac, ad, ae, af, s, r0 B A] := Ctx.cl 0 t aj c9
       refine WL.rd to 3 rfl ?_
       cases b
       refine rF ?_
       exact ⟨rfl, da⟩
      refine WL.kn 58 (cb (decide_eq_false aR)) <| WL.sN 3 58 true rfl rfl <| WL.rd to 2 rfl ?_
      cases b
      refine rF ?_
      exact ⟨rfl, t⟩
     refine WL.kn 49 (cb (decide_eq_false aQ)) <| WL.sN 7 49 true rfl rfl <| WL.run to 2 rfl <| WL.sN 3 58 true rfl rfl <| WL.rd to 2 rfl ?_
     cases b
     refine rF ?_
     exact ⟨rfl, t⟩
    refine WL.kn 41 (cb (decide_eq_false aP)) <| WL.sN 6 41 true rfl rfl <| WL.run to 2 rfl <| WL.sN 7 49 true rfl rfl <| WL.run to 2 rfl <| WL.sN 3 58 true rfl rfl <| WL.rd to 2 rfl ?_
    cases b
    refine rF ?_
    exact ⟨rfl, t⟩
   refine WL.kn 35 (cb (decide_eq_false aO)) <| WL.sN 4 35 true rfl rfl <| WL.run to 2 rfl <| WL.sN 6 41 true rfl rfl <| WL.run to 2 rfl <| WL.sN 7 49 true rfl rfl <| WL.run to 2 rfl <| WL.sN 3 58 true rfl rfl <| WL.rd to 2 rfl ?_
   cases b
   refine rF ?_
   exact ⟨rfl, t⟩
  ·rintro y ah ⟨ct, c7⟩
   apply kn y (.c ct .n)
   refine W.ret ?_
   have db : Cx [] := c7.pick [] rfl
   have dg := Option.some.inj H
   subst dg
   exact rH (sE rfl rfl) ⟨rfl, (Ctx.Ea db (CH.le_refl _))⟩
def xI.f (k : Nat) (a : rD) : Option rD := if (a.Data.length + a.Data.length / 4 + 192) * 1 ≤ 281474976710656 then (some (⟨a.Kind, a.Epoch, a.Nonce, a.Data, a.Job, a.Time, a.By⟩ : rD)) else none
theorem xI.calls (k w F L r T) (b : rD) (hp : Pre w F []) (a : b.Nonce.length = 32) (ac : T = b.Data.length) (ah : b.Data.length ≤ r) (ai : r ≤ maxLen) (ab : Sl KB F F L b.Data) (i : rD) (H : xI.f k b = some i) :
    Calls Tryz.prog 7 #[.agg (List.toArray ((rD.q b L T r)))] w fun e w' => ∃ B I v J, e = .returned (.agg (List.toArray ((rD.q i B v I)))) ∧ Ctx w F (sR []) w' F [J] ∧ i.Nonce.length = 32 ∧ v = i.Data.length ∧ Row KB F J (.slice B v I) i.Data := by
 have C := Ctx.start hp
 generalize hD : sR [] = D at C ⊢
 unfold xI.f at H
 refine Calls.ofW Tryz.func7 rfl (by simp [Tryz.ntmps7]) <| W.sr rfl ?_
 let y : LV := rD.q b L T r
 obtain ⟨x, al, O, U⟩ := uR (P := Tryz.prog) 26 (.agg (List.toArray y)) y C rfl
 refine WL.val (O _ _ _ rfl) ?_
 let A : LV := [iv 0, iv 0] ++ ((List.replicate 32 (0 : Int)).map (Value.int .u8) ++ [.slice none 0 0, iv 0, iv 0, iv 0])
 obtain ⟨d, am, Q, V⟩ := sU (P := Tryz.prog) (e := 26) A U Fy rfl
 refine WL.val (Q _ _) <| WL.done <| W.sr rfl ?_
 obtain ⟨af, ag, aj, ak, an, ad, R, m, M⟩ := yC (P := Tryz.prog) 5 KB V tG ti5
 refine WL.val (R _ _) <| WL.run to 1 rfl <| WL.lv m 2 34 rfl rfl tG rfl (tQ 2 32 rfl (tQ 32 0 (rL a) rfl)) ?_
 obtain ⟨N, H⟩ := rV H
 obtain ⟨l, p, u, h, ao, t, S, X, s⟩ := sP (P := Tryz.prog) (cb := r) 5 KB [] [r0 d A, r0 x y] m M ac ab m.fro tG ti5 rfl zo5 (by decide) (by decide) (by simpa using N)
 have Y : Cx [h, r0 d A, r0 x y] := X
 rw [List.nil_append] at t s
 refine WL.val (S _ _ _ _ rfl rfl) <| WL.run to 1 rfl ?_
 let j : LV := rD.q b l u p
 refine WL.st Y 2 34 [.slice l u p] rfl rfl rfl rfl (Put.skip 2 32 rfl (Put.skip 32 0 (rL a) (Put.lit 0 rfl))) (rR rfl) AP fun ae (E : Cx [h, r0 d A, r0 x j]) => ?_
 refine WL.done <| W.sr rfl <| WL.la E 2 rfl rfl Bg rfl (uY BP (tP rfl (tP (rL a) rfl))) <| WL.st E 1 0 j rfl rfl rfl rfl (Put.all 38 (tP rfl (tP (rL (List.length_replicate ..)) rfl)) (tP rfl (tP (rL a) rfl))) (yB (rR rfl) (yB (wN _ _) (rR rfl))) (uY BP (tP rfl (tP (rL a) rfl))) fun ae (G : Cx [h, r0 d j, r0 x j]) => ?_
 refine WL.done <| W.ret ?_
 have Z : Cx [h] := G.pick [0] rfl
 have aa := Option.some.inj H
 subst aa
 exact rH (BU rfl ((.cell rfl (tS (g := d) (off := 0) (o := 0) (cs := j) (us := j) Bg rfl (uY BP (tP rfl (tP (rL a) rfl))) (Ctx.rO 1 G rfl) (xX _)) .nil))) ⟨l, p, u, h, rfl, Z, a, t, s⟩
def tT.l1 : Nat → List rD → Int → Option (Sum Unit Bool)
  | 0, _, _ => none
  | k + 1, b, a => if a < (b.length : Int) then (if 0 ≤ a ∧ a < (b.length : Int) then (if (((b.getD a.toNat rD.z).Data).length : Int) > 200 then (some (Sum.inr true)) else (tT.l1 k b (rB (a + 1)))) else none) else (some (Sum.inl ()))
def tT.f (k : Nat) (a : List rD) : Option Bool := if (a.length : Int) > 80 then (some true) else ((tT.l1 k a 0).bind fun b => vS b (fun _ => some false) (fun d => some d))
theorem tT.calls (k w F y t N) (h : List rD) (hp : Pre w F []) (aj : N = h.length) (ah : h.length ≤ t) (ai : t ≤ maxLen) (T : Sl rD.K F F y h) (x : Bool) (H : tT.f k h = some x) :
    Calls Tryz.prog 13 #[.slice y N t] w fun e w' => e = .returned (.bool x) ∧ (∃ o, w' = w.drewN o) := by
 have C := Ctx.start hp
 generalize sR [] = D at C
 have P : ∃ o, w = w.drewN o := ⟨0, rfl⟩
 unfold tT.f at H
 refine Calls.ofW Tryz.func13 rfl (by simp [Tryz.ntmps13]) <| W.sr rfl <| WL.rd to 1 rfl <| W.seq <| W.sr rfl <| WL.run to 1 rfl <| WL.ln (h.length : Int) rfl Fo (by omega) <| WL.rd to 1 rfl ?_
 rcases rT H with ⟨s, H⟩ | ⟨s, H⟩
 ·refine W.cT s rfl <| W.sr rfl <| WL.rd to 1 rfl <| W.ret <| rS ?_
  have Y := Option.some.inj H
  subst Y
  exact rH (sE rfl rfl) ⟨rfl, P⟩
 refine W.cF s rfl <| W.skip <| W.seq <| W.sr rfl <| WL.rd to 1 rfl ?_
 obtain ⟨u, a, H⟩ := rE H
 refine W.vG (fun b p => Ctx w F D p F [] ∧ (∃ o, p = w.drewN o) ∧ u = Sum.inl ()) ?_ ?_
 ·refine W.block <| W.loop (fun B b p => ∃ (g : Int), Kn b [(0, .slice y N t), (3, iv g)] ∧ Ctx w F D p F [] ∧ (∃ o, p = w.drewN o) ∧ tT.l1 B h g = some u) k ⟨0, rfl, C, P, a⟩ ?_
  clear a
  rintro B b p ⟨g, J, r, j, a⟩
  rcases B with _ | U
  · exact absurd a (by simp [tT.l1])
  rw [tT.l1] at a
  apply ks b J
  refine W.seq <| W.sr rfl <| WL.run to 2 rfl <| WL.ln (h.length : Int) rfl Fo (by omega) <| WL.rd to 1 rfl ?_
  rcases rT a with ⟨l, a⟩ | ⟨l, a⟩
  ·refine W.cT l rfl <| W.skip <| W.seq <| W.block <| W.sr rfl <| WL.run to 2 rfl ?_
   obtain ⟨aa, a⟩ := rV a
   obtain ⟨ag, ae, E, I⟩ := T (by omega)
   refine WL.val (Yl.rW (i := g) rfl rfl E Fo BP (by omega)) <| WL.run to 1 rfl ?_
   obtain ⟨X, L, M⟩ := I g.toNat _ (getD_some (d := rD.z) (by omega))
   obtain ⟨O, Q, V, rfl, G, ad, ab, ac, Z⟩ := rD.open L
   refine WL.val (Yl.load (v := .slice O V Q) rfl tG rfl (((r.fro)).cell (M 34 _ (tQ 2 32 rfl (tQ 32 0 (rL G) rfl))))) <| WL.ln (((h.getD g.toNat rD.z).Data).length : Int) rfl tG (by omega) <| WL.rd to 1 rfl ?_
   rcases rT a with ⟨m, a⟩ | ⟨m, a⟩
   ·refine W.cT m rfl <| W.sr rfl <| WL.rd to 1 rfl <| W.ret ?_
    iterate 6 first | refine uX ?_ | refine rS ?_
    cases a
    replace H := wB H
    have R := Option.some.inj H
    subst R
    exact rH (sE rfl rfl) ⟨rfl, j⟩
   refine W.cF m rfl <| W.skip <| tH <| W.region rfl ?_
   exact WL.rd to 3 rfl <| rF ⟨U, Nat.lt_succ_self _, rB (g + 1), rfl, r, j, a⟩
  refine W.cF l rfl <| W.exit <| rM <| rM <| sL ?_
  cases a
  refine rF ?_
  exact ⟨r, j, rfl⟩
 ·rintro b p ⟨af, A, rfl⟩
  replace H := wI H
  refine W.sr rfl <| WL.rd to 1 rfl <| W.ret ?_
  have S := Option.some.inj H
  subst S
  exact rH (sE rfl rfl) ⟨rfl, A⟩
end Go.Proofs.YtobdpbnadjkhiaaGreat
