/- Functions of the program: each as a plain function of numbers and lists, and the proof that the program's own comes to it. Nothing is assumed but what each theorem says. -/
import Derived.Test.YtobdpbnadjkhiaaTGh
import Derived.Test.YtobdpbnadjkhiaaTGj
namespace Go.Proofs.Ytobdpbnadjkhiaa
open Go.RowKit Go.WG
set_option linter.unusedVariables false
set_option linter.unusedSimpArgs false
set_option maxRecDepth 100000
set_option maxHeartbeats 4000000
def juratlaw21_DocketPlays.l1 : Nat → TConfig → List TRecord → Int → TState → TState → Option (Sum Unit Bool)
  | 0, _, _, _, _, _ => none
  | k + 1, C, s, a, g, t => if a < (s.length : Int) then ((juratref21_Copy.f k g).bind fun B => if 0 ≤ a ∧ a < (s.length : Int) then ((juratlaw21_own.f k (s.getD a.toNat TRecord.z)).bind fun r => (docket_Apply.f k C g r).bind fun ⟨d, e⟩ => (juratref21_Apply.f k C t (s.getD a.toNat TRecord.z)).bind fun ⟨b, j⟩ => (if e = j then ((juratref21_Same.f k d b).bind fun u => if u = true then ((juratref21_Same.f k g B).bind fun v => some (!v)) else (some true)) else (some true)).bind fun y => if y = true then (some (Sum.inr false)) else ((if e = 0 then (some (d, b)) else (some (g, t))).bind fun ⟨h, i⟩ => (docket_Nonce.f k h ((s.getD a.toNat TRecord.z).Epoch)).bind fun ⟨l, m⟩ => (juratref21_Nonce.f k i ((s.getD a.toNat TRecord.z).Epoch)).bind fun ⟨o, p⟩ => (if l = o then (if m = p then ((docket_Epoch.f k h).bind fun w => (juratref21_Epoch.f k i).bind fun x => some (!decide (w = x))) else (some true)) else (some true)).bind fun A => if A = true then (some (Sum.inr false)) else (juratlaw21_DocketPlays.l1 k C s (wi64 (a + 1)) h i))) else none) else (some (Sum.inl ()))
def juratlaw21_DocketPlays.f (k : Nat) (b : TConfig) (l : List TRecord) : Option Bool := (juratlaw21_Great.f k l).bind fun m => if m = true then ((juratlaw21_awake.f k ).bind fun o => some o) else ((docket_New.f k b).bind fun ⟨d, e⟩ => (juratref21_New.f k b).bind fun ⟨g, p⟩ => (if e = p then ((juratref21_Same.f k d g).bind fun h => if h = true then ((docket_Check.f k b).bind fun i => some (!decide (i = e))) else (some true)) else (some true)).bind fun j => if j = true then (some false) else ((juratlaw21_DocketPlays.l1 k b l 0 d g).bind fun r => sumE r (fun _ => (juratlaw21_awake.f k ).bind fun a => some a) (fun s => some s)))
theorem juratlaw21_DocketPlays.calls (k w F) (fj : TConfig) (ea d9 eD) (c6 : List TRecord) (hp : Pre w F []) (qw : eD = c6.length) (qu : c6.length ≤ d9) (qv : d9 ≤ maxLen) (o5 : Sl TRecord.K F F ea c6) (pa : Bool) (H : juratlaw21_DocketPlays.f k fj c6 = some pa) :
    Calls Try.prog 3 #[.agg (List.toArray (TConfig.q fj)), .slice ea eD d9] w fun e w' => e = .returned (.bool pa) ∧ Ctx w F (domL []) w' F [] := by
 have C := Ctx.start hp
 generalize hD : domL [] = D at C ⊢
 unfold juratlaw21_DocketPlays.f at H
 refine Calls.ofW Try.func3 rfl (by simp [Try.ntmps3]) <| W.sr rfl ?_
 let X : List Go.Value := TConfig.q fj
 obtain ⟨V, q2, pm, o4⟩ := ev_box (P := Try.prog) 23 (.agg (List.toArray X)) X C rfl
 refine WL.val (pm _ _ _ rfl) <| WL.rd to 1 rfl <| W.seq <| W.sr rfl <| WL.run to 1 rfl ?_
 obtain ⟨qA, pi, H⟩ := bindE H
 refine WL.cq o4 (juratlaw21_Great.calls k _ F ea d9 eD c6 o4.pre0 qw qu qv o5 qA pi) (ne.fr rfl rfl) fun ar hi => ?_
 refine WL.done ?_
 rcases iteE H with ⟨h7, H⟩ | ⟨h7, H⟩
 ·refine W.condT (congrArg Value.bool h7) <| W.sr rfl ?_
  obtain ⟨qB, pj, H⟩ := bindE H
  refine WL.c0 hi (juratlaw21_awake.calls k _ F  hi.pre0  qB pj) (ne.fr rfl rfl) fun ar qb => ?_
  refine WL.rd to 1 rfl <| W.ret <| thenE_r ?_
  have qc : Cx [] := qb.pick [] rfl
  have qr := Option.some.inj H
  subst qr
  exact post_r (resE1 rfl rfl) ⟨rfl, qc⟩
 refine W.condF (congrArg Value.bool (Bool.eq_false_iff.2 h7)) <| W.skip <| W.sr rfl <| WL.la hi 0 rfl rfl Try.underlying23 rfl sz23 ?_
 obtain ⟨⟨io, qC⟩, pk, H⟩ := bindE H
 refine WL.callH (docket_New.calls k _ F fj hi.pre0  io qC pk) (ne.fr rfl rfl) ?_
 rintro c7 ar ⟨lp, mR, op, fi, lq, mS, oq, eF, lr, mT, os, d7, ls, mU, ot, dh, rfl, qd, nZ, gG, n0, gH, n1, gI, n2, gJ⟩
 refine ⟨_, rfl, ?_⟩
 have qe : Cx [fi, eF, d7, dh, CH.row V 0 X] := Ctx.call0 hi qd
 refine WL.run to 3 rfl ?_
 let c4 : List Go.Value := [.slice none 0 0, .slice none 0 0, .slice none 0 0, .slice none 0 0, iv 0]
 obtain ⟨s, q0, pn, qf⟩ := ev_alloc (P := Try.prog) (e := 32) c4 qe zr32 rfl
 refine WL.val (pn _ _) ?_
 let c8 : List Go.Value := TState.q io lp op mR lq oq mS lr os mT ls ot mU
 refine WL.st qf 0 0 c8 rfl rfl rfl rfl (Put.lit 0 rfl) (ones_of rfl) sz32 fun ar (mE : Cx [CH.row s 0 c8, fi, eF, d7, dh, CH.row V 0 X]) => ?_
 refine WL.rd to 1 rfl <| W.sr rfl <| WL.la mE 5 rfl rfl Try.underlying23 rfl sz23 ?_
 obtain ⟨⟨ip, qD⟩, pl, H⟩ := bindE H
 refine WL.callH (juratref21_New.calls k _ F fj mE.pre0  ip qD pl) (ne.fr rfl rfl) ?_
 rintro c7 ar ⟨lu, mV, ou, d8, lw, mW, ov, di, lx, mX, ow, c5, ly, mY, ox, cU, rfl, qg, n3, gK, n4, gL, n5, gM, n6, gN⟩
 refine ⟨_, rfl, ?_⟩
 have qh : Cx [d8, di, c5, cU, CH.row s 0 c8, fi, eF, d7, dh, CH.row V 0 X] := Ctx.call0 mE qg
 refine WL.run to 3 rfl ?_
 obtain ⟨L, q1, po, qi⟩ := ev_alloc (P := Try.prog) (e := 32) c4 qh zr32 rfl
 refine WL.val (po _ _) ?_
 let d6 : List Go.Value := TState.q ip lu ou mV lw ov mW lx ow mX ly ox mY
 refine WL.st qi 0 0 d6 rfl rfl rfl rfl (Put.lit 0 rfl) (ones_of rfl) sz32 fun ar (hj : Cx [CH.row L 0 d6, d8, di, c5, cU, CH.row s 0 c8, fi, eF, d7, dh, CH.row V 0 X]) => ?_
 refine WL.rd to 1 rfl <| W.seq <| W.seq ?_
 obtain ⟨pr, a5, H⟩ := bindE H
 refine W.cutM (fun M ar => Kn M [(1, .slice ea eD d9), (2, .pointer (some ⟨V, 0, none⟩)), (5, .pointer (some ⟨s, 0, none⟩)), (7, .pointer (some ⟨L, 0, none⟩)), (46, .bool pr)] ∧ Ctx w F D ar F [CH.row L 0 d6, d8, di, c5, cU, CH.row s 0 c8, fi, eF, d7, dh, CH.row V 0 X]) ?_ ?_
 ·refine W.region rfl ?_
  refine WL.run to 4 rfl ?_
  rcases iteE a5 with ⟨gO, a5⟩ | ⟨gO, a5⟩
  ·refine WL.kn 35 (congrArg Value.bool (ndec_t gO)) <| WL.laG hj 5 rfl rfl rfl rfl Try.underlying32 rfl sz32 <| WL.laG hj 0 rfl rfl rfl rfl Try.underlying32 rfl sz32 <| WL.on rfl rfl ?_
   obtain ⟨pf, bX, ⟨oW, oX, oY, oZ, o0, o1, o2, o3, _⟩, pb⟩ := Ctx.lend [fi, eF, d7, dh, d8, di, c5, cU] (ps := [CH.row L 0 d6, CH.row s 0 c8, CH.row V 0 X]) (Ctx.pick [6, 7, 8, 9, 1, 2, 3, 4, 0, 5, 10] hj rfl)
   obtain ⟨pp, oT, a5⟩ := bindE a5
   refine WL.callH (juratref21_Same.calls k _ pf lp mR op lq mS oq lr mT os ls mU ot io lu mV ou lw mW ov lx mX ow ly mY ox ip (Ctx.pre (qs := []) (rest := [CH.row L 0 d6, CH.row s 0 c8, CH.row V 0 X]) pb) nZ (Row.len_le gG).1 (Row.len_le gG).2.1 (Sl.mono (Row.sl gG) bX oW) n0 (Row.len_le gH).1 (Row.len_le gH).2.1 (Sl.mono (Row.sl gH) bX oX) n1 (Row.len_le gI).1 (Row.len_le gI).2.1 (Sl.mono (Row.sl gI) bX oY) n2 (Row.len_le gJ).1 (Row.len_le gJ).2.1 (Sl.mono (Row.sl gJ) bX oZ) n3 (Row.len_le gK).1 (Row.len_le gK).2.1 (Sl.mono (Row.sl gK) bX o0) n4 (Row.len_le gL).1 (Row.len_le gL).2.1 (Sl.mono (Row.sl gL) bX o1) n5 (Row.len_le gM).1 (Row.len_le gM).2.1 (Sl.mono (Row.sl gM) bX o2) n6 (Row.len_le gN).1 (Row.len_le gN).2.1 (Sl.mono (Row.sl gN) bX o3) pp oT) (ne.fr rfl rfl) ?_
   rintro c7 ar ⟨rfl, pc⟩
   refine ⟨_, rfl, ?_⟩
   have gF : Cx [CH.row L 0 d6, d8, di, c5, cU, CH.row s 0 c8, fi, eF, d7, dh, CH.row V 0 X] := Ctx.callL (qs := []) (rest := [CH.row L 0 d6, d8, di, c5, cU, CH.row s 0 c8, fi, eF, d7, dh, CH.row V 0 X]) hj bX pc
   refine WL.run to 3 rfl ?_
   rcases iteE a5 with ⟨gP, a5⟩ | ⟨gP, a5⟩
   ·refine WL.kn 41 (congrArg Value.bool (nb_t gP)) <| WL.laG gF 10 rfl rfl rfl rfl Try.underlying23 rfl sz23 <| WL.on rfl rfl ?_
    obtain ⟨pq, oU, a5⟩ := bindE a5
    refine WL.c0 gF (docket_Check.calls k _ F fj gF.pre0  pq oU) (ne.fr rfl rfl) fun ar pd => ?_
    refine WL.rd to 3 rfl ?_
    cases a5
    refine thenE_n ?_
    exact ⟨rfl, pd⟩
   refine WL.kn 41 (congrArg Value.bool (nb_f gP)) <| WL.offs 4 41 false rfl rfl <| WL.rd to 1 rfl ?_
   cases a5
   refine thenE_n ?_
   exact ⟨rfl, gF⟩
  refine WL.kn 35 (congrArg Value.bool (ndec_f gO)) <| WL.offs 4 35 false rfl rfl <| WL.run to 2 rfl <| WL.offs 4 41 false rfl rfl <| WL.rd to 1 rfl ?_
  cases a5
  refine thenE_n ?_
  exact ⟨rfl, hj⟩
 ·rintro M ar ⟨oV, mD⟩
  apply ks M oV
  rcases iteE H with ⟨gQ, H⟩ | ⟨gQ, H⟩
  ·refine W.condT (congrArg Value.bool gQ) <| W.sr rfl <| WL.rd to 1 rfl <| W.ret <| thenE_r ?_
   have pe : Cx [] := mD.pick [] rfl
   have pg := Option.some.inj H
   subst pg
   exact post_r (resE1 rfl rfl) ⟨rfl, pe⟩
  refine W.condF (congrArg Value.bool (Bool.eq_false_iff.2 gQ)) <| W.skip <| W.seq <| W.sr rfl <| WL.rd to 1 rfl ?_
  obtain ⟨im, T, H⟩ := bindE H
  refine W.cutM (fun M ar => Ctx w F D ar F [CH.row V 0 X] ∧ im = Sum.inl ()) ?_ ?_
  ·refine W.block ?_
   obtain ⟨qR, bp, oe, (oF : Cx [CH.row L 0 d6, d8, di, c5, cU, CH.row s 0 c8, eF, d7, dh, CH.row V 0 X])⟩ := Ctx.fzI 6 mD rfl
   obtain ⟨nI, nQ, nx⟩ := Row.fz gG bp oe
   have m4 := Row.mono gH bp
   have m5 := Row.mono gI bp
   have m6 := Row.mono gJ bp
   have m7 := Row.mono gK bp
   have m8 := Row.mono gL bp
   have m9 := Row.mono gM bp
   have na := Row.mono gN bp
   obtain ⟨qS, ba, og, (oG : Cx [CH.row L 0 d6, d8, di, c5, cU, CH.row s 0 c8, d7, dh, CH.row V 0 X])⟩ := Ctx.fzI 6 oF rfl
   obtain ⟨nJ, nR, ny⟩ := Row.fz m4 ba og
   have nb := Row.mono m5 ba
   have nc := Row.mono m6 ba
   have nd := Row.mono m7 ba
   have nf := Row.mono m8 ba
   have ng := Row.mono m9 ba
   have nh := Row.mono na ba
   obtain ⟨qT, a2, oh, (oH : Cx [CH.row L 0 d6, d8, di, c5, cU, CH.row s 0 c8, dh, CH.row V 0 X])⟩ := Ctx.fzI 6 oG rfl
   obtain ⟨nK, nS, nz⟩ := Row.fz nb a2 oh
   have ni := Row.mono nc a2
   have nj := Row.mono nd a2
   have nk := Row.mono nf a2
   have nl := Row.mono ng a2
   have nm := Row.mono nh a2
   obtain ⟨qU, aZ, oi, (oI : Cx [CH.row L 0 d6, d8, di, c5, cU, CH.row s 0 c8, CH.row V 0 X])⟩ := Ctx.fzI 6 oH rfl
   obtain ⟨nL, nU, nA⟩ := Row.fz ni aZ oi
   have nn := Row.mono nj aZ
   have no := Row.mono nk aZ
   have np := Row.mono nl aZ
   have nq := Row.mono nm aZ
   obtain ⟨qV, aX, oj, (oJ : Cx [CH.row L 0 d6, di, c5, cU, CH.row s 0 c8, CH.row V 0 X])⟩ := Ctx.fzI 1 oI rfl
   obtain ⟨nM, nV, nB⟩ := Row.fz nn aX oj
   have nr := Row.mono no aX
   have ns := Row.mono np aX
   have nt := Row.mono nq aX
   obtain ⟨qW, aV, ok, (oK : Cx [CH.row L 0 d6, c5, cU, CH.row s 0 c8, CH.row V 0 X])⟩ := Ctx.fzI 1 oJ rfl
   obtain ⟨nN, nW, nC⟩ := Row.fz nr aV ok
   have nu := Row.mono ns aV
   have nv := Row.mono nt aV
   obtain ⟨qX, aP, ol, (oL : Cx [CH.row L 0 d6, cU, CH.row s 0 c8, CH.row V 0 X])⟩ := Ctx.fzI 1 oK rfl
   obtain ⟨nO, nX, nD⟩ := Row.fz nu aP ol
   have nw := Row.mono nv aP
   obtain ⟨oS, aG, om, (oM : Cx [CH.row L 0 d6, CH.row s 0 c8, CH.row V 0 X])⟩ := Ctx.fzI 1 oL rfl
   obtain ⟨nP, nY, nE⟩ := Row.fz nw aG om
   have oN : Cx [CH.row s 0 c8, CH.row L 0 d6, CH.row V 0 X] := oM.pick [1, 0, 2] rfl
   refine W.loop (fun ph M ar => ∃ (af : Int) (ay : TState) (aQ : TState), ∃ az bt bl bx bu bm bz bv bn bA bw bo bB cV b8 cZ cW b9 c1 cX ca c2 cY cb c3, Kn M [(1, .slice ea eD d9), (2, .pointer (some ⟨V, 0, none⟩)), (5, .pointer (some ⟨s, 0, none⟩)), (7, .pointer (some ⟨L, 0, none⟩)), (9, iv af)] ∧ Ctx w F D ar az [CH.row s 0 (TState.q ay bt bx bl bu bz bm bv bA bn bw bB bo), CH.row L 0 (TState.q aQ cV cZ b8 cW c1 b9 cX c2 ca cY c3 cb), CH.row V 0 X] ∧ CH.le F az ∧ bx = ay.Eras.length ∧ ay.Eras.length ≤ bl ∧ bl ≤ maxLen ∧ Sl TEra.K az az bt ay.Eras ∧ bz = ay.Jobs.length ∧ ay.Jobs.length ≤ bm ∧ bm ≤ maxLen ∧ Sl TJob.K az az bu ay.Jobs ∧ bA = ay.Used.length ∧ ay.Used.length ≤ bn ∧ bn ≤ maxLen ∧ Sl (Kd.int .i64) az az bv ay.Used ∧ bB = ay.Barred.length ∧ ay.Barred.length ≤ bo ∧ bo ≤ maxLen ∧ Sl Kd.bool az az bw ay.Barred ∧ cZ = aQ.Eras.length ∧ aQ.Eras.length ≤ b8 ∧ b8 ≤ maxLen ∧ Sl TEra.K az az cV aQ.Eras ∧ c1 = aQ.Jobs.length ∧ aQ.Jobs.length ≤ b9 ∧ b9 ≤ maxLen ∧ Sl TJob.K az az cW aQ.Jobs ∧ c2 = aQ.Used.length ∧ aQ.Used.length ≤ ca ∧ ca ≤ maxLen ∧ Sl (Kd.int .i64) az az cX aQ.Used ∧ c3 = aQ.Barred.length ∧ aQ.Barred.length ≤ cb ∧ cb ≤ maxLen ∧ Sl Kd.bool az az cY aQ.Barred ∧ juratlaw21_DocketPlays.l1 ph fj c6 af ay aQ = some im) k ⟨0, io, ip, oS, lp, mR, op, lq, mS, oq, lr, mT, os, ls, mU, ot, lu, mV, ou, lw, mW, ov, lx, mX, ow, ly, mY, ox, rfl, oN, (CH.le_trans bp (CH.le_trans ba (CH.le_trans a2 (CH.le_trans aZ (CH.le_trans aX (CH.le_trans aV (CH.le_trans aP aG))))))), nZ, nI, nQ, (Sl.mono nx (CH.le_trans ba (CH.le_trans a2 (CH.le_trans aZ (CH.le_trans aX (CH.le_trans aV (CH.le_trans aP aG)))))) (CH.le_trans ba (CH.le_trans a2 (CH.le_trans aZ (CH.le_trans aX (CH.le_trans aV (CH.le_trans aP aG))))))), n0, nJ, nR, (Sl.mono ny (CH.le_trans a2 (CH.le_trans aZ (CH.le_trans aX (CH.le_trans aV (CH.le_trans aP aG))))) (CH.le_trans a2 (CH.le_trans aZ (CH.le_trans aX (CH.le_trans aV (CH.le_trans aP aG)))))), n1, nK, nS, (Sl.mono nz (CH.le_trans aZ (CH.le_trans aX (CH.le_trans aV (CH.le_trans aP aG)))) (CH.le_trans aZ (CH.le_trans aX (CH.le_trans aV (CH.le_trans aP aG))))), n2, nL, nU, (Sl.mono nA (CH.le_trans aX (CH.le_trans aV (CH.le_trans aP aG))) (CH.le_trans aX (CH.le_trans aV (CH.le_trans aP aG)))), n3, nM, nV, (Sl.mono nB (CH.le_trans aV (CH.le_trans aP aG)) (CH.le_trans aV (CH.le_trans aP aG))), n4, nN, nW, (Sl.mono nC (CH.le_trans aP aG) (CH.le_trans aP aG)), n5, nO, nX, (Sl.mono nD aG aG), n6, nP, nY, nE, T⟩ ?_
   clear T
   rintro ph M ar ⟨af, ay, aQ, az, bt, bl, bx, bu, bm, bz, bv, bn, bA, bw, bo, bB, cV, b8, cZ, cW, b9, c1, cX, ca, c2, cY, cb, c3, ob, fk, aU, cL, cC, cH, cw, cM, cD, cI, cx, cN, cE, cJ, cy, cO, cG, cK, cz, fY, fQ, fU, fL, fZ, fR, fV, fM, f0, fS, fW, fN, f1, fT, fX, fO, T⟩
   rcases ph with _ | aT
   · exact absurd T (by simp [juratlaw21_DocketPlays.l1])
   rw [juratlaw21_DocketPlays.l1] at T
   apply ks M ob
   refine W.seq <| W.sr rfl <| WL.run to 2 rfl <| WL.ln (c6.length : Int) rfl Try.underlying24 (by omega) <| WL.rd to 1 rfl ?_
   rcases iteE T with ⟨fP, T⟩ | ⟨fP, T⟩
   ·refine W.cT fP rfl <| W.skip <| W.seq <| W.block <| W.sr rfl <| WL.la fk 0 rfl rfl Try.underlying32 rfl sz32 ?_
    obtain ⟨gR, nH, T⟩ := bindE T
    refine WL.callH (juratref21_Copy.calls aT _ az bt bl bx bu bm bz bv bn bA bw bo bB ay fk.pre0 cL cC cH cw cM cD cI cx cN cE cJ cy cO cG cK cz gR nH) (ne.fr rfl rfl) ?_
    rintro c7 ar ⟨eh, h8, id, ii, x, h9, ie, ij, y, ia, ig, ik, A, ib, ih, il, B, rfl, a, oO, n7, el, n8, em, n9, en, oa, eo⟩
    refine ⟨_, rfl, ?_⟩
    let aY : List Go.Value := TState.q ay bt bx bl bu bz bm bv bA bn bw bB bo
    let a0 : List Go.Value := TState.q aQ cV cZ b8 cW c1 b9 cX c2 ca cY c3 cb
    have oP : Cx [x, y, A, B, CH.row s 0 aY, CH.row L 0 a0, CH.row V 0 X] := Ctx.call0 fk oO
    obtain ⟨r, qZ, od, oQ⟩ := ev_alloc (P := Try.prog) (e := 32) c4 oP zr32 rfl
    refine WL.val (od _ _) ?_
    let ao : List Go.Value := TState.q gR h8 ii id h9 ij ie ia ik ig ib il ih
    refine WL.st oQ 0 0 ao rfl rfl rfl rfl (Put.lit 0 rfl) (ones_of rfl) sz32 fun ar (oR : Cx [CH.row r 0 ao, x, y, A, B, CH.row s 0 aY, CH.row L 0 a0, CH.row V 0 X]) => ?_
    refine WL.done <| W.seq <| W.regionA [([7, 12], CH.row V 0 X), ([7, 12], CH.row s 0 aY), ([6, 7, 12], eh)] (by kernel_rfl) ?_
    have dj := Ctx.drewN oR 1
    refine WA.takes [(0, some 0), (1, some 1), (2, none), (3, none), (4, none), (5, some 2)] ⟨(Ctx.subI 7 dj rfl), (Ctx.subI 5 dj rfl), (dj.fro), trivial⟩ (by kernel_rfl) <| WT.val rfl (fun _ hC_ => Yl.loadVA (g := V) (off := 0) (o := 0) (cs := X) (us := X) rfl Try.underlying23 rfl sz23 (show Sub (CH.row V 0 X) _ from hC_) rfl) ?_
    refine WT.val rfl (fun _ hC_ => Yl.loadVA (g := s) (off := 0) (o := 0) (cs := aY) (us := aY) rfl Try.underlying32 rfl sz32 (show Sub (CH.row s 0 aY) _ from hC_) rfl) ?_
    refine WT.run to 2 rfl ?_
    obtain ⟨qt, T⟩ := guardE T
    obtain ⟨qY, qx, ek, nG⟩ := o5 (by omega)
    refine WT.val rfl (fun _ hC_ => Yl.elemAddr (i := af) rfl rfl ek Try.underlying24 sz46 (by omega)) ?_
    obtain ⟨qq, oc, et⟩ := nG af.toNat _ (getD_some (d := TRecord.z) (by omega))
    obtain ⟨eb, ei, eE, rfl, cB, es, eq, er, ep⟩ := TRecord.open oc
    let qy : List Go.Value := (TRecord.q (c6.getD af.toNat TRecord.z) eb eE ei)
    refine WT.val rfl (fun _ hC_ => Yl.loadAgg (cs := qy) rfl Try.underlying46 rfl (sz_of sz46 (len_app rfl (len_app (len_map cB) rfl))) (fun j u hu => by rw [add_of]; exact ((Sub.mono (show Sub eh _ from hC_) (CH.le_trans aU a))).cell (et _ _ hu))) ?_
    refine WT.done ?_
    obtain ⟨br, rs9697_6h, T⟩ := bindE T
    obtain ⟨⟨Y, ae⟩, rs9697_7h, T⟩ := bindE T
    refine WA.joinAt (fun M ar => ∃ aE bM bW fl fC eu E fm fD ew G fo fE ex I fp fF ey J cc cm bZ aj cd cn b0 ag ce co b1 ad cf cp b2 ac, M 1 = .slice ea eD d9 ∧ M 2 = .pointer (some ⟨V, 0, none⟩) ∧ M 5 = .pointer (some ⟨s, 0, none⟩) ∧ M 7 = .pointer (some ⟨L, 0, none⟩) ∧ M 9 = iv af ∧ M 10 = .pointer (some ⟨r, 0, none⟩) ∧ M 11 = .pointer (some ⟨bM, bW, none⟩) ∧ M 64 = .agg (List.toArray (TState.q Y cc bZ cm cd b0 cn ce b1 co cf b2 cp)) ∧ M 65 = iv ae ∧ Ctx w F D ar aE [CH.row bM bW (TState.q (⟨([] : List TEra), ([] : List TJob), ([] : List Int), ([] : List Bool), 0⟩ : TState) fl eu fC fm ew fD fo ex fE fp ey fF), E, G, I, J, aj, ag, ad, ac, CH.row r 0 ao, x, y, A, B, CH.row s 0 aY, CH.row L 0 a0, CH.row V 0 X] ∧ CH.le eh aE ∧ eu = ((⟨([] : List TEra), ([] : List TJob), ([] : List Int), ([] : List Bool), 0⟩ : TState).Eras).length ∧ Row TEra.K aE E (.slice fl eu fC) ((⟨([] : List TEra), ([] : List TJob), ([] : List Int), ([] : List Bool), 0⟩ : TState).Eras) ∧ ew = ((⟨([] : List TEra), ([] : List TJob), ([] : List Int), ([] : List Bool), 0⟩ : TState).Jobs).length ∧ Row TJob.K aE G (.slice fm ew fD) ((⟨([] : List TEra), ([] : List TJob), ([] : List Int), ([] : List Bool), 0⟩ : TState).Jobs) ∧ ex = ((⟨([] : List TEra), ([] : List TJob), ([] : List Int), ([] : List Bool), 0⟩ : TState).Used).length ∧ Row (Kd.int .i64) aE I (.slice fo ex fE) ((⟨([] : List TEra), ([] : List TJob), ([] : List Int), ([] : List Bool), 0⟩ : TState).Used) ∧ ey = ((⟨([] : List TEra), ([] : List TJob), ([] : List Int), ([] : List Bool), 0⟩ : TState).Barred).length ∧ Row Kd.bool aE J (.slice fp ey fF) ((⟨([] : List TEra), ([] : List TJob), ([] : List Int), ([] : List Bool), 0⟩ : TState).Barred) ∧ bZ = Y.Eras.length ∧ Row TEra.K aE aj (.slice cc bZ cm) Y.Eras ∧ b0 = Y.Jobs.length ∧ Row TJob.K aE ag (.slice cd b0 cn) Y.Jobs ∧ b1 = Y.Used.length ∧ Row (Kd.int .i64) aE ad (.slice ce b1 co) Y.Used ∧ b2 = Y.Barred.length ∧ Row Kd.bool aE ac (.slice cf b2 cp) Y.Barred) #[true, true, true, true, true, true, true, true, true, true, true, true, false, false] 2 ?_ ?_
    ·intro fg
     refine WA.up2 6 11 (by kernel_rfl) ?_ ?_
     ·refine Up.callH rfl (by kernel_rfl) rfl (juratlaw21_own.calls aT _ eh eb ei eE (c6.getD af.toNat TRecord.z) dj.pre0 cB es eq er (Sl.mono ep (CH.le_trans aU a) (CH.le_trans aU a)) br rs9697_6h) (ne.fr rfl rfl) ?_
      rintro c7 ar ⟨gS, hk, hM, oy, rfl, lA, gn, gs, gm⟩
      have ec : Cx [oy, CH.row r 0 ao, x, y, A, B, CH.row s 0 aY, CH.row L 0 a0, CH.row V 0 X] := Ctx.call0 dj lA
      refine ⟨_, rfl, ⟨(Ctx.subI 8 ec rfl), (Ctx.subI 6 ec rfl), trivial, trivial⟩, ?_⟩
      refine WA.up2 7 11 (by kernel_rfl) ?_ ?_
      ·obtain ⟨mF, aA, kY, (hd : Cx [CH.row r 0 ao, x, y, A, B, CH.row s 0 aY, CH.row L 0 a0, CH.row V 0 X])⟩ := Ctx.fzI 0 ec rfl
       obtain ⟨jQ, j1, jt⟩ := Row.fz gm aA kY
       have iq := Row.mono el aA
       have ir := Row.mono em aA
       have it := Row.mono en aA
       have iu := Row.mono eo aA
       refine Up.callH rfl (by kernel_rfl) rfl (docket_Apply.calls aT _ mF fj bt bl bx bu bm bz bv bn bA bw bo bB ay gS hk hM br hd.pre0 cL cC cH (Sl.mono cw (CH.le_trans a aA) (CH.le_trans a aA)) cM cD cI (Sl.mono cx (CH.le_trans a aA) (CH.le_trans a aA)) cN cE cJ (Sl.mono cy (CH.le_trans a aA) (CH.le_trans a aA)) cO cG cK (Sl.mono cz (CH.le_trans a aA) (CH.le_trans a aA)) gn gs jQ j1 jt Y ae rs9697_7h) (ne.fr rfl rfl) ?_
       rintro c7 ar ⟨mG, gT, hl, hN, f2, gU, hm, hO, f3, gV, hn, hP, f4, gW, ho, hQ, f5, rfl, cQ, lB, kc, iw, kd, ix, ke, iy, kf, iz⟩
       have lC : Cx [f2, f3, f4, f5, CH.row r 0 ao, x, y, A, B, CH.row s 0 aY, CH.row L 0 a0, CH.row V 0 X] := Ctx.call0 hd lB
       have px := Row.mono iq cQ
       have py := Row.mono ir cQ
       have pz := Row.mono it cQ
       have pA := Row.mono iu cQ
       refine ⟨_, rfl, ⟨trivial, trivial, trivial, trivial⟩, ?_⟩
       let qz : List Go.Value := TState.q Y gT hN hl gU hO hm gV hP hn gW hQ ho
       refine WA.take none [] 8 rfl (by kernel_rfl) (by kernel_rfl) rfl trivial ⟨trivial, trivial, trivial, trivial⟩ (fun _ hC_ => Yl.move (v := .tuple #[(.agg (List.toArray qz)), (iv ae)]) rfl) ?_
       refine WA.take none [] 9 rfl (by kernel_rfl) (by kernel_rfl) rfl trivial ⟨trivial, trivial, trivial, trivial⟩ (fun _ hC_ => Yl.extract (v := .agg (List.toArray qz)) rfl rfl) ?_
       refine WA.take none [] 10 rfl (by kernel_rfl) (by kernel_rfl) rfl trivial ⟨trivial, trivial, trivial, trivial⟩ (fun _ hC_ => Yl.extract (v := iv ae) rfl rfl) ?_
       obtain ⟨hI, qE, kL, lD⟩ := ev_alloc (P := Try.prog) (e := 32) c4 lC zr32 rfl
       refine WA.up1 11 (by kernel_rfl) (Up.val rfl rfl rfl (kL _ _) ⟨trivial, trivial, trivial, trivial⟩ ?_)
       have lE : Cx [CH.row hI 0 c4, CH.emp, CH.emp, CH.emp, CH.emp, f2, f3, f4, f5, CH.row r 0 ao, x, y, A, B, CH.row s 0 aY, CH.row L 0 a0, CH.row V 0 X] := lD.pick [0, 13, 13, 13, 13, 1, 2, 3, 4, 5, 6, 7, 8, 9, 10, 11, 12] rfl
       exact fg _ _ ⟨mG, hI, 0, none, 0, 0, CH.emp, none, 0, 0, CH.emp, none, 0, 0, CH.emp, none, 0, 0, CH.emp, gT, hl, hN, f2, gU, hm, hO, f3, gV, hn, hP, f4, gW, ho, hQ, f5, rfl, rfl, rfl, rfl, rfl, rfl, rfl, rfl, rfl, lE, (CH.le_trans aA cQ), rfl, (Row.nil _ _), rfl, (Row.nil _ _), rfl, (Row.nil _ _), rfl, (Row.nil _ _), kc, iw, kd, ix, ke, iy, kf, iz⟩
      ·obtain ⟨ej, qF, kM, fv⟩ := ev_alloc (P := Try.prog) (e := 32) c4 ec zr32 rfl
       refine Up.val rfl rfl rfl (kM _ _) ⟨(Ctx.subI 9 fv rfl), (Ctx.subI 7 fv rfl), trivial, trivial⟩ ?_
       obtain ⟨mH, aB, kZ, (he : Cx [CH.row ej 0 c4, CH.row r 0 ao, x, y, A, B, CH.row s 0 aY, CH.row L 0 a0, CH.row V 0 X])⟩ := Ctx.fzI 1 fv rfl
       obtain ⟨jR, j2, ju⟩ := Row.fz gm aB kZ
       have iA := Row.mono el aB
       have iB := Row.mono em aB
       have iC := Row.mono en aB
       have iD := Row.mono eo aB
       refine WA.up1 7 (by kernel_rfl) (Up.callH rfl (by kernel_rfl) rfl (docket_Apply.calls aT _ mH fj bt bl bx bu bm bz bv bn bA bw bo bB ay gS hk hM br he.pre0 cL cC cH (Sl.mono cw (CH.le_trans a aB) (CH.le_trans a aB)) cM cD cI (Sl.mono cx (CH.le_trans a aB) (CH.le_trans a aB)) cN cE cJ (Sl.mono cy (CH.le_trans a aB) (CH.le_trans a aB)) cO cG cK (Sl.mono cz (CH.le_trans a aB) (CH.le_trans a aB)) gn gs jR j2 ju Y ae rs9697_7h) (ne.fr rfl rfl) ?_)
       rintro c7 ar ⟨mI, gX, hq, hR, f6, gY, hr, hS, f7, gZ, hs, hT, f8, g0, ht, hU, f9, rfl, cR, lF, kg, iE, kh, iG, ki, iH, kj, iI⟩
       have lG : Cx [f6, f7, f8, f9, CH.row ej 0 c4, CH.row r 0 ao, x, y, A, B, CH.row s 0 aY, CH.row L 0 a0, CH.row V 0 X] := Ctx.call0 he lF
       have pB := Row.mono iA cR
       have pC := Row.mono iB cR
       have pD := Row.mono iC cR
       have pE := Row.mono iD cR
       refine ⟨_, rfl, ⟨trivial, trivial, trivial, trivial⟩, ?_⟩
       let o6 : List Go.Value := TState.q Y gX hR hq gY hS hr gZ hT hs g0 hU ht
       refine WA.take none [] 8 rfl (by kernel_rfl) (by kernel_rfl) rfl trivial ⟨trivial, trivial, trivial, trivial⟩ (fun _ hC_ => Yl.move (v := .tuple #[(.agg (List.toArray o6)), (iv ae)]) rfl) ?_
       refine WA.take none [] 9 rfl (by kernel_rfl) (by kernel_rfl) rfl trivial ⟨trivial, trivial, trivial, trivial⟩ (fun _ hC_ => Yl.extract (v := .agg (List.toArray o6)) rfl rfl) ?_
       refine WA.take none [] 10 rfl (by kernel_rfl) (by kernel_rfl) rfl trivial ⟨trivial, trivial, trivial, trivial⟩ (fun _ hC_ => Yl.extract (v := iv ae) rfl rfl) ?_
       have lH : Cx [CH.row ej 0 c4, CH.emp, CH.emp, CH.emp, CH.emp, f6, f7, f8, f9, CH.row r 0 ao, x, y, A, B, CH.row s 0 aY, CH.row L 0 a0, CH.row V 0 X] := lG.pick [4, 13, 13, 13, 13, 0, 1, 2, 3, 5, 6, 7, 8, 9, 10, 11, 12] rfl
       exact fg _ _ ⟨mI, ej, 0, none, 0, 0, CH.emp, none, 0, 0, CH.emp, none, 0, 0, CH.emp, none, 0, 0, CH.emp, gX, hq, hR, f6, gY, hr, hS, f7, gZ, hs, hT, f8, g0, ht, hU, f9, rfl, rfl, rfl, rfl, rfl, rfl, rfl, rfl, rfl, lH, (CH.le_trans aB cR), rfl, (Row.nil _ _), rfl, (Row.nil _ _), rfl, (Row.nil _ _), rfl, (Row.nil _ _), kg, iE, kh, iG, ki, iH, kj, iI⟩
     ·obtain ⟨dg, qG, kN, c9⟩ := ev_alloc (P := Try.prog) (e := 32) c4 dj zr32 rfl
      refine Up.val rfl rfl rfl (kN _ _) ⟨(Ctx.subI 8 c9 rfl), (Ctx.subI 6 c9 rfl), (c9.fro), trivial⟩ <| WA.up1 6 (by kernel_rfl) (Up.callH rfl (by kernel_rfl) rfl (juratlaw21_own.calls aT _ eh eb ei eE (c6.getD af.toNat TRecord.z) c9.pre0 cB es eq er (Sl.mono ep (CH.le_trans aU a) (CH.le_trans aU a)) br rs9697_6h) (ne.fr rfl rfl) ?_)
      rintro c7 ar ⟨lo, mQ, oo, oz, rfl, lI, jE, kk, iJ⟩
      have fw : Cx [oz, CH.row dg 0 c4, CH.row r 0 ao, x, y, A, B, CH.row s 0 aY, CH.row L 0 a0, CH.row V 0 X] := Ctx.call0 c9 lI
      refine ⟨_, rfl, ⟨(Ctx.subI 9 fw rfl), (Ctx.subI 7 fw rfl), trivial, trivial⟩, ?_⟩
      obtain ⟨mJ, aC, k0, (hf : Cx [CH.row dg 0 c4, CH.row r 0 ao, x, y, A, B, CH.row s 0 aY, CH.row L 0 a0, CH.row V 0 X])⟩ := Ctx.fzI 0 fw rfl
      obtain ⟨jS, j3, jv⟩ := Row.fz iJ aC k0
      have iK := Row.mono el aC
      have iL := Row.mono em aC
      have iM := Row.mono en aC
      have iN := Row.mono eo aC
      refine WA.up1 7 (by kernel_rfl) (Up.callH rfl (by kernel_rfl) rfl (docket_Apply.calls aT _ mJ fj bt bl bx bu bm bz bv bn bA bw bo bB ay lo mQ oo br hf.pre0 cL cC cH (Sl.mono cw (CH.le_trans a aC) (CH.le_trans a aC)) cM cD cI (Sl.mono cx (CH.le_trans a aC) (CH.le_trans a aC)) cN cE cJ (Sl.mono cy (CH.le_trans a aC) (CH.le_trans a aC)) cO cG cK (Sl.mono cz (CH.le_trans a aC) (CH.le_trans a aC)) jE kk jS j3 jv Y ae rs9697_7h) (ne.fr rfl rfl) ?_)
      rintro c7 ar ⟨mK, g1, hv, hV, ga, g2, hw, hW, gb, g3, hx, hX, gc, g4, hy, hY, gd, rfl, cS, lJ, kl, iO, km, iP, ko, iQ, kp, iR⟩
      have lK : Cx [ga, gb, gc, gd, CH.row dg 0 c4, CH.row r 0 ao, x, y, A, B, CH.row s 0 aY, CH.row L 0 a0, CH.row V 0 X] := Ctx.call0 hf lJ
      have pF := Row.mono iK cS
      have pG := Row.mono iL cS
      have pH := Row.mono iM cS
      have pI := Row.mono iN cS
      refine ⟨_, rfl, ⟨trivial, trivial, trivial, trivial⟩, ?_⟩
      let o7 : List Go.Value := TState.q Y g1 hV hv g2 hW hw g3 hX hx g4 hY hy
      refine WA.take none [] 8 rfl (by kernel_rfl) (by kernel_rfl) rfl trivial ⟨trivial, trivial, trivial, trivial⟩ (fun _ hC_ => Yl.move (v := .tuple #[(.agg (List.toArray o7)), (iv ae)]) rfl) ?_
      refine WA.take none [] 9 rfl (by kernel_rfl) (by kernel_rfl) rfl trivial ⟨trivial, trivial, trivial, trivial⟩ (fun _ hC_ => Yl.extract (v := .agg (List.toArray o7)) rfl rfl) ?_
      refine WA.take none [] 10 rfl (by kernel_rfl) (by kernel_rfl) rfl trivial ⟨trivial, trivial, trivial, trivial⟩ (fun _ hC_ => Yl.extract (v := iv ae) rfl rfl) ?_
      have lL : Cx [CH.row dg 0 c4, CH.emp, CH.emp, CH.emp, CH.emp, ga, gb, gc, gd, CH.row r 0 ao, x, y, A, B, CH.row s 0 aY, CH.row L 0 a0, CH.row V 0 X] := lK.pick [4, 13, 13, 13, 13, 0, 1, 2, 3, 5, 6, 7, 8, 9, 10, 11, 12] rfl
      exact fg _ _ ⟨mK, dg, 0, none, 0, 0, CH.emp, none, 0, 0, CH.emp, none, 0, 0, CH.emp, none, 0, 0, CH.emp, g1, hv, hV, ga, g2, hw, hW, gb, g3, hx, hX, gc, g4, hy, hY, gd, rfl, rfl, rfl, rfl, rfl, rfl, rfl, rfl, rfl, lL, (CH.le_trans aC cS), rfl, (Row.nil _ _), rfl, (Row.nil _ _), rfl, (Row.nil _ _), rfl, (Row.nil _ _), kl, iO, km, iP, ko, iQ, kp, iR⟩
    ·rintro M ar ⟨aE, bM, bW, fl, fC, eu, E, fm, fD, ew, G, fo, fE, ex, I, fp, fF, ey, J, cc, cm, bZ, aj, cd, cn, b0, ag, ce, co, b1, ad, cf, cp, b2, ac, eZ, e0, gx, e1, e2, gy, e3, kz, kA, lz, h, p3, pt, p4, pu, p5, pv, p6, pw, go, eI, gp, eJ, gq, eK, gr, eL⟩
     have eM := Row.mono el h
     have eN := Row.mono em h
     have eO := Row.mono en h
     have eP := Row.mono eo h
     let bq : List Go.Value := TState.q Y cc bZ cm cd b0 cn ce b1 co cf b2 cp
     obtain ⟨qH, kO, lM⟩ := ev_setI (P := Try.prog) (ps1 := []) (ps2 := [E, G, I, J, aj, ag, ad, ac, CH.row r 0 ao, x, y, A, B, CH.row s 0 aY, CH.row L 0 a0, CH.row V 0 X]) (t := 32) 0 bq (.agg (List.toArray bq)) lz rfl rfl (ones_of rfl) sz32
     let am : CH := CH.row bM bW bq
     have ed : Cx [am, E, G, I, J, aj, ag, ad, ac, CH.row r 0 ao, x, y, A, B, CH.row s 0 aY, CH.row L 0 a0, CH.row V 0 X] := lM
     refine WA.up1 12 (by kernel_rfl) (Up.skip rfl rfl (kO _ _ _ _ e3 kz) ⟨trivial, trivial, trivial, trivial⟩ ?_)
     refine WA.takes [(13, none)] ⟨(Ctx.subI 16 ed rfl), (Ctx.subI 14 ed rfl), (ed.fro.mono h), trivial⟩ (by kernel_rfl) <| WT.val rfl (fun _ hC_ => Yl.assign (v := iv ae) (by exact kA)) ?_
     refine WT.done <| WA.done (by kernel_rfl) <| W.seq <| W.regionA [([6, 11], CH.row V 0 X), ([6, 11], CH.row L 0 a0), ([6, 11], aE)] (by kernel_rfl) ?_
     have ck := Ctx.drewN ed 1
     refine WA.takes [(0, some 0), (1, some 1), (2, none), (3, none), (4, none), (5, some 2)] ⟨(Ctx.subI 16 ck rfl), (Ctx.subI 15 ck rfl), (ck.fro), trivial⟩ (by kernel_rfl) <| WT.val rfl (fun _ hC_ => Yl.loadVA (g := V) (off := 0) (o := 0) (cs := X) (us := X) (by exact e0) Try.underlying23 rfl sz23 (show Sub (CH.row V 0 X) _ from hC_) rfl) ?_
     refine WT.val rfl (fun _ hC_ => Yl.loadVA (g := L) (off := 0) (o := 0) (cs := a0) (us := a0) (by exact e1) Try.underlying32 rfl sz32 (show Sub (CH.row L 0 a0) _ from hC_) rfl) ?_
     refine WT.val rfl (fun _ hC_ => Yl.move (v := .slice ea eD d9) (by exact eZ)) ?_
     refine WT.val rfl (fun _ hC_ => Yl.move (v := iv af) (by exact e2)) ?_
     refine WT.val rfl (fun _ hC_ => Yl.elemAddr (i := af) rfl rfl ek Try.underlying24 sz46 (by omega)) ?_
     refine WT.val rfl (fun _ hC_ => Yl.loadAgg (cs := qy) rfl Try.underlying46 rfl (sz_of sz46 (len_app rfl (len_app (len_map cB) rfl))) (fun j u hu => by rw [add_of]; exact ((Sub.mono (show Sub aE _ from hC_) (CH.le_trans aU (CH.le_trans a h)))).cell (et _ _ hu))) ?_
     refine WT.done ?_
     obtain ⟨⟨Z, aI⟩, rs10341_6h, T⟩ := bindE T
     refine WA.joinAt (fun M ar => ∃ aS bY b7 fq fG ez O fs fH eA Q ft fI eB R fu fJ eC S cg cr b3 ap ch ct b4 an ci cu b5 al cj cv b6 ak, M 1 = .slice ea eD d9 ∧ M 2 = .pointer (some ⟨V, 0, none⟩) ∧ M 5 = .pointer (some ⟨s, 0, none⟩) ∧ M 7 = .pointer (some ⟨L, 0, none⟩) ∧ M 9 = iv af ∧ M 10 = .pointer (some ⟨r, 0, none⟩) ∧ M 11 = .pointer (some ⟨bM, bW, none⟩) ∧ M 12 = iv ae ∧ M 13 = .pointer (some ⟨bY, b7, none⟩) ∧ M 74 = .agg (List.toArray (TState.q Z cg b3 cr ch b4 ct ci b5 cu cj b6 cv)) ∧ M 75 = iv aI ∧ Ctx w F D ar aS [CH.row bY b7 (TState.q (⟨([] : List TEra), ([] : List TJob), ([] : List Int), ([] : List Bool), 0⟩ : TState) fq ez fG fs eA fH ft eB fI fu eC fJ), O, Q, R, S, ap, an, al, ak, am, E, G, I, J, aj, ag, ad, ac, CH.row r 0 ao, x, y, A, B, CH.row s 0 aY, CH.row L 0 a0, CH.row V 0 X] ∧ CH.le aE aS ∧ ez = ((⟨([] : List TEra), ([] : List TJob), ([] : List Int), ([] : List Bool), 0⟩ : TState).Eras).length ∧ Row TEra.K aS O (.slice fq ez fG) ((⟨([] : List TEra), ([] : List TJob), ([] : List Int), ([] : List Bool), 0⟩ : TState).Eras) ∧ eA = ((⟨([] : List TEra), ([] : List TJob), ([] : List Int), ([] : List Bool), 0⟩ : TState).Jobs).length ∧ Row TJob.K aS Q (.slice fs eA fH) ((⟨([] : List TEra), ([] : List TJob), ([] : List Int), ([] : List Bool), 0⟩ : TState).Jobs) ∧ eB = ((⟨([] : List TEra), ([] : List TJob), ([] : List Int), ([] : List Bool), 0⟩ : TState).Used).length ∧ Row (Kd.int .i64) aS R (.slice ft eB fI) ((⟨([] : List TEra), ([] : List TJob), ([] : List Int), ([] : List Bool), 0⟩ : TState).Used) ∧ eC = ((⟨([] : List TEra), ([] : List TJob), ([] : List Int), ([] : List Bool), 0⟩ : TState).Barred).length ∧ Row Kd.bool aS S (.slice fu eC fJ) ((⟨([] : List TEra), ([] : List TJob), ([] : List Int), ([] : List Bool), 0⟩ : TState).Barred) ∧ b3 = Z.Eras.length ∧ Row TEra.K aS ap (.slice cg b3 cr) Z.Eras ∧ b4 = Z.Jobs.length ∧ Row TJob.K aS an (.slice ch b4 ct) Z.Jobs ∧ b5 = Z.Used.length ∧ Row (Kd.int .i64) aS al (.slice ci b5 cu) Z.Used ∧ b6 = Z.Barred.length ∧ Row Kd.bool aS ak (.slice cj b6 cv) Z.Barred) #[true, true, true, true, true, true, true, true, true, true, true, false, false] 2 ?_ ?_
     ·intro gC
      refine WA.up2 6 10 (by kernel_rfl) ?_ ?_
      ·refine Up.callH rfl (by kernel_rfl) rfl (juratref21_Apply.calls aT _ aE fj cV b8 cZ cW b9 c1 cX ca c2 cY cb c3 aQ eb ei eE (c6.getD af.toNat TRecord.z) ck.pre0 fY fQ fU (Sl.mono fL (CH.le_trans a h) (CH.le_trans a h)) fZ fR fV (Sl.mono fM (CH.le_trans a h) (CH.le_trans a h)) f0 fS fW (Sl.mono fN (CH.le_trans a h) (CH.le_trans a h)) f1 fT fX (Sl.mono fO (CH.le_trans a h) (CH.le_trans a h)) cB es eq er (Sl.mono ep (CH.le_trans aU (CH.le_trans a h)) (CH.le_trans aU (CH.le_trans a h))) Z aI rs10341_6h) (ne.fr rfl rfl) ?_
       rintro c7 ar ⟨mL, g5, hz, hZ, ge, g6, hA, h0, gf, g7, hB, h1, gg, g8, hC, h2, gh, rfl, a6, lO, kq, iS, kr, iU, kt, iV, ku, iW⟩
       have lP : Cx [ge, gf, gg, gh, am, E, G, I, J, aj, ag, ad, ac, CH.row r 0 ao, x, y, A, B, CH.row s 0 aY, CH.row L 0 a0, CH.row V 0 X] := Ctx.call0 ck lO
       have pN := Row.mono eI a6
       have pO := Row.mono eJ a6
       have pP := Row.mono eK a6
       have pQ := Row.mono eL a6
       have pR := Row.mono eM a6
       have pS := Row.mono eN a6
       have pT := Row.mono eO a6
       have pU := Row.mono eP a6
       refine ⟨_, rfl, ⟨trivial, trivial, trivial, trivial⟩, ?_⟩
       let o8 : List Go.Value := TState.q Z g5 hZ hz g6 h0 hA g7 h1 hB g8 h2 hC
       refine WA.take none [] 7 rfl (by kernel_rfl) (by kernel_rfl) rfl trivial ⟨trivial, trivial, trivial, trivial⟩ (fun _ hC_ => Yl.move (v := .tuple #[(.agg (List.toArray o8)), (iv aI)]) rfl) ?_
       refine WA.take none [] 8 rfl (by kernel_rfl) (by kernel_rfl) rfl trivial ⟨trivial, trivial, trivial, trivial⟩ (fun _ hC_ => Yl.extract (v := .agg (List.toArray o8)) rfl rfl) ?_
       refine WA.take none [] 9 rfl (by kernel_rfl) (by kernel_rfl) rfl trivial ⟨trivial, trivial, trivial, trivial⟩ (fun _ hC_ => Yl.extract (v := iv aI) rfl rfl) ?_
       obtain ⟨hJ, qI, kP, lQ⟩ := ev_alloc (P := Try.prog) (e := 32) c4 lP zr32 rfl
       refine WA.up1 10 (by kernel_rfl) (Up.val rfl rfl rfl (kP _ _) ⟨trivial, trivial, trivial, trivial⟩ ?_)
       have lR : Cx [CH.row hJ 0 c4, CH.emp, CH.emp, CH.emp, CH.emp, ge, gf, gg, gh, am, E, G, I, J, aj, ag, ad, ac, CH.row r 0 ao, x, y, A, B, CH.row s 0 aY, CH.row L 0 a0, CH.row V 0 X] := lQ.pick [0, 22, 22, 22, 22, 1, 2, 3, 4, 5, 6, 7, 8, 9, 10, 11, 12, 13, 14, 15, 16, 17, 18, 19, 20, 21] rfl
       exact gC _ _ ⟨mL, hJ, 0, none, 0, 0, CH.emp, none, 0, 0, CH.emp, none, 0, 0, CH.emp, none, 0, 0, CH.emp, g5, hz, hZ, ge, g6, hA, h0, gf, g7, hB, h1, gg, g8, hC, h2, gh, eZ, e0, gx, e1, e2, gy, e3, rfl, rfl, rfl, rfl, lR, a6, rfl, (Row.nil _ _), rfl, (Row.nil _ _), rfl, (Row.nil _ _), rfl, (Row.nil _ _), kq, iS, kr, iU, kt, iV, ku, iW⟩
      ·obtain ⟨fK, qJ, kQ, da⟩ := ev_alloc (P := Try.prog) (e := 32) c4 ck zr32 rfl
       refine Up.val rfl rfl rfl (kQ _ _) ⟨(Ctx.subI 17 da rfl), (Ctx.subI 16 da rfl), (da.fro), trivial⟩ <| WA.up1 6 (by kernel_rfl) (Up.callH rfl (by kernel_rfl) rfl (juratref21_Apply.calls aT _ aE fj cV b8 cZ cW b9 c1 cX ca c2 cY cb c3 aQ eb ei eE (c6.getD af.toNat TRecord.z) da.pre0 fY fQ fU (Sl.mono fL (CH.le_trans a h) (CH.le_trans a h)) fZ fR fV (Sl.mono fM (CH.le_trans a h) (CH.le_trans a h)) f0 fS fW (Sl.mono fN (CH.le_trans a h) (CH.le_trans a h)) f1 fT fX (Sl.mono fO (CH.le_trans a h) (CH.le_trans a h)) cB es eq er (Sl.mono ep (CH.le_trans aU (CH.le_trans a h)) (CH.le_trans aU (CH.le_trans a h))) Z aI rs10341_6h) (ne.fr rfl rfl) ?_)
       rintro c7 ar ⟨mM, g9, hE, h3, gi, ha, hF, h4, gj, hb, hG, h5, gk, hc, hH, h6, gl, rfl, a7, lS, kv, iX, kw, iY, kx, iZ, ky, i0⟩
       have lT : Cx [gi, gj, gk, gl, CH.row fK 0 c4, am, E, G, I, J, aj, ag, ad, ac, CH.row r 0 ao, x, y, A, B, CH.row s 0 aY, CH.row L 0 a0, CH.row V 0 X] := Ctx.call0 da lS
       have pV := Row.mono eI a7
       have pW := Row.mono eJ a7
       have pX := Row.mono eK a7
       have pY := Row.mono eL a7
       have pZ := Row.mono eM a7
       have p0 := Row.mono eN a7
       have p1 := Row.mono eO a7
       have p2 := Row.mono eP a7
       refine ⟨_, rfl, ⟨trivial, trivial, trivial, trivial⟩, ?_⟩
       let o9 : List Go.Value := TState.q Z g9 h3 hE ha h4 hF hb h5 hG hc h6 hH
       refine WA.take none [] 7 rfl (by kernel_rfl) (by kernel_rfl) rfl trivial ⟨trivial, trivial, trivial, trivial⟩ (fun _ hC_ => Yl.move (v := .tuple #[(.agg (List.toArray o9)), (iv aI)]) rfl) ?_
       refine WA.take none [] 8 rfl (by kernel_rfl) (by kernel_rfl) rfl trivial ⟨trivial, trivial, trivial, trivial⟩ (fun _ hC_ => Yl.extract (v := .agg (List.toArray o9)) rfl rfl) ?_
       refine WA.take none [] 9 rfl (by kernel_rfl) (by kernel_rfl) rfl trivial ⟨trivial, trivial, trivial, trivial⟩ (fun _ hC_ => Yl.extract (v := iv aI) rfl rfl) ?_
       have lU : Cx [CH.row fK 0 c4, CH.emp, CH.emp, CH.emp, CH.emp, gi, gj, gk, gl, am, E, G, I, J, aj, ag, ad, ac, CH.row r 0 ao, x, y, A, B, CH.row s 0 aY, CH.row L 0 a0, CH.row V 0 X] := lT.pick [4, 22, 22, 22, 22, 0, 1, 2, 3, 5, 6, 7, 8, 9, 10, 11, 12, 13, 14, 15, 16, 17, 18, 19, 20, 21] rfl
       exact gC _ _ ⟨mM, fK, 0, none, 0, 0, CH.emp, none, 0, 0, CH.emp, none, 0, 0, CH.emp, none, 0, 0, CH.emp, g9, hE, h3, gi, ha, hF, h4, gj, hb, hG, h5, gk, hc, hH, h6, gl, eZ, e0, gx, e1, e2, gy, e3, rfl, rfl, rfl, rfl, lU, a7, rfl, (Row.nil _ _), rfl, (Row.nil _ _), rfl, (Row.nil _ _), rfl, (Row.nil _ _), kv, iX, kw, iY, kx, iZ, ky, i0⟩
     ·rintro M ar ⟨aS, bY, b7, fq, fG, ez, O, fs, fH, eA, Q, ft, fI, eB, R, fu, fJ, eC, S, cg, cr, b3, ap, ch, ct, b4, an, ci, cu, b5, al, cj, cv, b6, ak, e4, e5, d0, e6, e7, kB, d1, d2, cP, kC, kD, lN, N, p7, pJ, p8, pK, p9, pL, qa, pM, gt, dk, gu, dl, gv, dm, gw, dp⟩
      have eQ := Row.mono eM N
      have eR := Row.mono eN N
      have eS := Row.mono eO N
      have eT := Row.mono eP N
      have dq := Row.mono eI N
      have dr := Row.mono eJ N
      have ds := Row.mono eK N
      have dt := Row.mono eL N
      let bs : List Go.Value := TState.q Z cg b3 cr ch b4 ct ci b5 cu cj b6 cv
      obtain ⟨qK, kR, lV⟩ := ev_setI (P := Try.prog) (ps1 := []) (ps2 := [O, Q, R, S, ap, an, al, ak, am, E, G, I, J, aj, ag, ad, ac, CH.row r 0 ao, x, y, A, B, CH.row s 0 aY, CH.row L 0 a0, CH.row V 0 X]) (t := 32) 0 bs (.agg (List.toArray bs)) lN rfl rfl (ones_of rfl) sz32
      let ax : CH := CH.row bY b7 bs
      have bL : Cx [ax, O, Q, R, S, ap, an, al, ak, am, E, G, I, J, aj, ag, ad, ac, CH.row r 0 ao, x, y, A, B, CH.row s 0 aY, CH.row L 0 a0, CH.row V 0 X] := lV
      refine WA.up1 11 (by kernel_rfl) (Up.skip rfl rfl (kR _ _ _ _ cP kC) ⟨trivial, trivial, trivial, trivial⟩ ?_)
      refine WA.takes [(12, none)] ⟨(Ctx.subI 25 bL rfl), (Ctx.subI 24 bL rfl), (bL.fro.mono N), trivial⟩ (by kernel_rfl) <| WT.val rfl (fun _ hC_ => Yl.assign (v := iv aI) (by exact kD)) ?_
      refine WT.done <| WA.done (by kernel_rfl) <| W.seq <| W.seq ?_
      obtain ⟨oD, aJ, T⟩ := bindE T
      refine W.cutM (fun M ar => Kn M [(1, .slice ea eD d9), (2, .pointer (some ⟨V, 0, none⟩)), (5, .pointer (some ⟨s, 0, none⟩)), (7, .pointer (some ⟨L, 0, none⟩)), (9, iv af), (11, .pointer (some ⟨bM, bW, none⟩)), (12, iv ae), (13, .pointer (some ⟨bY, b7, none⟩)), (90, .bool oD)] ∧ Ctx w F D ar aS [ax, O, Q, R, S, ap, an, al, ak, am, E, G, I, J, aj, ag, ad, ac, CH.row r 0 ao, x, y, A, B, CH.row s 0 aY, CH.row L 0 a0, CH.row V 0 X]) ?_ ?_
      ·refine W.region rfl ?_
       refine WL.val (Yl.move (v := iv ae) d2) <| WL.run to 3 rfl ?_
       rcases iteE aJ with ⟨eU, aJ⟩ | ⟨eU, aJ⟩
       ·refine WL.kn 79 (congrArg Value.bool (ndec_t eU)) <| WL.valOn rfl rfl (Yl.loadVA (g := bM) (off := bW) (o := 0) (cs := bq) (us := bq) d1 Try.underlying32 rfl sz32 (Ctx.subI 9 bL rfl) rfl) <| WL.valOn rfl rfl (Yl.loadVA (g := bY) (off := b7) (o := 0) (cs := bs) (us := bs) cP Try.underlying32 rfl sz32 (Ctx.subI 0 bL rfl) rfl) <| WL.on rfl rfl ?_
        obtain ⟨mN, a8, ⟨k1, k2, k3, k4, k5, k6, k7, k8, _⟩, lW⟩ := Ctx.lend [aj, ag, ad, ac, ap, an, al, ak] (ps := [ax, O, Q, R, S, am, E, G, I, J, CH.row r 0 ao, x, y, A, B, CH.row s 0 aY, CH.row L 0 a0, CH.row V 0 X]) (Ctx.pick [14, 15, 16, 17, 5, 6, 7, 8, 0, 1, 2, 3, 4, 9, 10, 11, 12, 13, 18, 19, 20, 21, 22, 23, 24, 25] bL rfl)
        obtain ⟨oA, jL, aJ⟩ := bindE aJ
        refine WL.callH (juratref21_Same.calls aT _ mN cc cm bZ cd cn b0 ce co b1 cf cp b2 Y cg cr b3 ch ct b4 ci cu b5 cj cv b6 Z (Ctx.pre (qs := []) (rest := [ax, O, Q, R, S, am, E, G, I, J, CH.row r 0 ao, x, y, A, B, CH.row s 0 aY, CH.row L 0 a0, CH.row V 0 X]) lW) go (Row.len_le dq).1 (Row.len_le dq).2.1 (Sl.mono (Row.sl dq) a8 k1) gp (Row.len_le dr).1 (Row.len_le dr).2.1 (Sl.mono (Row.sl dr) a8 k2) gq (Row.len_le ds).1 (Row.len_le ds).2.1 (Sl.mono (Row.sl ds) a8 k3) gr (Row.len_le dt).1 (Row.len_le dt).2.1 (Sl.mono (Row.sl dt) a8 k4) gt (Row.len_le dk).1 (Row.len_le dk).2.1 (Sl.mono (Row.sl dk) a8 k5) gu (Row.len_le dl).1 (Row.len_le dl).2.1 (Sl.mono (Row.sl dl) a8 k6) gv (Row.len_le dm).1 (Row.len_le dm).2.1 (Sl.mono (Row.sl dm) a8 k7) gw (Row.len_le dp).1 (Row.len_le dp).2.1 (Sl.mono (Row.sl dp) a8 k8) oA jL) (ne.fr rfl rfl) ?_
        rintro c7 ar ⟨rfl, lX⟩
        refine ⟨_, rfl, ?_⟩
        have db : Cx [ax, O, Q, R, S, ap, an, al, ak, am, E, G, I, J, aj, ag, ad, ac, CH.row r 0 ao, x, y, A, B, CH.row s 0 aY, CH.row L 0 a0, CH.row V 0 X] := Ctx.callL (qs := []) (rest := [ax, O, Q, R, S, ap, an, al, ak, am, E, G, I, J, aj, ag, ad, ac, CH.row r 0 ao, x, y, A, B, CH.row s 0 aY, CH.row L 0 a0, CH.row V 0 X]) bL a8 lX
        refine WL.run to 3 rfl ?_
        rcases iteE aJ with ⟨eV, aJ⟩ | ⟨eV, aJ⟩
        ·refine WL.kn 85 (congrArg Value.bool (nb_t eV)) <| WL.valOn rfl rfl (Yl.loadVA (g := s) (off := 0) (o := 0) (cs := aY) (us := aY) d0 Try.underlying32 rfl sz32 (Ctx.subI 23 db rfl) rfl) <| WL.valOn rfl rfl (Yl.loadVA (g := r) (off := 0) (o := 0) (cs := ao) (us := ao) kB Try.underlying32 rfl sz32 (Ctx.subI 18 db rfl) rfl) <| WL.on rfl rfl ?_
         obtain ⟨mO, aN, ⟨k9, lb, lc, ld, _⟩, lY⟩ := Ctx.lend [x, y, A, B] (ps := [ax, O, Q, R, S, ap, an, al, ak, am, E, G, I, J, aj, ag, ad, ac, CH.row r 0 ao, CH.row s 0 aY, CH.row L 0 a0, CH.row V 0 X]) (Ctx.pick [19, 20, 21, 22, 0, 1, 2, 3, 4, 5, 6, 7, 8, 9, 10, 11, 12, 13, 14, 15, 16, 17, 18, 23, 24, 25] db rfl)
         obtain ⟨oB, jM, aJ⟩ := bindE aJ
         refine WL.callH (juratref21_Same.calls aT _ mO bt bl bx bu bm bz bv bn bA bw bo bB ay h8 id ii h9 ie ij ia ig ik ib ih il gR (Ctx.pre (qs := []) (rest := [ax, O, Q, R, S, ap, an, al, ak, am, E, G, I, J, aj, ag, ad, ac, CH.row r 0 ao, CH.row s 0 aY, CH.row L 0 a0, CH.row V 0 X]) lY) cL cC cH (Sl.mono cw (CH.le_trans (CH.le_trans a (CH.le_trans h N)) aN) (CH.le_trans (CH.le_trans a (CH.le_trans h N)) aN)) cM cD cI (Sl.mono cx (CH.le_trans (CH.le_trans a (CH.le_trans h N)) aN) (CH.le_trans (CH.le_trans a (CH.le_trans h N)) aN)) cN cE cJ (Sl.mono cy (CH.le_trans (CH.le_trans a (CH.le_trans h N)) aN) (CH.le_trans (CH.le_trans a (CH.le_trans h N)) aN)) cO cG cK (Sl.mono cz (CH.le_trans (CH.le_trans a (CH.le_trans h N)) aN) (CH.le_trans (CH.le_trans a (CH.le_trans h N)) aN)) n7 (Row.len_le eQ).1 (Row.len_le eQ).2.1 (Sl.mono (Row.sl eQ) aN k9) n8 (Row.len_le eR).1 (Row.len_le eR).2.1 (Sl.mono (Row.sl eR) aN lb) n9 (Row.len_le eS).1 (Row.len_le eS).2.1 (Sl.mono (Row.sl eS) aN lc) oa (Row.len_le eT).1 (Row.len_le eT).2.1 (Sl.mono (Row.sl eT) aN ld) oB jM) (ne.fr rfl rfl) ?_
         rintro c7 ar ⟨rfl, lZ⟩
         refine ⟨_, rfl, ?_⟩
         have l0 : Cx [ax, O, Q, R, S, ap, an, al, ak, am, E, G, I, J, aj, ag, ad, ac, CH.row r 0 ao, x, y, A, B, CH.row s 0 aY, CH.row L 0 a0, CH.row V 0 X] := Ctx.callL (qs := []) (rest := [ax, O, Q, R, S, ap, an, al, ak, am, E, G, I, J, aj, ag, ad, ac, CH.row r 0 ao, x, y, A, B, CH.row s 0 aY, CH.row L 0 a0, CH.row V 0 X]) db aN lZ
         refine WL.rd to 2 rfl ?_
         cases aJ
         refine thenE_n ?_
         exact ⟨(.c e4 (.c e5 (.c d0 (.c e6 (.c e7 (.c d1 (.c d2 (.c cP (.c rfl .n))))))))), l0⟩
        refine WL.kn 85 (congrArg Value.bool (nb_f eV)) <| WL.offs 4 85 false rfl rfl <| WL.rd to 1 rfl ?_
        cases aJ
        refine thenE_n ?_
        exact ⟨(.c e4 (.c e5 (.c d0 (.c e6 (.c e7 (.c d1 (.c d2 (.c cP (.c rfl .n))))))))), db⟩
       refine WL.kn 79 (congrArg Value.bool (ndec_f eU)) <| WL.offs 4 79 false rfl rfl <| WL.run to 2 rfl <| WL.offs 4 85 false rfl rfl <| WL.rd to 1 rfl ?_
       cases aJ
       refine thenE_n ?_
       exact ⟨(.c e4 (.c e5 (.c d0 (.c e6 (.c e7 (.c d1 (.c d2 (.c cP (.c rfl .n))))))))), bL⟩
      ·rintro M ar ⟨kE, ee⟩
       apply ks M kE
       rcases iteE T with ⟨eW, T⟩ | ⟨eW, T⟩
       ·refine W.condT (congrArg Value.bool eW) <| W.sr rfl <| WL.rd to 1 rfl <| W.ret ?_
        iterate 7 first | refine inB_r ?_ | refine thenE_r ?_
        cases T
        replace H := sumE_r H
        have l2 : Cx [] := ee.pick [] rfl
        have mZ := Option.some.inj H
        subst mZ
        exact post_r (resE1 rfl rfl) ⟨rfl, (Ctx.weak l2 (CH.le_refl _))⟩
       refine W.condF (congrArg Value.bool (Bool.eq_false_iff.2 eW)) <| W.skip <| W.seq ?_
       obtain ⟨⟨au, av⟩, cA, T⟩ := bindE T
       refine W.cutM (fun M ar => ∃ U bC bd bN bD be bO bE bf bP bG bg bQ bH bh bR bI bi bS bJ bj bU bK bk bV, Kn M [(1, .slice ea eD d9), (2, .pointer (some ⟨V, 0, none⟩)), (5, .pointer (some ⟨s, 0, none⟩)), (7, .pointer (some ⟨L, 0, none⟩)), (9, iv af)] ∧ Ctx w F D ar U [CH.row s 0 (TState.q au bC bN bd bD bO be bE bP bf bG bQ bg), CH.row L 0 (TState.q av bH bR bh bI bS bi bJ bU bj bK bV bk), ax, O, Q, R, S, am, E, G, I, J, CH.row r 0 ao, x, y, A, B, CH.row V 0 X] ∧ CH.le aS U ∧ bN = au.Eras.length ∧ au.Eras.length ≤ bd ∧ bd ≤ maxLen ∧ Sl TEra.K U U bC au.Eras ∧ bO = au.Jobs.length ∧ au.Jobs.length ≤ be ∧ be ≤ maxLen ∧ Sl TJob.K U U bD au.Jobs ∧ bP = au.Used.length ∧ au.Used.length ≤ bf ∧ bf ≤ maxLen ∧ Sl (Kd.int .i64) U U bE au.Used ∧ bQ = au.Barred.length ∧ au.Barred.length ≤ bg ∧ bg ≤ maxLen ∧ Sl Kd.bool U U bG au.Barred ∧ bR = av.Eras.length ∧ av.Eras.length ≤ bh ∧ bh ≤ maxLen ∧ Sl TEra.K U U bH av.Eras ∧ bS = av.Jobs.length ∧ av.Jobs.length ≤ bi ∧ bi ≤ maxLen ∧ Sl TJob.K U U bI av.Jobs ∧ bU = av.Used.length ∧ av.Used.length ≤ bj ∧ bj ≤ maxLen ∧ Sl (Kd.int .i64) U U bJ av.Used ∧ bV = av.Barred.length ∧ av.Barred.length ≤ bk ∧ bk ≤ maxLen ∧ Sl Kd.bool U U bK av.Barred) ?_ ?_
       ·refine W.sr rfl <| WL.rd to 2 rfl ?_
        rcases iteE cA with ⟨eX, cA⟩ | ⟨eX, cA⟩
        ·refine W.cT eX rfl <| W.sr rfl <| WL.val (Yl.loadVA (g := bM) (off := bW) (o := 0) (cs := bq) (us := bq) rfl Try.underlying32 rfl sz32 (Ctx.subI 9 ee rfl) rfl) <| WL.st ee 23 0 bq rfl rfl rfl rfl (Put.lit 0 rfl) (ones_of rfl) sz32 fun ar (hg : Cx [ax, O, Q, R, S, ap, an, al, ak, am, E, G, I, J, aj, ag, ad, ac, CH.row r 0 ao, x, y, A, B, CH.row s 0 bq, CH.row L 0 a0, CH.row V 0 X]) => ?_
         refine WL.done <| W.region rfl ?_
         refine WL.val (Yl.loadVA (g := bY) (off := b7) (o := 0) (cs := bs) (us := bs) rfl Try.underlying32 rfl sz32 (Ctx.subI 0 hg rfl) rfl) <| WL.st hg 24 0 bs rfl rfl rfl rfl (Put.lit 0 rfl) (ones_of rfl) sz32 fun ar (l4 : Cx [ax, O, Q, R, S, ap, an, al, ak, am, E, G, I, J, aj, ag, ad, ac, CH.row r 0 ao, x, y, A, B, CH.row s 0 bq, CH.row L 0 bs, CH.row V 0 X]) => ?_
         refine WL.done ?_
         obtain ⟨qj, a9, lf, (l5 : Cx [ax, O, Q, R, S, ap, an, al, ak, am, E, G, I, J, ag, ad, ac, CH.row r 0 ao, x, y, A, B, CH.row s 0 bq, CH.row L 0 bs, CH.row V 0 X])⟩ := Ctx.fzI 14 l4 rfl
         obtain ⟨jT, j4, jw⟩ := Row.fz dq a9 lf
         have i1 := Row.mono dr a9
         have i2 := Row.mono ds a9
         have i3 := Row.mono dt a9
         have i4 := Row.mono dk a9
         have i5 := Row.mono dl a9
         have i6 := Row.mono dm a9
         have i7 := Row.mono dp a9
         obtain ⟨qk, a1, lg, (l6 : Cx [ax, O, Q, R, S, ap, an, al, ak, am, E, G, I, J, ad, ac, CH.row r 0 ao, x, y, A, B, CH.row s 0 bq, CH.row L 0 bs, CH.row V 0 X])⟩ := Ctx.fzI 14 l5 rfl
         obtain ⟨jU, j5, jx⟩ := Row.fz i1 a1 lg
         have i8 := Row.mono i2 a1
         have i9 := Row.mono i3 a1
         have ja := Row.mono i4 a1
         have jb := Row.mono i5 a1
         have jc := Row.mono i6 a1
         have jd := Row.mono i7 a1
         obtain ⟨ql, aW, lh, (l7 : Cx [ax, O, Q, R, S, ap, an, al, ak, am, E, G, I, J, ac, CH.row r 0 ao, x, y, A, B, CH.row s 0 bq, CH.row L 0 bs, CH.row V 0 X])⟩ := Ctx.fzI 14 l6 rfl
         obtain ⟨jV, j6, jy⟩ := Row.fz i8 aW lh
         have je := Row.mono i9 aW
         have jf := Row.mono ja aW
         have jg := Row.mono jb aW
         have jh := Row.mono jc aW
         have ji := Row.mono jd aW
         obtain ⟨qm, aR, li, (l8 : Cx [ax, O, Q, R, S, ap, an, al, ak, am, E, G, I, J, CH.row r 0 ao, x, y, A, B, CH.row s 0 bq, CH.row L 0 bs, CH.row V 0 X])⟩ := Ctx.fzI 14 l7 rfl
         obtain ⟨jW, j7, jz⟩ := Row.fz je aR li
         have jj := Row.mono jf aR
         have jk := Row.mono jg aR
         have jl := Row.mono jh aR
         have jm := Row.mono ji aR
         obtain ⟨qn, aO, lj, (l9 : Cx [ax, O, Q, R, S, an, al, ak, am, E, G, I, J, CH.row r 0 ao, x, y, A, B, CH.row s 0 bq, CH.row L 0 bs, CH.row V 0 X])⟩ := Ctx.fzI 5 l8 rfl
         obtain ⟨jX, j8, jA⟩ := Row.fz jj aO lj
         have jn := Row.mono jk aO
         have jo := Row.mono jl aO
         have jp := Row.mono jm aO
         obtain ⟨qo, aD, lk, (ma : Cx [ax, O, Q, R, S, al, ak, am, E, G, I, J, CH.row r 0 ao, x, y, A, B, CH.row s 0 bq, CH.row L 0 bs, CH.row V 0 X])⟩ := Ctx.fzI 5 l9 rfl
         obtain ⟨jY, j9, jB⟩ := Row.fz jn aD lk
         have jq := Row.mono jo aD
         have jr := Row.mono jp aD
         obtain ⟨qp, aw, ll, (mb : Cx [ax, O, Q, R, S, ak, am, E, G, I, J, CH.row r 0 ao, x, y, A, B, CH.row s 0 bq, CH.row L 0 bs, CH.row V 0 X])⟩ := Ctx.fzI 5 ma rfl
         obtain ⟨jZ, ka, jC⟩ := Row.fz jq aw ll
         have js := Row.mono jr aw
         obtain ⟨mP, aq, lm, (mc : Cx [ax, O, Q, R, S, am, E, G, I, J, CH.row r 0 ao, x, y, A, B, CH.row s 0 bq, CH.row L 0 bs, CH.row V 0 X])⟩ := Ctx.fzI 5 mb rfl
         obtain ⟨j0, kb, jD⟩ := Row.fz js aq lm
         have md : Cx [CH.row s 0 bq, CH.row L 0 bs, ax, O, Q, R, S, am, E, G, I, J, CH.row r 0 ao, x, y, A, B, CH.row V 0 X] := mc.pick [15, 16, 0, 1, 2, 3, 4, 5, 6, 7, 8, 9, 10, 11, 12, 13, 14, 17] rfl
         cases cA
         refine thenE_n ?_
         exact ⟨mP, cc, cm, bZ, cd, cn, b0, ce, co, b1, cf, cp, b2, cg, cr, b3, ch, ct, b4, ci, cu, b5, cj, cv, b6, rfl, md, (CH.le_trans a9 (CH.le_trans a1 (CH.le_trans aW (CH.le_trans aR (CH.le_trans aO (CH.le_trans aD (CH.le_trans aw aq))))))), go, jT, j4, (Sl.mono jw (CH.le_trans a1 (CH.le_trans aW (CH.le_trans aR (CH.le_trans aO (CH.le_trans aD (CH.le_trans aw aq)))))) (CH.le_trans a1 (CH.le_trans aW (CH.le_trans aR (CH.le_trans aO (CH.le_trans aD (CH.le_trans aw aq))))))), gp, jU, j5, (Sl.mono jx (CH.le_trans aW (CH.le_trans aR (CH.le_trans aO (CH.le_trans aD (CH.le_trans aw aq))))) (CH.le_trans aW (CH.le_trans aR (CH.le_trans aO (CH.le_trans aD (CH.le_trans aw aq)))))), gq, jV, j6, (Sl.mono jy (CH.le_trans aR (CH.le_trans aO (CH.le_trans aD (CH.le_trans aw aq)))) (CH.le_trans aR (CH.le_trans aO (CH.le_trans aD (CH.le_trans aw aq))))), gr, jW, j7, (Sl.mono jz (CH.le_trans aO (CH.le_trans aD (CH.le_trans aw aq))) (CH.le_trans aO (CH.le_trans aD (CH.le_trans aw aq)))), gt, jX, j8, (Sl.mono jA (CH.le_trans aD (CH.le_trans aw aq)) (CH.le_trans aD (CH.le_trans aw aq))), gu, jY, j9, (Sl.mono jB (CH.le_trans aw aq) (CH.le_trans aw aq)), gv, jZ, ka, (Sl.mono jC aq aq), gw, j0, kb, jD⟩
        refine W.cF eX rfl <| W.skip ?_
        have me : Cx [CH.row s 0 aY, CH.row L 0 a0, ax, O, Q, R, S, am, E, G, I, J, CH.row r 0 ao, x, y, A, B, CH.row V 0 X] := ee.pick [23, 24, 0, 1, 2, 3, 4, 9, 10, 11, 12, 13, 18, 19, 20, 21, 22, 25] rfl
        cases cA
        refine thenE_n ?_
        exact ⟨aS, bt, bl, bx, bu, bm, bz, bv, bn, bA, bw, bo, bB, cV, b8, cZ, cW, b9, c1, cX, ca, c2, cY, cb, c3, rfl, me, (CH.le_refl _), cL, cC, cH, (Sl.mono cw (CH.le_trans a (CH.le_trans h N)) (CH.le_trans a (CH.le_trans h N))), cM, cD, cI, (Sl.mono cx (CH.le_trans a (CH.le_trans h N)) (CH.le_trans a (CH.le_trans h N))), cN, cE, cJ, (Sl.mono cy (CH.le_trans a (CH.le_trans h N)) (CH.le_trans a (CH.le_trans h N))), cO, cG, cK, (Sl.mono cz (CH.le_trans a (CH.le_trans h N)) (CH.le_trans a (CH.le_trans h N))), fY, fQ, fU, (Sl.mono fL (CH.le_trans a (CH.le_trans h N)) (CH.le_trans a (CH.le_trans h N))), fZ, fR, fV, (Sl.mono fM (CH.le_trans a (CH.le_trans h N)) (CH.le_trans a (CH.le_trans h N))), f0, fS, fW, (Sl.mono fN (CH.le_trans a (CH.le_trans h N)) (CH.le_trans a (CH.le_trans h N))), f1, fT, fX, (Sl.mono fO (CH.le_trans a (CH.le_trans h N)) (CH.le_trans a (CH.le_trans h N)))⟩
       ·rintro M ar ⟨U, bC, bd, bN, bD, be, bO, bE, bf, bP, bG, bg, bQ, bH, bh, bR, bI, bi, bS, bJ, bj, bU, bK, bk, bV, kF, l3, fh, dS, dC, dK, du, dT, dD, dL, dv, dU, dE, dM, dw, dV, dF, dN, dx, dW, dG, dO, dy, dX, dH, dP, dz, dY, dI, dQ, dA, dZ, dJ, dR, dB⟩
        apply ks M kF
        refine W.seq ?_
        let a3 : List Go.Value := TState.q au bC bN bd bD bO be bE bP bf bG bQ bg
        refine W.regionA [([6, 11], CH.row s 0 a3), ([6, 11], U)] (by kernel_rfl) ?_
        have dc := Ctx.drewN l3 1
        refine WA.takes [(0, some 0), (1, none), (2, none), (3, none), (4, none), (5, some 1)] ⟨(Ctx.subI 0 dc rfl), (dc.fro), trivial⟩ (by kernel_rfl) <| WT.val rfl (fun _ hC_ => Yl.loadVA (g := s) (off := 0) (o := 0) (cs := a3) (us := a3) rfl Try.underlying32 rfl sz32 (show Sub (CH.row s 0 a3) _ from hC_) rfl) ?_
        refine WT.run to 2 rfl <| WT.val rfl (fun _ hC_ => Yl.elemAddr (i := af) rfl rfl ek Try.underlying24 sz46 (by omega)) ?_
        refine WT.run to 1 rfl <| WT.val rfl (fun _ hC_ => Yl.load (v := iv ((c6.getD af.toNat TRecord.z).Epoch)) rfl Try.underlying3 rfl (((Sub.mono (show Sub U _ from hC_) (CH.le_trans aU (CH.le_trans a (CH.le_trans h (CH.le_trans N fh)))))).cell (et 1 _ rfl))) ?_
        refine WT.done ?_
        obtain ⟨⟨b, aa⟩, rs10917_6h, T⟩ := bindE T
        let a4 : List Go.Value := TState.q av bH bR bh bI bS bi bJ bU bj bK bV bk
        refine WA.joinAt (fun M ar => ∃ ah ai, M 1 = .slice ea eD d9 ∧ M 2 = .pointer (some ⟨V, 0, none⟩) ∧ M 5 = .pointer (some ⟨s, 0, none⟩) ∧ M 7 = .pointer (some ⟨L, 0, none⟩) ∧ M 9 = iv af ∧ M 15 = .pointer (some ⟨ah, ai, none⟩) ∧ M 103 = .agg (List.toArray (b.map (Value.int .u8))) ∧ M 104 = .bool aa ∧ Ctx w F D ar U [CH.row ah ai ((List.replicate 32 (0 : Int)).map (Value.int .u8)), CH.row s 0 a3, CH.row L 0 a4, ax, O, Q, R, S, am, E, G, I, J, CH.row r 0 ao, x, y, A, B, CH.row V 0 X] ∧ (List.replicate 32 (0 : Int)).length = 32 ∧ b.length = 32) #[true, true, true, true, true, true, true, true, true, true, true, false, false] 2 ?_ ?_
        ·intro gD
         refine WA.up2 6 10 (by kernel_rfl) ?_ ?_
         ·refine Up.callH rfl (by kernel_rfl) rfl (docket_Nonce.calls aT _ U bC bd bN bD be bO bE bf bP bG bg bQ au ((c6.getD af.toNat TRecord.z).Epoch) dc.pre0 dS dC dK du dT dD dL dv dU dE dM dw dV dF dN dx b aa rs10917_6h) (ne.fr rfl rfl) ?_
          rintro c7 ar ⟨rfl, mg, jG⟩
          have mh : Cx [CH.row s 0 a3, CH.row L 0 a4, ax, O, Q, R, S, am, E, G, I, J, CH.row r 0 ao, x, y, A, B, CH.row V 0 X] := Ctx.call0 dc mg
          refine ⟨_, rfl, ⟨trivial, trivial, trivial⟩, ?_⟩
          refine WA.take none [] 7 rfl (by kernel_rfl) (by kernel_rfl) rfl trivial ⟨trivial, trivial, trivial⟩ (fun _ hC_ => Yl.move (v := .tuple #[(.agg (List.toArray (b.map (Value.int .u8)))), (.bool aa)]) rfl) ?_
          refine WA.take none [] 8 rfl (by kernel_rfl) (by kernel_rfl) rfl trivial ⟨trivial, trivial, trivial⟩ (fun _ hC_ => Yl.extract (v := .agg (List.toArray (b.map (Value.int .u8)))) rfl rfl) ?_
          refine WA.take none [] 9 rfl (by kernel_rfl) (by kernel_rfl) rfl trivial ⟨trivial, trivial, trivial⟩ (fun _ hC_ => Yl.extract (v := .bool aa) rfl rfl) ?_
          obtain ⟨m2, qL, kS, mi⟩ := ev_alloc (P := Try.prog) (e := 43) ((List.replicate 32 (0 : Int)).map (Value.int .u8)) mh zr43 rfl
          refine WA.up1 10 (by kernel_rfl) (Up.val rfl rfl rfl (kS _ _) ⟨trivial, trivial, trivial⟩ ?_)
          exact gD _ _ ⟨m2, 0, rfl, rfl, rfl, rfl, rfl, rfl, rfl, rfl, mi, (List.length_replicate ..), jG⟩
         ·obtain ⟨hK, qM, kT, ef⟩ := ev_alloc (P := Try.prog) (e := 43) ((List.replicate 32 (0 : Int)).map (Value.int .u8)) dc zr43 rfl
          refine Up.val rfl rfl rfl (kT _ _) ⟨(Ctx.subI 1 ef rfl), (ef.fro), trivial⟩ <| WA.up1 6 (by kernel_rfl) (Up.callH rfl (by kernel_rfl) rfl (docket_Nonce.calls aT _ U bC bd bN bD be bO bE bf bP bG bg bQ au ((c6.getD af.toNat TRecord.z).Epoch) ef.pre0 dS dC dK du dT dD dL dv dU dE dM dw dV dF dN dx b aa rs10917_6h) (ne.fr rfl rfl) ?_)
          rintro c7 ar ⟨rfl, mj, jH⟩
          have ml : Cx [CH.row hK 0 ((List.replicate 32 (0 : Int)).map (Value.int .u8)), CH.row s 0 a3, CH.row L 0 a4, ax, O, Q, R, S, am, E, G, I, J, CH.row r 0 ao, x, y, A, B, CH.row V 0 X] := Ctx.call0 ef mj
          refine ⟨_, rfl, ⟨trivial, trivial, trivial⟩, ?_⟩
          refine WA.take none [] 7 rfl (by kernel_rfl) (by kernel_rfl) rfl trivial ⟨trivial, trivial, trivial⟩ (fun _ hC_ => Yl.move (v := .tuple #[(.agg (List.toArray (b.map (Value.int .u8)))), (.bool aa)]) rfl) ?_
          refine WA.take none [] 8 rfl (by kernel_rfl) (by kernel_rfl) rfl trivial ⟨trivial, trivial, trivial⟩ (fun _ hC_ => Yl.extract (v := .agg (List.toArray (b.map (Value.int .u8)))) rfl rfl) ?_
          refine WA.take none [] 9 rfl (by kernel_rfl) (by kernel_rfl) rfl trivial ⟨trivial, trivial, trivial⟩ (fun _ hC_ => Yl.extract (v := .bool aa) rfl rfl) ?_
          exact gD _ _ ⟨hK, 0, rfl, rfl, rfl, rfl, rfl, rfl, rfl, rfl, ml, (List.length_replicate ..), jH⟩
        ·rintro M ar ⟨ah, ai, e8, gz, gA, e9, fa, fb, kG, kH, mf, jF, bb⟩
         obtain ⟨qN, kU, mm⟩ := ev_put (P := Try.prog) (ps1 := []) (ps2 := [CH.row s 0 a3, CH.row L 0 a4, ax, O, Q, R, S, am, E, G, I, J, CH.row r 0 ao, x, y, A, B, CH.row V 0 X]) (t := 43) (b.map (Value.int .u8)) (.agg (List.toArray (b.map (Value.int .u8)))) mf (Put.all 32 (len_map jF) (len_map bb)) rfl (one_ints _ _) (sz_of sz43 (len_map bb))
         have fx : Cx [CH.row ah ai (b.map (Value.int .u8)), CH.row s 0 a3, CH.row L 0 a4, ax, O, Q, R, S, am, E, G, I, J, CH.row r 0 ao, x, y, A, B, CH.row V 0 X] := mm
         refine WA.up1 11 (by kernel_rfl) (Up.skip rfl rfl (kU _ _ _ _ fb kG) ⟨trivial, trivial, trivial⟩ ?_)
         refine WA.takes [(12, none)] ⟨(Ctx.subI 1 fx rfl), (fx.fro), trivial⟩ (by kernel_rfl) <| WT.val rfl (fun _ hC_ => Yl.assign (v := .bool aa) (by exact kH)) ?_
         refine WT.done <| WA.done (by kernel_rfl) <| W.seq <| W.regionA [([6, 11], CH.row L 0 a4), ([6, 11], U)] (by kernel_rfl) ?_
         have dd := Ctx.drewN fx 1
         refine WA.takes [(0, some 0), (1, none), (2, none), (3, none), (4, none), (5, some 1)] ⟨(Ctx.subI 2 dd rfl), (dd.fro), trivial⟩ (by kernel_rfl) <| WT.val rfl (fun _ hC_ => Yl.loadVA (g := L) (off := 0) (o := 0) (cs := a4) (us := a4) (by exact e9) Try.underlying32 rfl sz32 (show Sub (CH.row L 0 a4) _ from hC_) rfl) ?_
         refine WT.val rfl (fun _ hC_ => Yl.move (v := .slice ea eD d9) (by exact e8)) ?_
         refine WT.val rfl (fun _ hC_ => Yl.move (v := iv af) (by exact fa)) ?_
         refine WT.val rfl (fun _ hC_ => Yl.elemAddr (i := af) rfl rfl ek Try.underlying24 sz46 (by omega)) ?_
         refine WT.run to 1 rfl <| WT.val rfl (fun _ hC_ => Yl.load (v := iv ((c6.getD af.toNat TRecord.z).Epoch)) rfl Try.underlying3 rfl (((Sub.mono (show Sub U _ from hC_) (CH.le_trans aU (CH.le_trans a (CH.le_trans h (CH.le_trans N fh)))))).cell (et 1 _ rfl))) ?_
         refine WT.done ?_
         obtain ⟨⟨l, ab⟩, rs10996_6h, T⟩ := bindE T
         refine WA.joinAt (fun M ar => ∃ aF aH, M 1 = .slice ea eD d9 ∧ M 2 = .pointer (some ⟨V, 0, none⟩) ∧ M 5 = .pointer (some ⟨s, 0, none⟩) ∧ M 7 = .pointer (some ⟨L, 0, none⟩) ∧ M 9 = iv af ∧ M 15 = .pointer (some ⟨ah, ai, none⟩) ∧ M 16 = .bool aa ∧ M 17 = .pointer (some ⟨aF, aH, none⟩) ∧ M 113 = .agg (List.toArray (l.map (Value.int .u8))) ∧ M 114 = .bool ab ∧ Ctx w F D ar U [CH.row aF aH ((List.replicate 32 (0 : Int)).map (Value.int .u8)), CH.row ah ai (b.map (Value.int .u8)), CH.row s 0 a3, CH.row L 0 a4, ax, O, Q, R, S, am, E, G, I, J, CH.row r 0 ao, x, y, A, B, CH.row V 0 X] ∧ (List.replicate 32 (0 : Int)).length = 32 ∧ l.length = 32) #[true, true, true, true, true, true, true, true, true, true, true, false, false] 2 ?_ ?_
         ·intro gE
          refine WA.up2 6 10 (by kernel_rfl) ?_ ?_
          ·refine Up.callH rfl (by kernel_rfl) rfl (juratref21_Nonce.calls aT _ U bH bh bR bI bi bS bJ bj bU bK bk bV av ((c6.getD af.toNat TRecord.z).Epoch) dd.pre0 dW dG dO dy dX dH dP dz dY dI dQ dA dZ dJ dR dB l ab rs10996_6h) (ne.fr rfl rfl) ?_
           rintro c7 ar ⟨rfl, mo, jJ⟩
           have mq : Cx [CH.row ah ai (b.map (Value.int .u8)), CH.row s 0 a3, CH.row L 0 a4, ax, O, Q, R, S, am, E, G, I, J, CH.row r 0 ao, x, y, A, B, CH.row V 0 X] := Ctx.call0 dd mo
           refine ⟨_, rfl, ⟨trivial, trivial, trivial⟩, ?_⟩
           refine WA.take none [] 7 rfl (by kernel_rfl) (by kernel_rfl) rfl trivial ⟨trivial, trivial, trivial⟩ (fun _ hC_ => Yl.move (v := .tuple #[(.agg (List.toArray (l.map (Value.int .u8)))), (.bool ab)]) rfl) ?_
           refine WA.take none [] 8 rfl (by kernel_rfl) (by kernel_rfl) rfl trivial ⟨trivial, trivial, trivial⟩ (fun _ hC_ => Yl.extract (v := .agg (List.toArray (l.map (Value.int .u8)))) rfl rfl) ?_
           refine WA.take none [] 9 rfl (by kernel_rfl) (by kernel_rfl) rfl trivial ⟨trivial, trivial, trivial⟩ (fun _ hC_ => Yl.extract (v := .bool ab) rfl rfl) ?_
           obtain ⟨m3, qO, kV, mr⟩ := ev_alloc (P := Try.prog) (e := 43) ((List.replicate 32 (0 : Int)).map (Value.int .u8)) mq zr43 rfl
           refine WA.up1 10 (by kernel_rfl) (Up.val rfl rfl rfl (kV _ _) ⟨trivial, trivial, trivial⟩ ?_)
           exact gE _ _ ⟨m3, 0, e8, gz, gA, e9, fa, fb, rfl, rfl, rfl, rfl, mr, (List.length_replicate ..), jJ⟩
          ·obtain ⟨hL, qP, kW, eg⟩ := ev_alloc (P := Try.prog) (e := 43) ((List.replicate 32 (0 : Int)).map (Value.int .u8)) dd zr43 rfl
           refine Up.val rfl rfl rfl (kW _ _) ⟨(Ctx.subI 3 eg rfl), (eg.fro), trivial⟩ <| WA.up1 6 (by kernel_rfl) (Up.callH rfl (by kernel_rfl) rfl (juratref21_Nonce.calls aT _ U bH bh bR bI bi bS bJ bj bU bK bk bV av ((c6.getD af.toNat TRecord.z).Epoch) eg.pre0 dW dG dO dy dX dH dP dz dY dI dQ dA dZ dJ dR dB l ab rs10996_6h) (ne.fr rfl rfl) ?_)
           rintro c7 ar ⟨rfl, ms, jK⟩
           have mt : Cx [CH.row hL 0 ((List.replicate 32 (0 : Int)).map (Value.int .u8)), CH.row ah ai (b.map (Value.int .u8)), CH.row s 0 a3, CH.row L 0 a4, ax, O, Q, R, S, am, E, G, I, J, CH.row r 0 ao, x, y, A, B, CH.row V 0 X] := Ctx.call0 eg ms
           refine ⟨_, rfl, ⟨trivial, trivial, trivial⟩, ?_⟩
           refine WA.take none [] 7 rfl (by kernel_rfl) (by kernel_rfl) rfl trivial ⟨trivial, trivial, trivial⟩ (fun _ hC_ => Yl.move (v := .tuple #[(.agg (List.toArray (l.map (Value.int .u8)))), (.bool ab)]) rfl) ?_
           refine WA.take none [] 8 rfl (by kernel_rfl) (by kernel_rfl) rfl trivial ⟨trivial, trivial, trivial⟩ (fun _ hC_ => Yl.extract (v := .agg (List.toArray (l.map (Value.int .u8)))) rfl rfl) ?_
           refine WA.take none [] 9 rfl (by kernel_rfl) (by kernel_rfl) rfl trivial ⟨trivial, trivial, trivial⟩ (fun _ hC_ => Yl.extract (v := .bool ab) rfl rfl) ?_
           exact gE _ _ ⟨hL, 0, e8, gz, gA, e9, fa, fb, rfl, rfl, rfl, rfl, mt, (List.length_replicate ..), jK⟩
         ·rintro M ar ⟨aF, aH, fc, fd, d3, d4, fe, ff, gB, d5, kI, kJ, mn, jI, bc⟩
          obtain ⟨qQ, kX, mu⟩ := ev_put (P := Try.prog) (ps1 := []) (ps2 := [CH.row ah ai (b.map (Value.int .u8)), CH.row s 0 a3, CH.row L 0 a4, ax, O, Q, R, S, am, E, G, I, J, CH.row r 0 ao, x, y, A, B, CH.row V 0 X]) (t := 43) (l.map (Value.int .u8)) (.agg (List.toArray (l.map (Value.int .u8)))) mn (Put.all 32 (len_map jI) (len_map bc)) rfl (one_ints _ _) (sz_of sz43 (len_map bc))
          have de : Cx [CH.row aF aH (l.map (Value.int .u8)), CH.row ah ai (b.map (Value.int .u8)), CH.row s 0 a3, CH.row L 0 a4, ax, O, Q, R, S, am, E, G, I, J, CH.row r 0 ao, x, y, A, B, CH.row V 0 X] := mu
          refine WA.up1 11 (by kernel_rfl) (Up.skip rfl rfl (kX _ _ _ _ d5 kI) ⟨trivial, trivial, trivial⟩ ?_)
          refine WA.takes [(12, none)] ⟨(Ctx.subI 3 de rfl), (de.fro), trivial⟩ (by kernel_rfl) <| WT.val rfl (fun _ hC_ => Yl.assign (v := .bool ab) (by exact kJ)) ?_
          refine WT.done <| WA.done (by kernel_rfl) <| W.seq ?_
          obtain ⟨oE, aK, T⟩ := bindE T
          refine W.cutM (fun M ar => Kn M [(1, .slice ea eD d9), (2, .pointer (some ⟨V, 0, none⟩)), (5, .pointer (some ⟨s, 0, none⟩)), (7, .pointer (some ⟨L, 0, none⟩)), (9, iv af), (129, .bool oE)] ∧ Ctx w F D ar U [CH.row aF aH (l.map (Value.int .u8)), CH.row ah ai (b.map (Value.int .u8)), CH.row s 0 a3, CH.row L 0 a4, ax, O, Q, R, S, am, E, G, I, J, CH.row r 0 ao, x, y, A, B, CH.row V 0 X]) ?_ ?_
          ·rcases iteE aK with ⟨aL, aK⟩ | ⟨aL, aK⟩
           ·rcases iteE aK with ⟨aM, aK⟩ | ⟨aM, aK⟩
            ·refine W.regionA [([10, 12], CH.row ah ai (b.map (Value.int .u8))), ([10, 12], CH.row aF aH (l.map (Value.int .u8))), ([10, 12], CH.row s 0 a3), ([12], CH.row L 0 a4)] (by kernel_rfl) ?_
             have cl := Ctx.drewN de 1
             refine WA.takes [(0, some 0), (1, some 1), (2, none), (3, none), (4, none), (5, none), (6, none), (7, none), (8, none), (9, some 2), (11, some 3)] ⟨(Ctx.subI 1 cl rfl), (Ctx.subI 0 cl rfl), (Ctx.subI 2 cl rfl), (Ctx.subI 3 cl rfl), trivial⟩ (by kernel_rfl) <| WT.val rfl (fun _ hC_ => Yl.loadVA (g := ah) (off := ai) (o := 0) (cs := b.map (Value.int .u8)) (us := b.map (Value.int .u8)) (by exact ff) Try.underlying43 rfl (sz_of sz43 (len_map bb)) (show Sub (CH.row ah ai (b.map (Value.int .u8))) _ from hC_) (take_all _)) ?_
             refine WT.val rfl (fun _ hC_ => Yl.loadVA (g := aF) (off := aH) (o := 0) (cs := l.map (Value.int .u8)) (us := l.map (Value.int .u8)) (by exact d5) Try.underlying43 rfl (sz_of sz43 (len_map bc)) (show Sub (CH.row aF aH (l.map (Value.int .u8))) _ from hC_) (take_all _)) ?_
             refine WT.val rfl (fun _ hC_ => Yl.aneq (n := 2) (xs := b.map (Value.int .u8)) (ys := l.map (Value.int .u8)) rfl rfl eg43 (EqV.arrI Try.underlying43 Try.underlying5 sz5 bb bc) (by decide) rfl) ?_
             refine WT.run to 1 rfl <| WT.on rfl rfl (congrArg Value.bool (ndec_t aL)) (fun _ hC_ => Yl.move (v := .bool aa) (by exact gB)) ?_
             refine WT.on rfl rfl (congrArg Value.bool (ndec_t aL)) (fun _ hC_ => Yl.move (v := .bool ab) rfl) ?_
             refine WT.on rfl rfl (congrArg Value.bool (ndec_t aL)) (fun _ hC_ => Yl.bneD (p := aa) (q := ab) rfl rfl Try.underlying4) ?_
             refine WT.val rfl (fun _ hC_ => Yl.pickF (v := .bool (!decide (aa = ab))) (congrArg Value.bool (ndec_t aL)) rfl) ?_
             refine WT.run to 1 rfl <| WT.on rfl rfl (congrArg Value.bool (ndec_t aM)) (fun _ hC_ => Yl.loadVA (g := s) (off := 0) (o := 0) (cs := a3) (us := a3) (by exact d3) Try.underlying32 rfl sz32 (show Sub (CH.row s 0 a3) _ from hC_) rfl) ?_
             refine WT.on rfl rfl (congrArg Value.bool (ndec_t aM)) (fun _ hC_ => Yl.loadVA (g := L) (off := 0) (o := 0) (cs := a4) (us := a4) (by exact d4) Try.underlying32 rfl sz32 (show Sub (CH.row L 0 a4) _ from hC_) rfl) ?_
             refine WT.done ?_
             obtain ⟨eG, jN, aK⟩ := bindE aK
             refine WA.up1 10 (by kernel_rfl) (Up.callG (args := #[.agg (List.toArray a3)]) rfl rfl (congrArg Value.bool (ndec_t aM)) (by kernel_rfl) rfl (ne.fr rfl rfl) (docket_Epoch.calls aT _ U bC bd bN bD be bO bE bf bP bG bg bQ au cl.pre0 dS dC dK du dT dD dL dv dU dE dM dw dV dF dN dx eG jN) ?_)
             rintro c7 ar ⟨rfl, mv⟩
             have fy : Cx [CH.row aF aH (l.map (Value.int .u8)), CH.row ah ai (b.map (Value.int .u8)), CH.row s 0 a3, CH.row L 0 a4, ax, O, Q, R, S, am, E, G, I, J, CH.row r 0 ao, x, y, A, B, CH.row V 0 X] := Ctx.call0 cl mv
             refine ⟨_, rfl, ⟨trivial, trivial, trivial, (Ctx.subI 3 fy rfl), trivial⟩, ?_⟩
             obtain ⟨eH, jO, aK⟩ := bindE aK
             refine WA.up1 12 (by kernel_rfl) (Up.callG (args := #[.agg (List.toArray a4)]) rfl rfl (congrArg Value.bool (ndec_t aM)) (by kernel_rfl) rfl (ne.fr rfl rfl) (juratref21_Epoch.calls aT _ U bH bh bR bI bi bS bJ bj bU bK bk bV av fy.pre0 dW dG dO dy dX dH dP dz dY dI dQ dA dZ dJ dR dB eH jO) ?_)
             rintro c7 ar ⟨rfl, mw⟩
             have df : Cx [CH.row aF aH (l.map (Value.int .u8)), CH.row ah ai (b.map (Value.int .u8)), CH.row s 0 a3, CH.row L 0 a4, ax, O, Q, R, S, am, E, G, I, J, CH.row r 0 ao, x, y, A, B, CH.row V 0 X] := Ctx.call0 fy mw
             refine ⟨_, rfl, ⟨trivial, trivial, trivial, trivial, trivial⟩, ?_⟩
             refine WA.takes [(13, none), (14, none)] ⟨(Ctx.subI 1 df rfl), (Ctx.subI 0 df rfl), (Ctx.subI 2 df rfl), (Ctx.subI 3 df rfl), trivial⟩ (by kernel_rfl) <| WT.on rfl rfl (congrArg Value.bool (ndec_t aM)) (fun _ hC_ => Yl.neq (m := eG) (n := eH) (q := !decide (eG = eH)) rfl rfl rfl) ?_
             refine WT.val rfl (fun _ hC_ => Yl.pickF (v := .bool (!decide (eG = eH))) (congrArg Value.bool (ndec_t aM)) rfl) ?_
             refine WT.done <| WA.done (by kernel_rfl) ?_
             cases aK
             refine thenE_n ?_
             exact ⟨(.c fc (.c fd (.c d3 (.c d4 (.c fe (.c rfl .n)))))), df⟩
            refine W.regionA [([], CH.row ah ai (b.map (Value.int .u8))), ([], CH.row aF aH (l.map (Value.int .u8)))] (by kernel_rfl) ?_
            have fA := Ctx.drewN de 1
            refine WA.takes [(0, some 0), (1, some 1), (2, none), (3, none), (4, none), (5, none), (6, none), (7, none), (8, none), (9, none), (10, none), (11, none), (12, none), (13, none), (14, none)] ⟨(Ctx.subI 1 fA rfl), (Ctx.subI 0 fA rfl), trivial⟩ (by kernel_rfl) <| WT.val rfl (fun _ hC_ => Yl.loadVA (g := ah) (off := ai) (o := 0) (cs := b.map (Value.int .u8)) (us := b.map (Value.int .u8)) (by exact ff) Try.underlying43 rfl (sz_of sz43 (len_map bb)) (show Sub (CH.row ah ai (b.map (Value.int .u8))) _ from hC_) (take_all _)) ?_
            refine WT.val rfl (fun _ hC_ => Yl.loadVA (g := aF) (off := aH) (o := 0) (cs := l.map (Value.int .u8)) (us := l.map (Value.int .u8)) (by exact d5) Try.underlying43 rfl (sz_of sz43 (len_map bc)) (show Sub (CH.row aF aH (l.map (Value.int .u8))) _ from hC_) (take_all _)) ?_
            refine WT.val rfl (fun _ hC_ => Yl.aneq (n := 2) (xs := b.map (Value.int .u8)) (ys := l.map (Value.int .u8)) rfl rfl eg43 (EqV.arrI Try.underlying43 Try.underlying5 sz5 bb bc) (by decide) rfl) ?_
            refine WT.run to 1 rfl <| WT.on rfl rfl (congrArg Value.bool (ndec_t aL)) (fun _ hC_ => Yl.move (v := .bool aa) (by exact gB)) ?_
            refine WT.on rfl rfl (congrArg Value.bool (ndec_t aL)) (fun _ hC_ => Yl.move (v := .bool ab) rfl) ?_
            refine WT.on rfl rfl (congrArg Value.bool (ndec_t aL)) (fun _ hC_ => Yl.bneD (p := aa) (q := ab) rfl rfl Try.underlying4) ?_
            refine WT.val rfl (fun _ hC_ => Yl.pickF (v := .bool (!decide (aa = ab))) (congrArg Value.bool (ndec_t aL)) rfl) ?_
            refine WT.run to 1 rfl <| WT.off rfl rfl (congrArg Value.bool (ndec_f aM)) <| WT.off rfl rfl (congrArg Value.bool (ndec_f aM)) <| WT.off rfl rfl (congrArg Value.bool (ndec_f aM)) <| WT.off rfl rfl (congrArg Value.bool (ndec_f aM)) <| WT.off rfl rfl (congrArg Value.bool (ndec_f aM)) <| WT.val rfl (fun _ hC_ => Yl.pickT (v := .bool true) (congrArg Value.bool (ndec_f aM)) rfl) ?_
            refine WT.done <| WA.done (by kernel_rfl) ?_
            cases aK
            refine thenE_n ?_
            exact ⟨(.c fc (.c fd (.c d3 (.c d4 (.c fe (.c rfl .n)))))), fA⟩
           refine W.regionA [([], CH.row ah ai (b.map (Value.int .u8))), ([], CH.row aF aH (l.map (Value.int .u8)))] (by kernel_rfl) ?_
           have fB := Ctx.drewN de 1
           refine WA.takes [(0, some 0), (1, some 1), (2, none), (3, none), (4, none), (5, none), (6, none), (7, none), (8, none), (9, none), (10, none), (11, none), (12, none), (13, none), (14, none)] ⟨(Ctx.subI 1 fB rfl), (Ctx.subI 0 fB rfl), trivial⟩ (by kernel_rfl) <| WT.val rfl (fun _ hC_ => Yl.loadVA (g := ah) (off := ai) (o := 0) (cs := b.map (Value.int .u8)) (us := b.map (Value.int .u8)) (by exact ff) Try.underlying43 rfl (sz_of sz43 (len_map bb)) (show Sub (CH.row ah ai (b.map (Value.int .u8))) _ from hC_) (take_all _)) ?_
           refine WT.val rfl (fun _ hC_ => Yl.loadVA (g := aF) (off := aH) (o := 0) (cs := l.map (Value.int .u8)) (us := l.map (Value.int .u8)) (by exact d5) Try.underlying43 rfl (sz_of sz43 (len_map bc)) (show Sub (CH.row aF aH (l.map (Value.int .u8))) _ from hC_) (take_all _)) ?_
           refine WT.val rfl (fun _ hC_ => Yl.aneq (n := 2) (xs := b.map (Value.int .u8)) (ys := l.map (Value.int .u8)) rfl rfl eg43 (EqV.arrI Try.underlying43 Try.underlying5 sz5 bb bc) (by decide) rfl) ?_
           refine WT.run to 1 rfl <| WT.off rfl rfl (congrArg Value.bool (ndec_f aL)) <| WT.off rfl rfl (congrArg Value.bool (ndec_f aL)) <| WT.off rfl rfl (congrArg Value.bool (ndec_f aL)) <| WT.val rfl (fun _ hC_ => Yl.pickT (v := .bool true) (congrArg Value.bool (ndec_f aL)) rfl) ?_
           refine WT.run to 1 rfl <| WT.off rfl rfl rfl <| WT.off rfl rfl rfl <| WT.off rfl rfl rfl <| WT.off rfl rfl rfl <| WT.off rfl rfl rfl <| WT.run to 1 rfl <| WT.done <| WA.done (by kernel_rfl) ?_
           cases aK
           refine thenE_n ?_
           exact ⟨(.c fc (.c fd (.c d3 (.c d4 (.c fe (.c rfl .n)))))), fB⟩
          ·rintro M ar ⟨kK, hh⟩
           apply ks M kK
           rcases iteE T with ⟨eY, T⟩ | ⟨eY, T⟩
           ·refine W.condT (congrArg Value.bool eY) <| W.sr rfl <| WL.rd to 1 rfl <| W.ret ?_
            iterate 6 first | refine inB_r ?_ | refine thenE_r ?_
            cases T
            replace H := sumE_r H
            have mx : Cx [] := hh.pick [] rfl
            have m0 := Option.some.inj H
            subst m0
            exact post_r (resE1 rfl rfl) ⟨rfl, (Ctx.weak mx (CH.le_refl _))⟩
           refine W.condF (congrArg Value.bool (Bool.eq_false_iff.2 eY)) <| W.skip <| inB_n <| W.region rfl ?_
           refine WL.rd to 3 rfl ?_
           have my : Cx [CH.row s 0 a3, CH.row L 0 a4, CH.row V 0 X] := hh.pick [2, 3, 19] rfl
           exact thenE_n ⟨aT, Nat.lt_succ_self _, wi64 (af + 1), au, av, U, bC, bd, bN, bD, be, bO, bE, bf, bP, bG, bg, bQ, bH, bh, bR, bI, bi, bS, bJ, bj, bU, bK, bk, bV, rfl, my, (CH.le_trans aU (CH.le_trans a (CH.le_trans h (CH.le_trans N fh)))), dS, dC, dK, du, dT, dD, dL, dv, dU, dE, dM, dw, dV, dF, dN, dx, dW, dG, dO, dy, dX, dH, dP, dz, dY, dI, dQ, dA, dZ, dJ, dR, dB, T⟩
   refine W.cF fP rfl <| W.exit <| thenE_x <| thenE_x <| inB_here ?_
   have mz : Cx [CH.row V 0 X] := fk.pick [2] rfl
   have mA := Ctx.lower mz (CH.le_refl _) aU
   cases T
   refine thenE_n ?_
   exact ⟨mA, rfl⟩
  ·rintro M ar ⟨ic, rfl⟩
   replace H := sumE_l H
   refine W.sr rfl ?_
   obtain ⟨oC, jP, H⟩ := bindE H
   refine WL.c0 ic (juratlaw21_awake.calls k _ F  ic.pre0  oC jP) (ne.fr rfl rfl) fun ar mB => ?_
   refine WL.rd to 1 rfl <| W.ret ?_
   have mC : Cx [] := mB.pick [] rfl
   have m1 := Option.some.inj H
   subst m1
   exact post_r (resE1 rfl rfl) ⟨rfl, mC⟩
end Go.Proofs.Ytobdpbnadjkhiaa
