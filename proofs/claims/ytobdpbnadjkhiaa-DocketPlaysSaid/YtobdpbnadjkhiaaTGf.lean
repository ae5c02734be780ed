/- Functions of the program: each as a plain function of numbers and lists, and the proof that the program's own comes to it. Nothing is assumed but what each theorem says. -/
import Derived.Test.YtobdpbnadjkhiaaTGe
import Derived.Test.YtobdpbnadjkhiaaTGc
namespace Go.Proofs.Ytobdpbnadjkhiaa
open Go.RowKit Go.WG
set_option linter.unusedVariables false
set_option linter.unusedSimpArgs false
set_option maxRecDepth 100000
set_option maxHeartbeats 4000000
def docket_work_vote.l1 : Nat → List Int → Int → Twork → Option Twork
  | 0, _, _, _ => none
  | k + 1, d, b, a => if b < (d.length : Int) then (if 0 ≤ b ∧ b < (d.length : Int) then (if 0 ≤ (d.getD b.toNat 0) ∧ (d.getD b.toNat 0) < (a.State.Barred.length : Int) then (docket_work_vote.l1 k d (wi64 (b + 1)) (⟨a.c, (⟨a.State.Eras, a.State.Jobs, a.State.Used, a.State.Barred.set (d.getD b.toNat 0).toNat true, a.State.Heads⟩ : TState)⟩ : Twork)) else none) else none) else (some a)
def docket_work_vote.f (k : Nat) (a : Twork) (l : TRecord) : Option (Int × Twork) := (docket_work_job.f k a l).bind fun ⟨b, g⟩ => if 0 ≤ b ∧ b < (a.State.Jobs.length : Int) then (if g = 0 then (if ((a.State.Jobs.getD b.toNat TJob.z).State) = 1 then (some (212, a)) else ((docket_asked.f k (a.State.Jobs.getD b.toNat TJob.z) l.By).bind fun o => if o = true then ((tally_Cast.f k ((a.State.Jobs.getD b.toNat TJob.z).Votes) (⟨l.By, l.Data⟩ : TCast)).bind fun ⟨e, i⟩ => if i = 0 then ((some (a.State.Jobs.set b.toNat ({ a.State.Jobs.getD b.toNat TJob.z with Votes := e }))).bind fun d => (tally_Decide.f k e a.c.Faulty).bind fun ⟨j, p⟩ => if p = true then ((some (d.set b.toNat ({ d.getD b.toNat TJob.z with State := 3 }))).bind fun h => (some (h.set b.toNat ({ h.getD b.toNat TJob.z with Value := j }))).bind fun m => (tally_Liars.f k e j).bind fun r => (docket_work_vote.l1 k r 0 (⟨a.c, (⟨a.State.Eras, m, a.State.Used, a.State.Barred, a.State.Heads⟩ : TState)⟩ : Twork)).bind fun s => some (0, s)) else (some (0, (⟨a.c, (⟨a.State.Eras, d, a.State.Used, a.State.Barred, a.State.Heads⟩ : TState)⟩ : Twork)))) else (some (i, a))) else (some (214, a)))) else (some (g, a))) else (if g = 0 then (if False then (none) else none) else (some (g, a)))
theorem docket_work_vote.calls (k w F p r aq ax an s am R y m O S M a Q T N b) (x : Twork) (a5 aR a6) (aK : TRecord) (hp : Pre w F [CH.row p r (Twork.q x aq an ax am y R O M S Q N T), s, m, a, b]) (aJ : an = x.State.Eras.length) (aI : Row TEra.K F s (.slice aq an ax) x.State.Eras) (aa : y = x.State.Jobs.length) (U : Row TJob.K F m (.slice am y R) x.State.Jobs) (ab : M = x.State.Used.length) (Y : Row (Kd.int .i64) F a (.slice O M S) x.State.Used) (ac : N = x.State.Barred.length) (Z : Row Kd.bool F b (.slice Q N T) x.State.Barred) (aX : aK.Nonce.length = 32) (cy : a6 = aK.Data.length) (cu : aK.Data.length ≤ aR) (cw : aR ≤ maxLen) (cr : Sl (Kd.int .u8) F F a5 aK.Data) (eu : Int) (ae : Twork) (H : docket_work_vote.f k x aK = some (eu, ae)) :
    Calls Try.prog 40 #[.pointer (some ⟨p, r, none⟩), .agg (List.toArray ((TRecord.q aK a5 a6 aR)))] w fun e w' => ∃ F' ce cm bI cC cf cn bJ cD cg co bK cE ch cp bL cG, e = .returned (iv eu) ∧ CH.le F F' ∧ Ctx w F (domL [CH.row p r (Twork.q x aq an ax am y R O M S Q N T), s, m, a, b]) w' F' [CH.row p r (Twork.q ae ce bI cm cf bJ cn cg bK co ch bL cp), cC, cD, cE, cG] ∧ bI = ae.State.Eras.length ∧ Row TEra.K F' cC (.slice ce bI cm) ae.State.Eras ∧ bJ = ae.State.Jobs.length ∧ Row TJob.K F' cD (.slice cf bJ cn) ae.State.Jobs ∧ bK = ae.State.Used.length ∧ Row (Kd.int .i64) F' cE (.slice cg bK co) ae.State.Used ∧ bL = ae.State.Barred.length ∧ Row Kd.bool F' cG (.slice ch bL cp) ae.State.Barred := by
 have C := Ctx.start hp
 generalize hD : domL [CH.row p r (Twork.q x aq an ax am y R O M S Q N T), s, m, a, b] = D at C ⊢
 unfold docket_work_vote.f at H
 refine Calls.ofW Try.func40 rfl (by simp [Try.ntmps40]) <| W.sr rfl ?_
 let E : List Go.Value := TRecord.q aK a5 a6 aR
 obtain ⟨o, gR, fS, ck⟩ := ev_box (P := Try.prog) 46 (.agg (List.toArray E)) E C rfl
 refine WL.val (fS _ _ _ rfl) <| WL.rd to 1 rfl <| W.sr rfl <| WL.run to 1 rfl <| WL.la ck 0 rfl rfl Try.underlying46 rfl (sz_of sz46 (len_app rfl (len_app (len_map aX) rfl))) ?_
 let J : List Go.Value := Twork.q x aq an ax am y R O M S Q N T
 obtain ⟨gk, af, ⟨fU, fV, fW, fX, fY, _⟩, gh⟩ := Ctx.lend [CH.row p r J, s, m, a, b] (ps := [CH.row o 0 E]) (Ctx.pick [1, 2, 3, 4, 5, 0] ck rfl)
 obtain ⟨⟨g, go⟩, fE, H⟩ := bindE H
 refine WL.callH (docket_work_job.calls k _ gk p r aq ax an am R y O S M Q T N x a5 aR a6 aK (Ctx.pre (qs := []) (rest := [CH.row o 0 E]) gh) aJ (Row.len_le aI).1 (Row.len_le aI).2.1 (Sl.mono (Row.sl aI) af fV) aa (Row.len_le U).1 (Row.len_le U).2.1 (Sl.mono (Row.sl U) af fW) ab (Row.len_le Y).1 (Row.len_le Y).2.1 (Sl.mono (Row.sl Y) af fX) ac (Row.len_le Z).1 (Row.len_le Z).2.1 (Sl.mono (Row.sl Z) af fY) fU aX cy cu cw (Sl.mono cr af af) g go fE) (ne.fr rfl rfl) ?_
 rintro cH a4 ⟨rfl, gi⟩
 refine ⟨_, rfl, ?_⟩
 have bz : Cx [CH.row o 0 E, CH.row p r J, s, m, a, b] := Ctx.callL (qs := []) (rest := [CH.row o 0 E, CH.row p r J, s, m, a, b]) ck af gi
 refine WL.run to 1 rfl <| WL.val (Yl.extract (v := elp am y 9 g) rfl rfl) <| WL.run to 1 rfl ?_
 rcases iteE H with ⟨bD, H⟩ | ⟨bD, H⟩
 ·obtain ⟨bO, bu, be, fD⟩ := (Row.sl U) (by omega)
  refine WL.val (Yl.assign (v := .pointer (some ⟨bO, bu + g.toNat * 9, none⟩)) (elp_eq be bD aa)) <| WL.rd to 1 rfl <| W.seq <| W.block <| W.sr rfl <| WL.rd to 3 rfl ?_
  rcases iteE H with ⟨bE, H⟩ | ⟨bE, H⟩
  ·refine W.nF bE rfl <| W.sr rfl <| WL.run to 3 rfl ?_
   obtain ⟨gI, fR, bH⟩ := fD g.toNat _ (getD_some (d := TJob.z) (by omega))
   obtain ⟨ei, em, eq, ej, en, er, ek, eo, es, bN, bP, cd, el, ep, et, rfl, fN, fF, fJ, fy, fO, fG, fK, fA, fP, fH, fL, fB, cz, cv, cx, ct, fQ, fI, fM, fC⟩ := TJob.open fR
   refine WL.val (Yl.load (v := iv ((x.State.Jobs.getD g.toNat TJob.z).State)) rfl Try.underlying3 rfl (((Ctx.subI 3 bz rfl)).cell (bH 1 _ rfl))) <| WL.rd to 2 rfl ?_
   rcases iteE H with ⟨bG, H⟩ | ⟨bG, H⟩
   ·refine W.cT bG rfl <| W.sr rfl <| WL.rd to 1 rfl <| W.ret <| inB_r <| thenE_r ?_
    have gj : Cx [CH.row p r J, s, m, a, b] := bz.pick [1, 2, 3, 4, 5] rfl
    simp only [Option.some.injEq, Prod.mk.injEq] at H
    obtain ⟨gl, gm⟩ := H
    subst gl gm
    exact post_r (resE1 rfl rfl) ⟨F, aq, ax, an, s, am, R, y, m, O, S, M, a, Q, T, N, b, rfl, (CH.le_refl _), gj, aJ, aI, aa, U, ab, Y, ac, Z⟩
   refine W.cF bG rfl <| W.seq <| W.regionA [([5], m), ([5], CH.row o 0 E)] (by kernel_rfl) ?_
   have a8 := Ctx.drewN bz 1
   refine WA.takes [(0, none), (1, none), (2, some 0), (3, none), (4, some 1)] ⟨(Ctx.subI 3 a8 rfl), (Ctx.subI 0 a8 rfl), trivial⟩ (by kernel_rfl) <| WT.run to 2 rfl ?_
   let gL : List Go.Value := (TJob.q (x.State.Jobs.getD g.toNat TJob.z) ei eq em ej er en ek es eo bN cd bP el et ep)
   refine WT.val rfl (fun _ hC_ => Yl.loadAgg (cs := gL) rfl Try.underlying55 rfl sz55 (fun j u hu => by rw [add_of]; exact ((show Sub m _ from hC_)).cell (bH _ _ hu))) ?_
   refine WT.run to 1 rfl <| WT.lv 37 rfl rfl rfl Try.underlying3 rfl (at_skip 2 35 rfl (at_skip 32 3 (len_map aX) rfl)) <| WT.done ?_
   obtain ⟨ge, dd, H⟩ := bindE H
   refine WA.up1 5 (by kernel_rfl) (Up.callH rfl (by kernel_rfl) rfl (docket_asked.calls k _ F ei em eq ej en er ek eo es bN bP cd el ep et (x.State.Jobs.getD g.toNat TJob.z) aK.By a8.pre0 fN fF fJ fy fO fG fK fA fP fH fL fB cz cv cx ct fQ fI fM fC ge dd) (ne.fr rfl rfl) ?_)
   rintro cH a4 ⟨rfl, eK⟩
   have a9 : Cx [CH.row o 0 E, CH.row p r J, s, m, a, b] := Ctx.call0 a8 eK
   refine ⟨_, rfl, ⟨trivial, trivial, trivial⟩, ?_⟩
   refine WA.takes [(6, none), (7, none)] ⟨(Ctx.subI 3 a9 rfl), (Ctx.subI 0 a9 rfl), trivial⟩ (by kernel_rfl) <| WT.run to 2 rfl <| WT.done <| WA.done (by kernel_rfl) ?_
   rcases iteE H with ⟨bi, H⟩ | ⟨bi, H⟩
   ·refine W.condF (congrArg Value.bool (nb_t bi)) <| W.skip <| inB_n <| W.seq <| W.regionA [([9], m), ([9], CH.row o 0 E)] (by kernel_rfl) ?_
    have ba := Ctx.drewN a9 1
    refine WA.takes [(0, none), (1, none), (2, none), (3, some 0), (4, none), (5, some 1), (6, none), (7, some 1), (8, none)] ⟨(Ctx.subI 3 ba rfl), (Ctx.subI 0 ba rfl), trivial⟩ (by kernel_rfl) <| WT.run to 3 rfl <| WT.val rfl (fun _ hC_ => Yl.load (v := .slice bN cd bP) rfl Try.underlying53 rfl (((show Sub m _ from hC_)).cell (bH 7 _ rfl))) ?_
    refine WT.run to 1 rfl <| WT.lv 37 rfl rfl rfl Try.underlying3 rfl (at_skip 2 35 rfl (at_skip 32 3 (len_map aX) rfl)) <| WT.run to 1 rfl <| WT.lv 34 rfl rfl rfl Try.underlying44 rfl (at_skip 2 32 rfl (at_skip 32 0 (len_map aX) rfl)) <| WT.val rfl (fun _ hC_ => Yl.build (places := [(0, 1), (1, 1)]) (cs := List.toArray [iv aK.By, .slice a5 a6 aR]) Try.underlying79 zr79 (pl79 _ Try.underlying79) (partsB (.cons rfl (.cons rfl .nil))) rfl) ?_
    refine WT.done ?_
    obtain ⟨⟨aH, gf⟩, de, H⟩ := bindE H
    refine WA.up1 9 (by kernel_rfl) (Up.callH rfl (by kernel_rfl) rfl (tally_Cast.calls k _ F bN bP cd ((x.State.Jobs.getD g.toNat TJob.z).Votes) a5 aR a6 (⟨aK.By, aK.Data⟩ : TCast) ba.pre0 cz cv cx ct cy cu cw cr aH gf de) (ne.fr rfl rfl) ?_)
    rintro cH a4 ⟨e3, aL, aQ, aY, gd, rfl, V, eL, bp, cJ⟩
    have bb : Cx [gd, CH.row o 0 E, CH.row p r J, s, m, a, b] := Ctx.call0 ba eL
    have bR := Row.mono aI V
    have bS := Row.mono U V
    have bU := Row.mono Y V
    have bV := Row.mono Z V
    refine ⟨_, rfl, ⟨trivial, trivial, trivial⟩, ?_⟩
    refine WA.takes [(10, none), (11, none), (12, none), (13, none), (14, none)] ⟨(Ctx.subI 4 bb rfl), (Ctx.subI 1 bb rfl), trivial⟩ (by kernel_rfl) <| WT.run to 5 rfl <| WT.done <| WA.done (by kernel_rfl) <| W.seq <| W.sr rfl <| WL.rd to 2 rfl ?_
    rcases iteE H with ⟨bj, H⟩ | ⟨bj, H⟩
    ·refine W.nF bj rfl <| W.skip <| W.sr rfl <| WL.run to 4 rfl ?_
     obtain ⟨cl, X, ee, bA⟩ := Ctx.fzI 0 bb rfl
     replace bA : Cx [CH.row o 0 E, CH.row p r J, s, m, a, b] := bA
     obtain ⟨bn, bo, bh⟩ := Row.fz cJ X ee
     have bW := Row.mono bR X
     have cK := Row.mono bS X
     have bX := Row.mono bU X
     have bY := Row.mono bV X
     have dh : g.toNat < x.State.Jobs.length := by first | omega | (simp only [List.length_set, List.length_replicate] at *; omega)
     obtain ⟨bv, gN, ea, eM, bf⟩ := ev_store (P := Try.prog) (t := 53) TJob.K [CH.row o 0 E, CH.row p r J, s] [a, b] bA cK be g.toNat 7 dh TJob.z (.slice aL aY aQ) ([.slice aL aY aQ]) rfl (ones_of rfl) (Nat.le_of_ble_eq_true rfl) sz53 ({ x.State.Jobs.getD g.toNat TJob.z with Votes := aH }) (by rintro _ h_; obtain ⟨ew, e5, fZ, ex, e6, f0, ey, e7, f1, gD, gG, gJ, ez, e8, f2, rfl, dN, dl, dA, cX, dO, dm, dB, cY, dP, dp, dC, cZ, gz, gv, gx, gq, dQ, dq, dD, c1⟩ := TJob.open h_; exact TJob.mk' _ ({ x.State.Jobs.getD g.toNat TJob.z with Votes := aH }) ew e5 fZ ex e6 f0 ey e7 f1 aL aQ aY ez e8 f2 dN dl dA cX dO dm dB cY dP dp dC cZ bp bn bo bh dQ dq dD c1) ⟨bO, bu + g.toNat * 9 + 7, none⟩ rfl
     have b7 : y = (x.State.Jobs.set g.toNat ({ x.State.Jobs.getD g.toNat TJob.z with Votes := aH })).length := by rw [List.length_set]; omega
     obtain ⟨ao, bq, H⟩ := bindE H
     replace bq := Option.some.inj bq
     rw [bq] at bf b7
     have bB : Cx [CH.row o 0 E, CH.row p r J, s, bv, a, b] := eM
     refine WL.skip (ea _ _ _ _ rfl rfl) <| WL.done <| W.seq <| W.sr rfl <| WL.run to 5 rfl <| WL.lv bB 1 0 rfl rfl Try.underlying3 rfl rfl ?_
     obtain ⟨⟨a3, gg⟩, df, H⟩ := bindE H
     refine WL.callH (tally_Decide.calls k _ cl aL aQ aY aH x.c.Faulty bB.pre0 bp bn bo bh a3 gg df) (ne.fr rfl rfl) ?_
     rintro cH a4 ⟨a7, bd, bt, bM, rfl, eN, b8, cL⟩
     refine ⟨_, rfl, ?_⟩
     have ci : Cx [bM, CH.row o 0 E, CH.row p r J, s, bv, a, b] := Ctx.call0 bB eN
     refine WL.rd to 5 rfl <| W.sr rfl <| WL.rd to 1 rfl ?_
     rcases iteE H with ⟨bk, H⟩ | ⟨bk, H⟩
     ·refine W.condT (congrArg Value.bool bk) <| W.sr rfl <| WL.run to 5 rfl ?_
      have di : g.toNat < ao.length := by first | omega | (simp only [List.length_set, List.length_replicate] at *; omega)
      obtain ⟨cA, gO, eb, eO, bZ⟩ := ev_store (P := Try.prog) (t := 3) TJob.K [bM, CH.row o 0 E, CH.row p r J, s] [a, b] ci bf be g.toNat 1 di TJob.z (iv 3) ([iv 3]) rfl (ones_of rfl) (Nat.le_of_ble_eq_true rfl) sz3 ({ ao.getD g.toNat TJob.z with State := 3 }) (by rintro _ h_; obtain ⟨eA, e9, f3, eB, fa, f4, eC, fb, f5, eD, fc, f6, eE, fd, f7, rfl, dR, dr, dE, c2, dS, ds, dF, c3, dT, dt, dG, c4, dU, du, dH, c5, dV, dv, dI, c6⟩ := TJob.open h_; exact TJob.mk' _ ({ ao.getD g.toNat TJob.z with State := 3 }) eA e9 f3 eB fa f4 eC fb f5 eD fc f6 eE fd f7 dR dr dE c2 dS ds dF c3 dT dt dG c4 dU du dH c5 dV dv dI c6) ⟨bO, bu + g.toNat * 9 + 1, none⟩ rfl
      have dW : y = (ao.set g.toNat ({ ao.getD g.toNat TJob.z with State := 3 })).length := by rw [List.length_set]; omega
      obtain ⟨ap, br, H⟩ := bindE H
      replace br := Option.some.inj br
      rw [br] at bZ dW
      have eP : Cx [bM, CH.row o 0 E, CH.row p r J, s, cA, a, b] := eO
      refine WL.skip (eb _ _ _ _ rfl rfl) <| WL.run to 2 rfl ?_
      obtain ⟨B, L, ef, bC⟩ := Ctx.fzI 0 eP rfl
      replace bC : Cx [CH.row o 0 E, CH.row p r J, s, cA, a, b] := bC
      obtain ⟨b5, b6, b4⟩ := Row.fz cL L ef
      have cM := Row.mono bW L
      have cN := Row.mono bZ L
      have cO := Row.mono bX L
      have cP := Row.mono bY L
      have dj : g.toNat < ap.length := by first | omega | (simp only [List.length_set, List.length_replicate] at *; omega)
      obtain ⟨bw, gP, ec, eQ, b0⟩ := ev_store (P := Try.prog) (t := 44) TJob.K [CH.row o 0 E, CH.row p r J, s] [a, b] bC cN be g.toNat 8 dj TJob.z (.slice a7 bt bd) ([.slice a7 bt bd]) rfl (ones_of rfl) (Nat.le_of_ble_eq_true rfl) sz44 ({ ap.getD g.toNat TJob.z with Value := a3 }) (by rintro _ h_; obtain ⟨eF, fe, f8, eG, ff, f9, eH, fg, ga, eI, fh, gb, gE, gH, gK, rfl, dX, dw, dJ, c7, dY, dx, dK, c8, dZ, dy, dL, c9, d0, dz, dM, da, gA, gw, gy, gr⟩ := TJob.open h_; exact TJob.mk' _ ({ ap.getD g.toNat TJob.z with Value := a3 }) eF fe f8 eG ff f9 eH fg ga eI fh gb a7 bd bt dX dw dJ c7 dY dx dK c8 dZ dy dL c9 d0 dz dM da b8 b5 b6 b4) ⟨bO, bu + g.toNat * 9 + 8, none⟩ rfl
      have b9 : y = (ap.set g.toNat ({ ap.getD g.toNat TJob.z with Value := a3 })).length := by rw [List.length_set]; omega
      obtain ⟨eh, bs, H⟩ := bindE H
      replace bs := Option.some.inj bs
      rw [bs] at b0 b9
      have cj : Cx [CH.row o 0 E, CH.row p r J, s, bw, a, b] := eQ
      refine WL.skip (ec _ _ _ _ rfl rfl) <| WL.done <| W.sr rfl <| WL.run to 2 rfl ?_
      obtain ⟨G, dg, H⟩ := bindE H
      refine WL.callH (tally_Liars.calls k _ B aL aQ aY aH a7 bd bt a3 cj.pre0 bp bn bo (Sl.mono bh L L) b8 b5 b6 b4 G dg) (ne.fr rfl rfl) ?_
      rintro cH a4 ⟨eJ, fi, gc, aG, rfl, eR, gB, cQ⟩
      refine ⟨_, rfl, ?_⟩
      have eS : Cx [aG, CH.row o 0 E, CH.row p r J, s, bw, a, b] := Ctx.call0 cj eR
      refine WL.ln (G.length : Int) rfl Try.underlying29 (by omega) <| WL.rd to 1 rfl ?_
      obtain ⟨I, l, H⟩ := bindE H
      refine W.cutM (fun aW a4 => ∃ aM aS aC aZ aN aT aD a0 aO aU aE a1 aP aV aF a2, Ctx w F D a4 B [CH.row p r (Twork.q I aM aC aS aN aD aT aO aE aU aP aF aV), aZ, a0, a1, a2, aG, CH.row o 0 E] ∧ aC = I.State.Eras.length ∧ Row TEra.K B aZ (.slice aM aC aS) I.State.Eras ∧ aD = I.State.Jobs.length ∧ Row TJob.K B a0 (.slice aN aD aT) I.State.Jobs ∧ aE = I.State.Used.length ∧ Row (Kd.int .i64) B a1 (.slice aO aE aU) I.State.Used ∧ aF = I.State.Barred.length ∧ Row Kd.bool B a2 (.slice aP aF aV) I.State.Barred) ?_ ?_
      ·refine W.block ?_
       have eU : Cx [CH.row p r J, s, bw, a, b, aG, CH.row o 0 E] := eS.pick [2, 3, 4, 5, 6, 0, 1] rfl
       refine W.loop (fun fx aW a4 => ∃ (A : Int) (h : Twork), ∃ ar ay ag aj au az ah ak av aA ai al aw aB ad bx, Kn aW [(0, .pointer (some ⟨p, r, none⟩)), (76, .slice eJ gc fi), (77, iv (G.length : Int)), (78, iv A)] ∧ Ctx w F D a4 B [CH.row p r (Twork.q h ar ag ay au ah az av ai aA aw ad aB), aj, ak, al, bx, aG, CH.row o 0 E] ∧ ag = h.State.Eras.length ∧ Row TEra.K B aj (.slice ar ag ay) h.State.Eras ∧ ah = h.State.Jobs.length ∧ Row TJob.K B ak (.slice au ah az) h.State.Jobs ∧ ai = h.State.Used.length ∧ Row (Kd.int .i64) B al (.slice av ai aA) h.State.Used ∧ ad = h.State.Barred.length ∧ Row Kd.bool B bx (.slice aw ad aB) h.State.Barred ∧ docket_work_vote.l1 fx G A h = some I) k ⟨0, (⟨x.c, (⟨x.State.Eras, eh, x.State.Used, x.State.Barred, x.State.Heads⟩ : TState)⟩ : Twork), aq, ax, an, s, am, R, y, bw, O, S, M, a, Q, T, N, b, rfl, eU, aJ, cM, b9, b0, ab, cO, ac, cP, l⟩ ?_
       clear l
       rintro fx aW a4 ⟨A, h, ar, ay, ag, aj, au, az, ah, ak, av, aA, ai, al, aw, aB, ad, bx, d7, bc, ca, b1, cb, b2, cc, b3, d5, bg, l⟩
       rcases fx with _ | fT
       · exact absurd l (by simp [docket_work_vote.l1])
       rw [docket_work_vote.l1] at l
       apply ks aW d7
       refine W.sr rfl <| WL.rd to 1 rfl <| W.seq ?_
       rcases iteE l with ⟨bl, l⟩ | ⟨bl, l⟩
       ·refine W.cT bl rfl <| W.skip <| W.seq <| W.block <| W.sr rfl ?_
        obtain ⟨gs, l⟩ := guardE l
        obtain ⟨gF, gC, cI, dc⟩ := (Row.sl cQ) (by omega)
        refine WL.val (Yl.elemAddr (i := A) rfl rfl cI Try.underlying29 sz3 (by omega)) ?_
        obtain ⟨gp, d8, d9⟩ := dc A.toNat _ (getD_some (d := 0) (by omega))
        obtain rfl := d8
        refine WL.val (Yl.load (v := iv (G.getD A.toNat 0)) rfl Try.underlying3 rfl (((Ctx.subI 5 bc rfl)).cell (d9 0 _ rfl))) <| WL.rd to 1 rfl <| W.region rfl ?_
        refine WL.run to 4 rfl <| WL.lv bc 0 10 rfl rfl Try.underlying30 rfl rfl <| WL.run to 1 rfl ?_
        obtain ⟨gt, l⟩ := guardE l
        obtain ⟨e4, eg, bQ, gu⟩ := (Row.sl bg) (by omega)
        refine WL.val (Yl.elemAddr (i := G.getD A.toNat 0) rfl rfl bQ Try.underlying30 sz4 (by omega)) ?_
        have dk : (G.getD A.toNat 0).toNat < h.State.Barred.length := by first | omega | (simp only [List.length_set, List.length_replicate] at *; omega)
        let gn : List Go.Value := Twork.q h ar ag ay au ah az av ai aA aw ad aB
        obtain ⟨cB, gQ, ed, eV, cW⟩ := ev_store (P := Try.prog) (t := 4) Kd.bool [CH.row p r gn, aj, ak, al] [aG, CH.row o 0 E] bc bg bQ (G.getD A.toNat 0).toNat 0 dk false (.bool true) ([.bool true]) rfl (ones_of rfl) (Nat.le_of_ble_eq_true rfl) sz4 (true) (fun _ h_ => rep_whole h_ rfl) ⟨e4, eg + (G.getD A.toNat 0).toNat * 1, none⟩ rfl
        have d6 : ad = (h.State.Barred.set (G.getD A.toNat 0).toNat true).length := by rw [List.length_set]; omega
        have eW : Cx [CH.row p r gn, aj, ak, al, cB, aG, CH.row o 0 E] := eV
        refine WL.skip (ed _ _ _ _ rfl rfl) <| WL.done <| inB_n <| W.region rfl ?_
        exact WL.rd to 2 rfl <| thenE_n ⟨fT, Nat.lt_succ_self _, wi64 (A + 1), (⟨h.c, (⟨h.State.Eras, h.State.Jobs, h.State.Used, h.State.Barred.set (G.getD A.toNat 0).toNat true, h.State.Heads⟩ : TState)⟩ : Twork), ar, ay, ag, aj, au, az, ah, ak, av, aA, ai, al, aw, aB, ad, cB, rfl, eW, ca, b1, cb, b2, cc, b3, d6, cW, l⟩
       refine W.cF bl rfl <| W.exit <| thenE_x <| thenE_x <| inB_here ?_
       cases l
       refine thenE_n ?_
       exact ⟨ar, ay, ag, aj, au, az, ah, ak, av, aA, ai, al, aw, aB, ad, bx, bc, ca, b1, cb, b2, cc, b3, d5, bg⟩
      ·rintro aW a4 ⟨aM, aS, aC, aZ, aN, aT, aD, a0, aO, aU, aE, a1, aP, aV, aF, a2, eT, d1, cR, d2, cS, d3, cU, d4, cV⟩
       refine W.sr rfl <| WL.rd to 1 rfl <| W.ret ?_
       let gM : List Go.Value := Twork.q I aM aC aS aN aD aT aO aE aU aP aF aV
       have eX : Cx [CH.row p r gM, aZ, a0, a1, a2] := eT.pick [0, 1, 2, 3, 4] rfl
       simp only [Option.some.injEq, Prod.mk.injEq] at H
       obtain ⟨fj, fk⟩ := H
       subst fj fk
       exact post_r (resE1 rfl rfl) ⟨B, aM, aS, aC, aZ, aN, aT, aD, a0, aO, aU, aE, a1, aP, aV, aF, a2, rfl, (CH.le_trans V (CH.le_trans X L)), eX, d1, cR, d2, cS, d3, cU, d4, cV⟩
     refine W.condF (congrArg Value.bool (Bool.eq_false_iff.2 bk)) <| W.skip <| W.sr rfl <| WL.rd to 1 rfl <| W.ret ?_
     have eY : Cx [CH.row p r J, s, bv, a, b] := ci.pick [2, 3, 4, 5, 6] rfl
     simp only [Option.some.injEq, Prod.mk.injEq] at H
     obtain ⟨fl, fm⟩ := H
     subst fl fm
     exact post_r (resE1 rfl rfl) ⟨cl, aq, ax, an, s, am, R, y, bv, O, S, M, a, Q, T, N, b, rfl, (CH.le_trans V X), eY, aJ, bW, b7, bf, ab, bX, ac, bY⟩
    refine W.nT bj rfl <| W.sr rfl <| WL.rd to 2 rfl <| W.ret <| thenE_r ?_
    have eZ : Cx [CH.row p r J, s, m, a, b] := bb.pick [2, 3, 4, 5, 6] rfl
    simp only [Option.some.injEq, Prod.mk.injEq] at H
    obtain ⟨fo, fp⟩ := H
    subst fo fp
    exact post_r (resE1 rfl rfl) ⟨e3, aq, ax, an, s, am, R, y, m, O, S, M, a, Q, T, N, b, rfl, V, eZ, aJ, bR, aa, bS, ab, bU, ac, bV⟩
   refine W.condT (congrArg Value.bool (nb_f bi)) <| W.sr rfl <| WL.rd to 1 rfl <| W.ret <| inB_r <| thenE_r ?_
   have e0 : Cx [CH.row p r J, s, m, a, b] := a9.pick [1, 2, 3, 4, 5] rfl
   simp only [Option.some.injEq, Prod.mk.injEq] at H
   obtain ⟨fq, fs⟩ := H
   subst fq fs
   exact post_r (resE1 rfl rfl) ⟨F, aq, ax, an, s, am, R, y, m, O, S, M, a, Q, T, N, b, rfl, (CH.le_refl _), e0, aJ, aI, aa, U, ab, Y, ac, Z⟩
  refine W.nT bE rfl <| W.sr rfl <| WL.rd to 2 rfl <| W.ret <| inB_r <| thenE_r ?_
  have e1 : Cx [CH.row p r J, s, m, a, b] := bz.pick [1, 2, 3, 4, 5] rfl
  simp only [Option.some.injEq, Prod.mk.injEq] at H
  obtain ⟨ft, fu⟩ := H
  subst ft fu
  exact post_r (resE1 rfl rfl) ⟨F, aq, ax, an, s, am, R, y, m, O, S, M, a, Q, T, N, b, rfl, (CH.le_refl _), e1, aJ, aI, aa, U, ab, Y, ac, Z⟩
 ·refine WL.val (Yl.assign (v := .pointer none) (elp_no bD aa)) <| WL.rd to 1 rfl <| W.seq <| W.block <| W.sr rfl <| WL.rd to 3 rfl ?_
  rcases iteE H with ⟨bm, H⟩ | ⟨bm, H⟩
  ·refine W.nF bm rfl <| W.sr rfl <| WL.run to 1 rfl ?_
   obtain ⟨db, H⟩ := guardE H
   exact db.elim
  refine W.nT bm rfl <| W.sr rfl <| WL.rd to 2 rfl <| W.ret <| inB_r <| thenE_r ?_
  have e2 : Cx [CH.row p r J, s, m, a, b] := bz.pick [1, 2, 3, 4, 5] rfl
  simp only [Option.some.injEq, Prod.mk.injEq] at H
  obtain ⟨fv, fw⟩ := H
  subst fv fw
  exact post_r (resE1 rfl rfl) ⟨F, aq, ax, an, s, am, R, y, m, O, S, M, a, Q, T, N, b, rfl, (CH.le_refl _), e2, aJ, aI, aa, U, ab, Y, ac, Z⟩
def docket_work_assign.l1 : Nat → List Int → Int → Twork → TJob → Option (Twork × TJob)
  | 0, _, _, _, _ => none
  | k + 1, e, d, b, a => if d < (e.length : Int) then (if 0 ≤ d ∧ d < (e.length : Int) then (if 0 ≤ (e.getD d.toNat 0) ∧ (e.getD d.toNat 0) < (b.State.Used.length : Int) then (if (a.Indexes.length + 1 + (a.Indexes.length + 1) / 4 + 192) * 8 ≤ 281474976710656 then (docket_work_assign.l1 k e (wi64 (d + 1)) (⟨b.c, (⟨b.State.Eras, b.State.Jobs, b.State.Used.set (e.getD d.toNat 0).toNat (wi64 ((b.State.Used.getD (e.getD d.toNat 0).toNat 0) + 1)), b.State.Barred, b.State.Heads⟩ : TState)⟩ : Twork) (⟨a.Payload, a.State, a.Attempt, a.Epoch, a.Until, a.Workers, a.Indexes ++ [b.State.Used.getD (e.getD d.toNat 0).toNat 0], a.Votes, a.Value⟩ : TJob)) else none) else none) else none) else (some (b, a))
def docket_work_assign.f (k : Nat) (a : Twork) (j : TRecord) : Option (Int × Twork) := (docket_work_era.f k a).bind fun i => if i = 0 then ((docket_work_job.f k a j).bind fun ⟨b, e⟩ => if 0 ≤ b ∧ b < (a.State.Jobs.length : Int) then (if e = 0 then (if ((a.State.Jobs.getD b.toNat TJob.z).State) = 1 then (if j.Time = 0 then (some (213, (⟨a.c, (⟨a.State.Eras, a.State.Jobs.set b.toNat (a.State.Jobs.getD b.toNat TJob.z), a.State.Used, a.State.Barred, a.State.Heads⟩ : TState)⟩ : Twork))) else (if 0 ≤ a.c.Height then ((docket_hands.f k a.c).bind fun l => (crew_Pick.f k a.State.Used a.State.Barred (shlOp .i64 1 a.c.Height) l).bind fun ⟨g, h⟩ => if h = 0 then ((docket_Epoch_raw.f k a.State).bind fun m => (docket_work_assign.l1 k g 0 a (⟨(a.State.Jobs.getD b.toNat TJob.z).Payload, 2, wi64 (((a.State.Jobs.getD b.toNat TJob.z).Attempt) + 1), m, j.Time, g, ([] : List Int), (a.State.Jobs.getD b.toNat TJob.z).Votes, (a.State.Jobs.getD b.toNat TJob.z).Value⟩ : TJob)).bind fun ⟨d, o⟩ => some (0, (⟨d.c, (⟨d.State.Eras, a.State.Jobs.set b.toNat o, d.State.Used, d.State.Barred, d.State.Heads⟩ : TState)⟩ : Twork))) else (some (h, (⟨a.c, (⟨a.State.Eras, a.State.Jobs.set b.toNat (a.State.Jobs.getD b.toNat TJob.z), a.State.Used, a.State.Barred, a.State.Heads⟩ : TState)⟩ : Twork)))) else none)) else (some (212, (⟨a.c, (⟨a.State.Eras, a.State.Jobs.set b.toNat (a.State.Jobs.getD b.toNat TJob.z), a.State.Used, a.State.Barred, a.State.Heads⟩ : TState)⟩ : Twork)))) else (some (e, (⟨a.c, (⟨a.State.Eras, a.State.Jobs.set b.toNat (a.State.Jobs.getD b.toNat TJob.z), a.State.Used, a.State.Barred, a.State.Heads⟩ : TState)⟩ : Twork)))) else (if e = 0 then (if False then (none) else none) else (some (e, a)))) else (some (i, a))
theorem docket_work_assign.calls (k w F s u aW aX aP J aw X O aE ad af ab j ae ag ac l) (y : Twork) (c8 cS dF) (bd : TRecord) (hp : Pre w F [CH.row s u (Twork.q y aW aP aX aw O X ad ab af ae ac ag), J, aE, j, l]) (aY : aP = y.State.Eras.length) (au : Row TEra.K F J (.slice aW aP aX) y.State.Eras) (bE : O = y.State.Jobs.length) (ay : Row TJob.K F aE (.slice aw O X) y.State.Jobs) (az : ab = y.State.Used.length) (T : Row (Kd.int .i64) F j (.slice ad ab af) y.State.Used) (aA : ac = y.State.Barred.length) (U : Row Kd.bool F l (.slice ae ac ag) y.State.Barred) (cy : bd.Nonce.length = 32) (gx : dF = bd.Data.length) (gv : bd.Data.length ≤ cS) (gw : cS ≤ maxLen) (gt : Sl (Kd.int .u8) F F c8 bd.Data) (fZ : Int) (aZ : Twork) (H : docket_work_assign.f k y bd = some (fZ, aZ)) :
    Calls Try.prog 39 #[.pointer (some ⟨s, u, none⟩), .agg (List.toArray ((TRecord.q bd c8 dF cS)))] w fun e w' => ∃ F' c4 da cI dG c5 db cJ dH c6 dc cK dI c7 dd cL dJ, e = .returned (iv fZ) ∧ CH.le F F' ∧ Ctx w F (domL [CH.row s u (Twork.q y aW aP aX aw O X ad ab af ae ac ag), J, aE, j, l]) w' F' [CH.row s u (Twork.q aZ c4 cI da c5 cJ db c6 cK dc c7 cL dd), dG, dH, dI, dJ] ∧ cI = aZ.State.Eras.length ∧ Row TEra.K F' dG (.slice c4 cI da) aZ.State.Eras ∧ cJ = aZ.State.Jobs.length ∧ Row TJob.K F' dH (.slice c5 cJ db) aZ.State.Jobs ∧ cK = aZ.State.Used.length ∧ Row (Kd.int .i64) F' dI (.slice c6 cK dc) aZ.State.Used ∧ cL = aZ.State.Barred.length ∧ Row Kd.bool F' dJ (.slice c7 cL dd) aZ.State.Barred := by
 have C := Ctx.start hp
 generalize hD : domL [CH.row s u (Twork.q y aW aP aX aw O X ad ab af ae ac ag), J, aE, j, l] = D at C ⊢
 unfold docket_work_assign.f at H
 refine Calls.ofW Try.func39 rfl (by simp [Try.ntmps39]) <| W.sr rfl ?_
 let I : List Go.Value := TRecord.q bd c8 dF cS
 obtain ⟨p, hm, gy, fY⟩ := ev_box (P := Try.prog) 46 (.agg (List.toArray I)) I C rfl
 refine WL.val (gy _ _ _ rfl) <| WL.rd to 1 rfl <| W.sr rfl <| WL.run to 1 rfl ?_
 let L : List Go.Value := Twork.q y aW aP aX aw O X ad ab af ae ac ag
 obtain ⟨gI, cH, ⟨gA, gB, gC, gD, gE, _⟩, gH⟩ := Ctx.lend [CH.row s u L, J, aE, j, l] (ps := [CH.row p 0 I]) (Ctx.pick [1, 2, 3, 4, 5, 0] fY rfl)
 obtain ⟨gU, gu, H⟩ := bindE H
 refine WL.cq fY (docket_work_era.calls k _ gI s u aW aX aP aw X O ad af ab ae ag ac y gH.pre0 aY (Row.len_le au).1 (Row.len_le au).2.1 (Sl.mono (Row.sl au) cH gB) bE (Row.len_le ay).1 (Row.len_le ay).2.1 (Sl.mono (Row.sl ay) cH gC) az (Row.len_le T).1 (Row.len_le T).2.1 (Sl.mono (Row.sl T) cH gD) aA (Row.len_le U).1 (Row.len_le U).2.1 (Sl.mono (Row.sl U) cH gE) gA gU gu) (ne.fr rfl rfl) fun cn c9 => ?_
 refine WL.rd to 1 rfl <| W.sr rfl <| WL.rd to 1 rfl <| W.seq <| W.sr rfl <| WL.rd to 2 rfl ?_
 rcases iteE H with ⟨bS, H⟩ | ⟨bS, H⟩
 ·refine W.cT bS rfl <| W.region rfl ?_
  refine WL.run to 1 rfl <| WL.la c9 0 rfl rfl Try.underlying46 rfl (sz_of sz46 (len_app rfl (len_app (len_map cy) rfl))) ?_
  obtain ⟨gm, aH, ⟨fP, fQ, fR, fS, fT, _⟩, f1⟩ := Ctx.lend [CH.row s u L, J, aE, j, l] (ps := [CH.row p 0 I]) (Ctx.pick [1, 2, 3, 4, 5, 0] c9 rfl)
  obtain ⟨⟨a, gF⟩, fd, H⟩ := bindE H
  refine WL.callH (docket_work_job.calls k _ gm s u aW aX aP aw X O ad af ab ae ag ac y c8 cS dF bd (Ctx.pre (qs := []) (rest := [CH.row p 0 I]) f1) aY (Row.len_le au).1 (Row.len_le au).2.1 (Sl.mono (Row.sl au) aH fQ) bE (Row.len_le ay).1 (Row.len_le ay).2.1 (Sl.mono (Row.sl ay) aH fR) az (Row.len_le T).1 (Row.len_le T).2.1 (Sl.mono (Row.sl T) aH fS) aA (Row.len_le U).1 (Row.len_le U).2.1 (Sl.mono (Row.sl U) aH fT) fP cy gx gv gw (Sl.mono gt aH aH) a gF fd) (ne.fr rfl rfl) ?_
  rintro gr cn ⟨rfl, f2⟩
  refine ⟨_, rfl, ?_⟩
  have dM : Cx [CH.row p 0 I, CH.row s u L, J, aE, j, l] := Ctx.callL (qs := []) (rest := [CH.row p 0 I, CH.row s u L, J, aE, j, l]) c9 aH f2
  refine WL.run to 1 rfl <| WL.val (Yl.extract (v := elp aw O 9 a) rfl rfl) <| WL.run to 1 rfl ?_
  rcases iteE H with ⟨cz, H⟩ | ⟨cz, H⟩
  ·obtain ⟨Z, S, de, g3⟩ := (Row.sl ay) (by omega)
   have f3 : Cx [aE, CH.row p 0 I, CH.row s u L, J, j, l] := dM.pick [3, 0, 1, 2, 4, 5] rfl
   obtain ⟨b, h, g0, fH, f4, aD⟩ := Row.foc ay de f3 a.toNat 9 rfl (by omega) TJob.z
   obtain ⟨ah, ak, an, aF, aG, aI, av, ax, aB, ai, al, ao, aj, am, ap, rfl, bo, bi, bl, bf, bY, bU, bW, bQ, bZ, bV, bX, bR, bp, bj, bm, bg, bq, bk, bn, bh⟩ := TJob.open fH
   let hb : List Go.Value := (TJob.q (y.State.Jobs.getD a.toNat TJob.z) ah an ak aF aI aG av aB ax ai ao al aj ap am)
   let bM : CH := CH.row Z (S + a.toNat * 9) hb
   have bu : Cx [b, bM, h, CH.row p 0 I, CH.row s u L, J, j, l] := f4
   refine WL.val (Yl.assign (v := .pointer (some ⟨Z, S + a.toNat * 9, none⟩)) (elp_eq de cz bE)) <| WL.rd to 1 rfl <| W.seq <| W.block <| W.sr rfl <| WL.rd to 3 rfl ?_
   rcases iteE H with ⟨cA, H⟩ | ⟨cA, H⟩
   ·refine W.nF cA rfl <| W.sr rfl <| WL.run to 3 rfl <| WL.lv bu 1 1 rfl rfl Try.underlying3 rfl rfl <| WL.rd to 2 rfl ?_
    rcases iteE H with ⟨cB, H⟩ | ⟨cB, H⟩
    ·refine W.nF cB rfl <| W.sr rfl <| WL.run to 1 rfl <| WL.lv bu 3 36 rfl rfl Try.underlying3 rfl (at_skip 2 34 rfl (at_skip 32 2 (len_map cy) rfl)) <| WL.rd to 2 rfl ?_
     rcases iteE H with ⟨cC, H⟩ | ⟨cC, H⟩
     ·refine W.cT cC rfl <| W.sr rfl <| WL.rd to 1 rfl <| W.ret <| inB_r <| thenE_r ?_
      obtain ⟨c2, f5, eX⟩ := Row.unfoc (x := (y.State.Jobs.getD a.toNat TJob.z)) aD (CH.le_refl _) (TJob.mk' _ (y.State.Jobs.getD a.toNat TJob.z) ah ak an aF aG aI av ax aB ai al ao aj am ap bo bi bl bf bY bU bW bQ bZ bV bX bR bp bj bm bg bq bk bn bh) bu
      have ft : O = (y.State.Jobs.set a.toNat (y.State.Jobs.getD a.toNat TJob.z)).length := by rw [List.length_set]; omega
      have f6 : Cx [c2, CH.row p 0 I, CH.row s u L, J, j, l] := f5
      have f7 : Cx [CH.row s u L, J, c2, j, l] := f6.pick [2, 3, 0, 4, 5] rfl
      simp only [Option.some.injEq, Prod.mk.injEq] at H
      obtain ⟨gp, gq⟩ := H
      subst gp gq
      exact post_r (resE1 rfl rfl) ⟨F, aW, aX, aP, J, aw, X, O, c2, ad, af, ab, j, ae, ag, ac, l, rfl, (CH.le_refl _), f7, aY, au, ft, eX, az, T, aA, U⟩
     refine W.cF cC rfl <| W.skip <| inB_n <| W.seq <| W.regionA [([21], CH.row s u L)] (by kernel_rfl) ?_
     have cV := Ctx.drewN bu 1
     refine WA.takes [(0, none), (1, none), (2, none), (3, none), (4, some 0), (5, none), (6, none), (7, none), (8, none), (9, some 0), (10, none), (11, none), (12, none), (13, none), (14, some 0), (15, none), (16, none), (17, none), (18, none), (19, some 0)] ⟨(Ctx.subI 4 cV rfl), trivial⟩ (by kernel_rfl) <| WT.run to 4 rfl <| WT.lv 9 rfl rfl rfl Try.underlying29 rfl rfl <| WT.run to 4 rfl <| WT.lv 10 rfl rfl rfl Try.underlying30 rfl rfl <| WT.run to 4 rfl <| WT.lv 2 rfl rfl rfl Try.underlying3 rfl rfl ?_
     obtain ⟨fb, H⟩ := guardE H
     refine WT.val rfl (fun _ hC_ => Yl.shl (m := 1) (n := y.c.Height) (r := shlOp .i64 1 y.c.Height) rfl rfl fb rfl) ?_
     refine WT.run to 3 rfl ?_
     let hc : List Go.Value := TConfig.q y.c
     refine WT.val rfl (fun _ hC_ => Yl.loadVA (g := s) (off := u) (o := 0) (cs := L) (us := hc) rfl Try.underlying23 rfl sz23 (show Sub (CH.row s u L) _ from hC_) rfl) ?_
     refine WT.done ?_
     obtain ⟨ei, fe, H⟩ := bindE H
     refine WA.up1 20 (by kernel_rfl) (Up.callH rfl (by kernel_rfl) rfl (docket_hands.calls k _ F y.c cV.pre0  ei fe) (ne.fr rfl rfl) ?_)
     rintro gr cn ⟨rfl, f8⟩
     have cW : Cx [b, bM, h, CH.row p 0 I, CH.row s u L, J, j, l] := Ctx.call0 cV f8
     refine ⟨_, rfl, ⟨(Ctx.subI 4 cW rfl), trivial⟩, ?_⟩
     obtain ⟨gn, cG, ⟨fU, fV, _⟩, f9⟩ := Ctx.lend [j, l] (ps := [b, bM, h, CH.row p 0 I, CH.row s u L, J]) (Ctx.pick [6, 7, 0, 1, 2, 3, 4, 5] cW rfl)
     obtain ⟨⟨E, gG⟩, ff, H⟩ := bindE H
     refine WA.up1 21 (by kernel_rfl) (Up.callH rfl (by kernel_rfl) rfl (crew_Pick.calls k _ gn ad af ab y.State.Used ae ag ac y.State.Barred (shlOp .i64 1 y.c.Height) ei (Ctx.pre (qs := []) (rest := [b, bM, h, CH.row p 0 I, CH.row s u L, J]) f9) az (Row.len_le T).1 (Row.len_le T).2.1 (Sl.mono (Row.sl T) cG fU) aA (Row.len_le U).1 (Row.len_le U).2.1 (Sl.mono (Row.sl U) cG fV) E gG ff) (ne.fr rfl rfl) ?_)
     rintro gr cn ⟨a0, a5, a6, R, rfl, ga, fu, eY⟩
     have eZ : Row (Kd.int .i64) F R (.slice a0 a6 a5) E := eY
     have cX : Cx [R, b, bM, h, CH.row p 0 I, CH.row s u L, J, j, l] := Ctx.callL (qs := []) (rest := [b, bM, h, CH.row p 0 I, CH.row s u L, J, j, l]) cW cG ga
     refine ⟨_, rfl, ⟨trivial, trivial⟩, ?_⟩
     refine WA.takes [(22, none), (23, none), (24, none), (25, none), (26, none)] ⟨(Ctx.subI 5 cX rfl), trivial⟩ (by kernel_rfl) <| WT.run to 5 rfl <| WT.done <| WA.done (by kernel_rfl) <| W.seq <| W.sr rfl <| WL.rd to 2 rfl ?_
     rcases iteE H with ⟨cD, H⟩ | ⟨cD, H⟩
     ·refine W.nF cD rfl <| W.skip <| W.seq <| W.regionA [([20, 23, 26, 29, 32], bM), ([14, 20, 23, 26, 29, 32], CH.row s u L), ([29, 32], CH.row p 0 I)] (by kernel_rfl) ?_
      have ca := Ctx.drewN cX 1
      refine WA.takes [(0, none), (1, none), (2, none), (3, none), (4, none), (5, none), (6, none), (7, none), (8, some 0), (9, none), (10, none), (11, none), (12, none), (13, some 1), (15, none), (16, some 2), (17, none)] ⟨(Ctx.subI 2 ca rfl), (Ctx.subI 5 ca rfl), (Ctx.subI 4 ca rfl), trivial⟩ (by kernel_rfl) <| WT.run to 8 rfl <| WT.lv 2 rfl rfl rfl Try.underlying3 rfl rfl <| WT.run to 4 rfl ?_
      let hd : List Go.Value := TState.q y.State aW aP aX aw O X ad ab af ae ac ag
      refine WT.val rfl (fun _ hC_ => Yl.loadVA (g := s) (off := u) (o := 7) (cs := L) (us := hd) rfl Try.underlying32 rfl sz32 (show Sub (CH.row s u L) _ from hC_) rfl) ?_
      refine WT.run to 1 rfl <| WT.lv 36 rfl rfl rfl Try.underlying3 rfl (at_skip 2 34 rfl (at_skip 32 2 (len_map cy) rfl)) <| WT.run to 1 rfl <| WT.done ?_
      obtain ⟨go, dD, fW, cY⟩ := Ctx.fzI 6 ca rfl
      replace cY : Cx [R, b, bM, h, CH.row p 0 I, CH.row s u L, j, l] := cY
      obtain ⟨aU, fg, H⟩ := bindE H
      refine WA.up1 14 (by kernel_rfl) (Up.callH rfl (by kernel_rfl) rfl (docket_Epoch_raw.calls k _ go aW aX aP aw X O ad af ab ae ag ac y.State (Ctx.pre (qs := []) (rest := [R, b, bM, h, CH.row p 0 I, CH.row s u L, j, l]) cY) aY (Row.len_le au).1 (Row.len_le au).2.1 (Sl.mono (Row.sl au) dD fW) aU fg) (ne.fr rfl rfl) ?_)
      rintro gr cn ⟨rfl, gb⟩
      have bv : Cx [R, b, bM, h, CH.row p 0 I, CH.row s u L, J, j, l] := Ctx.callL (qs := []) (rest := [R, b, bM, h, CH.row p 0 I, CH.row s u L, J, j, l]) ca dD gb
      refine ⟨_, rfl, ⟨(Ctx.subI 2 bv rfl), trivial, (Ctx.subI 4 bv rfl), trivial⟩, ?_⟩
      refine WA.takes [(18, none), (19, none)] ⟨(Ctx.subI 2 bv rfl), (Ctx.subI 5 bv rfl), (Ctx.subI 4 bv rfl), trivial⟩ (by kernel_rfl) <| WT.run to 2 rfl <| WT.done ?_
      obtain ⟨hh, fK, gc⟩ := ev_setI (P := Try.prog) (ps1 := [R, b]) (ps2 := [h, CH.row p 0 I, CH.row s u L, J, j, l]) (t := 3) 1 [iv 2] (iv 2) bv rfl rfl (ones_of rfl) sz3
      let he : List Go.Value := [.slice ah an ak, iv 2, iv ((y.State.Jobs.getD a.toNat TJob.z).Attempt), iv ((y.State.Jobs.getD a.toNat TJob.z).Epoch), iv ((y.State.Jobs.getD a.toNat TJob.z).Until), .slice aF aI aG, .slice av aB ax, .slice ai ao al, .slice aj ap am]
      let hg : CH := CH.row Z (S + a.toNat * 9) he
      have ct : Cx [R, b, hg, h, CH.row p 0 I, CH.row s u L, J, j, l] := gc
      refine WA.up1 20 (by kernel_rfl) (Up.skip rfl rfl (fK _ _ _ _ rfl rfl) ⟨trivial, trivial, (Ctx.subI 4 ct rfl), trivial⟩ ?_)
      refine WA.take none [] 21 rfl (by kernel_rfl) (by kernel_rfl) rfl trivial ⟨trivial, trivial, (Ctx.subI 4 ct rfl), trivial⟩ (fun _ hC_ => Yl.nilCheck rfl) ?_
      refine WA.take none [] 22 rfl (by kernel_rfl) (by kernel_rfl) rfl trivial ⟨trivial, trivial, (Ctx.subI 4 ct rfl), trivial⟩ (fun _ hC_ => Yl.fieldAddr (i := 2) rfl Try.underlying55 rfl sz3) ?_
      let hf : List Go.Value := [iv (wi64 (((y.State.Jobs.getD a.toNat TJob.z).Attempt) + 1))]
      obtain ⟨hi, fL, gd⟩ := ev_setI (P := Try.prog) (ps1 := [R, b]) (ps2 := [h, CH.row p 0 I, CH.row s u L, J, j, l]) (t := 3) 2 hf (iv (wi64 (((y.State.Jobs.getD a.toNat TJob.z).Attempt) + 1))) ct rfl rfl (ones_of rfl) sz3
      let gL : List Go.Value := [.slice ah an ak, iv 2, iv (wi64 (((y.State.Jobs.getD a.toNat TJob.z).Attempt) + 1)), iv ((y.State.Jobs.getD a.toNat TJob.z).Epoch), iv ((y.State.Jobs.getD a.toNat TJob.z).Until), .slice aF aI aG, .slice av aB ax, .slice ai ao al, .slice aj ap am]
      let gV : CH := CH.row Z (S + a.toNat * 9) gL
      have cu : Cx [R, b, gV, h, CH.row p 0 I, CH.row s u L, J, j, l] := gd
      refine WA.up1 23 (by kernel_rfl) (Up.skip rfl rfl (fL _ _ _ _ rfl rfl) ⟨trivial, trivial, (Ctx.subI 4 cu rfl), trivial⟩ ?_)
      refine WA.take none [] 24 rfl (by kernel_rfl) (by kernel_rfl) rfl trivial ⟨trivial, trivial, (Ctx.subI 4 cu rfl), trivial⟩ (fun _ hC_ => Yl.nilCheck rfl) ?_
      refine WA.take none [] 25 rfl (by kernel_rfl) (by kernel_rfl) rfl trivial ⟨trivial, trivial, (Ctx.subI 4 cu rfl), trivial⟩ (fun _ hC_ => Yl.fieldAddr (i := 3) rfl Try.underlying55 rfl sz3) ?_
      obtain ⟨hj, fM, ge⟩ := ev_setI (P := Try.prog) (ps1 := [R, b]) (ps2 := [h, CH.row p 0 I, CH.row s u L, J, j, l]) (t := 3) 3 [iv aU] (iv aU) cu rfl rfl (ones_of rfl) sz3
      let gM : List Go.Value := [.slice ah an ak, iv 2, iv (wi64 (((y.State.Jobs.getD a.toNat TJob.z).Attempt) + 1)), iv aU, iv ((y.State.Jobs.getD a.toNat TJob.z).Until), .slice aF aI aG, .slice av aB ax, .slice ai ao al, .slice aj ap am]
      let gW : CH := CH.row Z (S + a.toNat * 9) gM
      have cv : Cx [R, b, gW, h, CH.row p 0 I, CH.row s u L, J, j, l] := ge
      refine WA.up1 26 (by kernel_rfl) (Up.skip rfl rfl (fM _ _ _ _ rfl rfl) ⟨trivial, trivial, (Ctx.subI 4 cv rfl), trivial⟩ ?_)
      refine WA.take none [] 27 rfl (by kernel_rfl) (by kernel_rfl) rfl trivial ⟨trivial, trivial, (Ctx.subI 4 cv rfl), trivial⟩ (fun _ hC_ => Yl.nilCheck rfl) ?_
      refine WA.take none [] 28 rfl (by kernel_rfl) (by kernel_rfl) rfl trivial ⟨trivial, trivial, (Ctx.subI 4 cv rfl), trivial⟩ (fun _ hC_ => Yl.fieldAddr (i := 4) rfl Try.underlying55 rfl sz3) ?_
      obtain ⟨hk, fN, gf⟩ := ev_setI (P := Try.prog) (ps1 := [R, b]) (ps2 := [h, CH.row p 0 I, CH.row s u L, J, j, l]) (t := 3) 4 [iv bd.Time] (iv bd.Time) cv rfl rfl (ones_of rfl) sz3
      let gN : List Go.Value := [.slice ah an ak, iv 2, iv (wi64 (((y.State.Jobs.getD a.toNat TJob.z).Attempt) + 1)), iv aU, iv bd.Time, .slice aF aI aG, .slice av aB ax, .slice ai ao al, .slice aj ap am]
      let gX : CH := CH.row Z (S + a.toNat * 9) gN
      have gg : Cx [R, b, gX, h, CH.row p 0 I, CH.row s u L, J, j, l] := gf
      refine WA.up1 29 (by kernel_rfl) (Up.skip rfl rfl (fN _ _ _ _ rfl rfl) ⟨trivial, trivial, trivial, trivial⟩ ?_)
      refine WA.take none [] 30 rfl (by kernel_rfl) (by kernel_rfl) rfl trivial ⟨trivial, trivial, trivial, trivial⟩ (fun _ hC_ => Yl.nilCheck rfl) ?_
      refine WA.take none [] 31 rfl (by kernel_rfl) (by kernel_rfl) rfl trivial ⟨trivial, trivial, trivial, trivial⟩ (fun _ hC_ => Yl.fieldAddr (i := 5) rfl Try.underlying55 rfl sz29) ?_
      obtain ⟨hl, fO, gh⟩ := ev_setI (P := Try.prog) (ps1 := [R, b]) (ps2 := [h, CH.row p 0 I, CH.row s u L, J, j, l]) (t := 29) 5 [.slice a0 a6 a5] (.slice a0 a6 a5) gg rfl rfl (ones_of rfl) sz29
      let gO : List Go.Value := [.slice ah an ak, iv 2, iv (wi64 (((y.State.Jobs.getD a.toNat TJob.z).Attempt) + 1)), iv aU, iv bd.Time, .slice a0 a6 a5, .slice av aB ax, .slice ai ao al, .slice aj ap am]
      let gY : CH := CH.row Z (S + a.toNat * 9) gO
      have gi : Cx [R, b, gY, h, CH.row p 0 I, CH.row s u L, J, j, l] := gh
      refine WA.up1 32 (by kernel_rfl) (Up.skip rfl rfl (fO _ _ _ _ rfl rfl) ⟨trivial, trivial, trivial, trivial⟩ ?_)
      refine WA.done (by kernel_rfl) <| W.sr rfl <| WL.run to 3 rfl ?_
      let gP : List Go.Value := [.slice ah an ak, iv 2, iv (wi64 (((y.State.Jobs.getD a.toNat TJob.z).Attempt) + 1)), iv aU, iv bd.Time, .slice a0 a6 a5, .slice none 0 0, .slice ai ao al, .slice aj ap am]
      let ej : CH := CH.row Z (S + a.toNat * 9) gP
      refine WL.st gi 2 6 [.slice none 0 0] rfl rfl rfl rfl (Put.lit 6 rfl) (ones_of rfl) sz29 fun cn (gj : Cx [R, b, ej, h, CH.row p 0 I, CH.row s u L, J, j, l]) => ?_
      refine WL.done <| W.seq <| W.sr rfl <| WL.run to 1 rfl <| WL.ln (E.length : Int) rfl Try.underlying29 (by omega) <| WL.rd to 1 rfl ?_
      obtain ⟨⟨aK, Q⟩, N, H⟩ := bindE H
      refine W.cutM (fun ch cn => ∃ V b1 cc bG aR b2 cd bH aS b3 ce bI aT b4 bw cj b5 bx ck b6 cf bJ c3 b7 bz cl b8 bA cm, Ctx w F D cn V [CH.row s u (Twork.q aK b1 bG cc aw O X b2 bH cd b3 bI ce), aR, aS, aT, CH.row Z (S + a.toNat * 9) (TJob.q Q b4 cj bw b5 ck bx b6 bJ cf b7 cl bz b8 cm bA), c3, b, h, CH.row p 0 I] ∧ CH.le F V ∧ bG = aK.State.Eras.length ∧ Row TEra.K V aR (.slice b1 bG cc) aK.State.Eras ∧ bH = aK.State.Used.length ∧ Row (Kd.int .i64) V aS (.slice b2 bH cd) aK.State.Used ∧ bI = aK.State.Barred.length ∧ Row Kd.bool V aT (.slice b3 bI ce) aK.State.Barred ∧ cj = Q.Payload.length ∧ Q.Payload.length ≤ bw ∧ bw ≤ maxLen ∧ Sl (Kd.int .u8) V V b4 Q.Payload ∧ ck = Q.Workers.length ∧ Q.Workers.length ≤ bx ∧ bx ≤ maxLen ∧ Sl (Kd.int .i64) V V b5 Q.Workers ∧ bJ = Q.Indexes.length ∧ Row (Kd.int .i64) V c3 (.slice b6 bJ cf) Q.Indexes ∧ cl = Q.Votes.length ∧ Q.Votes.length ≤ bz ∧ bz ≤ maxLen ∧ Sl TCast.K V V b7 Q.Votes ∧ cm = Q.Value.length ∧ Q.Value.length ≤ bA ∧ bA ≤ maxLen ∧ Sl (Kd.int .u8) V V b8 Q.Value) ?_ ?_
      ·refine W.block ?_
       obtain ⟨Y, aa, fX, cZ⟩ := Ctx.fzI 0 gj rfl
       replace cZ : Cx [b, ej, h, CH.row p 0 I, CH.row s u L, J, j, l] := cZ
       obtain ⟨fl, fs, di⟩ := Row.fz eZ aa fX
       have e4 := Row.mono T aa
       have e5 := Row.mono U aa
       have e6 := Row.mono au aa
       have gl : Cx [CH.row s u L, J, j, l, ej, CH.emp, b, h, CH.row p 0 I] := cZ.pick [4, 5, 6, 7, 1, 8, 0, 2, 3] rfl
       refine W.loop (fun gs ch cn => ∃ (G : Int) (A : Twork) (B : TJob), ∃ br bB a7 aq bs bC aQ aC bt bD a8 ar a1 aL a9 a2 aM ba b9 cg bK cR a3 aN bb a4 aO bc, Kn ch [(0, .pointer (some ⟨s, u, none⟩)), (6, .pointer (some ⟨Z, S + a.toNat * 9, none⟩)), (93, .slice a0 a6 a5), (94, iv (E.length : Int)), (95, iv G)] ∧ Ctx w F D cn Y [CH.row s u (Twork.q A br a7 bB aw O X bs aQ bC bt a8 bD), aq, aC, ar, CH.row Z (S + a.toNat * 9) (TJob.q B a1 a9 aL a2 ba aM b9 bK cg a3 bb aN a4 bc aO), cR, b, h, CH.row p 0 I] ∧ a7 = A.State.Eras.length ∧ Row TEra.K Y aq (.slice br a7 bB) A.State.Eras ∧ aQ = A.State.Used.length ∧ Row (Kd.int .i64) Y aC (.slice bs aQ bC) A.State.Used ∧ a8 = A.State.Barred.length ∧ Row Kd.bool Y ar (.slice bt a8 bD) A.State.Barred ∧ a9 = B.Payload.length ∧ B.Payload.length ≤ aL ∧ aL ≤ maxLen ∧ Sl (Kd.int .u8) Y Y a1 B.Payload ∧ ba = B.Workers.length ∧ B.Workers.length ≤ aM ∧ aM ≤ maxLen ∧ Sl (Kd.int .i64) Y Y a2 B.Workers ∧ bK = B.Indexes.length ∧ Row (Kd.int .i64) Y cR (.slice b9 bK cg) B.Indexes ∧ bb = B.Votes.length ∧ B.Votes.length ≤ aN ∧ aN ≤ maxLen ∧ Sl TCast.K Y Y a3 B.Votes ∧ bc = B.Value.length ∧ B.Value.length ≤ aO ∧ aO ≤ maxLen ∧ Sl (Kd.int .u8) Y Y a4 B.Value ∧ docket_work_assign.l1 gs E G A B = some (aK, Q)) k ⟨0, y, (⟨(y.State.Jobs.getD a.toNat TJob.z).Payload, 2, wi64 (((y.State.Jobs.getD a.toNat TJob.z).Attempt) + 1), aU, bd.Time, E, ([] : List Int), (y.State.Jobs.getD a.toNat TJob.z).Votes, (y.State.Jobs.getD a.toNat TJob.z).Value⟩ : TJob), aW, aX, aP, J, ad, af, ab, j, ae, ag, ac, l, ah, ak, an, a0, a5, a6, none, 0, 0, CH.emp, ai, al, ao, aj, am, ap, rfl, gl, aY, e6, az, e4, aA, e5, bo, bi, bl, (Sl.mono bf aa aa), fu, fl, fs, di, rfl, (Row.nil _ _), bp, bj, bm, (Sl.mono bg aa aa), bq, bk, bn, (Sl.mono bh aa aa), N⟩ ?_
       clear N
       rintro gs ch cn ⟨G, A, B, br, bB, a7, aq, bs, bC, aQ, aC, bt, bD, a8, ar, a1, aL, a9, a2, aM, ba, b9, cg, bK, cR, a3, aN, bb, a4, aO, bc, fG, c1, dx, df, fE, cx, dy, dg, dz, dp, dt, dj, dA, dq, du, dk, fF, dh, dB, dr, dv, dl, dC, ds, dw, dm, N⟩
       rcases gs with _ | gz
       · exact absurd N (by simp [docket_work_assign.l1])
       rw [docket_work_assign.l1] at N
       apply ks ch fG
       refine W.sr rfl <| WL.rd to 1 rfl <| W.seq ?_
       rcases iteE N with ⟨cE, N⟩ | ⟨cE, N⟩
       ·refine W.cT cE rfl <| W.skip <| W.seq <| W.block <| W.sr rfl ?_
        obtain ⟨g2, N⟩ := guardE N
        obtain ⟨ha, g5, eW, fc⟩ := di (by omega)
        refine WL.val (Yl.elemAddr (i := G) rfl rfl eW Try.underlying29 sz3 (by omega)) ?_
        obtain ⟨g1, fI, fJ⟩ := fc G.toNat _ (getD_some (d := 0) (by omega))
        obtain rfl := fI
        refine WL.val (Yl.load (v := iv (E.getD G.toNat 0)) rfl Try.underlying3 rfl (((c1.fro)).cell (fJ 0 _ rfl))) <| WL.rd to 1 rfl <| W.seq ?_
        let gQ : List Go.Value := TJob.q B a1 a9 aL a2 ba aM b9 bK cg a3 bb aN a4 bc aO
        let bL : List Go.Value := Twork.q A br a7 bB aw O X bs aQ bC bt a8 bD
        let ek : CH := CH.row Z (S + a.toNat * 9) gQ
        refine W.regionA [([14, 17], ek), ([13, 14, 17], CH.row s u bL), ([13, 14, 17], aC)] (by kernel_rfl) ?_
        have cw := Ctx.drewN c1 1
        refine WA.takes [(0, none), (1, none), (2, none), (3, none), (4, some 0), (5, none), (6, none), (7, none), (8, none), (9, some 1), (10, none), (11, none), (12, some 2)] ⟨(Ctx.subI 4 cw rfl), (Ctx.subI 0 cw rfl), (Ctx.subI 2 cw rfl), trivial⟩ (by kernel_rfl) <| WT.run to 4 rfl <| WT.lv 6 rfl rfl rfl Try.underlying29 rfl rfl <| WT.run to 4 rfl <| WT.lv 9 rfl rfl rfl Try.underlying29 rfl rfl <| WT.run to 1 rfl ?_
        obtain ⟨gK, N⟩ := guardE N
        obtain ⟨eI, eh, be, d0⟩ := (Row.sl cx) (by omega)
        refine WT.val rfl (fun _ hC_ => Yl.elemAddr (i := E.getD G.toNat 0) rfl rfl be Try.underlying29 sz3 (by omega)) ?_
        obtain ⟨gJ, eb, cU⟩ := d0 (E.getD G.toNat 0).toNat _ (getD_some (d := 0) (by omega))
        obtain rfl := eb
        refine WT.val rfl (fun _ hC_ => Yl.load (v := iv (A.State.Used.getD (E.getD G.toNat 0).toNat 0)) rfl Try.underlying3 rfl (((show Sub aC _ from hC_)).cell (cU 0 _ rfl))) ?_
        refine WT.done ?_
        obtain ⟨gZ, eJ, g4, aV, g6, d4, ec, co, dN⟩ := ev_lit1' (P := Try.prog) 3 (Kd.int .i64) cw Try.underlying29 ti3 ⟨by decide, by decide⟩ (A.State.Used.getD (E.getD G.toNat 0).toNat 0) (iv (A.State.Used.getD (E.getD G.toNat 0).toNat 0)) rfl
        refine WA.up1 13 (by kernel_rfl) (Up.val rfl rfl rfl (ec _ _ _ rfl) ⟨(Ctx.subI 5 co rfl), trivial, trivial, trivial⟩ ?_)
        obtain ⟨dY, N⟩ := guardE N
        obtain ⟨bN, bP, b0, aJ, g7, d5, ed, el, dO⟩ := ev_append' (P := Try.prog) (cb := eJ) 3 (Kd.int .i64) [aV, CH.row s u bL, aq, aC, ar, ek] [b, h, CH.row p 0 I] co dh d4 (Row.sl dN) (Ctx.subI 0 co rfl) Try.underlying29 ti3 rfl zo3 (by decide) (by decide) (by simpa using dY)
        have bO : Cx [aV, CH.row s u bL, aq, aC, ar, ek, aJ, b, h, CH.row p 0 I] := el
        refine WA.up1 14 (by kernel_rfl) (Up.val rfl rfl rfl (ed _ _ _ _ rfl rfl) ⟨trivial, trivial, trivial, trivial⟩ ?_)
        refine WA.takes [(15, none), (16, none)] ⟨(Ctx.subI 5 bO rfl), (Ctx.subI 1 bO rfl), (Ctx.subI 3 bO rfl), trivial⟩ (by kernel_rfl) <| WT.run to 2 rfl <| WT.done ?_
        obtain ⟨g8, ee, em⟩ := ev_setI (P := Try.prog) (ps1 := [aV, CH.row s u bL, aq, aC, ar]) (ps2 := [aJ, b, h, CH.row p 0 I]) (t := 29) 6 [.slice bN b0 bP] (.slice bN b0 bP) bO rfl rfl (ones_of rfl) sz29
        let gR : List Go.Value := TJob.q B a1 a9 aL a2 ba aM bN b0 bP a3 bb aN a4 bc aO
        let dL : CH := CH.row Z (S + a.toNat * 9) gR
        have cp : Cx [aV, CH.row s u bL, aq, aC, ar, dL, aJ, b, h, CH.row p 0 I] := em
        refine WA.up1 17 (by kernel_rfl) (Up.skip rfl rfl (ee _ _ _ _ rfl rfl) ⟨trivial, trivial, trivial, trivial⟩ ?_)
        refine WA.done (by kernel_rfl) <| W.region rfl ?_
        refine WL.run to 4 rfl <| WL.lv cp 1 9 rfl rfl Try.underlying29 rfl rfl <| WL.run to 1 rfl <| WL.val (Yl.elemAddr (i := E.getD G.toNat 0) rfl rfl be Try.underlying29 sz3 (by omega)) <| WL.val (Yl.load (v := iv (A.State.Used.getD (E.getD G.toNat 0).toNat 0)) rfl Try.underlying3 rfl (((Ctx.subI 3 cp rfl)).cell (cU 0 _ rfl))) <| WL.run to 1 rfl <| WL.val (Yl.elemAddr (i := E.getD G.toNat 0) rfl rfl be Try.underlying29 sz3 (by omega)) ?_
        have d1 : (E.getD G.toNat 0).toNat < A.State.Used.length := by first | omega | (simp only [List.length_set, List.length_replicate] at *; omega)
        let gS : List Go.Value := [iv (wi64 ((A.State.Used.getD (E.getD G.toNat 0).toNat 0) + 1))]
        obtain ⟨cM, g9, ef, en, dP⟩ := ev_store (P := Try.prog) (t := 3) (Kd.int .i64) [aV, CH.row s u bL, aq] [ar, dL, aJ, b, h, CH.row p 0 I] cp cx be (E.getD G.toNat 0).toNat 0 d1 0 (iv (wi64 ((A.State.Used.getD (E.getD G.toNat 0).toNat 0) + 1))) (gS) rfl (ones_of rfl) (Nat.le_of_ble_eq_true rfl) sz3 (wi64 ((A.State.Used.getD (E.getD G.toNat 0).toNat 0) + 1)) (fun _ h_ => rep_whole h_ rfl) ⟨eI, eh + (E.getD G.toNat 0).toNat * 1, none⟩ rfl
        have d6 : aQ = (A.State.Used.set (E.getD G.toNat 0).toNat (wi64 ((A.State.Used.getD (E.getD G.toNat 0).toNat 0) + 1))).length := by rw [List.length_set]; omega
        have eo : Cx [aV, CH.row s u bL, aq, cM, ar, dL, aJ, b, h, CH.row p 0 I] := en
        refine WL.skip (ef _ _ _ _ rfl rfl) <| WL.done <| inB_n <| W.region rfl ?_
        refine WL.rd to 2 rfl ?_
        have ep : Cx [CH.row s u bL, aq, cM, ar, dL, aJ, b, h, CH.row p 0 I] := eo.pick [1, 2, 3, 4, 5, 6, 7, 8, 9] rfl
        exact thenE_n ⟨gz, Nat.lt_succ_self _, wi64 (G + 1), (⟨A.c, (⟨A.State.Eras, A.State.Jobs, A.State.Used.set (E.getD G.toNat 0).toNat (wi64 ((A.State.Used.getD (E.getD G.toNat 0).toNat 0) + 1)), A.State.Barred, A.State.Heads⟩ : TState)⟩ : Twork), (⟨B.Payload, B.State, B.Attempt, B.Epoch, B.Until, B.Workers, B.Indexes ++ [A.State.Used.getD (E.getD G.toNat 0).toNat 0], B.Votes, B.Value⟩ : TJob), br, bB, a7, aq, bs, bC, aQ, cM, bt, bD, a8, ar, a1, aL, a9, a2, aM, ba, bN, bP, b0, aJ, a3, aN, bb, a4, aO, bc, rfl, ep, dx, df, d6, dP, dy, dg, dz, dp, dt, dj, dA, dq, du, dk, d5, dO, dB, dr, dv, dl, dC, ds, dw, dm, N⟩
       refine W.cF cE rfl <| W.exit <| thenE_x <| thenE_x <| inB_here ?_
       cases N
       refine thenE_n ?_
       exact ⟨Y, br, bB, a7, aq, bs, bC, aQ, aC, bt, bD, a8, ar, a1, aL, a9, a2, aM, ba, b9, cg, bK, cR, a3, aN, bb, a4, aO, bc, c1, aa, dx, df, fE, cx, dy, dg, dz, dp, dt, dj, dA, dq, du, dk, fF, dh, dB, dr, dv, dl, dC, ds, dw, dm⟩
      ·rintro ch cn ⟨V, b1, cc, bG, aR, b2, cd, bH, aS, b3, ce, bI, aT, b4, bw, cj, b5, bx, ck, b6, cf, bJ, c3, b7, bz, cl, b8, bA, cm, gk, dE, fv, e0, fw, e1, fx, e2, fy, fh, fm, e7, fA, fi, fo, e8, fB, e3, fC, fj, fp, e9, fD, fk, fq, fa⟩
       refine W.sr rfl <| WL.rd to 1 rfl <| W.ret ?_
       obtain ⟨eH, M, eg, cr⟩ := Ctx.fzI 5 gk rfl
       let dK : List Go.Value := Twork.q aK b1 bG cc aw O X b2 bH cd b3 bI ce
       let gT : List Go.Value := TJob.q Q b4 cj bw b5 ck bx b6 bJ cf b7 cl bz b8 cm bA
       let f0 : CH := CH.row Z (S + a.toNat * 9) gT
       replace cr : Cx [CH.row s u dK, aR, aS, aT, f0, b, h, CH.row p 0 I] := cr
       obtain ⟨d2, d3, dX⟩ := Row.fz e3 M eg
       have dQ := Row.mono e0 M
       have dR := Row.mono e1 M
       have dS := Row.mono e2 M
       have eq : Cx [b, f0, h, CH.row s u dK, aR, aS, aT, CH.row p 0 I] := cr.pick [5, 4, 6, 0, 1, 2, 3, 7] rfl
       obtain ⟨cN, er, dT⟩ := Row.unfoc (x := Q) aD (CH.le_trans dE M) (TJob.mk' _ Q b4 bw cj b5 bx ck b6 cf bJ b7 bz cl b8 bA cm fy fh fm (Sl.mono e7 M M) fA fi fo (Sl.mono e8 M M) fB d2 d3 dX fC fj fp (Sl.mono e9 M M) fD fk fq (Sl.mono fa M M)) eq
       have d7 : O = (y.State.Jobs.set a.toNat Q).length := by rw [List.length_set]; omega
       have es : Cx [cN, CH.row s u dK, aR, aS, aT, CH.row p 0 I] := er
       have et : Cx [CH.row s u dK, aR, cN, aS, aT] := es.pick [1, 2, 0, 3, 4] rfl
       simp only [Option.some.injEq, Prod.mk.injEq] at H
       obtain ⟨eK, eL⟩ := H
       subst eK eL
       exact post_r (resE1 rfl rfl) ⟨eH, b1, cc, bG, aR, aw, X, O, cN, b2, cd, bH, aS, b3, ce, bI, aT, rfl, (CH.le_trans dE M), et, fv, dQ, d7, dT, fw, dR, fx, dS⟩
     refine W.nT cD rfl <| W.sr rfl <| WL.rd to 2 rfl <| W.ret <| thenE_r ?_
     have eu : Cx [b, bM, h, R, CH.row p 0 I, CH.row s u L, J, j, l] := cX.pick [1, 2, 3, 0, 4, 5, 6, 7, 8] rfl
     obtain ⟨cO, ew, dU⟩ := Row.unfoc (x := (y.State.Jobs.getD a.toNat TJob.z)) aD (CH.le_refl _) (TJob.mk' _ (y.State.Jobs.getD a.toNat TJob.z) ah ak an aF aG aI av ax aB ai al ao aj am ap bo bi bl bf bY bU bW bQ bZ bV bX bR bp bj bm bg bq bk bn bh) eu
     have d8 : O = (y.State.Jobs.set a.toNat (y.State.Jobs.getD a.toNat TJob.z)).length := by rw [List.length_set]; omega
     have ex : Cx [cO, R, CH.row p 0 I, CH.row s u L, J, j, l] := ew
     have ey : Cx [CH.row s u L, J, cO, j, l] := ex.pick [3, 4, 0, 5, 6] rfl
     simp only [Option.some.injEq, Prod.mk.injEq] at H
     obtain ⟨eM, eN⟩ := H
     subst eM eN
     exact post_r (resE1 rfl rfl) ⟨F, aW, aX, aP, J, aw, X, O, cO, ad, af, ab, j, ae, ag, ac, l, rfl, (CH.le_refl _), ey, aY, au, d8, dU, az, T, aA, U⟩
    refine W.nT cB rfl <| W.sr rfl <| WL.rd to 1 rfl <| W.ret <| inB_r <| thenE_r ?_
    obtain ⟨cP, ez, dV⟩ := Row.unfoc (x := (y.State.Jobs.getD a.toNat TJob.z)) aD (CH.le_refl _) (TJob.mk' _ (y.State.Jobs.getD a.toNat TJob.z) ah ak an aF aG aI av ax aB ai al ao aj am ap bo bi bl bf bY bU bW bQ bZ bV bX bR bp bj bm bg bq bk bn bh) bu
    have d9 : O = (y.State.Jobs.set a.toNat (y.State.Jobs.getD a.toNat TJob.z)).length := by rw [List.length_set]; omega
    have eA : Cx [cP, CH.row p 0 I, CH.row s u L, J, j, l] := ez
    have eB : Cx [CH.row s u L, J, cP, j, l] := eA.pick [2, 3, 0, 4, 5] rfl
    simp only [Option.some.injEq, Prod.mk.injEq] at H
    obtain ⟨eO, eP⟩ := H
    subst eO eP
    exact post_r (resE1 rfl rfl) ⟨F, aW, aX, aP, J, aw, X, O, cP, ad, af, ab, j, ae, ag, ac, l, rfl, (CH.le_refl _), eB, aY, au, d9, dV, az, T, aA, U⟩
   refine W.nT cA rfl <| W.sr rfl <| WL.rd to 2 rfl <| W.ret <| inB_r <| thenE_r ?_
   obtain ⟨cQ, eC, dW⟩ := Row.unfoc (x := (y.State.Jobs.getD a.toNat TJob.z)) aD (CH.le_refl _) (TJob.mk' _ (y.State.Jobs.getD a.toNat TJob.z) ah ak an aF aG aI av ax aB ai al ao aj am ap bo bi bl bf bY bU bW bQ bZ bV bX bR bp bj bm bg bq bk bn bh) bu
   have ea : O = (y.State.Jobs.set a.toNat (y.State.Jobs.getD a.toNat TJob.z)).length := by rw [List.length_set]; omega
   have eD : Cx [cQ, CH.row p 0 I, CH.row s u L, J, j, l] := eC
   have eE : Cx [CH.row s u L, J, cQ, j, l] := eD.pick [2, 3, 0, 4, 5] rfl
   simp only [Option.some.injEq, Prod.mk.injEq] at H
   obtain ⟨eQ, eR⟩ := H
   subst eQ eR
   exact post_r (resE1 rfl rfl) ⟨F, aW, aX, aP, J, aw, X, O, cQ, ad, af, ab, j, ae, ag, ac, l, rfl, (CH.le_refl _), eE, aY, au, ea, dW, az, T, aA, U⟩
  ·refine WL.val (Yl.assign (v := .pointer none) (elp_no cz bE)) <| WL.rd to 1 rfl <| W.seq <| W.block <| W.sr rfl <| WL.rd to 3 rfl ?_
   rcases iteE H with ⟨ci, H⟩ | ⟨ci, H⟩
   ·refine W.nF ci rfl <| W.sr rfl <| WL.run to 1 rfl ?_
    obtain ⟨dZ, H⟩ := guardE H
    exact dZ.elim
   refine W.nT ci rfl <| W.sr rfl <| WL.rd to 2 rfl <| W.ret <| inB_r <| thenE_r ?_
   have eF : Cx [CH.row s u L, J, aE, j, l] := dM.pick [1, 2, 3, 4, 5] rfl
   simp only [Option.some.injEq, Prod.mk.injEq] at H
   obtain ⟨eS, eT⟩ := H
   subst eS eT
   exact post_r (resE1 rfl rfl) ⟨F, aW, aX, aP, J, aw, X, O, aE, ad, af, ab, j, ae, ag, ac, l, rfl, (CH.le_refl _), eF, aY, au, bE, ay, az, T, aA, U⟩
 refine W.cF bS rfl <| W.skip <| W.seq <| W.block <| W.sr rfl <| WL.rd to 3 rfl <| W.nT bS rfl <| W.sr rfl <| WL.rd to 2 rfl ?_
 refine W.ret <| inB_r <| thenE_r ?_
 have eG : Cx [CH.row s u L, J, aE, j, l] := c9.pick [1, 2, 3, 4, 5] rfl
 simp only [Option.some.injEq, Prod.mk.injEq] at H
 obtain ⟨eU, eV⟩ := H
 subst eU eV
 exact post_r (resE1 rfl rfl) ⟨F, aW, aX, aP, J, aw, X, O, aE, ad, af, ab, j, ae, ag, ac, l, rfl, (CH.le_refl _), eG, aY, au, bE, ay, az, T, aA, U⟩
def docket_what.f (k : Nat) (a : Int) : Option Int := if a = 1 then (some 37) else (if a = 2 then (some 38) else (if a = 3 then (some 39) else (if a = 4 then (some 40) else (if a = 5 then (some 41) else (some 42)))))
theorem docket_what.calls (k w F) (m : Int) (hp : Pre w F [])  (j : Int) (H : docket_what.f k m = some j) :
    Calls Try.prog 31 #[iv m] w fun e w' => e = .returned (fnV j) ∧ (∃ l, w' = w.drewN l) := by
 have C := Ctx.start hp
 generalize domL [] = D at C
 have a : ∃ l, w = w.drewN l := ⟨0, rfl⟩
 unfold docket_what.f at H
 refine Calls.ofW Try.func31 rfl (by simp [Try.ntmps31]) <| W.sr rfl <| WL.rd to 1 rfl <| W.seq <| W.sr rfl <| WL.rd to 1 rfl <| W.block <| W.sr rfl <| WL.rd to 2 rfl ?_
 rcases iteE H with ⟨b, H⟩ | ⟨b, H⟩
 ·refine W.cT b rfl <| W.sr rfl <| WL.rd to 1 rfl <| W.ret <| inB_r <| thenE_r ?_
  have r := Option.some.inj H
  subst r
  exact post_r (resE1 (t := 2) rfl ((show _ = Value.func (.func 37) #[] #[] from rfl).trans (fnV_eq 37).symm)) ⟨rfl, a⟩
 refine W.cF b rfl <| W.sr rfl <| WL.rd to 2 rfl ?_
 rcases iteE H with ⟨d, H⟩ | ⟨d, H⟩
 ·refine W.cT d rfl <| W.sr rfl <| WL.rd to 1 rfl <| W.ret <| inB_r <| thenE_r ?_
  have s := Option.some.inj H
  subst s
  exact post_r (resE1 (t := 2) rfl ((show _ = Value.func (.func 38) #[] #[] from rfl).trans (fnV_eq 38).symm)) ⟨rfl, a⟩
 refine W.cF d rfl <| W.sr rfl <| WL.rd to 2 rfl ?_
 rcases iteE H with ⟨g, H⟩ | ⟨g, H⟩
 ·refine W.cT g rfl <| W.sr rfl <| WL.rd to 1 rfl <| W.ret <| inB_r <| thenE_r ?_
  have u := Option.some.inj H
  subst u
  exact post_r (resE1 (t := 2) rfl ((show _ = Value.func (.func 39) #[] #[] from rfl).trans (fnV_eq 39).symm)) ⟨rfl, a⟩
 refine W.cF g rfl <| W.sr rfl <| WL.rd to 2 rfl ?_
 rcases iteE H with ⟨h, H⟩ | ⟨h, H⟩
 ·refine W.cT h rfl <| W.sr rfl <| WL.rd to 1 rfl <| W.ret <| inB_r <| thenE_r ?_
  have v := Option.some.inj H
  subst v
  exact post_r (resE1 (t := 2) rfl ((show _ = Value.func (.func 40) #[] #[] from rfl).trans (fnV_eq 40).symm)) ⟨rfl, a⟩
 refine W.cF h rfl <| W.sr rfl <| WL.rd to 2 rfl ?_
 rcases iteE H with ⟨i, H⟩ | ⟨i, H⟩
 ·refine W.cT i rfl <| W.sr rfl <| WL.rd to 1 rfl <| W.ret <| inB_r <| thenE_r ?_
  have o := Option.some.inj H
  subst o
  exact post_r (resE1 (t := 2) rfl ((show _ = Value.func (.func 41) #[] #[] from rfl).trans (fnV_eq 41).symm)) ⟨rfl, a⟩
 refine W.cF i rfl <| W.skip <| inB_n <| W.sr rfl <| WL.rd to 1 rfl <| W.ret ?_
 have p := Option.some.inj H
 subst p
 exact post_r (resE1 (t := 2) rfl ((show _ = Value.func (.func 42) #[] #[] from rfl).trans (fnV_eq 42).symm)) ⟨rfl, a⟩
def docket_Apply.f (k : Nat) (d : TConfig) (x : TState) (e : TRecord) : Option (TState × Int) := ((docket_Check.f k d).bind fun y => if y = 0 then ((docket_right.f k d x).bind fun A => if A = true then ((docket_may.f k e).bind fun B => some (!B)) else (some true)) else (some true)).bind fun C => if C = true then (some ((⟨([] : List TEra), ([] : List TJob), ([] : List Int), ([] : List Bool), 0⟩ : TState), 1)) else ((docket_clone.f k x).bind fun a => ((docket_what.f k e.Kind).bind fun b => if b = 37 then ((docket_work_epoch.f k (⟨d, a⟩ : Twork) e).bind fun ⟨h, i⟩ => some (h, i)) else (if b = 38 then ((docket_work_submit.f k (⟨d, a⟩ : Twork) e).bind fun ⟨j, l⟩ => some (j, l)) else (if b = 39 then ((docket_work_assign.f k (⟨d, a⟩ : Twork) e).bind fun ⟨m, o⟩ => some (m, o)) else (if b = 40 then ((docket_work_vote.f k (⟨d, a⟩ : Twork) e).bind fun ⟨p, r⟩ => some (p, r)) else (if b = 41 then ((docket_work_expire.f k (⟨d, a⟩ : Twork) e).bind fun ⟨s, t⟩ => some (s, t)) else (if b = 42 then ((docket_work_head.f k (⟨d, a⟩ : Twork) e).bind fun ⟨u, v⟩ => some (u, v)) else (if False then (none) else none))))))).bind fun ⟨g, w⟩ => if g = 0 then (some (w.State, 0)) else (some ((⟨([] : List TEra), ([] : List TJob), ([] : List Int), ([] : List Bool), 0⟩ : TState), g)))
theorem docket_Apply.calls (k w F) (E : TConfig) (bz bw cM bA bx a0 aX aO a1 aY aP a2) (ac : TState) (aq ad ar) (az : TRecord) (hp : Pre w F []) (e3 : cM = ac.Eras.length) (e1 : ac.Eras.length ≤ bw) (e2 : bw ≤ maxLen) (e0 : Sl TEra.K F F bz ac.Eras) (cJ : a0 = ac.Jobs.length) (cC : ac.Jobs.length ≤ bx) (cG : bx ≤ maxLen) (cz : Sl TJob.K F F bA ac.Jobs) (cK : a1 = ac.Used.length) (cD : ac.Used.length ≤ aO) (cH : aO ≤ maxLen) (cA : Sl (Kd.int .i64) F F aX ac.Used) (cL : a2 = ac.Barred.length) (cE : ac.Barred.length ≤ aP) (cI : aP ≤ maxLen) (cB : Sl Kd.bool F F aY ac.Barred) (U : az.Nonce.length = 32) (aI : ar = az.Data.length) (aG : az.Data.length ≤ ad) (aH : ad ≤ maxLen) (aF : Sl (Kd.int .u8) F F aq az.Data) (au : TState) (e5 : Int) (H : docket_Apply.f k E ac az = some (au, e5)) :
    Calls Try.prog 14 #[.agg (List.toArray (TConfig.q E)), .agg (List.toArray (TState.q ac bz cM bw bA a0 bx aX a1 aO aY a2 aP)), .agg (List.toArray ((TRecord.q az aq ar ad)))] w fun e w' => ∃ F' bb bh aT bs bc bi aU bt bd bj aV bu be bk aW bv, e = .returned (.tuple #[(.agg (List.toArray (TState.q au bb aT bh bc aU bi bd aV bj be aW bk))), (iv e5)]) ∧ CH.le F F' ∧ Ctx w F (domL []) w' F' [bs, bt, bu, bv] ∧ aT = au.Eras.length ∧ Row TEra.K F' bs (.slice bb aT bh) au.Eras ∧ aU = au.Jobs.length ∧ Row TJob.K F' bt (.slice bc aU bi) au.Jobs ∧ aV = au.Used.length ∧ Row (Kd.int .i64) F' bu (.slice bd aV bj) au.Used ∧ aW = au.Barred.length ∧ Row Kd.bool F' bv (.slice be aW bk) au.Barred := by
 have C := Ctx.start hp
 generalize hD : domL [] = D at C ⊢
 unfold docket_Apply.f at H
 refine Calls.ofW Try.func14 rfl (by simp [Try.ntmps14]) <| W.sr rfl ?_
 let x : List Go.Value := TConfig.q E
 obtain ⟨i, f0, fs, fG⟩ := ev_box (P := Try.prog) 23 (.agg (List.toArray x)) x C rfl
 refine WL.val (fs _ _ _ rfl) ?_
 let y : List Go.Value := TState.q ac bz cM bw bA a0 bx aX a1 aO aY a2 aP
 obtain ⟨j, f1, ft, fH⟩ := ev_box (P := Try.prog) 32 (.agg (List.toArray y)) y fG rfl
 refine WL.val (ft _ _ _ rfl) ?_
 let A : List Go.Value := TRecord.q az aq ar ad
 obtain ⟨l, f2, fu, fI⟩ := ev_box (P := Try.prog) 46 (.agg (List.toArray A)) A fH rfl
 refine WL.val (fu _ _ _ rfl) ?_
 let u : List Go.Value := [.slice none 0 0, .slice none 0 0, .slice none 0 0, .slice none 0 0, iv 0]
 obtain ⟨h, f3, fv, b1⟩ := ev_alloc (P := Try.prog) (e := 32) u fI zr32 rfl
 refine WL.val (fv _ _) <| WL.rd to 1 rfl <| W.seq <| W.seq ?_
 obtain ⟨fU, v, H⟩ := bindE H
 refine W.cutM (fun aE aa => Kn aE [(3, .pointer (some ⟨i, 0, none⟩)), (4, .pointer (some ⟨j, 0, none⟩)), (5, .pointer (some ⟨l, 0, none⟩)), (6, .pointer (some ⟨h, 0, none⟩)), (23, .bool fU)] ∧ Ctx w F D aa F [CH.row h 0 u, CH.row l 0 A, CH.row j 0 y, CH.row i 0 x]) ?_ ?_
 ·refine W.region rfl ?_
  refine WL.la b1 3 rfl rfl Try.underlying23 rfl sz23 ?_
  obtain ⟨fR, fm, v⟩ := bindE v
  refine WL.c0 b1 (docket_Check.calls k _ F E b1.pre0  fR fm) (ne.fr rfl rfl) fun aa aZ => ?_
  refine WL.run to 2 rfl ?_
  rcases iteE v with ⟨a8, v⟩ | ⟨a8, v⟩
  ·refine WL.kn 13 (congrArg Value.bool (ndec_t a8)) <| WL.laG aZ 3 rfl rfl rfl rfl Try.underlying23 rfl sz23 <| WL.laG aZ 2 rfl rfl rfl rfl Try.underlying32 rfl sz32 <| WL.on rfl rfl ?_
   obtain ⟨fS, fo, v⟩ := bindE v
   refine WL.c0 aZ (docket_right.calls k _ F E bz bw cM bA bx a0 aX aO a1 aY aP a2 ac aZ.pre0 e3 e1 e2 e0 cJ cC cG cz cK cD cH cA cL cE cI cB fS fo) (ne.fr rfl rfl) fun aa bg => ?_
   refine WL.run to 3 rfl ?_
   rcases iteE v with ⟨a9, v⟩ | ⟨a9, v⟩
   ·refine WL.kn 19 (congrArg Value.bool (nb_t a9)) <| WL.laG bg 1 rfl rfl rfl rfl Try.underlying46 rfl (sz_of sz46 (len_app rfl (len_app (len_map U) rfl))) <| WL.on rfl rfl ?_
    obtain ⟨fT, fp, v⟩ := bindE v
    refine WL.c0 bg (docket_may.calls k _ F aq ad ar az bg.pre0 U aI aG aH aF fT fp) (ne.fr rfl rfl) fun aa fJ => ?_
    refine WL.rd to 2 rfl ?_
    cases v
    refine thenE_n ?_
    exact ⟨rfl, fJ⟩
   refine WL.kn 19 (congrArg Value.bool (nb_f a9)) <| WL.offs 3 19 false rfl rfl <| WL.rd to 1 rfl ?_
   cases v
   refine thenE_n ?_
   exact ⟨rfl, bg⟩
  refine WL.kn 13 (congrArg Value.bool (ndec_f a8)) <| WL.offs 4 13 false rfl rfl <| WL.run to 2 rfl <| WL.offs 3 19 false rfl rfl <| WL.rd to 1 rfl ?_
  cases v
  refine thenE_n ?_
  exact ⟨rfl, aZ⟩
 ·rintro aE aa ⟨fq, eY⟩
  apply ks aE fq
  rcases iteE H with ⟨ba, H⟩ | ⟨ba, H⟩
  ·refine W.condT (congrArg Value.bool ba) <| W.sr rfl <| WL.val (Yl.build (places := [(0, 1), (1, 1), (2, 1), (3, 1), (4, 1)]) (cs := List.toArray u) Try.underlying32 zr32 (pl32 _ Try.underlying32) (partsB .nil) rfl) <| WL.st eY 0 0 u rfl rfl rfl rfl (Put.lit 0 rfl) (ones_of rfl) sz32 fun aa (eZ : Cx [CH.row h 0 u, CH.row l 0 A, CH.row j 0 y, CH.row i 0 x]) => ?_
   refine WL.rd to 1 rfl <| W.ret <| thenE_r ?_
   have fK : Cx [CH.emp, CH.emp, CH.emp, CH.emp] := eZ.pick [4, 4, 4, 4] rfl
   simp only [Option.some.injEq, Prod.mk.injEq] at H
   obtain ⟨fL, fM⟩ := H
   subst fL fM
   exact post_r (resET rfl ((.cell rfl (run_loadVA2 (g := h) (off := 0) (o := 0) (cs := u) (us := u) Try.underlying32 rfl sz32 (Ctx.subI 0 eZ rfl) rfl) (.tmp rfl .nil))) rfl) ⟨F, none, 0, 0, CH.emp, none, 0, 0, CH.emp, none, 0, 0, CH.emp, none, 0, 0, CH.emp, rfl, (CH.le_refl _), fK, rfl, (Row.nil _ _), rfl, (Row.nil _ _), rfl, (Row.nil _ _), rfl, (Row.nil _ _)⟩
  refine W.condF (congrArg Value.bool (Bool.eq_false_iff.2 ba)) <| W.skip <| W.seq <| W.regionA [([4], CH.row i 0 x), ([2, 4], CH.row j 0 y)] (by kernel_rfl) ?_
  have aQ := Ctx.drewN eY 1
  refine WA.takes [(0, some 0), (1, some 1)] ⟨(Ctx.subI 3 aQ rfl), (Ctx.subI 2 aQ rfl), trivial⟩ (by kernel_rfl) <| WT.val rfl (fun _ hC_ => Yl.loadVA (g := i) (off := 0) (o := 0) (cs := x) (us := x) rfl Try.underlying23 rfl sz23 (show Sub (CH.row i 0 x) _ from hC_) rfl) ?_
  refine WT.val rfl (fun _ hC_ => Yl.loadVA (g := j) (off := 0) (o := 0) (cs := y) (us := y) rfl Try.underlying32 rfl sz32 (show Sub (CH.row j 0 y) _ from hC_) rfl) ?_
  refine WT.done ?_
  obtain ⟨I, ef, H⟩ := bindE H
  refine WA.up1 2 (by kernel_rfl) (Up.callH rfl (by kernel_rfl) rfl (docket_clone.calls k _ F bz bw cM bA bx a0 aX aO a1 aY aP a2 ac aQ.pre0 e3 e1 e2 e0 cJ cC cG cz cK cD cH cA cL cE cI cB I ef) (ne.fr rfl rfl) ?_)
  rintro a7 aa ⟨ab, J, Q, V, m, L, R, X, p, M, S, Y, r, N, T, Z, s, rfl, t, e6, am, ai, an, aj, ao, ak, ap, al⟩
  have aR : Cx [m, p, r, s, CH.row h 0 u, CH.row l 0 A, CH.row j 0 y, CH.row i 0 x] := Ctx.call0 aQ e6
  refine ⟨_, rfl, ⟨(Ctx.subI 7 aR rfl), trivial, trivial⟩, ?_⟩
  refine WA.takes [(3, none)] ⟨(Ctx.subI 7 aR rfl), (Ctx.subI 6 aR rfl), trivial⟩ (by kernel_rfl) ?_
  let aN : List Go.Value := [iv E.Faulty, iv E.Workers, iv E.Height, iv E.Bits, iv E.Jobs, iv E.Term, iv E.Heads, .slice J V Q, .slice L X R, .slice M Y S, .slice N Z T, iv I.Heads]
  let fV : List Go.Value := TState.q I J V Q L X R M Y S N Z T
  refine WT.val rfl (fun _ hC_ => Yl.build (places := [(0, 7), (7, 5)]) (cs := List.toArray aN) Try.underlying75 zr75 (pl75 _ Try.underlying75) (partsB (.cons rfl (.cons rfl .nil))) (Fills.run (a := [iv 0, iv 0, iv 0, iv 0, iv 0, iv 0, iv 0, .slice none 0 0, .slice none 0 0, .slice none 0 0, .slice none 0 0, iv 0]) (c := [iv E.Faulty, iv E.Workers, iv E.Height, iv E.Bits, iv E.Jobs, iv E.Term, iv E.Heads, .slice J V Q, .slice L X R, .slice M Y S, .slice N Z T, iv I.Heads]) (.put (us := x) rfl rfl rfl (Put.lit 0 rfl) (.put (us := fV) rfl rfl rfl (Put.lit 7 rfl) .nil)))) ?_
  refine WT.done ?_
  obtain ⟨d, fZ, eR, a4⟩ := ev_box (P := Try.prog) 75 (.agg (List.toArray aN)) aN aR rfl
  refine WA.up1 4 (by kernel_rfl) (Up.val rfl rfl rfl (eR _ _ _ rfl) ⟨trivial, trivial, trivial⟩ ?_)
  refine WA.takes [(5, none)] ⟨(Ctx.subI 8 a4 rfl), (Ctx.subI 7 a4 rfl), trivial⟩ (by kernel_rfl) <| WT.run to 1 rfl <| WT.done <| WA.done (by kernel_rfl) <| W.seq <| W.seq ?_
  obtain ⟨⟨fF, G⟩, b, H⟩ := bindE H
  refine W.cutM (fun aE aa => ∃ O av aA ae aJ aw aB af aK ax aC ag aL ay aD ah aM, Kn aE [(6, .pointer (some ⟨h, 0, none⟩)), (8, .pointer (some ⟨d, 0, none⟩)), (9, iv fF)] ∧ Ctx w F D aa O [CH.row d 0 (Twork.q G av ae aA aw af aB ax ag aC ay ah aD), aJ, aK, aL, aM, CH.row h 0 u, CH.row l 0 A, CH.row j 0 y, CH.row i 0 x] ∧ CH.le ab O ∧ ae = G.State.Eras.length ∧ Row TEra.K O aJ (.slice av ae aA) G.State.Eras ∧ af = G.State.Jobs.length ∧ Row TJob.K O aK (.slice aw af aB) G.State.Jobs ∧ ag = G.State.Used.length ∧ Row (Kd.int .i64) O aL (.slice ax ag aC) G.State.Used ∧ ah = G.State.Barred.length ∧ Row Kd.bool O aM (.slice ay ah aD) G.State.Barred) ?_ ?_
  ·refine W.regionA [([5], CH.row l 0 A)] (by kernel_rfl) ?_
   have a6 := Ctx.drewN a4 1
   refine WA.takes [(0, none), (1, some 0), (3, none), (4, some 0)] ⟨(Ctx.subI 6 a6 rfl), trivial⟩ (by kernel_rfl) <| WT.run to 1 rfl <| WT.lv 0 rfl rfl rfl Try.underlying3 rfl rfl <| WT.run to 1 rfl <| WT.val rfl (fun _ hC_ => Yl.loadVA (g := l) (off := 0) (o := 0) (cs := A) (us := A) rfl Try.underlying46 rfl (sz_of sz46 (len_app rfl (len_app (len_map U) rfl))) (show Sub (CH.row l 0 A) _ from hC_) (take_all _)) ?_
   refine WT.done ?_
   obtain ⟨fx, eg, b⟩ := bindE b
   refine WA.up1 2 (by kernel_rfl) (Up.callH rfl (by kernel_rfl) rfl (docket_what.calls k _ ab az.Kind a6.pre0  fx eg) (ne.fr rfl rfl) ?_)
   rintro a7 aa ⟨rfl, ⟨fw, rfl⟩⟩
   have B := Ctx.drewN a6 fw
   refine ⟨_, rfl, ⟨(Ctx.subI 6 B rfl), trivial⟩, ?_⟩
   rcases iteE b with ⟨bl, b⟩ | ⟨bl, b⟩
   ·obtain ⟨⟨fy, dD⟩, eh, b⟩ := bindE b
    refine WA.up1 5 (by kernel_rfl) (Up.callH rfl (by kernel_rfl) rfl (docket_work_epoch.calls k _ ab d 0 J Q V m L R X p M S Y r N T Z s (⟨E, I⟩ : Twork) aq ad ar az (Ctx.pre (qs := [CH.row d 0 aN, m, p, r, s]) (rest := [CH.row h 0 u, CH.row l 0 A, CH.row j 0 y, CH.row i 0 x]) B) am ai an aj ao ak ap al U aI aG aH (Sl.mono aF t t) fy dD eh) (Yenter.fnT (fnV_of 37 bl) Try.func37 (by kernel_rfl) rfl (argsE (.cons rfl (.cons rfl .nil)))) ?_)
    rintro a7 aa ⟨fe, bB, b9, cN, dd, bC, ca, cO, de, bD, cb, cP, df, bE, cc, cQ, dg, rfl, eS, e7, er, dQ, es, dR, et, dS, eu, dT⟩
    let fW : List Go.Value := Twork.q dD bB cN b9 bC cO ca bD cP cb bE cQ cc
    have b2 : Cx [CH.row d 0 fW, dd, de, df, dg, CH.row h 0 u, CH.row l 0 A, CH.row j 0 y, CH.row i 0 x] := Ctx.call (qs := [CH.row d 0 aN, m, p, r, s]) (rest := [CH.row h 0 u, CH.row l 0 A, CH.row j 0 y, CH.row i 0 x]) B e7
    refine ⟨_, rfl, ⟨trivial, trivial⟩, ?_⟩
    refine WA.takes [(6, none)] ⟨(Ctx.subI 6 b2 rfl), trivial⟩ (by kernel_rfl) <| WT.run to 1 rfl <| WT.done <| WA.done (by kernel_rfl) ?_
    cases b
    refine thenE_n ?_
    exact ⟨fe, bB, b9, cN, dd, bC, ca, cO, de, bD, cb, cP, df, bE, cc, cQ, dg, rfl, b2, eS, er, dQ, es, dR, et, dS, eu, dT⟩
   ·rcases iteE b with ⟨bm, b⟩ | ⟨bm, b⟩
    ·obtain ⟨⟨fA, dE⟩, ei, b⟩ := bindE b
     refine WA.up1 5 (by kernel_rfl) (Up.callH rfl (by kernel_rfl) rfl (docket_work_submit.calls k _ ab d 0 J Q V m L R X p M S Y r N T Z s (⟨E, I⟩ : Twork) aq ad ar az (Ctx.pre (qs := [CH.row d 0 aN, m, p, r, s]) (rest := [CH.row h 0 u, CH.row l 0 A, CH.row j 0 y, CH.row i 0 x]) B) am ai an aj ao ak ap al U aI aG aH (Sl.mono aF t t) fA dE ei) (Yenter.fnT (fnV_of 38 bm) Try.func38 (by kernel_rfl) rfl (argsE (.cons rfl (.cons rfl .nil)))) ?_)
     rintro a7 aa ⟨ff, bG, cd, cR, dh, bH, ce, cS, di, bI, cf, cU, dj, bJ, cg, cV, dk, rfl, eT, e8, ew, dU, ex, dV, ey, dW, ez, dX⟩
     let fX : List Go.Value := Twork.q dE bG cR cd bH cS ce bI cU cf bJ cV cg
     have b3 : Cx [CH.row d 0 fX, dh, di, dj, dk, CH.row h 0 u, CH.row l 0 A, CH.row j 0 y, CH.row i 0 x] := Ctx.call (qs := [CH.row d 0 aN, m, p, r, s]) (rest := [CH.row h 0 u, CH.row l 0 A, CH.row j 0 y, CH.row i 0 x]) B e8
     refine ⟨_, rfl, ⟨trivial, trivial⟩, ?_⟩
     refine WA.takes [(6, none)] ⟨(Ctx.subI 6 b3 rfl), trivial⟩ (by kernel_rfl) <| WT.run to 1 rfl <| WT.done <| WA.done (by kernel_rfl) ?_
     cases b
     refine thenE_n ?_
     exact ⟨ff, bG, cd, cR, dh, bH, ce, cS, di, bI, cf, cU, dj, bJ, cg, cV, dk, rfl, b3, eT, ew, dU, ex, dV, ey, dW, ez, dX⟩
    ·rcases iteE b with ⟨bn, b⟩ | ⟨bn, b⟩
     ·obtain ⟨⟨fB, dF⟩, ej, b⟩ := bindE b
      refine WA.up1 5 (by kernel_rfl) (Up.callH rfl (by kernel_rfl) rfl (docket_work_assign.calls k _ ab d 0 J Q V m L R X p M S Y r N T Z s (⟨E, I⟩ : Twork) aq ad ar az (Ctx.pre (qs := [CH.row d 0 aN, m, p, r, s]) (rest := [CH.row h 0 u, CH.row l 0 A, CH.row j 0 y, CH.row i 0 x]) B) am ai an aj ao ak ap al U aI aG aH (Sl.mono aF t t) fB dF ej) (Yenter.fnT (fnV_of 39 bn) Try.func39 (by kernel_rfl) rfl (argsE (.cons rfl (.cons rfl .nil)))) ?_)
      rintro a7 aa ⟨fg, bK, ch, cW, dl, bL, ci, cX, dm, bM, cj, cY, dp, bN, ck, cZ, dq, rfl, eU, e9, eA, dY, eB, dZ, eC, d0, eD, d1⟩
      let fY : List Go.Value := Twork.q dF bK cW ch bL cX ci bM cY cj bN cZ ck
      have b4 : Cx [CH.row d 0 fY, dl, dm, dp, dq, CH.row h 0 u, CH.row l 0 A, CH.row j 0 y, CH.row i 0 x] := Ctx.call (qs := [CH.row d 0 aN, m, p, r, s]) (rest := [CH.row h 0 u, CH.row l 0 A, CH.row j 0 y, CH.row i 0 x]) B e9
      refine ⟨_, rfl, ⟨trivial, trivial⟩, ?_⟩
      refine WA.takes [(6, none)] ⟨(Ctx.subI 6 b4 rfl), trivial⟩ (by kernel_rfl) <| WT.run to 1 rfl <| WT.done <| WA.done (by kernel_rfl) ?_
      cases b
      refine thenE_n ?_
      exact ⟨fg, bK, ch, cW, dl, bL, ci, cX, dm, bM, cj, cY, dp, bN, ck, cZ, dq, rfl, b4, eU, eA, dY, eB, dZ, eC, d0, eD, d1⟩
     ·rcases iteE b with ⟨bo, b⟩ | ⟨bo, b⟩
      ·obtain ⟨⟨fC, dG⟩, ek, b⟩ := bindE b
       refine WA.up1 5 (by kernel_rfl) (Up.callH rfl (by kernel_rfl) rfl (docket_work_vote.calls k _ ab d 0 J Q V m L R X p M S Y r N T Z s (⟨E, I⟩ : Twork) aq ad ar az (Ctx.pre (qs := [CH.row d 0 aN, m, p, r, s]) (rest := [CH.row h 0 u, CH.row l 0 A, CH.row j 0 y, CH.row i 0 x]) B) am ai an aj ao ak ap al U aI aG aH (Sl.mono aF t t) fC dG ek) (Yenter.fnT (fnV_of 40 bo) Try.func40 (by kernel_rfl) rfl (argsE (.cons rfl (.cons rfl .nil)))) ?_)
       rintro a7 aa ⟨fh, bO, cl, c1, dr, bP, cm, c2, ds, bQ, cn, c3, dt, bR, co, c4, du, rfl, eV, fa, eE, d2, eF, d3, eG, d4, eH, d5⟩
       let fN : List Go.Value := Twork.q dG bO c1 cl bP c2 cm bQ c3 cn bR c4 co
       have b5 : Cx [CH.row d 0 fN, dr, ds, dt, du, CH.row h 0 u, CH.row l 0 A, CH.row j 0 y, CH.row i 0 x] := Ctx.call (qs := [CH.row d 0 aN, m, p, r, s]) (rest := [CH.row h 0 u, CH.row l 0 A, CH.row j 0 y, CH.row i 0 x]) B fa
       refine ⟨_, rfl, ⟨trivial, trivial⟩, ?_⟩
       refine WA.takes [(6, none)] ⟨(Ctx.subI 6 b5 rfl), trivial⟩ (by kernel_rfl) <| WT.run to 1 rfl <| WT.done <| WA.done (by kernel_rfl) ?_
       cases b
       refine thenE_n ?_
       exact ⟨fh, bO, cl, c1, dr, bP, cm, c2, ds, bQ, cn, c3, dt, bR, co, c4, du, rfl, b5, eV, eE, d2, eF, d3, eG, d4, eH, d5⟩
      ·rcases iteE b with ⟨bp, b⟩ | ⟨bp, b⟩
       ·obtain ⟨⟨fD, dH⟩, el, b⟩ := bindE b
        refine WA.up1 5 (by kernel_rfl) (Up.callH rfl (by kernel_rfl) rfl (docket_work_expire.calls k _ ab d 0 J Q V m L R X p M S Y r N T Z s (⟨E, I⟩ : Twork) aq ad ar az (Ctx.pre (qs := [CH.row d 0 aN, m, p, r, s]) (rest := [CH.row h 0 u, CH.row l 0 A, CH.row j 0 y, CH.row i 0 x]) B) am ai an aj ao ak ap al U aI aG aH (Sl.mono aF t t) fD dH el) (Yenter.fnT (fnV_of 41 bp) Try.func41 (by kernel_rfl) rfl (argsE (.cons rfl (.cons rfl .nil)))) ?_)
        rintro a7 aa ⟨fi, bS, cp, c5, dv, bU, cr, c6, dw, bV, ct, c7, dx, bW, cu, c8, dy, rfl, eW, fb, eI, d6, eJ, d7, eK, d8, eL, d9⟩
        let fO : List Go.Value := Twork.q dH bS c5 cp bU c6 cr bV c7 ct bW c8 cu
        have b6 : Cx [CH.row d 0 fO, dv, dw, dx, dy, CH.row h 0 u, CH.row l 0 A, CH.row j 0 y, CH.row i 0 x] := Ctx.call (qs := [CH.row d 0 aN, m, p, r, s]) (rest := [CH.row h 0 u, CH.row l 0 A, CH.row j 0 y, CH.row i 0 x]) B fb
        refine ⟨_, rfl, ⟨trivial, trivial⟩, ?_⟩
        refine WA.takes [(6, none)] ⟨(Ctx.subI 6 b6 rfl), trivial⟩ (by kernel_rfl) <| WT.run to 1 rfl <| WT.done <| WA.done (by kernel_rfl) ?_
        cases b
        refine thenE_n ?_
        exact ⟨fi, bS, cp, c5, dv, bU, cr, c6, dw, bV, ct, c7, dx, bW, cu, c8, dy, rfl, b6, eW, eI, d6, eJ, d7, eK, d8, eL, d9⟩
       ·rcases iteE b with ⟨bq, b⟩ | ⟨bq, b⟩
        ·obtain ⟨⟨fE, dI⟩, em, b⟩ := bindE b
         refine WA.up1 5 (by kernel_rfl) (Up.callH rfl (by kernel_rfl) rfl (docket_work_head.calls k _ ab d 0 J Q V m L R X p M S Y r N T Z s (⟨E, I⟩ : Twork) aq ad ar az (Ctx.pre (qs := [CH.row d 0 aN, m, p, r, s]) (rest := [CH.row h 0 u, CH.row l 0 A, CH.row j 0 y, CH.row i 0 x]) B) am ai an aj ao ak ap al U aI aG aH (Sl.mono aF t t) fE dI em) (Yenter.fnT (fnV_of 42 bq) Try.func42 (by kernel_rfl) rfl (argsE (.cons rfl (.cons rfl .nil)))) ?_)
         rintro a7 aa ⟨fj, bX, cv, c9, dz, bY, cw, da, dA, bZ, cx, db, dB, b0, cy, dc, dC, rfl, eX, fc, eM, ea, eN, eb, eO, ec, eP, ed⟩
         let fP : List Go.Value := Twork.q dI bX c9 cv bY da cw bZ db cx b0 dc cy
         have b7 : Cx [CH.row d 0 fP, dz, dA, dB, dC, CH.row h 0 u, CH.row l 0 A, CH.row j 0 y, CH.row i 0 x] := Ctx.call (qs := [CH.row d 0 aN, m, p, r, s]) (rest := [CH.row h 0 u, CH.row l 0 A, CH.row j 0 y, CH.row i 0 x]) B fc
         refine ⟨_, rfl, ⟨trivial, trivial⟩, ?_⟩
         refine WA.takes [(6, none)] ⟨(Ctx.subI 6 b7 rfl), trivial⟩ (by kernel_rfl) <| WT.run to 1 rfl <| WT.done <| WA.done (by kernel_rfl) ?_
         cases b
         refine thenE_n ?_
         exact ⟨fj, bX, cv, c9, dz, bY, cw, da, dA, bZ, cx, db, dB, b0, cy, dc, dC, rfl, b7, eX, eM, ea, eN, eb, eO, ec, eP, ed⟩
        ·obtain ⟨ee, b⟩ := guardE b
         exact ee.elim
  ·rintro aE aa ⟨O, av, aA, ae, aJ, aw, aB, af, aK, ax, aC, ag, aL, ay, aD, ah, aM, eQ, a5, br, en, dM, eo, dN, ep, dO, eq, dP⟩
   apply ks aE eQ
   refine W.sr rfl <| WL.rd to 2 rfl ?_
   rcases iteE H with ⟨aS, H⟩ | ⟨aS, H⟩
   ·refine W.nF aS rfl <| W.skip <| W.sr rfl <| WL.run to 3 rfl ?_
    let e4 : List Go.Value := Twork.q G av ae aA aw af aB ax ag aC ay ah aD
    let a3 : List Go.Value := TState.q G.State av ae aA aw af aB ax ag aC ay ah aD
    refine WL.val (Yl.loadVA (g := d) (off := 0) (o := 7) (cs := e4) (us := a3) rfl Try.underlying32 rfl sz32 (Ctx.subI 0 a5 rfl) rfl) <| WL.st a5 5 0 a3 rfl rfl rfl rfl (Put.lit 0 rfl) (ones_of rfl) sz32 fun aa (b8 : Cx [CH.row d 0 e4, aJ, aK, aL, aM, CH.row h 0 a3, CH.row l 0 A, CH.row j 0 y, CH.row i 0 x]) => ?_
    refine WL.rd to 1 rfl <| W.ret ?_
    have fd : Cx [aJ, aK, aL, aM] := b8.pick [1, 2, 3, 4] rfl
    simp only [Option.some.injEq, Prod.mk.injEq] at H
    obtain ⟨fk, fl⟩ := H
    subst fk fl
    exact post_r (resET rfl ((.cell rfl (run_loadVA2 (g := h) (off := 0) (o := 0) (cs := a3) (us := a3) Try.underlying32 rfl sz32 (Ctx.subI 5 b8 rfl) rfl) (.tmp rfl .nil))) rfl) ⟨O, av, aA, ae, aJ, aw, aB, af, aK, ax, aC, ag, aL, ay, aD, ah, aM, rfl, (CH.le_trans t br), fd, en, dM, eo, dN, ep, dO, eq, dP⟩
   refine W.nT aS rfl <| W.sr rfl <| WL.val (Yl.build (places := [(0, 1), (1, 1), (2, 1), (3, 1), (4, 1)]) (cs := List.toArray u) Try.underlying32 zr32 (pl32 _ Try.underlying32) (partsB .nil) rfl) <| WL.run to 1 rfl ?_
   let fQ : List Go.Value := Twork.q G av ae aA aw af aB ax ag aC ay ah aD
   refine WL.st a5 5 0 u rfl rfl rfl rfl (Put.lit 0 rfl) (ones_of rfl) sz32 fun aa (bf : Cx [CH.row d 0 fQ, aJ, aK, aL, aM, CH.row h 0 u, CH.row l 0 A, CH.row j 0 y, CH.row i 0 x]) => ?_
   refine WL.rd to 1 rfl <| W.ret <| thenE_r ?_
   have dJ : Cx [CH.emp, CH.emp, CH.emp, CH.emp] := bf.pick [9, 9, 9, 9] rfl
   simp only [Option.some.injEq, Prod.mk.injEq] at H
   obtain ⟨dK, dL⟩ := H
   subst dK dL
   exact post_r (resET rfl ((.cell rfl (run_loadVA2 (g := h) (off := 0) (o := 0) (cs := u) (us := u) Try.underlying32 rfl sz32 (Ctx.subI 5 bf rfl) rfl) (.tmp rfl .nil))) rfl) ⟨O, none, 0, 0, CH.emp, none, 0, 0, CH.emp, none, 0, 0, CH.emp, none, 0, 0, CH.emp, rfl, (CH.le_trans t br), dJ, rfl, (Row.nil _ _), rfl, (Row.nil _ _), rfl, (Row.nil _ _), rfl, (Row.nil _ _)⟩
end Go.Proofs.Ytobdpbnadjkhiaa
