/- Functions of the program: each as a plain function of numbers and lists, and the proof that the program's own comes to it. Nothing is assumed but what each theorem says. -/
import Derived.Test.YtobdpbnadjkhiaaGreatTM9
import Derived.Test.YtobdpbnadjkhiaaGreatTM6
import Derived.Test.YtobdpbnadjkhiaaGreatTM7
import Derived.Test.YtobdpbnadjkhiaaGreatTM2
import Derived.Test.YtobdpbnadjkhiaaGreatTM8
namespace Go.Proofs.YtobdpbnadjkhiaaGreat
open Go.RowKit Go.WG
set_option linter.unusedVariables false
set_option linter.unusedSimpArgs false
set_option maxRecDepth 100000
set_option maxHeartbeats 4000000
def sH.l1 : Nat → Int → Int → sG → bT → Option (sG × bT)
  | 0, _, _, _, _ => none
  | k + 1, b, d, e, a => if d < (rB b) then ((rJ.f k e 1099511627776).bind fun ⟨g, h⟩ => if (a.Workers.length + 1 + (a.Workers.length + 1) / 4 + 192) * 8 ≤ 281474976710656 then ((rJ.f k h 1099511627776).bind fun ⟨i, j⟩ => if (a.Indexes.length + 1 + (a.Indexes.length + 1) / 4 + 192) * 8 ≤ 281474976710656 then (sH.l1 k b (rB (d + 1)) j (⟨a.Payload, a.State, a.Attempt, a.Epoch, a.Until, a.Workers ++ [rB g], a.Indexes ++ [rB i], a.rI, a.Value⟩ : bT)) else none) else none) else (some (e, a))
def sH.l2 : Nat → Int → Int → sG → bT → Option (sG × bT)
  | 0, _, _, _, _ => none
  | k + 1, b, d, e, a => if d < (rB b) then ((rJ.f k e 1099511627776).bind fun ⟨g, h⟩ => (tV.f k h 32).bind fun ⟨i, j⟩ => if (a.rI.length + 1 + (a.rI.length + 1) / 4 + 192) * 32 ≤ 281474976710656 then (sH.l2 k b (rB (d + 1)) j (⟨a.Payload, a.State, a.Attempt, a.Epoch, a.Until, a.Workers, a.Indexes, a.rI ++ [(⟨rB g, i⟩ : rA)], a.Value⟩ : bT)) else none) else (some (e, a))
def sH.f (k : Nat) (A : sG) : Option (bT × sG) := (tV.f k A 64).bind fun ⟨o, p⟩ => (rJ.f k p 1099511627776).bind fun ⟨r, s⟩ => (rJ.f k s 1099511627776).bind fun ⟨t, u⟩ => (rJ.f k u 1099511627776).bind fun ⟨v, w⟩ => (rJ.f k w 1099511627776).bind fun ⟨x, y⟩ => (rJ.f k y 8).bind fun ⟨i, j⟩ => (sH.l1 k i 0 j (⟨o, rB r, rB t, rB v, rB x, ([] : List Int), ([] : List Int), ([] : List rA), ([] : List Int)⟩ : bT)).bind fun ⟨l, m⟩ => (rJ.f k l 8).bind fun ⟨b, d⟩ => (sH.l2 k b 0 d m).bind fun ⟨h, a⟩ => (tV.f k h 32).bind fun ⟨e, g⟩ => some ((⟨a.Payload, a.State, a.Attempt, a.Epoch, a.Until, a.Workers, a.Indexes, a.rI, e⟩ : bT), g)
theorem sH.calls (k w F G I d9 c4 ea) (cu : sG) (hp : Pre w F [CH.row G I [.slice d9 ea c4, iv cu.E]]) (h5 : ea = cu.B.length) (h2 : cu.B.length ≤ c4) (h3 : c4 ≤ maxLen) (h1 : Sl KB F F d9 cu.B) (aC : bT) (c3 : sG) (H : sH.f k cu = some (aC, c3)) :
    Calls Tryz.prog 47 #[.pointer (some ⟨G, I, none⟩)] w fun e w' => ∃ F' de dB cA d0 df dC cB d1 dg dD cC d2 dh dE cD d3 di dF cE d4 dj cw dZ, e = .returned (.agg (List.toArray (bT.q aC de cA dB df cB dC dg cC dD dh cD dE di cE dF))) ∧ CH.le F F' ∧ Ctx w F (sR [CH.row G I [.slice d9 ea c4, iv cu.E]]) w' F' [CH.row G I [.slice dj dZ cw, iv c3.E], d0, d1, d2, d3, d4] ∧ cA = aC.Payload.length ∧ Row KB F' d0 (.slice de cA dB) aC.Payload ∧ cB = aC.Workers.length ∧ Row KI F' d1 (.slice df cB dC) aC.Workers ∧ cC = aC.Indexes.length ∧ Row KI F' d2 (.slice dg cC dD) aC.Indexes ∧ cD = aC.rI.length ∧ Row rA.K F' d3 (.slice dh cD dE) aC.rI ∧ cE = aC.Value.length ∧ Row KB F' d4 (.slice di cE dF) aC.Value ∧ dZ = c3.B.length ∧ c3.B.length ≤ cw ∧ cw ≤ maxLen ∧ Sl KB F' F' dj c3.B := by
 have C := Ctx.start hp
 generalize hD : sR [CH.row G I [.slice d9 ea c4, iv cu.E]] = D at C ⊢
 unfold sH.f at H
 refine Calls.ofW Tryz.func47 rfl (by simp [Tryz.ntmps47]) <| W.sr rfl ?_
 let d : LV := [.slice none 0 0, iv 0, iv 0, iv 0, iv 0, .slice none 0 0, .slice none 0 0, .slice none 0 0, .slice none 0 0]
 obtain ⟨a, io, hL, hO⟩ := sU (P := Tryz.prog) (e := 63) d C Cv rfl
 refine WL.val (hL _ _) <| WL.done <| W.sr rfl ?_
 obtain ⟨b, ip, hM, hP⟩ := sU (P := Tryz.prog) (e := 63) d hO Cv rfl
 refine WL.val (hM _ _) <| WL.done <| W.sr rfl <| WL.run to 1 rfl ?_
 let hN : CH := CH.row G I [.slice d9 ea c4, iv cu.E]
 have gR : Cx [hN, r0 b d, r0 a d] := hP.pick [2, 0, 1] rfl
 obtain ⟨⟨ha, fH⟩, ho, H⟩ := rE H
 refine WL.sI (tV.calls k _ F G I d9 c4 ea cu 64 (gR.pq 1) h5 h2 h3 h1 ha fH ho) (ne.fr rfl rfl) ?_
 rintro b3 T ⟨bN, bW, b6, L, gM, gX, g2, rfl, hQ, hF, hi, hG, hu, hz, hj⟩
 refine ⟨_, rfl, ?_⟩
 let gI : CH := CH.row G I [.slice gM g2 gX, iv fH.E]
 have hR : Cx [gI, L, r0 b d, r0 a d] := Ctx.cn 1 gR hQ
 refine WL.run to 1 rfl ?_
 let gE : LV := [.slice bN b6 bW, iv 0, iv 0, iv 0, iv 0, .slice none 0 0, .slice none 0 0, .slice none 0 0, .slice none 0 0]
 refine WL.st hR 2 0 [.slice bN b6 bW] rfl rfl rfl rfl (Put.lit 0 rfl) (rR rfl) AP fun T (gS : Cx [gI, L, r0 b gE, r0 a d]) => ?_
 refine WL.done <| W.sr rfl <| WL.run to 1 rfl ?_
 obtain ⟨⟨bk, fI⟩, hq, H⟩ := rE H
 refine WL.sI (rJ.calls k _ F G I gM gX g2 fH 1099511627776 (gS.pq 1) hG hu hz hj bk fI hq) (ne.fr rfl rfl) ?_
 rintro b3 T ⟨gN, gY, g3, rfl, hS, hH, hv, hA, hk⟩
 refine ⟨_, rfl, ?_⟩
 let gJ : CH := CH.row G I [.slice gN g3 gY, iv fI.E]
 have hT : Cx [gJ, L, r0 b gE, r0 a d] := Ctx.cn 1 gS hS
 refine WL.val (Yl.conv (m := bk) (r := rB bk) rfl Ab u_3 rfl) <| WL.run to 1 rfl ?_
 let gF : LV := [.slice bN b6 bW, iv (rB bk), iv 0, iv 0, iv 0, .slice none 0 0, .slice none 0 0, .slice none 0 0, .slice none 0 0]
 refine WL.st hT 2 1 [iv (rB bk)] rfl rfl rfl rfl (Put.lit 1 rfl) (rR rfl) sz3 fun T (gT : Cx [gJ, L, r0 b gF, r0 a d]) => ?_
 refine WL.done <| W.sr rfl <| WL.run to 1 rfl ?_
 obtain ⟨⟨bx, fJ⟩, hr, H⟩ := rE H
 refine WL.sI (rJ.calls k _ F G I gN gY g3 fI 1099511627776 (gT.pq 1) hH hv hA hk bx fJ hr) (ne.fr rfl rfl) ?_
 rintro b3 T ⟨gO, gZ, g4, rfl, hU, hI, hw, hB, hl⟩
 refine ⟨_, rfl, ?_⟩
 let gK : CH := CH.row G I [.slice gO g4 gZ, iv fJ.E]
 have hV : Cx [gK, L, r0 b gF, r0 a d] := Ctx.cn 1 gT hU
 refine WL.val (Yl.conv (m := bx) (r := rB bx) rfl Ab u_3 rfl) <| WL.run to 1 rfl ?_
 let gG : LV := [.slice bN b6 bW, iv (rB bk), iv (rB bx), iv 0, iv 0, .slice none 0 0, .slice none 0 0, .slice none 0 0, .slice none 0 0]
 refine WL.st hV 2 2 [iv (rB bx)] rfl rfl rfl rfl (Put.lit 2 rfl) (rR rfl) sz3 fun T (gU : Cx [gK, L, r0 b gG, r0 a d]) => ?_
 refine WL.done <| W.sr rfl <| WL.run to 1 rfl ?_
 obtain ⟨⟨b9, fK⟩, hs, H⟩ := rE H
 refine WL.sI (rJ.calls k _ F G I gO gZ g4 fJ 1099511627776 (gU.pq 1) hI hw hB hl b9 fK hs) (ne.fr rfl rfl) ?_
 rintro b3 T ⟨gP, g0, g5, rfl, hW, hJ, hx, hC, hm⟩
 refine ⟨_, rfl, ?_⟩
 let gL : CH := CH.row G I [.slice gP g5 g0, iv fK.E]
 have hX : Cx [gL, L, r0 b gG, r0 a d] := Ctx.cn 1 gU hW
 refine WL.val (Yl.conv (m := b9) (r := rB b9) rfl Ab u_3 rfl) <| WL.run to 1 rfl ?_
 let d5 : LV := [.slice bN b6 bW, iv (rB bk), iv (rB bx), iv (rB b9), iv 0, .slice none 0 0, .slice none 0 0, .slice none 0 0, .slice none 0 0]
 refine WL.st hX 2 3 [iv (rB b9)] rfl rfl rfl rfl (Put.lit 3 rfl) (rR rfl) sz3 fun T (gV : Cx [gL, L, r0 b d5, r0 a d]) => ?_
 refine WL.done <| W.sr rfl <| WL.run to 1 rfl ?_
 obtain ⟨⟨ce, fL⟩, ht, H⟩ := rE H
 refine WL.sI (rJ.calls k _ F G I gP g0 g5 fK 1099511627776 (gV.pq 1) hJ hx hC hm ce fL ht) (ne.fr rfl rfl) ?_
 rintro b3 T ⟨gQ, g1, g6, rfl, hY, hK, hy, hE, hn⟩
 refine ⟨_, rfl, ?_⟩
 let d7 : CH := CH.row G I [.slice gQ g6 g1, iv fL.E]
 have hZ : Cx [d7, L, r0 b d5, r0 a d] := Ctx.cn 1 gV hY
 refine WL.val (Yl.conv (m := ce) (r := rB ce) rfl Ab u_3 rfl) <| WL.run to 1 rfl ?_
 let c2 : LV := [.slice bN b6 bW, iv (rB bk), iv (rB bx), iv (rB b9), iv (rB ce), .slice none 0 0, .slice none 0 0, .slice none 0 0, .slice none 0 0]
 refine WL.st hZ 2 4 [iv (rB ce)] rfl rfl rfl rfl (Put.lit 4 rfl) (rR rfl) sz3 fun T (gW : Cx [d7, L, r0 b c2, r0 a d]) => ?_
 refine WL.done <| W.sr rfl <| WL.run to 1 rfl ?_
 obtain ⟨⟨b8, c6⟩, gn, H⟩ := rE H
 refine WL.sI (rJ.calls k _ F G I gQ g1 g6 fL 8 (gW.pq 1) hK hy hE hn b8 c6 gn) (ne.fr rfl rfl) ?_
 rintro b3 T ⟨eb, ee, fE, rfl, hg, gs, go, gq, gl⟩
 refine ⟨_, rfl, ?_⟩
 let hb : CH := CH.row G I [.slice eb fE ee, iv c6.E]
 have hh : Cx [hb, L, r0 b c2, r0 a d] := Ctx.cn 1 gW hg
 refine WL.val (Yl.conv (m := b8) (r := rB b8) rfl Ab u_3 rfl) <| WL.rd to 1 rfl <| W.seq <| W.sr rfl <| WL.rd to 1 rfl ?_
 obtain ⟨⟨a7, X⟩, l, H⟩ := rE H
 refine W.vG (fun R T => ∃ bO bn b7 bP bX bp a1 bQ bY bq a2 bR bZ br a3 bS b0 bs a4 bU b1 bt a5, Kn R [(0, .pointer (some ⟨G, I, none⟩)), (2, pt a), (3, pt b)] ∧ Ctx w F D T F [CH.row G I [.slice bO b7 bn, iv a7.E], r0 b (bT.q X bP bp bX bQ bq bY bR br bZ bS bs b0 bU bt b1), a1, a2, a3, a4, a5, r0 a d] ∧ sW KB F bO b7 bn a7.B (oW KB F a1 bP bp bX X.Payload (oW KI F a2 bQ bq bY X.Workers (oW KI F a3 bR br bZ X.Indexes (oW rA.K F a4 bS bs b0 X.rI (bt = X.Value.length ∧ Row KB F a5 (.slice bU bt b1) X.Value)))))) ?_ ?_
 ·refine W.block ?_
  have fN : Cx [hb, r0 b c2, L, CH.emp, CH.emp, CH.emp, CH.emp, r0 a d] := hh.pick [0, 2, 1, 4, 4, 4, 4, 3] rfl
  refine W.loop (fun c5 R T => ∃ (cL : Int) (aJ : sG) (i : bT), ∃ bl aZ bu aD aG ax x bV b2 bv a6 bm bo a0 S aE aH ay y aF aI az A, Kn R [(0, .pointer (some ⟨G, I, none⟩)), (2, pt a), (3, pt b), (4, iv (rB b8)), (5, iv cL)] ∧ Ctx w F D T F [CH.row G I [.slice bl bu aZ, iv aJ.E], r0 b (bT.q i aD ax aG bV bv b2 bm a0 bo aE ay aH aF az aI), x, a6, S, y, A, r0 a d] ∧ sW KB F bl bu aZ aJ.B (bT.oS F i aD ax aG x bV bv b2 a6 bm a0 bo S aE ay aH y aF az aI A (sH.l1 c5 b8 cL aJ i = some (a7, X)))) k ⟨0, c6, (⟨ha, rB bk, rB bx, rB b9, rB ce, ([] : List Int), ([] : List Int), ([] : List rA), ([] : List Int)⟩ : bT), eb, ee, fE, bN, bW, b6, L, none, 0, 0, CH.emp, none, 0, 0, CH.emp, none, 0, 0, CH.emp, none, 0, 0, CH.emp, rfl, fN, gs, go, gq, gl, hF, hi, rfl, (Row.nil _ _), rfl, (Row.nil _ _), rfl, (Row.nil _ _), rfl, (Row.nil _ _), l⟩ ?_
  clear l
  rintro c5 R T ⟨cL, aJ, i, bl, aZ, bu, aD, aG, ax, x, bV, b2, bv, a6, bm, bo, a0, S, aE, aH, ay, y, aF, aI, az, A, gC, ed, dO, dM, dN, dL, dP, dG, gz, dH, gA, dI, dQ, dJ, dR, dK, l⟩
  rcases c5 with _ | cx
  · exact absurd l (by simp [sH.l1])
  rw [sH.l1] at l
  apply ks R gC
  refine W.seq <| W.sr rfl <| WL.rd to 3 rfl ?_
  rcases rT l with ⟨b4, l⟩ | ⟨b4, l⟩
  ·refine W.cT b4 rfl <| W.skip <| W.seq <| W.block <| W.seq ?_
   let cc : LV := bT.q i aD ax aG bV bv b2 bm a0 bo aE ay aH aF az aI
   refine W.uF [([6, 8], r0 b cc)] (by kernel_rfl) ?_
   have ch := Ctx.drewN ed 1
   refine WA.sZ [(0, none), (1, some 0), (2, none)] ⟨(Ctx.rO 1 ch rfl), trivial⟩ (by kernel_rfl) <| WT.run to 1 rfl <| WT.lv 5 rfl rfl rfl tM rfl rfl <| WT.run to 1 rfl <| WT.done ?_
   obtain ⟨⟨aW, cG⟩, eI, l⟩ := rE l
   let hc : CH := CH.row G I [.slice bl bu aZ, iv aJ.E]
   refine WA.up1 3 (by kernel_rfl) (Up.sI rfl (by kernel_rfl) rfl (rJ.calls cx _ F G I bl aZ bu aJ 1099511627776 (ch.pq 1) dO dM dN dL aW cG eI) (ne.fr rfl rfl) ?_)
   rintro b3 T ⟨c7, du, dS, rfl, fO, e4, eO, eW, ex⟩
   let bz : CH := CH.row G I [.slice c7 dS du, iv cG.E]
   have ci : Cx [bz, r0 b cc, x, a6, S, y, A, r0 a d] := Ctx.cn 1 ch fO
   refine ⟨_, rfl, ⟨(Ctx.rO 1 ci rfl), trivial⟩, ?_⟩
   refine WA.sZ [(4, none)] ⟨(Ctx.rO 1 ci rfl), trivial⟩ (by kernel_rfl) <| WT.val rfl (fun _ hC_ => Yl.conv (m := aW) (r := rB aW) rfl Ab u_3 rfl) ?_
   refine WT.done ?_
   obtain ⟨h7, gb, ia, Q, id, e5, fs, cj, ef⟩ := uO (P := Tryz.prog) 3 KI ci tM ti3 ⟨by decide, by decide⟩ (rB aW) (iv (rB aW)) rfl
   refine WA.up1 5 (by kernel_rfl) (Up.val rfl rfl rfl (fs _ _ _ rfl) ⟨(Ctx.rO 2 cj rfl), trivial⟩ ?_)
   obtain ⟨eF, l⟩ := rV l
   obtain ⟨a8, bb, bd, N, ie, e6, ft, fP, eg⟩ := sP (P := Tryz.prog) (cb := gb) 3 KI [Q, bz, r0 b cc, x] [S, y, A, r0 a d] cj dH e5 (Row.sl ef) (Ctx.rO 0 cj rfl) tM ti3 rfl zo3 (by decide) (by decide) (by simpa using eF)
   have dk : Cx [Q, bz, r0 b cc, x, N, S, y, A, r0 a d] := fP
   refine WA.up1 6 (by kernel_rfl) (Up.val rfl rfl rfl (ft _ _ _ _ rfl rfl) ⟨trivial, trivial⟩ ?_)
   refine WA.sZ [(7, none)] ⟨(Ctx.rO 2 dk rfl), trivial⟩ (by kernel_rfl) <| WT.run to 1 rfl <| WT.done ?_
   obtain ⟨ig, fu, fQ⟩ := vH (P := Tryz.prog) (ps1 := [Q, bz]) (ps2 := [x, N, S, y, A, r0 a d]) (t := 47) 5 [.slice a8 bd bb] (.slice a8 bd bb) dk rfl rfl (rR rfl) AX
   let bw : LV := bT.q i aD ax aG a8 bd bb bm a0 bo aE ay aH aF az aI
   have fR : Cx [Q, bz, r0 b bw, x, N, S, y, A, r0 a d] := fQ
   refine WA.up1 8 (by kernel_rfl) (Up.skip rfl rfl (fu _ _ _ _ rfl rfl) ⟨trivial, trivial⟩ ?_)
   refine WA.done (by kernel_rfl) <| W.uF [([6, 8], r0 b bw)] (by kernel_rfl) ?_
   have dl := Ctx.drewN fR 1
   refine WA.sZ [(0, none), (1, some 0), (2, none)] ⟨(Ctx.rO 2 dl rfl), trivial⟩ (by kernel_rfl) <| WT.run to 1 rfl <| WT.lv 6 rfl rfl rfl tM rfl rfl <| WT.run to 1 rfl <| WT.done ?_
   have dm : Cx [bz, Q, r0 b bw, x, N, S, y, A, r0 a d] := dl.pick [1, 0, 2, 3, 4, 5, 6, 7, 8] rfl
   obtain ⟨⟨aX, cH⟩, eJ, l⟩ := rE l
   refine WA.up1 3 (by kernel_rfl) (Up.sI rfl (by kernel_rfl) rfl (rJ.calls cx _ F G I c7 du dS cG 1099511627776 (dm.pq 1) e4 eO eW ex aX cH eJ) (ne.fr rfl rfl) ?_)
   rintro b3 T ⟨c8, dv, dT, rfl, fS, e7, eP, eX, ey⟩
   let cf : CH := CH.row G I [.slice c8 dT dv, iv cH.E]
   have ck : Cx [cf, Q, r0 b bw, x, N, S, y, A, r0 a d] := Ctx.cn 1 dm fS
   refine ⟨_, rfl, ⟨(Ctx.rO 2 ck rfl), trivial⟩, ?_⟩
   refine WA.sZ [(4, none)] ⟨(Ctx.rO 2 ck rfl), trivial⟩ (by kernel_rfl) <| WT.val rfl (fun _ hC_ => Yl.conv (m := aX) (r := rB aX) rfl Ab u_3 rfl) ?_
   refine WT.done ?_
   obtain ⟨h8, gc, ib, bJ, ih, e8, fv, cm, eh⟩ := uO (P := Tryz.prog) 3 KI ck tM ti3 ⟨by decide, by decide⟩ (rB aX) (iv (rB aX)) rfl
   refine WA.up1 5 (by kernel_rfl) (Up.val rfl rfl rfl (fv _ _ _ rfl) ⟨(Ctx.rO 3 cm rfl), trivial⟩ ?_)
   obtain ⟨eG, l⟩ := rV l
   obtain ⟨bA, bD, bH, bg, ii, e9, fw, fT, ei⟩ := sP (P := Tryz.prog) (cb := gc) 3 KI [bJ, cf, Q, r0 b bw, x, N] [y, A, r0 a d] cm dI e8 (Row.sl eh) (Ctx.rO 0 cm rfl) tM ti3 rfl zo3 (by decide) (by decide) (by simpa using eG)
   have dp : Cx [bJ, cf, Q, r0 b bw, x, N, bg, y, A, r0 a d] := fT
   refine WA.up1 6 (by kernel_rfl) (Up.val rfl rfl rfl (fw _ _ _ _ rfl rfl) ⟨trivial, trivial⟩ ?_)
   refine WA.sZ [(7, none)] ⟨(Ctx.rO 3 dp rfl), trivial⟩ (by kernel_rfl) <| WT.run to 1 rfl <| WT.done ?_
   obtain ⟨ij, fx, fU⟩ := vH (P := Tryz.prog) (ps1 := [bJ, cf, Q]) (ps2 := [x, N, bg, y, A, r0 a d]) (t := 47) 6 [.slice bA bH bD] (.slice bA bH bD) dp rfl rfl (rR rfl) AX
   let g7 : LV := bT.q i aD ax aG a8 bd bb bA bH bD aE ay aH aF az aI
   have fV : Cx [bJ, cf, Q, r0 b g7, x, N, bg, y, A, r0 a d] := fU
   refine WA.up1 8 (by kernel_rfl) (Up.skip rfl rfl (fx _ _ _ _ rfl rfl) ⟨trivial, trivial⟩ ?_)
   refine WA.done (by kernel_rfl) <| tH <| W.region rfl ?_
   refine WL.rd to 3 rfl ?_
   have fW : Cx [cf, r0 b g7, x, N, bg, y, A, r0 a d] := fV.pick [1, 3, 4, 5, 6, 7, 8, 9] rfl
   exact rF ⟨cx, Nat.lt_succ_self _, rB (cL + 1), cH, (⟨i.Payload, i.State, i.Attempt, i.Epoch, i.Until, i.Workers ++ [rB aW], i.Indexes ++ [rB aX], i.rI, i.Value⟩ : bT), c8, dv, dT, aD, aG, ax, x, a8, bb, bd, N, bA, bD, bH, bg, aE, aH, ay, y, aF, aI, az, A, rfl, fW, e7, eP, eX, ey, dP, dG, e6, eg, e9, ei, dQ, dJ, dR, dK, l⟩
  refine W.cF b4 rfl <| W.exit <| rM <| rM <| sL ?_
  cases l
  refine rF ?_
  exact ⟨bl, aZ, bu, aD, aG, ax, x, bV, b2, bv, a6, bm, bo, a0, S, aE, aH, ay, y, aF, aI, az, A, rfl, ed, dO, dM, dN, dL, dP, dG, gz, dH, gA, dI, dQ, dJ, dR, dK⟩
 ·rintro R T ⟨bO, bn, b7, bP, bX, bp, a1, bQ, bY, bq, a2, bR, bZ, br, a3, bS, b0, bs, a4, bU, b1, bt, a5, gB, ec, gt, gp, gr, gm, gu, gg, gv, gh, gw, gi, gx, gj, gy, gk⟩
  apply ks R gB
  refine W.sr rfl <| WL.run to 1 rfl ?_
  obtain ⟨⟨bj, cI⟩, eK, H⟩ := rE H
  let fF : LV := bT.q X bP bp bX bQ bq bY bR br bZ bS bs b0 bU bt b1
  let hd : CH := CH.row G I [.slice bO b7 bn, iv a7.E]
  refine WL.sI (rJ.calls k _ F G I bO bn b7 a7 8 (ec.pq 1) gt gp gr gm bj cI eK) (ne.fr rfl rfl) ?_
  rintro b3 T ⟨c9, dw, dU, rfl, fX, fa, eQ, eY, ez⟩
  refine ⟨_, rfl, ?_⟩
  let h6 : CH := CH.row G I [.slice c9 dU dw, iv cI.E]
  have fY : Cx [h6, r0 b fF, a1, a2, a3, a4, a5, r0 a d] := Ctx.cn 1 ec fX
  refine WL.val (Yl.conv (m := bj) (r := rB bj) rfl Ab u_3 rfl) <| WL.rd to 1 rfl <| W.seq <| W.sr rfl <| WL.rd to 1 rfl ?_
  obtain ⟨⟨aB, J⟩, j, H⟩ := rE H
  refine W.vG (fun R T => ∃ O a9 aP be aK aQ ar Y aL aR au Z aM aS av aa aN aT aw ab bB bE bf ag, Kn R [(0, .pointer (some ⟨G, I, none⟩)), (2, pt a), (3, pt b)] ∧ Ctx w F D T O [CH.row G I [.slice a9 be aP, iv aB.E], r0 b (bT.q J aK ar aQ aL au aR aM av aS aN aw aT bB bf bE), Y, Z, aa, ab, ag, r0 a d] ∧ CH.le F O ∧ sW KB O a9 be aP aB.B (oW KB O Y aK ar aQ J.Payload (oW KI O Z aL au aR J.Workers (oW KI O aa aM av aS J.Indexes (oW rA.K O ab aN aw aT J.rI (bf = J.Value.length ∧ Row KB O ag (.slice bB bf bE) J.Value)))))) ?_ ?_
  ·refine W.block <| W.loop (fun c5 R T => ∃ (bM : Int) (ah : sG) (h : bT), ∃ M aO am aU ai an ac p aj ao ad s ak ap ae u ba bc aV V al aq af v, Kn R [(0, .pointer (some ⟨G, I, none⟩)), (2, pt a), (3, pt b), (4, iv (rB bj)), (6, iv bM)] ∧ Ctx w F D T M [CH.row G I [.slice aO aU am, iv ah.E], r0 b (bT.q h ai ac an aj ad ao ak ae ap ba aV bc al af aq), p, s, u, V, v, r0 a d] ∧ CH.le F M ∧ sW KB M aO aU am ah.B (bT.oS M h ai ac an p aj ad ao s ak ae ap u ba aV bc V al af aq v (sH.l2 c5 bj bM ah h = some (aB, J)))) k ⟨0, cI, X, F, c9, dw, dU, bP, bX, bp, a1, bQ, bY, bq, a2, bR, bZ, br, a3, bS, b0, bs, a4, bU, b1, bt, a5, rfl, fY, (CH.le_refl _), fa, eQ, eY, ez, gu, gg, gv, gh, gw, gi, gx, gj, gy, gk, j⟩ ?_
   clear j
   rintro c5 R T ⟨bM, ah, h, M, aO, am, aU, ai, an, ac, p, aj, ao, ad, s, ak, ap, ae, u, ba, bc, aV, V, al, aq, af, v, fq, co, c1, cV, cS, cU, cR, cW, cM, cX, cN, cY, cO, fg, cP, cZ, cQ, j⟩
   rcases c5 with _ | cy
   · exact absurd j (by simp [sH.l2])
   rw [sH.l2] at j
   apply ks R fq
   refine W.seq <| W.sr rfl <| WL.rd to 3 rfl ?_
   rcases rT j with ⟨b5, j⟩ | ⟨b5, j⟩
   ·refine W.cT b5 rfl <| W.skip <| W.seq <| W.block <| W.sr rfl <| WL.run to 1 rfl ?_
    obtain ⟨⟨aA, cJ⟩, eL, j⟩ := rE j
    let aY : LV := bT.q h ai ac an aj ad ao ak ae ap ba aV bc al af aq
    let he : CH := CH.row G I [.slice aO aU am, iv ah.E]
    refine WL.sI (rJ.calls cy _ M G I aO am aU ah 1099511627776 (co.pq 1) cV cS cU cR aA cJ eL) (ne.fr rfl rfl) ?_
    rintro b3 T ⟨da, dx, dV, rfl, fZ, fh, eS, e0, eB⟩
    refine ⟨_, rfl, ?_⟩
    let fM : CH := CH.row G I [.slice da dV dx, iv cJ.E]
    have f0 : Cx [fM, r0 b aY, p, s, u, V, v, r0 a d] := Ctx.cn 1 co fZ
    refine WL.val (Yl.conv (m := aA) (r := rB aA) rfl Ab u_3 rfl) <| WL.rd to 1 rfl <| W.uF [([7, 9], r0 b aY)] (by kernel_rfl) ?_
    have cp := Ctx.drewN f0 1
    refine WA.sZ [(0, none), (1, some 0), (2, none), (3, none)] ⟨(Ctx.rO 1 cp rfl), trivial⟩ (by kernel_rfl) <| WT.run to 1 rfl <| WT.lv 7 rfl rfl rfl wD rfl rfl <| WT.run to 2 rfl <| WT.done ?_
    obtain ⟨⟨bL, cK⟩, eM, j⟩ := rE j
    refine WA.up1 4 (by kernel_rfl) (Up.sI rfl (by kernel_rfl) rfl (tV.calls cy _ M G I da dx dV cJ 32 (cp.pq 1) fh eS e0 eB bL cK eM) (ne.fr rfl rfl) ?_)
    rintro b3 T ⟨db, dy, dW, gD, dc, dz, dX, rfl, f1, fi, en, fj, eT, e1, eC⟩
    let ca : CH := CH.row G I [.slice dc dX dz, iv cK.E]
    have cr : Cx [ca, gD, r0 b aY, p, s, u, V, v, r0 a d] := Ctx.cn 1 cp f1
    refine ⟨_, rfl, ⟨(Ctx.rO 2 cr rfl), trivial⟩, ?_⟩
    refine WA.sZ [(5, none)] ⟨(Ctx.rO 2 cr rfl), trivial⟩ (by kernel_rfl) ?_
    let g8 : LV := [iv (rB aA), .slice db dW dy]
    refine WT.val rfl (fun _ hC_ => Yl.build (places := [(0, 1), (1, 1)]) (cs := List.toArray g8) Bq CU (G5 _ Bq) (uV (.cons rfl (.cons rfl .nil))) rfl) ?_
    refine WT.done ?_
    obtain ⟨ga, U, fD, (f2 : Cx [ca, r0 b aY, p, s, u, V, v, r0 a d])⟩ := Ctx.fzI 1 cr rfl
    obtain ⟨eU, e2, eD⟩ := Row.fz en U fD
    have eo := Row.mono cP U
    have ep := Row.mono cM U
    have eq := Row.mono cN U
    have er := Row.mono cO U
    have es := Row.mono cQ U
    obtain ⟨h9, gd, ic, bK, ik, fk, fy, ct, et⟩ := uO (P := Tryz.prog) 96 rA.K f2 wD Ec ⟨by decide, by decide⟩ (⟨rB aA, bL⟩ : rA) (.agg (List.toArray g8)) (rA.mk' _ (⟨rB aA, bL⟩ : rA) db dy dW fi eU e2 eD)
    refine WA.up1 6 (by kernel_rfl) (Up.val rfl rfl rfl (fy _ _ _ rfl) ⟨(Ctx.rO 2 ct rfl), trivial⟩ ?_)
    obtain ⟨eH, j⟩ := rV j
    obtain ⟨bC, bG, bI, bh, il, fl, fA, f3, eu⟩ := sP (P := Tryz.prog) (cb := gd) 96 rA.K [bK, ca, r0 b aY, p, s, u] [v, r0 a d] ct eo fk (Row.sl et) (Ctx.rO 0 ct rfl) wD Ec rfl Hi (by decide) (by decide) (by simpa using eH)
    have dr : Cx [bK, ca, r0 b aY, p, s, u, bh, v, r0 a d] := f3
    refine WA.up1 7 (by kernel_rfl) (Up.val rfl rfl rfl (fA _ _ _ _ rfl rfl) ⟨trivial, trivial⟩ ?_)
    refine WA.sZ [(8, none)] ⟨(Ctx.rO 2 dr rfl), trivial⟩ (by kernel_rfl) <| WT.run to 1 rfl <| WT.done ?_
    obtain ⟨im, fB, f4⟩ := vH (P := Tryz.prog) (ps1 := [bK, ca]) (ps2 := [p, s, u, bh, v, r0 a d]) (t := 61) 7 [.slice bC bI bG] (.slice bC bI bG) dr rfl rfl (rR rfl) FW
    let g9 : LV := bT.q h ai ac an aj ad ao ak ae ap bC bI bG al af aq
    have f5 : Cx [bK, ca, r0 b g9, p, s, u, bh, v, r0 a d] := f4
    refine WA.up1 9 (by kernel_rfl) (Up.skip rfl rfl (fB _ _ _ _ rfl rfl) ⟨trivial, trivial⟩ ?_)
    refine WA.done (by kernel_rfl) <| tH <| W.region rfl ?_
    refine WL.rd to 3 rfl ?_
    have f6 : Cx [ca, r0 b g9, p, s, u, bh, v, r0 a d] := f5.pick [1, 2, 3, 4, 5, 6, 7, 8] rfl
    exact rF ⟨cy, Nat.lt_succ_self _, rB (bM + 1), cK, (⟨h.Payload, h.State, h.Attempt, h.Epoch, h.Until, h.Workers, h.Indexes, h.rI ++ [(⟨rB aA, bL⟩ : rA)], h.Value⟩ : bT), ga, dc, dz, dX, ai, an, ac, p, aj, ao, ad, s, ak, ap, ae, u, bC, bG, bI, bh, al, aq, af, v, rfl, f6, (CH.le_trans c1 U), fj, eT, e1, (Sl.mono eC U U), cW, ep, cX, eq, cY, er, fl, eu, cZ, es, j⟩
   refine W.cF b5 rfl <| W.exit <| rM <| rM <| sL ?_
   cases j
   refine rF ?_
   exact ⟨M, aO, am, aU, ai, an, ac, p, aj, ao, ad, s, ak, ap, ae, u, ba, bc, aV, V, al, aq, af, v, rfl, co, c1, cV, cS, cU, cR, cW, cM, cX, cN, cY, cO, fg, cP, cZ, cQ⟩
  ·rintro R T ⟨O, a9, aP, be, aK, aQ, ar, Y, aL, aR, au, Z, aM, aS, av, aa, aN, aT, aw, ab, bB, bE, bf, ag, fp, dq, fC, fb, eR, eZ, eA, fc, ej, fd, ek, fe, el, ff, em, h4, h0⟩
   apply ks R fp
   refine W.sr rfl <| WL.run to 1 rfl ?_
   obtain ⟨⟨gH, d6⟩, eN, H⟩ := rE H
   let fG : LV := bT.q J aK ar aQ aL au aR aM av aS aN aw aT bB bf bE
   let hf : CH := CH.row G I [.slice a9 be aP, iv aB.E]
   refine WL.sI (tV.calls k _ O G I a9 aP be aB 32 (dq.pq 1) fb eR eZ eA gH d6 eN) (ne.fr rfl rfl) ?_
   rintro b3 T ⟨cg, cv, cz, bi, dd, dA, dY, rfl, f7, fm, ew, fo, eV, e3, eE⟩
   refine ⟨_, rfl, ?_⟩
   let d8 : CH := CH.row G I [.slice dd dY dA, iv d6.E]
   have f8 : Cx [d8, bi, r0 b fG, Y, Z, aa, ab, ag, r0 a d] := Ctx.cn 1 dq f7
   refine WL.run to 1 rfl ?_
   let cd : LV := bT.q J aK ar aQ aL au aR aM av aS aN aw aT cg cz cv
   refine WL.st f8 2 8 [.slice cg cz cv] rfl rfl rfl rfl (Put.lit 8 rfl) (rR rfl) AP fun T (ds : Cx [d8, bi, r0 b cd, Y, Z, aa, ab, ag, r0 a d]) => ?_
   refine WL.done <| W.sr rfl <| WL.la ds 2 rfl rfl xG rfl yN <| WL.st ds 8 0 cd rfl rfl rfl rfl (Put.lit 0 rfl) (rR rfl) yN fun T (dt : Cx [d8, bi, r0 b cd, Y, Z, aa, ab, ag, r0 a cd]) => ?_
   refine WL.done <| W.ret ?_
   have f9 : Cx [d8, Y, Z, aa, ab, bi] := dt.pick [0, 3, 4, 5, 6, 1] rfl
   obtain ⟨ge, gf⟩ := sp H
   subst ge gf
   exact rH (BU rfl ((.cell rfl (tS (g := a) (off := 0) (o := 0) (cs := cd) (us := cd) xG rfl yN (Ctx.rO 8 dt rfl) rfl) .nil))) ⟨O, aK, aQ, ar, Y, aL, aR, au, Z, aM, aS, av, aa, aN, aT, aw, ab, cg, cv, cz, bi, dd, dA, dY, rfl, fC, f9, fc, ej, fd, ek, fe, el, ff, em, fm, ew, fo, eV, e3, eE⟩
def rU.l1 : Nat → Int → Int → sG → bF → Option (sG × bF)
  | 0, _, _, _, _ => none
  | k + 1, e, b, d, a => if b < (rB e) then ((rJ.f k d 1099511627776).bind fun ⟨g, h⟩ => (sO.f k h).bind fun ⟨i, j⟩ => if (a.Eras.length + 1 + (a.Eras.length + 1) / 4 + 192) * 40 ≤ 281474976710656 then (rU.l1 k e (rB (b + 1)) j (⟨a.Eras ++ [(⟨rB g, i⟩ : sD)], a.Jobs, a.Used, a.Barred, a.Heads⟩ : bF)) else none) else (some (d, a))
def rU.l2 : Nat → Int → Int → sG → bF → Option (sG × bF)
  | 0, _, _, _, _ => none
  | k + 1, e, b, d, a => if b < (rB e) then ((sH.f k d).bind fun ⟨g, h⟩ => if (a.Jobs.length + 1 + (a.Jobs.length + 1) / 4 + 192) * 152 ≤ 281474976710656 then (rU.l2 k e (rB (b + 1)) h (⟨a.Eras, a.Jobs ++ [g], a.Used, a.Barred, a.Heads⟩ : bF)) else none) else (some (d, a))
def rU.l3 : Nat → Int → Int → sG → bF → Option (sG × bF)
  | 0, _, _, _, _ => none
  | k + 1, b, g, i, a => if g < (rB b) then ((rJ.f k i 1099511627776).bind fun ⟨h, l⟩ => if (a.Used.length + 1 + (a.Used.length + 1) / 4 + 192) * 8 ≤ 281474976710656 then ((rJ.f k l 1099511627776).bind fun ⟨d, e⟩ => if (a.Barred.length + 1 + (a.Barred.length + 1) / 4 + 192) * 1 ≤ 281474976710656 then ((if d > 1 then (some (decide (e.E = 0))) else (some (false))).bind fun j => if j = true then (rU.l3 k b (rB (g + 1)) e (⟨a.Eras, a.Jobs, a.Used ++ [rB h], a.Barred ++ [decide (d = 1)], (-1)⟩ : bF)) else (rU.l3 k b (rB (g + 1)) e (⟨a.Eras, a.Jobs, a.Used ++ [rB h], a.Barred ++ [decide (d = 1)], a.Heads⟩ : bF))) else none) else none) else (some (i, a))
def rU.f (k : Nat) (u : rK) (A : List Int) : Option (bF × Int) := (vQ.f k u).bind fun v => if v = true then ((rJ.f k (⟨A, 0⟩ : sG) 256).bind fun ⟨w, x⟩ => (rU.l1 k w 0 x (⟨([] : List sD), ([] : List bT), ([] : List Int), ([] : List Bool), 0⟩ : bF)).bind fun ⟨s, t⟩ => (rJ.f k s 64).bind fun ⟨p, r⟩ => (rU.l2 k p 0 r t).bind fun ⟨j, l⟩ => (rJ.f k j 8).bind fun ⟨e, g⟩ => (rU.l3 k e 0 g l).bind fun ⟨m, a⟩ => (rJ.f k m 1099511627776).bind fun ⟨b, h⟩ => (uH.f k h).bind fun ⟨d, y⟩ => if d = 0 then ((if a.Heads < 0 then (some true) else ((rN.f k u (⟨a.Eras, a.Jobs, a.Used, a.Barred, rB b⟩ : bF)).bind fun i => some (!i))).bind fun o => if o = true then (some ((⟨([] : List sD), ([] : List bT), ([] : List Int), ([] : List Bool), 0⟩ : bF), 41)) else (some ((⟨a.Eras, a.Jobs, a.Used, a.Barred, rB b⟩ : bF), 0))) else (some ((⟨([] : List sD), ([] : List bT), ([] : List Int), ([] : List Bool), 0⟩ : bF), d))) else (some ((⟨([] : List sD), ([] : List bT), ([] : List Int), ([] : List Bool), 0⟩ : bF), 1))
theorem rU.calls (k w F) (fH : rK) (ee dI el) (fI : List Int) (hp : Pre w F []) (kB : el = fI.length) (kx : fI.length ≤ dI) (kz : dI ≤ maxLen) (kv : Sl KB F F ee fI) (bB : bF) (jU : Int) (H : rU.f k fH fI = some (bB, jU)) :
    Calls Tryz.prog 19 #[.agg (List.toArray (rK.q fH)), .slice ee el dI] w fun e w' => ∃ F' ez e1 dv ft eA e2 dw fu eB e3 dx fv eC e4 dy fw, e = .returned (.tuple #[(.agg (List.toArray (bF.q bB ez dv e1 eA dw e2 eB dx e3 eC dy e4))), (iv jU)]) ∧ CH.le F F' ∧ Ctx w F (sR []) w' F' [ft, fu, fv, fw] ∧ dv = bB.Eras.length ∧ Row sD.K F' ft (.slice ez dv e1) bB.Eras ∧ dw = bB.Jobs.length ∧ Row bT.K F' fu (.slice eA dw e2) bB.Jobs ∧ dx = bB.Used.length ∧ Row KI F' fv (.slice eB dx e3) bB.Used ∧ dy = bB.Barred.length ∧ Row Kd.bool F' fw (.slice eC dy e4) bB.Barred := by
 have C := Ctx.start hp
 generalize hD : sR [] = D at C ⊢
 unfold rU.f at H
 refine Calls.ofW Tryz.func19 rfl (by simp [Tryz.ntmps19]) <| W.sr rfl ?_
 let l : LV := rK.q fH
 obtain ⟨j, lb, kh, ko⟩ := uR (P := Tryz.prog) 42 (.agg (List.toArray l)) l C rfl
 refine WL.val (kh _ _ _ rfl) ?_
 let h : LV := [.slice none 0 0, .slice none 0 0, .slice none 0 0, .slice none 0 0, iv 0]
 obtain ⟨b, k7, ki, fE⟩ := sU (P := Tryz.prog) (e := 50) h ko zN rfl
 refine WL.val (ki _ _) <| WL.rd to 1 rfl <| W.seq <| W.sr rfl <| WL.la fE 1 rfl rfl zZ rfl Ac ?_
 obtain ⟨kE, kc, H⟩ := rE H
 refine WL.c0 fE (vQ.calls k _ F fH fE.tX  kE kc) (ne.fr rfl rfl) fun U jN => ?_
 refine WL.rd to 1 rfl ?_
 rcases rT H with ⟨ej, H⟩ | ⟨ej, H⟩
 ·refine W.uD (cb (zP ej)) <| W.skip <| W.sr rfl <| WL.run to 1 rfl <| WL.val (Yl.build (places := [(0, 1), (1, 1)]) (cs := List.toArray [.slice ee el dI, iv 0]) J9 K0 (KV _ J9) (uV (.cons rfl .nil)) rfl) ?_
  obtain ⟨x, k8, kj, kp⟩ := uR (P := Tryz.prog) 81 (.agg (List.toArray [.slice ee el dI, iv 0])) [.slice ee el dI, iv 0] jN rfl
  refine WL.val (kj _ _ _ rfl) <| WL.rd to 1 rfl <| W.sr rfl ?_
  obtain ⟨d, k9, kk, kq⟩ := sU (P := Tryz.prog) (e := 50) h kp zN rfl
  refine WL.val (kk _ _) <| WL.done <| W.sr rfl <| WL.run to 1 rfl ?_
  let kl : CH := r0 x [.slice ee el dI, iv 0]
  have jO : Cx [kl, r0 d h, r0 b h, r0 j l] := kq.pick [1, 0, 2, 3] rfl
  obtain ⟨⟨ed, ic⟩, kd, H⟩ := rE H
  refine WL.sI (rJ.calls k _ F x 0 ee dI el (⟨fI, 0⟩ : sG) 256 (jO.pq 1) kB kx kz kv ed ic kd) (ne.fr rfl rfl) ?_
  rintro dc U ⟨jM, jP, jQ, rfl, kr, kg, ke, kf, kb⟩
  refine ⟨_, rfl, ?_⟩
  let kH : CH := r0 x [.slice jM jQ jP, iv ic.E]
  have kt : Cx [kH, r0 d h, r0 b h, r0 j l] := Ctx.cn 1 jO kr
  refine WL.val (Yl.conv (m := ed) (r := rB ed) rfl Ab u_3 rfl) <| WL.rd to 1 rfl <| W.seq <| W.sr rfl <| WL.rd to 1 rfl ?_
  obtain ⟨⟨bP, aq⟩, V, H⟩ := rE H
  refine W.vG (fun p U => ∃ cI co c8 cJ cO cp bK cK cP cr bL cL cQ ct bM cM cR cu bN, Kn p [(2, pt j), (4, pt b), (6, pt x), (7, pt d)] ∧ Ctx w F D U F [r0 x [.slice cI c8 co, iv bP.E], r0 d (bF.q aq cJ cp cO cK cr cP cL ct cQ cM cu cR), bK, bL, bM, bN, r0 b h, r0 j l] ∧ sW KB F cI c8 co bP.B (oW sD.K F bK cJ cp cO aq.Eras (oW bT.K F bL cK cr cP aq.Jobs (oW KI F bM cL ct cQ aq.Used (cu = aq.Barred.length ∧ Row Kd.bool F bN (.slice cM cu cR) aq.Barred))))) ?_ ?_
  ·refine W.block ?_
   have j0 : Cx [kH, r0 d h, CH.emp, CH.emp, CH.emp, CH.emp, r0 b h, r0 j l] := kt.pick [0, 1, 4, 4, 4, 4, 2, 3] rfl
   refine W.loop (fun cU p U => ∃ (dH : Int) (bh : sG) (ac : bF), ∃ cm bG cv cN cS cw aF bC bH bc ae bD bI bd af bE bJ be ag, Kn p [(2, pt j), (4, pt b), (6, pt x), (7, pt d), (8, iv (rB ed)), (9, iv dH)] ∧ Ctx w F D U F [r0 x [.slice cm cv bG, iv bh.E], r0 d (bF.q ac cN cw cS bC bc bH bD bd bI bE be bJ), aF, ae, af, ag, r0 b h, r0 j l] ∧ sW KB F cm cv bG bh.B (bF.oS F ac cN cw cS aF bC bc bH ae bD bd bI af bE be bJ ag (rU.l1 cU ed dH bh ac = some (bP, aq)))) k ⟨0, ic, (⟨([] : List sD), ([] : List bT), ([] : List Int), ([] : List Bool), 0⟩ : bF), jM, jP, jQ, none, 0, 0, CH.emp, none, 0, 0, CH.emp, none, 0, 0, CH.emp, none, 0, 0, CH.emp, rfl, j0, kg, ke, kf, kb, rfl, (Row.nil _ _), rfl, (Row.nil _ _), rfl, (Row.nil _ _), rfl, (Row.nil _ _), V⟩ ?_
   clear V
   rintro cU p U ⟨dH, bh, ac, cm, bG, cv, cN, cS, cw, aF, bC, bH, bc, ae, bD, bI, bd, af, bE, bJ, be, ag, jD, ef, fc, fa, fb, e9, jw, e5, fd, e6, fe, e7, ff, e8, V⟩
   rcases cU with _ | ek
   · exact absurd V (by simp [rU.l1])
   rw [rU.l1] at V
   apply ks p jD
   refine W.seq <| W.sr rfl <| WL.rd to 3 rfl ?_
   rcases rT V with ⟨dt, V⟩ | ⟨dt, V⟩
   ·refine W.cT dt rfl <| W.skip <| W.seq <| W.block <| W.sr rfl <| WL.run to 1 rfl ?_
    obtain ⟨⟨a6, em⟩, jg, V⟩ := rE V
    let dC : LV := bF.q ac cN cw cS bC bc bH bD bd bI bE be bJ
    let kI : CH := r0 x [.slice cm cv bG, iv bh.E]
    refine WL.sI (rJ.calls ek _ F x 0 cm bG cv bh 1099511627776 (ef.pq 1) fc fa fb e9 a6 em jg) (ne.fr rfl rfl) ?_
    rintro dc U ⟨fB, fJ, h5, rfl, j1, jx, jk, jo, jc⟩
    refine ⟨_, rfl, ?_⟩
    let km : CH := r0 x [.slice fB h5 fJ, iv em.E]
    have j2 : Cx [km, r0 d dC, aF, ae, af, ag, r0 b h, r0 j l] := Ctx.cn 1 ef j1
    refine WL.val (Yl.conv (m := a6) (r := rB a6) rfl Ab u_3 rfl) <| WL.rd to 1 rfl <| W.uF [([7, 9], r0 d dC)] (by kernel_rfl) ?_
    have eg := Ctx.drewN j2 1
    refine WA.sZ [(0, none), (1, some 0), (2, none), (3, none)] ⟨(Ctx.rO 1 eg rfl), trivial⟩ (by kernel_rfl) <| WT.run to 1 rfl <| WT.lv 0 rfl rfl rfl wG rfl rfl <| WT.run to 2 rfl <| WT.done ?_
    obtain ⟨⟨bO, en⟩, jh, V⟩ := rE V
    refine WA.up1 4 (by kernel_rfl) (Up.sI rfl (by kernel_rfl) rfl (sO.calls ek _ F x 0 fB fJ h5 em (eg.pq 1) jx jk jo jc bO en jh) (ne.fr rfl rfl) ?_)
    rintro dc U ⟨fC, fK, h6, rfl, j3, ds, jy, jl, jp, jd⟩
    let fA : CH := r0 x [.slice fC h6 fK, iv en.E]
    have eh : Cx [fA, r0 d dC, aF, ae, af, ag, r0 b h, r0 j l] := Ctx.cn 1 eg j3
    refine ⟨_, rfl, ⟨(Ctx.rO 1 eh rfl), trivial⟩, ?_⟩
    refine WA.sZ [(5, none)] ⟨(Ctx.rO 1 eh rfl), trivial⟩ (by kernel_rfl) ?_
    let kD : LV := [iv (rB a6)] ++ (bO.map (Value.int .u8))
    refine WT.val rfl (fun _ hC_ => Yl.build (places := [(0, 1), (1, 32)]) (cs := List.toArray kD) Dh GX (JW _ Dh) (uV (.cons rfl (.cons rfl .nil))) (zF.run (a := [iv 0] ++ ((List.replicate 32 (0 : Int)).map (Value.int .u8))) (c := [iv (rB a6)] ++ (bO.map (Value.int .u8))) (.put (us := [iv (rB a6)]) rfl rfl rfl (Put.left (Put.lit 0 rfl)) (.put (us := bO.map (Value.int .u8)) rfl rfl (rL ds) (Put.skip 1 0 rfl (Put.all 32 (rL (List.length_replicate ..)) (rL ds))) .nil)))) ?_
    refine WT.done ?_
    obtain ⟨k2, ka, k3, dB, k4, jz, jE, ei, i9⟩ := uO (P := Tryz.prog) 94 sD.K eh wG Fj ⟨by decide, by decide⟩ (⟨rB a6, bO⟩ : sD) (.agg (List.toArray kD)) (sD.mk' _ (⟨rB a6, bO⟩ : sD)  ds)
    refine WA.up1 6 (by kernel_rfl) (Up.val rfl rfl rfl (jE _ _ _ rfl) ⟨(Ctx.rO 2 ei rfl), trivial⟩ ?_)
    obtain ⟨jf, V⟩ := rV V
    obtain ⟨df, dr, dz, c9, k5, jA, jF, j4, ja⟩ := sP (P := Tryz.prog) (cb := ka) 94 sD.K [dB, fA, r0 d dC] [ae, af, ag, r0 b h, r0 j l] ei e5 jz (Row.sl i9) (Ctx.rO 0 ei rfl) wG Fj rfl I8 (by decide) (by decide) (by simpa using jf)
    have fG : Cx [dB, fA, r0 d dC, c9, ae, af, ag, r0 b h, r0 j l] := j4
    refine WA.up1 7 (by kernel_rfl) (Up.val rfl rfl rfl (jF _ _ _ _ rfl rfl) ⟨trivial, trivial⟩ ?_)
    refine WA.sZ [(8, none)] ⟨(Ctx.rO 2 fG rfl), trivial⟩ (by kernel_rfl) <| WT.run to 1 rfl <| WT.done ?_
    obtain ⟨k6, jG, j5⟩ := vH (P := Tryz.prog) (ps1 := [dB, fA]) (ps2 := [c9, ae, af, ag, r0 b h, r0 j l]) (t := 45) 0 [.slice df dz dr] (.slice df dz dr) fG rfl rfl (rR rfl) Jv
    let jR : LV := bF.q ac df dz dr bC bc bH bD bd bI bE be bJ
    have j6 : Cx [dB, fA, r0 d jR, c9, ae, af, ag, r0 b h, r0 j l] := j5
    refine WA.up1 9 (by kernel_rfl) (Up.skip rfl rfl (jG _ _ _ _ rfl rfl) ⟨trivial, trivial⟩ ?_)
    refine WA.done (by kernel_rfl) <| tH <| W.region rfl ?_
    refine WL.rd to 3 rfl ?_
    have j7 : Cx [fA, r0 d jR, c9, ae, af, ag, r0 b h, r0 j l] := j6.pick [1, 2, 3, 4, 5, 6, 7, 8] rfl
    exact rF ⟨ek, Nat.lt_succ_self _, rB (dH + 1), en, (⟨ac.Eras ++ [(⟨rB a6, bO⟩ : sD)], ac.Jobs, ac.Used, ac.Barred, ac.Heads⟩ : bF), fC, fK, h6, df, dr, dz, c9, bC, bH, bc, ae, bD, bI, bd, af, bE, bJ, be, ag, rfl, j7, jy, jl, jp, jd, jA, ja, fd, e6, fe, e7, ff, e8, V⟩
   refine W.cF dt rfl <| W.exit <| rM <| rM <| sL ?_
   cases V
   refine rF ?_
   exact ⟨cm, bG, cv, cN, cS, cw, aF, bC, bH, bc, ae, bD, bI, bd, af, bE, bJ, be, ag, rfl, ef, fc, fa, fb, e9, jw, e5, fd, e6, fe, e7, ff, e8⟩
  ·rintro p U ⟨cI, co, c8, cJ, cO, cp, bK, cK, cP, cr, bL, cL, cQ, ct, bM, cM, cR, cu, bN, jC, fF, jr, jj, jn, jb, js, i5, jt, i6, ju, i7, jv, i8⟩
   apply ks p jC
   refine W.sr rfl <| WL.run to 1 rfl ?_
   obtain ⟨⟨db, eo⟩, ji, H⟩ := rE H
   let h8 : LV := bF.q aq cJ cp cO cK cr cP cL ct cQ cM cu cR
   let jV : CH := r0 x [.slice cI c8 co, iv bP.E]
   refine WL.sI (rJ.calls k _ F x 0 cI co c8 bP 64 (fF.pq 1) jr jj jn jb db eo ji) (ne.fr rfl rfl) ?_
   rintro dc U ⟨fD, fL, h7, rfl, j8, jB, jm, jq, je⟩
   refine ⟨_, rfl, ?_⟩
   let kF : CH := r0 x [.slice fD h7 fL, iv eo.E]
   have j9 : Cx [kF, r0 d h8, bK, bL, bM, bN, r0 b h, r0 j l] := Ctx.cn 1 fF j8
   refine WL.val (Yl.conv (m := db) (r := rB db) rfl Ab u_3 rfl) <| WL.rd to 1 rfl <| W.seq <| W.sr rfl <| WL.rd to 1 rfl ?_
   obtain ⟨⟨a7, ai⟩, S, H⟩ := rE H
   refine W.vG (fun p U => ∃ i bQ bm cc bR b0 bp a0 bS b1 bq a1 bU b2 br a2 bV b3 bs a3, Kn p [(2, pt j), (4, pt b), (6, pt x), (7, pt d)] ∧ Ctx w F D U i [r0 x [.slice bQ cc bm, iv a7.E], r0 d (bF.q ai bR bp b0 bS bq b1 bU br b2 bV bs b3), a0, a1, a2, a3, r0 b h, r0 j l] ∧ CH.le F i ∧ sW KB i bQ cc bm a7.B (oW sD.K i a0 bR bp b0 ai.Eras (oW bT.K i a1 bS bq b1 ai.Jobs (oW KI i a2 bU br b2 ai.Used (bs = ai.Barred.length ∧ Row Kd.bool i a3 (.slice bV bs b3) ai.Barred))))) ?_ ?_
   ·refine W.block <| W.loop (fun cU p U => ∃ (cH : Int) (aD : sG) (R : bF), ∃ aj bi aO bt aG aP av N bW b4 bu ah aH aQ aw O aI aR ax Q, Kn p [(2, pt j), (4, pt b), (6, pt x), (7, pt d), (8, iv (rB db)), (11, iv cH)] ∧ Ctx w F D U aj [r0 x [.slice bi bt aO, iv aD.E], r0 d (bF.q R aG av aP bW bu b4 aH aw aQ aI ax aR), N, ah, O, Q, r0 b h, r0 j l] ∧ CH.le F aj ∧ sW KB aj bi bt aO aD.B (bF.oS aj R aG av aP N bW bu b4 ah aH aw aQ O aI ax aR Q (rU.l2 cU db cH aD R = some (a7, ai)))) k ⟨0, eo, aq, F, fD, fL, h7, cJ, cO, cp, bK, cK, cP, cr, bL, cL, cQ, ct, bM, cM, cR, cu, bN, rfl, j9, (CH.le_refl _), jB, jm, jq, je, js, i5, jt, i6, ju, i7, jv, i8, S⟩ ?_
    clear S
    rintro cU p U ⟨cH, aD, R, aj, bi, aO, bt, aG, aP, av, N, bW, b4, bu, ah, aH, aQ, aw, O, aI, aR, ax, Q, hC, eE, ec, d0, dU, dX, dR, d1, dJ, hj, dK, d2, dL, d3, dM, S⟩
    rcases cU with _ | fg
    · exact absurd S (by simp [rU.l2])
    rw [rU.l2] at S
    apply ks p hC
    refine W.seq <| W.sr rfl <| WL.rd to 3 rfl ?_
    rcases rT S with ⟨cX, S⟩ | ⟨cX, S⟩
    ·refine W.cT cX rfl <| W.skip <| W.seq <| W.block ?_
     let bf : LV := bF.q R aG av aP bW bu b4 aH aw aQ aI ax aR
     refine W.uF [([5, 7], r0 d bf)] (by kernel_rfl) ?_
     have dg := Ctx.drewN eE 1
     refine WA.sZ [(0, none), (1, some 0), (2, none)] ⟨(Ctx.rO 1 dg rfl), trivial⟩ (by kernel_rfl) <| WT.run to 1 rfl <| WT.lv 1 rfl rfl rfl wY rfl rfl <| WT.run to 1 rfl <| WT.done ?_
     obtain ⟨⟨ci, dD⟩, gL, S⟩ := rE S
     let jW : CH := r0 x [.slice bi bt aO, iv aD.E]
     refine WA.up1 3 (by kernel_rfl) (Up.sI rfl (by kernel_rfl) rfl (sH.calls fg _ aj x 0 bi aO bt aD (dg.pq 1) d0 dU dX dR ci dD gL) (ne.fr rfl rfl) ?_)
     rintro dc U ⟨kM, ep, eS, fh, jI, eq, eT, fi, fs, er, eU, fj, dA, es, eV, fk, cD, et, eW, fl, cf, eu, eX, fm, rfl, ba, ie, hk, fQ, hl, fR, hm, fS, hn, fT, ho, fU, hq, gT, g4, gy⟩
     let bg : CH := r0 x [.slice eu fm eX, iv dD.E]
     have eF : Cx [bg, jI, fs, dA, cD, cf, r0 d bf, N, ah, O, Q, r0 b h, r0 j l] := Ctx.cn 1 dg ie
     have fV := Row.mono dK ba
     have fW := Row.mono dJ ba
     have fX := Row.mono dL ba
     have fY := Row.mono dM ba
     refine ⟨_, rfl, ⟨(Ctx.rO 6 eF rfl), trivial⟩, ?_⟩
     obtain ⟨kN, ab, hW, (ig : Cx [bg, fs, dA, cD, cf, r0 d bf, N, ah, O, Q, r0 b h, r0 j l])⟩ := Ctx.fzI 1 eF rfl
     obtain ⟨gU, g5, gz⟩ := Row.fz fQ ab hW
     have fZ := Row.mono fV ab
     have f0 := Row.mono fR ab
     have f1 := Row.mono fS ab
     have f2 := Row.mono fT ab
     have f3 := Row.mono fU ab
     have f4 := Row.mono fW ab
     have f5 := Row.mono fX ab
     have f6 := Row.mono fY ab
     obtain ⟨kO, Y, hX, (ih : Cx [bg, dA, cD, cf, r0 d bf, N, ah, O, Q, r0 b h, r0 j l])⟩ := Ctx.fzI 1 ig rfl
     obtain ⟨gV, g6, gA⟩ := Row.fz f0 Y hX
     have f7 := Row.mono fZ Y
     have f8 := Row.mono f1 Y
     have f9 := Row.mono f2 Y
     have ga := Row.mono f3 Y
     have gb := Row.mono f4 Y
     have gc := Row.mono f5 Y
     have gd := Row.mono f6 Y
     obtain ⟨kP, T, hY, (ii : Cx [bg, cD, cf, r0 d bf, N, ah, O, Q, r0 b h, r0 j l])⟩ := Ctx.fzI 1 ih rfl
     obtain ⟨gW, g7, gB⟩ := Row.fz f8 T hY
     have ge := Row.mono f7 T
     have gf := Row.mono f9 T
     have gg := Row.mono ga T
     have gh := Row.mono gb T
     have gi := Row.mono gc T
     have gj := Row.mono gd T
     obtain ⟨kQ, M, hZ, (ij : Cx [bg, cf, r0 d bf, N, ah, O, Q, r0 b h, r0 j l])⟩ := Ctx.fzI 1 ii rfl
     obtain ⟨gX, g8, gC⟩ := Row.fz gf M hZ
     have gk := Row.mono ge M
     have gl := Row.mono gg M
     have gm := Row.mono gh M
     have gn := Row.mono gi M
     have go := Row.mono gj M
     obtain ⟨iP, A, h0, (ik : Cx [bg, r0 d bf, N, ah, O, Q, r0 b h, r0 j l])⟩ := Ctx.fzI 1 ij rfl
     obtain ⟨gY, g9, gD⟩ := Row.fz gl A h0
     have gp := Row.mono gk A
     have gq := Row.mono gm A
     have gr := Row.mono gn A
     have gs := Row.mono go A
     let kC : LV := bT.q ci ep fh eS eq fi eT er fj eU es fk eV et fl eW
     obtain ⟨kJ, iR, kR, cE, kU, hr, hO, dh, gt⟩ := uO (P := Tryz.prog) 63 bT.K ik wY FF ⟨by decide, by decide⟩ ci (.agg (List.toArray kC)) (bT.mk' _ ci ep eS fh eq eT fi er eU fj es eV fk et eW fl hk gU g5 (Sl.mono gz (CH.le_trans Y (CH.le_trans T (CH.le_trans M A))) (CH.le_trans Y (CH.le_trans T (CH.le_trans M A)))) hl gV g6 (Sl.mono gA (CH.le_trans T (CH.le_trans M A)) (CH.le_trans T (CH.le_trans M A))) hm gW g7 (Sl.mono gB (CH.le_trans M A) (CH.le_trans M A)) hn gX g8 (Sl.mono gC A A) ho gY g9 gD)
     refine WA.up1 4 (by kernel_rfl) (Up.val rfl rfl rfl (hO _ _ _ rfl) ⟨(Ctx.rO 2 dh rfl), trivial⟩ ?_)
     obtain ⟨gI, S⟩ := rV S
     obtain ⟨cz, cA, cC, cg, kV, hs, hP, il, gu⟩ := sP (P := Tryz.prog) (cb := iR) 63 bT.K [cE, bg, r0 d bf, N] [O, Q, r0 b h, r0 j l] dh gp hr (Row.sl gt) (Ctx.rO 0 dh rfl) wY FF rfl I9 (by decide) (by decide) (by simpa using gI)
     have eG : Cx [cE, bg, r0 d bf, N, cg, O, Q, r0 b h, r0 j l] := il
     refine WA.up1 5 (by kernel_rfl) (Up.val rfl rfl rfl (hP _ _ _ _ rfl rfl) ⟨trivial, trivial⟩ ?_)
     refine WA.sZ [(6, none)] ⟨(Ctx.rO 2 eG rfl), trivial⟩ (by kernel_rfl) <| WT.run to 1 rfl <| WT.done ?_
     obtain ⟨kW, hQ, im⟩ := vH (P := Tryz.prog) (ps1 := [cE, bg]) (ps2 := [N, cg, O, Q, r0 b h, r0 j l]) (t := 46) 1 [.slice cz cC cA] (.slice cz cC cA) eG rfl rfl (rR rfl) Ii
     let jS : LV := bF.q R aG av aP cz cC cA aH aw aQ aI ax aR
     have io : Cx [cE, bg, r0 d jS, N, cg, O, Q, r0 b h, r0 j l] := im
     refine WA.up1 7 (by kernel_rfl) (Up.skip rfl rfl (hQ _ _ _ _ rfl rfl) ⟨trivial, trivial⟩ ?_)
     refine WA.done (by kernel_rfl) <| tH <| W.region rfl ?_
     refine WL.rd to 3 rfl ?_
     have ip : Cx [bg, r0 d jS, N, cg, O, Q, r0 b h, r0 j l] := io.pick [1, 2, 3, 4, 5, 6, 7, 8] rfl
     exact rF ⟨fg, Nat.lt_succ_self _, rB (cH + 1), dD, (⟨R.Eras, R.Jobs ++ [ci], R.Used, R.Barred, R.Heads⟩ : bF), iP, eu, eX, fm, aG, aP, av, N, cz, cA, cC, cg, aH, aQ, aw, O, aI, aR, ax, Q, rfl, ip, (CH.le_trans ec (CH.le_trans ba (CH.le_trans ab (CH.le_trans Y (CH.le_trans T (CH.le_trans M A)))))), hq, gT, g4, (Sl.mono gy (CH.le_trans ab (CH.le_trans Y (CH.le_trans T (CH.le_trans M A)))) (CH.le_trans ab (CH.le_trans Y (CH.le_trans T (CH.le_trans M A))))), d1, gq, hs, gu, d2, gr, d3, gs, S⟩
    refine W.cF cX rfl <| W.exit <| rM <| rM <| sL ?_
    cases S
    refine rF ?_
    exact ⟨aj, bi, aO, bt, aG, aP, av, N, bW, b4, bu, ah, aH, aQ, aw, O, aI, aR, ax, Q, rfl, eE, ec, d0, dU, dX, dR, d1, dJ, hj, dK, d2, dL, d3, dM⟩
   ·rintro p U ⟨i, bQ, bm, cc, bR, b0, bp, a0, bS, b1, bq, a1, bU, b2, br, a2, bV, b3, bs, a3, hB, eD, c7, he, gS, g3, gx, hf, fM, hg, fN, hh, fO, hi, fP⟩
    apply ks p hB
    refine W.sr rfl <| WL.run to 1 rfl ?_
    obtain ⟨⟨bx, dE⟩, gM, H⟩ := rE H
    let h9 : LV := bF.q ai bR bp b0 bS bq b1 bU br b2 bV bs b3
    let jX : CH := r0 x [.slice bQ cc bm, iv a7.E]
    refine WL.sI (rJ.calls k _ i x 0 bQ bm cc a7 8 (eD.pq 1) he gS g3 gx bx dE gM) (ne.fr rfl rfl) ?_
    rintro dc U ⟨ew, eY, fo, rfl, iq, ht, gZ, ha, gE⟩
    refine ⟨_, rfl, ?_⟩
    let kG : CH := r0 x [.slice ew fo eY, iv dE.E]
    have ir : Cx [kG, r0 d h9, a0, a1, a2, a3, r0 b h, r0 j l] := Ctx.cn 1 eD iq
    refine WL.val (Yl.conv (m := bx) (r := rB bx) rfl Ab u_3 rfl) <| WL.rd to 1 rfl <| W.seq <| W.sr rfl <| WL.rd to 1 rfl ?_
    obtain ⟨⟨a8, aa⟩, s, H⟩ := rE H
    refine W.vG (fun p U => ∃ bX bn cd aJ aS ay G aK aT az I aL aU aA J aM aV aB L, Kn p [(2, pt j), (4, pt b), (6, pt x), (7, pt d)] ∧ Ctx w F D U i [r0 x [.slice bX cd bn, iv a8.E], r0 d (bF.q aa aJ ay aS aK az aT aL aA aU aM aB aV), G, I, J, L, r0 b h, r0 j l] ∧ sW KB i bX cd bn a8.B (oW sD.K i G aJ ay aS aa.Eras (oW bT.K i I aK az aT aa.Jobs (oW KI i J aL aA aU aa.Used (aB = aa.Barred.length ∧ Row Kd.bool i L (.slice aM aB aV) aa.Barred))))) ?_ ?_
    ·refine W.block <| W.loop (fun cU p U => ∃ (bA : Int) (aE : sG) (y : bF), ∃ bj aW bv am ao ak u an ap al v bY b5 bw a4 bk bo aY Z, Kn p [(2, pt j), (4, pt b), (6, pt x), (7, pt d), (8, iv (rB bx)), (12, iv bA)] ∧ Ctx w F D U i [r0 x [.slice bj bv aW, iv aE.E], r0 d (bF.q y am ak ao an al ap bY bw b5 bk aY bo), u, v, a4, Z, r0 b h, r0 j l] ∧ sW KB i bj bv aW aE.B (bF.oS i y am ak ao u an al ap v bY bw b5 a4 bk aY bo Z (rU.l3 cU bx bA aE y = some (a8, aa)))) k ⟨0, dE, ai, ew, eY, fo, bR, b0, bp, a0, bS, b1, bq, a1, bU, b2, br, a2, bV, b3, bs, a3, rfl, ir, ht, gZ, ha, gE, hf, fM, hg, fN, hh, fO, hi, fP, s⟩ ?_
     clear s
     rintro cU p U ⟨bA, aE, y, bj, aW, bv, am, ao, ak, u, an, ap, al, v, bY, b5, bw, a4, bk, bo, aY, Z, hF, eH, d8, dV, dY, dS, c5, cV, c6, cW, hv, dN, hw, dO, s⟩
     rcases cU with _ | cB
     · exact absurd s (by simp [rU.l3])
     rw [rU.l3] at s
     apply ks p hF
     refine W.seq <| W.sr rfl <| WL.rd to 3 rfl ?_
     rcases rT s with ⟨cY, s⟩ | ⟨cY, s⟩
     ·refine W.cT cY rfl <| W.skip <| W.seq <| W.block <| W.seq ?_
      let dd : LV := bF.q y am ak ao an al ap bY bw b5 bk aY bo
      refine W.uF [([6, 8], r0 d dd)] (by kernel_rfl) ?_
      have dj := Ctx.drewN eH 1
      refine WA.sZ [(0, none), (1, some 0), (2, none)] ⟨(Ctx.rO 1 dj rfl), trivial⟩ (by kernel_rfl) <| WT.run to 1 rfl <| WT.lv 2 rfl rfl rfl tM rfl rfl <| WT.run to 1 rfl <| WT.done ?_
      obtain ⟨⟨a5, dF⟩, gN, s⟩ := rE s
      let jY : CH := r0 x [.slice bj bv aW, iv aE.E]
      refine WA.up1 3 (by kernel_rfl) (Up.sI rfl (by kernel_rfl) rfl (rJ.calls cB _ i x 0 bj aW bv aE 1099511627776 (dj.pq 1) d8 dV dY dS a5 dF gN) (ne.fr rfl rfl) ?_)
      rintro dc U ⟨ex, eZ, fp, rfl, it, hx, g1, hc, gG⟩
      let cx : CH := r0 x [.slice ex fp eZ, iv dF.E]
      have dk : Cx [cx, r0 d dd, u, v, a4, Z, r0 b h, r0 j l] := Ctx.cn 1 dj it
      refine ⟨_, rfl, ⟨(Ctx.rO 1 dk rfl), trivial⟩, ?_⟩
      refine WA.sZ [(4, none)] ⟨(Ctx.rO 1 dk rfl), trivial⟩ (by kernel_rfl) <| WT.val rfl (fun _ hC_ => Yl.conv (m := a5) (r := rB a5) rfl Ab u_3 rfl) ?_
      refine WT.done ?_
      obtain ⟨kK, iS, kS, ad, kX, hy, hR, dl, gv⟩ := uO (P := Tryz.prog) 3 KI dk tM ti3 ⟨by decide, by decide⟩ (rB a5) (iv (rB a5)) rfl
      refine WA.up1 5 (by kernel_rfl) (Up.val rfl rfl rfl (hR _ _ _ rfl) ⟨(Ctx.rO 2 dl rfl), trivial⟩ ?_)
      obtain ⟨gJ, s⟩ := rV s
      obtain ⟨aN, aX, aZ, X, kY, d9, hS, iu, dP⟩ := sP (P := Tryz.prog) (cb := iS) 3 KI [ad, cx, r0 d dd, u, v] [Z, r0 b h, r0 j l] dl dN hy (Row.sl gv) (Ctx.rO 0 dl rfl) tM ti3 rfl zo3 (by decide) (by decide) (by simpa using gJ)
      have eI : Cx [ad, cx, r0 d dd, u, v, X, Z, r0 b h, r0 j l] := iu
      refine WA.up1 6 (by kernel_rfl) (Up.val rfl rfl rfl (hS _ _ _ _ rfl rfl) ⟨trivial, trivial⟩ ?_)
      refine WA.sZ [(7, none)] ⟨(Ctx.rO 2 eI rfl), trivial⟩ (by kernel_rfl) <| WT.run to 1 rfl <| WT.done ?_
      obtain ⟨kZ, hT, iw⟩ := vH (P := Tryz.prog) (ps1 := [ad, cx]) (ps2 := [u, v, X, Z, r0 b h, r0 j l]) (t := 47) 2 [.slice aN aZ aX] (.slice aN aZ aX) eI rfl rfl (rR rfl) AX
      let da : LV := bF.q y am ak ao an al ap aN aZ aX bk aY bo
      have ix : Cx [ad, cx, r0 d da, u, v, X, Z, r0 b h, r0 j l] := iw
      refine WA.up1 8 (by kernel_rfl) (Up.skip rfl rfl (hT _ _ _ _ rfl rfl) ⟨trivial, trivial⟩ ?_)
      refine WA.done (by kernel_rfl) <| W.sr rfl <| WL.run to 1 rfl ?_
      have eJ : Cx [cx, ad, r0 d da, u, v, X, Z, r0 b h, r0 j l] := ix.pick [1, 0, 2, 3, 4, 5, 6, 7, 8] rfl
      obtain ⟨⟨cj, cG⟩, gO, s⟩ := rE s
      refine WL.sI (rJ.calls cB _ i x 0 ex eZ fp dF 1099511627776 (eJ.pq 1) hx g1 hc gG cj cG gO) (ne.fr rfl rfl) ?_
      rintro dc U ⟨de, dq, du, rfl, iy, ea, dW, dZ, dT⟩
      refine ⟨_, rfl, ?_⟩
      let cy : CH := r0 x [.slice de du dq, iv cG.E]
      have eK : Cx [cy, ad, r0 d da, u, v, X, Z, r0 b h, r0 j l] := Ctx.cn 1 eJ iy
      refine WL.rd to 1 rfl <| W.sr rfl <| WL.run to 1 rfl <| WL.lv eK 2 3 rfl rfl zH rfl rfl <| WL.run to 2 rfl ?_
      obtain ⟨kL, iU, kT, ch, k0, hz, hU, eL, gw⟩ := uO (P := Tryz.prog) 4 Kd.bool eK zH ti4 ⟨by decide, by decide⟩ (decide (cj = 1)) (.bool (decide (cj = 1))) rfl
      refine WL.val (hU _ _ _ rfl) ?_
      obtain ⟨gK, s⟩ := rV s
      obtain ⟨bZ, b6, ce, aC, k1, eb, hV, iz, dQ⟩ := sP (P := Tryz.prog) (cb := iU) 4 Kd.bool [ch, cy, ad, r0 d da, u, v, X] [r0 b h, r0 j l] eL dO hz (Row.sl gw) (Ctx.rO 0 eL rfl) zH ti4 rfl zo4 (by decide) (by decide) (by simpa using gK)
      have iA : Cx [ch, cy, ad, r0 d da, u, v, X, aC, r0 b h, r0 j l] := iz
      refine WL.val (hV _ _ _ _ rfl rfl) <| WL.run to 1 rfl ?_
      let ia : LV := bF.q y am ak ao an al ap aN aZ aX bZ ce b6
      refine WL.st iA 3 3 [.slice bZ ce b6] rfl rfl rfl rfl (Put.lit 3 rfl) (rR rfl) J4 fun U (dm : Cx [ch, cy, ad, r0 d ia, u, v, X, aC, r0 b h, r0 j l]) => ?_
      refine WL.done <| W.sr rfl <| WL.run to 3 rfl ?_
      obtain ⟨i4, a9, s⟩ := rE s
      refine WL.cut (fun p U => p 91 = .bool i4 ∧ p 2 = pt j ∧ p 4 = pt b ∧ p 6 = pt x ∧ p 7 = pt d ∧ p 8 = iv (rB bx) ∧ p 12 = iv bA ∧ Ctx w F D U i [ch, cy, ad, r0 d ia, u, v, X, aC, r0 b h, r0 j l]) ?_ ?_
      ·rcases rT a9 with ⟨cZ, a9⟩ | ⟨cZ, a9⟩
       ·refine WL.kn 85 (cb (decide_eq_true cZ)) <| WL.run to 3 rfl <| WL.lvG dm 1 1 rfl rfl rfl rfl u_3 rfl rfl <| WL.run to 2 rfl ?_
        cases a9
        exact WL.done ⟨rfl, rfl, rfl, rfl, rfl, rfl, rfl, dm⟩
       refine WL.kn 85 (cb (decide_eq_false cZ)) <| WL.sN 5 85 true rfl rfl <| WL.run to 1 rfl ?_
       cases a9
       exact WL.done ⟨rfl, rfl, rfl, rfl, rfl, rfl, rfl, dm⟩
      ·rintro p U ⟨hG, hH, hI, hJ, hK, hL, hM, eM⟩
       apply kn p (.c hG (.c hH (.c hI (.c hJ (.c hK (.c hL (.c hM .n)))))))
       rcases rT s with ⟨c1, s⟩ | ⟨c1, s⟩
       ·refine W.uI (cb c1) <| W.region rfl ?_
        refine WL.run to 1 rfl ?_
        let jT : LV := [.slice am ak ao, .slice an al ap, .slice aN aZ aX, .slice bZ ce b6, iv (-1)]
        refine WL.st eM 3 4 [iv (-1)] rfl rfl rfl rfl (Put.lit 4 rfl) (rR rfl) sz3 fun U (iB : Cx [ch, cy, ad, r0 d jT, u, v, X, aC, r0 b h, r0 j l]) => ?_
        refine WL.done <| tH <| W.region rfl ?_
        refine WL.rd to 3 rfl ?_
        have iC : Cx [cy, r0 d jT, u, v, X, aC, r0 b h, r0 j l] := iB.pick [1, 3, 4, 5, 6, 7, 8, 9] rfl
        exact rF ⟨cB, Nat.lt_succ_self _, rB (bA + 1), cG, (⟨y.Eras, y.Jobs, y.Used ++ [rB a5], y.Barred ++ [decide (cj = 1)], (-1)⟩ : bF), de, dq, du, am, ao, ak, u, an, ap, al, v, aN, aX, aZ, X, bZ, b6, ce, aC, rfl, iC, ea, dW, dZ, dT, c5, cV, c6, cW, d9, dP, eb, dQ, s⟩
       refine W.uD (cb (Bool.eq_false_iff.2 c1)) <| W.skip <| tH <| W.region rfl ?_
       refine WL.rd to 3 rfl ?_
       have iD : Cx [cy, r0 d ia, u, v, X, aC, r0 b h, r0 j l] := eM.pick [1, 3, 4, 5, 6, 7, 8, 9] rfl
       exact rF ⟨cB, Nat.lt_succ_self _, rB (bA + 1), cG, (⟨y.Eras, y.Jobs, y.Used ++ [rB a5], y.Barred ++ [decide (cj = 1)], y.Heads⟩ : bF), de, dq, du, am, ao, ak, u, an, ap, al, v, aN, aX, aZ, X, bZ, b6, ce, aC, rfl, iD, ea, dW, dZ, dT, c5, cV, c6, cW, d9, dP, eb, dQ, s⟩
     refine W.cF cY rfl <| W.exit <| rM <| rM <| sL ?_
     cases s
     refine rF ?_
     exact ⟨bj, aW, bv, am, ao, ak, u, an, ap, al, v, bY, b5, bw, a4, bk, bo, aY, Z, rfl, eH, d8, dV, dY, dS, c5, cV, c6, cW, hv, dN, hw, dO⟩
    ·rintro p U ⟨bX, bn, cd, aJ, aS, ay, G, aK, aT, az, I, aL, aU, aA, J, aM, aV, aB, L, hE, di, hu, g0, hb, gF, d4, b7, d5, b8, d6, b9, d7, ca⟩
     apply ks p hE
     refine W.sr rfl <| WL.run to 1 rfl <| WL.lv di 1 4 rfl rfl u_3 rfl rfl <| WL.rd to 2 rfl <| W.sr rfl <| WL.run to 1 rfl ?_
     obtain ⟨⟨bz, dG⟩, gP, H⟩ := rE H
     let ib : LV := bF.q aa aJ ay aS aK az aT aL aA aU aM aB aV
     let jZ : CH := r0 x [.slice bX cd bn, iv a8.E]
     refine WL.sI (rJ.calls k _ i x 0 bX bn cd a8 1099511627776 (di.pq 1) hu g0 hb gF bz dG gP) (ne.fr rfl rfl) ?_
     rintro dc U ⟨ey, e0, fq, rfl, iE, hA, g2, hd, gH⟩
     refine ⟨_, rfl, ?_⟩
     let fy : CH := r0 x [.slice ey fq e0, iv dG.E]
     have iG : Cx [fy, r0 d ib, G, I, J, L, r0 b h, r0 j l] := Ctx.cn 1 di iE
     refine WL.val (Yl.conv (m := bz) (r := rB bz) rfl Ab u_3 rfl) <| WL.run to 1 rfl ?_
     let ar : LV := [.slice aJ ay aS, .slice aK az aT, .slice aL aA aU, .slice aM aB aV, iv (rB bz)]
     refine WL.st iG 1 4 [iv (rB bz)] rfl rfl rfl rfl (Put.lit 4 rfl) (rR rfl) sz3 fun U (eN : Cx [fy, r0 d ar, G, I, J, L, r0 b h, r0 j l]) => ?_
     refine WL.done <| W.seq <| W.sr rfl <| WL.run to 1 rfl ?_
     obtain ⟨⟨jJ, fx⟩, gQ, H⟩ := rE H
     refine WL.sI (uH.calls k _ i x 0 ey e0 fq dG (eN.pq 1) hA g2 hd gH jJ fx gQ) (ne.fr rfl rfl) ?_
     rintro dc U ⟨id, iV, jH, rfl, iH, kA, kw, ky, ku⟩
     refine ⟨_, rfl, ?_⟩
     let ck : CH := r0 x [.slice id jH iV, iv fx.E]
     have bl : Cx [ck, r0 d ar, G, I, J, L, r0 b h, r0 j l] := Ctx.cn 1 eN iH
     refine WL.rd to 1 rfl <| W.sr rfl <| WL.rd to 2 rfl ?_
     rcases rT H with ⟨c2, H⟩ | ⟨c2, H⟩
     ·refine W.nF c2 rfl <| W.skip <| W.seq <| W.seq ?_
      obtain ⟨jL, au, H⟩ := rE H
      refine W.vG (fun p U => Kn p [(4, pt b), (7, pt d), (112, .bool jL)] ∧ Ctx w F D U i [ck, r0 d ar, G, I, J, L, r0 b h, r0 j l]) ?_ ?_
      ·refine W.region rfl ?_
       refine WL.run to 2 rfl ?_
       rcases rT au with ⟨c3, au⟩ | ⟨c3, au⟩
       ·refine WL.kn 107 (cb (decide_eq_true c3)) <| WL.sN 4 107 false rfl rfl <| WL.rd to 1 rfl ?_
        cases au
        refine rF ?_
        exact ⟨rfl, bl⟩
       refine WL.kn 107 (cb (decide_eq_false c3)) <| WL.laG bl 7 rfl rfl rfl rfl zZ rfl Ac <| WL.laG bl 1 rfl rfl rfl rfl wJ rfl wM <| WL.on rfl rfl ?_
       obtain ⟨iQ, bb, ⟨h1, h2, h3, h4, _⟩, iI⟩ := Ctx.B1 [G, I, J, L] (ps := [ck, r0 d ar, r0 b h, r0 j l]) (Ctx.pick [2, 3, 4, 5, 0, 1, 6, 7] bl rfl)
       obtain ⟨jK, gR, au⟩ := rE au
       refine WL.sI (rN.calls k _ iQ fH aJ aS ay aK aT az aL aU aA aM aV aB (⟨aa.Eras, aa.Jobs, aa.Used, aa.Barred, rB bz⟩ : bF) (iI.pq 0) d4 (Row.rP b7).1 (Row.rP b7).2.1 (Sl.mono (Row.sl b7) bb h1) d5 (Row.rP b8).1 (Row.rP b8).2.1 (Sl.mono (Row.sl b8) bb h2) d6 (Row.rP b9).1 (Row.rP b9).2.1 (Sl.mono (Row.sl b9) bb h3) d7 (Row.rP ca).1 (Row.rP ca).2.1 (Sl.mono (Row.sl ca) bb h4) jK gR) (ne.fr rfl rfl) ?_
       rintro dc U ⟨rfl, iJ⟩
       refine ⟨_, rfl, ?_⟩
       have iK : Cx [ck, r0 d ar, G, I, J, L, r0 b h, r0 j l] := Ctx.cl 0 bl bb iJ
       refine WL.rd to 2 rfl ?_
       cases au
       refine rF ?_
       exact ⟨rfl, iK⟩
      ·rintro p U ⟨hN, dp⟩
       apply ks p hN
       rcases rT H with ⟨c4, H⟩ | ⟨c4, H⟩
       ·refine W.uI (cb c4) <| W.sr rfl <| WL.val (Yl.build (places := [(0, 1), (1, 1), (2, 1), (3, 1), (4, 1)]) (cs := List.toArray h) wJ zN (DB _ wJ) (uV .nil) rfl) <| WL.st dp 6 0 h rfl rfl rfl rfl (Put.lit 0 rfl) (rR rfl) wM fun U (eO : Cx [ck, r0 d ar, G, I, J, L, r0 b h, r0 j l]) => ?_
        refine WL.rd to 1 rfl <| W.ret <| rS ?_
        have iL : Cx [CH.emp, CH.emp, CH.emp, CH.emp] := eO.pick [8, 8, 8, 8] rfl
        obtain ⟨iW, iX⟩ := sp H
        subst iW iX
        exact rH (Au rfl ((.cell rfl (tS (g := b) (off := 0) (o := 0) (cs := h) (us := h) wJ rfl wM (Ctx.rO 6 eO rfl) rfl) (.tmp rfl .nil))) rfl) ⟨i, none, 0, 0, CH.emp, none, 0, 0, CH.emp, none, 0, 0, CH.emp, none, 0, 0, CH.emp, rfl, c7, iL, rfl, (Row.nil _ _), rfl, (Row.nil _ _), rfl, (Row.nil _ _), rfl, (Row.nil _ _)⟩
       refine W.uD (cb (Bool.eq_false_iff.2 c4)) <| W.skip <| W.sr rfl <| WL.la dp 1 rfl rfl wJ rfl wM <| WL.st dp 6 0 ar rfl rfl rfl rfl (Put.lit 0 rfl) (rR rfl) wM fun U (eP : Cx [ck, r0 d ar, G, I, J, L, r0 b ar, r0 j l]) => ?_
       refine WL.rd to 1 rfl <| W.ret ?_
       have iM : Cx [G, I, J, L] := eP.pick [2, 3, 4, 5] rfl
       obtain ⟨iY, iZ⟩ := sp H
       subst iY iZ
       exact rH (Au rfl ((.cell rfl (tS (g := b) (off := 0) (o := 0) (cs := ar) (us := ar) wJ rfl wM (Ctx.rO 6 eP rfl) rfl) (.tmp rfl .nil))) rfl) ⟨i, aJ, aS, ay, G, aK, aT, az, I, aL, aU, aA, J, aM, aV, aB, L, rfl, c7, iM, d4, b7, d5, b8, d6, b9, d7, ca⟩
     refine W.nT c2 rfl <| W.sr rfl <| WL.val (Yl.build (places := [(0, 1), (1, 1), (2, 1), (3, 1), (4, 1)]) (cs := List.toArray h) wJ zN (DB _ wJ) (uV .nil) rfl) <| WL.run to 1 rfl <| WL.st bl 6 0 h rfl rfl rfl rfl (Put.lit 0 rfl) (rR rfl) wM fun U (eQ : Cx [ck, r0 d ar, G, I, J, L, r0 b h, r0 j l]) => ?_
     refine WL.rd to 1 rfl <| W.ret <| rS ?_
     have iN : Cx [CH.emp, CH.emp, CH.emp, CH.emp] := eQ.pick [8, 8, 8, 8] rfl
     obtain ⟨i0, i1⟩ := sp H
     subst i0 i1
     exact rH (Au rfl ((.cell rfl (tS (g := b) (off := 0) (o := 0) (cs := h) (us := h) wJ rfl wM (Ctx.rO 6 eQ rfl) rfl) (.tmp rfl .nil))) rfl) ⟨i, none, 0, 0, CH.emp, none, 0, 0, CH.emp, none, 0, 0, CH.emp, none, 0, 0, CH.emp, rfl, c7, iN, rfl, (Row.nil _ _), rfl, (Row.nil _ _), rfl, (Row.nil _ _), rfl, (Row.nil _ _)⟩
 refine W.uI (cb (zO ej)) <| W.sr rfl <| WL.val (Yl.build (places := [(0, 1), (1, 1), (2, 1), (3, 1), (4, 1)]) (cs := List.toArray h) wJ zN (DB _ wJ) (uV .nil) rfl) <| WL.st jN 0 0 h rfl rfl rfl rfl (Put.lit 0 rfl) (rR rfl) wM fun U (eR : Cx [r0 b h, r0 j l]) => ?_
 refine WL.rd to 1 rfl <| W.ret <| rS ?_
 have iO : Cx [CH.emp, CH.emp, CH.emp, CH.emp] := eR.pick [2, 2, 2, 2] rfl
 obtain ⟨i2, i3⟩ := sp H
 subst i2 i3
 exact rH (Au rfl ((.cell rfl (tS (g := b) (off := 0) (o := 0) (cs := h) (us := h) wJ rfl wM (Ctx.rO 0 eR rfl) rfl) (.tmp rfl .nil))) rfl) ⟨F, none, 0, 0, CH.emp, none, 0, 0, CH.emp, none, 0, 0, CH.emp, none, 0, 0, CH.emp, rfl, (CH.le_refl _), iO, rfl, (Row.nil _ _), rfl, (Row.nil _ _), rfl, (Row.nil _ _), rfl, (Row.nil _ _)⟩
end Go.Proofs.YtobdpbnadjkhiaaGreat
namespace Go.Proofs.YtobdpbnadjkhiaaGreat
open Go.RowKit Go.WG
set_option linter.unusedVariables false
set_option linter.unusedSimpArgs false
set_option maxRecDepth 100000
set_option maxHeartbeats 4000000
def sM.l1 : Nat → rK → List rD → Int → bF → Option bF
  | 0, _, _, _, _ => none
  | k + 1, i, h, a, g => if a < (h.length : Int) then (if 0 ≤ a ∧ a < (h.length : Int) then ((xI.f k (h.getD a.toNat rD.z)).bind fun b => (wT.f k i g b).bind fun ⟨d, e⟩ => if e = 0 then (sM.l1 k i h (rB (a + 1)) d) else (sM.l1 k i h (rB (a + 1)) g)) else none) else (some g)
def sM.f (k : Nat) (d : rK) (C : List rD) (h : List Int) : Option Bool := (tT.f k C).bind fun E => (if E = true then (some (true)) else (some (decide ((h.length : Int) > 3000)))).bind fun D => if D = true then ((tD.f k ).bind fun F => some F) else ((yJ.f k d).bind fun ⟨G, J⟩ => (sM.l1 k d C 0 G).bind fun g => (rX.f k d g).bind fun ⟨j, e⟩ => (if e = 0 then ((sC.f k d j).bind fun ⟨l, m⟩ => (if m = 0 then ((sB.f k l g).bind fun o => some (!o)) else (some true)).bind fun A => if A = true then (some (Sum.inr false)) else (some (Sum.inl ()))) else (some (Sum.inl ()))).bind fun H => vS H (fun _ => if (h.length + h.length / 4 + 192) * 1 ≤ 281474976710656 then ((sC.f k d h).bind fun ⟨a, b⟩ => (rU.f k d h).bind fun ⟨p, r⟩ => ((vQ.f k d).bind fun s => if (decide (e = 0)) = s then (if b = r then ((sB.f k a p).bind fun t => some (!t)) else (some true)) else (some true)).bind fun B => if B = true then (some false) else (if b = 0 then ((rX.f k d a).bind fun ⟨u, v⟩ => (if v = 0 then ((sK.f k u h).bind fun w => some (!w)) else (some (true))).bind fun i => if i = true then (some false) else ((tD.f k ).bind fun x => some x)) else ((tD.f k ).bind fun y => some y))) else none) (fun I => some I))
theorem sM.calls (k w F) (bf : rK) (hs e9 ht) (dq : List rD) (cy bg aZ) (cQ : List Int) (hp : Pre w F []) (oB : ht = dq.length) (oz : dq.length ≤ e9) (oA : e9 ≤ maxLen) (nK : Sl rD.K F F hs dq) (dh : aZ = cQ.length) (iW : cQ.length ≤ bg) (jd : bg ≤ maxLen) (c3 : Sl KB F F cy cQ) (nV : Bool) (H : sM.f k bf dq cQ = some nV) :
    Calls Tryz.prog 4 #[.agg (List.toArray (rK.q bf)), .slice hs ht e9, .slice cy aZ bg] w fun e w' => e = .returned (.bool nV) ∧ Ctx w F (sR []) w' F [] := by
 have C := Ctx.start hp
 generalize hD : sR [] = D at C ⊢
 unfold sM.f at H
 refine Calls.ofW Tryz.func4 rfl (by simp [Tryz.ntmps4]) <| W.sr rfl ?_
 let m : LV := rK.q bf
 obtain ⟨a, pr, oc, nD⟩ := uR (P := Tryz.prog) 42 (.agg (List.toArray m)) m C rfl
 refine WL.val (oc _ _ _ rfl) <| WL.rd to 1 rfl <| W.seq <| W.sr rfl <| WL.run to 1 rfl ?_
 obtain ⟨oQ, n1, H⟩ := rE H
 refine WL.cq nD (tT.calls k _ F hs e9 ht dq nD.tX oB oz oA nK oQ n1) (ne.fr rfl rfl) fun B nE => ?_
 refine WL.run to 1 rfl ?_
 obtain ⟨oo, cP, H⟩ := rE H
 refine WL.cut (fun l B => l 28 = .bool oo ∧ l 1 = .slice hs ht e9 ∧ l 2 = .slice cy aZ bg ∧ l 3 = pt a ∧ Ctx w F D B F [r0 a m]) ?_ ?_
 ·rcases rT cP with ⟨fa, cP⟩ | ⟨fa, cP⟩
  ·refine WL.kn 24 (cb fa) <| WL.sN 3 24 false rfl rfl <| WL.run to 1 rfl ?_
   cases cP
   exact WL.done ⟨rfl, rfl, rfl, rfl, nE⟩
  refine WL.kn 24 (cb (Bool.eq_false_iff.2 fa)) <| WL.run to 1 rfl <| WL.lnG (cQ.length : Int) rfl rfl rfl tG (by omega) <| WL.run to 2 rfl ?_
  cases cP
  exact WL.done ⟨rfl, rfl, rfl, rfl, nE⟩
 ·rintro l B ⟨n8, n9, oa, ob, er⟩
  apply kn l (.c n8 (.c n9 (.c oa (.c ob .n))))
  rcases rT H with ⟨fb, H⟩ | ⟨fb, H⟩
  ·refine W.uI (cb fb) <| W.sr rfl ?_
   obtain ⟨oR, n2, H⟩ := rE H
   refine WL.c0 er (tD.calls k _ F  er.tX  oR n2) (ne.fr rfl rfl) fun B oe => ?_
   refine WL.rd to 1 rfl <| W.ret <| rS ?_
   have og : Cx [] := oe.pick [] rfl
   have om := Option.some.inj H
   subst om
   exact rH (sE rfl rfl) ⟨rfl, og⟩
  refine W.uD (cb (Bool.eq_false_iff.2 fb)) <| W.skip <| W.sr rfl <| WL.la er 0 rfl rfl zZ rfl Ac ?_
  obtain ⟨⟨lo, oS⟩, n3, H⟩ := rE H
  refine WL.sI (yJ.calls k _ F bf er.tX  lo oS n3) (ne.fr rfl rfl) ?_
  rintro cd B ⟨nz, nG, nL, nP, nA, nH, nM, lm, nB, nI, nN, ho, nC, nJ, nO, e8, rfl, oh, n4, nX, n5, nY, n6, nZ, n7, n0⟩
  refine ⟨_, rfl, ?_⟩
  have oi : Cx [nP, lm, ho, e8, r0 a m] := Ctx.wS er oh
  refine WL.run to 3 rfl ?_
  let af : LV := [.slice none 0 0, .slice none 0 0, .slice none 0 0, .slice none 0 0, iv 0]
  obtain ⟨b, pu, od, oj⟩ := sU (P := Tryz.prog) (e := 50) af oi zN rfl
  refine WL.val (od _ _) ?_
  let hv : LV := bF.q lo nz nL nG nA nM nH nB nN nI nC nO nJ
  refine WL.st oj 0 0 hv rfl rfl rfl rfl (Put.lit 0 rfl) (rR rfl) wM fun B (ok : Cx [r0 b hv, nP, lm, ho, e8, r0 a m]) => ?_
  refine WL.rd to 1 rfl <| W.seq <| W.sr rfl <| WL.rd to 1 rfl ?_
  obtain ⟨N, y, H⟩ := rE H
  refine W.vG (fun l B => ∃ X bD a2 bY bE a3 bZ bG a4 b0 bH a5 b1, Kn l [(2, .slice cy aZ bg), (3, pt a), (7, pt b)] ∧ Ctx w F D B X [r0 b (bF.q N bD bY a2 bE bZ a3 bG b0 a4 bH b1 a5), r0 a m] ∧ CH.le F X ∧ sW sD.K X bD bY a2 N.Eras (sW bT.K X bE bZ a3 N.Jobs (sW KI X bG b0 a4 N.Used (b1 = N.Barred.length ∧ N.Barred.length ≤ a5 ∧ a5 ≤ maxLen ∧ Sl Kd.bool X X bH N.Barred)))) ?_ ?_
  ·refine W.block ?_
   obtain ⟨oV, bA, kN, (lu : Cx [r0 b hv, lm, ho, e8, r0 a m])⟩ := Ctx.fzI 1 ok rfl
   obtain ⟨iX, je, iq⟩ := Row.fz nX bA kN
   have hx := Row.mono nY bA
   have hy := Row.mono nZ bA
   have hz := Row.mono n0 bA
   obtain ⟨oX, aW, kO, (lw : Cx [r0 b hv, ho, e8, r0 a m])⟩ := Ctx.fzI 1 lu rfl
   obtain ⟨iY, jf, ir⟩ := Row.fz hx aW kO
   have hA := Row.mono hy aW
   have hB := Row.mono hz aW
   obtain ⟨oY, aO, kP, (lx : Cx [r0 b hv, e8, r0 a m])⟩ := Ctx.fzI 1 lw rfl
   obtain ⟨iZ, jg, it⟩ := Row.fz hA aO kP
   have hC := Row.mono hB aO
   obtain ⟨mH, aB, kQ, (ly : Cx [r0 b hv, r0 a m])⟩ := Ctx.fzI 1 lx rfl
   obtain ⟨i0, jh, iu⟩ := Row.fz hC aB kQ
   refine W.loop (fun nW l B => ∃ (aa : Int) (E : bF), ∃ M aD aq aH aE ar aI aF au aJ aG av aK, Kn l [(1, .slice hs ht e9), (2, .slice cy aZ bg), (3, pt a), (7, pt b), (9, iv aa)] ∧ Ctx w F D B M [r0 b (bF.q E aD aH aq aE aI ar aF aJ au aG aK av), r0 a m] ∧ CH.le F M ∧ bF.sS M E aD aH aq aE aI ar aF aJ au aG aK av (sM.l1 nW bf dq aa E = some N)) k ⟨0, lo, mH, nz, nG, nL, nA, nH, nM, nB, nI, nN, nC, nJ, nO, rfl, ly, (CH.le_trans bA (CH.le_trans aW (CH.le_trans aO aB))), n4, iX, je, (Sl.mono iq (CH.le_trans aW (CH.le_trans aO aB)) (CH.le_trans aW (CH.le_trans aO aB))), n5, iY, jf, (Sl.mono ir (CH.le_trans aO aB) (CH.le_trans aO aB)), n6, iZ, jg, (Sl.mono it aB aB), n7, i0, jh, iu, y⟩ ?_
   clear y
   rintro nW l B ⟨aa, E, M, aD, aq, aH, aE, ar, aI, aF, au, aJ, aG, av, aK, kc, fS, aA, bt, bl, bp, bh, bu, bm, bq, bi, bv, bn, br, bj, bw, bo, bs, bk, y⟩
   rcases nW with _ | a7
   · exact absurd y (by simp [sM.l1])
   rw [sM.l1] at y
   apply ks l kc
   refine W.seq <| W.sr rfl <| WL.run to 2 rfl <| WL.ln (dq.length : Int) rfl Fo (by omega) <| WL.rd to 1 rfl ?_
   rcases rT y with ⟨c5, y⟩ | ⟨c5, y⟩
   ·refine W.cT c5 rfl <| W.skip <| W.seq <| W.block <| W.seq ?_
    let be : LV := bF.q E aD aH aq aE aI ar aF aJ au aG aK av
    refine W.uF [([7, 12], r0 a m), ([7, 12], r0 b be), ([6, 7, 12], M)] (by kernel_rfl) ?_
    have bM := Ctx.drewN fS 1
    refine WA.sZ [(0, some 0), (1, some 1), (2, none), (3, none), (4, none), (5, some 2)] ⟨(Ctx.rO 1 bM rfl), (Ctx.rO 0 bM rfl), (bM.fro), trivial⟩ (by kernel_rfl) <| WT.val rfl (fun _ hC_ => Yl.xD (g := a) (off := 0) (o := 0) (cs := m) (us := m) rfl zZ rfl Ac (show Sub (r0 a m) _ from hC_) rfl) ?_
    refine WT.val rfl (fun _ hC_ => Yl.xD (g := b) (off := 0) (o := 0) (cs := be) (us := be) rfl wJ rfl wM (show Sub (r0 b be) _ from hC_) rfl) ?_
    refine WT.run to 2 rfl ?_
    obtain ⟨oy, y⟩ := rV y
    obtain ⟨o2, oM, hw, iK⟩ := nK (by omega)
    refine WT.val rfl (fun _ hC_ => Yl.rW (i := aa) rfl rfl hw Fo BP (by omega)) ?_
    obtain ⟨ol, km, ko⟩ := iK aa.toNat _ (getD_some (d := rD.z) (by omega))
    obtain ⟨ds, dL, dU, rfl, c4, eR, eH, eM, eB⟩ := rD.open km
    let pp : LV := (rD.q (dq.getD aa.toNat rD.z) ds dU dL)
    refine WT.val rfl (fun _ hC_ => Yl.wC (cs := pp) rfl Bg rfl (uY BP (tP rfl (tP (rL c4) rfl))) (fun j u hu => by rw [vL]; exact ((Sub.mono (show Sub M _ from hC_) aA)).cell (ko _ _ hu))) ?_
    refine WT.done ?_
    obtain ⟨ap, rs4178_6h, y⟩ := rE y
    obtain ⟨⟨r, A⟩, rs4178_7h, y⟩ := rE y
    refine WA.HN (fun l B => ∃ ag cr cx dt dM cH aw du dN cI ax dv dO cJ ay dw dP cK az ce ck b2 b6 cf cm b3 bd cg co b4 aQ ch cp b5 aL, l 1 = .slice hs ht e9 ∧ l 2 = .slice cy aZ bg ∧ l 3 = pt a ∧ l 7 = pt b ∧ l 9 = iv aa ∧ l 10 = .pointer (some ⟨cr, cx, none⟩) ∧ l 50 = .agg (List.toArray (bF.q r ce b2 ck cf b3 cm cg b4 co ch b5 cp)) ∧ l 51 = iv A ∧ Ctx w F D B ag [CH.row cr cx (bF.q (⟨([] : List sD), ([] : List bT), ([] : List Int), ([] : List Bool), 0⟩ : bF) dt cH dM du cI dN dv cJ dO dw cK dP), aw, ax, ay, az, b6, bd, aQ, aL, r0 b be, r0 a m] ∧ CH.le M ag ∧ oW sD.K ag aw dt cH dM ((⟨([] : List sD), ([] : List bT), ([] : List Int), ([] : List Bool), 0⟩ : bF).Eras) (oW bT.K ag ax du cI dN ((⟨([] : List sD), ([] : List bT), ([] : List Int), ([] : List Bool), 0⟩ : bF).Jobs) (oW KI ag ay dv cJ dO ((⟨([] : List sD), ([] : List bT), ([] : List Int), ([] : List Bool), 0⟩ : bF).Used) (oW Kd.bool ag az dw cK dP ((⟨([] : List sD), ([] : List bT), ([] : List Int), ([] : List Bool), 0⟩ : bF).Barred) (oW sD.K ag b6 ce b2 ck r.Eras (oW bT.K ag bd cf b3 cm r.Jobs (oW KI ag aQ cg b4 co r.Used (b5 = r.Barred.length ∧ Row Kd.bool ag aL (.slice ch b5 cp) r.Barred)))))))) #[true, true, true, true, true, true, true, true, true, true, true, true, false, false] 2 ?_ ?_
    ·intro dk
     refine WA.up2 6 11 (by kernel_rfl) ?_ ?_
     ·refine Up.sI rfl (by kernel_rfl) rfl (xI.calls a7 _ M ds dL dU (dq.getD aa.toNat rD.z) bM.tX c4 eR eH eM (Sl.mono eB aA aA) ap rs4178_6h) (ne.fr rfl rfl) ?_
      rintro cd B ⟨fc, f6, gL, nj, rfl, lA, eC, eS, es⟩
      have cB : Cx [nj, r0 b be, r0 a m] := Ctx.wS bM lA
      refine ⟨_, rfl, ⟨(Ctx.rO 2 cB rfl), (Ctx.rO 1 cB rfl), trivial, trivial⟩, ?_⟩
      refine WA.up2 7 11 (by kernel_rfl) ?_ ?_
      ·obtain ⟨mI, ab, kR, (fT : Cx [r0 b be, r0 a m])⟩ := Ctx.fzI 0 cB rfl
       obtain ⟨i1, ji, iw⟩ := Row.fz es ab kR
       refine Up.sI rfl (by kernel_rfl) rfl (wT.calls a7 _ mI bf aD aq aH aE ar aI aF au aJ aG av aK E fc f6 gL ap fT.tX bt bl bp (Sl.mono bh ab ab) bu bm bq (Sl.mono bi ab ab) bv bn br (Sl.mono bj ab ab) bw bo bs (Sl.mono bk ab ab) eC eS i1 ji iw r A rs4178_7h) (ne.fr rfl rfl) ?_
       rintro cd B ⟨mJ, fd, f7, gM, dV, fe, f8, gN, dW, ff, f9, gO, dX, fg, ga, gP, dY, rfl, kG, lB, jy, hI, jz, hJ, jA, hK, jB, hL⟩
       have lC : Cx [dV, dW, dX, dY, r0 b be, r0 a m] := Ctx.wS fT lB
       refine ⟨_, rfl, ⟨trivial, trivial, trivial, trivial⟩, ?_⟩
       let oN : LV := bF.q r fd gM f7 fe gN f8 ff gO f9 fg gP ga
       refine WA.take none [] 8 rfl (by kernel_rfl) (by kernel_rfl) rfl trivial ⟨trivial, trivial, trivial, trivial⟩ (fun _ hC_ => Yl.move (v := .tuple #[(.agg (List.toArray oN)), (iv A)]) rfl) ?_
       refine WA.take none [] 9 rfl (by kernel_rfl) (by kernel_rfl) rfl trivial ⟨trivial, trivial, trivial, trivial⟩ (fun _ hC_ => Yl.extract (v := .agg (List.toArray oN)) rfl rfl) ?_
       refine WA.take none [] 10 rfl (by kernel_rfl) (by kernel_rfl) rfl trivial ⟨trivial, trivial, trivial, trivial⟩ (fun _ hC_ => Yl.extract (v := iv A) rfl rfl) ?_
       obtain ⟨gJ, o9, kp, lD⟩ := sU (P := Tryz.prog) (e := 50) af lC zN rfl
       refine WA.up1 11 (by kernel_rfl) (Up.val rfl rfl rfl (kp _ _) ⟨trivial, trivial, trivial, trivial⟩ ?_)
       have lE : Cx [r0 gJ af, CH.emp, CH.emp, CH.emp, CH.emp, dV, dW, dX, dY, r0 b be, r0 a m] := lD.pick [0, 7, 7, 7, 7, 1, 2, 3, 4, 5, 6] rfl
       exact dk _ _ ⟨mJ, gJ, 0, none, 0, 0, CH.emp, none, 0, 0, CH.emp, none, 0, 0, CH.emp, none, 0, 0, CH.emp, fd, f7, gM, dV, fe, f8, gN, dW, ff, f9, gO, dX, fg, ga, gP, dY, rfl, rfl, rfl, rfl, rfl, rfl, rfl, rfl, lE, (CH.le_trans ab kG), rfl, (Row.nil _ _), rfl, (Row.nil _ _), rfl, (Row.nil _ _), rfl, (Row.nil _ _), jy, hI, jz, hJ, jA, hK, jB, hL⟩
      ·obtain ⟨cE, pa, kq, dB⟩ := sU (P := Tryz.prog) (e := 50) af cB zN rfl
       refine Up.val rfl rfl rfl (kq _ _) ⟨(Ctx.rO 3 dB rfl), (Ctx.rO 2 dB rfl), trivial, trivial⟩ ?_
       obtain ⟨mK, ac, kS, (fU : Cx [r0 cE af, r0 b be, r0 a m])⟩ := Ctx.fzI 1 dB rfl
       obtain ⟨i2, jj, ix⟩ := Row.fz es ac kS
       refine WA.up1 7 (by kernel_rfl) (Up.sI rfl (by kernel_rfl) rfl (wT.calls a7 _ mK bf aD aq aH aE ar aI aF au aJ aG av aK E fc f6 gL ap fU.tX bt bl bp (Sl.mono bh ac ac) bu bm bq (Sl.mono bi ac ac) bv bn br (Sl.mono bj ac ac) bw bo bs (Sl.mono bk ac ac) eC eS i2 jj ix r A rs4178_7h) (ne.fr rfl rfl) ?_)
       rintro cd B ⟨mL, fh, gb, gQ, dZ, fi, gc, gR, d0, fj, gd, gS, d1, fk, ge, gT, d2, rfl, kH, lF, jC, hM, jD, hN, jE, hO, jF, hP⟩
       have lG : Cx [dZ, d0, d1, d2, r0 cE af, r0 b be, r0 a m] := Ctx.wS fU lF
       refine ⟨_, rfl, ⟨trivial, trivial, trivial, trivial⟩, ?_⟩
       let oO : LV := bF.q r fh gQ gb fi gR gc fj gS gd fk gT ge
       refine WA.take none [] 8 rfl (by kernel_rfl) (by kernel_rfl) rfl trivial ⟨trivial, trivial, trivial, trivial⟩ (fun _ hC_ => Yl.move (v := .tuple #[(.agg (List.toArray oO)), (iv A)]) rfl) ?_
       refine WA.take none [] 9 rfl (by kernel_rfl) (by kernel_rfl) rfl trivial ⟨trivial, trivial, trivial, trivial⟩ (fun _ hC_ => Yl.extract (v := .agg (List.toArray oO)) rfl rfl) ?_
       refine WA.take none [] 10 rfl (by kernel_rfl) (by kernel_rfl) rfl trivial ⟨trivial, trivial, trivial, trivial⟩ (fun _ hC_ => Yl.extract (v := iv A) rfl rfl) ?_
       have lH : Cx [r0 cE af, CH.emp, CH.emp, CH.emp, CH.emp, dZ, d0, d1, d2, r0 b be, r0 a m] := lG.pick [4, 7, 7, 7, 7, 0, 1, 2, 3, 5, 6] rfl
       exact dk _ _ ⟨mL, cE, 0, none, 0, 0, CH.emp, none, 0, 0, CH.emp, none, 0, 0, CH.emp, none, 0, 0, CH.emp, fh, gb, gQ, dZ, fi, gc, gR, d0, fj, gd, gS, d1, fk, ge, gT, d2, rfl, rfl, rfl, rfl, rfl, rfl, rfl, rfl, lH, (CH.le_trans ac kH), rfl, (Row.nil _ _), rfl, (Row.nil _ _), rfl, (Row.nil _ _), rfl, (Row.nil _ _), jC, hM, jD, hN, jE, hO, jF, hP⟩
     ·obtain ⟨ct, pb, kr, ci⟩ := sU (P := Tryz.prog) (e := 50) af bM zN rfl
      refine Up.val rfl rfl rfl (kr _ _) ⟨(Ctx.rO 2 ci rfl), (Ctx.rO 1 ci rfl), (ci.fro), trivial⟩ <| WA.up1 6 (by kernel_rfl) (Up.sI rfl (by kernel_rfl) rfl (xI.calls a7 _ M ds dL dU (dq.getD aa.toNat rD.z) ci.tX c4 eR eH eM (Sl.mono eB aA aA) ap rs4178_6h) (ne.fr rfl rfl) ?_)
      rintro cd B ⟨lp, m3, nd, nk, rfl, lI, iJ, jG, hQ⟩
      have dC : Cx [nk, r0 ct af, r0 b be, r0 a m] := Ctx.wS ci lI
      refine ⟨_, rfl, ⟨(Ctx.rO 3 dC rfl), (Ctx.rO 2 dC rfl), trivial, trivial⟩, ?_⟩
      obtain ⟨mM, ad, kT, (fV : Cx [r0 ct af, r0 b be, r0 a m])⟩ := Ctx.fzI 0 dC rfl
      obtain ⟨i3, jk, iy⟩ := Row.fz hQ ad kT
      refine WA.up1 7 (by kernel_rfl) (Up.sI rfl (by kernel_rfl) rfl (wT.calls a7 _ mM bf aD aq aH aE ar aI aF au aJ aG av aK E lp m3 nd ap fV.tX bt bl bp (Sl.mono bh ad ad) bu bm bq (Sl.mono bi ad ad) bv bn br (Sl.mono bj ad ad) bw bo bs (Sl.mono bk ad ad) iJ jG i3 jk iy r A rs4178_7h) (ne.fr rfl rfl) ?_)
      rintro cd B ⟨mN, fl, gf, gU, d3, fm, gg, gV, d4, fo, gh, gW, d5, fp, gi, gX, d6, rfl, kI, lJ, jH, hR, jI, hS, jJ, hT, jK, hU⟩
      have lK : Cx [d3, d4, d5, d6, r0 ct af, r0 b be, r0 a m] := Ctx.wS fV lJ
      refine ⟨_, rfl, ⟨trivial, trivial, trivial, trivial⟩, ?_⟩
      let oP : LV := bF.q r fl gU gf fm gV gg fo gW gh fp gX gi
      refine WA.take none [] 8 rfl (by kernel_rfl) (by kernel_rfl) rfl trivial ⟨trivial, trivial, trivial, trivial⟩ (fun _ hC_ => Yl.move (v := .tuple #[(.agg (List.toArray oP)), (iv A)]) rfl) ?_
      refine WA.take none [] 9 rfl (by kernel_rfl) (by kernel_rfl) rfl trivial ⟨trivial, trivial, trivial, trivial⟩ (fun _ hC_ => Yl.extract (v := .agg (List.toArray oP)) rfl rfl) ?_
      refine WA.take none [] 10 rfl (by kernel_rfl) (by kernel_rfl) rfl trivial ⟨trivial, trivial, trivial, trivial⟩ (fun _ hC_ => Yl.extract (v := iv A) rfl rfl) ?_
      have lL : Cx [r0 ct af, CH.emp, CH.emp, CH.emp, CH.emp, d3, d4, d5, d6, r0 b be, r0 a m] := lK.pick [4, 7, 7, 7, 7, 0, 1, 2, 3, 5, 6] rfl
      exact dk _ _ ⟨mN, ct, 0, none, 0, 0, CH.emp, none, 0, 0, CH.emp, none, 0, 0, CH.emp, none, 0, 0, CH.emp, fl, gf, gU, d3, fm, gg, gV, d4, fo, gh, gW, d5, fp, gi, gX, d6, rfl, rfl, rfl, rfl, rfl, rfl, rfl, rfl, lL, (CH.le_trans ad kI), rfl, (Row.nil _ _), rfl, (Row.nil _ _), rfl, (Row.nil _ _), rfl, (Row.nil _ _), jH, hR, jI, hS, jJ, hT, jK, hU⟩
    ·rintro l B ⟨ag, cr, cx, dt, dM, cH, aw, du, dN, cI, ax, dv, dO, cJ, ay, dw, dP, cK, az, ce, ck, b2, b6, cf, cm, b3, bd, cg, co, b4, aQ, ch, cp, b5, aL, eZ, e0, e1, dj, e2, e3, kd, ke, lz, Z, oC, op, oD, oq, oE, os, oF, ot, ju, hE, jv, hF, jw, hG, jx, hH⟩
     let cz : LV := bF.q r ce b2 ck cf b3 cm cg b4 co ch b5 cp
     obtain ⟨pc, kt, lM⟩ := vH (P := Tryz.prog) (ps1 := []) (ps2 := [aw, ax, ay, az, b6, bd, aQ, aL, r0 b be, r0 a m]) (t := 50) 0 cz (.agg (List.toArray cz)) lz rfl rfl (rR rfl) wM
     let dr : CH := CH.row cr cx cz
     have bN : Cx [dr, aw, ax, ay, az, b6, bd, aQ, aL, r0 b be, r0 a m] := lM
     refine WA.up1 12 (by kernel_rfl) (Up.skip rfl rfl (kt _ _ _ _ e3 kd) ⟨trivial, trivial, trivial, trivial⟩ ?_)
     refine WA.sZ [(13, none)] ⟨(Ctx.rO 10 bN rfl), (Ctx.rO 9 bN rfl), (bN.fro.mono Z), trivial⟩ (by kernel_rfl) <| WT.val rfl (fun _ hC_ => Yl.assign (v := iv A) (by exact ke)) ?_
     refine WT.done <| WA.done (by kernel_rfl) <| W.sr rfl <| WL.rd to 2 rfl ?_
     rcases rT y with ⟨c6, y⟩ | ⟨c6, y⟩
     ·refine W.cT c6 rfl <| W.region rfl ?_
      refine WL.val (Yl.xD (g := cr) (off := cx) (o := 0) (cs := cz) (us := cz) e3 wJ rfl wM (Ctx.rO 0 bN rfl) rfl) <| WL.st bN 9 0 cz rfl dj rfl rfl (Put.lit 0 rfl) (rR rfl) wM fun B (lN : Cx [dr, aw, ax, ay, az, b6, bd, aQ, aL, r0 b cz, r0 a m]) => ?_
      refine WL.done <| tH <| W.region rfl ?_
      refine WL.val (Yl.move (v := iv aa) e2) <| WL.rd to 2 rfl ?_
      obtain ⟨oZ, bB, kU, (lO : Cx [dr, aw, ax, ay, az, bd, aQ, aL, r0 b cz, r0 a m])⟩ := Ctx.fzI 5 lN rfl
      obtain ⟨i4, jl, iz⟩ := Row.fz hE bB kU
      have hV := Row.mono hF bB
      have hW := Row.mono hG bB
      have hX := Row.mono hH bB
      obtain ⟨o0, aX, kV, (lP : Cx [dr, aw, ax, ay, az, aQ, aL, r0 b cz, r0 a m])⟩ := Ctx.fzI 5 lO rfl
      obtain ⟨i5, jm, iA⟩ := Row.fz hV aX kV
      have hY := Row.mono hW aX
      have hZ := Row.mono hX aX
      obtain ⟨o1, aP, kW, (lQ : Cx [dr, aw, ax, ay, az, aL, r0 b cz, r0 a m])⟩ := Ctx.fzI 5 lP rfl
      obtain ⟨i6, jn, iB⟩ := Row.fz hY aP kW
      have h0 := Row.mono hZ aP
      obtain ⟨mO, aC, kX, (lR : Cx [dr, aw, ax, ay, az, r0 b cz, r0 a m])⟩ := Ctx.fzI 5 lQ rfl
      obtain ⟨i7, jo, iC⟩ := Row.fz h0 aC kX
      have lS : Cx [r0 b cz, r0 a m] := lR.pick [5, 6] rfl
      exact rF ⟨a7, Nat.lt_succ_self _, rB (aa + 1), r, mO, ce, ck, b2, cf, cm, b3, cg, co, b4, ch, cp, b5, (.c eZ (.c e0 (.c e1 (.c dj (.c rfl .n))))), lS, (CH.le_trans aA (CH.le_trans Z (CH.le_trans bB (CH.le_trans aX (CH.le_trans aP aC))))), ju, i4, jl, (Sl.mono iz (CH.le_trans aX (CH.le_trans aP aC)) (CH.le_trans aX (CH.le_trans aP aC))), jv, i5, jm, (Sl.mono iA (CH.le_trans aP aC) (CH.le_trans aP aC)), jw, i6, jn, (Sl.mono iB aC aC), jx, i7, jo, iC, y⟩
     refine W.cF c6 rfl <| W.skip <| tH <| W.region rfl ?_
     refine WL.val (Yl.move (v := iv aa) e2) <| WL.rd to 2 rfl ?_
     have lT : Cx [r0 b be, r0 a m] := bN.pick [9, 10] rfl
     exact rF ⟨a7, Nat.lt_succ_self _, rB (aa + 1), E, ag, aD, aq, aH, aE, ar, aI, aF, au, aJ, aG, av, aK, (.c eZ (.c e0 (.c e1 (.c dj (.c rfl .n))))), lT, (CH.le_trans aA Z), bt, bl, bp, (Sl.mono bh Z Z), bu, bm, bq, (Sl.mono bi Z Z), bv, bn, br, (Sl.mono bj Z Z), bw, bo, bs, (Sl.mono bk Z Z), y⟩
   refine W.cF c5 rfl <| W.exit <| rM <| rM <| sL ?_
   cases y
   refine rF ?_
   exact ⟨M, aD, aq, aH, aE, ar, aI, aF, au, aJ, aG, av, aK, rfl, fS, aA, bt, bl, bp, bh, bu, bm, bq, bi, bv, bn, br, bj, bw, bo, bs, bk⟩
  ·rintro l B ⟨X, bD, a2, bY, bE, a3, bZ, bG, a4, b0, bH, a5, b1, kb, cA, Y, eN, eD, eI, ex, eO, eE, eJ, ey, eP, eF, eK, ez, eQ, eG, eL, eA⟩
   apply ks l kb
   refine W.sr rfl <| WL.la cA 1 rfl rfl zZ rfl Ac <| WL.la cA 0 rfl rfl wJ rfl wM ?_
   obtain ⟨⟨hq, cc⟩, iL, H⟩ := rE H
   refine WL.sI (rX.calls k _ X bf bD a2 bY bE a3 bZ bG a4 b0 bH a5 b1 N cA.tX eN eD eI ex eO eE eJ ey eP eF eK ez eQ eG eL eA hq cc iL) (ne.fr rfl rfl) ?_
   rintro cd B ⟨lq, m4, nf, nl, rfl, lU, jL, h1⟩
   refine ⟨_, rfl, ?_⟩
   let x : LV := bF.q N bD bY a2 bE bZ a3 bG b0 a4 bH b1 a5
   have dD : Cx [nl, r0 b x, r0 a m] := Ctx.wS cA lU
   refine WL.rd to 5 rfl <| W.seq ?_
   obtain ⟨ni, T, H⟩ := rE H
   refine W.vG (fun l B => Kn l [(2, .slice cy aZ bg), (3, pt a), (13, iv cc)] ∧ Ctx w F D B X [r0 b x, r0 a m] ∧ ni = Sum.inl ()) ?_ ?_
   ·refine W.sr rfl <| WL.rd to 2 rfl ?_
    rcases rT T with ⟨c7, T⟩ | ⟨c7, T⟩
    ·refine W.cT c7 rfl <| W.sr rfl <| WL.la dD 2 rfl rfl zZ rfl Ac <| WL.run to 1 rfl ?_
     obtain ⟨mP, ae, kY, (fW : Cx [r0 b x, r0 a m])⟩ := Ctx.fzI 0 dD rfl
     obtain ⟨i8, jp, iD⟩ := Row.fz h1 ae kY
     obtain ⟨⟨eo, np⟩, iM, T⟩ := rE T
     refine WL.sI (sC.calls k _ mP bf lq m4 nf hq fW.tX jL i8 jp iD eo np iM) (ne.fr rfl rfl) ?_
     rintro cd B ⟨mQ, fq, gj, gY, b7, fs, gk, gZ, b8, ft, gl, g0, b9, fu, gm, g1, ca, rfl, an, lW, jM, cR, jN, cS, jO, cU, jP, cV⟩
     refine ⟨_, rfl, ?_⟩
     have lX : Cx [b7, b8, b9, ca, r0 b x, r0 a m] := Ctx.wS fW lW
     refine WL.run to 3 rfl ?_
     obtain ⟨bV, pd, ku, lY⟩ := sU (P := Tryz.prog) (e := 50) af lX zN rfl
     refine WL.val (ku _ _) ?_
     let dm : LV := bF.q eo fq gY gj fs gZ gk ft g0 gl fu g1 gm
     refine WL.st lY 0 0 dm rfl rfl rfl rfl (Put.lit 0 rfl) (rR rfl) wM fun B (cj : Cx [r0 bV dm, b7, b8, b9, ca, r0 b x, r0 a m]) => ?_
     refine WL.rd to 1 rfl <| W.seq ?_
     obtain ⟨nx, aN, T⟩ := rE T
     refine W.vG (fun l B => Kn l [(2, .slice cy aZ bg), (3, pt a), (13, iv cc), (76, .bool nx)] ∧ Ctx w F D B mQ [r0 bV dm, b7, b8, b9, ca, r0 b x, r0 a m]) ?_ ?_
     ·refine W.region rfl ?_
      refine WL.run to 3 rfl ?_
      rcases rT aN with ⟨c8, aN⟩ | ⟨c8, aN⟩
      ·refine WL.kn 71 (cb (wP c8)) <| WL.laG cj 0 rfl rfl rfl rfl wJ rfl wM <| WL.laG cj 5 rfl rfl rfl rfl wJ rfl wM <| WL.on rfl rfl ?_
       obtain ⟨mR, V, ⟨kZ, k0, k1, k2, _⟩, lZ⟩ := Ctx.B1 [b7, b8, b9, ca] (ps := [r0 bV dm, r0 b x, r0 a m]) (Ctx.pick [1, 2, 3, 4, 0, 5, 6] cj rfl)
       obtain ⟨nq, iN, aN⟩ := rE aN
       refine WL.sI (sB.calls k _ mR fq gj gY fs gk gZ ft gl g0 fu gm g1 eo bD a2 bY bE a3 bZ bG a4 b0 bH a5 b1 N (lZ.pq 0) jM (Row.rP cR).1 (Row.rP cR).2.1 (Sl.mono (Row.sl cR) V kZ) jN (Row.rP cS).1 (Row.rP cS).2.1 (Sl.mono (Row.sl cS) V k0) jO (Row.rP cU).1 (Row.rP cU).2.1 (Sl.mono (Row.sl cU) V k1) jP (Row.rP cV).1 (Row.rP cV).2.1 (Sl.mono (Row.sl cV) V k2) eN eD eI (Sl.mono ex (CH.le_trans (CH.le_trans ae an) V) (CH.le_trans (CH.le_trans ae an) V)) eO eE eJ (Sl.mono ey (CH.le_trans (CH.le_trans ae an) V) (CH.le_trans (CH.le_trans ae an) V)) eP eF eK (Sl.mono ez (CH.le_trans (CH.le_trans ae an) V) (CH.le_trans (CH.le_trans ae an) V)) eQ eG eL (Sl.mono eA (CH.le_trans (CH.le_trans ae an) V) (CH.le_trans (CH.le_trans ae an) V)) nq iN) (ne.fr rfl rfl) ?_
       rintro cd B ⟨rfl, l0⟩
       refine ⟨_, rfl, ?_⟩
       have l2 : Cx [r0 bV dm, b7, b8, b9, ca, r0 b x, r0 a m] := Ctx.cl 0 cj V l0
       refine WL.rd to 2 rfl ?_
       cases aN
       refine rF ?_
       exact ⟨rfl, l2⟩
      refine WL.kn 71 (cb (wQ c8)) <| WL.sN 4 71 false rfl rfl <| WL.rd to 1 rfl ?_
      cases aN
      refine rF ?_
      exact ⟨rfl, cj⟩
     ·rintro l B ⟨kg, fX⟩
      apply ks l kg
      rcases rT T with ⟨c9, T⟩ | ⟨c9, T⟩
      ·refine W.uI (cb c9) <| W.sr rfl <| WL.rd to 1 rfl <| W.ret <| rS <| rS ?_
       cases T
       replace H := wB H
       have l3 : Cx [] := fX.pick [] rfl
       have m7 := Option.some.inj H
       subst m7
       exact rH (sE rfl rfl) ⟨rfl, (Ctx.Ea l3 (CH.le_refl _))⟩
      refine W.uD (cb (Bool.eq_false_iff.2 c9)) <| W.skip ?_
      have l4 : Cx [r0 b x, r0 a m] := fX.pick [5, 6] rfl
      have l5 := Ctx.lower l4 Y (CH.le_trans ae an)
      cases T
      refine rF ?_
      exact ⟨rfl, l5, rfl⟩
    refine W.cF c7 rfl <| W.skip ?_
    have l6 : Cx [r0 b x, r0 a m] := dD.pick [1, 2] rfl
    cases T
    refine rF ?_
    exact ⟨rfl, l6, rfl⟩
   ·rintro l B ⟨kf, lV, rfl⟩
    replace H := wI H
    apply ks l kf
    refine W.seq <| W.uF [([4, 9], r0 a m)] (by kernel_rfl) ?_
    have dE := Ctx.drewN lV 1
    refine WA.sZ [(0, some 0), (2, none)] ⟨(Ctx.rO 1 dE rfl), trivial⟩ (by kernel_rfl) <| WT.val rfl (fun _ hC_ => Yl.xD (g := a) (off := 0) (o := 0) (cs := m) (us := m) rfl zZ rfl Ac (show Sub (r0 a m) _ from hC_) rfl) ?_
    refine WT.run to 1 rfl <| WT.done ?_
    obtain ⟨da, H⟩ := rV H
    obtain ⟨⟨h, s⟩, rs5210_4h, H⟩ := rE H
    refine WA.HN (fun l B => ∃ ah a6 bc dx dQ cL G dy dR cM I dz dS cN J dA dT cO L bI bQ a8 O bJ bR a9 Q bK bS ba R bL bU bb S, l 2 = .slice cy aZ bg ∧ l 3 = pt a ∧ l 13 = iv cc ∧ l 16 = .pointer (some ⟨a6, bc, none⟩) ∧ l 83 = .agg (List.toArray (bF.q h bI a8 bQ bJ a9 bR bK ba bS bL bb bU)) ∧ l 84 = iv s ∧ Ctx w F D B ah [CH.row a6 bc (bF.q (⟨([] : List sD), ([] : List bT), ([] : List Int), ([] : List Bool), 0⟩ : bF) dx cL dQ dy cM dR dz cN dS dA cO dT), G, I, J, L, O, Q, R, S, r0 b x, r0 a m] ∧ CH.le X ah ∧ oW sD.K ah G dx cL dQ ((⟨([] : List sD), ([] : List bT), ([] : List Int), ([] : List Bool), 0⟩ : bF).Eras) (oW bT.K ah I dy cM dR ((⟨([] : List sD), ([] : List bT), ([] : List Int), ([] : List Bool), 0⟩ : bF).Jobs) (oW KI ah J dz cN dS ((⟨([] : List sD), ([] : List bT), ([] : List Int), ([] : List Bool), 0⟩ : bF).Used) (oW Kd.bool ah L dA cO dT ((⟨([] : List sD), ([] : List bT), ([] : List Int), ([] : List Bool), 0⟩ : bF).Barred) (oW sD.K ah O bI a8 bQ h.Eras (oW bT.K ah Q bJ a9 bR h.Jobs (oW KI ah R bK ba bS h.Used (bb = h.Barred.length ∧ Row Kd.bool ah S (.slice bL bb bU) h.Barred)))))))) #[true, true, true, true, true, true, true, true, true, false, false] 2 ?_ ?_
    ·intro cv
     refine WA.up2 1 8 (by kernel_rfl) ?_ ?_
     ·obtain ⟨oT, o3, o5, o7, pe, oK, kv, cC, et⟩ := yC (P := Tryz.prog) 5 KB dE tG ti5
      refine Up.val rfl rfl rfl (kv _ _) ⟨(Ctx.rO 2 cC rfl), trivial⟩ <| WA.up2 3 8 (by kernel_rfl) ?_ ?_
      ·obtain ⟨fv, gn, g2, nm, pf, di, kw, l8, cW⟩ := sP (P := Tryz.prog) (cb := bg) 5 KB [] [r0 b x, r0 a m] cC et dh (Sl.mono c3 Y Y) cC.fro tG ti5 rfl zo5 (by decide) (by decide) (by simpa using da)
       have dF : Cx [nm, r0 b x, r0 a m] := l8
       rw [List.nil_append] at di cW
       refine Up.val rfl rfl rfl (kw _ _ _ _ rfl rfl) ⟨(Ctx.rO 2 dF rfl), trivial⟩ <| WA.up2 4 8 (by kernel_rfl) ?_ ?_
       ·obtain ⟨mS, e4, k3, (fY : Cx [r0 b x, r0 a m])⟩ := Ctx.fzI 0 dF rfl
        obtain ⟨i9, jq, iE⟩ := Row.fz cW e4 k3
        refine Up.sI rfl (by kernel_rfl) rfl (sC.calls k _ mS bf fv gn g2 cQ fY.tX di i9 jq iE h s rs5210_4h) (ne.fr rfl rfl) ?_
        rintro cd B ⟨mT, fw, go, g3, d7, fx, gp, g4, d8, fy, gq, g5, d9, fA, gr, g6, ea, rfl, kJ, l9, jQ, h6, jR, h7, jS, h8, jT, h9⟩
        have ma : Cx [d7, d8, d9, ea, r0 b x, r0 a m] := Ctx.wS fY l9
        refine ⟨_, rfl, ⟨trivial, trivial⟩, ?_⟩
        let nQ : LV := bF.q h fw g3 go fx g4 gp fy g5 gq fA g6 gr
        refine WA.take none [] 5 rfl (by kernel_rfl) (by kernel_rfl) rfl trivial ⟨trivial, trivial⟩ (fun _ hC_ => Yl.move (v := .tuple #[(.agg (List.toArray nQ)), (iv s)]) rfl) ?_
        refine WA.take none [] 6 rfl (by kernel_rfl) (by kernel_rfl) rfl trivial ⟨trivial, trivial⟩ (fun _ hC_ => Yl.extract (v := .agg (List.toArray nQ)) rfl rfl) ?_
        refine WA.take none [] 7 rfl (by kernel_rfl) (by kernel_rfl) rfl trivial ⟨trivial, trivial⟩ (fun _ hC_ => Yl.extract (v := iv s) rfl rfl) ?_
        obtain ⟨gK, pg, kx, mb⟩ := sU (P := Tryz.prog) (e := 50) af ma zN rfl
        refine WA.up1 8 (by kernel_rfl) (Up.val rfl rfl rfl (kx _ _) ⟨trivial, trivial⟩ ?_)
        have mc : Cx [r0 gK af, CH.emp, CH.emp, CH.emp, CH.emp, d7, d8, d9, ea, r0 b x, r0 a m] := mb.pick [0, 7, 7, 7, 7, 1, 2, 3, 4, 5, 6] rfl
        exact cv _ _ ⟨mT, gK, 0, none, 0, 0, CH.emp, none, 0, 0, CH.emp, none, 0, 0, CH.emp, none, 0, 0, CH.emp, fw, go, g3, d7, fx, gp, g4, d8, fy, gq, g5, d9, fA, gr, g6, ea, rfl, rfl, rfl, rfl, rfl, rfl, mc, (CH.le_trans e4 kJ), rfl, (Row.nil _ _), rfl, (Row.nil _ _), rfl, (Row.nil _ _), rfl, (Row.nil _ _), jQ, h6, jR, h7, jS, h8, jT, h9⟩
       ·obtain ⟨cG, ph, ky, fZ⟩ := sU (P := Tryz.prog) (e := 50) af dF zN rfl
        refine Up.val rfl rfl rfl (ky _ _) ⟨(Ctx.rO 3 fZ rfl), trivial⟩ ?_
        obtain ⟨mU, e5, k4, (f0 : Cx [r0 cG af, r0 b x, r0 a m])⟩ := Ctx.fzI 1 fZ rfl
        obtain ⟨ja, jr, iG⟩ := Row.fz cW e5 k4
        refine WA.up1 4 (by kernel_rfl) (Up.sI rfl (by kernel_rfl) rfl (sC.calls k _ mU bf fv gn g2 cQ f0.tX di ja jr iG h s rs5210_4h) (ne.fr rfl rfl) ?_)
        rintro cd B ⟨mV, fB, gs, g7, eb, fC, gt, g8, ec, fD, gu, g9, ed, fE, gv, ha, ee, rfl, kK, md, jU, ia, jV, ib, jW, ic, jX, id⟩
        have me : Cx [eb, ec, ed, ee, r0 cG af, r0 b x, r0 a m] := Ctx.wS f0 md
        refine ⟨_, rfl, ⟨trivial, trivial⟩, ?_⟩
        let nR : LV := bF.q h fB g7 gs fC g8 gt fD g9 gu fE ha gv
        refine WA.take none [] 5 rfl (by kernel_rfl) (by kernel_rfl) rfl trivial ⟨trivial, trivial⟩ (fun _ hC_ => Yl.move (v := .tuple #[(.agg (List.toArray nR)), (iv s)]) rfl) ?_
        refine WA.take none [] 6 rfl (by kernel_rfl) (by kernel_rfl) rfl trivial ⟨trivial, trivial⟩ (fun _ hC_ => Yl.extract (v := .agg (List.toArray nR)) rfl rfl) ?_
        refine WA.take none [] 7 rfl (by kernel_rfl) (by kernel_rfl) rfl trivial ⟨trivial, trivial⟩ (fun _ hC_ => Yl.extract (v := iv s) rfl rfl) ?_
        have mf : Cx [r0 cG af, CH.emp, CH.emp, CH.emp, CH.emp, eb, ec, ed, ee, r0 b x, r0 a m] := me.pick [4, 7, 7, 7, 7, 0, 1, 2, 3, 5, 6] rfl
        exact cv _ _ ⟨mV, cG, 0, none, 0, 0, CH.emp, none, 0, 0, CH.emp, none, 0, 0, CH.emp, none, 0, 0, CH.emp, fB, gs, g7, eb, fC, gt, g8, ec, fD, gu, g9, ed, fE, gv, ha, ee, rfl, rfl, rfl, rfl, rfl, rfl, mf, (CH.le_trans e5 kK), rfl, (Row.nil _ _), rfl, (Row.nil _ _), rfl, (Row.nil _ _), rfl, (Row.nil _ _), jU, ia, jV, ib, jW, ic, jX, id⟩
      ·obtain ⟨bW, pi, kz, dG⟩ := sU (P := Tryz.prog) (e := 50) af cC zN rfl
       refine Up.val rfl rfl rfl (kz _ _) ⟨(Ctx.rO 3 dG rfl), trivial⟩ ?_
       obtain ⟨lr, m5, ng, nn, pj, eX, kA, mg, eu⟩ := sP (P := Tryz.prog) (cb := bg) 5 KB [r0 bW af] [r0 b x, r0 a m] dG et dh (Sl.mono c3 Y Y) dG.fro tG ti5 rfl zo5 (by decide) (by decide) (by simpa using da)
       have f1 : Cx [r0 bW af, nn, r0 b x, r0 a m] := mg
       rw [List.nil_append] at eX eu
       refine WA.up1 3 (by kernel_rfl) (Up.val rfl rfl rfl (kA _ _ _ _ rfl rfl) ⟨(Ctx.rO 3 f1 rfl), trivial⟩ ?_)
       obtain ⟨mW, e6, k5, (f2 : Cx [r0 bW af, r0 b x, r0 a m])⟩ := Ctx.fzI 1 f1 rfl
       obtain ⟨jb, js, iH⟩ := Row.fz eu e6 k5
       refine WA.up1 4 (by kernel_rfl) (Up.sI rfl (by kernel_rfl) rfl (sC.calls k _ mW bf lr m5 ng cQ f2.tX eX jb js iH h s rs5210_4h) (ne.fr rfl rfl) ?_)
       rintro cd B ⟨mX, fF, gw, hb, ef, fG, gx, hc, eg, fH, gy, hd, eh, fI, gz, he, ei, rfl, kL, mh, jY, ie, jZ, ig, j0, ih, j1, ii⟩
       have mi : Cx [ef, eg, eh, ei, r0 bW af, r0 b x, r0 a m] := Ctx.wS f2 mh
       refine ⟨_, rfl, ⟨trivial, trivial⟩, ?_⟩
       let nS : LV := bF.q h fF hb gw fG hc gx fH hd gy fI he gz
       refine WA.take none [] 5 rfl (by kernel_rfl) (by kernel_rfl) rfl trivial ⟨trivial, trivial⟩ (fun _ hC_ => Yl.move (v := .tuple #[(.agg (List.toArray nS)), (iv s)]) rfl) ?_
       refine WA.take none [] 6 rfl (by kernel_rfl) (by kernel_rfl) rfl trivial ⟨trivial, trivial⟩ (fun _ hC_ => Yl.extract (v := .agg (List.toArray nS)) rfl rfl) ?_
       refine WA.take none [] 7 rfl (by kernel_rfl) (by kernel_rfl) rfl trivial ⟨trivial, trivial⟩ (fun _ hC_ => Yl.extract (v := iv s) rfl rfl) ?_
       have mj : Cx [r0 bW af, CH.emp, CH.emp, CH.emp, CH.emp, ef, eg, eh, ei, r0 b x, r0 a m] := mi.pick [4, 7, 7, 7, 7, 0, 1, 2, 3, 5, 6] rfl
       exact cv _ _ ⟨mX, bW, 0, none, 0, 0, CH.emp, none, 0, 0, CH.emp, none, 0, 0, CH.emp, none, 0, 0, CH.emp, fF, gw, hb, ef, fG, gx, hc, eg, fH, gy, hd, eh, fI, gz, he, ei, rfl, rfl, rfl, rfl, rfl, rfl, mj, (CH.le_trans e6 kL), rfl, (Row.nil _ _), rfl, (Row.nil _ _), rfl, (Row.nil _ _), rfl, (Row.nil _ _), jY, ie, jZ, ig, j0, ih, j1, ii⟩
     ·obtain ⟨bX, pk, kB, f3⟩ := sU (P := Tryz.prog) (e := 50) af dE zN rfl
      refine Up.val rfl rfl rfl (kB _ _) ⟨(Ctx.rO 2 f3 rfl), trivial⟩ ?_
      obtain ⟨oU, o4, o6, o8, pl, oL, kC, dH, ij⟩ := yC (P := Tryz.prog) 5 KB f3 tG ti5
      refine WA.up1 1 (by kernel_rfl) (Up.val rfl rfl rfl (kC _ _) ⟨(Ctx.rO 3 dH rfl), trivial⟩ ?_)
      obtain ⟨ls, m6, nh, no, pm, eY, kD, ml, ew⟩ := sP (P := Tryz.prog) (cb := bg) 5 KB [] [r0 bX af, r0 b x, r0 a m] dH ij dh (Sl.mono c3 Y Y) dH.fro tG ti5 rfl zo5 (by decide) (by decide) (by simpa using da)
      have f4 : Cx [no, r0 bX af, r0 b x, r0 a m] := ml
      rw [List.nil_append] at eY ew
      refine WA.up1 3 (by kernel_rfl) (Up.val rfl rfl rfl (kD _ _ _ _ rfl rfl) ⟨(Ctx.rO 3 f4 rfl), trivial⟩ ?_)
      obtain ⟨mY, e7, k6, (f5 : Cx [r0 bX af, r0 b x, r0 a m])⟩ := Ctx.fzI 0 f4 rfl
      obtain ⟨jc, jt, iI⟩ := Row.fz ew e7 k6
      refine WA.up1 4 (by kernel_rfl) (Up.sI rfl (by kernel_rfl) rfl (sC.calls k _ mY bf ls m6 nh cQ f5.tX eY jc jt iI h s rs5210_4h) (ne.fr rfl rfl) ?_)
      rintro cd B ⟨mZ, fJ, gA, hf, ej, fK, gB, hg, ek, fL, gC, hh, el, fM, gD, hi, em, rfl, kM, mm, j2, ik, j3, il, j4, im, j5, io⟩
      have mn : Cx [ej, ek, el, em, r0 bX af, r0 b x, r0 a m] := Ctx.wS f5 mm
      refine ⟨_, rfl, ⟨trivial, trivial⟩, ?_⟩
      let nU : LV := bF.q h fJ hf gA fK hg gB fL hh gC fM hi gD
      refine WA.take none [] 5 rfl (by kernel_rfl) (by kernel_rfl) rfl trivial ⟨trivial, trivial⟩ (fun _ hC_ => Yl.move (v := .tuple #[(.agg (List.toArray nU)), (iv s)]) rfl) ?_
      refine WA.take none [] 6 rfl (by kernel_rfl) (by kernel_rfl) rfl trivial ⟨trivial, trivial⟩ (fun _ hC_ => Yl.extract (v := .agg (List.toArray nU)) rfl rfl) ?_
      refine WA.take none [] 7 rfl (by kernel_rfl) (by kernel_rfl) rfl trivial ⟨trivial, trivial⟩ (fun _ hC_ => Yl.extract (v := iv s) rfl rfl) ?_
      have mo : Cx [r0 bX af, CH.emp, CH.emp, CH.emp, CH.emp, ej, ek, el, em, r0 b x, r0 a m] := mn.pick [4, 7, 7, 7, 7, 0, 1, 2, 3, 5, 6] rfl
      exact cv _ _ ⟨mZ, bX, 0, none, 0, 0, CH.emp, none, 0, 0, CH.emp, none, 0, 0, CH.emp, none, 0, 0, CH.emp, fJ, gA, hf, ej, fK, gB, hg, ek, fL, gC, hh, el, fM, gD, hi, em, rfl, rfl, rfl, rfl, rfl, rfl, mo, (CH.le_trans e7 kM), rfl, (Row.nil _ _), rfl, (Row.nil _ _), rfl, (Row.nil _ _), rfl, (Row.nil _ _), j2, ik, j3, il, j4, im, j5, io⟩
    ·rintro l B ⟨ah, a6, bc, dx, dQ, cL, G, dy, dR, cM, I, dz, dS, cN, J, dA, dT, cO, L, bI, bQ, a8, O, bJ, bR, a9, Q, bK, bS, ba, R, bL, bU, bb, S, cu, bx, kh, bz, ki, kj, l7, cw, oG, ou, oH, ov, oI, ow, oJ, ox, eT, h2, eU, h3, eV, h4, eW, h5⟩
     let dp : LV := bF.q h bI a8 bQ bJ a9 bR bK ba bS bL bb bU
     obtain ⟨pn, kE, mq⟩ := vH (P := Tryz.prog) (ps1 := []) (ps2 := [G, I, J, L, O, Q, R, S, r0 b x, r0 a m]) (t := 50) 0 dp (.agg (List.toArray dp)) l7 rfl rfl (rR rfl) wM
     let aR : CH := CH.row a6 bc dp
     have cD : Cx [aR, G, I, J, L, O, Q, R, S, r0 b x, r0 a m] := mq
     refine WA.up1 9 (by kernel_rfl) (Up.skip rfl rfl (kE _ _ _ _ bz ki) ⟨trivial, trivial⟩ ?_)
     refine WA.sZ [(10, none)] ⟨(Ctx.rO 10 cD rfl), trivial⟩ (by kernel_rfl) <| WT.val rfl (fun _ hC_ => Yl.assign (v := iv s) (by exact kj)) ?_
     refine WT.done <| WA.done (by kernel_rfl) <| W.sr rfl <| WL.val (Yl.xD (g := a) (off := 0) (o := 0) (cs := m) (us := m) bx zZ rfl Ac (Ctx.rO 10 cD rfl) rfl) <| WL.val (Yl.move (v := .slice cy aZ bg) cu) ?_
     obtain ⟨⟨ep, nr⟩, iO, H⟩ := rE H
     refine WL.sI (rU.calls k _ ah bf cy bg aZ cQ cD.tX dh iW jd (Sl.mono c3 (CH.le_trans Y cw) (CH.le_trans Y cw)) ep nr iO) (ne.fr rfl rfl) ?_
     rintro cd B ⟨bP, fN, gE, hj, aj, fO, gF, hk, ak, fP, gG, hl, al, fQ, gH, hm, am, rfl, aY, mr, j6, cX, j7, cY, j8, cZ, j9, c1⟩
     refine ⟨_, rfl, ?_⟩
     have ms : Cx [aj, ak, al, am, aR, G, I, J, L, O, Q, R, S, r0 b x, r0 a m] := Ctx.wS cD mr
     have aS := Row.mono h2 aY
     have aT := Row.mono h3 aY
     have aU := Row.mono h4 aY
     have aV := Row.mono h5 aY
     refine WL.run to 3 rfl ?_
     obtain ⟨ai, po, kF, mt⟩ := sU (P := Tryz.prog) (e := 50) af ms zN rfl
     refine WL.val (kF _ _) ?_
     let a0 : LV := bF.q ep fN hj gE fO hk gF fP hl gG fQ hm gH
     refine WL.st mt 0 0 a0 rfl rfl rfl rfl (Put.lit 0 rfl) (rR rfl) wM fun B (dI : Cx [r0 ai a0, aj, ak, al, am, aR, G, I, J, L, O, Q, R, S, r0 b x, r0 a m]) => ?_
     refine WL.rd to 1 rfl <| W.seq <| W.seq ?_
     obtain ⟨ny, U, H⟩ := rE H
     refine W.vG (fun l B => Kn l [(2, .slice cy aZ bg), (3, pt a), (16, .pointer (some ⟨a6, bc, none⟩)), (17, iv s), (106, .bool ny)] ∧ Ctx w F D B bP [r0 ai a0, aj, ak, al, am, aR, G, I, J, L, O, Q, R, S, r0 b x, r0 a m]) ?_ ?_
     ·refine W.region rfl ?_
      refine WL.val (Yl.move (v := iv cc) kh) <| WL.run to 1 rfl <| WL.val (Yl.xD (g := a) (off := 0) (o := 0) (cs := m) (us := m) bx zZ rfl Ac (Ctx.rO 15 dI rfl) rfl) ?_
      obtain ⟨hr, iP, U⟩ := rE U
      refine WL.c0 dI (vQ.calls k _ bP bf dI.tX  hr iP) (ne.fr rfl rfl) fun B bO => ?_
      refine WL.val (Yl.KF (p := decide (cc = 0)) (q := hr) rfl rfl u_4) <| WL.run to 1 rfl ?_
      rcases rT U with ⟨db, U⟩ | ⟨db, U⟩
      ·refine WL.kn 96 (cb (wP db)) <| WL.run to 5 rfl ?_
       rcases rT U with ⟨dc, U⟩ | ⟨dc, U⟩
       ·refine WL.kn 101 (cb (wP dc)) <| WL.xC rfl rfl (Yl.xD (g := a6) (off := bc) (o := 0) (cs := dp) (us := dp) bz wJ rfl wM (Ctx.rO 5 bO rfl) rfl) <| WL.laG bO 0 rfl rfl rfl rfl wJ rfl wM <| WL.on rfl rfl ?_
        obtain ⟨m0, ao, ⟨k7, k8, k9, lb, lc, ld, lf, lg, _⟩, mu⟩ := Ctx.B1 [O, Q, R, S, aj, ak, al, am] (ps := [r0 ai a0, aR, G, I, J, L, r0 b x, r0 a m]) (Ctx.pick [10, 11, 12, 13, 1, 2, 3, 4, 0, 5, 6, 7, 8, 9, 14, 15] bO rfl)
        obtain ⟨ns, iQ, U⟩ := rE U
        refine WL.sI (sB.calls k _ m0 bI bQ a8 bJ bR a9 bK bS ba bL bU bb h fN gE hj fO gF hk fP gG hl fQ gH hm ep (mu.pq 0) eT (Row.rP aS).1 (Row.rP aS).2.1 (Sl.mono (Row.sl aS) ao k7) eU (Row.rP aT).1 (Row.rP aT).2.1 (Sl.mono (Row.sl aT) ao k8) eV (Row.rP aU).1 (Row.rP aU).2.1 (Sl.mono (Row.sl aU) ao k9) eW (Row.rP aV).1 (Row.rP aV).2.1 (Sl.mono (Row.sl aV) ao lb) j6 (Row.rP cX).1 (Row.rP cX).2.1 (Sl.mono (Row.sl cX) ao lc) j7 (Row.rP cY).1 (Row.rP cY).2.1 (Sl.mono (Row.sl cY) ao ld) j8 (Row.rP cZ).1 (Row.rP cZ).2.1 (Sl.mono (Row.sl cZ) ao lf) j9 (Row.rP c1).1 (Row.rP c1).2.1 (Sl.mono (Row.sl c1) ao lg) ns iQ) (ne.fr rfl rfl) ?_
        rintro cd B ⟨rfl, mv⟩
        refine ⟨_, rfl, ?_⟩
        have mw : Cx [r0 ai a0, aj, ak, al, am, aR, G, I, J, L, O, Q, R, S, r0 b x, r0 a m] := Ctx.cl 0 bO ao mv
        refine WL.rd to 2 rfl ?_
        cases U
        refine rF ?_
        exact ⟨(.c cu (.c bx (.c bz (.c rfl (.c rfl .n))))), mw⟩
       refine WL.kn 101 (cb (wQ dc)) <| WL.sN 4 101 false rfl rfl <| WL.rd to 1 rfl ?_
       cases U
       refine rF ?_
       exact ⟨(.c cu (.c bx (.c bz (.c rfl (.c rfl .n))))), bO⟩
      refine WL.kn 96 (cb (wQ db)) <| WL.sN 3 96 false rfl rfl <| WL.run to 2 rfl <| WL.sN 4 101 false rfl rfl <| WL.rd to 1 rfl ?_
      cases U
      refine rF ?_
      exact ⟨(.c cu (.c bx (.c bz (.c rfl (.c rfl .n))))), bO⟩
     ·rintro l B ⟨kk, a1⟩
      apply ks l kk
      rcases rT H with ⟨dd, H⟩ | ⟨dd, H⟩
      ·refine W.uI (cb dd) <| W.sr rfl <| WL.rd to 1 rfl <| W.ret <| rS ?_
       have mx : Cx [] := a1.pick [] rfl
       have m8 := Option.some.inj H
       subst m8
       exact rH (sE rfl rfl) ⟨rfl, (Ctx.Ea mx (CH.le_refl _))⟩
      refine W.uD (cb (Bool.eq_false_iff.2 dd)) <| W.skip <| W.seq <| W.sr rfl <| WL.rd to 2 rfl ?_
      rcases rT H with ⟨de, H⟩ | ⟨de, H⟩
      ·refine W.cT de rfl <| W.sr rfl <| WL.la a1 15 rfl rfl zZ rfl Ac <| WL.val (Yl.xD (g := a6) (off := bc) (o := 0) (cs := dp) (us := dp) rfl wJ rfl wM (Ctx.rO 5 a1 rfl) rfl) ?_
       obtain ⟨m1, bC, ⟨lh, li, lj, lk, _⟩, my⟩ := Ctx.B1 [O, Q, R, S] (ps := [r0 ai a0, aj, ak, al, am, aR, G, I, J, L, r0 b x, r0 a m]) (Ctx.pick [10, 11, 12, 13, 0, 1, 2, 3, 4, 5, 6, 7, 8, 9, 14, 15] a1 rfl)
       obtain ⟨⟨eq, nt⟩, iR, H⟩ := rE H
       refine WL.sI (rX.calls k _ m1 bf bI bQ a8 bJ bR a9 bK bS ba bL bU bb h (my.pq 0) eT (Row.rP aS).1 (Row.rP aS).2.1 (Sl.mono (Row.sl aS) bC lh) eU (Row.rP aT).1 (Row.rP aT).2.1 (Sl.mono (Row.sl aT) bC li) eV (Row.rP aU).1 (Row.rP aU).2.1 (Sl.mono (Row.sl aU) bC lj) eW (Row.rP aV).1 (Row.rP aV).2.1 (Sl.mono (Row.sl aV) bC lk) eq nt iR) (ne.fr rfl rfl) ?_
       rintro cd B ⟨fR, gI, hn, en, rfl, mz, ka, ip⟩
       refine ⟨_, rfl, ?_⟩
       have c2 : Row KB bP en (.slice fR hn gI) eq := ip
       have dJ : Cx [en, r0 ai a0, aj, ak, al, am, aR, G, I, J, L, O, Q, R, S, r0 b x, r0 a m] := Ctx.cl 0 a1 bC mz
       refine WL.rd to 5 rfl <| W.sr rfl <| WL.run to 3 rfl ?_
       obtain ⟨nc, aM, H⟩ := rE H
       refine WL.cut (fun l B => l 122 = .bool nc ∧ Ctx w F D B bP [en, r0 ai a0, aj, ak, al, am, aR, G, I, J, L, O, Q, R, S, r0 b x, r0 a m]) ?_ ?_
       ·rcases rT aM with ⟨df, aM⟩ | ⟨df, aM⟩
        ·refine WL.kn 117 (cb (wP df)) <| WL.run to 2 rfl <| WL.on rfl rfl ?_
         obtain ⟨m2, dl, ll, (mA : Cx [r0 ai a0, aj, ak, al, am, aR, G, I, J, L, O, Q, R, S, r0 b x, r0 a m])⟩ := Ctx.fzI 0 dJ rfl
         obtain ⟨nu, iS, aM⟩ := rE aM
         refine WL.cq dJ (sK.calls k _ m2 fR gI hn eq cy bg aZ cQ mA.tX ka (Row.rP c2).1 (Row.rP c2).2.1 (Sl.mono (Row.sl c2) dl ll) dh iW jd (Sl.mono c3 (CH.le_trans (CH.le_trans Y (CH.le_trans cw aY)) dl) (CH.le_trans (CH.le_trans Y (CH.le_trans cw aY)) dl)) nu iS) (ne.fr rfl rfl) fun B mB => ?_
         refine WL.run to 2 rfl ?_
         cases aM
         exact WL.done ⟨rfl, mB⟩
        refine WL.kn 117 (cb (wQ df)) <| WL.sN 4 117 false rfl rfl <| WL.run to 1 rfl ?_
        cases aM
        exact WL.done ⟨rfl, dJ⟩
       ·rintro l B ⟨kl, dK⟩
        apply kn l (.c kl .n)
        rcases rT H with ⟨dg, H⟩ | ⟨dg, H⟩
        ·refine W.uI (cb dg) <| W.sr rfl <| WL.rd to 1 rfl <| W.ret <| rS ?_
         have mC : Cx [] := dK.pick [] rfl
         have m9 := Option.some.inj H
         subst m9
         exact rH (sE rfl rfl) ⟨rfl, (Ctx.Ea mC (CH.le_refl _))⟩
        refine W.uD (cb (Bool.eq_false_iff.2 dg)) <| W.skip <| W.sr rfl ?_
        obtain ⟨nv, iU, H⟩ := rE H
        refine WL.c0 dK (tD.calls k _ bP  dK.tX  nv iU) (ne.fr rfl rfl) fun B mD => ?_
        refine WL.rd to 1 rfl <| W.ret ?_
        have mE : Cx [] := mD.pick [] rfl
        have na := Option.some.inj H
        subst na
        exact rH (sE rfl rfl) ⟨rfl, (Ctx.Ea mE (CH.le_refl _))⟩
      refine W.cF de rfl <| W.skip <| W.sr rfl ?_
      obtain ⟨nw, iV, H⟩ := rE H
      refine WL.c0 a1 (tD.calls k _ bP  a1.tX  nw iV) (ne.fr rfl rfl) fun B mF => ?_
      refine WL.rd to 1 rfl <| W.ret ?_
      have mG : Cx [] := mF.pick [] rfl
      have nb := Option.some.inj H
      subst nb
      exact rH (sE rfl rfl) ⟨rfl, (Ctx.Ea mG (CH.le_refl _))⟩
end Go.Proofs.YtobdpbnadjkhiaaGreat
namespace Go.Proofs.YtobdpbnadjkhiaaGreat.Rc
open Go.WG
set_option linter.unusedSimpArgs false
set_option linter.unusedVariables false
def B8 (x : Int) : Prop := 0 ≤ x ∧ x < 256
def vY (l : List Int) : Prop := ∀ y ∈ l, B8 y
theorem vY.getD {l : List Int} (h : vY l) (i : Nat) : B8 (l.getD i 0) := by
 by_cases hi : i < l.length
 ·rw [List.getD_eq_getElem?_getD, List.getElem?_eq_getElem hi, Option.getD_some]; exact h _ (List.getElem_mem hi)
 ·rw [List.getD_eq_getElem?_getD, List.getElem?_eq_none (by omega), Option.getD_none]; unfold B8; omega
theorem vY.take {l : List Int} (h : vY l) (n : Nat) : vY (l.take n) := fun y hy => h y (List.mem_of_mem_take hy)
theorem vY.drop {l : List Int} (h : vY l) (n : Nat) : vY (l.drop n) := fun y hy => h y (List.mem_of_mem_drop hy)
theorem vY.tail {x : Int} {l : List Int} (h : vY (x :: l)) : vY l := fun y hy => h y (List.mem_cons_of_mem _ hy)
theorem CG (x : Int) : wR x = x % 18446744073709551616 := by
 unfold wR IntKind.wrap
 simp [IntKind.bits, IntKind.signed]
theorem F9 (x : Int) : wu8 x = x % 256 := by
 unfold wu8 IntKind.wrap
 simp [IntKind.bits, IntKind.signed]
theorem J0 {a b : Nat} (ha : a < 18446744073709551616) (hb : b < 18446744073709551616) : AL .or .u64 (a : Int) (b : Int) = ((a ||| b : Nat) : Int) := by
 show IntKind.u64.wrap (((BitVec.ofInt 64 (a : Int) ||| BitVec.ofInt 64 (b : Int)).toNat : Nat) : Int) = _
 rw [BitVec.ofInt_natCast, BitVec.ofInt_natCast, BitVec.toNat_or, BitVec.toNat_ofNat, BitVec.toNat_ofNat, Nat.mod_eq_of_lt ha, Nat.mod_eq_of_lt hb]
 have : a ||| b < 18446744073709551616 := Nat.or_lt_two_pow (n := 64) ha hb
 show wR _ = _
 rw [CG]; omega
theorem HS (x y : Nat) (hx : x < 72057594037927936) (hy : y < 256) : AL .or .u64 (vP .u64 (x : Int) 8) (wR (y : Int)) = ((256 * x + y : Nat) : Int) := by
 have h1 : vP .u64 (x : Int) 8 = wR ((x : Int) * 256) := rfl
 have h2 : wR ((x : Int) * 256) = ((256 * x : Nat) : Int) := by rw [CG]; omega
 have h3 : wR (y : Int) = (y : Int) := by rw [CG]; omega
 rw [h1, h2, h3, J0 (by omega) (by omega)]
 have := Nat.two_pow_add_eq_or_of_lt (i := 8) (b := y) hy x
 rw [show (2 : Nat) ^ 8 = 256 from rfl] at this
 rw [this]
theorem F8 (x n : Nat) (hn : n ≤ 64) : AH .u64 (x : Int) (n : Int) = ((x / 2 ^ n : Nat) : Int) := by
 unfold AH
 rw [show min ((n : Int).toNat) (IntKind.bits .u64) = n from by rw [Int.toNat_natCast]; exact Nat.min_eq_left hn]
 have hp : 0 < 2 ^ n := Nat.two_pow_pos n
 have e : (2 : Int) ^ n = ((2 ^ n : Nat) : Int) := by rw [Int.natCast_pow]; rfl
 rw [e, Int.fdiv_eq_ediv_of_nonneg _ (by omega), Int.natCast_ediv]
def be (x : Nat) : Nat → List Int
 | 0 => []
 | j + 1 => ((x / 256 ^ j % 256 : Nat) : Int) :: be x j
theorem DH (x : Nat) : ∀ j, (be x j).length = j
 | 0 => rfl
 | j + 1 => by rw [be, List.length_cons, DH x j]
theorem Kh (x : Nat) : ∀ j, vY (be x j)
 | 0 => fun y hy => by cases hy
 | j + 1 => fun y hy => by
  rcases List.mem_cons.1 hy with rfl | hy
  ·unfold B8; omega
  ·exact Kh x j y hy
def yZ (l : List Int) : Nat := l.foldl (fun x y => 256 * x + y.toNat) 0
theorem GK (x : Nat) : ∀ (j a : Nat), (be x j).foldl (fun x y => 256 * x + y.toNat) a = 256 ^ j * a + x % 256 ^ j
 | 0, a => by simp [be, Nat.mod_one]
 | j + 1, a => by
  rw [be, List.foldl_cons, GK x j, Int.toNat_natCast]
  have h1 : x % 256 ^ (j + 1) = 256 ^ j * (x / 256 ^ j % 256) + x % 256 ^ j := by
   rw [Nat.pow_succ, Nat.mod_mul, Nat.add_comm]
  rw [h1, Nat.pow_succ, Nat.mul_add, ← Nat.mul_assoc]
  omega
theorem IW (x j : Nat) (h : x < 256 ^ j) : yZ (be x j) = x := by
 unfold yZ
 rw [GK, Nat.mul_zero, Nat.zero_add, Nat.mod_eq_of_lt h]
theorem En (l : List Int) (y : Int) : yZ (l ++ [y]) = 256 * yZ l + y.toNat := by
 unfold yZ
 rw [List.foldl_append]; rfl
theorem CN : ∀ (l : List Int) (a : Nat), l.foldl (fun x y => 256 * x + y.toNat) a = 256 ^ l.length * a + yZ l
 | [], a => by simp [yZ]
 | y :: r, a => by
  unfold yZ
  rw [List.foldl_cons, List.foldl_cons, CN r, CN r (256 * 0 + y.toNat), List.length_cons, Nat.pow_succ]
  rw [Nat.mul_add, Nat.mul_add, ← Nat.mul_assoc]
  simp [Nat.add_assoc]
theorem CX (y : Int) (l : List Int) : yZ (y :: l) = 256 ^ l.length * y.toNat + yZ l := by
 show (List.foldl _ _ _) = _
 rw [List.foldl_cons, CN]
 simp
theorem Cm : ∀ {l : List Int}, vY l → yZ l < 256 ^ l.length
 | [], _ => by simp [yZ]
 | y :: r, h => by
  have h1 := Cm h.tail
  have h2 := h y (by simp)
  unfold B8 at h2
  rw [CX, List.length_cons, Nat.pow_succ]
  have h3 : y.toNat ≤ 255 := by omega
  have := Nat.mul_le_mul_left (256 ^ r.length) h3
  omega
theorem Gk : ∀ {l : List Int}, vY l → ∀ (x : Nat), x % 256 ^ l.length = yZ l → be x l.length = l
 | [], _, _, _ => rfl
 | y :: r, h, x, hx => by
  have h1 := Cm h.tail
  have h2 := h y (by simp)
  unfold B8 at h2
  rw [List.length_cons, be]
  rw [CX, List.length_cons, Nat.pow_succ, Nat.mod_mul] at hx
  have hp : 0 < 256 ^ r.length := Nat.pow_pos (by decide)
  have key : x / 256 ^ r.length % 256 = y.toNat ∧ x % 256 ^ r.length = yZ r := by
   generalize 256 ^ r.length = P at h1 hx hp ⊢
   generalize hq : x / P % 256 = q at hx ⊢
   have hm : x % P < P := Nat.mod_lt _ hp
   have e1 : q = y.toNat := by
    rcases Nat.lt_trichotomy q y.toNat with g | g | g
    ·have := Nat.mul_le_mul_left P (show q + 1 ≤ y.toNat by omega)
     rw [Nat.mul_add] at this; omega
    ·exact g
    ·have := Nat.mul_le_mul_left P (show y.toNat + 1 ≤ q by omega)
     rw [Nat.mul_add] at this; omega
   subst e1
   exact ⟨rfl, by omega⟩
  rw [Gk h.tail x key.2, key.1]
  congr 1
  omega
def Hf : Nat → Nat → Nat
 | 0, _ => 0
 | f + 1, n => if n = 0 then 0 else Hf f (n / 256) + 1
def wid (n : Nat) : Nat := Hf 8 n
theorem EE : ∀ (f n : Nat), n < 256 ^ f → n < 256 ^ (Hf f n) ∧ (∀ v, v < Hf f n → 256 ^ v ≤ n) ∧ Hf f n ≤ f
 | 0, n, h => ⟨h, fun v hv => (by cases hv), Nat.le_refl _⟩
 | f + 1, n, h => by
  unfold Hf
  split
  ·rename_i h0
   subst h0
   exact ⟨(by decide), fun v hv => (by cases hv), Nat.zero_le _⟩
  ·rename_i h0
   have hm : n / 256 < 256 ^ f := by rw [Nat.pow_succ] at h; omega
   obtain ⟨h1, h2, h3⟩ := EE f (n / 256) hm
   refine ⟨by rw [Nat.pow_succ]; omega, fun v hv => ?_, by omega⟩
   cases v with
   | zero => rw [Nat.pow_zero]; omega
   | succ u =>
    have := h2 u (by omega)
    rw [Nat.pow_succ]; omega
theorem A5 {n : Nat} (h : n < 18446744073709551616) : n < 256 ^ wid n ∧ (∀ v, v < wid n → 256 ^ v ≤ n) ∧ wid n ≤ 8 := EE 8 n h
theorem FV {n w : Nat} (hn : n < 18446744073709551616) (h1 : n < 256 ^ w) (h2 : ∀ v, v < w → 256 ^ v ≤ n) : wid n = w := by
 obtain ⟨g1, g2, _⟩ := A5 hn
 rcases Nat.lt_trichotomy (wid n) w with g | g | g
 ·have := h2 _ g; omega
 ·exact g
 ·have := g2 _ g; omega
def CJ (n : Nat) : List Int := (wid n : Int) :: be n (wid n)
theorem Bh {n : Nat} (h : n < 18446744073709551616) : (CJ n).length ≤ 9 := by
 have := (A5 h).2.2
 rw [CJ, List.length_cons, DH]; omega
theorem Hx {n : Nat} (h : n < 18446744073709551616) : vY (CJ n) := fun y hy => by
 have := (A5 h).2.2
 rcases List.mem_cons.1 hy with rfl | hy
 ·unfold B8; omega
 ·exact Kh _ _ y hy
def AT (most : Int) : List Int → Int ⊕ (Nat × List Int)
 | [] => .inl 40
 | h :: t => if h > 8 then .inl 41 else if h > (t.length : Int) then .inl 40 else if 0 < h ∧ t.getD 0 0 = 0 then .inl 41 else if (yZ (t.take h.toNat) : Int) > most then .inl 42 else .inr (yZ (t.take h.toNat), t.drop h.toNat)
theorem DZ {n : Nat} {most : Int} (hn : n < 18446744073709551616) (hm : (n : Int) ≤ most) (rest : List Int) : AT most (CJ n ++ rest) = .inr (n, rest) := by
 obtain ⟨h1, h2, h3⟩ := A5 hn
 have hl := DH n (wid n)
 have e1 : (be n (wid n) ++ rest).take ((wid n : Int)).toNat = be n (wid n) := by rw [Int.toNat_natCast]; exact List.take_left' hl
 have e2 : (be n (wid n) ++ rest).drop ((wid n : Int)).toNat = rest := by rw [Int.toNat_natCast]; exact List.drop_left' hl
 rw [CJ, List.cons_append, AT, if_neg (by omega), if_neg (by rw [List.length_append, hl]; omega), e1, e2, IW _ _ h1, if_neg (by
  rintro ⟨g1, g2⟩
  obtain ⟨w, hw⟩ : ∃ w, wid n = w + 1 := ⟨wid n - 1, by omega⟩
  rw [hw, be, List.cons_append] at g2
  have g3 : ((n / 256 ^ w % 256 : Nat) : Int) = 0 := g2
  have h4 := h2 w (by omega)
  rw [hw, Nat.pow_succ] at h1
  have hp : 0 < 256 ^ w := Nat.pow_pos (by decide)
  have h5 : n / 256 ^ w < 256 := by rw [Nat.div_lt_iff_lt_mul hp]; omega
  have h6 : 1 ≤ n / 256 ^ w := by rw [Nat.le_div_iff_mul_le hp]; omega
  omega), if_neg (by omega)]
theorem BE {most : Int} {b : List Int} (hb : vY b) {x : Nat} {rest : List Int} (h : AT most b = .inr (x, rest)) : x < 18446744073709551616 ∧ (x : Int) ≤ most ∧ b = CJ x ++ rest := by
 cases b with
 | nil => cases h
 | cons d t =>
  rw [AT] at h
  split at h
  ·cases h
  ·split at h
   ·cases h
   ·split at h
    ·cases h
    ·split at h
     ·cases h
     ·rename_i g1 g2 g3 g4
      injection h with h
      injection h with hx hr
      have hd := hb d (by simp)
      unfold B8 at hd
      have ht := hb.tail
      have hl : (t.take d.toNat).length = d.toNat := by rw [List.length_take]; omega
      have hlt := Cm (ht.take d.toNat)
      rw [hx, hl] at hlt
      have h8 : x < 18446744073709551616 := Nat.lt_of_lt_of_le hlt (by
       have := Nat.pow_le_pow_right (n := 256) (by decide) (show d.toNat ≤ 8 by omega)
       exact this)
      have hw : wid x = d.toNat := by
       refine FV h8 hlt fun v hv => ?_
       have hne : ¬ t.getD 0 0 = 0 := fun e => g3 ⟨by omega, e⟩
       cases t with
       | nil => simp at hl; omega
       | cons y s =>
        obtain ⟨m, hm⟩ : ∃ m, d.toNat = m + 1 := ⟨d.toNat - 1, by omega⟩
        rw [hm, List.take_succ_cons, CX] at hx
        rw [hm, List.take_succ_cons, List.length_cons] at hl
        have hy := hb y (by simp)
        unfold B8 at hy
        have hy1 : 1 ≤ y.toNat := by
         have : ¬ y = 0 := hne
         omega
        have hsl : (s.take m).length = m := by omega
        rw [hsl] at hx
        have h1 := Nat.mul_le_mul_left (256 ^ m) hy1
        have h2 := Nat.pow_le_pow_right (n := 256) (by decide) (show v ≤ m by omega)
        omega
      refine ⟨h8, by omega, ?_⟩
      have e3 : be x d.toNat = t.take d.toNat := by
       have := Gk (ht.take d.toNat) x (by rw [hl, hx, Nat.mod_eq_of_lt hlt])
       rwa [hl] at this
      rw [CJ, hw, e3, List.cons_append, ← hr, List.take_append_drop]
      congr 1
      omega
end Go.Proofs.YtobdpbnadjkhiaaGreat.Rc
namespace Go.Proofs.YtobdpbnadjkhiaaGreat.Rc
open Go.WG Go.Proofs.YtobdpbnadjkhiaaGreat
set_option linter.unusedSimpArgs false
set_option linter.unusedVariables false
theorem FO (n j : Nat) : n / 2 ^ (8 * j) = n / 256 ^ j := by rw [Nat.pow_mul]
theorem Iv {n : Nat} (h : n < 18446744073709551616) : ∀ d, wid n + d ≤ 8 → Ev (fun k => xB.l1 k (n : Int) ((wid n + d : Nat) : Int)) (wid n : Int) := by
 obtain ⟨h1, h2, h3⟩ := A5 h
 intro d
 induction d with
 | zero =>
  intro _
  refine Ev.succ ?_
  simp only [xB.l1, Nat.add_zero]
  by_cases g : wid n = 0
  ·rw [g]; exact Ev.rZ (by decide) (Ev.pure _)
  ·obtain ⟨w, hw⟩ : ∃ w, wid n = w + 1 := ⟨wid n - 1, by omega⟩
   have e1 : rB (((wid n : Nat) : Int) - 1) = (w : Int) := by rw [tI (by omega) (by omega)]; omega
   have e2 : rB (8 * (w : Int)) = ((8 * w : Nat) : Int) := by rw [tI (by omega) (by omega)]; omega
   have h4 := h2 w (by omega)
   have hp : 0 < 256 ^ w := Nat.pow_pos (by decide)
   have h6 : 1 ≤ n / 256 ^ w := by rw [Nat.le_div_iff_mul_le hp]; omega
   simp only [e1, e2, F8 n (8 * w) (by omega), FO]
   exact Ev.rG (by omega) (Ev.rG (by omega) (Ev.rZ (by omega) (Ev.pure _)))
 | succ d ih =>
  intro hd
  refine Ev.succ ?_
  have e1 : rB (((wid n + (d + 1) : Nat) : Int) - 1) = ((wid n + d : Nat) : Int) := by rw [tI (by omega) (by omega)]; omega
  have e2 : rB (8 * ((wid n + d : Nat) : Int)) = ((8 * (wid n + d) : Nat) : Int) := by rw [tI (by omega) (by omega)]; omega
  have h4 : n / 256 ^ (wid n + d) = 0 := Nat.div_eq_of_lt (Nat.lt_of_lt_of_le h1 (Nat.pow_le_pow_right (by decide) (by omega)))
  simp only [xB.l1, e1, e2, F8 n (8 * (wid n + d)) (by omega), FO, h4]
  exact Ev.rG (by omega) (Ev.rG (by omega) (Ev.rG rfl (ih (by omega))))
theorem FU (x w : Nat) (hw : w ≤ 8) : Ev (fun k => vU.f k (x : Int) (w : Int)) (be x w, 0) := by
 unfold vU.f
 have hl : Ev (fun k => vU.l1 k (x : Int) (w : Int) (List.replicate w 0) 0) (be x w) := by
  refine Ev.loop (n := w) (F := fun k j (d : List Int) => vU.l1 k (x : Int) (w : Int) d (j : Int)) (fun j d => d = List.replicate (w - j) 0 ++ be x j) (fun j d hj hI => ?_) (fun d hI => ?_) _ (by simp [be])
  ·subst hI
   have e1 : rB (8 * (j : Int)) = ((8 * j : Nat) : Int) := by rw [tI (by omega) (by omega)]; omega
   have e2 : rB (rB ((w : Int) - 1) - (j : Int)) = ((w - 1 - j : Nat) : Int) := by rw [tI (x := (w : Int) - 1) (by omega) (by omega), tI (by omega) (by omega)]; omega
   have hlen : (List.replicate (w - j) (0 : Int) ++ be x j).length = w := by rw [List.length_append, List.length_replicate, DH]; omega
   have hv : wu8 (((x / 2 ^ (8 * j) : Nat)) : Int) = ((x / 256 ^ j % 256 : Nat) : Int) := by rw [F9, FO]; rfl
   have hs : (List.replicate (w - j) (0 : Int) ++ be x j).set (w - 1 - j) ((x / 256 ^ j % 256 : Nat) : Int) = List.replicate (w - (j + 1)) (0 : Int) ++ be x (j + 1) := by
    rw [show w - j = (w - 1 - j) + 1 by omega, List.replicate_succ', List.append_assoc, List.set_append_right _ _ (by rw [List.length_replicate]; exact Nat.le_refl _), List.length_replicate, Nat.sub_self, show w - (j + 1) = w - 1 - j by omega]
    rfl
   refine .inr ⟨_, rfl, fun k => ?_⟩
   rw [← hs] at k
   simp only [vU.l1, e1, e2, Int.toNat_natCast, tU (show j < 9223372036854775807 by omega), F8 x (8 * j) (by omega), hv]
   exact Ev.rG (by omega) (Ev.rG (by omega) (Ev.rG (by rw [hlen]; omega) k))
  ·subst hI
   simp only [vU.l1, Nat.sub_self, List.replicate_zero, List.nil_append]
   exact Ev.rZ (by omega) (Ev.pure _)
 refine Ev.rZ (by simp; omega) (Ev.rG (by omega) (Ev.bind ?_ (Ev.pure _)))
 rw [Int.toNat_natCast]
 exact hl
theorem Hk {n : Nat} (h : n < 18446744073709551616) : Ev (fun k => xB.f k (n : Int)) (CJ n) := by
 unfold xB.f
 obtain ⟨h1, h2, h3⟩ := A5 h
 have hl := Iv h (8 - wid n) (by omega)
 rw [show wid n + (8 - wid n) = 8 by omega] at hl
 have e : wu8 (wid n : Int) = (wid n : Int) := by rw [F9]; omega
 refine Ev.bind hl (Ev.bind (FU n (wid n) h3) (Ev.rG (by simp only [DH, List.length_singleton]; omega) ?_))
 rw [e]
 exact Ev.pure _
def zJ (b : List Int) : List Int := CJ b.length ++ b
theorem zX {x : Int} (h0 : 0 ≤ x) (h1 : x < 18446744073709551616) : wR x = x := by rw [CG]; omega
theorem Is {b : List Int} (h : b.length ≤ 1000000) : Ev (fun k => Al.f k b) (zJ b) := by
 unfold Al.f
 rw [zX (by omega) (by omega)]
 have := Bh (n := b.length) (by omega)
 exact Ev.bind (Hk (by omega)) (Ev.rG (by omega) (Ev.pure _))
def Ay (l : List Int) : List Int := l.flatMap fun x => CJ x.toNat
theorem Ez : ∀ {l : List Int}, (∀ x ∈ l, 0 ≤ x ∧ x < 18446744073709551616) → (Ay l).length ≤ 9 * l.length
 | [], _ => by simp [Ay]
 | x :: r, h => by
  have h1 := Ez (l := r) fun y hy => h y (List.mem_cons_of_mem _ hy)
  have h2 := h x (by simp)
  have h3 := Bh (n := x.toNat) (by omega)
  unfold Ay at h1 ⊢
  rw [List.flatMap_cons, List.length_append, List.length_cons]; omega
theorem Gg {b l : List Int} (hb : b.length ≤ 1000000) (hl : l.length ≤ 1000) (h : ∀ x ∈ l, 0 ≤ x ∧ x < 18446744073709551616) : Ev (fun k => rQ.f k ⟨b⟩ l) (⟨b ++ Ay l⟩ : sX) := by
 unfold rQ.f
 have hloop : Ev (fun k => rQ.l1 k l 0 ⟨b⟩) (⟨b ++ Ay l⟩ : sX) := by
  refine Ev.loop (n := l.length) (F := fun k i (x : sX) => rQ.l1 k l (i : Int) x) (fun i x => x = ⟨b ++ Ay (l.take i)⟩) (fun i x hi hI => ?_) (fun x hI => ?_) _ (by simp [Ay])
  ·subst hI
   have hm : l.getD i 0 ∈ l := by rw [List.getD_eq_getElem?_getD, List.getElem?_eq_getElem hi]; exact List.getElem_mem hi
   have hx := h _ hm
   have hn := Hk (n := (l.getD i 0).toNat) (by omega)
   have e : wR (l.getD i 0) = (((l.getD i 0).toNat : Nat) : Int) := by rw [zX hx.1 hx.2]; omega
   have hlen := Bh (n := (l.getD i 0).toNat) (by omega)
   have htl := Ez (l := l.take i) fun y hy => h y (List.mem_of_mem_take hy)
   rw [List.length_take] at htl
   refine .inr ⟨_, rfl, fun k => ?_⟩
   have es : b ++ Ay (l.take (i + 1)) = (b ++ Ay (l.take i)) ++ CJ (l.getD i 0).toNat := by
    rw [take_succ 0 hi]; unfold Ay; rw [List.flatMap_append, List.append_assoc]; simp
   rw [es] at k
   simp only [rQ.l1, Int.toNat_natCast, e, tU (show i < 9223372036854775807 by omega)]
   exact Ev.rG (by omega) (Ev.rG (by omega) (Ev.bind hn (Ev.rG (by rw [List.length_append]; omega) k)))
  ·subst hI
   simp only [rQ.l1, List.take_length]
   exact Ev.rZ (by omega) (Ev.pure _)
 exact Ev.bind hloop (Ev.pure _)
theorem F5 {b d : List Int} (hb : b.length ≤ 1000000) (hd : d.length ≤ 1000000) : Ev (fun k => uT.f k ⟨b⟩ d) (⟨b ++ zJ d⟩ : sX) := by
 unfold uT.f
 have := Bh (n := d.length) (by omega)
 exact Ev.bind (Is hd) (Ev.rG (by unfold zJ; rw [List.length_append]; dsimp only; omega) (Ev.pure _))
theorem HH {b d : List Int} (hb : b.length ≤ 1000000) (hd : d.length = 32) (k : Nat) : vW.f k ⟨b⟩ d = some ⟨b ++ d⟩ := by
 unfold vW.f
 rw [if_pos (by dsimp only; omega)]
theorem Da {l : List Int} (hl : l.length ≤ 8) (hb : vY l) : Ev (fun k => vI.f k l) ((yZ l : Int), 0) := by
 unfold vI.f
 have hloop : Ev (fun k => vI.l1 k l 0 0) (yZ l : Int) := by
  refine Ev.loop (n := l.length) (F := fun k i (x : Int) => vI.l1 k l x (i : Int)) (fun i x => x = ((yZ (l.take i) : Nat) : Int)) (fun i x hi hI => ?_) (fun x hI => ?_) _ rfl
  ·subst hI
   have hy := hb.getD i
   unfold B8 at hy
   have hlt := Cm (hb.take i)
   rw [List.length_take, Nat.min_eq_left (by omega)] at hlt
   have h56 : yZ (l.take i) < 72057594037927936 := Nat.lt_of_lt_of_le hlt (Nat.pow_le_pow_right (n := 256) (j := 7) (by decide) (by omega))
   have e : (l.getD i 0) = (((l.getD i 0).toNat : Nat) : Int) := by omega
   have es : yZ (l.take (i + 1)) = 256 * yZ (l.take i) + (l.getD i 0).toNat := by rw [take_succ 0 hi, En]
   refine .inr ⟨_, rfl, fun k => ?_⟩
   rw [es, ← HS _ _ h56 (by omega), ← e] at k
   simp only [vI.l1, Int.toNat_natCast, tU (show i < 9223372036854775807 by omega)]
   exact Ev.rG (by omega) (Ev.rG (by omega) k)
  ·subst hI
   simp only [vI.l1, List.take_length]
   exact Ev.rZ (by omega) (Ev.pure _)
 exact Ev.rZ (by omega) (Ev.bind hloop (Ev.pure _))
theorem FX {l : List Int} (hl : l.length ≤ 8) (hb : vY l) : Ev (fun k => tK.f k l) ((yZ l : Int), 0) := by
 unfold tK.f
 have hloop : Ev (fun k => tK.l1 k l 0 0) (yZ l : Int) := by
  refine Ev.loop (n := l.length) (F := fun k i (x : Int) => tK.l1 k l x (i : Int)) (fun i x => x = ((yZ (l.take i) : Nat) : Int)) (fun i x hi hI => ?_) (fun x hI => ?_) _ rfl
  ·subst hI
   have hy := hb.getD i
   unfold B8 at hy
   have hlt := Cm (hb.take i)
   rw [List.length_take, Nat.min_eq_left (by omega)] at hlt
   have h56 : yZ (l.take i) < 72057594037927936 := Nat.lt_of_lt_of_le hlt (Nat.pow_le_pow_right (n := 256) (j := 7) (by decide) (by omega))
   have es : yZ (l.take (i + 1)) = 256 * yZ (l.take i) + (l.getD i 0).toNat := by rw [take_succ 0 hi, En]
   have e : wR (wR (((yZ (l.take i) : Nat) : Int) * 256) + wR (l.getD i 0)) = ((yZ (l.take (i + 1)) : Nat) : Int) := by
    rw [es, zX (x := ((yZ (l.take i) : Nat) : Int) * 256) (by omega) (by omega), zX (x := l.getD i 0) (by omega) (by omega), zX (by omega) (by omega)]; omega
   refine .inr ⟨_, rfl, fun k => ?_⟩
   simp only [tK.l1, Int.toNat_natCast, e, tU (show i < 9223372036854775807 by omega)]
   exact Ev.rG (by omega) (Ev.rG (by omega) k)
  ·subst hI
   simp only [tK.l1, List.take_length]
   exact Ev.rZ (by omega) (Ev.pure _)
 exact Ev.rZ (by omega) (Ev.bind hloop (Ev.pure _))
end Go.Proofs.YtobdpbnadjkhiaaGreat.Rc
namespace Go.Proofs.YtobdpbnadjkhiaaGreat.Rc
open Go.WG Go.Proofs.YtobdpbnadjkhiaaGreat
set_option linter.unusedSimpArgs false
set_option linter.unusedVariables false
abbrev RS := List Int × Int
def vB (most : Int) (s : RS) : Int × RS :=
 if s.2 ≠ 0 then (0, s) else match AT most s.1 with
  | .inl e => (0, (s.1, e))
  | .inr (x, rest) => ((x : Int), (rest, 0))
def uN (most : Int) (s : RS) : List Int × RS :=
 if s.2 ≠ 0 then ([], s) else match AT 18446744073709551615 s.1 with
  | .inl e => ([], (s.1, e))
  | .inr (n, rest) => if (n : Int) > most then ([], (s.1, 42)) else if n > rest.length then ([], (s.1, 40)) else (rest.take n, (rest.drop n, 0))
def Be (s : RS) : List Int × RS :=
 if s.2 ≠ 0 then (List.replicate 32 0, s) else if s.1.length < 32 then (List.replicate 32 0, (s.1, 40)) else (s.1.take 32, (s.1.drop 32, 0))
def GS (s : RS) : Int := if s.2 = 0 ∧ s.1 ≠ [] then 43 else s.2
structure Ok (s : RS) : Prop where
 b : vY s.1
 l : s.1.length ≤ 1000000
theorem EH {most : Int} {b : List Int} (hb : vY b) {x : Nat} {rest : List Int} (h : AT most b = .inr (x, rest)) : rest.length ≤ b.length ∧ vY rest := by
 obtain ⟨_, _, e⟩ := BE hb h
 subst e
 exact ⟨by rw [List.length_append]; omega, fun y hy => hb y (List.mem_append.2 (.inr hy))⟩
theorem zY {most : Int} {s : RS} (h : Ok s) : Ok (vB most s).2 := by
 unfold vB
 split
 ·exact h
 ·split
  ·exact ⟨h.b, h.l⟩
  ·rename_i hg
   obtain ⟨h1, h2⟩ := EH h.b hg
   exact ⟨h2, Nat.le_trans h1 h.l⟩
theorem BF {most : Int} {s : RS} (h : Ok s) : Ok (uN most s).2 := by
 unfold uN
 split
 ·exact h
 ·split
  ·exact ⟨h.b, h.l⟩
  ·rename_i hg
   obtain ⟨h1, h2⟩ := EH h.b hg
   split
   ·exact ⟨h.b, h.l⟩
   ·split
    ·exact ⟨h.b, h.l⟩
    ·exact ⟨h2.drop _, by dsimp only; rw [List.length_drop]; have := h.l; omega⟩
theorem IS {s : RS} (h : Ok s) : Ok (Be s).2 := by
 unfold Be
 split
 ·exact h
 ·split
  ·exact ⟨h.b, h.l⟩
  ·exact ⟨h.b.drop _, by dsimp only; rw [List.length_drop]; have := h.l; omega⟩
theorem BA (most : Int) (b : List Int) : vB most (b, 0) = match AT most b with | .inl e => (0, (b, e)) | .inr (x, rest) => ((x : Int), (rest, 0)) := by simp [vB]
theorem EJ (most : Int) (b : List Int) {e : Int} (he : ¬ e = 0) : vB most (b, e) = (0, (b, e)) := by simp [vB, he]
theorem Dn (most : Int) (b : List Int) : uN most (b, 0) = match AT 18446744073709551615 b with | .inl e => ([], (b, e)) | .inr (n, rest) => if (n : Int) > most then ([], (b, 42)) else if n > rest.length then ([], (b, 40)) else (rest.take n, (rest.drop n, 0)) := by simp [uN]
theorem E1 (most : Int) (b : List Int) {e : Int} (he : ¬ e = 0) : uN most (b, e) = ([], (b, e)) := by simp [uN, he]
theorem Fa (b : List Int) : Be (b, 0) = if b.length < 32 then (List.replicate 32 0, (b, 40)) else (b.take 32, (b.drop 32, 0)) := by simp [Be]
theorem Gc (b : List Int) {e : Int} (he : ¬ e = 0) : Be (b, e) = (List.replicate 32 0, (b, e)) := by simp [Be, he]
theorem Dr {most : Int} {b : List Int} {q : Int} (hg : AT most b = .inl q) : ¬ q = 0 := by
 cases b with
 | nil => simp only [AT] at hg; injection hg with hg; rw [← hg]; decide
 | cons d t =>
  rw [AT] at hg
  split at hg
  ·injection hg with hg; rw [← hg]; decide
  ·split at hg
   ·injection hg with hg; rw [← hg]; decide
   ·split at hg
    ·injection hg with hg; rw [← hg]; decide
    ·split at hg
     ·injection hg with hg; rw [← hg]; decide
     ·cases hg
theorem BW {s : RS} (h : Ok s) (most : Int) : Ev (fun k => rJ.f k ⟨s.1, s.2⟩ most) ((vB most s).1, (⟨(vB most s).2.1, (vB most s).2.2⟩ : sG)) := by
 obtain ⟨b, e⟩ := s
 have hl := h.l
 have hb := h.b
 dsimp only at hl hb
 unfold rJ.f
 dsimp only
 by_cases he : e = 0
 ·subst he
  rw [BA]
  refine Ev.rG rfl ?_
  cases b with
  | nil => simp only [AT]; exact Ev.rG rfl (Ev.pure _)
  | cons d t =>
   have hd := hb d (by simp)
   unfold B8 at hd
   have ed : rB d = d := tI (by omega) (by omega)
   rw [List.length_cons] at hl
   have e1 : rB (((d :: t).length : Int) - 1) = (t.length : Int) := by rw [List.length_cons, tI (by omega) (by omega)]; omega
   refine Ev.rZ (by rw [List.length_cons]; omega) (Ev.rG (by rw [List.length_cons]; omega) ?_)
   simp only [Int.toNat_zero, List.getD_cons_zero, ed, e1, AT]
   by_cases h8 : d > 8
   ·simp only [if_pos h8]; exact Ev.pure _
   simp only [if_neg h8]
   by_cases hs : d > (t.length : Int)
   ·simp only [if_pos hs]; exact Ev.pure _
   simp only [if_neg hs]
   have e2 : rB (1 + d) = 1 + d := tI (by omega) (by omega)
   have e3 : (1 + d).toNat = d.toNat + 1 := by omega
   have e4 : ((d :: t).take (d.toNat + 1)).drop 1 = t.take d.toNat := by rw [List.take_succ_cons]; rfl
   have e5 : (d :: t).drop (d.toNat + 1) = t.drop d.toNat := rfl
   have hnum := FX (l := t.take d.toNat) (by rw [List.length_take]; omega) (hb.tail.take _)
   by_cases hz : 0 < d ∧ t.getD 0 0 = 0
   ·simp only [if_pos hz]
    refine Ev.bind (a := true) (Ev.rG hz.1 (Ev.rG (by rw [List.length_cons]; omega) ?_)) (Ev.rG rfl (Ev.pure _))
    simp only [show ((1 : Int).toNat) = 1 from rfl, List.getD_cons_succ]
    rw [decide_eq_true hz.2]; exact Ev.pure _
   ·simp only [if_neg hz]
    refine Ev.bind (a := false) ?_ (Ev.rZ (by simp) ?_)
    ·by_cases hd0 : d > 0
     ·refine Ev.rG hd0 (Ev.rG (by rw [List.length_cons]; omega) ?_)
      simp only [show ((1 : Int).toNat) = 1 from rfl, List.getD_cons_succ]
      rw [decide_eq_false fun e => hz ⟨hd0, e⟩]; exact Ev.pure _
     ·exact Ev.rZ hd0 (Ev.pure _)
    ·simp only [e2, e3, show ((1 : Int).toNat) = 1 from rfl, e4, e5]
     refine Ev.rG (by rw [List.length_cons]; omega) (Ev.bind hnum ?_)
     by_cases hm : (yZ (t.take d.toNat) : Int) > most
     ·simp only [if_pos hm]; exact Ev.pure _
     ·simp only [if_neg hm]
      exact Ev.rG (by rw [List.length_cons]; omega) (Ev.pure _)
 ·rw [EJ _ _ he]
  exact Ev.rZ he (Ev.pure _)
theorem EW {s : RS} (h : Ok s) {most : Int} (h0 : 0 ≤ most ∧ most ≤ 1000000) : Ev (fun k => tV.f k ⟨s.1, s.2⟩ most) ((uN most s).1, (⟨(uN most s).2.1, (uN most s).2.2⟩ : sG)) := by
 have hn := BW h 18446744073709551615
 have hok := zY (most := 18446744073709551615) h
 obtain ⟨b, e⟩ := s
 have hl := h.l
 have hb := h.b
 dsimp only at hl hb hn
 unfold tV.f
 dsimp only
 refine Ev.bind hn ?_
 by_cases he : e = 0
 ·subst he
  rw [BA] at hok
  rw [BA, Dn]
  cases hg : AT 18446744073709551615 b with
  | inl q => exact Ev.rZ (Dr hg) (Ev.pure _)
  | inr p =>
   obtain ⟨x, rest⟩ := p
   rw [hg] at hok
   have hrl := hok.l
   dsimp only at hrl ⊢
   have ew : wR most = most := zX h0.1 (by omega)
   have el : wR (rest.length : Int) = (rest.length : Int) := zX (by omega) (by omega)
   simp only [ew, el, Int.toNat_natCast]
   refine Ev.rG trivial ?_
   by_cases hm : (x : Int) > most
   ·rw [show (if (x : Int) > most then (([] : List Int), (b, (42 : Int))) else if x > rest.length then ([], (b, 40)) else (rest.take x, (rest.drop x, 0))) = ([], (b, 42)) from if_pos hm]
    exact Ev.rG (by simp; omega) (Ev.pure _)
   ·rw [show (if (x : Int) > most then (([] : List Int), (b, (42 : Int))) else if x > rest.length then ([], (b, 40)) else (rest.take x, (rest.drop x, 0))) = (if x > rest.length then ([], (b, 40)) else (rest.take x, (rest.drop x, 0))) from if_neg hm]
    refine Ev.rZ (by simp; omega) ?_
    by_cases hx : x > rest.length
    ·rw [if_pos hx]; exact Ev.rG (by omega) (Ev.pure _)
    ·rw [if_neg hx]
     exact Ev.rZ (by omega) (Ev.rG (by omega) (Ev.rG (by rw [List.length_take]; omega) (Ev.rG (by omega) (Ev.pure _))))
 ·rw [EJ _ _ he, E1 _ _ he]
  exact Ev.rZ he (Ev.pure _)
theorem Jq {s : RS} (h : Ok s) : Ev (fun k => sO.f k ⟨s.1, s.2⟩) ((Be s).1, (⟨(Be s).2.1, (Be s).2.2⟩ : sG)) := by
 obtain ⟨b, e⟩ := s
 have hl := h.l
 dsimp only at hl
 unfold sO.f
 dsimp only
 by_cases he : e = 0
 ·subst he
  rw [Fa]
  refine Ev.rG rfl ?_
  by_cases h32 : b.length < 32
  ·rw [if_pos h32]; exact Ev.rG (by omega) (Ev.pure _)
  ·rw [if_neg h32]
   refine Ev.rZ (by omega) ?_
   have hloop : Ev (fun k => sO.l1 k ⟨b, 0⟩ 0 (List.replicate 32 0)) (b.take 32) := by
    refine Ev.loop (n := 32) (F := fun k i (x : List Int) => sO.l1 k ⟨b, 0⟩ (i : Int) x) (fun i x => x = b.take i ++ List.replicate (32 - i) 0) (fun i x hi hI => ?_) (fun x hI => ?_) _ rfl
    ·subst hI
     have htl : (b.take i).length = i := by rw [List.length_take]; omega
     have es : (b.take i ++ List.replicate (32 - i) 0).set i (b.getD i 0) = b.take (i + 1) ++ List.replicate (32 - (i + 1)) 0 := by
      rw [List.set_append_right _ _ (by omega), htl, Nat.sub_self, take_succ 0 (by omega), show 32 - i = (32 - (i + 1)) + 1 by omega, List.replicate_succ, List.set_cons_zero, List.append_assoc]; rfl
     refine .inr ⟨_, rfl, fun k => ?_⟩
     rw [← es] at k
     simp only [sO.l1, Int.toNat_natCast, tU (show i < 9223372036854775807 by omega)]
     exact Ev.rG (by omega) (Ev.rG (by omega) (Ev.rG (by omega) k))
    ·subst hI
     simp only [sO.l1, Nat.sub_self, List.replicate_zero, List.append_nil]
     exact Ev.rZ (by decide) (Ev.pure _)
   exact Ev.bind hloop (Ev.rG (by omega) (Ev.pure _))
 ·rw [Gc _ he]
  exact Ev.rZ he (Ev.pure _)
theorem JN (s : RS) (k : Nat) : ∃ r, uH.f k ⟨s.1, s.2⟩ = some (GS s, r) := by
 obtain ⟨b, e⟩ := s
 unfold uH.f GS
 dsimp only
 by_cases he : e = 0
 ·by_cases hb : b = []
  ·exact ⟨⟨b, e⟩, by rw [if_pos he, Option.bind_some, hb]; simp⟩
  ·have : 0 < b.length := List.length_pos_iff.2 hb
   exact ⟨⟨b, 43⟩, by rw [if_pos he, Option.bind_some, if_pos (by simp; omega), if_pos ⟨he, hb⟩]⟩
 ·exact ⟨⟨b, e⟩, by rw [if_neg he, Option.bind_some, if_neg (by simp), if_neg fun k => he k.1]⟩
end Go.Proofs.YtobdpbnadjkhiaaGreat.Rc
