/- Functions of the program: each as a plain function of numbers and lists, and the proof that the program's own comes to it. Nothing is assumed but what each theorem says. -/
import Derived.Test.YtobdpbnadjkhiaaTGf
namespace Go.Proofs.Ytobdpbnadjkhiaa
open Go.RowKit Go.WG
set_option linter.unusedVariables false
set_option linter.unusedSimpArgs false
set_option maxRecDepth 100000
set_option maxHeartbeats 4000000
def juratlaw21_awake.l1 : Nat → Int → Int → TState → Option (Int × TState)
  | 0, _, _, _ => none
  | k + 1, b, a, d => if a < ([(⟨1, 1, (List.replicate 32 (0 : Int)), ([] : List Int), 0, 0, 0⟩ : TRecord), (⟨2, 0, (List.replicate 32 (0 : Int)), ([] : List Int), 0, 0, 0⟩ : TRecord), (⟨3, 0, (List.replicate 32 (0 : Int)), ([] : List Int), 1, 9, 0⟩ : TRecord), (⟨4, 0, (List.replicate 32 (0 : Int)), [7], 1, 0, 0⟩ : TRecord)].length : Int) then (if 0 ≤ a ∧ a < ([(⟨1, 1, (List.replicate 32 (0 : Int)), ([] : List Int), 0, 0, 0⟩ : TRecord), (⟨2, 0, (List.replicate 32 (0 : Int)), ([] : List Int), 0, 0, 0⟩ : TRecord), (⟨3, 0, (List.replicate 32 (0 : Int)), ([] : List Int), 1, 9, 0⟩ : TRecord), (⟨4, 0, (List.replicate 32 (0 : Int)), [7], 1, 0, 0⟩ : TRecord)].length : Int) then (if b = 0 then ((docket_Apply.f k (⟨0, 1, 0, 1, 1, 1, 0⟩ : TConfig) d ([(⟨1, 1, (List.replicate 32 (0 : Int)), ([] : List Int), 0, 0, 0⟩ : TRecord), (⟨2, 0, (List.replicate 32 (0 : Int)), ([] : List Int), 0, 0, 0⟩ : TRecord), (⟨3, 0, (List.replicate 32 (0 : Int)), ([] : List Int), 1, 9, 0⟩ : TRecord), (⟨4, 0, (List.replicate 32 (0 : Int)), [7], 1, 0, 0⟩ : TRecord)].getD a.toNat TRecord.z)).bind fun ⟨e, g⟩ => juratlaw21_awake.l1 k g (wi64 (a + 1)) e) else (juratlaw21_awake.l1 k b (wi64 (a + 1)) d)) else none) else (some (b, d))
def juratlaw21_awake.f (k : Nat)  : Option Bool := (docket_New.f k (⟨0, 1, 0, 1, 1, 1, 0⟩ : TConfig)).bind fun ⟨h, g⟩ => (juratlaw21_awake.l1 k g 0 h).bind fun ⟨d, a⟩ => (if d = 0 then (if (a.Jobs.length : Int) = 1 then (if 0 ≤ (0 : Int) ∧ (0 : Int) < (a.Jobs.length : Int) then (if ((a.Jobs.getD (0 : Int).toNat TJob.z).State) = 3 then (if (((a.Jobs.getD (0 : Int).toNat TJob.z).Value).length : Int) = 1 then ((docket_Epoch.f k a).bind fun b => some (decide (b = 1))) else (some false)) else (some false)) else none) else (some false)) else (some false)).bind fun e => some e
theorem juratlaw21_awake.calls (k w F)  (hp : Pre w F [])  (cR : Bool) (H : juratlaw21_awake.f k  = some cR) :
    Calls Try.prog 8 #[] w fun e w' => e = .returned (.bool cR) ∧ Ctx w F (domL []) w' F [] := by
 have C := Ctx.start hp
 generalize hD : domL [] = D at C ⊢
 unfold juratlaw21_awake.f at H
 refine Calls.ofW Try.func8 rfl (by simp [Try.ntmps8]) <| W.sr rfl <| WL.rd to 1 rfl <| W.sr rfl ?_
 let A : List Go.Value := [iv 0, iv 1, iv 0, iv 1, iv 1, iv 1, iv 0]
 refine WL.val (Yl.build (places := [(0, 1), (1, 1), (2, 1), (3, 1), (4, 1), (5, 1), (6, 1)]) (cs := List.toArray A) Try.underlying23 zr23 (pl23 _ Try.underlying23) (partsB (.cons rfl (.cons rfl (.cons rfl (.cons rfl .nil))))) rfl) ?_
 let eI : List Go.Value := [iv 0, iv 0, iv 0, iv 0, iv 0, iv 0, iv 0]
 obtain ⟨B, eT, dS, es⟩ := ev_alloc (P := Try.prog) (e := 23) eI C zr23 rfl
 refine WL.val (dS _ _) <| WL.st es 0 0 A rfl rfl rfl rfl (Put.lit 0 rfl) (ones_of rfl) sz23 fun ah (cW : Cx [CH.row B 0 A]) => ?_
 refine WL.done <| W.sr rfl <| WL.la cW 0 rfl rfl Try.underlying23 rfl sz23 ?_
 obtain ⟨⟨dE, cS⟩, dR, H⟩ := bindE H
 refine WL.callH (docket_New.calls k _ F (⟨0, 1, 0, 1, 1, 1, 0⟩ : TConfig) cW.pre0  dE cS dR) (ne.fr rfl rfl) ?_
 rintro dQ ah ⟨cE, cJ, cN, a4, cG, cK, cO, a5, cH, cL, cP, a6, cI, cM, cQ, a7, rfl, dI, du, df, dv, dg, dw, dh, dx, di⟩
 refine ⟨_, rfl, ?_⟩
 have dJ : Cx [a4, a5, a6, a7, CH.row B 0 A] := Ctx.call0 cW dI
 refine WL.run to 3 rfl ?_
 let eJ : List Go.Value := [.slice none 0 0, .slice none 0 0, .slice none 0 0, .slice none 0 0, iv 0]
 obtain ⟨h, eQ, dz, dK⟩ := ev_alloc (P := Try.prog) (e := 32) eJ dJ zr32 rfl
 refine WL.val (dz _ _) ?_
 let cD : List Go.Value := TState.q dE cE cN cJ cG cO cK cH cP cL cI cQ cM
 refine WL.st dK 0 0 cD rfl rfl rfl rfl (Put.lit 0 rfl) (ones_of rfl) sz32 fun ah (dL : Cx [CH.row h 0 cD, a4, a5, a6, a7, CH.row B 0 A]) => ?_
 refine WL.rd to 1 rfl <| W.seq <| W.sr rfl ?_
 let eK : List Go.Value := [iv 1, iv 1] ++ ((List.replicate 32 (0 : Int)).map (Value.int .u8) ++ [.slice none 0 0, iv 0, iv 0, iv 0])
 refine WL.val (Yl.build (places := [(0, 1), (1, 1), (2, 32), (34, 1), (35, 1), (36, 1), (37, 1)]) (cs := List.toArray eK) Try.underlying46 zr46 (pl46 _ Try.underlying46) (partsB (.cons rfl (.cons rfl .nil))) (Fills.run (a := [iv 0, iv 0] ++ ((List.replicate 32 (0 : Int)).map (Value.int .u8) ++ [.slice none 0 0, iv 0, iv 0, iv 0])) (c := [iv 1, iv 1] ++ ((List.replicate 32 (0 : Int)).map (Value.int .u8) ++ [.slice none 0 0, iv 0, iv 0, iv 0])) (.put (us := [iv 1]) rfl rfl rfl (Put.left (Put.lit 0 rfl)) (.put (us := [iv 1]) rfl rfl rfl (Put.left (Put.lit 1 rfl)) .nil)))) ?_
 let eL : List Go.Value := [iv 2, iv 0] ++ ((List.replicate 32 (0 : Int)).map (Value.int .u8) ++ [.slice none 0 0, iv 0, iv 0, iv 0])
 refine WL.val (Yl.build (places := [(0, 1), (1, 1), (2, 32), (34, 1), (35, 1), (36, 1), (37, 1)]) (cs := List.toArray eL) Try.underlying46 zr46 (pl46 _ Try.underlying46) (partsB (.cons rfl .nil)) (Fills.run (a := [iv 0, iv 0] ++ ((List.replicate 32 (0 : Int)).map (Value.int .u8) ++ [.slice none 0 0, iv 0, iv 0, iv 0])) (c := [iv 2, iv 0] ++ ((List.replicate 32 (0 : Int)).map (Value.int .u8) ++ [.slice none 0 0, iv 0, iv 0, iv 0])) (.put (us := [iv 2]) rfl rfl rfl (Put.left (Put.lit 0 rfl)) .nil))) ?_
 let eM : List Go.Value := [iv 3, iv 0] ++ ((List.replicate 32 (0 : Int)).map (Value.int .u8) ++ [.slice none 0 0, iv 1, iv 9, iv 0])
 refine WL.val (Yl.build (places := [(0, 1), (1, 1), (2, 32), (34, 1), (35, 1), (36, 1), (37, 1)]) (cs := List.toArray eM) Try.underlying46 zr46 (pl46 _ Try.underlying46) (partsB (.cons rfl (.cons rfl (.cons rfl .nil)))) (Fills.run (a := [iv 0, iv 0] ++ ((List.replicate 32 (0 : Int)).map (Value.int .u8) ++ [.slice none 0 0, iv 0, iv 0, iv 0])) (c := [iv 3, iv 0] ++ ((List.replicate 32 (0 : Int)).map (Value.int .u8) ++ [.slice none 0 0, iv 1, iv 9, iv 0])) (.put (us := [iv 3]) rfl rfl rfl (Put.left (Put.lit 0 rfl)) (.put (us := [iv 1]) rfl rfl rfl (Put.skip 2 33 rfl (Put.skip 32 1 (len_map (List.length_replicate ..)) (Put.lit 1 rfl))) (.put (us := [iv 9]) rfl rfl rfl (Put.skip 2 34 rfl (Put.skip 32 2 (len_map (List.length_replicate ..)) (Put.lit 2 rfl))) .nil))))) ?_
 obtain ⟨a1, a2, a3, eP, eR, dy, dA, dM, dj⟩ := ev_lit1' (P := Try.prog) 5 (Kd.int .u8) dL Try.underlying44 ti5 ⟨by decide, by decide⟩ 7 (.int .u8 7) rfl
 refine WL.val (dA _ _ _ rfl) ?_
 let eN : List Go.Value := [iv 4, iv 0] ++ ((List.replicate 32 (0 : Int)).map (Value.int .u8) ++ [.slice a1 a3 a2, iv 1, iv 0, iv 0])
 refine WL.val (Yl.build (places := [(0, 1), (1, 1), (2, 32), (34, 1), (35, 1), (36, 1), (37, 1)]) (cs := List.toArray eN) Try.underlying46 zr46 (pl46 _ Try.underlying46) (partsB (.cons rfl (.cons rfl (.cons rfl .nil)))) (Fills.run (a := [iv 0, iv 0] ++ ((List.replicate 32 (0 : Int)).map (Value.int .u8) ++ [.slice none 0 0, iv 0, iv 0, iv 0])) (c := [iv 4, iv 0] ++ ((List.replicate 32 (0 : Int)).map (Value.int .u8) ++ [.slice a1 a3 a2, iv 1, iv 0, iv 0])) (.put (us := [iv 4]) rfl rfl rfl (Put.left (Put.lit 0 rfl)) (.put (us := [iv 1]) rfl rfl rfl (Put.skip 2 33 rfl (Put.skip 32 1 (len_map (List.length_replicate ..)) (Put.lit 1 rfl))) (.put (us := [.slice a1 a3 a2]) rfl rfl rfl (Put.skip 2 32 rfl (Put.skip 32 0 (len_map (List.length_replicate ..)) (Put.lit 0 rfl))) .nil))))) ?_
 obtain ⟨bo, aC, dC, (dN : Cx [CH.row h 0 cD, a4, a5, a6, a7, CH.row B 0 A])⟩ := Ctx.fzI 0 dM rfl
 obtain ⟨ds, dt, dr⟩ := Row.fz dj aC dC
 have dk := Row.mono df aC
 have dl := Row.mono dg aC
 have dm := Row.mono dh aC
 have dp := Row.mono di aC
 let dU : List Go.Value := [.agg (List.toArray ([iv 1, iv 1] ++ ((List.replicate 32 (0 : Int)).map (Value.int .u8) ++ [.slice none 0 0, iv 0, iv 0, iv 0]))), .agg (List.toArray ([iv 2, iv 0] ++ ((List.replicate 32 (0 : Int)).map (Value.int .u8) ++ [.slice none 0 0, iv 0, iv 0, iv 0]))), .agg (List.toArray ([iv 3, iv 0] ++ ((List.replicate 32 (0 : Int)).map (Value.int .u8) ++ [.slice none 0 0, iv 1, iv 9, iv 0]))), .agg (List.toArray ([iv 4, iv 0] ++ ((List.replicate 32 (0 : Int)).map (Value.int .u8) ++ [.slice a1 a3 a2, iv 1, iv 0, iv 0])))]
 obtain ⟨dH, dP, dT, s, eS, eD, dB, dO, dq⟩ := ev_lit' (P := Try.prog) 46 TRecord.K dN Try.underlying24 ti46 (by decide) [(⟨1, 1, (List.replicate 32 (0 : Int)), ([] : List Int), 0, 0, 0⟩ : TRecord), (⟨2, 0, (List.replicate 32 (0 : Int)), ([] : List Int), 0, 0, 0⟩ : TRecord), (⟨3, 0, (List.replicate 32 (0 : Int)), ([] : List Int), 1, 9, 0⟩ : TRecord), (⟨4, 0, (List.replicate 32 (0 : Int)), [7], 1, 0, 0⟩ : TRecord)] dU (.cons (TRecord.mk' _ (⟨1, 1, (List.replicate 32 (0 : Int)), ([] : List Int), 0, 0, 0⟩ : TRecord) none 0 0 (List.length_replicate ..) rfl (Nat.le_refl _) (Nat.zero_le _) (Sl.nil _ _ _ _)) (.cons (TRecord.mk' _ (⟨2, 0, (List.replicate 32 (0 : Int)), ([] : List Int), 0, 0, 0⟩ : TRecord) none 0 0 (List.length_replicate ..) rfl (Nat.le_refl _) (Nat.zero_le _) (Sl.nil _ _ _ _)) (.cons (TRecord.mk' _ (⟨3, 0, (List.replicate 32 (0 : Int)), ([] : List Int), 1, 9, 0⟩ : TRecord) none 0 0 (List.length_replicate ..) rfl (Nat.le_refl _) (Nat.zero_le _) (Sl.nil _ _ _ _)) (.cons (TRecord.mk' _ (⟨4, 0, (List.replicate 32 (0 : Int)), [7], 1, 0, 0⟩ : TRecord) a1 a2 a3 (List.length_replicate ..) dy ds dt dr) .nil)))) 4 rfl (by decide) (by decide)
 refine WL.val (dB _ [(.tmp 12), (.tmp 13), (.tmp 14), (.tmp 16)] _ (.cons rfl (.cons rfl (.cons rfl (.cons rfl .nil))))) <| WL.ln ([(⟨1, 1, (List.replicate 32 (0 : Int)), ([] : List Int), 0, 0, 0⟩ : TRecord), (⟨2, 0, (List.replicate 32 (0 : Int)), ([] : List Int), 0, 0, 0⟩ : TRecord), (⟨3, 0, (List.replicate 32 (0 : Int)), ([] : List Int), 1, 9, 0⟩ : TRecord), (⟨4, 0, (List.replicate 32 (0 : Int)), [7], 1, 0, 0⟩ : TRecord)].length : Int) rfl Try.underlying24 (by omega) <| WL.rd to 1 rfl ?_
 obtain ⟨⟨bC, l⟩, g, H⟩ := bindE H
 refine W.cutM (fun y ah => ∃ L ar ay al ac au az am ad av aA an ae aw aB ao af, Kn y [(2, .pointer (some ⟨h, 0, none⟩)), (3, iv bC)] ∧ Ctx w F D ah L [CH.row h 0 (TState.q l ar al ay au am az av an aA aw ao aB), ac, ad, ae, af, s, CH.row B 0 A] ∧ CH.le bo L ∧ al = l.Eras.length ∧ Row TEra.K L ac (.slice ar al ay) l.Eras ∧ am = l.Jobs.length ∧ Row TJob.K L ad (.slice au am az) l.Jobs ∧ an = l.Used.length ∧ Row (Kd.int .i64) L ae (.slice av an aA) l.Used ∧ ao = l.Barred.length ∧ Row Kd.bool L af (.slice aw ao aB) l.Barred) ?_ ?_
 ·refine W.block ?_
  have cV : Cx [CH.row h 0 cD, a4, a5, a6, a7, s, CH.row B 0 A] := dO.pick [1, 2, 3, 4, 5, 0, 6] rfl
  refine W.loop (fun de y ah => ∃ (a0 : Int) (o : Int) (p : TState), ∃ I S X M ag T Y N R U Z O J V aa Q G, Kn y [(1, .pointer (some ⟨B, 0, none⟩)), (2, .pointer (some ⟨h, 0, none⟩)), (3, iv a0), (17, .slice dH dT dP), (18, iv ([(⟨1, 1, (List.replicate 32 (0 : Int)), ([] : List Int), 0, 0, 0⟩ : TRecord), (⟨2, 0, (List.replicate 32 (0 : Int)), ([] : List Int), 0, 0, 0⟩ : TRecord), (⟨3, 0, (List.replicate 32 (0 : Int)), ([] : List Int), 1, 9, 0⟩ : TRecord), (⟨4, 0, (List.replicate 32 (0 : Int)), [7], 1, 0, 0⟩ : TRecord)].length : Int)), (19, iv o)] ∧ Ctx w F D ah I [CH.row h 0 (TState.q p S M X T N Y U O Z V Q aa), ag, R, J, G, s, CH.row B 0 A] ∧ CH.le bo I ∧ M = p.Eras.length ∧ Row TEra.K I ag (.slice S M X) p.Eras ∧ N = p.Jobs.length ∧ Row TJob.K I R (.slice T N Y) p.Jobs ∧ O = p.Used.length ∧ Row (Kd.int .i64) I J (.slice U O Z) p.Used ∧ Q = p.Barred.length ∧ Row Kd.bool I G (.slice V Q aa) p.Barred ∧ juratlaw21_awake.l1 de a0 o p = some (bC, l)) k ⟨cS, 0, dE, bo, cE, cJ, cN, a4, cG, cK, cO, a5, cH, cL, cP, a6, cI, cM, cQ, a7, rfl, cV, (CH.le_refl _), du, dk, dv, dl, dw, dm, dx, dp, g⟩ ?_
  clear g
  rintro de y ah ⟨a0, o, p, I, S, X, M, ag, T, Y, N, R, U, Z, O, J, V, aa, Q, G, cn, a9, aq, aS, aI, aT, aJ, aU, aK, aV, aL, g⟩
  rcases de with _ | bd
  · exact absurd g (by simp [juratlaw21_awake.l1])
  rw [juratlaw21_awake.l1] at g
  have bg := Row.mono dq aq
  apply ks y cn
  refine W.sr rfl <| WL.rd to 1 rfl <| W.seq ?_
  rcases iteE g with ⟨aM, g⟩ | ⟨aM, g⟩
  ·refine W.cT aM rfl <| W.skip <| W.seq <| W.block <| W.sr rfl ?_
   obtain ⟨d4, g⟩ := guardE g
   obtain ⟨ex, em, bD, bZ⟩ := (Row.sl bg) (by omega)
   refine WL.val (Yl.elemAddr (i := o) rfl rfl bD Try.underlying24 sz46 (by omega)) ?_
   obtain ⟨dW, cp, ct⟩ := bZ o.toNat _ (getD_some (d := TRecord.z) (by omega))
   obtain ⟨bj, bp, bu, rfl, ai, ch, b3, b8, bU⟩ := TRecord.open cp
   let ak : List Go.Value := [iv (([(⟨1, 1, (List.replicate 32 (0 : Int)), ([] : List Int), 0, 0, 0⟩ : TRecord), (⟨2, 0, (List.replicate 32 (0 : Int)), ([] : List Int), 0, 0, 0⟩ : TRecord), (⟨3, 0, (List.replicate 32 (0 : Int)), ([] : List Int), 1, 9, 0⟩ : TRecord), (⟨4, 0, (List.replicate 32 (0 : Int)), [7], 1, 0, 0⟩ : TRecord)].getD o.toNat TRecord.z).Kind), iv (([(⟨1, 1, (List.replicate 32 (0 : Int)), ([] : List Int), 0, 0, 0⟩ : TRecord), (⟨2, 0, (List.replicate 32 (0 : Int)), ([] : List Int), 0, 0, 0⟩ : TRecord), (⟨3, 0, (List.replicate 32 (0 : Int)), ([] : List Int), 1, 9, 0⟩ : TRecord), (⟨4, 0, (List.replicate 32 (0 : Int)), [7], 1, 0, 0⟩ : TRecord)].getD o.toNat TRecord.z).Epoch)] ++ ((([(⟨1, 1, (List.replicate 32 (0 : Int)), ([] : List Int), 0, 0, 0⟩ : TRecord), (⟨2, 0, (List.replicate 32 (0 : Int)), ([] : List Int), 0, 0, 0⟩ : TRecord), (⟨3, 0, (List.replicate 32 (0 : Int)), ([] : List Int), 1, 9, 0⟩ : TRecord), (⟨4, 0, (List.replicate 32 (0 : Int)), [7], 1, 0, 0⟩ : TRecord)].getD o.toNat TRecord.z).Nonce).map (Value.int .u8) ++ [.slice bj bu bp, iv (([(⟨1, 1, (List.replicate 32 (0 : Int)), ([] : List Int), 0, 0, 0⟩ : TRecord), (⟨2, 0, (List.replicate 32 (0 : Int)), ([] : List Int), 0, 0, 0⟩ : TRecord), (⟨3, 0, (List.replicate 32 (0 : Int)), ([] : List Int), 1, 9, 0⟩ : TRecord), (⟨4, 0, (List.replicate 32 (0 : Int)), [7], 1, 0, 0⟩ : TRecord)].getD o.toNat TRecord.z).Job), iv (([(⟨1, 1, (List.replicate 32 (0 : Int)), ([] : List Int), 0, 0, 0⟩ : TRecord), (⟨2, 0, (List.replicate 32 (0 : Int)), ([] : List Int), 0, 0, 0⟩ : TRecord), (⟨3, 0, (List.replicate 32 (0 : Int)), ([] : List Int), 1, 9, 0⟩ : TRecord), (⟨4, 0, (List.replicate 32 (0 : Int)), [7], 1, 0, 0⟩ : TRecord)].getD o.toNat TRecord.z).Time), iv (([(⟨1, 1, (List.replicate 32 (0 : Int)), ([] : List Int), 0, 0, 0⟩ : TRecord), (⟨2, 0, (List.replicate 32 (0 : Int)), ([] : List Int), 0, 0, 0⟩ : TRecord), (⟨3, 0, (List.replicate 32 (0 : Int)), ([] : List Int), 1, 9, 0⟩ : TRecord), (⟨4, 0, (List.replicate 32 (0 : Int)), [7], 1, 0, 0⟩ : TRecord)].getD o.toNat TRecord.z).By)])
   refine WL.val (Yl.loadAgg (cs := ak) rfl Try.underlying46 rfl (sz_of sz46 (len_app rfl (len_app (len_map ai) rfl))) (fun j u hu => by rw [add_of]; exact ((Ctx.subI 5 a9 rfl)).cell (ct _ _ hu))) ?_
   let dV : List Go.Value := [iv 0, iv 0] ++ ((List.replicate 32 (0 : Int)).map (Value.int .u8) ++ [.slice none 0 0, iv 0, iv 0, iv 0])
   obtain ⟨ab, eO, cu, cX⟩ := ev_alloc (P := Try.prog) (e := 46) dV a9 zr46 rfl
   refine WL.val (cu _ _) ?_
   let aD : List Go.Value := TState.q p S M X T N Y U O Z V Q aa
   refine WL.st cX 0 0 ak rfl rfl rfl rfl (Put.all 38 (len_app rfl (len_app (len_map (List.length_replicate ..)) rfl)) (len_app rfl (len_app (len_map ai) rfl))) (ones_append (ones_of rfl) (ones_append (one_ints _ _) (ones_of rfl))) (sz_of sz46 (len_app rfl (len_app (len_map ai) rfl))) fun ah (ax : Cx [CH.row ab 0 ak, CH.row h 0 aD, ag, R, J, G, s, CH.row B 0 A]) => ?_
   refine WL.done <| W.sr rfl <| WL.rd to 2 rfl ?_
   rcases iteE g with ⟨aN, g⟩ | ⟨aN, g⟩
   ·refine W.cT aN rfl <| W.region rfl ?_
    refine WL.la ax 7 rfl rfl Try.underlying23 rfl sz23 <| WL.la ax 1 rfl rfl Try.underlying32 rfl sz32 <| WL.la ax 0 rfl rfl Try.underlying46 rfl (sz_of sz46 (len_app rfl (len_app (len_map ai) rfl))) ?_
    obtain ⟨et, E, cv, ba⟩ := Ctx.fzI 2 ax rfl
    replace ba : Cx [CH.row ab 0 ak, CH.row h 0 aD, R, J, G, s, CH.row B 0 A] := ba
    obtain ⟨b4, b9, bV⟩ := Row.fz aI E cv
    have bE := Row.mono bg E
    have bG := Row.mono aJ E
    have bH := Row.mono aK E
    have bI := Row.mono aL E
    obtain ⟨eu, x, cw, bb⟩ := Ctx.fzI 2 ba rfl
    replace bb : Cx [CH.row ab 0 ak, CH.row h 0 aD, J, G, s, CH.row B 0 A] := bb
    obtain ⟨b5, ca, bW⟩ := Row.fz bG x cw
    have bJ := Row.mono bE x
    have bK := Row.mono bH x
    have bL := Row.mono bI x
    obtain ⟨ew, r, cx, bc⟩ := Ctx.fzI 2 bb rfl
    replace bc : Cx [CH.row ab 0 ak, CH.row h 0 aD, G, s, CH.row B 0 A] := bc
    obtain ⟨b6, cb, bX⟩ := Row.fz bK r cx
    have bM := Row.mono bJ r
    have bN := Row.mono bL r
    obtain ⟨c9, m, cy, aE⟩ := Ctx.fzI 2 bc rfl
    replace aE : Cx [CH.row ab 0 ak, CH.row h 0 aD, s, CH.row B 0 A] := aE
    obtain ⟨b7, cc, bY⟩ := Row.fz bN m cy
    have bO := Row.mono bM m
    obtain ⟨⟨be, bB⟩, b1, g⟩ := bindE g
    refine WL.callH (docket_Apply.calls bd _ c9 (⟨0, 1, 0, 1, 1, 1, 0⟩ : TConfig) S X M T Y N U Z O V aa Q p bj bp bu ([(⟨1, 1, (List.replicate 32 (0 : Int)), ([] : List Int), 0, 0, 0⟩ : TRecord), (⟨2, 0, (List.replicate 32 (0 : Int)), ([] : List Int), 0, 0, 0⟩ : TRecord), (⟨3, 0, (List.replicate 32 (0 : Int)), ([] : List Int), 1, 9, 0⟩ : TRecord), (⟨4, 0, (List.replicate 32 (0 : Int)), [7], 1, 0, 0⟩ : TRecord)].getD o.toNat TRecord.z) aE.pre0 aS b4 b9 (Sl.mono bV (CH.le_trans x (CH.le_trans r m)) (CH.le_trans x (CH.le_trans r m))) aT b5 ca (Sl.mono bW (CH.le_trans r m) (CH.le_trans r m)) aU b6 cb (Sl.mono bX m m) aV b7 cc bY ai ch b3 b8 (Sl.mono bU (CH.le_trans E (CH.le_trans x (CH.le_trans r m))) (CH.le_trans E (CH.le_trans x (CH.le_trans r m)))) be bB b1) (ne.fr rfl rfl) ?_
    rintro dQ ah ⟨da, bk, bq, bv, aW, bl, br, bw, aX, bm, bs, bx, aY, bn, bt, bz, aZ, rfl, bi, cY, ci, bP, cj, bQ, ck, bR, cl, bS⟩
    refine ⟨_, rfl, ?_⟩
    have cZ : Cx [aW, aX, aY, aZ, CH.row ab 0 ak, CH.row h 0 aD, s, CH.row B 0 A] := Ctx.call0 aE cY
    have dY := Row.mono bO bi
    refine WL.run to 3 rfl ?_
    let bA : List Go.Value := TState.q be bk bv bq bl bw br bm bx bs bn bz bt
    refine WL.st cZ 5 0 bA rfl rfl rfl rfl (Put.lit 0 rfl) (ones_of rfl) sz32 fun ah (c1 : Cx [aW, aX, aY, aZ, CH.row ab 0 ak, CH.row h 0 bA, s, CH.row B 0 A]) => ?_
    refine WL.rd to 1 rfl <| inB_n <| W.region rfl ?_
    refine WL.rd to 2 rfl ?_
    have c2 : Cx [CH.row h 0 bA, aW, aX, aY, aZ, s, CH.row B 0 A] := c1.pick [5, 0, 1, 2, 3, 6, 7] rfl
    exact thenE_n ⟨bd, Nat.lt_succ_self _, bB, wi64 (o + 1), be, da, bk, bq, bv, aW, bl, br, bw, aX, bm, bs, bx, aY, bn, bt, bz, aZ, rfl, c2, (CH.le_trans aq (CH.le_trans E (CH.le_trans x (CH.le_trans r (CH.le_trans m bi))))), ci, bP, cj, bQ, ck, bR, cl, bS, g⟩
   refine W.cF aN rfl <| W.skip <| inB_n <| W.region rfl ?_
   refine WL.rd to 2 rfl ?_
   have c3 : Cx [CH.row h 0 aD, ag, R, J, G, s, CH.row B 0 A] := ax.pick [1, 2, 3, 4, 5, 6, 7] rfl
   exact thenE_n ⟨bd, Nat.lt_succ_self _, a0, wi64 (o + 1), p, I, S, X, M, ag, T, Y, N, R, U, Z, O, J, V, aa, Q, G, rfl, c3, aq, aS, aI, aT, aJ, aU, aK, aV, aL, g⟩
  refine W.cF aM rfl <| W.exit <| thenE_x <| thenE_x <| inB_here ?_
  cases g
  refine thenE_n ?_
  exact ⟨I, S, X, M, ag, T, Y, N, R, U, Z, O, J, V, aa, Q, G, rfl, a9, aq, aS, aI, aT, aJ, aU, aK, aV, aL⟩
 ·rintro y ah ⟨L, ar, ay, al, ac, au, az, am, ad, av, aA, an, ae, aw, aB, ao, af, cm, t, el, cd, aF, ce, ap, cf, aG, cg, aH⟩
  apply ks y cm
  refine W.seq ?_
  obtain ⟨dG, b, H⟩ := bindE H
  let a8 : List Go.Value := TState.q l ar al ay au am az av an aA aw ao aB
  refine W.cutM (fun y ah => y 0 = .bool dG ∧ Ctx w F D ah L [CH.row h 0 a8, ac, ad, ae, af, s, CH.row B 0 A]) ?_ ?_
  ·refine W.region rfl ?_
   refine WL.run to 3 rfl ?_
   rcases iteE b with ⟨aO, b⟩ | ⟨aO, b⟩
   ·refine WL.kn 35 (congrArg Value.bool (decide_eq_true aO)) <| WL.run to 1 rfl <| WL.lvG t 0 1 rfl rfl rfl rfl Try.underlying28 rfl rfl <| WL.lnG (l.Jobs.length : Int) rfl rfl rfl Try.underlying28 (by omega) <| WL.run to 3 rfl ?_
    rcases iteE b with ⟨aP, b⟩ | ⟨aP, b⟩
    ·refine WL.kn 41 (congrArg Value.bool (decide_eq_true aP)) <| WL.run to 1 rfl <| WL.lvG t 0 1 rfl rfl rfl rfl Try.underlying28 rfl rfl ?_
     obtain ⟨d5, b⟩ := guardE b
     obtain ⟨ey, en, bf, b0⟩ := (Row.sl ap) (by omega)
     refine WL.valOn rfl rfl (Yl.elemAddr (i := 0) rfl rfl bf Try.underlying28 sz55 (by omega)) <| WL.run to 1 rfl ?_
     obtain ⟨dX, cr, bh⟩ := b0 (0 : Int).toNat _ (getD_some (d := TJob.z) (by omega))
     obtain ⟨eo, ez, eE, ep, eA, eF, eq, eB, eG, er, eC, eH, cU, dc, dD, rfl, eg, d6, eb, dZ, eh, d7, ec, d0, ei, d8, ed, d1, ej, d9, ee, d2, ek, ea, ef, d3⟩ := TJob.open cr
     refine WL.valOn rfl rfl (Yl.load (v := iv ((l.Jobs.getD (0 : Int).toNat TJob.z).State)) rfl Try.underlying3 rfl (((Ctx.subI 2 t rfl)).cell (bh 1 _ rfl))) <| WL.run to 3 rfl ?_
     rcases iteE b with ⟨aQ, b⟩ | ⟨aQ, b⟩
     ·refine WL.kn 49 (congrArg Value.bool (decide_eq_true aQ)) <| WL.run to 1 rfl <| WL.lvG t 0 1 rfl rfl rfl rfl Try.underlying28 rfl rfl <| WL.valOn rfl rfl (Yl.elemAddr (i := 0) rfl rfl bf Try.underlying28 sz55 (by omega)) <| WL.run to 1 rfl <| WL.valOn rfl rfl (Yl.load (v := .slice cU dD dc) rfl Try.underlying44 rfl (((Ctx.subI 2 t rfl)).cell (bh 8 _ rfl))) <| WL.lnG (((l.Jobs.getD (0 : Int).toNat TJob.z).Value).length : Int) rfl rfl rfl Try.underlying44 (by omega) <| WL.run to 3 rfl ?_
      rcases iteE b with ⟨aR, b⟩ | ⟨aR, b⟩
      ·refine WL.kn 58 (congrArg Value.bool (decide_eq_true aR)) <| WL.laG t 0 rfl rfl rfl rfl Try.underlying32 rfl sz32 <| WL.on rfl rfl ?_
       obtain ⟨db, aj, ⟨cz, cA, cB, cC, _⟩, c5⟩ := Ctx.lend [ac, ad, ae, af] (ps := [CH.row h 0 a8, s, CH.row B 0 A]) (Ctx.pick [1, 2, 3, 4, 0, 5, 6] t rfl)
       obtain ⟨dF, b2, b⟩ := bindE b
       refine WL.callH (docket_Epoch.calls k _ db ar ay al au az am av aA an aw aB ao l (Ctx.pre (qs := []) (rest := [CH.row h 0 a8, s, CH.row B 0 A]) c5) cd (Row.len_le aF).1 (Row.len_le aF).2.1 (Sl.mono (Row.sl aF) aj cz) ce (Row.len_le ap).1 (Row.len_le ap).2.1 (Sl.mono (Row.sl ap) aj cA) cf (Row.len_le aG).1 (Row.len_le aG).2.1 (Sl.mono (Row.sl aG) aj cB) cg (Row.len_le aH).1 (Row.len_le aH).2.1 (Sl.mono (Row.sl aH) aj cC) dF b2) (ne.fr rfl rfl) ?_
       rintro dQ ah ⟨rfl, c6⟩
       refine ⟨_, rfl, ?_⟩
       have c7 : Cx [CH.row h 0 a8, ac, ad, ae, af, s, CH.row B 0 A] := Ctx.callL (qs := []) (rest := [CH.row h 0 a8, ac, ad, ae, af, s, CH.row B 0 A]) t aj c6
       refine WL.rd to 3 rfl ?_
       cases b
       refine thenE_n ?_
       exact ⟨rfl, c7⟩
      refine WL.kn 58 (congrArg Value.bool (decide_eq_false aR)) <| WL.offs 3 58 true rfl rfl <| WL.rd to 2 rfl ?_
      cases b
      refine thenE_n ?_
      exact ⟨rfl, t⟩
     refine WL.kn 49 (congrArg Value.bool (decide_eq_false aQ)) <| WL.offs 7 49 true rfl rfl <| WL.run to 2 rfl <| WL.offs 3 58 true rfl rfl <| WL.rd to 2 rfl ?_
     cases b
     refine thenE_n ?_
     exact ⟨rfl, t⟩
    refine WL.kn 41 (congrArg Value.bool (decide_eq_false aP)) <| WL.offs 6 41 true rfl rfl <| WL.run to 2 rfl <| WL.offs 7 49 true rfl rfl <| WL.run to 2 rfl <| WL.offs 3 58 true rfl rfl <| WL.rd to 2 rfl ?_
    cases b
    refine thenE_n ?_
    exact ⟨rfl, t⟩
   refine WL.kn 35 (congrArg Value.bool (decide_eq_false aO)) <| WL.offs 4 35 true rfl rfl <| WL.run to 2 rfl <| WL.offs 6 41 true rfl rfl <| WL.run to 2 rfl <| WL.offs 7 49 true rfl rfl <| WL.run to 2 rfl <| WL.offs 3 58 true rfl rfl <| WL.rd to 2 rfl ?_
   cases b
   refine thenE_n ?_
   exact ⟨rfl, t⟩
  ·rintro y ah ⟨co, c4⟩
   apply kn y (.c co .n)
   refine W.ret ?_
   have c8 : Cx [] := c4.pick [] rfl
   have dd := Option.some.inj H
   subst dd
   exact post_r (resE1 rfl rfl) ⟨rfl, (Ctx.weak c8 (CH.le_refl _))⟩
def juratlaw21_own.f (k : Nat) (a : TRecord) : Option TRecord := if (a.Data.length + a.Data.length / 4 + 192) * 1 ≤ 281474976710656 then (some (⟨a.Kind, a.Epoch, a.Nonce, a.Data, a.Job, a.Time, a.By⟩ : TRecord)) else none
theorem juratlaw21_own.calls (k w F L r T) (b : TRecord) (hp : Pre w F []) (a : b.Nonce.length = 32) (ac : T = b.Data.length) (ah : b.Data.length ≤ r) (ai : r ≤ maxLen) (ab : Sl (Kd.int .u8) F F L b.Data) (i : TRecord) (H : juratlaw21_own.f k b = some i) :
    Calls Try.prog 15 #[.agg (List.toArray ((TRecord.q b L T r)))] w fun e w' => ∃ B I v J, e = .returned (.agg (List.toArray ((TRecord.q i B v I)))) ∧ Ctx w F (domL []) w' F [J] ∧ i.Nonce.length = 32 ∧ v = i.Data.length ∧ Row (Kd.int .u8) F J (.slice B v I) i.Data := by
 have C := Ctx.start hp
 generalize hD : domL [] = D at C ⊢
 unfold juratlaw21_own.f at H
 refine Calls.ofW Try.func15 rfl (by simp [Try.ntmps15]) <| W.sr rfl ?_
 let y : List Go.Value := TRecord.q b L T r
 obtain ⟨x, al, O, U⟩ := ev_box (P := Try.prog) 46 (.agg (List.toArray y)) y C rfl
 refine WL.val (O _ _ _ rfl) ?_
 let A : List Go.Value := [iv 0, iv 0] ++ ((List.replicate 32 (0 : Int)).map (Value.int .u8) ++ [.slice none 0 0, iv 0, iv 0, iv 0])
 obtain ⟨d, am, Q, V⟩ := ev_alloc (P := Try.prog) (e := 46) A U zr46 rfl
 refine WL.val (Q _ _) <| WL.done <| W.sr rfl ?_
 obtain ⟨af, ag, aj, ak, an, ad, R, m, M⟩ := ev_lit0 (P := Try.prog) 5 (Kd.int .u8) V Try.underlying44 ti5
 refine WL.val (R _ _) <| WL.run to 1 rfl <| WL.lv m 2 34 rfl rfl Try.underlying44 rfl (at_skip 2 32 rfl (at_skip 32 0 (len_map a) rfl)) ?_
 obtain ⟨N, H⟩ := guardE H
 obtain ⟨l, p, u, h, ao, t, S, X, s⟩ := ev_append' (P := Try.prog) (cb := r) 5 (Kd.int .u8) [] [CH.row d 0 A, CH.row x 0 y] m M ac ab m.fro Try.underlying44 ti5 rfl zo5 (by decide) (by decide) (by simpa using N)
 have Y : Cx [h, CH.row d 0 A, CH.row x 0 y] := X
 rw [List.nil_append] at t s
 refine WL.val (S _ _ _ _ rfl rfl) <| WL.run to 1 rfl ?_
 let j : List Go.Value := TRecord.q b l u p
 refine WL.st Y 2 34 [.slice l u p] rfl rfl rfl rfl (Put.skip 2 32 rfl (Put.skip 32 0 (len_map a) (Put.lit 0 rfl))) (ones_of rfl) sz44 fun ae (E : Cx [h, CH.row d 0 A, CH.row x 0 j]) => ?_
 refine WL.done <| W.sr rfl <| WL.la E 2 rfl rfl Try.underlying46 rfl (sz_of sz46 (len_app rfl (len_app (len_map a) rfl))) <| WL.st E 1 0 j rfl rfl rfl rfl (Put.all 38 (len_app rfl (len_app (len_map (List.length_replicate ..)) rfl)) (len_app rfl (len_app (len_map a) rfl))) (ones_append (ones_of rfl) (ones_append (one_ints _ _) (ones_of rfl))) (sz_of sz46 (len_app rfl (len_app (len_map a) rfl))) fun ae (G : Cx [h, CH.row d 0 j, CH.row x 0 j]) => ?_
 refine WL.done <| W.ret ?_
 have Z : Cx [h] := G.pick [0] rfl
 have aa := Option.some.inj H
 subst aa
 exact post_r (resEC rfl ((.cell rfl (run_loadVA2 (g := d) (off := 0) (o := 0) (cs := j) (us := j) Try.underlying46 rfl (sz_of sz46 (len_app rfl (len_app (len_map a) rfl))) (Ctx.subI 1 G rfl) (take_all _)) .nil))) ⟨l, p, u, h, rfl, Z, a, t, s⟩
def juratlaw21_Great.l1 : Nat → List TRecord → Int → Option (Sum Unit Bool)
  | 0, _, _ => none
  | k + 1, b, a => if a < (b.length : Int) then (if 0 ≤ a ∧ a < (b.length : Int) then (if (((b.getD a.toNat TRecord.z).Data).length : Int) > 200 then (some (Sum.inr true)) else (juratlaw21_Great.l1 k b (wi64 (a + 1)))) else none) else (some (Sum.inl ()))
def juratlaw21_Great.f (k : Nat) (a : List TRecord) : Option Bool := if (a.length : Int) > 80 then (some true) else ((juratlaw21_Great.l1 k a 0).bind fun b => sumE b (fun _ => some false) (fun d => some d))
theorem juratlaw21_Great.calls (k w F y t N) (h : List TRecord) (hp : Pre w F []) (aj : N = h.length) (ah : h.length ≤ t) (ai : t ≤ maxLen) (T : Sl TRecord.K F F y h) (x : Bool) (H : juratlaw21_Great.f k h = some x) :
    Calls Try.prog 7 #[.slice y N t] w fun e w' => e = .returned (.bool x) ∧ (∃ o, w' = w.drewN o) := by
 have C := Ctx.start hp
 generalize domL [] = D at C
 have P : ∃ o, w = w.drewN o := ⟨0, rfl⟩
 unfold juratlaw21_Great.f at H
 refine Calls.ofW Try.func7 rfl (by simp [Try.ntmps7]) <| W.sr rfl <| WL.rd to 1 rfl <| W.seq <| W.sr rfl <| WL.run to 1 rfl <| WL.ln (h.length : Int) rfl Try.underlying24 (by omega) <| WL.rd to 1 rfl ?_
 rcases iteE H with ⟨s, H⟩ | ⟨s, H⟩
 ·refine W.cT s rfl <| W.sr rfl <| WL.rd to 1 rfl <| W.ret <| thenE_r ?_
  have Y := Option.some.inj H
  subst Y
  exact post_r (resE1 rfl rfl) ⟨rfl, P⟩
 refine W.cF s rfl <| W.skip <| W.seq <| W.sr rfl <| WL.rd to 1 rfl ?_
 obtain ⟨u, a, H⟩ := bindE H
 refine W.cutM (fun b p => Ctx w F D p F [] ∧ (∃ o, p = w.drewN o) ∧ u = Sum.inl ()) ?_ ?_
 ·refine W.block <| W.loop (fun B b p => ∃ (g : Int), Kn b [(0, .slice y N t), (3, iv g)] ∧ Ctx w F D p F [] ∧ (∃ o, p = w.drewN o) ∧ juratlaw21_Great.l1 B h g = some u) k ⟨0, rfl, C, P, a⟩ ?_
  clear a
  rintro B b p ⟨g, J, r, j, a⟩
  rcases B with _ | U
  · exact absurd a (by simp [juratlaw21_Great.l1])
  rw [juratlaw21_Great.l1] at a
  apply ks b J
  refine W.seq <| W.sr rfl <| WL.run to 2 rfl <| WL.ln (h.length : Int) rfl Try.underlying24 (by omega) <| WL.rd to 1 rfl ?_
  rcases iteE a with ⟨l, a⟩ | ⟨l, a⟩
  ·refine W.cT l rfl <| W.skip <| W.seq <| W.block <| W.sr rfl <| WL.run to 2 rfl ?_
   obtain ⟨aa, a⟩ := guardE a
   obtain ⟨ag, ae, E, I⟩ := T (by omega)
   refine WL.val (Yl.elemAddr (i := g) rfl rfl E Try.underlying24 sz46 (by omega)) <| WL.run to 1 rfl ?_
   obtain ⟨X, L, M⟩ := I g.toNat _ (getD_some (d := TRecord.z) (by omega))
   obtain ⟨O, Q, V, rfl, G, ad, ab, ac, Z⟩ := TRecord.open L
   refine WL.val (Yl.load (v := .slice O V Q) rfl Try.underlying44 rfl (((r.fro)).cell (M 34 _ (at_skip 2 32 rfl (at_skip 32 0 (len_map G) rfl))))) <| WL.ln (((h.getD g.toNat TRecord.z).Data).length : Int) rfl Try.underlying44 (by omega) <| WL.rd to 1 rfl ?_
   rcases iteE a with ⟨m, a⟩ | ⟨m, a⟩
   ·refine W.cT m rfl <| W.sr rfl <| WL.rd to 1 rfl <| W.ret ?_
    iterate 6 first | refine inB_r ?_ | refine thenE_r ?_
    cases a
    replace H := sumE_r H
    have R := Option.some.inj H
    subst R
    exact post_r (resE1 rfl rfl) ⟨rfl, j⟩
   refine W.cF m rfl <| W.skip <| inB_n <| W.region rfl ?_
   exact WL.rd to 3 rfl <| thenE_n ⟨U, Nat.lt_succ_self _, wi64 (g + 1), rfl, r, j, a⟩
  refine W.cF l rfl <| W.exit <| thenE_x <| thenE_x <| inB_here ?_
  cases a
  refine thenE_n ?_
  exact ⟨r, j, rfl⟩
 ·rintro b p ⟨af, A, rfl⟩
  replace H := sumE_l H
  refine W.sr rfl <| WL.rd to 1 rfl <| W.ret ?_
  have S := Option.some.inj H
  subst S
  exact post_r (resE1 rfl rfl) ⟨rfl, A⟩
end Go.Proofs.Ytobdpbnadjkhiaa
