/- Functions of the program: each as a plain function of numbers and lists, and the proof that the program's own comes to it. Nothing is assumed but what each theorem says. -/
import Derived.Test.YtobdpbnadjkhiaaTGa
import Derived.Test.YtobdpbnadjkhiaaTGk
namespace Go.Proofs.Ytobdpbnadjkhiaa
open Go.RowKit Go.WG
set_option linter.unusedVariables false
set_option linter.unusedSimpArgs false
set_option maxRecDepth 100000
set_option maxHeartbeats 4000000
def juratref21_zero.f (k : Nat) (a : TRecord) : Option Bool := (if a.Epoch = 0 then (if a.Nonce = (List.replicate 32 (0 : Int)) then (if (a.Data.length : Int) = 0 then (if a.Job = 0 then (if a.Time = 0 then (some (decide (a.By = 0))) else (some (false))) else (some (false))) else (some (false))) else (some (false))) else (some (false))).bind fun b => some b
theorem juratref21_zero.calls (k w F v s A) (d : TRecord) (hp : Pre w F []) (h : d.Nonce.length = 32) (Q : A = d.Data.length) (N : d.Data.length ≤ s) (O : s ≤ maxLen) (M : Sl (Kd.int .u8) F F v d.Data) (u : Bool) (H : juratref21_zero.f k d = some u) :
    Calls Try.prog 44 #[.agg (List.toArray ((TRecord.q d v A s)))] w fun e w' => e = .returned (.bool u) ∧ Ctx w F (domL []) w' F [] := by
 have C := Ctx.start hp
 generalize hD : domL [] = D at C ⊢
 unfold juratref21_zero.f at H
 refine Calls.ofW Try.func44 rfl (by simp [Try.ntmps44]) <| W.sr rfl ?_
 let t : List Go.Value := TRecord.q d v A s
 obtain ⟨J, R, y, b⟩ := ev_box (P := Try.prog) 46 (.agg (List.toArray t)) t C rfl
 refine WL.val (y _ _ _ rfl) <| WL.rd to 1 rfl <| W.sr rfl <| WL.run to 1 rfl <| WL.lv b 0 1 rfl rfl Try.underlying3 rfl rfl <| WL.run to 2 rfl ?_
 obtain ⟨I, a, H⟩ := bindE H
 refine WL.cut (fun i L => i 2 = .bool I ∧ Ctx w F D L F [CH.row J 0 t]) ?_ ?_
 ·rcases iteE a with ⟨j, a⟩ | ⟨j, a⟩
  ·refine WL.kn 6 (congrArg Value.bool (decide_eq_true j)) <| WL.run to 1 rfl <| WL.valOn rfl rfl (Yl.loadVA (g := J) (off := 0) (o := 2) (cs := t) (us := d.Nonce.map (Value.int .u8)) rfl Try.underlying43 rfl (sz_of sz43 (len_map h)) (Ctx.subI 0 b rfl) (mid_skip 2 0 rfl (mid_here rfl))) <| WL.on rfl rfl <| WL.val (Yl.buildArr (cs := List.toArray ((List.replicate 32 (0 : Int)).map (Value.int .u8))) Try.underlying43 sz5 zr43 (partsB .nil) rfl) <| WL.valOn rfl rfl (Yl.aeql (n := 2) (xs := d.Nonce.map (Value.int .u8)) (ys := (List.replicate 32 (0 : Int)).map (Value.int .u8)) rfl rfl eg43 (EqV.arrI Try.underlying43 Try.underlying5 sz5 h (List.length_replicate ..)) (by decide)) <| WL.run to 2 rfl ?_
   rcases iteE a with ⟨l, a⟩ | ⟨l, a⟩
   ·refine WL.kn 12 (congrArg Value.bool (decide_eq_true l)) <| WL.run to 1 rfl <| WL.lvG b 0 34 rfl rfl rfl rfl Try.underlying44 rfl (at_skip 2 32 rfl (at_skip 32 0 (len_map h) rfl)) <| WL.lnG (d.Data.length : Int) rfl rfl rfl Try.underlying44 (by omega) <| WL.run to 3 rfl ?_
    rcases iteE a with ⟨m, a⟩ | ⟨m, a⟩
    ·refine WL.kn 18 (congrArg Value.bool (decide_eq_true m)) <| WL.run to 1 rfl <| WL.lvG b 0 35 rfl rfl rfl rfl Try.underlying3 rfl (at_skip 2 33 rfl (at_skip 32 1 (len_map h) rfl)) <| WL.run to 3 rfl ?_
     rcases iteE a with ⟨p, a⟩ | ⟨p, a⟩
     ·refine WL.kn 23 (congrArg Value.bool (decide_eq_true p)) <| WL.run to 1 rfl <| WL.lvG b 0 36 rfl rfl rfl rfl Try.underlying3 rfl (at_skip 2 34 rfl (at_skip 32 2 (len_map h) rfl)) <| WL.run to 3 rfl ?_
      rcases iteE a with ⟨r, a⟩ | ⟨r, a⟩
      ·refine WL.kn 28 (congrArg Value.bool (decide_eq_true r)) <| WL.run to 1 rfl <| WL.lvG b 0 37 rfl rfl rfl rfl Try.underlying3 rfl (at_skip 2 35 rfl (at_skip 32 3 (len_map h) rfl)) <| WL.run to 3 rfl ?_
       cases a
       exact WL.done ⟨rfl, b⟩
      refine WL.kn 28 (congrArg Value.bool (decide_eq_false r)) <| WL.offs 3 28 true rfl rfl <| WL.run to 2 rfl ?_
      cases a
      exact WL.done ⟨rfl, b⟩
     refine WL.kn 23 (congrArg Value.bool (decide_eq_false p)) <| WL.offs 3 23 true rfl rfl <| WL.run to 2 rfl <| WL.offs 3 28 true rfl rfl <| WL.run to 2 rfl ?_
     cases a
     exact WL.done ⟨rfl, b⟩
    refine WL.kn 18 (congrArg Value.bool (decide_eq_false m)) <| WL.offs 3 18 true rfl rfl <| WL.run to 2 rfl <| WL.offs 3 23 true rfl rfl <| WL.run to 2 rfl <| WL.offs 3 28 true rfl rfl <| WL.run to 2 rfl ?_
    cases a
    exact WL.done ⟨rfl, b⟩
   refine WL.kn 12 (congrArg Value.bool (decide_eq_false l)) <| WL.offs 4 12 true rfl rfl <| WL.run to 2 rfl <| WL.offs 3 18 true rfl rfl <| WL.run to 2 rfl <| WL.offs 3 23 true rfl rfl <| WL.run to 2 rfl <| WL.offs 3 28 true rfl rfl <| WL.run to 2 rfl ?_
   cases a
   exact WL.done ⟨rfl, b⟩
  refine WL.kn 6 (congrArg Value.bool (decide_eq_false j)) <| WL.offs 4 6 true rfl rfl <| WL.run to 2 rfl <| WL.offs 4 12 true rfl rfl <| WL.run to 2 rfl <| WL.offs 3 18 true rfl rfl <| WL.run to 2 rfl <| WL.offs 3 23 true rfl rfl <| WL.run to 2 rfl ?_
  refine WL.offs 3 28 true rfl rfl <| WL.run to 2 rfl ?_
  cases a
  exact WL.done ⟨rfl, b⟩
 ·rintro i L ⟨x, B⟩
  apply kn i (.c x .n)
  refine W.ret ?_
  have E : Cx [] := B.pick [] rfl
  have G := Option.some.inj H
  subst G
  exact post_r (resE1 rfl rfl) ⟨rfl, E⟩
def juratref21_May.f (k : Nat) (a : TRecord) : Option Bool := if a.Kind = 1 then (((juratref21_in.f k a.Epoch 1 1099511627776).bind fun o => if o = true then ((juratref21_zero.f k (⟨a.Kind, 0, (List.replicate 32 (0 : Int)), a.Data, a.Job, a.Time, a.By⟩ : TRecord)).bind fun p => some p) else (some false)).bind fun s => some s) else (if a.Kind = 2 then ((if (a.Data.length : Int) ≤ 64 then ((juratref21_zero.f k (⟨a.Kind, a.Epoch, a.Nonce, ([] : List Int), a.Job, a.Time, a.By⟩ : TRecord)).bind fun r => some r) else (some false)).bind fun t => some t) else ((if a.Kind = 3 then (some (decide (a.Kind = 3))) else (some (decide (a.Kind = 5)))).bind fun u => if u = true then (((juratref21_in.f k a.Job 0 1099511627776).bind fun b => if b = true then ((juratref21_in.f k a.Time 0 1099511627776).bind fun d => if d = true then ((juratref21_zero.f k (⟨a.Kind, a.Epoch, a.Nonce, a.Data, 0, 0, a.By⟩ : TRecord)).bind fun e => some e) else (some false)) else (some false)).bind fun l => some l) else (if a.Kind = 4 then (((juratref21_in.f k a.Job 0 1099511627776).bind fun g => if g = true then ((juratref21_in.f k a.By 0 1099511627776).bind fun h => if h = true then (if (a.Data.length : Int) ≤ 32 then ((juratref21_zero.f k (⟨a.Kind, a.Epoch, a.Nonce, ([] : List Int), 0, a.Time, 0⟩ : TRecord)).bind fun i => some i) else (some false)) else (some false)) else (some false)).bind fun m => some m) else (if a.Kind = 6 then ((juratref21_zero.f k a).bind fun j => some j) else (some false)))))
theorem juratref21_May.calls (k w F t s u) (a : TRecord) (hp : Pre w F []) (h : a.Nonce.length = 32) (af : u = a.Data.length) (ad : a.Data.length ≤ s) (ae : s ≤ maxLen) (ac : Sl (Kd.int .u8) F F t a.Data) (ar : Bool) (H : juratref21_May.f k a = some ar) :
    Calls Try.prog 33 #[.agg (List.toArray ((TRecord.q a t u s)))] w fun e w' => e = .returned (.bool ar) ∧ Ctx w F (domL []) w' F [] := by
 have C := Ctx.start hp
 generalize hD : domL [] = D at C ⊢
 unfold juratref21_May.f at H
 refine Calls.ofW Try.func33 rfl (by simp [Try.ntmps33]) <| W.sr rfl ?_
 let m : List Go.Value := TRecord.q a t u s
 obtain ⟨o, bp, aP, ap⟩ := ev_box (P := Try.prog) 46 (.agg (List.toArray m)) m C rfl
 refine WL.val (aP _ _ _ rfl) <| WL.rd to 1 rfl <| W.sr rfl <| WL.la ap 0 rfl rfl Try.underlying46 rfl (sz_of sz46 (len_app rfl (len_app (len_map h) rfl))) ?_
 let bk : List Go.Value := [iv 0, iv 0] ++ ((List.replicate 32 (0 : Int)).map (Value.int .u8) ++ [.slice none 0 0, iv 0, iv 0, iv 0])
 obtain ⟨j, bq, aQ, a0⟩ := ev_alloc (P := Try.prog) (e := 46) bk ap zr46 rfl
 refine WL.val (aQ _ _) <| WL.st a0 0 0 m rfl rfl rfl rfl (Put.all 38 (len_app rfl (len_app (len_map (List.length_replicate ..)) rfl)) (len_app rfl (len_app (len_map h) rfl))) (ones_append (ones_of rfl) (ones_append (one_ints _ _) (ones_of rfl))) (sz_of sz46 (len_app rfl (len_app (len_map h) rfl))) fun i (O : Cx [CH.row j 0 m, CH.row o 0 m]) => ?_
 refine WL.done <| W.seq <| W.sr rfl <| WL.run to 1 rfl <| WL.lv O 1 0 rfl rfl Try.underlying3 rfl rfl <| WL.done <| W.block <| W.sr rfl <| WL.rd to 2 rfl ?_
 rcases iteE H with ⟨S, H⟩ | ⟨S, H⟩
 ·refine W.cT S rfl <| W.sr rfl <| WL.run to 1 rfl ?_
  let bl : List Go.Value := [iv a.Kind, iv 0] ++ (a.Nonce.map (Value.int .u8) ++ [.slice t u s, iv a.Job, iv a.Time, iv a.By])
  refine WL.st O 0 1 [iv 0] rfl rfl rfl rfl (Put.left (Put.lit 1 rfl)) (ones_of rfl) sz3 fun i (a1 : Cx [CH.row j 0 bl, CH.row o 0 m]) => ?_
  refine WL.done <| W.sr rfl <| WL.val (Yl.buildArr (cs := List.toArray ((List.replicate 32 (0 : Int)).map (Value.int .u8))) Try.underlying43 sz5 zr43 (partsB .nil) rfl) <| WL.run to 1 rfl ?_
  let bb : List Go.Value := [iv a.Kind, iv 0] ++ ((List.replicate 32 (0 : Int)).map (Value.int .u8) ++ [.slice t u s, iv a.Job, iv a.Time, iv a.By])
  refine WL.st a1 0 2 ((List.replicate 32 (0 : Int)).map (Value.int .u8)) rfl rfl rfl rfl (Put.skip 2 0 rfl (Put.here 32 (len_map h) (len_map (List.length_replicate ..)))) (one_ints _ _) (sz_of sz43 (len_map (List.length_replicate ..))) fun i (aa : Cx [CH.row j 0 bb, CH.row o 0 m]) => ?_
  refine WL.done <| W.seq ?_
  obtain ⟨bh, l, H⟩ := bindE H
  refine W.cutM (fun d i => d 2 = .bool bh ∧ Ctx w F D i F [CH.row j 0 bb, CH.row o 0 m]) ?_ ?_
  ·refine W.region rfl ?_
   refine WL.run to 1 rfl <| WL.lv aa 1 1 rfl rfl Try.underlying3 rfl rfl ?_
   obtain ⟨be, aJ, l⟩ := bindE l
   refine WL.cq aa (juratref21_in.calls k _ F a.Epoch 1 1099511627776 aa.pre0  be aJ) (ne.fr rfl rfl) fun i Z => ?_
   refine WL.run to 1 rfl ?_
   rcases iteE l with ⟨T, l⟩ | ⟨T, l⟩
   ·refine WL.kn 15 (congrArg Value.bool T) <| WL.laG Z 0 rfl rfl rfl rfl Try.underlying46 rfl (sz_of sz46 (len_app rfl (len_app (len_map (List.length_replicate ..)) rfl))) <| WL.on rfl rfl ?_
    obtain ⟨bf, aK, l⟩ := bindE l
    refine WL.c0 Z (juratref21_zero.calls k _ F t s u (⟨a.Kind, 0, (List.replicate 32 (0 : Int)), a.Data, a.Job, a.Time, a.By⟩ : TRecord) Z.pre0 (List.length_replicate ..) af ad ae ac bf aK) (ne.fr rfl rfl) fun i a3 => ?_
    refine WL.rd to 2 rfl ?_
    cases l
    refine thenE_n ?_
    exact ⟨rfl, a3⟩
   refine WL.kn 15 (congrArg Value.bool (Bool.eq_false_iff.2 T)) <| WL.offs 2 15 true rfl rfl <| WL.rd to 2 rfl ?_
   cases l
   refine thenE_n ?_
   exact ⟨rfl, Z⟩
  ·rintro d i ⟨aM, a2⟩
   apply kn d (.c aM .n)
   refine W.ret <| inB_r <| thenE_r ?_
   have a4 : Cx [] := a2.pick [] rfl
   have a9 := Option.some.inj H
   subst a9
   exact post_r (resE1 rfl rfl) ⟨rfl, a4⟩
 refine W.cF S rfl <| W.sr rfl <| WL.rd to 2 rfl ?_
 rcases iteE H with ⟨U, H⟩ | ⟨U, H⟩
 ·refine W.cT U rfl <| W.sr rfl <| WL.run to 1 rfl ?_
  let bc : List Go.Value := TRecord.q a none 0 0
  refine WL.st O 0 34 [.slice none 0 0] rfl rfl rfl rfl (Put.skip 2 32 rfl (Put.skip 32 0 (len_map h) (Put.lit 0 rfl))) (ones_of rfl) sz44 fun i (Q : Cx [CH.row j 0 bc, CH.row o 0 m]) => ?_
  refine WL.done <| W.seq ?_
  obtain ⟨bi, p, H⟩ := bindE H
  refine W.cutM (fun d i => d 2 = .bool bi ∧ Ctx w F D i F [CH.row j 0 bc, CH.row o 0 m]) ?_ ?_
  ·refine W.region rfl ?_
   refine WL.run to 1 rfl <| WL.lv Q 1 34 rfl rfl Try.underlying44 rfl (at_skip 2 32 rfl (at_skip 32 0 (len_map h) rfl)) <| WL.ln (a.Data.length : Int) rfl Try.underlying44 (by omega) <| WL.run to 2 rfl ?_
   rcases iteE p with ⟨V, p⟩ | ⟨V, p⟩
   ·refine WL.kn 26 (congrArg Value.bool (decide_eq_true V)) <| WL.laG Q 0 rfl rfl rfl rfl Try.underlying46 rfl (sz_of sz46 (len_app rfl (len_app (len_map h) rfl))) <| WL.on rfl rfl ?_
    obtain ⟨bg, aL, p⟩ := bindE p
    refine WL.c0 Q (juratref21_zero.calls k _ F none 0 0 (⟨a.Kind, a.Epoch, a.Nonce, ([] : List Int), a.Job, a.Time, a.By⟩ : TRecord) Q.pre0 h rfl (Nat.le_refl _) (Nat.zero_le _) (Sl.nil _ _ _ _) bg aL) (ne.fr rfl rfl) fun i a6 => ?_
    refine WL.rd to 2 rfl ?_
    cases p
    refine thenE_n ?_
    exact ⟨rfl, a6⟩
   refine WL.kn 26 (congrArg Value.bool (decide_eq_false V)) <| WL.offs 2 26 true rfl rfl <| WL.rd to 2 rfl ?_
   cases p
   refine thenE_n ?_
   exact ⟨rfl, Q⟩
  ·rintro d i ⟨aN, a5⟩
   apply kn d (.c aN .n)
   refine W.ret <| inB_r <| thenE_r ?_
   have a7 : Cx [] := a5.pick [] rfl
   have ba := Option.some.inj H
   subst ba
   exact post_r (resE1 rfl rfl) ⟨rfl, a7⟩
 refine W.cF U rfl <| W.seq ?_
 obtain ⟨bj, v, H⟩ := bindE H
 refine W.cutM (fun d i => Kn d [(1, .pointer (some ⟨o, 0, none⟩)), (3, .pointer (some ⟨j, 0, none⟩)), (6, iv a.Kind), (30, .bool bj)] ∧ Ctx w F D i F [CH.row j 0 m, CH.row o 0 m]) ?_ ?_
 ·refine W.sr rfl <| WL.rd to 2 rfl ?_
  rcases iteE v with ⟨X, v⟩ | ⟨X, v⟩
  ·refine W.cT X rfl <| W.skip ?_
   cases v
   refine thenE_n ?_
   exact ⟨rfl, O⟩
  refine W.cF X rfl <| W.region rfl ?_
  refine WL.rd to 2 rfl ?_
  cases v
  refine thenE_n ?_
  exact ⟨rfl, O⟩
 ·rintro d i ⟨aO, x⟩
  apply ks d aO
  rcases iteE H with ⟨Y, H⟩ | ⟨Y, H⟩
  ·refine W.condT (congrArg Value.bool Y) <| W.sr rfl <| WL.run to 1 rfl ?_
   let bm : List Go.Value := [iv a.Kind, iv a.Epoch] ++ (a.Nonce.map (Value.int .u8) ++ [.slice t u s, iv 0, iv a.Time, iv a.By])
   refine WL.st x 0 35 [iv 0] rfl rfl rfl rfl (Put.skip 2 33 rfl (Put.skip 32 1 (len_map h) (Put.lit 1 rfl))) (ones_of rfl) sz3 fun i (a8 : Cx [CH.row j 0 bm, CH.row o 0 m]) => ?_
   refine WL.done <| W.sr rfl <| WL.run to 1 rfl ?_
   let bd : List Go.Value := [iv a.Kind, iv a.Epoch] ++ (a.Nonce.map (Value.int .u8) ++ [.slice t u s, iv 0, iv 0, iv a.By])
   refine WL.st a8 0 36 [iv 0] rfl rfl rfl rfl (Put.skip 2 34 rfl (Put.skip 32 2 (len_map h) (Put.lit 2 rfl))) (ones_of rfl) sz3 fun i (ab : Cx [CH.row j 0 bd, CH.row o 0 m]) => ?_
   refine WL.done <| W.seq ?_
   obtain ⟨aY, g, H⟩ := bindE H
   refine W.cutM (fun d i => d 2 = .bool aY ∧ Ctx w F D i F [CH.row j 0 bd, CH.row o 0 m]) ?_ ?_
   ·refine W.region rfl ?_
    refine WL.run to 1 rfl <| WL.lv ab 1 35 rfl rfl Try.underlying3 rfl (at_skip 2 33 rfl (at_skip 32 1 (len_map h) rfl)) ?_
    obtain ⟨aR, ag, g⟩ := bindE g
    refine WL.cq ab (juratref21_in.calls k _ F a.Job 0 1099511627776 ab.pre0  aR ag) (ne.fr rfl rfl) fun i y => ?_
    refine WL.run to 1 rfl ?_
    rcases iteE g with ⟨E, g⟩ | ⟨E, g⟩
    ·refine WL.kn 38 (congrArg Value.bool E) <| WL.run to 1 rfl <| WL.lvG y 1 36 rfl rfl rfl rfl Try.underlying3 rfl (at_skip 2 34 rfl (at_skip 32 2 (len_map h) rfl)) <| WL.on rfl rfl ?_
     obtain ⟨aS, ah, g⟩ := bindE g
     refine WL.cq y (juratref21_in.calls k _ F a.Time 0 1099511627776 y.pre0  aS ah) (ne.fr rfl rfl) fun i A => ?_
     refine WL.run to 2 rfl ?_
     rcases iteE g with ⟨G, g⟩ | ⟨G, g⟩
     ·refine WL.kn 43 (congrArg Value.bool G) <| WL.laG A 0 rfl rfl rfl rfl Try.underlying46 rfl (sz_of sz46 (len_app rfl (len_app (len_map h) rfl))) <| WL.on rfl rfl ?_
      obtain ⟨aT, ai, g⟩ := bindE g
      refine WL.c0 A (juratref21_zero.calls k _ F t s u (⟨a.Kind, a.Epoch, a.Nonce, a.Data, 0, 0, a.By⟩ : TRecord) A.pre0 h af ad ae ac aT ai) (ne.fr rfl rfl) fun i av => ?_
      refine WL.rd to 2 rfl ?_
      cases g
      refine thenE_n ?_
      exact ⟨rfl, av⟩
     refine WL.kn 43 (congrArg Value.bool (Bool.eq_false_iff.2 G)) <| WL.offs 2 43 true rfl rfl <| WL.rd to 2 rfl ?_
     cases g
     refine thenE_n ?_
     exact ⟨rfl, A⟩
    refine WL.kn 38 (congrArg Value.bool (Bool.eq_false_iff.2 E)) <| WL.offs 3 38 true rfl rfl <| WL.run to 2 rfl <| WL.offs 2 43 true rfl rfl <| WL.rd to 2 rfl ?_
    cases g
    refine thenE_n ?_
    exact ⟨rfl, y⟩
   ·rintro d i ⟨an, au⟩
    apply kn d (.c an .n)
    refine W.ret <| inB_r <| thenE_r ?_
    have aw : Cx [] := au.pick [] rfl
    have aF := Option.some.inj H
    subst aF
    exact post_r (resE1 rfl rfl) ⟨rfl, aw⟩
  refine W.condF (congrArg Value.bool (Bool.eq_false_iff.2 Y)) <| W.sr rfl <| WL.rd to 2 rfl ?_
  rcases iteE H with ⟨I, H⟩ | ⟨I, H⟩
  ·refine W.cT I rfl <| W.sr rfl <| WL.run to 1 rfl ?_
   let bn : List Go.Value := [iv a.Kind, iv a.Epoch] ++ (a.Nonce.map (Value.int .u8) ++ [.slice t u s, iv 0, iv a.Time, iv a.By])
   refine WL.st x 0 35 [iv 0] rfl rfl rfl rfl (Put.skip 2 33 rfl (Put.skip 32 1 (len_map h) (Put.lit 1 rfl))) (ones_of rfl) sz3 fun i (ax : Cx [CH.row j 0 bn, CH.row o 0 m]) => ?_
   refine WL.done <| W.sr rfl <| WL.run to 1 rfl ?_
   let bo : List Go.Value := [iv a.Kind, iv a.Epoch] ++ (a.Nonce.map (Value.int .u8) ++ [.slice t u s, iv 0, iv a.Time, iv 0])
   refine WL.st ax 0 37 [iv 0] rfl rfl rfl rfl (Put.skip 2 35 rfl (Put.skip 32 3 (len_map h) (Put.lit 3 rfl))) (ones_of rfl) sz3 fun i (ay : Cx [CH.row j 0 bo, CH.row o 0 m]) => ?_
   refine WL.done <| W.sr rfl <| WL.run to 1 rfl ?_
   let aq : List Go.Value := [iv a.Kind, iv a.Epoch] ++ (a.Nonce.map (Value.int .u8) ++ [.slice none 0 0, iv 0, iv a.Time, iv 0])
   refine WL.st ay 0 34 [.slice none 0 0] rfl rfl rfl rfl (Put.skip 2 32 rfl (Put.skip 32 0 (len_map h) (Put.lit 0 rfl))) (ones_of rfl) sz44 fun i (R : Cx [CH.row j 0 aq, CH.row o 0 m]) => ?_
   refine WL.done <| W.seq ?_
   obtain ⟨aZ, b, H⟩ := bindE H
   refine W.cutM (fun d i => d 2 = .bool aZ ∧ Ctx w F D i F [CH.row j 0 aq, CH.row o 0 m]) ?_ ?_
   ·refine W.region rfl ?_
    refine WL.run to 1 rfl <| WL.lv R 1 35 rfl rfl Try.underlying3 rfl (at_skip 2 33 rfl (at_skip 32 1 (len_map h) rfl)) ?_
    obtain ⟨aU, aj, b⟩ := bindE b
    refine WL.cq R (juratref21_in.calls k _ F a.Job 0 1099511627776 R.pre0  aU aj) (ne.fr rfl rfl) fun i B => ?_
    refine WL.run to 1 rfl ?_
    rcases iteE b with ⟨J, b⟩ | ⟨J, b⟩
    ·refine WL.kn 55 (congrArg Value.bool J) <| WL.run to 1 rfl <| WL.lvG B 1 37 rfl rfl rfl rfl Try.underlying3 rfl (at_skip 2 35 rfl (at_skip 32 3 (len_map h) rfl)) <| WL.on rfl rfl ?_
     obtain ⟨aV, ak, b⟩ := bindE b
     refine WL.cq B (juratref21_in.calls k _ F a.By 0 1099511627776 B.pre0  aV ak) (ne.fr rfl rfl) fun i r => ?_
     refine WL.run to 2 rfl ?_
     rcases iteE b with ⟨L, b⟩ | ⟨L, b⟩
     ·refine WL.kn 60 (congrArg Value.bool L) <| WL.run to 1 rfl <| WL.lvG r 1 34 rfl rfl rfl rfl Try.underlying44 rfl (at_skip 2 32 rfl (at_skip 32 0 (len_map h) rfl)) <| WL.lnG (a.Data.length : Int) rfl rfl rfl Try.underlying44 (by omega) <| WL.run to 3 rfl ?_
      rcases iteE b with ⟨M, b⟩ | ⟨M, b⟩
      ·refine WL.kn 66 (congrArg Value.bool (decide_eq_true M)) <| WL.laG r 0 rfl rfl rfl rfl Try.underlying46 rfl (sz_of sz46 (len_app rfl (len_app (len_map h) rfl))) <| WL.on rfl rfl ?_
       obtain ⟨aW, al, b⟩ := bindE b
       refine WL.c0 r (juratref21_zero.calls k _ F none 0 0 (⟨a.Kind, a.Epoch, a.Nonce, ([] : List Int), 0, a.Time, 0⟩ : TRecord) r.pre0 h rfl (Nat.le_refl _) (Nat.zero_le _) (Sl.nil _ _ _ _) aW al) (ne.fr rfl rfl) fun i aA => ?_
       refine WL.rd to 2 rfl ?_
       cases b
       refine thenE_n ?_
       exact ⟨rfl, aA⟩
      refine WL.kn 66 (congrArg Value.bool (decide_eq_false M)) <| WL.offs 2 66 true rfl rfl <| WL.rd to 2 rfl ?_
      cases b
      refine thenE_n ?_
      exact ⟨rfl, r⟩
     refine WL.kn 60 (congrArg Value.bool (Bool.eq_false_iff.2 L)) <| WL.offs 4 60 true rfl rfl <| WL.run to 2 rfl <| WL.offs 2 66 true rfl rfl <| WL.rd to 2 rfl ?_
     cases b
     refine thenE_n ?_
     exact ⟨rfl, r⟩
    refine WL.kn 55 (congrArg Value.bool (Bool.eq_false_iff.2 J)) <| WL.offs 3 55 true rfl rfl <| WL.run to 2 rfl <| WL.offs 4 60 true rfl rfl <| WL.run to 2 rfl <| WL.offs 2 66 true rfl rfl <| WL.rd to 2 rfl ?_
    cases b
    refine thenE_n ?_
    exact ⟨rfl, B⟩
   ·rintro d i ⟨ao, az⟩
    apply kn d (.c ao .n)
    refine W.ret <| inB_r <| thenE_r ?_
    have aB : Cx [] := az.pick [] rfl
    have aG := Option.some.inj H
    subst aG
    exact post_r (resE1 rfl rfl) ⟨rfl, aB⟩
  refine W.cF I rfl <| W.sr rfl <| WL.rd to 2 rfl ?_
  rcases iteE H with ⟨N, H⟩ | ⟨N, H⟩
  ·refine W.cT N rfl <| W.sr rfl <| WL.la x 1 rfl rfl Try.underlying46 rfl (sz_of sz46 (len_app rfl (len_app (len_map h) rfl))) ?_
   obtain ⟨aX, am, H⟩ := bindE H
   refine WL.c0 x (juratref21_zero.calls k _ F t s u a x.pre0 h af ad ae ac aX am) (ne.fr rfl rfl) fun i aC => ?_
   refine WL.rd to 1 rfl <| W.ret <| inB_r <| thenE_r ?_
   have aD : Cx [] := aC.pick [] rfl
   have aH := Option.some.inj H
   subst aH
   exact post_r (resE1 rfl rfl) ⟨rfl, aD⟩
  refine W.cF N rfl <| W.skip <| inB_n <| W.sr rfl <| WL.rd to 1 rfl <| W.ret ?_
  have aE : Cx [] := x.pick [] rfl
  have aI := Option.some.inj H
  subst aI
  exact post_r (resE1 rfl rfl) ⟨rfl, aE⟩
def juratref21_New.f (k : Nat) (a : TConfig) : Option (TState × Int) := (juratref21_Right.f k a).bind fun b => if b = true then (if 0 ≤ a.Workers ∧ a.Workers * 8 ≤ 140737488355328 then (if 0 ≤ a.Workers ∧ a.Workers * 1 ≤ 140737488355328 then (some ((⟨([] : List TEra), ([] : List TJob), (List.replicate a.Workers.toNat (0 : Int)), (List.replicate a.Workers.toNat (false : Bool)), 0⟩ : TState), 0)) else none) else none) else (some ((⟨([] : List TEra), ([] : List TJob), ([] : List Int), ([] : List Bool), 0⟩ : TState), 1))
theorem juratref21_New.calls (k w F) (s : TConfig) (hp : Pre w F [])  (h : TState) (aD : Int) (H : juratref21_New.f k s = some (h, aD)) :
    Calls Try.prog 10 #[.agg (List.toArray (TConfig.q s))] w fun e w' => ∃ R aa I ag S ab J ah T ac L ai U ad M aj, e = .returned (.tuple #[(.agg (List.toArray (TState.q h R I aa S J ab T L ac U M ad))), (iv aD)]) ∧ Ctx w F (domL []) w' F [ag, ah, ai, aj] ∧ I = h.Eras.length ∧ Row TEra.K F ag (.slice R I aa) h.Eras ∧ J = h.Jobs.length ∧ Row TJob.K F ah (.slice S J ab) h.Jobs ∧ L = h.Used.length ∧ Row (Kd.int .i64) F ai (.slice T L ac) h.Used ∧ M = h.Barred.length ∧ Row Kd.bool F aj (.slice U M ad) h.Barred := by
 have C := Ctx.start hp
 generalize hD : domL [] = D at C ⊢
 unfold juratref21_New.f at H
 refine Calls.ofW Try.func10 rfl (by simp [Try.ntmps10]) <| W.sr rfl ?_
 let v : List Go.Value := TConfig.q s
 obtain ⟨B, bn, a9, bh⟩ := ev_box (P := Try.prog) 23 (.agg (List.toArray v)) v C rfl
 refine WL.val (a9 _ _ _ rfl) ?_
 let x : List Go.Value := [.slice none 0 0, .slice none 0 0, .slice none 0 0, .slice none 0 0, iv 0]
 obtain ⟨y, bo, ba, aM⟩ := ev_alloc (P := Try.prog) (e := 32) x bh zr32 rfl
 refine WL.val (ba _ _) <| WL.rd to 1 rfl <| W.seq <| W.sr rfl <| WL.la aM 1 rfl rfl Try.underlying23 rfl sz23 ?_
 obtain ⟨bb, a8, H⟩ := bindE H
 refine WL.c0 aM (juratref21_Right.calls k _ F s aM.pre0  bb a8) (ne.fr rfl rfl) fun Q aB => ?_
 refine WL.rd to 1 rfl ?_
 rcases iteE H with ⟨E, H⟩ | ⟨E, H⟩
 ·refine W.condF (congrArg Value.bool (nb_t E)) <| W.skip <| W.seq <| W.regionA [([7], CH.row B 0 v)] (by kernel_rfl) ?_
  have aC := Ctx.drewN aB 1
  refine WA.takes [(0, none), (1, some 0), (3, none), (4, some 0)] ⟨(Ctx.subI 1 aC rfl), trivial⟩ (by kernel_rfl) <| WT.run to 1 rfl <| WT.lv 1 rfl rfl rfl Try.underlying3 rfl rfl <| WT.run to 1 rfl <| WT.lv 1 rfl rfl rfl Try.underlying3 rfl rfl <| WT.done ?_
  obtain ⟨aX, H⟩ := guardE H
  obtain ⟨aY, H⟩ := guardE H
  refine WA.par (fun L_ a Q => ∃ l p i b m r j d, Ctx w F D Q F [b, d, CH.row y 0 x, CH.row B 0 v] ∧ a 2 = .pointer (some ⟨y, 0, none⟩) ∧ a 3 = iv 0 ∧ a 9 = iv s.Workers ∧ a 12 = iv s.Workers ∧ cond (L_ 2) (a 10 = .slice l i p ∧ i = (List.replicate s.Workers.toNat (0 : Int)).length ∧ Row (Kd.int .i64) F b (.slice l i p) (List.replicate s.Workers.toNat (0 : Int))) (True) ∧ cond (L_ 5) (a 13 = .slice m j r ∧ j = (List.replicate s.Workers.toNat (false : Bool)).length ∧ Row Kd.bool F d (.slice m j r) (List.replicate s.Workers.toNat (false : Bool))) (True)) [(2, [], []), (5, [], [])] [0, 1, 3, 4] [0, 1, 2, 3, 4, 5] #[true, true, true, true, true, true, false, false, false] 3 2 (by kernel_rfl) ?_ (.cons ?_ (.cons ?_ .nil)) ?_
  ·have a5 := Ctx.emp aC
   have a6 := Ctx.emp a5
   exact ⟨none, 0, 0, CH.emp, none, 0, 0, CH.emp, a6, rfl, rfl, rfl, rfl, (iF rfl trivial), (iF rfl trivial)⟩
  ·intro L_ a Q hk_ hI_
   obtain ⟨bi, _⟩ := hk_
   obtain ⟨l, p, i, b, m, r, j, d, a7, a1, a2, G, au, bc, am⟩ := hI_
   obtain ⟨aE, aN, a3, ae, bk, aq, ay, V, ak⟩ := ev_make' (P := Try.prog) 3 (Kd.int .i64) a7 Try.underlying29 ti3 0 rfl (by decide) s.Workers aX
   refine UpI.val rfl rfl (ay _ _ _ _ _ _ G G) ⟨(Ctx.subI 4 V rfl), trivial⟩ ?_
   have aG : Cx [ae, d, CH.row y 0 x, CH.row B 0 v] := V.pick [0, 2, 3, 4] rfl
   exact ⟨aE, aN, a3, ae, m, r, j, d, aG, a1, a2, G, au, (iT rfl ⟨rfl, aq, ak⟩), am⟩
  ·intro L_ a Q hk_ hI_
   obtain ⟨bj, _⟩ := hk_
   obtain ⟨l, p, i, b, m, r, j, d, aH, av, aw, ax, u, an, bd⟩ := hI_
   obtain ⟨aF, aO, a4, af, bl, ar, az, X, al⟩ := ev_make' (P := Try.prog) 4 Kd.bool aH Try.underlying30 ti4 false rfl (by decide) s.Workers aY
   refine UpI.val rfl rfl (az _ _ _ _ _ _ u u) ⟨(Ctx.subI 4 X rfl), trivial⟩ ?_
   have aI : Cx [b, af, CH.row y 0 x, CH.row B 0 v] := X.pick [1, 0, 3, 4] rfl
   exact ⟨l, p, i, b, aF, aO, a4, af, aI, av, aw, ax, u, an, (iT rfl ⟨rfl, ar, al⟩)⟩
  ·rintro a Q ⟨l, p, i, b, m, r, j, d, Y, N, be, bf, bg, ao, ap⟩
   obtain ⟨aP, aZ, aV⟩ := cT rfl ao
   obtain ⟨aQ, a0, aW⟩ := cT rfl ap
   refine WA.takes [(6, none)] ⟨(Ctx.subI 3 Y rfl), trivial⟩ (by kernel_rfl) ?_
   let O : List Go.Value := [.slice none 0 0, .slice none 0 0, .slice l i p, .slice m j r, iv 0]
   refine WT.val rfl (fun _ hC_ => Yl.build (places := [(0, 1), (1, 1), (2, 1), (3, 1), (4, 1)]) (cs := List.toArray O) Try.underlying32 zr32 (pl32 _ Try.underlying32) (partsB (.cons (by exact aP) (.cons (by exact aQ) .nil))) rfl) ?_
   refine WT.done ?_
   obtain ⟨bm, aA, aJ⟩ := ev_setI (P := Try.prog) (ps1 := [b, d]) (ps2 := [CH.row B 0 v]) (t := 32) 0 O (.agg (List.toArray O)) Y rfl rfl (ones_of rfl) sz32
   have A : Cx [b, d, CH.row y 0 O, CH.row B 0 v] := aJ
   refine WA.up1 7 (by kernel_rfl) (Up.skip rfl rfl (aA _ _ _ _ N rfl) ⟨trivial, trivial⟩ ?_)
   refine WA.takes [(8, none)] ⟨(Ctx.subI 3 A rfl), trivial⟩ (by kernel_rfl) <| WT.run to 1 rfl <| WT.done <| WA.done (by kernel_rfl) <| W.ret ?_
   have aK : Cx [CH.emp, CH.emp, b, d] := A.pick [4, 4, 0, 1] rfl
   simp only [Option.some.injEq, Prod.mk.injEq] at H
   obtain ⟨aR, aS⟩ := H
   subst aR aS
   exact post_r (resET rfl ((.cell N (run_loadVA2 (g := y) (off := 0) (o := 0) (cs := O) (us := O) Try.underlying32 rfl sz32 (Ctx.subI 2 A rfl) rfl) (.tmp rfl .nil))) rfl) ⟨none, 0, 0, CH.emp, none, 0, 0, CH.emp, l, p, i, b, m, r, j, d, rfl, aK, rfl, (Row.nil _ _), rfl, (Row.nil _ _), aZ, aV, a0, aW⟩
 refine W.condT (congrArg Value.bool (nb_f E)) <| W.sr rfl <| WL.val (Yl.build (places := [(0, 1), (1, 1), (2, 1), (3, 1), (4, 1)]) (cs := List.toArray x) Try.underlying32 zr32 (pl32 _ Try.underlying32) (partsB .nil) rfl) <| WL.st aB 0 0 x rfl rfl rfl rfl (Put.lit 0 rfl) (ones_of rfl) sz32 fun Q (Z : Cx [CH.row y 0 x, CH.row B 0 v]) => ?_
 refine WL.rd to 1 rfl <| W.ret <| thenE_r ?_
 have aL : Cx [CH.emp, CH.emp, CH.emp, CH.emp] := Z.pick [2, 2, 2, 2] rfl
 simp only [Option.some.injEq, Prod.mk.injEq] at H
 obtain ⟨aT, aU⟩ := H
 subst aT aU
 exact post_r (resET rfl ((.cell rfl (run_loadVA2 (g := y) (off := 0) (o := 0) (cs := x) (us := x) Try.underlying32 rfl sz32 (Ctx.subI 0 Z rfl) rfl) (.tmp rfl .nil))) rfl) ⟨none, 0, 0, CH.emp, none, 0, 0, CH.emp, none, 0, 0, CH.emp, none, 0, 0, CH.emp, rfl, aL, rfl, (Row.nil _ _), rfl, (Row.nil _ _), rfl, (Row.nil _ _), rfl, (Row.nil _ _)⟩
def juratref21_Epoch.f (k : Nat) (a : TState) : Option Int := if (a.Eras.length : Int) = 0 then (some 0) else (if 0 ≤ (wi64 ((a.Eras.length : Int) - 1)) ∧ (wi64 ((a.Eras.length : Int) - 1)) < (a.Eras.length : Int) then (some ((a.Eras.getD (wi64 ((a.Eras.length : Int) - 1)).toNat TEra.z).Epoch)) else none)
theorem juratref21_Epoch.calls (k w F x s J y t o l h p m j r) (a : TState) (hp : Pre w F []) (an : J = a.Eras.length) (al : a.Eras.length ≤ s) (am : s ≤ maxLen) (Q : Sl TEra.K F F x a.Eras) (af : o = a.Jobs.length) (Z : a.Jobs.length ≤ t) (ac : t ≤ maxLen) (T : Sl TJob.K F F y a.Jobs) (ag : p = a.Used.length) (aa : a.Used.length ≤ h) (ad : h ≤ maxLen) (U : Sl (Kd.int .i64) F F l a.Used) (ah : r = a.Barred.length) (ab : a.Barred.length ≤ j) (ae : j ≤ maxLen) (V : Sl Kd.bool F F m a.Barred) (u : Int) (H : juratref21_Epoch.f k a = some u) :
    Calls Try.prog 20 #[.agg (List.toArray (TState.q a x J s y o t l p h m r j))] w fun e w' => e = .returned (iv u) ∧ Ctx w F (domL []) w' F [] := by
 have C := Ctx.start hp
 generalize hD : domL [] = D at C ⊢
 unfold juratref21_Epoch.f at H
 refine Calls.ofW Try.func20 rfl (by simp [Try.ntmps20]) <| W.sr rfl ?_
 let R : List Go.Value := TState.q a x J s y o t l p h m r j
 obtain ⟨ak, ao, I, b⟩ := ev_box (P := Try.prog) 32 (.agg (List.toArray R)) R C rfl
 refine WL.val (I _ _ _ rfl) <| WL.rd to 1 rfl <| W.seq <| W.sr rfl <| WL.run to 1 rfl <| WL.lv b 0 0 rfl rfl Try.underlying27 rfl rfl <| WL.ln (a.Eras.length : Int) rfl Try.underlying27 (by omega) <| WL.rd to 1 rfl ?_
 rcases iteE H with ⟨g, H⟩ | ⟨g, H⟩
 ·refine W.cT g rfl <| W.sr rfl <| WL.rd to 1 rfl <| W.ret <| thenE_r ?_
  have L : Cx [] := b.pick [] rfl
  have N := Option.some.inj H
  subst N
  exact post_r (resE1 rfl rfl) ⟨rfl, L⟩
 refine W.cF g rfl <| W.skip <| W.sr rfl <| WL.run to 1 rfl <| WL.lv b 0 0 rfl rfl Try.underlying27 rfl rfl <| WL.run to 1 rfl <| WL.lv b 0 0 rfl rfl Try.underlying27 rfl rfl <| WL.ln (a.Eras.length : Int) rfl Try.underlying27 (by omega) <| WL.run to 1 rfl ?_
 obtain ⟨Y, H⟩ := guardE H
 obtain ⟨aj, ai, A, B⟩ := Q (by omega)
 refine WL.val (Yl.elemAddr (i := wi64 ((a.Eras.length : Int) - 1)) rfl rfl A Try.underlying27 sz65 (by omega)) <| WL.run to 1 rfl ?_
 obtain ⟨S, E, G⟩ := B (wi64 ((a.Eras.length : Int) - 1)).toNat _ (getD_some (d := TEra.z) (by omega))
 obtain ⟨rfl, X⟩ := TEra.open E
 refine WL.val (Yl.load (v := iv ((a.Eras.getD (wi64 ((a.Eras.length : Int) - 1)).toNat TEra.z).Epoch)) rfl Try.underlying3 rfl (((b.fro)).cell (G 0 _ rfl))) <| WL.rd to 1 rfl <| W.ret ?_
 have M : Cx [] := b.pick [] rfl
 have O := Option.some.inj H
 subst O
 exact post_r (resE1 rfl rfl) ⟨rfl, M⟩
def juratref21_Nonce.l1 : Nat → TState → Int → Int → Option (Sum Unit ((List Int) × Bool))
  | 0, _, _, _ => none
  | k + 1, b, d, a => if a < (b.Eras.length : Int) then (if 0 ≤ a ∧ a < (b.Eras.length : Int) then (if ((b.Eras.getD a.toNat TEra.z).Epoch) = d then (some (Sum.inr ((b.Eras.getD a.toNat TEra.z).Nonce, true))) else (juratref21_Nonce.l1 k b d (wi64 (a + 1)))) else none) else (some (Sum.inl ()))
def juratref21_Nonce.f (k : Nat) (a : TState) (b : Int) : Option ((List Int) × Bool) := (juratref21_Nonce.l1 k a b 0).bind fun d => sumE d (fun _ => some ((List.replicate 32 (0 : Int)), false)) (fun e => some e)
theorem juratref21_Nonce.calls (k w F ab U ao ac V O J A Q L B R) (b : TState) (T : Int) (hp : Pre w F []) (aO : ao = b.Eras.length) (aM : b.Eras.length ≤ U) (aN : U ≤ maxLen) (au : Sl TEra.K F F ab b.Eras) (aI : O = b.Jobs.length) (aC : b.Jobs.length ≤ V) (aF : V ≤ maxLen) (ay : Sl TJob.K F F ac b.Jobs) (aJ : Q = b.Used.length) (aD : b.Used.length ≤ A) (aG : A ≤ maxLen) (az : Sl (Kd.int .i64) F F J b.Used) (aK : R = b.Barred.length) (aE : b.Barred.length ≤ B) (aH : B ≤ maxLen) (aA : Sl Kd.bool F F L b.Barred) (S : List Int) (aa : Bool) (H : juratref21_Nonce.f k b T = some (S, aa)) :
    Calls Try.prog 18 #[.agg (List.toArray (TState.q b ab ao U ac O V J Q A L R B)), iv T] w fun e w' => e = .returned (.tuple #[(.agg (List.toArray (S.map (Value.int .u8)))), (.bool aa)]) ∧ Ctx w F (domL []) w' F [] ∧ S.length = 32 := by
 have C := Ctx.start hp
 generalize hD : domL [] = D at C ⊢
 unfold juratref21_Nonce.f at H
 refine Calls.ofW Try.func18 rfl (by simp [Try.ntmps18]) <| W.sr rfl ?_
 let I : List Go.Value := TState.q b ab ao U ac O V J Q A L R B
 obtain ⟨t, aP, am, ap⟩ := ev_box (P := Try.prog) 32 (.agg (List.toArray I)) I C rfl
 refine WL.val (am _ _ _ rfl) ?_
 obtain ⟨r, aQ, an, aq⟩ := ev_alloc (P := Try.prog) (e := 43) ((List.replicate 32 (0 : Int)).map (Value.int .u8)) ap zr43 rfl
 refine WL.val (an _ _) <| WL.rd to 1 rfl <| W.seq <| W.sr rfl <| WL.rd to 1 rfl ?_
 obtain ⟨Z, a, H⟩ := bindE H
 refine W.cutM (fun l y => l 4 = .pointer (some ⟨r, 0, none⟩) ∧ Ctx w F D y F [CH.row r 0 ((List.replicate 32 (0 : Int)).map (Value.int .u8)), CH.row t 0 I] ∧ Z = Sum.inl ()) ?_ ?_
 ·refine W.block <| W.loop (fun aj l y => ∃ (h : Int), Kn l [(1, iv T), (2, .pointer (some ⟨t, 0, none⟩)), (4, .pointer (some ⟨r, 0, none⟩)), (6, iv h)] ∧ Ctx w F D y F [CH.row r 0 ((List.replicate 32 (0 : Int)).map (Value.int .u8)), CH.row t 0 I] ∧ juratref21_Nonce.l1 aj b T h = some Z) k ⟨0, rfl, aq, a⟩ ?_
  clear a
  rintro aj l y ⟨h, al, p, a⟩
  rcases aj with _ | av
  · exact absurd a (by simp [juratref21_Nonce.l1])
  rw [juratref21_Nonce.l1] at a
  apply ks l al
  refine W.seq <| W.sr rfl <| WL.run to 2 rfl <| WL.lv p 1 0 rfl rfl Try.underlying27 rfl rfl <| WL.ln (b.Eras.length : Int) rfl Try.underlying27 (by omega) <| WL.rd to 1 rfl ?_
  rcases iteE a with ⟨x, a⟩ | ⟨x, a⟩
  ·refine W.cT x rfl <| W.skip <| W.seq <| W.block <| W.sr rfl <| WL.run to 1 rfl <| WL.lv p 1 0 rfl rfl Try.underlying27 rfl rfl <| WL.run to 1 rfl ?_
   obtain ⟨aB, a⟩ := guardE a
   obtain ⟨aL, ax, E, X⟩ := au (by omega)
   refine WL.val (Yl.elemAddr (i := h) rfl rfl E Try.underlying27 sz65 (by omega)) <| WL.run to 1 rfl ?_
   obtain ⟨aw, Y, G⟩ := X h.toNat _ (getD_some (d := TEra.z) (by omega))
   obtain ⟨rfl, m⟩ := TEra.open Y
   refine WL.val (Yl.load (v := iv ((b.Eras.getD h.toNat TEra.z).Epoch)) rfl Try.underlying3 rfl (((p.fro)).cell (G 0 _ rfl))) <| WL.rd to 2 rfl ?_
   rcases iteE a with ⟨s, a⟩ | ⟨s, a⟩
   ·refine W.cT s rfl <| W.sr rfl <| WL.run to 1 rfl <| WL.lv p 1 0 rfl rfl Try.underlying27 rfl rfl <| WL.run to 1 rfl <| WL.val (Yl.elemAddr (i := h) rfl rfl E Try.underlying27 sz65 (by omega)) <| WL.run to 1 rfl <| WL.val (Yl.loadAgg (cs := ((b.Eras.getD h.toNat TEra.z).Nonce).map (Value.int .u8)) rfl Try.underlying43 rfl (sz_of sz43 (len_map m)) (fun j u hu => by rw [add_of, Nat.add_assoc]; exact ((p.fro)).cell (G (1 + j) _ (part_at (mid_skip 1 0 rfl (mid_all rfl)) hu)))) ?_
    refine WL.st p 0 0 (((b.Eras.getD h.toNat TEra.z).Nonce).map (Value.int .u8)) rfl rfl rfl rfl (Put.all 32 (len_map (List.length_replicate ..)) (len_map m)) (one_ints _ _) (sz_of sz43 (len_map m)) fun y (M : Cx [CH.row r 0 (((b.Eras.getD h.toNat TEra.z).Nonce).map (Value.int .u8)), CH.row t 0 I]) => ?_
    refine WL.rd to 1 rfl <| W.ret ?_
    iterate 6 first | refine inB_r ?_ | refine thenE_r ?_
    cases a
    replace H := sumE_r H
    have ad : Cx [] := M.pick [] rfl
    simp only [Option.some.injEq, Prod.mk.injEq] at H
    obtain ⟨af, ag⟩ := H
    subst af ag
    exact post_r (resET rfl ((.cell rfl (run_loadVA2 (g := r) (off := 0) (o := 0) (cs := ((b.Eras.getD h.toNat TEra.z).Nonce).map (Value.int .u8)) (us := ((b.Eras.getD h.toNat TEra.z).Nonce).map (Value.int .u8)) Try.underlying43 rfl (sz_of sz43 (len_map m)) (Ctx.subI 0 M rfl) (take_all _)) (.tmp rfl .nil))) rfl) ⟨rfl, ad, m⟩
   refine W.cF s rfl <| W.skip <| inB_n <| W.region rfl ?_
   exact WL.rd to 3 rfl <| thenE_n ⟨av, Nat.lt_succ_self _, wi64 (h + 1), rfl, p, a⟩
  refine W.cF x rfl <| W.exit <| thenE_x <| thenE_x <| inB_here ?_
  cases a
  refine thenE_n ?_
  exact ⟨rfl, p, rfl⟩
 ·rintro l y ⟨ak, ar, rfl⟩
  replace H := sumE_l H
  apply kn l (.c ak .n)
  refine W.sr rfl <| WL.val (Yl.buildArr (cs := List.toArray ((List.replicate 32 (0 : Int)).map (Value.int .u8))) Try.underlying43 sz5 zr43 (partsB .nil) rfl) <| WL.st ar 0 0 ((List.replicate 32 (0 : Int)).map (Value.int .u8)) rfl rfl rfl rfl (Put.all 32 (len_map (List.length_replicate ..)) (len_map (List.length_replicate ..))) (one_ints _ _) (sz_of sz43 (len_map (List.length_replicate ..))) fun y (N : Cx [CH.row r 0 ((List.replicate 32 (0 : Int)).map (Value.int .u8)), CH.row t 0 I]) => ?_
  refine WL.rd to 1 rfl <| W.ret ?_
  have ae : Cx [] := N.pick [] rfl
  simp only [Option.some.injEq, Prod.mk.injEq] at H
  obtain ⟨ah, ai⟩ := H
  subst ah ai
  exact post_r (resET rfl ((.cell rfl (run_loadVA2 (g := r) (off := 0) (o := 0) (cs := (List.replicate 32 (0 : Int)).map (Value.int .u8)) (us := (List.replicate 32 (0 : Int)).map (Value.int .u8)) Try.underlying43 rfl (sz_of sz43 (len_map (List.length_replicate ..))) (Ctx.subI 0 N rfl) (take_all _)) (.tmp rfl .nil))) rfl) ⟨rfl, ae, (List.length_replicate ..)⟩
def juratref21_place.l1 : Nat → List Int → Int → Int → Option (Sum Unit Int)
  | 0, _, _, _ => none
  | k + 1, b, d, a => if a < (b.length : Int) then (if 0 ≤ a ∧ a < (b.length : Int) then (if (b.getD a.toNat 0) = d then (some (Sum.inr a)) else (juratref21_place.l1 k b d (wi64 (a + 1)))) else none) else (some (Sum.inl ()))
def juratref21_place.f (k : Nat) (a : List Int) (b : Int) : Option Int := (juratref21_place.l1 k a b 0).bind fun d => sumE d (fun _ => some (-1)) (fun e => some e)
theorem juratref21_place.calls (k w F y t M) (j : List Int) (s : Int) (hp : Pre w F []) (aa : M = j.length) (Y : j.length ≤ t) (Z : t ≤ maxLen) (P : Sl (Kd.int .i64) F F y j) (x : Int) (H : juratref21_place.f k j s = some x) :
    Calls Try.prog 59 #[.slice y M t, iv s] w fun e w' => e = .returned (iv x) ∧ (∃ o, w' = w.drewN o) := by
 have C := Ctx.start hp
 generalize domL [] = D at C
 have R : ∃ o, w = w.drewN o := ⟨0, rfl⟩
 unfold juratref21_place.f at H
 refine Calls.ofW Try.func59 rfl (by simp [Try.ntmps59]) <| W.sr rfl <| WL.rd to 1 rfl <| W.seq <| W.sr rfl <| WL.rd to 1 rfl ?_
 obtain ⟨u, a, H⟩ := bindE H
 refine W.cutM (fun b p => Ctx w F D p F [] ∧ (∃ o, p = w.drewN o) ∧ u = Sum.inl ()) ?_ ?_
 ·refine W.block <| W.loop (fun B b p => ∃ (g : Int), Kn b [(0, .slice y M t), (1, iv s), (5, iv g)] ∧ Ctx w F D p F [] ∧ (∃ o, p = w.drewN o) ∧ juratref21_place.l1 B j s g = some u) k ⟨0, rfl, C, R, a⟩ ?_
  clear a
  rintro B b p ⟨g, I, r, h, a⟩
  rcases B with _ | Q
  · exact absurd a (by simp [juratref21_place.l1])
  rw [juratref21_place.l1] at a
  apply ks b I
  refine W.seq <| W.sr rfl <| WL.run to 2 rfl <| WL.ln (j.length : Int) rfl Try.underlying29 (by omega) <| WL.rd to 1 rfl ?_
  rcases iteE a with ⟨l, a⟩ | ⟨l, a⟩
  ·refine W.cT l rfl <| W.skip <| W.seq <| W.block <| W.sr rfl <| WL.run to 2 rfl ?_
   obtain ⟨T, a⟩ := guardE a
   obtain ⟨X, U, E, G⟩ := P (by omega)
   refine WL.val (Yl.elemAddr (i := g) rfl rfl E Try.underlying29 sz3 (by omega)) ?_
   obtain ⟨S, J, L⟩ := G g.toNat _ (getD_some (d := 0) (by omega))
   obtain rfl := J
   refine WL.val (Yl.load (v := iv (j.getD g.toNat 0)) rfl Try.underlying3 rfl (((r.fro)).cell (L 0 _ rfl))) <| WL.rd to 2 rfl ?_
   rcases iteE a with ⟨m, a⟩ | ⟨m, a⟩
   ·refine W.cT m rfl <| W.sr rfl <| WL.rd to 2 rfl <| W.ret ?_
    iterate 6 first | refine inB_r ?_ | refine thenE_r ?_
    cases a
    replace H := sumE_r H
    have N := Option.some.inj H
    subst N
    exact post_r (resE1 rfl rfl) ⟨rfl, h⟩
   refine W.cF m rfl <| W.skip <| inB_n <| W.region rfl ?_
   exact WL.rd to 3 rfl <| thenE_n ⟨Q, Nat.lt_succ_self _, wi64 (g + 1), rfl, r, h, a⟩
  refine W.cF l rfl <| W.exit <| thenE_x <| thenE_x <| inB_here ?_
  cases a
  refine thenE_n ?_
  exact ⟨r, h, rfl⟩
 ·rintro b p ⟨V, A, rfl⟩
  replace H := sumE_l H
  refine W.sr rfl <| WL.rd to 1 rfl <| W.ret ?_
  have O := Option.some.inj H
  subst O
  exact post_r (resE1 rfl rfl) ⟨rfl, A⟩
def juratref21_jobMay.l1 : Nat → TConfig → TJob → Int → Option (Sum Unit Bool)
  | 0, _, _, _ => none
  | k + 1, d, b, a => if a < (wi64 ((wi64 (2 * d.Faulty)) + 1)) then (if 0 ≤ a ∧ a < (b.Workers.length : Int) then ((juratref21_in.f k (b.Workers.getD a.toNat 0) 0 (wi64 (d.Workers - 1))).bind fun g => (if g = true then ((juratref21_place.f k b.Workers (b.Workers.getD a.toNat 0)).bind fun h => if h = a then (if 0 ≤ a ∧ a < (b.Indexes.length : Int) then (if 0 ≤ d.Height then ((juratref21_in.f k (b.Indexes.getD a.toNat 0) 0 (wi64 ((shlOp .i64 1 d.Height) - 1))).bind fun i => some (!i)) else none) else none) else (some (true))) else (some (true))).bind fun e => if e = true then (some (Sum.inr false)) else (juratref21_jobMay.l1 k d b (wi64 (a + 1)))) else none) else (some (Sum.inl ()))
def juratref21_jobMay.l3 : Nat → TJob → Int → Int → Option (Sum Unit Bool)
  | 0, _, _, _ => none
  | k + 1, d, b, a => if a < b then (if 0 ≤ a ∧ a < (d.Votes.length : Int) then (if ((d.Votes.getD a.toNat TCast.z).Worker) = ((d.Votes.getD b.toNat TCast.z).Worker) then (some (Sum.inr false)) else (juratref21_jobMay.l3 k d b (wi64 (a + 1)))) else none) else (some (Sum.inl ()))
def juratref21_jobMay.l2 : Nat → TJob → Int → Option (Sum Unit Bool)
  | 0, _, _ => none
  | k + 1, b, a => if a < (b.Votes.length : Int) then (if 0 ≤ a ∧ a < (b.Votes.length : Int) then ((juratref21_place.f k b.Workers ((b.Votes.getD a.toNat TCast.z).Worker)).bind fun e => (if e < 0 then (some (true)) else (some (decide ((((b.Votes.getD a.toNat TCast.z).Value).length : Int) > 32)))).bind fun d => if d = true then (some (Sum.inr false)) else ((juratref21_jobMay.l3 k b a 0).bind fun g => sumE g (fun _ => juratref21_jobMay.l2 k b (wi64 (a + 1))) (fun h => some (Sum.inr h)))) else none) else (some (Sum.inl ()))
def juratref21_jobMay.f (k : Nat) (b : TConfig) (v : TState) (a : TJob) : Option Bool := (if (a.Payload.length : Int) > 64 then (some (true)) else ((juratref21_in.f k a.Attempt 0 1099511627776).bind fun u => some (!u))).bind fun s => if s = true then (some false) else (if a.State = 1 then ((if a.Epoch = 0 then (if a.Until = 0 then (some (decide ((wi64 ((wi64 ((wi64 ((a.Workers.length : Int) + (a.Indexes.length : Int))) + (a.Votes.length : Int))) + (a.Value.length : Int))) = 0))) else (some (false))) else (some (false))).bind fun t => some t) else ((if a.State = 2 then (some (false)) else (some (!decide (a.State = 3)))).bind fun e => if e = true then (some false) else ((juratref21_Nonce.f k v a.Epoch).bind fun ⟨w, m⟩ => (if a.Attempt < 1 then (some (true)) else (if m = true then ((juratref21_in.f k a.Until 1 1099511627776).bind fun o => if o = true then (if (a.Workers.length : Int) = (wi64 ((wi64 (2 * b.Faulty)) + 1)) then (if (a.Indexes.length : Int) = (wi64 ((wi64 (2 * b.Faulty)) + 1)) then (some (decide ((a.Votes.length : Int) > (wi64 ((wi64 (2 * b.Faulty)) + 1))))) else (some (true))) else (some (true))) else (some (true))) else (some (true)))).bind fun g => if g = true then (some false) else ((juratref21_jobMay.l1 k b a 0).bind fun j => sumE j (fun _ => (juratref21_jobMay.l2 k a 0).bind fun j => sumE j (fun _ => (juratref19_Decide.f k a.Votes b.Faulty).bind fun ⟨p, d⟩ => if a.State = 2 then ((if d = true then (some (false)) else (some (decide ((a.Value.length : Int) = 0)))).bind fun h => some h) else ((if d = true then ((juratref01_Same.f k p a.Value).bind fun r => some (r)) else (some (false))).bind fun i => some i)) (fun l => some l)) (fun l => some l)))))
theorem juratref21_jobMay.calls (k w F) (ab : TConfig) (bB bi cs bC bk a6 aW aL a7 aX aM a8) (Q : TState) (bb a0 bp ah af aj bc a1 bq aY aN a9 aZ aO ba) (h : TJob) (hp : Pre w F []) (dT : cs = Q.Eras.length) (dR : Q.Eras.length ≤ bi) (dS : bi ≤ maxLen) (dQ : Sl TEra.K F F bB Q.Eras) (dk : a6 = Q.Jobs.length) (da : Q.Jobs.length ≤ bk) (df : bk ≤ maxLen) (c4 : Sl TJob.K F F bC Q.Jobs) (dl : a7 = Q.Used.length) (db : Q.Used.length ≤ aL) (dg : aL ≤ maxLen) (c5 : Sl (Kd.int .i64) F F aW Q.Used) (dm : a8 = Q.Barred.length) (dc : Q.Barred.length ≤ aM) (dh : aM ≤ maxLen) (c6 : Sl Kd.bool F F aX Q.Barred) (ep : bp = h.Payload.length) (el : h.Payload.length ≤ a0) (en : a0 ≤ maxLen) (ek : Sl (Kd.int .u8) F F bb h.Payload) (bo : aj = h.Workers.length) (bm : h.Workers.length ≤ af) (bn : af ≤ maxLen) (aP : Sl (Kd.int .i64) F F ah h.Workers) (eq : bq = h.Indexes.length) (em : h.Indexes.length ≤ a1) (eo : a1 ≤ maxLen) (c7 : Sl (Kd.int .i64) F F bc h.Indexes) (dp : a9 = h.Votes.length) (dd : h.Votes.length ≤ aN) (di : aN ≤ maxLen) (bl : Sl TCast.K F F aY h.Votes) (dq : ba = h.Value.length) (de : h.Value.length ≤ aO) (dj : aO ≤ maxLen) (c8 : Sl (Kd.int .u8) F F aZ h.Value) (cw : Bool) (H : juratref21_jobMay.f k ab Q h = some cw) :
    Calls Try.prog 43 #[.agg (List.toArray (TConfig.q ab)), .agg (List.toArray (TState.q Q bB cs bi bC a6 bk aW a7 aL aX a8 aM)), .agg (List.toArray (TJob.q h bb bp a0 ah aj af bc bq a1 aY a9 aN aZ ba aO))] w fun e w' => e = .returned (.bool cw) ∧ Ctx w F (domL []) w' F [] := by
 have C := Ctx.start hp
 generalize hD : domL [] = D at C ⊢
 unfold juratref21_jobMay.f at H
 refine Calls.ofW Try.func43 rfl (by simp [Try.ntmps43]) <| W.sr rfl ?_
 let R : List Go.Value := TConfig.q ab
 obtain ⟨u, et, dw, dG⟩ := ev_box (P := Try.prog) 23 (.agg (List.toArray R)) R C rfl
 refine WL.val (dw _ _ _ rfl) ?_
 let S : List Go.Value := TState.q Q bB cs bi bC a6 bk aW a7 aL aX a8 aM
 obtain ⟨G, eu, dx, dH⟩ := ev_box (P := Try.prog) 32 (.agg (List.toArray S)) S dG rfl
 refine WL.val (dx _ _ _ rfl) ?_
 let T : List Go.Value := TJob.q h bb bp a0 ah aj af bc bq a1 aY a9 aN aZ ba aO
 obtain ⟨x, ew, dy, aK⟩ := ev_box (P := Try.prog) 55 (.agg (List.toArray T)) T dH rfl
 refine WL.val (dy _ _ _ rfl) <| WL.rd to 1 rfl <| W.seq <| W.sr rfl <| WL.run to 1 rfl <| WL.lv aK 0 0 rfl rfl Try.underlying44 rfl rfl <| WL.ln (h.Payload.length : Int) rfl Try.underlying44 (by omega) <| WL.run to 2 rfl ?_
 obtain ⟨dO, V, H⟩ := bindE H
 refine WL.cut (fun a s => a 24 = .bool dO ∧ a 3 = .pointer (some ⟨u, 0, none⟩) ∧ a 4 = .pointer (some ⟨G, 0, none⟩) ∧ a 5 = .pointer (some ⟨x, 0, none⟩) ∧ Ctx w F D s F [CH.row x 0 T, CH.row G 0 S, CH.row u 0 R]) ?_ ?_
 ·rcases iteE V with ⟨aQ, V⟩ | ⟨aQ, V⟩
  ·refine WL.kn 19 (congrArg Value.bool (decide_eq_true aQ)) <| WL.offs 4 19 false rfl rfl <| WL.run to 1 rfl ?_
   cases V
   exact WL.done ⟨rfl, rfl, rfl, rfl, aK⟩
  refine WL.kn 19 (congrArg Value.bool (decide_eq_false aQ)) <| WL.run to 1 rfl <| WL.lvG aK 0 2 rfl rfl rfl rfl Try.underlying3 rfl rfl <| WL.on rfl rfl ?_
  obtain ⟨dU, c9, V⟩ := bindE V
  refine WL.cq aK (juratref21_in.calls k _ F h.Attempt 0 1099511627776 aK.pre0  dU c9) (ne.fr rfl rfl) fun s dI => ?_
  refine WL.run to 2 rfl ?_
  cases V
  exact WL.done ⟨rfl, rfl, rfl, rfl, dI⟩
 ·rintro a s ⟨dr, ds, dt, du, I⟩
  apply kn a (.c dr (.c ds (.c dt (.c du .n))))
  rcases iteE H with ⟨aR, H⟩ | ⟨aR, H⟩
  ·refine W.condT (congrArg Value.bool aR) <| W.sr rfl <| WL.rd to 1 rfl <| W.ret <| thenE_r ?_
   have dJ : Cx [] := I.pick [] rfl
   have dM := Option.some.inj H
   subst dM
   exact post_r (resE1 rfl rfl) ⟨rfl, dJ⟩
  refine W.condF (congrArg Value.bool (Bool.eq_false_iff.2 aR)) <| W.skip <| W.seq <| W.sr rfl <| WL.run to 1 rfl <| WL.lv I 0 1 rfl rfl Try.underlying3 rfl rfl <| WL.rd to 1 rfl ?_
  rcases iteE H with ⟨aS, H⟩ | ⟨aS, H⟩
  ·refine W.cT aS rfl <| W.sr rfl <| WL.run to 1 rfl <| WL.lv I 0 3 rfl rfl Try.underlying3 rfl rfl <| WL.run to 2 rfl ?_
   obtain ⟨dP, N, H⟩ := bindE H
   refine WL.cut (fun a s => a 6 = .bool dP ∧ Ctx w F D s F [CH.row x 0 T, CH.row G 0 S, CH.row u 0 R]) ?_ ?_
   ·rcases iteE N with ⟨aT, N⟩ | ⟨aT, N⟩
    ·refine WL.kn 31 (congrArg Value.bool (decide_eq_true aT)) <| WL.run to 1 rfl <| WL.lvG I 0 4 rfl rfl rfl rfl Try.underlying3 rfl rfl <| WL.run to 3 rfl ?_
     rcases iteE N with ⟨aU, N⟩ | ⟨aU, N⟩
     ·refine WL.kn 36 (congrArg Value.bool (decide_eq_true aU)) <| WL.run to 1 rfl <| WL.lvG I 0 5 rfl rfl rfl rfl Try.underlying29 rfl rfl <| WL.lnG (h.Workers.length : Int) rfl rfl rfl Try.underlying29 (by omega) <| WL.run to 1 rfl <| WL.lvG I 0 6 rfl rfl rfl rfl Try.underlying29 rfl rfl <| WL.lnG (h.Indexes.length : Int) rfl rfl rfl Try.underlying29 (by omega) <| WL.run to 2 rfl <| WL.lvG I 0 7 rfl rfl rfl rfl Try.underlying53 rfl rfl ?_
      refine WL.lnG (h.Votes.length : Int) rfl rfl rfl Try.underlying53 (by omega) <| WL.run to 2 rfl <| WL.lvG I 0 8 rfl rfl rfl rfl Try.underlying44 rfl rfl <| WL.lnG (h.Value.length : Int) rfl rfl rfl Try.underlying44 (by omega) <| WL.run to 4 rfl ?_
      cases N
      exact WL.done ⟨rfl, I⟩
     refine WL.kn 36 (congrArg Value.bool (decide_eq_false aU)) <| WL.offs 16 36 true rfl rfl <| WL.run to 2 rfl ?_
     cases N
     exact WL.done ⟨rfl, I⟩
    refine WL.kn 31 (congrArg Value.bool (decide_eq_false aT)) <| WL.offs 3 31 true rfl rfl <| WL.run to 2 rfl <| WL.offs 16 36 true rfl rfl <| WL.run to 2 rfl ?_
    cases N
    exact WL.done ⟨rfl, I⟩
   ·rintro a s ⟨dv, dK⟩
    apply kn a (.c dv .n)
    refine W.ret <| thenE_r ?_
    have dL : Cx [] := dK.pick [] rfl
    have dN := Option.some.inj H
    subst dN
    exact post_r (resE1 rfl rfl) ⟨rfl, dL⟩
  refine W.cF aS rfl <| W.skip <| W.seq <| W.sr rfl <| WL.run to 1 rfl <| WL.lv I 0 1 rfl rfl Try.underlying3 rfl rfl <| WL.run to 2 rfl ?_
  obtain ⟨cX, Y, H⟩ := bindE H
  refine WL.cut (fun a s => a 61 = .bool cX ∧ a 3 = .pointer (some ⟨u, 0, none⟩) ∧ a 4 = .pointer (some ⟨G, 0, none⟩) ∧ a 5 = .pointer (some ⟨x, 0, none⟩) ∧ Ctx w F D s F [CH.row x 0 T, CH.row G 0 S, CH.row u 0 R]) ?_ ?_
  ·rcases iteE Y with ⟨am, Y⟩ | ⟨am, Y⟩
   ·refine WL.kn 57 (congrArg Value.bool (ndec_t am)) <| WL.offs 3 57 true rfl rfl <| WL.run to 1 rfl ?_
    cases Y
    exact WL.done ⟨rfl, rfl, rfl, rfl, I⟩
   refine WL.kn 57 (congrArg Value.bool (ndec_f am)) <| WL.run to 1 rfl <| WL.lvG I 0 1 rfl rfl rfl rfl Try.underlying3 rfl rfl <| WL.run to 2 rfl ?_
   cases Y
   exact WL.done ⟨rfl, rfl, rfl, rfl, I⟩
  ·rintro a s ⟨bV, bW, bX, bY, ac⟩
   apply kn a (.c bV (.c bW (.c bX (.c bY .n))))
   rcases iteE H with ⟨an, H⟩ | ⟨an, H⟩
   ·refine W.condT (congrArg Value.bool an) <| W.sr rfl <| WL.rd to 1 rfl <| W.ret <| thenE_r ?_
    have cy : Cx [] := ac.pick [] rfl
    have cP := Option.some.inj H
    subst cP
    exact post_r (resE1 rfl rfl) ⟨rfl, cy⟩
   refine W.condF (congrArg Value.bool (Bool.eq_false_iff.2 an)) <| W.skip <| W.sr rfl <| WL.run to 1 rfl <| WL.lv ac 2 0 rfl rfl Try.underlying3 rfl rfl <| WL.rd to 3 rfl <| W.sr rfl <| WL.la ac 1 rfl rfl Try.underlying32 rfl sz32 <| WL.run to 1 rfl ?_
   refine WL.lv ac 0 3 rfl rfl Try.underlying3 rfl rfl ?_
   obtain ⟨⟨E, dC⟩, bJ, H⟩ := bindE H
   refine WL.callH (juratref21_Nonce.calls k _ F bB bi cs bC bk a6 aW aL a7 aX aM a8 Q h.Epoch ac.pre0 dT dR dS dQ dk da df c4 dl db dg c5 dm dc dh c6 E dC bJ) (ne.fr rfl rfl) ?_
   rintro ej s ⟨rfl, cz, a3⟩
   refine ⟨_, rfl, ?_⟩
   have cA : Cx [CH.row x 0 T, CH.row G 0 S, CH.row u 0 R] := Ctx.call0 ac cz
   refine WL.run to 3 rfl ?_
   obtain ⟨J, es, cr, cB⟩ := ev_alloc (P := Try.prog) (e := 43) ((List.replicate 32 (0 : Int)).map (Value.int .u8)) cA zr43 rfl
   refine WL.val (cr _ _) <| WL.st cB 0 0 (E.map (Value.int .u8)) rfl rfl rfl rfl (Put.all 32 (len_map (List.length_replicate ..)) (len_map a3)) (one_ints _ _) (sz_of sz43 (len_map a3)) fun s (ad : Cx [CH.row J 0 (E.map (Value.int .u8)), CH.row x 0 T, CH.row G 0 S, CH.row u 0 R]) => ?_
   refine WL.rd to 1 rfl <| W.seq <| W.sr rfl <| WL.run to 1 rfl <| WL.lv ad 1 2 rfl rfl Try.underlying3 rfl rfl <| WL.run to 2 rfl ?_
   obtain ⟨cY, g, H⟩ := bindE H
   refine WL.cut (fun a s => a 106 = .bool cY ∧ a 3 = .pointer (some ⟨u, 0, none⟩) ∧ a 5 = .pointer (some ⟨x, 0, none⟩) ∧ a 7 = iv (wi64 ((wi64 (2 * ab.Faulty)) + 1)) ∧ Ctx w F D s F [CH.row J 0 (E.map (Value.int .u8)), CH.row x 0 T, CH.row G 0 S, CH.row u 0 R]) ?_ ?_
   ·rcases iteE g with ⟨ao, g⟩ | ⟨ao, g⟩
    ·refine WL.kn 76 (congrArg Value.bool (decide_eq_true ao)) <| WL.offs 2 76 false rfl rfl <| WL.run to 2 rfl <| WL.offs 4 80 false rfl rfl <| WL.run to 2 rfl <| WL.offs 5 86 false rfl rfl <| WL.run to 2 rfl <| WL.offs 5 93 false rfl rfl <| WL.run to 2 rfl ?_
     refine WL.offs 5 100 false rfl rfl <| WL.run to 1 rfl ?_
     cases g
     exact WL.done ⟨rfl, rfl, rfl, rfl, ad⟩
    refine WL.kn 76 (congrArg Value.bool (decide_eq_false ao)) <| WL.run to 4 rfl ?_
    rcases iteE g with ⟨ap, g⟩ | ⟨ap, g⟩
    ·refine WL.kn 80 (congrArg Value.bool (nb_t ap)) <| WL.run to 1 rfl <| WL.lvG ad 1 4 rfl rfl rfl rfl Try.underlying3 rfl rfl <| WL.on rfl rfl ?_
     obtain ⟨dD, bK, g⟩ := bindE g
     refine WL.cq ad (juratref21_in.calls k _ F h.Until 1 1099511627776 ad.pre0  dD bK) (ne.fr rfl rfl) fun s U => ?_
     refine WL.run to 3 rfl ?_
     rcases iteE g with ⟨aq, g⟩ | ⟨aq, g⟩
     ·refine WL.kn 86 (congrArg Value.bool (nb_t aq)) <| WL.run to 1 rfl <| WL.lvG U 1 5 rfl rfl rfl rfl Try.underlying29 rfl rfl <| WL.lnG (h.Workers.length : Int) rfl rfl rfl Try.underlying29 (by omega) <| WL.run to 4 rfl ?_
      rcases iteE g with ⟨ar, g⟩ | ⟨ar, g⟩
      ·refine WL.kn 93 (congrArg Value.bool (ndec_t ar)) <| WL.run to 1 rfl <| WL.lvG U 1 6 rfl rfl rfl rfl Try.underlying29 rfl rfl <| WL.lnG (h.Indexes.length : Int) rfl rfl rfl Try.underlying29 (by omega) <| WL.run to 4 rfl ?_
       rcases iteE g with ⟨au, g⟩ | ⟨au, g⟩
       ·refine WL.kn 100 (congrArg Value.bool (ndec_t au)) <| WL.run to 1 rfl <| WL.lvG U 1 7 rfl rfl rfl rfl Try.underlying53 rfl rfl <| WL.lnG (h.Votes.length : Int) rfl rfl rfl Try.underlying53 (by omega) <| WL.run to 3 rfl ?_
        cases g
        exact WL.done ⟨rfl, rfl, rfl, rfl, U⟩
       refine WL.kn 100 (congrArg Value.bool (ndec_f au)) <| WL.offs 5 100 false rfl rfl <| WL.run to 1 rfl ?_
       cases g
       exact WL.done ⟨rfl, rfl, rfl, rfl, U⟩
      refine WL.kn 93 (congrArg Value.bool (ndec_f ar)) <| WL.offs 5 93 false rfl rfl <| WL.run to 2 rfl <| WL.offs 5 100 false rfl rfl <| WL.run to 1 rfl ?_
      cases g
      exact WL.done ⟨rfl, rfl, rfl, rfl, U⟩
     refine WL.kn 86 (congrArg Value.bool (nb_f aq)) <| WL.offs 5 86 false rfl rfl <| WL.run to 2 rfl <| WL.offs 5 93 false rfl rfl <| WL.run to 2 rfl <| WL.offs 5 100 false rfl rfl <| WL.run to 1 rfl ?_
     cases g
     exact WL.done ⟨rfl, rfl, rfl, rfl, U⟩
    refine WL.kn 80 (congrArg Value.bool (nb_f ap)) <| WL.offs 4 80 false rfl rfl <| WL.run to 2 rfl <| WL.offs 5 86 false rfl rfl <| WL.run to 2 rfl <| WL.offs 5 93 false rfl rfl <| WL.run to 2 rfl <| WL.offs 5 100 false rfl rfl <| WL.run to 1 rfl ?_
    cases g
    exact WL.done ⟨rfl, rfl, rfl, rfl, ad⟩
   ·rintro a s ⟨bZ, b0, b1, b2, be⟩
    apply kn a (.c bZ (.c b0 (.c b1 (.c b2 .n))))
    rcases iteE H with ⟨av, H⟩ | ⟨av, H⟩
    ·refine W.condT (congrArg Value.bool av) <| W.sr rfl <| WL.rd to 1 rfl <| W.ret <| thenE_r ?_
     have cC : Cx [] := be.pick [] rfl
     have cQ := Option.some.inj H
     subst cQ
     exact post_r (resE1 rfl rfl) ⟨rfl, cC⟩
    refine W.condF (congrArg Value.bool (Bool.eq_false_iff.2 av)) <| W.skip <| W.seq <| W.sr rfl <| WL.rd to 1 rfl ?_
    obtain ⟨bs, j, H⟩ := bindE H
    refine W.cutM (fun a s => Kn a [(3, .pointer (some ⟨u, 0, none⟩)), (5, .pointer (some ⟨x, 0, none⟩))] ∧ Ctx w F D s F [CH.row J 0 (E.map (Value.int .u8)), CH.row x 0 T, CH.row G 0 S, CH.row u 0 R] ∧ bs = Sum.inl ()) ?_ ?_
    ·refine W.block <| W.loop (fun ai a s => ∃ (t : Int), Kn a [(3, .pointer (some ⟨u, 0, none⟩)), (5, .pointer (some ⟨x, 0, none⟩)), (7, iv (wi64 ((wi64 (2 * ab.Faulty)) + 1))), (10, iv t)] ∧ Ctx w F D s F [CH.row J 0 (E.map (Value.int .u8)), CH.row x 0 T, CH.row G 0 S, CH.row u 0 R] ∧ juratref21_jobMay.l1 ai ab h t = some bs) k ⟨0, rfl, be, j⟩ ?_
     clear j
     rintro ai a s ⟨t, b4, B, j⟩
     rcases ai with _ | aJ
     · exact absurd j (by simp [juratref21_jobMay.l1])
     rw [juratref21_jobMay.l1] at j
     apply ks a b4
     refine W.seq <| W.sr rfl <| WL.rd to 3 rfl ?_
     rcases iteE j with ⟨aw, j⟩ | ⟨aw, j⟩
     ·refine W.cT aw rfl <| W.skip <| W.seq <| W.block <| W.seq <| W.region_quiet (by kernel_rfl) (by kernel_rfl) rfl ?_
      refine WQ.run to 1 rfl <| WQ.lv B 1 5 rfl rfl Try.underlying29 rfl rfl <| WQ.run to 1 rfl ?_
      obtain ⟨d1, j⟩ := guardE j
      obtain ⟨ef, eb, a2, bH⟩ := aP (by omega)
      refine WQ.vl (fun _ => Yl.elemAddr (i := t) rfl rfl a2 Try.underlying29 sz3 (by omega)) ?_
      obtain ⟨dV, ck, a5⟩ := bH t.toNat _ (getD_some (d := 0) (by omega))
      obtain rfl := ck
      refine WQ.vl (fun _ => Yl.load (v := iv (h.Workers.getD t.toNat 0)) rfl Try.underlying3 rfl ((((B.drewN _).fro)).cell (a5 0 _ rfl))) ?_
      refine WQ.run to 1 rfl <| WQ.lv B 3 1 rfl rfl Try.underlying3 rfl rfl <| WQ.run to 1 rfl ?_
      obtain ⟨bv, bL, j⟩ := bindE j
      refine WQ.call (v := .bool bv) (f := 35) (args := #[iv (h.Workers.getD t.toNat 0), iv 0, iv (wi64 (ab.Workers - 1))]) (fun _ hw => by obtain ⟨_, rfl⟩ := hw; exact (ne.fr rfl rfl)) (fun _ hw => by obtain ⟨ak, rfl⟩ := hw; exact (juratref21_in.calls aJ _ F (h.Workers.getD t.toNat 0) 0 (wi64 (ab.Workers - 1)) (B.drewN ak).pre0  bv bL).mono (fun _ _ ⟨he, m_, hm_⟩ => ⟨he, ak + m_, by rw [hm_, World.drewN_drewN]⟩)) ?_
      refine WQ.run to 2 rfl ?_
      obtain ⟨cZ, o, j⟩ := bindE j
      refine WQ.cut (fun a => a 146 = .bool cZ ∧ a 3 = .pointer (some ⟨u, 0, none⟩) ∧ a 5 = .pointer (some ⟨x, 0, none⟩) ∧ a 7 = iv (wi64 ((wi64 (2 * ab.Faulty)) + 1)) ∧ a 10 = iv t) ?_ ?_
      ·rcases iteE o with ⟨ax, o⟩ | ⟨ax, o⟩
       ·refine WQ.kn 122 (congrArg Value.bool (nb_t ax)) <| WQ.run to 1 rfl <| WQ.lvG B 1 5 rfl rfl rfl rfl Try.underlying29 rfl rfl <| WQ.run to 1 rfl <| WQ.lvG B 1 5 rfl rfl rfl rfl Try.underlying29 rfl rfl <| WQ.run to 1 rfl <| WQ.vOn rfl rfl (fun _ => Yl.elemAddr (i := t) rfl rfl a2 Try.underlying29 sz3 (by omega)) ?_
        refine WQ.vOn rfl rfl (fun _ => Yl.load (v := iv (h.Workers.getD t.toNat 0)) rfl Try.underlying3 rfl ((((B.drewN _).fro)).cell (a5 0 _ rfl))) ?_
        refine WQ.on rfl rfl ?_
        obtain ⟨bw, bM, o⟩ := bindE o
        refine WQ.call (v := iv bw) (f := 59) (args := #[.slice ah aj af, iv (h.Workers.getD t.toNat 0)]) (fun _ hw => by obtain ⟨_, rfl⟩ := hw; exact (ne.fr rfl rfl)) (fun _ hw => by obtain ⟨ak, rfl⟩ := hw; exact (juratref21_place.calls aJ _ F ah af aj h.Workers (h.Workers.getD t.toNat 0) (B.drewN ak).pre0 bo bm bn aP bw bM).mono (fun _ _ ⟨he, m_, hm_⟩ => ⟨he, ak + m_, by rw [hm_, World.drewN_drewN]⟩)) ?_
        refine WQ.run to 4 rfl ?_
        rcases iteE o with ⟨ay, o⟩ | ⟨ay, o⟩
        ·refine WQ.kn 134 (congrArg Value.bool (ndec_t ay)) <| WQ.run to 1 rfl <| WQ.lvG B 1 6 rfl rfl rfl rfl Try.underlying29 rfl rfl <| WQ.run to 1 rfl ?_
         obtain ⟨d2, o⟩ := guardE o
         obtain ⟨eg, ec, bD, bI⟩ := c7 (by omega)
         refine WQ.vOn rfl rfl (fun _ => Yl.elemAddr (i := t) rfl rfl bD Try.underlying29 sz3 (by omega)) ?_
         obtain ⟨dW, cl, co⟩ := bI t.toNat _ (getD_some (d := 0) (by omega))
         obtain rfl := cl
         refine WQ.vOn rfl rfl (fun _ => Yl.load (v := iv (h.Indexes.getD t.toNat 0)) rfl Try.underlying3 rfl ((((B.drewN _).fro)).cell (co 0 _ rfl))) ?_
         refine WQ.run to 1 rfl <| WQ.lvG B 3 2 rfl rfl rfl rfl Try.underlying3 rfl rfl ?_
         obtain ⟨bG, o⟩ := guardE o
         refine WQ.vOn rfl rfl (fun _ => Yl.shl (m := 1) (n := ab.Height) (r := shlOp .i64 1 ab.Height) rfl rfl bG rfl) ?_
         refine WQ.run to 1 rfl <| WQ.on rfl rfl ?_
         obtain ⟨bx, bN, o⟩ := bindE o
         refine WQ.call (v := .bool bx) (f := 35) (args := #[iv (h.Indexes.getD t.toNat 0), iv 0, iv (wi64 ((shlOp .i64 1 ab.Height) - 1))]) (fun _ hw => by obtain ⟨_, rfl⟩ := hw; exact (ne.fr rfl rfl)) (fun _ hw => by obtain ⟨ak, rfl⟩ := hw; exact (juratref21_in.calls aJ _ F (h.Indexes.getD t.toNat 0) 0 (wi64 ((shlOp .i64 1 ab.Height) - 1)) (B.drewN ak).pre0  bx bN).mono (fun _ _ ⟨he, m_, hm_⟩ => ⟨he, ak + m_, by rw [hm_, World.drewN_drewN]⟩)) ?_
         refine WQ.run to 2 rfl ?_
         cases o
         exact WQ.done ⟨rfl, rfl, rfl, rfl, rfl⟩
        refine WQ.kn 134 (congrArg Value.bool (ndec_f ay)) <| WQ.offs 11 134 false rfl rfl <| WQ.run to 1 rfl ?_
        cases o
        exact WQ.done ⟨rfl, rfl, rfl, rfl, rfl⟩
       refine WQ.kn 122 (congrArg Value.bool (nb_f ax)) <| WQ.offs 10 122 false rfl rfl <| WQ.run to 2 rfl <| WQ.offs 11 134 false rfl rfl <| WQ.run to 1 rfl ?_
       cases o
       exact WQ.done ⟨rfl, rfl, rfl, rfl, rfl⟩
      ·rintro a ⟨b5, b6, b7, b8, b9⟩
       intro ct
       have bf := Ctx.drewN B ct
       apply kn a (.c b5 (.c b6 (.c b7 (.c b8 (.c b9 .n)))))
       rcases iteE j with ⟨az, j⟩ | ⟨az, j⟩
       ·refine W.condT (congrArg Value.bool az) <| W.sr rfl <| WL.rd to 1 rfl <| W.ret ?_
        iterate 6 first | refine inB_r ?_ | refine thenE_r ?_
        cases j
        replace H := sumE_r H
        have cE : Cx [] := bf.pick [] rfl
        have cR := Option.some.inj H
        subst cR
        exact post_r (resE1 rfl rfl) ⟨rfl, cE⟩
       refine W.condF (congrArg Value.bool (Bool.eq_false_iff.2 az)) <| W.skip <| inB_n <| W.region rfl ?_
       exact WL.rd to 3 rfl <| thenE_n ⟨aJ, Nat.lt_succ_self _, wi64 (t + 1), rfl, bf, j⟩
     refine W.cF aw rfl <| W.exit <| thenE_x <| thenE_x <| inB_here ?_
     cases j
     refine thenE_n ?_
     exact ⟨rfl, B, rfl⟩
    ·rintro a s ⟨b3, cD, rfl⟩
     replace H := sumE_l H
     apply ks a b3
     refine W.seq <| W.sr rfl <| WL.rd to 1 rfl ?_
     obtain ⟨bt, b, H⟩ := bindE H
     refine W.cutM (fun a s => Kn a [(3, .pointer (some ⟨u, 0, none⟩)), (5, .pointer (some ⟨x, 0, none⟩))] ∧ Ctx w F D s F [CH.row J 0 (E.map (Value.int .u8)), CH.row x 0 T, CH.row G 0 S, CH.row u 0 R] ∧ bt = Sum.inl ()) ?_ ?_
     ·refine W.block <| W.loop (fun ai a s => ∃ (y : Int), Kn a [(3, .pointer (some ⟨u, 0, none⟩)), (5, .pointer (some ⟨x, 0, none⟩)), (11, iv y)] ∧ Ctx w F D s F [CH.row J 0 (E.map (Value.int .u8)), CH.row x 0 T, CH.row G 0 S, CH.row u 0 R] ∧ juratref21_jobMay.l2 ai h y = some bt) k ⟨0, rfl, cD, b⟩ ?_
      clear b
      rintro ai a s ⟨y, cb, L, b⟩
      rcases ai with _ | aV
      · exact absurd b (by simp [juratref21_jobMay.l2])
      rw [juratref21_jobMay.l2] at b
      apply ks a cb
      refine W.seq <| W.sr rfl <| WL.run to 2 rfl <| WL.lv L 1 7 rfl rfl Try.underlying53 rfl rfl <| WL.ln (h.Votes.length : Int) rfl Try.underlying53 (by omega) <| WL.rd to 1 rfl ?_
      rcases iteE b with ⟨aA, b⟩ | ⟨aA, b⟩
      ·refine W.cT aA rfl <| W.skip <| W.seq <| W.block <| W.seq <| W.seq <| W.region_quiet (by kernel_rfl) (by kernel_rfl) rfl ?_
       refine WQ.run to 1 rfl <| WQ.lv L 1 5 rfl rfl Try.underlying29 rfl rfl <| WQ.run to 1 rfl <| WQ.lv L 1 7 rfl rfl Try.underlying53 rfl rfl <| WQ.run to 1 rfl ?_
       obtain ⟨d3, b⟩ := guardE b
       obtain ⟨eh, ed, ag, a4⟩ := bl (by omega)
       refine WQ.vl (fun _ => Yl.elemAddr (i := y) rfl rfl ag Try.underlying53 sz79 (by omega)) ?_
       refine WQ.run to 1 rfl ?_
       obtain ⟨dX, cm, aI⟩ := a4 y.toNat _ (getD_some (d := TCast.z) (by omega))
       obtain ⟨bd, bj, br, rfl, d9, d5, d7, dZ⟩ := TCast.open cm
       refine WQ.vl (fun _ => Yl.load (v := iv ((h.Votes.getD y.toNat TCast.z).Worker)) rfl Try.underlying3 rfl ((((L.drewN _).fro)).cell (aI 0 _ rfl))) ?_
       obtain ⟨bz, bO, b⟩ := bindE b
       refine WQ.call (v := iv bz) (f := 59) (args := #[.slice ah aj af, iv ((h.Votes.getD y.toNat TCast.z).Worker)]) (fun _ hw => by obtain ⟨_, rfl⟩ := hw; exact (ne.fr rfl rfl)) (fun _ hw => by obtain ⟨ak, rfl⟩ := hw; exact (juratref21_place.calls aV _ F ah af aj h.Workers ((h.Votes.getD y.toNat TCast.z).Worker) (L.drewN ak).pre0 bo bm bn aP bz bO).mono (fun _ _ ⟨he, m_, hm_⟩ => ⟨he, ak + m_, by rw [hm_, World.drewN_drewN]⟩)) ?_
       refine WQ.run to 2 rfl ?_
       obtain ⟨c1, Z, b⟩ := bindE b
       refine WQ.cut (fun a => a 173 = .bool c1 ∧ a 3 = .pointer (some ⟨u, 0, none⟩) ∧ a 5 = .pointer (some ⟨x, 0, none⟩) ∧ a 11 = iv y) ?_ ?_
       ·rcases iteE Z with ⟨aB, Z⟩ | ⟨aB, Z⟩
        ·refine WQ.kn 164 (congrArg Value.bool (decide_eq_true aB)) <| WQ.offs 8 164 false rfl rfl <| WQ.run to 1 rfl ?_
         cases Z
         exact WQ.done ⟨rfl, rfl, rfl, rfl⟩
        refine WQ.kn 164 (congrArg Value.bool (decide_eq_false aB)) <| WQ.run to 1 rfl <| WQ.lvG L 1 7 rfl rfl rfl rfl Try.underlying53 rfl rfl <| WQ.run to 1 rfl <| WQ.vOn rfl rfl (fun _ => Yl.elemAddr (i := y) rfl rfl ag Try.underlying53 sz79 (by omega)) ?_
        refine WQ.run to 1 rfl <| WQ.vOn rfl rfl (fun _ => Yl.load (v := .slice bd br bj) rfl Try.underlying44 rfl ((((L.drewN _).fro)).cell (aI 1 _ rfl))) ?_
        refine WQ.vOn rfl rfl (fun _ => Yl.lenN (A := bd) (l := br) (q := bj) (n := (((h.Votes.getD y.toNat TCast.z).Value).length : Int)) rfl Try.underlying44 (by omega)) ?_
        refine WQ.run to 2 rfl ?_
        cases Z
        exact WQ.done ⟨rfl, rfl, rfl, rfl⟩
       ·rintro a ⟨cc, cd, ce, cf⟩
        intro cu
        have bg := Ctx.drewN L cu
        apply kn a (.c cc (.c cd (.c ce (.c cf .n))))
        rcases iteE b with ⟨aC, b⟩ | ⟨aC, b⟩
        ·refine W.condT (congrArg Value.bool aC) <| W.sr rfl <| WL.rd to 1 rfl <| W.ret ?_
         iterate 7 first | refine inB_r ?_ | refine thenE_r ?_
         cases b
         replace H := sumE_r H
         have cG : Cx [] := bg.pick [] rfl
         have cS := Option.some.inj H
         subst cS
         exact post_r (resE1 rfl rfl) ⟨rfl, cG⟩
        refine W.condF (congrArg Value.bool (Bool.eq_false_iff.2 aC)) <| W.skip <| W.sr rfl <| WL.rd to 1 rfl ?_
        obtain ⟨bu, p, b⟩ := bindE b
        refine W.cutM (fun a s => Kn a [(3, .pointer (some ⟨u, 0, none⟩)), (5, .pointer (some ⟨x, 0, none⟩)), (11, iv y)] ∧ Ctx w F D s F [CH.row J 0 (E.map (Value.int .u8)), CH.row x 0 T, CH.row G 0 S, CH.row u 0 R] ∧ bu = Sum.inl ()) ?_ ?_
        ·refine W.block <| W.loop (fun ai a s => ∃ (X : Int), Kn a [(3, .pointer (some ⟨u, 0, none⟩)), (5, .pointer (some ⟨x, 0, none⟩)), (11, iv y), (12, iv X)] ∧ Ctx w F D s F [CH.row J 0 (E.map (Value.int .u8)), CH.row x 0 T, CH.row G 0 S, CH.row u 0 R] ∧ juratref21_jobMay.l3 ai h y X = some bu) aV ⟨0, rfl, bg, p⟩ ?_
         clear p
         rintro ai a s ⟨X, ch, ae, p⟩
         rcases ai with _ | dz
         · exact absurd p (by simp [juratref21_jobMay.l3])
         rw [juratref21_jobMay.l3] at p
         apply ks a ch
         refine W.seq <| W.sr rfl <| WL.rd to 3 rfl ?_
         rcases iteE p with ⟨aD, p⟩ | ⟨aD, p⟩
         ·refine W.cT aD rfl <| W.skip <| W.seq <| W.block <| W.seq <| W.region_quiet (by kernel_rfl) (by kernel_rfl) rfl ?_
          refine WQ.run to 1 rfl <| WQ.lv ae 1 7 rfl rfl Try.underlying53 rfl rfl <| WQ.run to 1 rfl ?_
          obtain ⟨d4, p⟩ := guardE p
          refine WQ.vl (fun _ => Yl.elemAddr (i := X) rfl rfl ag Try.underlying53 sz79 (by omega)) ?_
          refine WQ.run to 1 rfl ?_
          obtain ⟨dY, cn, cp⟩ := a4 X.toNat _ (getD_some (d := TCast.z) (by omega))
          obtain ⟨ee, ei, er, rfl, ea, d6, d8, d0⟩ := TCast.open cn
          refine WQ.vl (fun _ => Yl.load (v := iv ((h.Votes.getD X.toNat TCast.z).Worker)) rfl Try.underlying3 rfl ((((ae.drewN _).fro)).cell (cp 0 _ rfl))) ?_
          refine WQ.run to 1 rfl <| WQ.lv ae 1 7 rfl rfl Try.underlying53 rfl rfl <| WQ.run to 1 rfl <| WQ.vl (fun _ => Yl.elemAddr (i := y) rfl rfl ag Try.underlying53 sz79 (by omega)) ?_
          refine WQ.run to 1 rfl <| WQ.vl (fun _ => Yl.load (v := iv ((h.Votes.getD y.toNat TCast.z).Worker)) rfl Try.underlying3 rfl ((((ae.drewN _).fro)).cell (aI 0 _ rfl))) ?_
          refine WQ.run to 1 rfl <| WQ.done (fun cv => ?_)
          have bh := Ctx.drewN ae cv
          rcases iteE p with ⟨aE, p⟩ | ⟨aE, p⟩
          ·refine W.cT aE rfl <| W.sr rfl <| WL.rd to 1 rfl <| W.ret ?_
           iterate 11 first | refine inB_r ?_ | refine thenE_r ?_
           cases p
           replace b := sumE_r b
           cases b
           replace H := sumE_r H
           have cI : Cx [] := bh.pick [] rfl
           have cU := Option.some.inj H
           subst cU
           exact post_r (resE1 rfl rfl) ⟨rfl, cI⟩
          refine W.cF aE rfl <| W.skip <| inB_n <| W.region rfl ?_
          exact WL.rd to 3 rfl <| thenE_n ⟨dz, Nat.lt_succ_self _, wi64 (X + 1), rfl, bh, p⟩
         refine W.cF aD rfl <| W.exit <| thenE_x <| thenE_x <| inB_here ?_
         cases p
         refine thenE_n ?_
         exact ⟨rfl, ae, rfl⟩
        ·rintro a s ⟨cg, cH, rfl⟩
         replace b := sumE_l b
         apply ks a cg
         refine inB_n <| W.region rfl ?_
         exact WL.rd to 3 rfl <| thenE_n ⟨aV, Nat.lt_succ_self _, wi64 (y + 1), rfl, cH, b⟩
      refine W.cF aA rfl <| W.exit <| thenE_x <| thenE_x <| inB_here ?_
      cases b
      refine thenE_n ?_
      exact ⟨rfl, L, rfl⟩
     ·rintro a s ⟨ca, al, rfl⟩
      replace H := sumE_l H
      apply ks a ca
      refine W.sr rfl <| WL.run to 1 rfl <| WL.lv al 1 7 rfl rfl Try.underlying53 rfl rfl <| WL.run to 1 rfl <| WL.lv al 3 0 rfl rfl Try.underlying3 rfl rfl ?_
      obtain ⟨⟨bA, dE⟩, bP, H⟩ := bindE H
      refine WL.callH (juratref19_Decide.calls k _ F aY aN a9 h.Votes ab.Faulty al.pre0 dp dd di bl bA dE bP) (ne.fr rfl rfl) ?_
      rintro ej s ⟨cx, cO, dB, rfl, ⟨dA, rfl⟩, bU, bR, bS, bE⟩
      refine ⟨_, rfl, ?_⟩
      have O := Ctx.drewN al dA
      refine WL.rd to 5 rfl <| W.seq <| W.sr rfl <| WL.run to 1 rfl <| WL.lv O 1 1 rfl rfl Try.underlying3 rfl rfl <| WL.rd to 1 rfl ?_
      rcases iteE H with ⟨aF, H⟩ | ⟨aF, H⟩
      ·refine W.cT aF rfl <| W.sr rfl <| WL.run to 3 rfl ?_
       obtain ⟨c2, aa, H⟩ := bindE H
       refine WL.cut (fun a s => a 6 = .bool c2 ∧ Ctx w F D s F [CH.row J 0 (E.map (Value.int .u8)), CH.row x 0 T, CH.row G 0 S, CH.row u 0 R]) ?_ ?_
       ·rcases iteE aa with ⟨aG, aa⟩ | ⟨aG, aa⟩
        ·refine WL.kn 205 (congrArg Value.bool (nb_t aG)) <| WL.offs 4 205 true rfl rfl <| WL.run to 2 rfl ?_
         cases aa
         exact WL.done ⟨rfl, O⟩
        refine WL.kn 205 (congrArg Value.bool (nb_f aG)) <| WL.run to 1 rfl <| WL.lvG O 1 8 rfl rfl rfl rfl Try.underlying44 rfl rfl <| WL.lnG (h.Value.length : Int) rfl rfl rfl Try.underlying44 (by omega) <| WL.run to 3 rfl ?_
        cases aa
        exact WL.done ⟨rfl, O⟩
       ·rintro a s ⟨ci, cJ⟩
        apply kn a (.c ci .n)
        refine W.ret <| thenE_r ?_
        have cK : Cx [] := cJ.pick [] rfl
        have cV := Option.some.inj H
        subst cV
        exact post_r (resE1 rfl rfl) ⟨rfl, cK⟩
      refine W.cF aF rfl <| W.skip <| W.sr rfl <| WL.run to 2 rfl ?_
      obtain ⟨c3, M, H⟩ := bindE H
      refine WL.cut (fun a s => a 6 = .bool c3 ∧ Ctx w F D s F [CH.row J 0 (E.map (Value.int .u8)), CH.row x 0 T, CH.row G 0 S, CH.row u 0 R]) ?_ ?_
      ·rcases iteE M with ⟨aH, M⟩ | ⟨aH, M⟩
       ·refine WL.kn 212 (congrArg Value.bool aH) <| WL.run to 2 rfl <| WL.lvG O 1 8 rfl rfl rfl rfl Try.underlying44 rfl rfl <| WL.on rfl rfl ?_
        obtain ⟨dF, bQ, M⟩ := bindE M
        refine WL.cq O (juratref01_Same.calls k _ F cx cO dB bA aZ aO ba h.Value O.pre0 bU bR bS bE dq de dj c8 dF bQ) (ne.fr rfl rfl) fun s cL => ?_
        refine WL.run to 2 rfl ?_
        cases M
        exact WL.done ⟨rfl, cL⟩
       refine WL.kn 212 (congrArg Value.bool (Bool.eq_false_iff.2 aH)) <| WL.offs 4 212 true rfl rfl <| WL.run to 2 rfl ?_
       cases M
       exact WL.done ⟨rfl, O⟩
      ·rintro a s ⟨cj, cM⟩
       apply kn a (.c cj .n)
       refine W.ret ?_
       have cN : Cx [] := cM.pick [] rfl
       have cW := Option.some.inj H
       subst cW
       exact post_r (resE1 rfl rfl) ⟨rfl, cN⟩
def juratref21_StateMay.l1 : Nat → TConfig → TState → Int → Option (Sum Unit Bool)
  | 0, _, _, _ => none
  | k + 1, d, b, a => if a < (b.Used.length : Int) then (if 0 ≤ a ∧ a < (b.Used.length : Int) then (if 0 ≤ d.Height then ((juratref21_in.f k (b.Used.getD a.toNat 0) 0 (shlOp .i64 1 d.Height)).bind fun e => if e = true then (juratref21_StateMay.l1 k d b (wi64 (a + 1))) else (some (Sum.inr false))) else none) else none) else (some (Sum.inl ()))
def juratref21_StateMay.l2 : Nat → TState → Int → Int → Option (Sum Unit Bool)
  | 0, _, _, _ => none
  | k + 1, b, e, a => if a < (b.Eras.length : Int) then (if 0 ≤ a ∧ a < (b.Eras.length : Int) then ((if ((b.Eras.getD a.toNat TEra.z).Epoch) ≤ e then (some (true)) else (some (decide (((b.Eras.getD a.toNat TEra.z).Epoch) > 1099511627776)))).bind fun d => if d = true then (some (Sum.inr false)) else (juratref21_StateMay.l2 k b ((b.Eras.getD a.toNat TEra.z).Epoch) (wi64 (a + 1)))) else none) else (some (Sum.inl ()))
def juratref21_StateMay.l3 : Nat → TConfig → TState → Int → Option (Sum Unit Bool)
  | 0, _, _, _ => none
  | k + 1, e, b, a => if a < (b.Jobs.length : Int) then (if 0 ≤ a ∧ a < (b.Jobs.length : Int) then ((juratref21_jobMay.f k e b (b.Jobs.getD a.toNat TJob.z)).bind fun d => if d = true then (juratref21_StateMay.l3 k e b (wi64 (a + 1))) else (some (Sum.inr false))) else none) else (some (Sum.inl ()))
def juratref21_StateMay.f (k : Nat) (b : TConfig) (a : TState) : Option Bool := (if (a.Used.length : Int) = b.Workers then (if (a.Barred.length : Int) = b.Workers then (if 0 ≤ b.Heads then ((juratref21_in.f k a.Heads 0 (shlOp .i64 1 b.Heads)).bind fun h => if h = true then (if (a.Eras.length : Int) > 256 then (some (true)) else (some (decide ((a.Jobs.length : Int) > b.Jobs)))) else (some (true))) else none) else (some (true))) else (some (true))).bind fun g => if g = true then (some false) else ((juratref21_StateMay.l1 k b a 0).bind fun d => sumE d (fun _ => (juratref21_StateMay.l2 k a 0 0).bind fun d => sumE d (fun _ => (juratref21_StateMay.l3 k b a 0).bind fun d => sumE d (fun _ => some true) (fun e => some e)) (fun e => some e)) (fun e => some e))
theorem juratref21_StateMay.calls (k w F) (M : TConfig) (ay aw aP aA ax ak ai V al aj X am) (t : TState) (hp : Pre w F []) (ct : aP = t.Eras.length) (cp : t.Eras.length ≤ aw) (cr : aw ≤ maxLen) (bH : Sl TEra.K F F ay t.Eras) (b7 : ak = t.Jobs.length) (b1 : t.Jobs.length ≤ ax) (b4 : ax ≤ maxLen) (aL : Sl TJob.K F F aA t.Jobs) (b8 : al = t.Used.length) (b2 : t.Used.length ≤ V) (b5 : V ≤ maxLen) (aM : Sl (Kd.int .i64) F F ai t.Used) (b9 : am = t.Barred.length) (b3 : t.Barred.length ≤ X) (b6 : X ≤ maxLen) (bY : Sl Kd.bool F F aj t.Barred) (bJ : Bool) (H : juratref21_StateMay.f k M t = some bJ) :
    Calls Try.prog 32 #[.agg (List.toArray (TConfig.q M)), .agg (List.toArray (TState.q t ay aP aw aA ak ax ai al V aj am X))] w fun e w' => e = .returned (.bool bJ) ∧ Ctx w F (domL []) w' F [] := by
 have C := Ctx.start hp
 generalize hD : domL [] = D at C ⊢
 unfold juratref21_StateMay.f at H
 refine Calls.ofW Try.func32 rfl (by simp [Try.ntmps32]) <| W.sr rfl ?_
 let N : List Go.Value := TConfig.q M
 obtain ⟨x, cJ, cf, ck⟩ := ev_box (P := Try.prog) 23 (.agg (List.toArray N)) N C rfl
 refine WL.val (cf _ _ _ rfl) ?_
 let O : List Go.Value := TState.q t ay aP aw aA ak ax ai al V aj am X
 obtain ⟨y, cK, cg, I⟩ := ev_box (P := Try.prog) 32 (.agg (List.toArray O)) O ck rfl
 refine WL.val (cg _ _ _ rfl) <| WL.rd to 1 rfl <| W.seq <| W.seq <| W.region_quiet (by kernel_rfl) (by kernel_rfl) rfl ?_
 refine WQ.run to 1 rfl <| WQ.lv I 0 2 rfl rfl Try.underlying29 rfl rfl <| WQ.vl (fun _ => Yl.lenN (A := ai) (l := al) (q := V) (n := (t.Used.length : Int)) rfl Try.underlying29 (by omega)) ?_
 refine WQ.run to 1 rfl <| WQ.lv I 1 1 rfl rfl Try.underlying3 rfl rfl <| WQ.run to 2 rfl ?_
 obtain ⟨co, p, H⟩ := bindE H
 refine WQ.cut (fun a => a 45 = .bool co ∧ a 2 = .pointer (some ⟨x, 0, none⟩) ∧ a 3 = .pointer (some ⟨y, 0, none⟩)) ?_ ?_
 ·rcases iteE p with ⟨ao, p⟩ | ⟨ao, p⟩
  ·refine WQ.kn 15 (congrArg Value.bool (ndec_t ao)) <| WQ.run to 1 rfl <| WQ.lvG I 0 3 rfl rfl rfl rfl Try.underlying30 rfl rfl <| WQ.vOn rfl rfl (fun _ => Yl.lenN (A := aj) (l := am) (q := X) (n := (t.Barred.length : Int)) rfl Try.underlying30 (by omega)) ?_
   refine WQ.run to 1 rfl <| WQ.lvG I 1 1 rfl rfl rfl rfl Try.underlying3 rfl rfl <| WQ.run to 3 rfl ?_
   rcases iteE p with ⟨ap, p⟩ | ⟨ap, p⟩
   ·refine WQ.kn 23 (congrArg Value.bool (ndec_t ap)) <| WQ.run to 1 rfl <| WQ.lvG I 0 4 rfl rfl rfl rfl Try.underlying3 rfl rfl <| WQ.run to 1 rfl <| WQ.lvG I 1 6 rfl rfl rfl rfl Try.underlying3 rfl rfl ?_
    obtain ⟨bZ, p⟩ := guardE p
    refine WQ.vOn rfl rfl (fun _ => Yl.shl (m := 1) (n := M.Heads) (r := shlOp .i64 1 M.Heads) rfl rfl bZ rfl) ?_
    refine WQ.on rfl rfl ?_
    obtain ⟨bK, b0, p⟩ := bindE p
    refine WQ.call (v := .bool bK) (f := 35) (args := #[iv t.Heads, iv 0, iv (shlOp .i64 1 M.Heads)]) (fun _ hw => by obtain ⟨_, rfl⟩ := hw; exact (ne.fr rfl rfl)) (fun _ hw => by obtain ⟨aV, rfl⟩ := hw; exact (juratref21_in.calls k _ F t.Heads 0 (shlOp .i64 1 M.Heads) (I.drewN aV).pre0  bK b0).mono (fun _ _ ⟨he, m_, hm_⟩ => ⟨he, aV + m_, by rw [hm_, World.drewN_drewN]⟩)) ?_
    refine WQ.run to 3 rfl ?_
    rcases iteE p with ⟨aq, p⟩ | ⟨aq, p⟩
    ·refine WQ.kn 32 (congrArg Value.bool (nb_t aq)) <| WQ.run to 1 rfl <| WQ.lvG I 0 0 rfl rfl rfl rfl Try.underlying27 rfl rfl <| WQ.vOn rfl rfl (fun _ => Yl.lenN (A := ay) (l := aP) (q := aw) (n := (t.Eras.length : Int)) rfl Try.underlying27 (by omega)) ?_
     refine WQ.run to 3 rfl ?_
     rcases iteE p with ⟨ar, p⟩ | ⟨ar, p⟩
     ·refine WQ.kn 38 (congrArg Value.bool (decide_eq_true ar)) <| WQ.offs 6 38 false rfl rfl <| WQ.run to 1 rfl ?_
      cases p
      exact WQ.done ⟨rfl, rfl, rfl⟩
     refine WQ.kn 38 (congrArg Value.bool (decide_eq_false ar)) <| WQ.run to 1 rfl <| WQ.lvG I 0 1 rfl rfl rfl rfl Try.underlying28 rfl rfl <| WQ.vOn rfl rfl (fun _ => Yl.lenN (A := aA) (l := ak) (q := ax) (n := (t.Jobs.length : Int)) rfl Try.underlying28 (by omega)) ?_
     refine WQ.run to 1 rfl <| WQ.lvG I 1 4 rfl rfl rfl rfl Try.underlying3 rfl rfl <| WQ.run to 2 rfl ?_
     cases p
     exact WQ.done ⟨rfl, rfl, rfl⟩
    refine WQ.kn 32 (congrArg Value.bool (nb_f aq)) <| WQ.offs 4 32 false rfl rfl <| WQ.run to 2 rfl <| WQ.offs 6 38 false rfl rfl <| WQ.run to 1 rfl ?_
    cases p
    exact WQ.done ⟨rfl, rfl, rfl⟩
   refine WQ.kn 23 (congrArg Value.bool (ndec_f ap)) <| WQ.offs 7 23 false rfl rfl <| WQ.run to 2 rfl <| WQ.offs 4 32 false rfl rfl <| WQ.run to 2 rfl <| WQ.offs 6 38 false rfl rfl <| WQ.run to 1 rfl ?_
   cases p
   exact WQ.done ⟨rfl, rfl, rfl⟩
  refine WQ.kn 15 (congrArg Value.bool (ndec_f ao)) <| WQ.offs 6 15 false rfl rfl <| WQ.run to 2 rfl <| WQ.offs 7 23 false rfl rfl <| WQ.run to 2 rfl <| WQ.offs 4 32 false rfl rfl <| WQ.run to 2 rfl <| WQ.offs 6 38 false rfl rfl <| WQ.run to 1 rfl ?_
  cases p
  exact WQ.done ⟨rfl, rfl, rfl⟩
 ·rintro a ⟨ca, cb, cc⟩
  intro ci
  have bG := Ctx.drewN I ci
  apply kn a (.c ca (.c cb (.c cc .n)))
  rcases iteE H with ⟨au, H⟩ | ⟨au, H⟩
  ·refine W.condT (congrArg Value.bool au) <| W.sr rfl <| WL.rd to 1 rfl <| W.ret <| thenE_r ?_
   have cl : Cx [] := bG.pick [] rfl
   have cn := Option.some.inj H
   subst cn
   exact post_r (resE1 rfl rfl) ⟨rfl, cl⟩
  refine W.condF (congrArg Value.bool (Bool.eq_false_iff.2 au)) <| W.skip <| W.seq <| W.sr rfl <| WL.rd to 1 rfl ?_
  obtain ⟨bI, s, H⟩ := bindE H
  refine W.cutM (fun a E => Kn a [(2, .pointer (some ⟨x, 0, none⟩)), (3, .pointer (some ⟨y, 0, none⟩))] ∧ Ctx w F D E F [CH.row y 0 O, CH.row x 0 N] ∧ bI = Sum.inl ()) ?_ ?_
  ·refine W.block <| W.loop (fun U a E => ∃ (Q : Int), Kn a [(2, .pointer (some ⟨x, 0, none⟩)), (3, .pointer (some ⟨y, 0, none⟩)), (5, iv Q)] ∧ Ctx w F D E F [CH.row y 0 O, CH.row x 0 N] ∧ juratref21_StateMay.l1 U M t Q = some bI) k ⟨0, rfl, bG, s⟩ ?_
   clear s
   rintro U a E ⟨Q, ce, T, s⟩
   rcases U with _ | aN
   · exact absurd s (by simp [juratref21_StateMay.l1])
   rw [juratref21_StateMay.l1] at s
   apply ks a ce
   refine W.seq <| W.sr rfl <| WL.run to 2 rfl <| WL.lv T 0 2 rfl rfl Try.underlying29 rfl rfl <| WL.ln (t.Used.length : Int) rfl Try.underlying29 (by omega) <| WL.rd to 1 rfl ?_
   rcases iteE s with ⟨aa, s⟩ | ⟨aa, s⟩
   ·refine W.cT aa rfl <| W.skip <| W.seq <| W.block <| W.seq <| W.region_quiet (by kernel_rfl) (by kernel_rfl) rfl ?_
    refine WQ.run to 1 rfl <| WQ.lv T 0 2 rfl rfl Try.underlying29 rfl rfl <| WQ.run to 1 rfl ?_
    obtain ⟨cy, s⟩ := guardE s
    obtain ⟨cE, cB, aZ, a7⟩ := aM (by omega)
    refine WQ.vl (fun _ => Yl.elemAddr (i := Q) rfl rfl aZ Try.underlying29 sz3 (by omega)) ?_
    obtain ⟨cu, bz, bC⟩ := a7 Q.toNat _ (getD_some (d := 0) (by omega))
    obtain rfl := bz
    refine WQ.vl (fun _ => Yl.load (v := iv (t.Used.getD Q.toNat 0)) rfl Try.underlying3 rfl ((((T.drewN _).fro)).cell (bC 0 _ rfl))) ?_
    refine WQ.run to 1 rfl <| WQ.lv T 1 2 rfl rfl Try.underlying3 rfl rfl ?_
    obtain ⟨a6, s⟩ := guardE s
    refine WQ.vl (fun _ => Yl.shl (m := 1) (n := M.Height) (r := shlOp .i64 1 M.Height) rfl rfl a6 rfl) ?_
    obtain ⟨aY, ba, s⟩ := bindE s
    refine WQ.call (v := .bool aY) (f := 35) (args := #[iv (t.Used.getD Q.toNat 0), iv 0, iv (shlOp .i64 1 M.Height)]) (fun _ hw => by obtain ⟨_, rfl⟩ := hw; exact (ne.fr rfl rfl)) (fun _ hw => by obtain ⟨aV, rfl⟩ := hw; exact (juratref21_in.calls aN _ F (t.Used.getD Q.toNat 0) 0 (shlOp .i64 1 M.Height) (T.drewN aV).pre0  aY ba).mono (fun _ _ ⟨he, m_, hm_⟩ => ⟨he, aV + m_, by rw [hm_, World.drewN_drewN]⟩)) ?_
    refine WQ.run to 1 rfl <| WQ.done (fun bE => ?_)
    have aF := Ctx.drewN T bE
    rcases iteE s with ⟨ab, s⟩ | ⟨ab, s⟩
    ·refine W.condF (congrArg Value.bool (nb_t ab)) <| W.skip <| inB_n <| W.region rfl ?_
     exact WL.rd to 3 rfl <| thenE_n ⟨aN, Nat.lt_succ_self _, wi64 (Q + 1), rfl, aF, s⟩
    refine W.condT (congrArg Value.bool (nb_f ab)) <| W.sr rfl <| WL.rd to 1 rfl <| W.ret ?_
    iterate 6 first | refine inB_r ?_ | refine thenE_r ?_
    cases s
    replace H := sumE_r H
    have bL : Cx [] := aF.pick [] rfl
    have bS := Option.some.inj H
    subst bS
    exact post_r (resE1 rfl rfl) ⟨rfl, bL⟩
   refine W.cF aa rfl <| W.exit <| thenE_x <| thenE_x <| inB_here ?_
   cases s
   refine thenE_n ?_
   exact ⟨rfl, T, rfl⟩
  ·rintro a E ⟨cd, cm, rfl⟩
   replace H := sumE_l H
   apply ks a cd
   refine W.sr rfl <| WL.rd to 1 rfl <| W.seq <| W.sr rfl <| WL.rd to 1 rfl ?_
   obtain ⟨aW, b, H⟩ := bindE H
   refine W.cutM (fun a E => Kn a [(2, .pointer (some ⟨x, 0, none⟩)), (3, .pointer (some ⟨y, 0, none⟩))] ∧ Ctx w F D E F [CH.row y 0 O, CH.row x 0 N] ∧ aW = Sum.inl ()) ?_ ?_
   ·refine W.block <| W.loop (fun U a E => ∃ (av : Int) (B : Int), Kn a [(2, .pointer (some ⟨x, 0, none⟩)), (3, .pointer (some ⟨y, 0, none⟩)), (6, iv av), (7, iv B)] ∧ Ctx w F D E F [CH.row y 0 O, CH.row x 0 N] ∧ juratref21_StateMay.l2 U t av B = some aW) k ⟨0, 0, rfl, cm, b⟩ ?_
    clear b
    rintro U a E ⟨av, B, bs, G, b⟩
    rcases U with _ | ch
    · exact absurd b (by simp [juratref21_StateMay.l2])
    rw [juratref21_StateMay.l2] at b
    apply ks a bs
    refine W.seq <| W.sr rfl <| WL.run to 2 rfl <| WL.lv G 0 0 rfl rfl Try.underlying27 rfl rfl <| WL.ln (t.Eras.length : Int) rfl Try.underlying27 (by omega) <| WL.rd to 1 rfl ?_
    rcases iteE b with ⟨ac, b⟩ | ⟨ac, b⟩
    ·refine W.cT ac rfl <| W.skip <| W.seq <| W.block <| W.seq <| W.sr rfl <| WL.run to 1 rfl <| WL.lv G 0 0 rfl rfl Try.underlying27 rfl rfl <| WL.run to 1 rfl ?_
     obtain ⟨cz, b⟩ := guardE b
     obtain ⟨cG, cC, Z, a8⟩ := bH (by omega)
     refine WL.val (Yl.elemAddr (i := B) rfl rfl Z Try.underlying27 sz65 (by omega)) <| WL.run to 1 rfl ?_
     obtain ⟨cv, bA, ah⟩ := a8 B.toNat _ (getD_some (d := TEra.z) (by omega))
     obtain ⟨rfl, cx⟩ := TEra.open bA
     refine WL.val (Yl.load (v := iv ((t.Eras.getD B.toNat TEra.z).Epoch)) rfl Try.underlying3 rfl (((G.fro)).cell (ah 0 _ rfl))) <| WL.run to 3 rfl ?_
     obtain ⟨bX, L, b⟩ := bindE b
     refine WL.cut (fun a E => a 86 = .bool bX ∧ a 2 = .pointer (some ⟨x, 0, none⟩) ∧ a 3 = .pointer (some ⟨y, 0, none⟩) ∧ a 7 = iv B ∧ Ctx w F D E F [CH.row y 0 O, CH.row x 0 N]) ?_ ?_
     ·rcases iteE L with ⟨ad, L⟩ | ⟨ad, L⟩
      ·refine WL.kn 78 (congrArg Value.bool (decide_eq_true ad)) <| WL.offs 7 78 false rfl rfl <| WL.run to 1 rfl ?_
       cases L
       exact WL.done ⟨rfl, rfl, rfl, rfl, G⟩
      refine WL.kn 78 (congrArg Value.bool (decide_eq_false ad)) <| WL.run to 1 rfl <| WL.lvG G 0 0 rfl rfl rfl rfl Try.underlying27 rfl rfl <| WL.run to 1 rfl <| WL.valOn rfl rfl (Yl.elemAddr (i := B) rfl rfl Z Try.underlying27 sz65 (by omega)) <| WL.run to 1 rfl <| WL.valOn rfl rfl (Yl.load (v := iv ((t.Eras.getD B.toNat TEra.z).Epoch)) rfl Try.underlying3 rfl (((G.fro)).cell (ah 0 _ rfl))) <| WL.run to 2 rfl ?_
      cases L
      exact WL.done ⟨rfl, rfl, rfl, rfl, G⟩
     ·rintro a E ⟨bt, bu, bv, bw, Y⟩
      apply kn a (.c bt (.c bu (.c bv (.c bw .n))))
      rcases iteE b with ⟨ae, b⟩ | ⟨ae, b⟩
      ·refine W.condT (congrArg Value.bool ae) <| W.sr rfl <| WL.rd to 1 rfl <| W.ret ?_
       iterate 7 first | refine inB_r ?_ | refine thenE_r ?_
       cases b
       replace H := sumE_r H
       have bN : Cx [] := Y.pick [] rfl
       have bU := Option.some.inj H
       subst bU
       exact post_r (resE1 rfl rfl) ⟨rfl, bN⟩
      refine W.condF (congrArg Value.bool (Bool.eq_false_iff.2 ae)) <| W.skip <| W.region rfl ?_
      refine WL.run to 1 rfl <| WL.lv Y 0 0 rfl rfl Try.underlying27 rfl rfl <| WL.run to 1 rfl <| WL.val (Yl.elemAddr (i := B) rfl rfl Z Try.underlying27 sz65 (by omega)) <| WL.run to 1 rfl <| WL.val (Yl.load (v := iv ((t.Eras.getD B.toNat TEra.z).Epoch)) rfl Try.underlying3 rfl (((Y.fro)).cell (ah 0 _ rfl))) <| WL.rd to 1 rfl <| inB_n <| W.region rfl ?_
      exact WL.rd to 3 rfl <| thenE_n ⟨ch, Nat.lt_succ_self _, (t.Eras.getD B.toNat TEra.z).Epoch, wi64 (B + 1), rfl, Y, b⟩
    refine W.cF ac rfl <| W.exit <| thenE_x <| thenE_x <| inB_here ?_
    cases b
    refine thenE_n ?_
    exact ⟨rfl, G, rfl⟩
   ·rintro a E ⟨br, bM, rfl⟩
    replace H := sumE_l H
    apply ks a br
    refine W.seq <| W.sr rfl <| WL.rd to 1 rfl ?_
    obtain ⟨aX, h, H⟩ := bindE H
    refine W.cutM (fun a E => Ctx w F D E F [CH.row y 0 O, CH.row x 0 N] ∧ aX = Sum.inl ()) ?_ ?_
    ·refine W.block <| W.loop (fun U a E => ∃ (J : Int), Kn a [(2, .pointer (some ⟨x, 0, none⟩)), (3, .pointer (some ⟨y, 0, none⟩)), (8, iv J)] ∧ Ctx w F D E F [CH.row y 0 O, CH.row x 0 N] ∧ juratref21_StateMay.l3 U M t J = some aX) k ⟨0, rfl, bM, h⟩ ?_
     clear h
     rintro U a E ⟨J, bx, an, h⟩
     rcases U with _ | aO
     · exact absurd h (by simp [juratref21_StateMay.l3])
     rw [juratref21_StateMay.l3] at h
     apply ks a bx
     refine W.seq <| W.sr rfl <| WL.run to 2 rfl <| WL.lv an 0 1 rfl rfl Try.underlying28 rfl rfl <| WL.ln (t.Jobs.length : Int) rfl Try.underlying28 (by omega) <| WL.rd to 1 rfl ?_
     rcases iteE h with ⟨af, h⟩ | ⟨af, h⟩
     ·refine W.cT af rfl <| W.skip <| W.seq <| W.block <| W.seq <| W.regionA [([7], CH.row x 0 N), ([7], CH.row y 0 O), ([7], F)] (by kernel_rfl) ?_
      have R := Ctx.drewN an 1
      refine WA.takes [(0, some 0), (1, some 1), (2, none), (3, some 1), (4, none), (5, none), (6, some 2)] ⟨(Ctx.subI 1 R rfl), (Ctx.subI 0 R rfl), (R.fro), trivial⟩ (by kernel_rfl) <| WT.val rfl (fun _ hC_ => Yl.loadVA (g := x) (off := 0) (o := 0) (cs := N) (us := N) rfl Try.underlying23 rfl sz23 (show Sub (CH.row x 0 N) _ from hC_) rfl) ?_
      refine WT.val rfl (fun _ hC_ => Yl.loadVA (g := y) (off := 0) (o := 0) (cs := O) (us := O) rfl Try.underlying32 rfl sz32 (show Sub (CH.row y 0 O) _ from hC_) rfl) ?_
      refine WT.run to 1 rfl <| WT.lv 1 rfl rfl rfl Try.underlying28 rfl rfl <| WT.run to 1 rfl ?_
      obtain ⟨cA, h⟩ := guardE h
      obtain ⟨cH, cD, a0, a9⟩ := aL (by omega)
      refine WT.val rfl (fun _ hC_ => Yl.elemAddr (i := J) rfl rfl a0 Try.underlying28 sz55 (by omega)) ?_
      obtain ⟨cw, bB, bD⟩ := a9 J.toNat _ (getD_some (d := TJob.z) (by omega))
      obtain ⟨az, aG, aQ, aB, aH, aR, aC, aI, aS, aD, aJ, aT, aE, aK, aU, rfl, bm, bc, bh, a1, bn, bd, bi, a2, bo, be, bj, a3, bp, bf, bk, a4, bq, bg, bl, a5⟩ := TJob.open bB
      let cI : List Go.Value := (TJob.q (t.Jobs.getD J.toNat TJob.z) az aQ aG aB aR aH aC aS aI aD aT aJ aE aU aK)
      refine WT.val rfl (fun _ hC_ => Yl.loadAgg (cs := cI) rfl Try.underlying55 rfl sz55 (fun j u hu => by rw [add_of]; exact ((Sub.mono (show Sub F _ from hC_) (CH.le_refl _))).cell (bD _ _ hu))) ?_
      refine WT.done ?_
      obtain ⟨cj, bb, h⟩ := bindE h
      refine WA.up1 7 (by kernel_rfl) (Up.callH rfl (by kernel_rfl) rfl (juratref21_jobMay.calls aO _ F M ay aw aP aA ax ak ai V al aj X am t az aG aQ aB aH aR aC aI aS aD aJ aT aE aK aU (t.Jobs.getD J.toNat TJob.z) R.pre0 ct cp cr bH b7 b1 b4 aL b8 b2 b5 aM b9 b3 b6 bY bm bc bh a1 bn bd bi a2 bo be bj a3 bp bf bk a4 bq bg bl a5 cj bb) (ne.fr rfl rfl) ?_)
      rintro cL E ⟨rfl, bP⟩
      have S : Cx [CH.row y 0 O, CH.row x 0 N] := Ctx.call0 R bP
      refine ⟨_, rfl, ⟨trivial, trivial, trivial, trivial⟩, ?_⟩
      refine WA.takes [(8, none)] ⟨(Ctx.subI 1 S rfl), (Ctx.subI 0 S rfl), (S.fro), trivial⟩ (by kernel_rfl) <| WT.run to 1 rfl <| WT.done <| WA.done (by kernel_rfl) ?_
      rcases iteE h with ⟨ag, h⟩ | ⟨ag, h⟩
      ·refine W.condF (congrArg Value.bool (nb_t ag)) <| W.skip <| inB_n <| W.region rfl ?_
       exact WL.rd to 3 rfl <| thenE_n ⟨aO, Nat.lt_succ_self _, wi64 (J + 1), rfl, S, h⟩
      refine W.condT (congrArg Value.bool (nb_f ag)) <| W.sr rfl <| WL.rd to 1 rfl <| W.ret ?_
      iterate 6 first | refine inB_r ?_ | refine thenE_r ?_
      cases h
      replace H := sumE_r H
      have bQ : Cx [] := S.pick [] rfl
      have bV := Option.some.inj H
      subst bV
      exact post_r (resE1 rfl rfl) ⟨rfl, bQ⟩
     refine W.cF af rfl <| W.exit <| thenE_x <| thenE_x <| inB_here ?_
     cases h
     refine thenE_n ?_
     exact ⟨an, rfl⟩
    ·rintro a E ⟨bO, rfl⟩
     replace H := sumE_l H
     refine W.sr rfl <| WL.rd to 1 rfl <| W.ret ?_
     have bR : Cx [] := bO.pick [] rfl
     have bW := Option.some.inj H
     subst bW
     exact post_r (resE1 rfl rfl) ⟨rfl, bR⟩
def juratref21_Copy.l1 : Nat → TState → Int → TState → Option TState
  | 0, _, _, _ => none
  | k + 1, d, a, b => if a < (d.Jobs.length : Int) then (if 0 ≤ a ∧ a < (d.Jobs.length : Int) then (if (((d.Jobs.getD a.toNat TJob.z).Payload).length + ((d.Jobs.getD a.toNat TJob.z).Payload).length / 4 + 192) * 1 ≤ 281474976710656 then (if (((d.Jobs.getD a.toNat TJob.z).Workers).length + ((d.Jobs.getD a.toNat TJob.z).Workers).length / 4 + 192) * 8 ≤ 281474976710656 then (if (((d.Jobs.getD a.toNat TJob.z).Indexes).length + ((d.Jobs.getD a.toNat TJob.z).Indexes).length / 4 + 192) * 8 ≤ 281474976710656 then ((juratref19_Copy.f k ((d.Jobs.getD a.toNat TJob.z).Votes)).bind fun e => if (((d.Jobs.getD a.toNat TJob.z).Value).length + ((d.Jobs.getD a.toNat TJob.z).Value).length / 4 + 192) * 1 ≤ 281474976710656 then (if (b.Jobs.length + 1 + (b.Jobs.length + 1) / 4 + 192) * 152 ≤ 281474976710656 then (juratref21_Copy.l1 k d (wi64 (a + 1)) (⟨b.Eras, b.Jobs ++ [(⟨(d.Jobs.getD a.toNat TJob.z).Payload, (d.Jobs.getD a.toNat TJob.z).State, (d.Jobs.getD a.toNat TJob.z).Attempt, (d.Jobs.getD a.toNat TJob.z).Epoch, (d.Jobs.getD a.toNat TJob.z).Until, (d.Jobs.getD a.toNat TJob.z).Workers, (d.Jobs.getD a.toNat TJob.z).Indexes, e, (d.Jobs.getD a.toNat TJob.z).Value⟩ : TJob)], b.Used, b.Barred, b.Heads⟩ : TState)) else none) else none) else none) else none) else none) else none) else (some b)
def juratref21_Copy.f (k : Nat) (a : TState) : Option TState := if (([] : List TEra).length + a.Eras.length + (([] : List TEra).length + a.Eras.length) / 4 + 192) * 40 ≤ 281474976710656 then (if (([] : List Int).length + a.Used.length + (([] : List Int).length + a.Used.length) / 4 + 192) * 8 ≤ 281474976710656 then (if (([] : List Bool).length + a.Barred.length + (([] : List Bool).length + a.Barred.length) / 4 + 192) * 1 ≤ 281474976710656 then ((juratref21_Copy.l1 k a 0 (⟨a.Eras, ([] : List TJob), a.Used, a.Barred, a.Heads⟩ : TState)).bind fun b => some b) else none) else none) else none
theorem juratref21_Copy.calls (k w F e9 cj fs fa eO ec cc br ed cd bs ee) (x : TState) (hp : Pre w F []) (fS : fs = x.Eras.length) (gC : x.Eras.length ≤ cj) (gD : cj ≤ maxLen) (fE : Sl TEra.K F F e9 x.Eras) (gA : ec = x.Jobs.length) (gu : x.Jobs.length ≤ eO) (gx : eO ≤ maxLen) (fc : Sl TJob.K F F fa x.Jobs) (fi : ed = x.Used.length) (gv : x.Used.length ≤ br) (gy : br ≤ maxLen) (fd : Sl (Kd.int .i64) F F cc x.Used) (fj : ee = x.Barred.length) (gw : x.Barred.length ≤ bs) (gz : bs ≤ maxLen) (fe : Sl Kd.bool F F cd x.Barred) (av : TState) (H : juratref21_Copy.f k x = some av) :
    Calls Try.prog 13 #[.agg (List.toArray (TState.q x e9 fs cj fa ec eO cc ed br cd ee bs))] w fun e w' => ∃ F' bO bX bl b5 bP bY bm b6 bQ bZ bn b7 bR b0 bo b8, e = .returned (.agg (List.toArray (TState.q av bO bl bX bP bm bY bQ bn bZ bR bo b0))) ∧ CH.le F F' ∧ Ctx w F (domL []) w' F' [b5, b6, b7, b8] ∧ bl = av.Eras.length ∧ Row TEra.K F' b5 (.slice bO bl bX) av.Eras ∧ bm = av.Jobs.length ∧ Row TJob.K F' b6 (.slice bP bm bY) av.Jobs ∧ bn = av.Used.length ∧ Row (Kd.int .i64) F' b7 (.slice bQ bn bZ) av.Used ∧ bo = av.Barred.length ∧ Row Kd.bool F' b8 (.slice bR bo b0) av.Barred := by
 have C := Ctx.start hp
 generalize hD : domL [] = D at C ⊢
 unfold juratref21_Copy.f at H
 refine Calls.ofW Try.func13 rfl (by simp [Try.ntmps13]) <| W.sr rfl ?_
 let B : List Go.Value := TState.q x e9 fs cj fa ec eO cc ed br cd ee bs
 obtain ⟨r, gE, fk, ft⟩ := ev_box (P := Try.prog) 32 (.agg (List.toArray B)) B C rfl
 refine WL.val (fk _ _ _ rfl) ?_
 let E : List Go.Value := [.slice none 0 0, .slice none 0 0, .slice none 0 0, .slice none 0 0, iv 0]
 obtain ⟨m, gF, fl, e3⟩ := ev_alloc (P := Try.prog) (e := 32) E ft zr32 rfl
 refine WL.val (fl _ _) <| WL.done <| W.sr rfl <| WL.run to 1 rfl <| WL.lv e3 1 4 rfl rfl Try.underlying3 rfl rfl ?_
 let ca : List Go.Value := TState.q x none 0 0 none 0 0 none 0 0 none 0 0
 refine WL.val (Yl.build (places := [(0, 1), (1, 1), (2, 1), (3, 1), (4, 1)]) (cs := List.toArray ca) Try.underlying32 zr32 (pl32 _ Try.underlying32) (partsB (.cons rfl .nil)) rfl) ?_
 obtain ⟨p, gG, fm, fu⟩ := ev_alloc (P := Try.prog) (e := 32) E e3 zr32 rfl
 refine WL.val (fm _ _) <| WL.st fu 0 0 ca rfl rfl rfl rfl (Put.lit 0 rfl) (ones_of rfl) sz32 fun ak (cf : Cx [CH.row p 0 ca, CH.row m 0 E, CH.row r 0 B]) => ?_
 refine WL.done <| W.sr rfl <| WL.run to 1 rfl <| WL.lv cf 0 0 rfl rfl Try.underlying27 rfl rfl <| WL.run to 1 rfl <| WL.lv cf 2 0 rfl rfl Try.underlying27 rfl rfl ?_
 obtain ⟨ff, H⟩ := guardE H
 have e4 : Cx [CH.emp, CH.row p 0 ca, CH.row m 0 E, CH.row r 0 B] := cf.pick [3, 0, 1, 2] rfl
 obtain ⟨bq, bt, bL, aj, gH, dQ, fo, fv, c9⟩ := ev_append' (P := Try.prog) (cb := cj) 65 TEra.K [] [CH.row p 0 ca, CH.row m 0 E, CH.row r 0 B] e4 (Row.nil TEra.K F) fS fE e4.fro Try.underlying27 ti65 rfl zo65 (by decide) (by decide) (by simpa using ff)
 have fw : Cx [aj, CH.row p 0 ca, CH.row m 0 E, CH.row r 0 B] := fv
 rw [List.nil_append] at dQ c9
 refine WL.val (fo _ _ _ _ rfl rfl) <| WL.run to 1 rfl ?_
 let e1 : List Go.Value := TState.q x bq bL bt none 0 0 none 0 0 none 0 0
 refine WL.st fw 1 0 [.slice bq bL bt] rfl rfl rfl rfl (Put.lit 0 rfl) (ones_of rfl) sz27 fun ak (cg : Cx [aj, CH.row p 0 e1, CH.row m 0 E, CH.row r 0 B]) => ?_
 refine WL.done <| W.sr rfl <| WL.run to 1 rfl <| WL.lv cg 1 2 rfl rfl Try.underlying29 rfl rfl <| WL.run to 1 rfl <| WL.lv cg 3 2 rfl rfl Try.underlying29 rfl rfl ?_
 obtain ⟨fg, H⟩ := guardE H
 have e5 : Cx [CH.emp, aj, CH.row p 0 e1, CH.row m 0 E, CH.row r 0 B] := cg.pick [4, 0, 1, 2, 3] rfl
 obtain ⟨bS, b1, b4, aQ, gI, dR, fp, fx, da⟩ := ev_append' (P := Try.prog) (cb := br) 3 (Kd.int .i64) [] [aj, CH.row p 0 e1, CH.row m 0 E, CH.row r 0 B] e5 (Row.nil (Kd.int .i64) F) fi fd e5.fro Try.underlying29 ti3 rfl zo3 (by decide) (by decide) (by simpa using fg)
 have fy : Cx [aQ, aj, CH.row p 0 e1, CH.row m 0 E, CH.row r 0 B] := fx
 rw [List.nil_append] at dR da
 refine WL.val (fp _ _ _ _ rfl rfl) <| WL.run to 1 rfl ?_
 let e2 : List Go.Value := TState.q x bq bL bt none 0 0 bS b4 b1 none 0 0
 refine WL.st fy 2 2 [.slice bS b4 b1] rfl rfl rfl rfl (Put.lit 2 rfl) (ones_of rfl) sz29 fun ak (ch : Cx [aQ, aj, CH.row p 0 e2, CH.row m 0 E, CH.row r 0 B]) => ?_
 refine WL.done <| W.sr rfl <| WL.run to 1 rfl <| WL.lv ch 2 3 rfl rfl Try.underlying30 rfl rfl <| WL.run to 1 rfl <| WL.lv ch 4 3 rfl rfl Try.underlying30 rfl rfl ?_
 obtain ⟨fh, H⟩ := guardE H
 have e6 : Cx [CH.emp, aQ, aj, CH.row p 0 e2, CH.row m 0 E, CH.row r 0 B] := ch.pick [5, 0, 1, 2, 3, 4] rfl
 obtain ⟨ce, ck, ef, b9, gJ, dS, fq, fA, db⟩ := ev_append' (P := Try.prog) (cb := bs) 4 Kd.bool [] [aQ, aj, CH.row p 0 e2, CH.row m 0 E, CH.row r 0 B] e6 (Row.nil Kd.bool F) fj fe e6.fro Try.underlying30 ti4 rfl zo4 (by decide) (by decide) (by simpa using fh)
 have fB : Cx [b9, aQ, aj, CH.row p 0 e2, CH.row m 0 E, CH.row r 0 B] := fA
 rw [List.nil_append] at dS db
 refine WL.val (fq _ _ _ _ rfl rfl) <| WL.run to 1 rfl ?_
 let fU : List Go.Value := TState.q x bq bL bt none 0 0 bS b4 b1 ce ef ck
 refine WL.st fB 3 3 [.slice ce ef ck] rfl rfl rfl rfl (Put.lit 3 rfl) (ones_of rfl) sz30 fun ak (fC : Cx [b9, aQ, aj, CH.row p 0 fU, CH.row m 0 E, CH.row r 0 B]) => ?_
 refine WL.done <| W.seq <| W.sr rfl <| WL.rd to 1 rfl ?_
 obtain ⟨T, s, H⟩ := bindE H
 refine W.cutM (fun aw ak => ∃ al aX a1 aI aM aY a2 aJ aN aZ a3 aK aO a0 a4 aL aP, Kn aw [(2, .pointer (some ⟨m, 0, none⟩)), (3, .pointer (some ⟨p, 0, none⟩))] ∧ Ctx w F D ak al [CH.row p 0 (TState.q T aX aI a1 aY aJ a2 aZ aK a3 a0 aL a4), aM, aN, aO, aP, CH.row m 0 E, CH.row r 0 B] ∧ CH.le F al ∧ aI = T.Eras.length ∧ Row TEra.K al aM (.slice aX aI a1) T.Eras ∧ aJ = T.Jobs.length ∧ Row TJob.K al aN (.slice aY aJ a2) T.Jobs ∧ aK = T.Used.length ∧ Row (Kd.int .i64) al aO (.slice aZ aK a3) T.Used ∧ aL = T.Barred.length ∧ Row Kd.bool al aP (.slice a0 aL a4) T.Barred) ?_ ?_
 ·refine W.block ?_
  have el : Cx [CH.row p 0 fU, aj, CH.emp, aQ, b9, CH.row m 0 E, CH.row r 0 B] := fC.pick [3, 2, 6, 1, 0, 4, 5] rfl
  refine W.loop (fun fb aw ak => ∃ (a : Int) (y : TState), ∃ R aa ae V b ax aC ap t ab af X h ac ag Y l, Kn aw [(1, .pointer (some ⟨r, 0, none⟩)), (2, .pointer (some ⟨m, 0, none⟩)), (3, .pointer (some ⟨p, 0, none⟩)), (4, iv a)] ∧ Ctx w F D ak R [CH.row p 0 (TState.q y aa V ae ax ap aC ab X af ac Y ag), b, t, h, l, CH.row m 0 E, CH.row r 0 B] ∧ CH.le F R ∧ V = y.Eras.length ∧ Row TEra.K R b (.slice aa V ae) y.Eras ∧ ap = y.Jobs.length ∧ Row TJob.K R t (.slice ax ap aC) y.Jobs ∧ X = y.Used.length ∧ Row (Kd.int .i64) R h (.slice ab X af) y.Used ∧ Y = y.Barred.length ∧ Row Kd.bool R l (.slice ac Y ag) y.Barred ∧ juratref21_Copy.l1 fb x a y = some T) k ⟨0, (⟨x.Eras, ([] : List TJob), x.Used, x.Barred, x.Heads⟩ : TState), F, bq, bt, bL, aj, none, 0, 0, CH.emp, bS, b1, b4, aQ, ce, ck, ef, b9, rfl, el, (CH.le_refl _), dQ, c9, rfl, (Row.nil _ _), dR, da, dS, db, s⟩ ?_
  clear s
  rintro fb aw ak ⟨a, y, R, aa, ae, V, b, ax, aC, ap, t, ab, af, X, h, ac, ag, Y, l, dT, aB, G, bD, bu, dH, bv, bE, bw, bG, bx, s⟩
  rcases fb with _ | b2
  · exact absurd s (by simp [juratref21_Copy.l1])
  rw [juratref21_Copy.l1] at s
  apply ks aw dT
  refine W.seq <| W.sr rfl <| WL.run to 2 rfl <| WL.lv aB 6 1 rfl rfl Try.underlying28 rfl rfl <| WL.ln (x.Jobs.length : Int) rfl Try.underlying28 (by omega) <| WL.rd to 1 rfl ?_
  rcases iteE s with ⟨a5, s⟩ | ⟨a5, s⟩
  ·refine W.cT a5 rfl <| W.skip <| W.seq <| W.block <| W.sr rfl <| WL.run to 1 rfl <| WL.lv aB 6 1 rfl rfl Try.underlying28 rfl rfl <| WL.run to 1 rfl ?_
   obtain ⟨fF, s⟩ := guardE s
   obtain ⟨f5, fT, cl, dt⟩ := fc (by omega)
   refine WL.val (Yl.elemAddr (i := a) rfl rfl cl Try.underlying28 sz55 (by omega)) ?_
   obtain ⟨fD, dU, dV⟩ := dt a.toNat _ (getD_some (d := TJob.z) (by omega))
   obtain ⟨ek, bW, e0, bN, bf, b3, a6, aS, bi, ay, aD, aF, az, an, aG, rfl, dI, fG, fK, dc, dJ, fH, fL, dd, dK, fI, fM, de, dL, dv, dB, df, dM, fJ, fN, dg⟩ := TJob.open dU
   let ej : List Go.Value := (TJob.q (x.Jobs.getD a.toNat TJob.z) ek e0 bW bN b3 bf a6 bi aS ay aF aD az aG an)
   refine WL.val (Yl.loadAgg (cs := ej) rfl Try.underlying55 rfl sz55 (fun j u hu => by rw [add_of]; exact ((aB.fro.mono G)).cell (dV _ _ hu))) ?_
   let gB : List Go.Value := [.slice none 0 0, iv 0, iv 0, iv 0, iv 0, .slice none 0 0, .slice none 0 0, .slice none 0 0, .slice none 0 0]
   obtain ⟨v, gj, dW, em⟩ := ev_alloc (P := Try.prog) (e := 55) gB aB zr55 rfl
   refine WL.val (dW _ _) ?_
   let U : List Go.Value := TState.q y aa V ae ax ap aC ab X af ac Y ag
   refine WL.st em 0 0 ej rfl rfl rfl rfl (Put.lit 0 rfl) (ones_of rfl) sz55 fun ak (en : Cx [CH.row v 0 ej, CH.row p 0 U, b, t, h, l, CH.row m 0 E, CH.row r 0 B]) => ?_
   refine WL.done <| W.sr rfl ?_
   obtain ⟨fV, f6, ga, gf, gk, fO, dX, a9, cm⟩ := ev_lit0 (P := Try.prog) 5 (Kd.int .u8) en Try.underlying44 ti5
   refine WL.val (dX _ _) <| WL.run to 1 rfl <| WL.lv a9 1 0 rfl rfl Try.underlying44 rfl rfl ?_
   obtain ⟨dm, s⟩ := guardE s
   obtain ⟨ad, ah, ai, M, gl, bH, dY, eo, bz⟩ := ev_append' (P := Try.prog) (cb := bW) 5 (Kd.int .u8) [] [CH.row v 0 ej, CH.row p 0 U, b, t, h, l, CH.row m 0 E, CH.row r 0 B] a9 cm dI (Sl.mono dc G G) a9.fro Try.underlying44 ti5 rfl zo5 (by decide) (by decide) (by simpa using dm)
   have ep : Cx [M, CH.row v 0 ej, CH.row p 0 U, b, t, h, l, CH.row m 0 E, CH.row r 0 B] := eo
   rw [List.nil_append] at bH bz
   refine WL.val (dY _ _ _ _ rfl rfl) <| WL.run to 1 rfl ?_
   let eg : List Go.Value := (TJob.q (x.Jobs.getD a.toNat TJob.z) ad ai ah bN b3 bf a6 bi aS ay aF aD az aG an)
   refine WL.st ep 1 0 [.slice ad ai ah] rfl rfl rfl rfl (Put.lit 0 rfl) (ones_of rfl) sz44 fun ak (eq : Cx [M, CH.row v 0 eg, CH.row p 0 U, b, t, h, l, CH.row m 0 E, CH.row r 0 B]) => ?_
   refine WL.done <| W.sr rfl ?_
   obtain ⟨fW, f7, gb, gg, gm, fP, dZ, ba, cn⟩ := ev_lit0 (P := Try.prog) 3 (Kd.int .i64) eq Try.underlying29 ti3
   refine WL.val (dZ _ _) <| WL.run to 1 rfl <| WL.lv ba 2 5 rfl rfl Try.underlying29 rfl rfl ?_
   obtain ⟨dp, s⟩ := guardE s
   obtain ⟨am, ao, aq, Q, gn, bI, d0, er, bA⟩ := ev_append' (P := Try.prog) (cb := bf) 3 (Kd.int .i64) [] [M, CH.row v 0 eg, CH.row p 0 U, b, t, h, l, CH.row m 0 E, CH.row r 0 B] ba cn dJ (Sl.mono dd G G) ba.fro Try.underlying29 ti3 rfl zo3 (by decide) (by decide) (by simpa using dp)
   have es : Cx [Q, M, CH.row v 0 eg, CH.row p 0 U, b, t, h, l, CH.row m 0 E, CH.row r 0 B] := er
   rw [List.nil_append] at bI bA
   refine WL.val (d0 _ _ _ _ rfl rfl) <| WL.run to 1 rfl ?_
   let eh : List Go.Value := (TJob.q (x.Jobs.getD a.toNat TJob.z) ad ai ah am aq ao a6 bi aS ay aF aD az aG an)
   refine WL.st es 2 5 [.slice am aq ao] rfl rfl rfl rfl (Put.lit 5 rfl) (ones_of rfl) sz29 fun ak (et : Cx [Q, M, CH.row v 0 eh, CH.row p 0 U, b, t, h, l, CH.row m 0 E, CH.row r 0 B]) => ?_
   refine WL.done <| W.sr rfl ?_
   obtain ⟨fX, f8, gc, gh, go, fQ, d1, bb, co⟩ := ev_lit0 (P := Try.prog) 3 (Kd.int .i64) et Try.underlying29 ti3
   refine WL.val (d1 _ _) <| WL.run to 1 rfl <| WL.lv bb 3 6 rfl rfl Try.underlying29 rfl rfl ?_
   obtain ⟨dq, s⟩ := guardE s
   obtain ⟨aA, aE, aH, S, gp, bJ, d2, eu, bB⟩ := ev_append' (P := Try.prog) (cb := aS) 3 (Kd.int .i64) [] [Q, M, CH.row v 0 eh, CH.row p 0 U, b, t, h, l, CH.row m 0 E, CH.row r 0 B] bb co dK (Sl.mono de G G) bb.fro Try.underlying29 ti3 rfl zo3 (by decide) (by decide) (by simpa using dq)
   have ew : Cx [S, Q, M, CH.row v 0 eh, CH.row p 0 U, b, t, h, l, CH.row m 0 E, CH.row r 0 B] := eu
   rw [List.nil_append] at bJ bB
   refine WL.val (d2 _ _ _ _ rfl rfl) <| WL.run to 1 rfl ?_
   let e7 : List Go.Value := (TJob.q (x.Jobs.getD a.toNat TJob.z) ad ai ah am aq ao aA aH aE ay aF aD az aG an)
   refine WL.st ew 3 6 [.slice aA aH aE] rfl rfl rfl rfl (Put.lit 6 rfl) (ones_of rfl) sz29 fun ak (bc : Cx [S, Q, M, CH.row v 0 e7, CH.row p 0 U, b, t, h, l, CH.row m 0 E, CH.row r 0 B]) => ?_
   refine WL.done <| W.sr rfl <| WL.run to 1 rfl <| WL.lv bc 3 7 rfl rfl Try.underlying53 rfl rfl ?_
   obtain ⟨aW, du, s⟩ := bindE s
   refine WL.callH (juratref19_Copy.calls b2 _ R ay aD aF ((x.Jobs.getD a.toNat TJob.z).Votes) bc.pre0 dL dv dB (Sl.mono df G G) aW du) (ne.fr rfl rfl) ?_
   rintro gK ak ⟨f0, aR, aT, aU, Z, rfl, N, ex, dN, cp⟩
   refine ⟨_, rfl, ?_⟩
   have ey : Cx [Z, S, Q, M, CH.row v 0 e7, CH.row p 0 U, b, t, h, l, CH.row m 0 E, CH.row r 0 B] := Ctx.call0 bc ex
   have cr := Row.mono bz N
   have ct := Row.mono bA N
   have cu := Row.mono bB N
   have cv := Row.mono bu N
   have cw := Row.mono bv N
   have cx := Row.mono bw N
   have cy := Row.mono bx N
   refine WL.run to 1 rfl ?_
   let ei : List Go.Value := (TJob.q (x.Jobs.getD a.toNat TJob.z) ad ai ah am aq ao aA aH aE aR aU aT az aG an)
   refine WL.st ey 4 7 [.slice aR aU aT] rfl rfl rfl rfl (Put.lit 7 rfl) (ones_of rfl) sz53 fun ak (ez : Cx [Z, S, Q, M, CH.row v 0 ei, CH.row p 0 U, b, t, h, l, CH.row m 0 E, CH.row r 0 B]) => ?_
   refine WL.done <| W.sr rfl ?_
   obtain ⟨fY, f9, gd, gi, gq, fR, d3, bd, cz⟩ := ev_lit0 (P := Try.prog) 5 (Kd.int .u8) ez Try.underlying44 ti5
   refine WL.val (d3 _ _) <| WL.run to 1 rfl <| WL.lv bd 5 8 rfl rfl Try.underlying44 rfl rfl ?_
   obtain ⟨dr, s⟩ := guardE s
   obtain ⟨a7, bg, bj, ar, gr, bK, d4, eA, bC⟩ := ev_append' (P := Try.prog) (cb := an) 5 (Kd.int .u8) [] [Z, S, Q, M, CH.row v 0 ei, CH.row p 0 U, b, t, h, l, CH.row m 0 E, CH.row r 0 B] bd cz dM (Sl.mono dg (CH.le_trans G N) (CH.le_trans G N)) bd.fro Try.underlying44 ti5 rfl zo5 (by decide) (by decide) (by simpa using dr)
   have eB : Cx [ar, Z, S, Q, M, CH.row v 0 ei, CH.row p 0 U, b, t, h, l, CH.row m 0 E, CH.row r 0 B] := eA
   rw [List.nil_append] at bK bC
   refine WL.val (d4 _ _ _ _ rfl rfl) <| WL.run to 1 rfl ?_
   let au : List Go.Value := (TJob.q (x.Jobs.getD a.toNat TJob.z) ad ai ah am aq ao aA aH aE aR aU aT a7 bj bg)
   refine WL.st eB 5 8 [.slice a7 bj bg] rfl rfl rfl rfl (Put.lit 8 rfl) (ones_of rfl) sz44 fun ak (be : Cx [ar, Z, S, Q, M, CH.row v 0 au, CH.row p 0 U, b, t, h, l, CH.row m 0 E, CH.row r 0 B]) => ?_
   refine WL.done <| W.region rfl ?_
   refine WL.run to 1 rfl <| WL.lv be 6 1 rfl rfl Try.underlying28 rfl rfl <| WL.la be 5 rfl rfl Try.underlying55 rfl sz55 ?_
   obtain ⟨f1, O, d7, (eC : Cx [ar, Z, S, Q, CH.row v 0 au, CH.row p 0 U, b, t, h, l, CH.row m 0 E, CH.row r 0 B])⟩ := Ctx.fzI 4 be rfl
   obtain ⟨dw, dC, dh⟩ := Row.fz cr O d7
   have cA := Row.mono ct O
   have cB := Row.mono cu O
   have cC := Row.mono cp O
   have cD := Row.mono bC O
   have cE := Row.mono cw O
   have cG := Row.mono cv O
   have cH := Row.mono cx O
   have cI := Row.mono cy O
   obtain ⟨f2, L, d8, (eD : Cx [ar, Z, S, CH.row v 0 au, CH.row p 0 U, b, t, h, l, CH.row m 0 E, CH.row r 0 B])⟩ := Ctx.fzI 3 eC rfl
   obtain ⟨dx, dD, di⟩ := Row.fz cA L d8
   have cJ := Row.mono cB L
   have cK := Row.mono cC L
   have cL := Row.mono cD L
   have cM := Row.mono cE L
   have cN := Row.mono cG L
   have cO := Row.mono cH L
   have cP := Row.mono cI L
   obtain ⟨f3, J, d9, (eE : Cx [ar, Z, CH.row v 0 au, CH.row p 0 U, b, t, h, l, CH.row m 0 E, CH.row r 0 B])⟩ := Ctx.fzI 2 eD rfl
   obtain ⟨dy, dE, dj⟩ := Row.fz cJ J d9
   have cQ := Row.mono cK J
   have cR := Row.mono cL J
   have cS := Row.mono cM J
   have cU := Row.mono cN J
   have cV := Row.mono cO J
   have cW := Row.mono cP J
   obtain ⟨f4, I, ea, (eF : Cx [ar, CH.row v 0 au, CH.row p 0 U, b, t, h, l, CH.row m 0 E, CH.row r 0 B])⟩ := Ctx.fzI 1 eE rfl
   obtain ⟨dz, dF, dk⟩ := Row.fz cQ I ea
   have cX := Row.mono cR I
   have cY := Row.mono cS I
   have cZ := Row.mono cU I
   have c1 := Row.mono cV I
   have c2 := Row.mono cW I
   obtain ⟨eM, A, eb, (eG : Cx [CH.row v 0 au, CH.row p 0 U, b, t, h, l, CH.row m 0 E, CH.row r 0 B])⟩ := Ctx.fzI 0 eF rfl
   obtain ⟨dA, dG, dl⟩ := Row.fz cX A eb
   have c3 := Row.mono cY A
   have c4 := Row.mono cZ A
   have c5 := Row.mono c1 A
   have c6 := Row.mono c2 A
   obtain ⟨fZ, eN, ge, bp, gs, dO, d5, bU, c7⟩ := ev_lit1' (P := Try.prog) 55 TJob.K eG Try.underlying28 ti55 ⟨by decide, by decide⟩ (⟨(x.Jobs.getD a.toNat TJob.z).Payload, (x.Jobs.getD a.toNat TJob.z).State, (x.Jobs.getD a.toNat TJob.z).Attempt, (x.Jobs.getD a.toNat TJob.z).Epoch, (x.Jobs.getD a.toNat TJob.z).Until, (x.Jobs.getD a.toNat TJob.z).Workers, (x.Jobs.getD a.toNat TJob.z).Indexes, aW, (x.Jobs.getD a.toNat TJob.z).Value⟩ : TJob) (.agg (List.toArray au)) (TJob.mk' _ (⟨(x.Jobs.getD a.toNat TJob.z).Payload, (x.Jobs.getD a.toNat TJob.z).State, (x.Jobs.getD a.toNat TJob.z).Attempt, (x.Jobs.getD a.toNat TJob.z).Epoch, (x.Jobs.getD a.toNat TJob.z).Until, (x.Jobs.getD a.toNat TJob.z).Workers, (x.Jobs.getD a.toNat TJob.z).Indexes, aW, (x.Jobs.getD a.toNat TJob.z).Value⟩ : TJob) ad ah ai am ao aq aA aE aH aR aT aU a7 bg bj bH dw dC (Sl.mono dh (CH.le_trans L (CH.le_trans J (CH.le_trans I A))) (CH.le_trans L (CH.le_trans J (CH.le_trans I A)))) bI dx dD (Sl.mono di (CH.le_trans J (CH.le_trans I A)) (CH.le_trans J (CH.le_trans I A))) bJ dy dE (Sl.mono dj (CH.le_trans I A) (CH.le_trans I A)) dN dz dF (Sl.mono dk A A) bK dA dG dl)
   refine WL.val (d5 _ _ _ rfl) ?_
   obtain ⟨ds, s⟩ := guardE s
   obtain ⟨a8, bh, bk, aV, gt, dP, d6, eH, c8⟩ := ev_append' (P := Try.prog) (cb := eN) 55 TJob.K [bp, CH.row v 0 au, CH.row p 0 U, b] [h, l, CH.row m 0 E, CH.row r 0 B] bU c3 dO (Row.sl c7) (Ctx.subI 0 bU rfl) Try.underlying28 ti55 rfl zo55 (by decide) (by decide) (by simpa using ds)
   have eI : Cx [bp, CH.row v 0 au, CH.row p 0 U, b, aV, h, l, CH.row m 0 E, CH.row r 0 B] := eH
   refine WL.val (d6 _ _ _ _ rfl rfl) <| WL.run to 1 rfl ?_
   let e8 : List Go.Value := TState.q y aa V ae a8 bk bh ab X af ac Y ag
   refine WL.st eI 2 1 [.slice a8 bk bh] rfl rfl rfl rfl (Put.lit 1 rfl) (ones_of rfl) sz28 fun ak (eJ : Cx [bp, CH.row v 0 au, CH.row p 0 e8, b, aV, h, l, CH.row m 0 E, CH.row r 0 B]) => ?_
   refine WL.done <| inB_n <| W.region rfl ?_
   refine WL.rd to 3 rfl ?_
   have eK : Cx [CH.row p 0 e8, b, aV, h, l, CH.row m 0 E, CH.row r 0 B] := eJ.pick [2, 3, 4, 5, 6, 7, 8] rfl
   exact thenE_n ⟨b2, Nat.lt_succ_self _, wi64 (a + 1), (⟨y.Eras, y.Jobs ++ [(⟨(x.Jobs.getD a.toNat TJob.z).Payload, (x.Jobs.getD a.toNat TJob.z).State, (x.Jobs.getD a.toNat TJob.z).Attempt, (x.Jobs.getD a.toNat TJob.z).Epoch, (x.Jobs.getD a.toNat TJob.z).Until, (x.Jobs.getD a.toNat TJob.z).Workers, (x.Jobs.getD a.toNat TJob.z).Indexes, aW, (x.Jobs.getD a.toNat TJob.z).Value⟩ : TJob)], y.Used, y.Barred, y.Heads⟩ : TState), eM, aa, ae, V, b, a8, bh, bk, aV, ab, af, X, h, ac, ag, Y, l, rfl, eK, (CH.le_trans G (CH.le_trans N (CH.le_trans O (CH.le_trans L (CH.le_trans J (CH.le_trans I A)))))), bD, c4, dP, c8, bE, c5, bG, c6, s⟩
  refine W.cF a5 rfl <| W.exit <| thenE_x <| thenE_x <| inB_here ?_
  cases s
  refine thenE_n ?_
  exact ⟨R, aa, ae, V, b, ax, aC, ap, t, ab, af, X, h, ac, ag, Y, l, rfl, aB, G, bD, bu, dH, bv, bE, bw, bG, bx⟩
 ·rintro aw ak ⟨al, aX, a1, aI, aM, aY, a2, aJ, aN, aZ, a3, aK, aO, a0, a4, aL, aP, eY, ci, eZ, eU, eQ, eV, eR, eW, eS, eX, eT⟩
  apply ks aw eY
  refine W.sr rfl <| WL.la ci 0 rfl rfl Try.underlying32 rfl sz32 ?_
  let bM : List Go.Value := TState.q T aX aI a1 aY aJ a2 aZ aK a3 a0 aL a4
  refine WL.st ci 5 0 bM rfl rfl rfl rfl (Put.lit 0 rfl) (ones_of rfl) sz32 fun ak (bV : Cx [CH.row p 0 bM, aM, aN, aO, aP, CH.row m 0 bM, CH.row r 0 B]) => ?_
  refine WL.done <| W.ret ?_
  have eL : Cx [aM, aN, aO, aP] := bV.pick [1, 2, 3, 4] rfl
  have eP := Option.some.inj H
  subst eP
  exact post_r (resEC rfl ((.cell rfl (run_loadVA2 (g := m) (off := 0) (o := 0) (cs := bM) (us := bM) Try.underlying32 rfl sz32 (Ctx.subI 5 bV rfl) rfl) .nil))) ⟨al, aX, a1, aI, aM, aY, a2, aJ, aN, aZ, a3, aK, aO, a0, a4, aL, aP, rfl, eZ, eL, eU, eQ, eV, eR, eW, eS, eX, eT⟩
def juratref21_Same.l1 : Nat → TState → TState → Int → Option (Sum Unit Bool)
  | 0, _, _, _ => none
  | k + 1, b, d, a => if a < (b.Barred.length : Int) then (if 0 ≤ a ∧ a < (b.Barred.length : Int) then (if 0 ≤ a ∧ a < (d.Barred.length : Int) then (if (b.Barred.getD a.toNat false) = (d.Barred.getD a.toNat false) then (juratref21_Same.l1 k b d (wi64 (a + 1))) else (some (Sum.inr false))) else none) else none) else (some (Sum.inl ()))
def juratref21_Same.l2 : Nat → TState → TState → Int → Option (Sum Unit Bool)
  | 0, _, _, _ => none
  | k + 1, b, d, a => if a < (b.Eras.length : Int) then (if 0 ≤ a ∧ a < (b.Eras.length : Int) then (if 0 ≤ a ∧ a < (d.Eras.length : Int) then (if ((b.Eras.getD a.toNat TEra.z).Epoch) = ((d.Eras.getD a.toNat TEra.z).Epoch) ∧ ((b.Eras.getD a.toNat TEra.z).Nonce) = ((d.Eras.getD a.toNat TEra.z).Nonce) then (juratref21_Same.l2 k b d (wi64 (a + 1))) else (some (Sum.inr false))) else none) else none) else (some (Sum.inl ()))
def juratref21_Same.l3 : Nat → TState → TState → Int → Option (Sum Unit Bool)
  | 0, _, _, _ => none
  | k + 1, b, d, a => if a < (b.Jobs.length : Int) then (if 0 ≤ a ∧ a < (b.Jobs.length : Int) then (if 0 ≤ a ∧ a < (d.Jobs.length : Int) then ((if ((b.Jobs.getD a.toNat TJob.z).State) = ((d.Jobs.getD a.toNat TJob.z).State) then (if ((b.Jobs.getD a.toNat TJob.z).Attempt) = ((d.Jobs.getD a.toNat TJob.z).Attempt) then (if ((b.Jobs.getD a.toNat TJob.z).Epoch) = ((d.Jobs.getD a.toNat TJob.z).Epoch) then (if ((b.Jobs.getD a.toNat TJob.z).Until) = ((d.Jobs.getD a.toNat TJob.z).Until) then ((juratref01_Same.f k ((b.Jobs.getD a.toNat TJob.z).Payload) ((d.Jobs.getD a.toNat TJob.z).Payload)).bind fun g => if g = true then ((juratref01_Same.f k ((b.Jobs.getD a.toNat TJob.z).Value) ((d.Jobs.getD a.toNat TJob.z).Value)).bind fun h => if h = true then ((juratref18_Same.f k ((b.Jobs.getD a.toNat TJob.z).Workers) ((d.Jobs.getD a.toNat TJob.z).Workers)).bind fun i => if i = true then ((juratref18_Same.f k ((b.Jobs.getD a.toNat TJob.z).Indexes) ((d.Jobs.getD a.toNat TJob.z).Indexes)).bind fun j => if j = true then ((juratref19_Same.f k ((b.Jobs.getD a.toNat TJob.z).Votes) ((d.Jobs.getD a.toNat TJob.z).Votes)).bind fun l => some (!l)) else (some (true))) else (some (true))) else (some (true))) else (some (true))) else (some (true))) else (some (true))) else (some (true))) else (some (true))).bind fun e => if e = true then (some (Sum.inr false)) else (juratref21_Same.l3 k b d (wi64 (a + 1)))) else none) else none) else (some (Sum.inl ()))
def juratref21_Same.f (k : Nat) (a : TState) (b : TState) : Option Bool := (if a.Heads = b.Heads then ((juratref18_Same.f k a.Used b.Used).bind fun h => if h = true then (if (a.Barred.length : Int) = (b.Barred.length : Int) then (if (a.Eras.length : Int) = (b.Eras.length : Int) then (some (!decide ((a.Jobs.length : Int) = (b.Jobs.length : Int)))) else (some (true))) else (some (true))) else (some (true))) else (some (true))).bind fun g => if g = true then (some false) else ((juratref21_Same.l1 k a b 0).bind fun d => sumE d (fun _ => (juratref21_Same.l2 k a b 0).bind fun d => sumE d (fun _ => (juratref21_Same.l3 k a b 0).bind fun d => sumE d (fun _ => some true) (fun e => some e)) (fun e => some e)) (fun e => some e))
theorem juratref21_Same.calls (k w F dS di el dT dj cW aO aG bp bt bb cX) (y : TState) (bu bc cY bv bd cZ aZ aH bq bw be c1) (B : TState) (hp : Pre w F []) (fi : el = y.Eras.length) (fg : y.Eras.length ≤ di) (fh : di ≤ maxLen) (es : Sl TEra.K F F dS y.Eras) (fb : cW = y.Jobs.length) (e1 : y.Jobs.length ≤ dj) (e6 : dj ≤ maxLen) (d0 : Sl TJob.K F F dT y.Jobs) (ec : bp = y.Used.length) (d8 : y.Used.length ≤ aG) (ea : aG ≤ maxLen) (d1 : Sl (Kd.int .i64) F F aO y.Used) (fc : cX = y.Barred.length) (e2 : y.Barred.length ≤ bb) (e7 : bb ≤ maxLen) (d2 : Sl Kd.bool F F bt y.Barred) (fd : cY = B.Eras.length) (e3 : B.Eras.length ≤ bc) (e8 : bc ≤ maxLen) (d3 : Sl TEra.K F F bu B.Eras) (fe : cZ = B.Jobs.length) (e4 : B.Jobs.length ≤ bd) (e9 : bd ≤ maxLen) (d4 : Sl TJob.K F F bv B.Jobs) (ed : bq = B.Used.length) (d9 : B.Used.length ≤ aH) (eb : aH ≤ maxLen) (d5 : Sl (Kd.int .i64) F F aZ B.Used) (ff : c1 = B.Barred.length) (e5 : B.Barred.length ≤ be) (fa : be ≤ maxLen) (d6 : Sl Kd.bool F F bw B.Barred) (dR : Bool) (H : juratref21_Same.f k y B = some dR) :
    Calls Try.prog 11 #[.agg (List.toArray (TState.q y dS el di dT cW dj aO bp aG bt cX bb)), .agg (List.toArray (TState.q B bu cY bc bv cZ bd aZ bq aH bw c1 be))] w fun e w' => e = .returned (.bool dR) ∧ Ctx w F (domL []) w' F [] := by
 have C := Ctx.start hp
 generalize hD : domL [] = D at C ⊢
 unfold juratref21_Same.f at H
 refine Calls.ofW Try.func11 rfl (by simp [Try.ntmps11]) <| W.sr rfl ?_
 let T : List Go.Value := TState.q y dS el di dT cW dj aO bp aG bt cX bb
 obtain ⟨s, fj, eh, em⟩ := ev_box (P := Try.prog) 32 (.agg (List.toArray T)) T C rfl
 refine WL.val (eh _ _ _ rfl) ?_
 let U : List Go.Value := TState.q B bu cY bc bv cZ bd aZ bq aH bw c1 be
 obtain ⟨x, fk, ei, ah⟩ := ev_box (P := Try.prog) 32 (.agg (List.toArray U)) U em rfl
 refine WL.val (ei _ _ _ rfl) <| WL.rd to 1 rfl <| W.seq <| W.sr rfl <| WL.run to 1 rfl <| WL.lv ah 1 4 rfl rfl Try.underlying3 rfl rfl <| WL.run to 1 rfl <| WL.lv ah 0 4 rfl rfl Try.underlying3 rfl rfl <| WL.run to 2 rfl ?_
 obtain ⟨er, r, H⟩ := bindE H
 refine WL.cut (fun b A => b 49 = .bool er ∧ b 2 = .pointer (some ⟨s, 0, none⟩) ∧ b 3 = .pointer (some ⟨x, 0, none⟩) ∧ Ctx w F D A F [CH.row x 0 U, CH.row s 0 T]) ?_ ?_
 ·rcases iteE r with ⟨aJ, r⟩ | ⟨aJ, r⟩
  ·refine WL.kn 15 (congrArg Value.bool (ndec_t aJ)) <| WL.run to 1 rfl <| WL.lvG ah 1 2 rfl rfl rfl rfl Try.underlying29 rfl rfl <| WL.run to 1 rfl <| WL.lvG ah 0 2 rfl rfl rfl rfl Try.underlying29 rfl rfl <| WL.on rfl rfl ?_
   obtain ⟨eC, d7, r⟩ := bindE r
   refine WL.cq ah (juratref18_Same.calls k _ F aO aG bp y.Used aZ aH bq B.Used ah.pre0 ec d8 ea d1 ed d9 eb d5 eC d7) (ne.fr rfl rfl) fun A X => ?_
   refine WL.run to 3 rfl ?_
   rcases iteE r with ⟨aK, r⟩ | ⟨aK, r⟩
   ·refine WL.kn 23 (congrArg Value.bool (nb_t aK)) <| WL.run to 1 rfl <| WL.lvG X 1 3 rfl rfl rfl rfl Try.underlying30 rfl rfl <| WL.lnG (y.Barred.length : Int) rfl rfl rfl Try.underlying30 (by omega) <| WL.run to 1 rfl <| WL.lvG X 0 3 rfl rfl rfl rfl Try.underlying30 rfl rfl <| WL.lnG (B.Barred.length : Int) rfl rfl rfl Try.underlying30 (by omega) <| WL.run to 3 rfl ?_
    rcases iteE r with ⟨aL, r⟩ | ⟨aL, r⟩
    ·refine WL.kn 32 (congrArg Value.bool (ndec_t aL)) <| WL.run to 1 rfl <| WL.lvG X 1 0 rfl rfl rfl rfl Try.underlying27 rfl rfl <| WL.lnG (y.Eras.length : Int) rfl rfl rfl Try.underlying27 (by omega) <| WL.run to 1 rfl <| WL.lvG X 0 0 rfl rfl rfl rfl Try.underlying27 rfl rfl <| WL.lnG (B.Eras.length : Int) rfl rfl rfl Try.underlying27 (by omega) <| WL.run to 3 rfl ?_
     rcases iteE r with ⟨aM, r⟩ | ⟨aM, r⟩
     ·refine WL.kn 41 (congrArg Value.bool (ndec_t aM)) <| WL.run to 1 rfl <| WL.lvG X 1 1 rfl rfl rfl rfl Try.underlying28 rfl rfl <| WL.lnG (y.Jobs.length : Int) rfl rfl rfl Try.underlying28 (by omega) <| WL.run to 1 rfl <| WL.lvG X 0 1 rfl rfl rfl rfl Try.underlying28 rfl rfl <| WL.lnG (B.Jobs.length : Int) rfl rfl rfl Try.underlying28 (by omega) <| WL.run to 2 rfl ?_
      cases r
      exact WL.done ⟨rfl, rfl, rfl, X⟩
     refine WL.kn 41 (congrArg Value.bool (ndec_f aM)) <| WL.offs 7 41 false rfl rfl <| WL.run to 1 rfl ?_
     cases r
     exact WL.done ⟨rfl, rfl, rfl, X⟩
    refine WL.kn 32 (congrArg Value.bool (ndec_f aL)) <| WL.offs 7 32 false rfl rfl <| WL.run to 2 rfl <| WL.offs 7 41 false rfl rfl <| WL.run to 1 rfl ?_
    cases r
    exact WL.done ⟨rfl, rfl, rfl, X⟩
   refine WL.kn 23 (congrArg Value.bool (nb_f aK)) <| WL.offs 7 23 false rfl rfl <| WL.run to 2 rfl <| WL.offs 7 32 false rfl rfl <| WL.run to 2 rfl <| WL.offs 7 41 false rfl rfl <| WL.run to 1 rfl ?_
   cases r
   exact WL.done ⟨rfl, rfl, rfl, X⟩
  refine WL.kn 15 (congrArg Value.bool (ndec_f aJ)) <| WL.offs 6 15 false rfl rfl <| WL.run to 2 rfl <| WL.offs 7 23 false rfl rfl <| WL.run to 2 rfl <| WL.offs 7 32 false rfl rfl <| WL.run to 2 rfl <| WL.offs 7 41 false rfl rfl <| WL.run to 1 rfl ?_
  cases r
  exact WL.done ⟨rfl, rfl, rfl, ah⟩
 ·rintro b A ⟨ee, ef, eg, dQ⟩
  apply kn b (.c ee (.c ef (.c eg .n)))
  rcases iteE H with ⟨aN, H⟩ | ⟨aN, H⟩
  ·refine W.condT (congrArg Value.bool aN) <| W.sr rfl <| WL.rd to 1 rfl <| W.ret <| thenE_r ?_
   have en : Cx [] := dQ.pick [] rfl
   have eq := Option.some.inj H
   subst eq
   exact post_r (resE1 rfl rfl) ⟨rfl, en⟩
  refine W.condF (congrArg Value.bool (Bool.eq_false_iff.2 aN)) <| W.skip <| W.seq <| W.sr rfl <| WL.rd to 1 rfl ?_
  obtain ⟨c2, l, H⟩ := bindE H
  refine W.cutM (fun b A => Kn b [(2, .pointer (some ⟨s, 0, none⟩)), (3, .pointer (some ⟨x, 0, none⟩))] ∧ Ctx w F D A F [CH.row x 0 U, CH.row s 0 T] ∧ c2 = Sum.inl ()) ?_ ?_
  ·refine W.block <| W.loop (fun ai b A => ∃ (Q : Int), Kn b [(2, .pointer (some ⟨s, 0, none⟩)), (3, .pointer (some ⟨x, 0, none⟩)), (5, iv Q)] ∧ Ctx w F D A F [CH.row x 0 U, CH.row s 0 T] ∧ juratref21_Same.l1 ai y B Q = some c2) k ⟨0, rfl, dQ, l⟩ ?_
   clear l
   rintro ai b A ⟨Q, dy, Y, l⟩
   rcases ai with _ | ej
   · exact absurd l (by simp [juratref21_Same.l1])
   rw [juratref21_Same.l1] at l
   apply ks b dy
   refine W.seq <| W.sr rfl <| WL.run to 2 rfl <| WL.lv Y 1 3 rfl rfl Try.underlying30 rfl rfl <| WL.ln (y.Barred.length : Int) rfl Try.underlying30 (by omega) <| WL.rd to 1 rfl ?_
   rcases iteE l with ⟨aC, l⟩ | ⟨aC, l⟩
   ·refine W.cT aC rfl <| W.skip <| W.seq <| W.block <| W.seq <| W.region_quiet (by kernel_rfl) (by kernel_rfl) rfl ?_
    refine WQ.run to 1 rfl <| WQ.lv Y 1 3 rfl rfl Try.underlying30 rfl rfl <| WQ.run to 1 rfl ?_
    obtain ⟨eJ, l⟩ := guardE l
    obtain ⟨eX, eP, dp, dt⟩ := d2 (by omega)
    refine WQ.vl (fun _ => Yl.elemAddr (i := Q) rfl rfl dp Try.underlying30 sz4 (by omega)) ?_
    obtain ⟨eF, dB, dF⟩ := dt Q.toNat _ (getD_some (d := false) (by omega))
    obtain rfl := dB
    refine WQ.vl (fun _ => Yl.load (v := .bool (y.Barred.getD Q.toNat false)) rfl Try.underlying4 rfl ((((Y.drewN _).fro)).cell (dF 0 _ rfl))) ?_
    refine WQ.run to 1 rfl <| WQ.lv Y 0 3 rfl rfl Try.underlying30 rfl rfl <| WQ.run to 1 rfl ?_
    obtain ⟨eK, l⟩ := guardE l
    obtain ⟨eY, eQ, dq, du⟩ := d6 (by omega)
    refine WQ.vl (fun _ => Yl.elemAddr (i := Q) rfl rfl dq Try.underlying30 sz4 (by omega)) ?_
    obtain ⟨eG, dC, dG⟩ := du Q.toNat _ (getD_some (d := false) (by omega))
    obtain rfl := dC
    refine WQ.vl (fun _ => Yl.load (v := .bool (B.Barred.getD Q.toNat false)) rfl Try.underlying4 rfl ((((Y.drewN _).fro)).cell (dG 0 _ rfl))) ?_
    refine WQ.vl (fun _ => Yl.bneD (p := y.Barred.getD Q.toNat false) (q := B.Barred.getD Q.toNat false) rfl rfl Try.underlying4) ?_
    refine WQ.done (fun dJ => ?_)
    have bx := Ctx.drewN Y dJ
    rcases iteE l with ⟨aD, l⟩ | ⟨aD, l⟩
    ·refine W.nF aD rfl <| W.skip <| inB_n <| W.region rfl ?_
     exact WL.rd to 3 rfl <| thenE_n ⟨ej, Nat.lt_succ_self _, wi64 (Q + 1), rfl, bx, l⟩
    refine W.nT aD rfl <| W.sr rfl <| WL.rd to 1 rfl <| W.ret ?_
    iterate 6 first | refine inB_r ?_ | refine thenE_r ?_
    cases l
    replace H := sumE_r H
    have dV : Cx [] := bx.pick [] rfl
    have dY := Option.some.inj H
    subst dY
    exact post_r (resE1 rfl rfl) ⟨rfl, dV⟩
   refine W.cF aC rfl <| W.exit <| thenE_x <| thenE_x <| inB_here ?_
   cases l
   refine thenE_n ?_
   exact ⟨rfl, Y, rfl⟩
  ·rintro b A ⟨dx, dU, rfl⟩
   replace H := sumE_l H
   apply ks b dx
   refine W.seq <| W.sr rfl <| WL.rd to 1 rfl ?_
   obtain ⟨c3, m, H⟩ := bindE H
   refine W.cutM (fun b A => Kn b [(2, .pointer (some ⟨s, 0, none⟩)), (3, .pointer (some ⟨x, 0, none⟩))] ∧ Ctx w F D A F [CH.row x 0 U, CH.row s 0 T] ∧ c3 = Sum.inl ()) ?_ ?_
   ·refine W.block <| W.loop (fun ai b A => ∃ (J : Int), Kn b [(2, .pointer (some ⟨s, 0, none⟩)), (3, .pointer (some ⟨x, 0, none⟩)), (6, iv J)] ∧ Ctx w F D A F [CH.row x 0 U, CH.row s 0 T] ∧ juratref21_Same.l2 ai y B J = some c3) k ⟨0, rfl, dU, m⟩ ?_
    clear m
    rintro ai b A ⟨J, dA, Z, m⟩
    rcases ai with _ | ek
    · exact absurd m (by simp [juratref21_Same.l2])
    rw [juratref21_Same.l2] at m
    apply ks b dA
    refine W.seq <| W.sr rfl <| WL.run to 2 rfl <| WL.lv Z 1 0 rfl rfl Try.underlying27 rfl rfl <| WL.ln (y.Eras.length : Int) rfl Try.underlying27 (by omega) <| WL.rd to 1 rfl ?_
    rcases iteE m with ⟨aE, m⟩ | ⟨aE, m⟩
    ·refine W.cT aE rfl <| W.skip <| W.seq <| W.block <| W.seq <| W.region_quiet (by kernel_rfl) (by kernel_rfl) rfl ?_
     refine WQ.run to 1 rfl <| WQ.lv Z 1 0 rfl rfl Try.underlying27 rfl rfl <| WQ.run to 1 rfl ?_
     obtain ⟨eL, m⟩ := guardE m
     obtain ⟨eZ, eR, dr, dv⟩ := es (by omega)
     refine WQ.vl (fun _ => Yl.elemAddr (i := J) rfl rfl dr Try.underlying27 sz65 (by omega)) ?_
     obtain ⟨eH, dD, dH⟩ := dv J.toNat _ (getD_some (d := TEra.z) (by omega))
     obtain ⟨rfl, aA⟩ := TEra.open dD
     let eA : List Go.Value := [iv ((y.Eras.getD J.toNat TEra.z).Epoch)] ++ (((y.Eras.getD J.toNat TEra.z).Nonce).map (Value.int .u8))
     refine WQ.vl (fun _ => Yl.loadAgg (cs := eA) rfl Try.underlying65 rfl (sz_of sz65 (len_app rfl (len_map aA))) (fun j u hu => by rw [add_of]; exact (((Z.drewN _).fro)).cell (dH _ _ hu))) ?_
     refine WQ.run to 1 rfl <| WQ.lv Z 0 0 rfl rfl Try.underlying27 rfl rfl <| WQ.run to 1 rfl ?_
     obtain ⟨eM, m⟩ := guardE m
     obtain ⟨e0, eS, ds, dw⟩ := d3 (by omega)
     refine WQ.vl (fun _ => Yl.elemAddr (i := J) rfl rfl ds Try.underlying27 sz65 (by omega)) ?_
     obtain ⟨eI, dE, dI⟩ := dw J.toNat _ (getD_some (d := TEra.z) (by omega))
     obtain ⟨rfl, aB⟩ := TEra.open dE
     let eB : List Go.Value := [iv ((B.Eras.getD J.toNat TEra.z).Epoch)] ++ (((B.Eras.getD J.toNat TEra.z).Nonce).map (Value.int .u8))
     refine WQ.vl (fun _ => Yl.loadAgg (cs := eB) rfl Try.underlying65 rfl (sz_of sz65 (len_app rfl (len_map aB))) (fun j u hu => by rw [add_of]; exact (((Z.drewN _).fro)).cell (dI _ _ hu))) ?_
     refine WQ.vl (fun _ => Yl.aneq (n := 3) (xs := eA) (ys := eB) rfl rfl eg65 (EqV.struct (n := 2) Try.underlying65 sh65 (EqFs.cons (by decide) (PartE.one (v := iv ((y.Eras.getD J.toNat TEra.z).Epoch)) Try.underlying3 rfl rfl) (PartE.one (v := iv ((B.Eras.getD J.toNat TEra.z).Epoch)) Try.underlying3 rfl rfl) (EqV.le (EqV.int Try.underlying3) (by decide)) (EqFs.one (by decide) (PartE.agg Try.underlying43 rfl (sz_of sz43 (len_map aA)) (mid_skip 1 0 rfl (mid_all rfl))) (PartE.agg Try.underlying43 rfl (sz_of sz43 (len_map aB)) (mid_skip 1 0 rfl (mid_all rfl))) (EqV.arrI Try.underlying43 Try.underlying5 sz5 aA aB)))) (by decide) rfl) ?_
     refine WQ.done (fun dK => ?_)
     have bz := Ctx.drewN Z dK
     rcases iteE m with ⟨aF, m⟩ | ⟨aF, m⟩
     ·refine W.nF aF rfl <| W.skip <| inB_n <| W.region rfl ?_
      exact WL.rd to 3 rfl <| thenE_n ⟨ek, Nat.lt_succ_self _, wi64 (J + 1), rfl, bz, m⟩
     refine W.nT aF rfl <| W.sr rfl <| WL.rd to 1 rfl <| W.ret ?_
     iterate 6 first | refine inB_r ?_ | refine thenE_r ?_
     cases m
     replace H := sumE_r H
     have dX : Cx [] := bz.pick [] rfl
     have dZ := Option.some.inj H
     subst dZ
     exact post_r (resE1 rfl rfl) ⟨rfl, dX⟩
    refine W.cF aE rfl <| W.exit <| thenE_x <| thenE_x <| inB_here ?_
    cases m
    refine thenE_n ?_
    exact ⟨rfl, Z, rfl⟩
   ·rintro b A ⟨dz, dW, rfl⟩
    replace H := sumE_l H
    apply ks b dz
    refine W.seq <| W.sr rfl <| WL.rd to 1 rfl ?_
    obtain ⟨br, g, H⟩ := bindE H
    refine W.cutM (fun b A => Ctx w F D A F [CH.row x 0 U, CH.row s 0 T] ∧ br = Sum.inl ()) ?_ ?_
    ·refine W.block <| W.loop (fun ai b A => ∃ (h : Int), Kn b [(2, .pointer (some ⟨s, 0, none⟩)), (3, .pointer (some ⟨x, 0, none⟩)), (7, iv h)] ∧ Ctx w F D A F [CH.row x 0 U, CH.row s 0 T] ∧ juratref21_Same.l3 ai y B h = some br) k ⟨0, rfl, dW, g⟩ ?_
     clear g
     rintro ai b A ⟨h, cv, aw, g⟩
     rcases ai with _ | V
     · exact absurd g (by simp [juratref21_Same.l3])
     rw [juratref21_Same.l3] at g
     apply ks b cv
     refine W.seq <| W.sr rfl <| WL.run to 2 rfl <| WL.lv aw 1 1 rfl rfl Try.underlying28 rfl rfl <| WL.ln (y.Jobs.length : Int) rfl Try.underlying28 (by omega) <| WL.rd to 1 rfl ?_
     rcases iteE g with ⟨aj, g⟩ | ⟨aj, g⟩
     ·refine W.cT aj rfl <| W.skip <| W.seq <| W.block <| W.seq <| W.regionA [([12, 13], CH.row s 0 T), ([13], F), ([13], CH.row x 0 U)] (by kernel_rfl) ?_
      have ae := Ctx.drewN aw 1
      refine WA.takes [(0, none), (1, some 0), (2, none), (3, none), (4, some 1), (5, none), (6, some 2), (7, none), (8, none), (9, some 1)] ⟨(Ctx.subI 1 ae rfl), (ae.fro), (Ctx.subI 0 ae rfl), trivial⟩ (by kernel_rfl) <| WT.run to 1 rfl <| WT.lv 1 rfl rfl rfl Try.underlying28 rfl rfl <| WT.run to 1 rfl ?_
      obtain ⟨ew, g⟩ := guardE g
      obtain ⟨eD, ey, bA, bR⟩ := d0 (by omega)
      refine WT.val rfl (fun _ hC_ => Yl.elemAddr (i := h) rfl rfl bA Try.underlying28 sz55 (by omega)) ?_
      obtain ⟨eo, cN, cP⟩ := bR h.toNat _ (getD_some (d := TJob.z) (by omega))
      obtain ⟨aP, a1, bf, aQ, a2, bg, aR, a3, bh, aS, a4, bi, aT, a5, bj, rfl, cj, bZ, b9, bC, ck, b0, ca, bD, cl, b1, cb, bE, cm, b2, cc, bG, cn, b3, cd, bH⟩ := TJob.open cN
      let aI : List Go.Value := (TJob.q (y.Jobs.getD h.toNat TJob.z) aP bf a1 aQ bg a2 aR bh a3 aS bi a4 aT bj a5)
      refine WT.val rfl (fun _ hC_ => Yl.loadAgg (cs := aI) rfl Try.underlying55 rfl sz55 (fun j u hu => by rw [add_of]; exact ((Sub.mono (show Sub F _ from hC_) (CH.le_refl _))).cell (cP _ _ hu))) ?_
      refine WT.run to 1 rfl <| WT.lv 1 rfl rfl rfl Try.underlying28 rfl rfl <| WT.run to 1 rfl ?_
      obtain ⟨ex, g⟩ := guardE g
      obtain ⟨eE, ez, bB, bS⟩ := d4 (by omega)
      refine WT.val rfl (fun _ hC_ => Yl.elemAddr (i := h) rfl rfl bB Try.underlying28 sz55 (by omega)) ?_
      obtain ⟨ep, cO, cQ⟩ := bS h.toNat _ (getD_some (d := TJob.z) (by omega))
      obtain ⟨aU, a6, bk, aV, a7, bl, aW, a8, bm, aX, a9, bn, aY, ba, bo, rfl, co, b4, ce, bI, cp, b5, cf, bJ, cr, b6, cg, bK, ct, b7, ch, bL, cu, b8, ci, bM⟩ := TJob.open cO
      let bs : List Go.Value := (TJob.q (B.Jobs.getD h.toNat TJob.z) aU bk a6 aV bl a7 aW bm a8 aX bn a9 aY bo ba)
      refine WT.val rfl (fun _ hC_ => Yl.loadAgg (cs := bs) rfl Try.underlying55 rfl sz55 (fun j u hu => by rw [add_of]; exact ((Sub.mono (show Sub F _ from hC_) (CH.le_refl _))).cell (cQ _ _ hu))) ?_
      refine WT.done ?_
      let av : List Go.Value := [.slice none 0 0, iv 0, iv 0, iv 0, iv 0, .slice none 0 0, .slice none 0 0, .slice none 0 0, .slice none 0 0]
      refine WA.par (fun L_ b A => ∃ N R O S, Ctx w F D A F [R, S, CH.row x 0 U, CH.row s 0 T] ∧ b 2 = .pointer (some ⟨s, 0, none⟩) ∧ b 3 = .pointer (some ⟨x, 0, none⟩) ∧ b 7 = iv h ∧ b 97 = .agg (List.toArray aI) ∧ b 102 = .agg (List.toArray bs) ∧ cond (L_ 10) (b 8 = .pointer (some ⟨N, 0, none⟩) ∧ R = CH.row N 0 av) (True) ∧ cond (L_ 11) (b 9 = .pointer (some ⟨O, 0, none⟩) ∧ S = CH.row O 0 av) (True)) [(10, [], []), (11, [], [])] [0, 1, 2, 3, 4, 5, 6, 7, 8, 9] [0, 1, 2, 3, 4, 5, 6, 7, 8, 9, 10, 11] #[true, true, true, true, true, true, true, true, true, true, true, true, false, false] 2 2 (by kernel_rfl) ?_ (.cons ?_ (.cons ?_ .nil)) ?_
      ·have c5 := Ctx.emp ae
       have c6 := Ctx.emp c5
       exact ⟨0, CH.emp, 0, CH.emp, c6, rfl, rfl, rfl, rfl, rfl, (iF rfl trivial), (iF rfl trivial)⟩
      ·intro L_ b A hk_ hI_
       obtain ⟨eN, _⟩ := hk_
       obtain ⟨N, R, O, S, c7, cw, cx, cy, cz, cA, et, bN⟩ := hI_
       obtain ⟨ay, eT, cR, af⟩ := ev_alloc (P := Try.prog) (e := 55) av c7 zr55 rfl
       refine UpI.val rfl rfl (cR _ _) ⟨(Ctx.subI 4 af rfl), (af.fro), (Ctx.subI 3 af rfl), trivial⟩ ?_
       have c8 : Cx [CH.row ay 0 av, S, CH.row x 0 U, CH.row s 0 T] := af.pick [0, 2, 3, 4] rfl
       exact ⟨ay, (CH.row ay 0 av), O, S, c8, cw, cx, cy, cz, cA, (iT rfl ⟨rfl, rfl⟩), bN⟩
      ·intro L_ b A hk_ hI_
       obtain ⟨eO, _⟩ := hk_
       obtain ⟨N, R, O, S, c9, cB, cC, cD, cE, cG, bO, eu⟩ := hI_
       obtain ⟨az, eU, cS, ag⟩ := ev_alloc (P := Try.prog) (e := 55) av c9 zr55 rfl
       refine UpI.val rfl rfl (cS _ _) ⟨(Ctx.subI 4 ag rfl), (ag.fro), (Ctx.subI 3 ag rfl), trivial⟩ ?_
       have da : Cx [R, CH.row az 0 av, CH.row x 0 U, CH.row s 0 T] := ag.pick [1, 0, 3, 4] rfl
       exact ⟨N, R, az, (CH.row az 0 av), da, cB, cC, cD, cE, cG, bO, (iT rfl ⟨rfl, rfl⟩)⟩
      ·rintro b A ⟨N, R, O, S, db, E, G, I, cH, cI, bP, bQ⟩
       obtain ⟨L, rfl⟩ := cT rfl bP
       obtain ⟨M, rfl⟩ := cT rfl bQ
       obtain ⟨eV, cU, dc⟩ := ev_setI (P := Try.prog) (ps1 := []) (ps2 := [CH.row O 0 av, CH.row x 0 U, CH.row s 0 T]) (t := 55) 0 aI (.agg (List.toArray aI)) db rfl rfl (ones_of rfl) sz55
       have ax : Cx [CH.row N 0 aI, CH.row O 0 av, CH.row x 0 U, CH.row s 0 T] := dc
       refine WA.up1 12 (by kernel_rfl) (Up.skip rfl rfl (cU _ _ _ _ L cH) ⟨trivial, (ax.fro), (Ctx.subI 2 ax rfl), trivial⟩ ?_)
       obtain ⟨eW, cV, dd⟩ := ev_setI (P := Try.prog) (ps1 := [CH.row N 0 aI]) (ps2 := [CH.row x 0 U, CH.row s 0 T]) (t := 55) 0 bs (.agg (List.toArray bs)) ax rfl rfl (ones_of rfl) sz55
       have o : Cx [CH.row N 0 aI, CH.row O 0 bs, CH.row x 0 U, CH.row s 0 T] := dd
       refine WA.up1 13 (by kernel_rfl) (Up.skip rfl rfl (cV _ _ _ _ M cI) ⟨trivial, trivial, trivial, trivial⟩ ?_)
       refine WA.done (by kernel_rfl) <| W.sr rfl <| WL.val (Yl.fieldAddr (i := 1) L Try.underlying55 rfl sz3) <| WL.lv o 0 1 rfl rfl Try.underlying3 rfl rfl <| WL.val (Yl.fieldAddr (i := 1) M Try.underlying55 rfl sz3) <| WL.lv o 1 1 rfl rfl Try.underlying3 rfl rfl <| WL.run to 2 rfl ?_
       obtain ⟨dm, a, g⟩ := bindE g
       refine WL.cut (fun b A => b 168 = .bool dm ∧ b 2 = .pointer (some ⟨s, 0, none⟩) ∧ b 3 = .pointer (some ⟨x, 0, none⟩) ∧ b 7 = iv h ∧ Ctx w F D A F [CH.row N 0 aI, CH.row O 0 bs, CH.row x 0 U, CH.row s 0 T]) ?_ ?_
       ·rcases iteE a with ⟨ak, a⟩ | ⟨ak, a⟩
        ·refine WL.kn 108 (congrArg Value.bool (ndec_t ak)) <| WL.valOn rfl rfl (Yl.fieldAddr (i := 2) L Try.underlying55 rfl sz3) <| WL.lvG o 0 2 rfl rfl rfl rfl Try.underlying3 rfl rfl <| WL.valOn rfl rfl (Yl.fieldAddr (i := 2) M Try.underlying55 rfl sz3) <| WL.lvG o 1 2 rfl rfl rfl rfl Try.underlying3 rfl rfl <| WL.run to 3 rfl ?_
         rcases iteE a with ⟨al, a⟩ | ⟨al, a⟩
         ·refine WL.kn 115 (congrArg Value.bool (ndec_t al)) <| WL.valOn rfl rfl (Yl.fieldAddr (i := 3) L Try.underlying55 rfl sz3) <| WL.lvG o 0 3 rfl rfl rfl rfl Try.underlying3 rfl rfl <| WL.valOn rfl rfl (Yl.fieldAddr (i := 3) M Try.underlying55 rfl sz3) <| WL.lvG o 1 3 rfl rfl rfl rfl Try.underlying3 rfl rfl <| WL.run to 3 rfl ?_
          rcases iteE a with ⟨am, a⟩ | ⟨am, a⟩
          ·refine WL.kn 122 (congrArg Value.bool (ndec_t am)) <| WL.valOn rfl rfl (Yl.fieldAddr (i := 4) L Try.underlying55 rfl sz3) <| WL.lvG o 0 4 rfl rfl rfl rfl Try.underlying3 rfl rfl <| WL.valOn rfl rfl (Yl.fieldAddr (i := 4) M Try.underlying55 rfl sz3) <| WL.lvG o 1 4 rfl rfl rfl rfl Try.underlying3 rfl rfl <| WL.run to 3 rfl ?_
           rcases iteE a with ⟨an, a⟩ | ⟨an, a⟩
           ·refine WL.kn 129 (congrArg Value.bool (ndec_t an)) <| WL.valOn rfl rfl (Yl.fieldAddr (i := 0) L Try.underlying55 rfl sz44) <| WL.lvG o 0 0 rfl rfl rfl rfl Try.underlying44 rfl rfl <| WL.valOn rfl rfl (Yl.fieldAddr (i := 0) M Try.underlying55 rfl sz44) <| WL.lvG o 1 0 rfl rfl rfl rfl Try.underlying44 rfl rfl <| WL.on rfl rfl ?_
            obtain ⟨dL, bU, a⟩ := bindE a
            refine WL.cq o (juratref01_Same.calls V _ F aP a1 bf ((y.Jobs.getD h.toNat TJob.z).Payload) aU a6 bk ((B.Jobs.getD h.toNat TJob.z).Payload) o.pre0 cj bZ b9 bC co b4 ce bI dL bU) (ne.fr rfl rfl) fun A aa => ?_
            refine WL.run to 3 rfl ?_
            rcases iteE a with ⟨ao, a⟩ | ⟨ao, a⟩
            ·refine WL.kn 137 (congrArg Value.bool (nb_t ao)) <| WL.valOn rfl rfl (Yl.fieldAddr (i := 8) L Try.underlying55 rfl sz44) <| WL.lvG aa 0 8 rfl rfl rfl rfl Try.underlying44 rfl rfl <| WL.valOn rfl rfl (Yl.fieldAddr (i := 8) M Try.underlying55 rfl sz44) <| WL.lvG aa 1 8 rfl rfl rfl rfl Try.underlying44 rfl rfl <| WL.on rfl rfl ?_
             obtain ⟨dM, bV, a⟩ := bindE a
             refine WL.cq aa (juratref01_Same.calls V _ F aT a5 bj ((y.Jobs.getD h.toNat TJob.z).Value) aY ba bo ((B.Jobs.getD h.toNat TJob.z).Value) aa.pre0 cn b3 cd bH cu b8 ci bM dM bV) (ne.fr rfl rfl) fun A ab => ?_
             refine WL.run to 3 rfl ?_
             rcases iteE a with ⟨ap, a⟩ | ⟨ap, a⟩
             ·refine WL.kn 145 (congrArg Value.bool (nb_t ap)) <| WL.valOn rfl rfl (Yl.fieldAddr (i := 5) L Try.underlying55 rfl sz29) <| WL.lvG ab 0 5 rfl rfl rfl rfl Try.underlying29 rfl rfl <| WL.valOn rfl rfl (Yl.fieldAddr (i := 5) M Try.underlying55 rfl sz29) <| WL.lvG ab 1 5 rfl rfl rfl rfl Try.underlying29 rfl rfl <| WL.on rfl rfl ?_
              obtain ⟨dN, bW, a⟩ := bindE a
              refine WL.cq ab (juratref18_Same.calls V _ F aQ a2 bg ((y.Jobs.getD h.toNat TJob.z).Workers) aV a7 bl ((B.Jobs.getD h.toNat TJob.z).Workers) ab.pre0 ck b0 ca bD cp b5 cf bJ dN bW) (ne.fr rfl rfl) fun A ac => ?_
              refine WL.run to 3 rfl ?_
              rcases iteE a with ⟨aq, a⟩ | ⟨aq, a⟩
              ·refine WL.kn 153 (congrArg Value.bool (nb_t aq)) <| WL.valOn rfl rfl (Yl.fieldAddr (i := 6) L Try.underlying55 rfl sz29) <| WL.lvG ac 0 6 rfl rfl rfl rfl Try.underlying29 rfl rfl <| WL.valOn rfl rfl (Yl.fieldAddr (i := 6) M Try.underlying55 rfl sz29) <| WL.lvG ac 1 6 rfl rfl rfl rfl Try.underlying29 rfl rfl <| WL.on rfl rfl ?_
               obtain ⟨dO, bX, a⟩ := bindE a
               refine WL.cq ac (juratref18_Same.calls V _ F aR a3 bh ((y.Jobs.getD h.toNat TJob.z).Indexes) aW a8 bm ((B.Jobs.getD h.toNat TJob.z).Indexes) ac.pre0 cl b1 cb bE cr b6 cg bK dO bX) (ne.fr rfl rfl) fun A ad => ?_
               refine WL.run to 3 rfl ?_
               rcases iteE a with ⟨ar, a⟩ | ⟨ar, a⟩
               ·refine WL.kn 161 (congrArg Value.bool (nb_t ar)) <| WL.valOn rfl rfl (Yl.fieldAddr (i := 7) L Try.underlying55 rfl sz53) <| WL.lvG ad 0 7 rfl rfl rfl rfl Try.underlying53 rfl rfl <| WL.valOn rfl rfl (Yl.fieldAddr (i := 7) M Try.underlying55 rfl sz53) <| WL.lvG ad 1 7 rfl rfl rfl rfl Try.underlying53 rfl rfl <| WL.on rfl rfl ?_
                obtain ⟨dP, bY, a⟩ := bindE a
                refine WL.cq ad (juratref19_Same.calls V _ F aS a4 bi ((y.Jobs.getD h.toNat TJob.z).Votes) aX a9 bn ((B.Jobs.getD h.toNat TJob.z).Votes) ad.pre0 cm b2 cc bG ct b7 ch bL dP bY) (ne.fr rfl rfl) fun A de => ?_
                refine WL.run to 2 rfl ?_
                cases a
                exact WL.done ⟨rfl, E, G, I, de⟩
               refine WL.kn 161 (congrArg Value.bool (nb_f ar)) <| WL.offs 6 161 false rfl rfl <| WL.run to 1 rfl ?_
               cases a
               exact WL.done ⟨rfl, E, G, I, ad⟩
              refine WL.kn 153 (congrArg Value.bool (nb_f aq)) <| WL.offs 6 153 false rfl rfl <| WL.run to 2 rfl <| WL.offs 6 161 false rfl rfl <| WL.run to 1 rfl ?_
              cases a
              exact WL.done ⟨rfl, E, G, I, ac⟩
             refine WL.kn 145 (congrArg Value.bool (nb_f ap)) <| WL.offs 6 145 false rfl rfl <| WL.run to 2 rfl <| WL.offs 6 153 false rfl rfl <| WL.run to 2 rfl <| WL.offs 6 161 false rfl rfl <| WL.run to 1 rfl ?_
             cases a
             exact WL.done ⟨rfl, E, G, I, ab⟩
            refine WL.kn 137 (congrArg Value.bool (nb_f ao)) <| WL.offs 6 137 false rfl rfl <| WL.run to 2 rfl <| WL.offs 6 145 false rfl rfl <| WL.run to 2 rfl <| WL.offs 6 153 false rfl rfl <| WL.run to 2 rfl <| WL.offs 6 161 false rfl rfl <| WL.run to 1 rfl ?_
            cases a
            exact WL.done ⟨rfl, E, G, I, aa⟩
           refine WL.kn 129 (congrArg Value.bool (ndec_f an)) <| WL.offs 6 129 false rfl rfl <| WL.run to 2 rfl <| WL.offs 6 137 false rfl rfl <| WL.run to 2 rfl <| WL.offs 6 145 false rfl rfl <| WL.run to 2 rfl <| WL.offs 6 153 false rfl rfl <| WL.run to 2 rfl ?_
           refine WL.offs 6 161 false rfl rfl <| WL.run to 1 rfl ?_
           cases a
           exact WL.done ⟨rfl, E, G, I, o⟩
          refine WL.kn 122 (congrArg Value.bool (ndec_f am)) <| WL.offs 5 122 false rfl rfl <| WL.run to 2 rfl <| WL.offs 6 129 false rfl rfl <| WL.run to 2 rfl <| WL.offs 6 137 false rfl rfl <| WL.run to 2 rfl <| WL.offs 6 145 false rfl rfl <| WL.run to 2 rfl ?_
          refine WL.offs 6 153 false rfl rfl <| WL.run to 2 rfl <| WL.offs 6 161 false rfl rfl <| WL.run to 1 rfl ?_
          cases a
          exact WL.done ⟨rfl, E, G, I, o⟩
         refine WL.kn 115 (congrArg Value.bool (ndec_f al)) <| WL.offs 5 115 false rfl rfl <| WL.run to 2 rfl <| WL.offs 5 122 false rfl rfl <| WL.run to 2 rfl <| WL.offs 6 129 false rfl rfl <| WL.run to 2 rfl <| WL.offs 6 137 false rfl rfl <| WL.run to 2 rfl ?_
         refine WL.offs 6 145 false rfl rfl <| WL.run to 2 rfl <| WL.offs 6 153 false rfl rfl <| WL.run to 2 rfl <| WL.offs 6 161 false rfl rfl <| WL.run to 1 rfl ?_
         cases a
         exact WL.done ⟨rfl, E, G, I, o⟩
        refine WL.kn 108 (congrArg Value.bool (ndec_f ak)) <| WL.offs 5 108 false rfl rfl <| WL.run to 2 rfl <| WL.offs 5 115 false rfl rfl <| WL.run to 2 rfl <| WL.offs 5 122 false rfl rfl <| WL.run to 2 rfl <| WL.offs 6 129 false rfl rfl <| WL.run to 2 rfl ?_
        refine WL.offs 6 137 false rfl rfl <| WL.run to 2 rfl <| WL.offs 6 145 false rfl rfl <| WL.run to 2 rfl <| WL.offs 6 153 false rfl rfl <| WL.run to 2 rfl <| WL.offs 6 161 false rfl rfl <| WL.run to 1 rfl ?_
        cases a
        exact WL.done ⟨rfl, E, G, I, o⟩
       ·rintro b A ⟨cJ, cK, cL, cM, a0⟩
        apply kn b (.c cJ (.c cK (.c cL (.c cM .n))))
        rcases iteE g with ⟨au, g⟩ | ⟨au, g⟩
        ·refine W.condT (congrArg Value.bool au) <| W.sr rfl <| WL.rd to 1 rfl <| W.ret ?_
         iterate 6 first | refine inB_r ?_ | refine thenE_r ?_
         cases g
         replace H := sumE_r H
         have df : Cx [] := a0.pick [] rfl
         have dk := Option.some.inj H
         subst dk
         exact post_r (resE1 rfl rfl) ⟨rfl, df⟩
        refine W.condF (congrArg Value.bool (Bool.eq_false_iff.2 au)) <| W.skip <| inB_n <| W.region rfl ?_
        refine WL.rd to 3 rfl ?_
        have dg : Cx [CH.row x 0 U, CH.row s 0 T] := a0.pick [2, 3] rfl
        exact thenE_n ⟨V, Nat.lt_succ_self _, wi64 (h + 1), rfl, dg, g⟩
     refine W.cF aj rfl <| W.exit <| thenE_x <| thenE_x <| inB_here ?_
     cases g
     refine thenE_n ?_
     exact ⟨aw, rfl⟩
    ·rintro b A ⟨c4, rfl⟩
     replace H := sumE_l H
     refine W.sr rfl <| WL.rd to 1 rfl <| W.ret ?_
     have dh : Cx [] := c4.pick [] rfl
     have dl := Option.some.inj H
     subst dl
     exact post_r (resE1 rfl rfl) ⟨rfl, dh⟩
end Go.Proofs.Ytobdpbnadjkhiaa
