/- Functions of the program: each as a plain function of numbers and lists, and the proof that the program's own comes to it. Nothing is assumed but what each theorem says. -/
import Derived.Test.YtobdpbnadjkhiaaGreatTGt
import Derived.Test.YtobdpbnadjkhiaaGreatTGv
import Derived.Test.YtobdpbnadjkhiaaGreatTGs
namespace Go.Proofs.YtobdpbnadjkhiaaGreat
open Go.RowKit Go.WG
set_option linter.unusedVariables false
set_option linter.unusedSimpArgs false
def tally_own.f (k : Nat) (a0 : List Int) : Option (List Int) := if (a0.length + a0.length / 4 + 192) * 1 ≤ 281474976710656 then (some a0) else none
set_option maxRecDepth 100000 in
set_option maxHeartbeats 4000000 in
theorem tally_own.calls (k : Nat) (w : World) (F : CH) (A1 : Option Addr) (c2 : Nat) (n3 : Nat) (a0 : List Int) (hp : Pre w F []) (hn4 : n3 = a0.length) (hl5 : a0.length ≤ c2) (hm6 : c2 ≤ maxLen) (hS7 : Sl (Kd.int .u8) F F A1 a0) (r0_ : List Int) (H : tally_own.f k a0 = some r0_) :
    Calls Tryz.prog 94 #[.slice A1 n3 c2] w fun e w' => ∃ (A29 : Option Addr) (c30 : Nat) (n31 : Nat) (p33 : CH), e = .returned (.slice A29 n31 c30) ∧ Ctx w F (domL []) w' F [p33] ∧ n31 = r0_.length ∧ Row (Kd.int .u8) F p33 (.slice A29 n31 c30) r0_ := by
 have C := Ctx.start hp
 generalize hD : domL [] = D at C ⊢
 unfold tally_own.f at H
 refine Calls.ofW Tryz.func94 rfl (by simp [Tryz.ntmps94]) ?_
 refine W.seq ?_
 refine W.region rfl ?_
 refine WL.run to 1 rfl ?_
 refine WL.done ?_
 refine W.seq ?_
 refine W.region rfl ?_
 obtain ⟨A8, c9, n10, p11, w12, hn13, hy14, C15, hR16⟩ := ev_lit0 (P := Tryz.prog) 5 (Kd.int .u8) C Tryz.underlying24 ti5
 refine WL.val (hy14 _ _) ?_
 refine WL.run to 1 rfl ?_
 obtain ⟨hc17, H⟩ := guardE H
 obtain ⟨A18, c19, n20, p21, w22, hn23, hy24, C25, hR26⟩ := ev_append' (P := Tryz.prog) (cb := c2) 5 (Kd.int .u8) [] [] C15 hR16 hn4 hS7 C15.fro Tryz.underlying24 ti5 rfl zo5 (by decide) (by decide) (by simpa using hc17)
 have C27 : Ctx _ _ _ _ _ [p21] := C25
 rw [List.nil_append] at hn23 hR26
 refine WL.val (hy24 _ _ _ _ rfl rfl) ?_
 refine WL.run to 1 rfl ?_
 refine WL.done ?_
 refine W.ret ?_
 have e28 := Option.some.inj H
 subst e28
 exact post_r (resE1 rfl rfl) ⟨A18, c19, n20, p21, rfl, C27, hn23, hR26⟩
def tally_Cast.l1 : Nat → List TCast → TCast → List TCast → Int → Option (Sum (List TCast) ((List TCast) × Int))
  | 0, _, _, _, _ => none
  | k + 1, a0, a1, x500, x510 => if x510 < (a0.length : Int) then (if 0 ≤ x510 ∧ x510 < (a0.length : Int) then (if ((a0.getD x510.toNat TCast.z).Worker) = a1.Worker then (some (Sum.inr (([] : List TCast), 190))) else ((tally_own.f k ((a0.getD x510.toNat TCast.z).Value)).bind fun r684 => if (x500.length + 1 + (x500.length + 1) / 4 + 192) * 32 ≤ 281474976710656 then (tally_Cast.l1 k a0 a1 (x500 ++ [(⟨(a0.getD x510.toNat TCast.z).Worker, r684⟩ : TCast)]) (wi64 (x510 + 1))) else none)) else none) else (some (Sum.inl x500))
def tally_Cast.f (k : Nat) (a0 : List TCast) (a1 : TCast) : Option ((List TCast) × Int) := if a1.Worker < 0 then (some (([] : List TCast), 1)) else (if (a1.Value.length : Int) > 32 then (some (([] : List TCast), 42)) else ((tally_Cast.l1 k a0 a1 ([] : List TCast) 0).bind fun o_ => sumE o_ (fun x370 => (tally_own.f k a1.Value).bind fun r762 => if (x370.length + 1 + (x370.length + 1) / 4 + 192) * 32 ≤ 281474976710656 then (some (x370 ++ [(⟨a1.Worker, r762⟩ : TCast)], 0)) else none) (fun p_ => some p_)))
set_option maxRecDepth 100000 in
set_option maxHeartbeats 4000000 in
theorem tally_Cast.calls (k : Nat) (w : World) (F : CH) (A1 : Option Addr) (c2 : Nat) (n3 : Nat) (a0 : List TCast) (A8 : Option Addr) (c9 : Nat) (n10 : Nat) (a1 : TCast) (hp : Pre w F []) (hn4 : n3 = a0.length) (hl5 : a0.length ≤ c2) (hm6 : c2 ≤ maxLen) (hS7 : Sl TCast.K F F A1 a0) (hn11 : n10 = a1.Value.length) (hl12 : a1.Value.length ≤ c9) (hm13 : c9 ≤ maxLen) (hS14 : Sl (Kd.int .u8) F F A8 a1.Value) (r0_ : List TCast) (r1_ : Int) (H : tally_Cast.f k a0 a1 = some (r0_, r1_)) :
    Calls Tryz.prog 83 #[.slice A1 n3 c2, .agg (List.toArray [.int .i64 a1.Worker, .slice A8 n10 c9])] w fun e w' => ∃ (F' : CH) (A802 : Option Addr) (c803 : Nat) (n804 : Nat) (p806 : CH), e = .returned (.tuple #[(.slice A802 n804 c803), (.int .i64 r1_)]) ∧ CH.le F F' ∧ Ctx w F (domL []) w' F' [p806] ∧ n804 = r0_.length ∧ Row TCast.K F' p806 (.slice A802 n804 c803) r0_ := by
 have C := Ctx.start hp
 generalize hD : domL [] = D at C ⊢
 unfold tally_Cast.f at H
 refine Calls.ofW Tryz.func83 rfl (by simp [Tryz.ntmps83]) ?_
 refine W.seq ?_
 refine W.region rfl ?_
 obtain ⟨g15, w16, hy17, C18⟩ := ev_box (P := Tryz.prog) 96 (.agg (List.toArray [.int .i64 a1.Worker, .slice A8 n10 c9])) [.int .i64 a1.Worker, .slice A8 n10 c9] C rfl
 refine WL.val (hy17 _ _ _ rfl) ?_
 refine WL.run to 2 rfl ?_
 refine WL.done ?_
 refine W.seq ?_
 refine W.block ?_
 refine W.seq ?_
 refine W.region rfl ?_
 refine WL.run to 1 rfl ?_
 refine WL.val (Yl.loadV (g := g15) (off := 0) (o := 0) (cs := [.int .i64 a1.Worker, .slice A8 n10 c9]) (v := .int .i64 a1.Worker) rfl Tryz.underlying3 rfl (Ctx.subI 0 C18 rfl) rfl) ?_
 refine WL.run to 2 rfl ?_
 refine WL.done ?_
 rcases iteE H with ⟨hc19, H⟩ | ⟨hc19, H⟩
 ·refine W.condT (congrArg Value.bool (decide_eq_true hc19)) ?_
  refine W.seq ?_
  refine W.region rfl ?_
  refine WL.run to 2 rfl ?_
  refine WL.done ?_
  refine W.ret ?_
  refine inB_r ?_
  refine thenE_r ?_
  have C20 : Ctx _ _ _ _ _ [CH.emp] := Ctx.pick [1] C18 rfl
  simp only [Option.some.injEq, Prod.mk.injEq] at H
  obtain ⟨e21, e22⟩ := H
  subst e21 e22
  exact post_r (resE2 rfl rfl rfl) ⟨F, none, 0, 0, CH.emp, rfl, (CH.le_refl _), C20, rfl, (Row.nil _ _)⟩
 ·refine W.condF (congrArg Value.bool (decide_eq_false hc19)) ?_
  refine W.seq ?_
  refine W.region rfl ?_
  refine WL.run to 1 rfl ?_
  refine WL.val (Yl.loadV (g := g15) (off := 0) (o := 1) (cs := [.int .i64 a1.Worker, .slice A8 n10 c9]) (v := .slice A8 n10 c9) rfl Tryz.underlying24 rfl (Ctx.subI 0 C18 rfl) rfl) ?_
  refine WL.val (Yl.lenN (A := A8) (l := n10) (q := c9) (n := (a1.Value.length : Int)) rfl Tryz.underlying24 (by omega)) ?_
  refine WL.run to 2 rfl ?_
  refine WL.done ?_
  rcases iteE H with ⟨hc23, H⟩ | ⟨hc23, H⟩
  ·refine W.condT (congrArg Value.bool (decide_eq_true hc23)) ?_
   refine W.seq ?_
   refine W.region rfl ?_
   refine WL.run to 2 rfl ?_
   refine WL.done ?_
   refine W.ret ?_
   refine inB_r ?_
   refine thenE_r ?_
   have C24 : Ctx _ _ _ _ _ [CH.emp] := Ctx.pick [1] C18 rfl
   simp only [Option.some.injEq, Prod.mk.injEq] at H
   obtain ⟨e25, e26⟩ := H
   subst e25 e26
   exact post_r (resE2 rfl rfl rfl) ⟨F, none, 0, 0, CH.emp, rfl, (CH.le_refl _), C24, rfl, (Row.nil _ _)⟩
  ·refine W.condF (congrArg Value.bool (decide_eq_false hc23)) ?_
   refine W.skip ?_
   refine inB_n ?_
   refine W.seq ?_
   refine W.region rfl ?_
   refine WL.run to 1 rfl ?_
   refine WL.done ?_
   refine W.seq ?_
   refine W.seq ?_
   refine W.region rfl ?_
   refine WL.run to 1 rfl ?_
   refine WL.val (Yl.lenN (A := A1) (l := n3) (q := c2) (n := (a0.length : Int)) rfl Tryz.underlying61 (by omega)) ?_
   refine WL.run to 1 rfl ?_
   refine WL.done ?_
   obtain ⟨o379, hX378, H⟩ := bindE H
   let v1 : CH := CH.row g15 0 [.int .i64 a1.Worker, .slice A8 n10 c9]
   refine W.cutM (fun env_ w_ => ∃ (x370 : List TCast) (F366 : CH) (A371 : Option Addr) (c372 : Nat) (n373 : Nat) (p375 : CH), env_ 3 = .pointer (some ⟨g15, 0, none⟩) ∧ env_ 6 = .slice A371 n373 c372 ∧ Ctx w F D w_ F366 [p375, v1] ∧ CH.le F F366 ∧ n373 = x370.length ∧ Row TCast.K F366 p375 (.slice A371 n373 c372) x370 ∧ o379 = Sum.inl x370) ?_ ?_
   ·refine W.block ?_
    have C615 : Ctx _ _ _ _ _ [CH.emp, v1] := Ctx.pick [1, 0] C18 rfl
    refine W.loop (fun g_ env_ w_ => ∃ (x500 : List TCast) (x510 : Int) (F496 : CH) (A501 : Option Addr) (c502 : Nat) (n503 : Nat) (p505 : CH), env_ 3 = .pointer (some ⟨g15, 0, none⟩) ∧ env_ 6 = .slice A501 n503 c502 ∧ env_ 18 = .slice A1 n3 c2 ∧ env_ 19 = .int .i64 (a0.length : Int) ∧ env_ 20 = .int .i64 x510 ∧ Ctx w F D w_ F496 [p505, v1] ∧ CH.le F F496 ∧ n503 = x500.length ∧ Row TCast.K F496 p505 (.slice A501 n503 c502) x500 ∧ tally_Cast.l1 g_ a0 a1 x500 x510 = some o379) k ⟨([] : List TCast), 0, F, none, 0, 0, CH.emp, rfl, rfl, rfl, rfl, rfl, C615, (CH.le_refl _), rfl, (Row.nil _ _), hX378⟩ ?_
    clear hX378
    rintro g_ env_ w_ ⟨x500, x510, F496, A501, c502, n503, p505, ho498, ho499, ho507, ho508, ho509, C511, le497, hn504, hR506, hX378⟩
    rcases g_ with _ | k614
    · exact absurd hX378 (by simp [tally_Cast.l1])
    rw [tally_Cast.l1] at hX378
    apply kn env_ (.c ho498 (.c ho499 (.c ho507 (.c ho508 (.c ho509 .n)))))
    refine W.seq ?_
    refine W.region rfl ?_
    refine WL.run to 1 rfl ?_
    refine WL.done ?_
    refine W.seq ?_
    rcases iteE hX378 with ⟨hc616, hX378⟩ | ⟨hc616, hX378⟩
    ·refine W.condT (congrArg Value.bool (decide_eq_true hc616)) ?_
     refine W.skip ?_
     refine W.seq ?_
     refine W.block ?_
     refine W.seq ?_
     refine W.region rfl ?_
     obtain ⟨hc617, hX378⟩ := guardE hX378
     obtain ⟨b618, of619, hA620, he621⟩ := hS7 (by omega)
     refine WL.val (Yl.elemAddr (i := x510) rfl rfl hA620 Tryz.underlying61 sz96 (by omega)) ?_
     obtain ⟨cs622, hr623, hx624⟩ := he621 x510.toNat _ (getD_some (d := TCast.z) (by omega))
     obtain ⟨A625, c626, n627, rfl, hn628, hl629, hm630, hS631⟩ := TCast.open hr623
     let q2 : List Go.Value := [.int .i64 ((a0.getD x510.toNat TCast.z).Worker), .slice A625 n627 c626]
     refine WL.val (Yl.loadAgg (cs := q2) rfl Tryz.underlying96 rfl sz96 (fun j u hu => by rw [add_of]; exact ((C511.fro.mono le497)).cell (hx624 _ _ hu))) ?_
     obtain ⟨g632, w633, hy634, C635⟩ := ev_alloc (P := Tryz.prog) (e := 96) [.int .i64 0, .slice none 0 0] C511 zr96 rfl
     refine WL.val (hy634 _ _) ?_
     obtain ⟨w636, hy637, C638⟩ := ev_setI (P := Tryz.prog) (ps1 := []) (ps2 := [p505, v1]) (t := 96) 0 q2 (.agg (List.toArray q2)) C635 rfl rfl (ones_of rfl) sz96
     have C639 : Ctx _ _ _ _ _ [CH.row g632 0 q2, p505, v1] := C638
     refine WL.skip (hy637 _ _ _ _ rfl rfl) ?_
     refine WL.done ?_
     refine W.seq ?_
     refine W.seq ?_
     refine W.region rfl ?_
     refine WL.run to 1 rfl ?_
     refine WL.val (Yl.loadV (g := g632) (off := 0) (o := 0) (cs := q2) (v := .int .i64 ((a0.getD x510.toNat TCast.z).Worker)) rfl Tryz.underlying3 rfl (Ctx.subI 0 C639 rfl) rfl) ?_
     refine WL.run to 1 rfl ?_
     refine WL.val (Yl.loadV (g := g15) (off := 0) (o := 0) (cs := [.int .i64 a1.Worker, .slice A8 n10 c9]) (v := .int .i64 a1.Worker) rfl Tryz.underlying3 rfl (Ctx.subI 2 C639 rfl) rfl) ?_
     refine WL.run to 1 rfl ?_
     refine WL.done ?_
     rcases iteE hX378 with ⟨hc640, hX378⟩ | ⟨hc640, hX378⟩
     ·refine W.condT (congrArg Value.bool (decide_eq_true hc640)) ?_
      refine W.seq ?_
      refine W.region rfl ?_
      refine WL.run to 2 rfl ?_
      refine WL.done ?_
      refine W.ret ?_
      refine thenE_r ?_
      refine inB_r ?_
      refine thenE_r ?_
      refine thenE_r ?_
      refine inB_r ?_
      refine thenE_r ?_
      refine thenE_r ?_
      cases hX378
      replace H := sumE_r H
      have C641 : Ctx _ _ _ _ _ [CH.emp] := Ctx.pick [3] C639 rfl
      simp only [Option.some.injEq, Prod.mk.injEq] at H
      obtain ⟨e642, e643⟩ := H
      subst e642 e643
      exact post_r (resE2 rfl rfl rfl) ⟨F496, none, 0, 0, CH.emp, rfl, le497, C641, rfl, (Row.nil _ _)⟩
     ·refine W.condF (congrArg Value.bool (decide_eq_false hc640)) ?_
      refine W.skip ?_
      refine W.regionA [([7, 8], CH.row g632 0 q2)] (by kernel_rfl) ?_
      have C682 := Ctx.drewN C639 1
      refine WA.takes [(0, none), (1, none), (2, some 0), (3, none), (4, some 0)] ⟨(Ctx.subI 0 C682 rfl), trivial⟩ (by kernel_rfl) ?_
      refine WT.run to 2 rfl ?_
      refine WT.val rfl (fun _ hC_ => Yl.loadV (g := g632) (off := 0) (o := 0) (cs := q2) (v := .int .i64 ((a0.getD x510.toNat TCast.z).Worker)) rfl Tryz.underlying3 rfl (show Sub (CH.row g632 0 q2) _ from hC_) rfl) ?_
      refine WT.run to 1 rfl ?_
      refine WT.val rfl (fun _ hC_ => Yl.loadV (g := g632) (off := 0) (o := 1) (cs := q2) (v := .slice A625 n627 c626) rfl Tryz.underlying24 rfl (show Sub (CH.row g632 0 q2) _ from hC_) rfl) ?_
      refine WT.done ?_
      obtain ⟨r684, hg683, hX378⟩ := bindE hX378
      refine WA.up1 5 (by kernel_rfl) (Up.callH rfl (by kernel_rfl) rfl (tally_own.calls k614 _ F496 A625 c626 n627 ((a0.getD x510.toNat TCast.z).Value) (Ctx.pre (qs := []) (rest := [CH.row g632 0 q2, p505, v1]) C682) hn628 hl629 hm630 (Sl.mono hS631 le497 le497) r684 hg683) (Yenter.fn Tryz.func94 (by kernel_rfl) rfl (argsE (.cons rfl .nil))) ?_)
      rintro e_ w_ ⟨A685, c686, n687, p689, rfl, C691, hn688, hR690⟩
      have C692 : Ctx _ _ _ _ _ [p689, CH.row g632 0 q2, p505, v1] := Ctx.call (qs := []) (rest := [CH.row g632 0 q2, p505, v1]) C682 C691
      refine ⟨_, rfl, ⟨(Ctx.subI 1 C692 rfl), trivial⟩, ?_⟩
      refine WA.takes [(6, none)] ⟨(Ctx.subI 1 C692 rfl), trivial⟩ (by kernel_rfl) ?_
      let q3 : List Go.Value := [.int .i64 ((a0.getD x510.toNat TCast.z).Worker), .slice A685 n687 c686]
      refine WT.val rfl (fun _ hC_ => Yl.build (places := [(0, 1), (1, 1)]) (cs := List.toArray q3) Tryz.underlying96 zr96 (pl96 _ Tryz.underlying96) (partsB (.cons rfl (.cons rfl .nil))) rfl) ?_
      refine WT.done ?_
      obtain ⟨F693, le694, lp695, (C696 : Ctx _ _ _ _ _ [CH.row g632 0 q2, p505, v1])⟩ := Ctx.fzI 0 C692 rfl
      obtain ⟨hl697, hm698, hS699⟩ := Row.fz hR690 le694 lp695
      have hR700 := Row.mono hR506 le694
      obtain ⟨A701, c702, n703, p704, w705, hn706, hy707, C708, hR709⟩ := ev_lit1' (P := Tryz.prog) 96 TCast.K C696 Tryz.underlying61 ti96 ⟨by decide, by decide⟩ (⟨(a0.getD x510.toNat TCast.z).Worker, r684⟩ : TCast) (.agg (List.toArray q3)) (TCast.mk' _ (⟨(a0.getD x510.toNat TCast.z).Worker, r684⟩ : TCast) A685 c686 n687 hn688 hl697 hm698 hS699)
      refine WA.up1 7 (by kernel_rfl) (Up.val rfl rfl rfl (hy707 _ _ _ rfl) ⟨trivial, trivial⟩ ?_)
      obtain ⟨hc710, hX378⟩ := guardE hX378
      obtain ⟨A711, c712, n713, p714, w715, hn716, hy717, C718, hR719⟩ := ev_append' (P := Tryz.prog) (cb := c702) 96 TCast.K [p704, CH.row g632 0 q2] [v1] C708 hR700 hn706 (Row.sl hR709) (Ctx.subI 0 C708 rfl) Tryz.underlying61 ti96 rfl zo96 (by decide) (by decide) (by simpa using hc710)
      have C720 : Ctx _ _ _ _ _ [p704, CH.row g632 0 q2, p714, v1] := C718
      refine WA.up1 8 (by kernel_rfl) (Up.val rfl rfl rfl (hy717 _ _ _ _ rfl rfl) ⟨trivial, trivial⟩ ?_)
      refine WA.takes [(9, none)] ⟨(Ctx.subI 1 C720 rfl), trivial⟩ (by kernel_rfl) ?_
      refine WT.run to 1 rfl ?_
      refine WT.done ?_
      refine WA.done (by kernel_rfl) ?_
      refine inB_n ?_
      refine W.region rfl ?_
      refine WL.run to 2 rfl ?_
      refine WL.done ?_
      have C721 : Ctx _ _ _ _ _ [p714, v1] := Ctx.pick [2, 3] C720 rfl
      exact thenE_n ⟨k614, Nat.lt_succ_self _, x500 ++ [(⟨(a0.getD x510.toNat TCast.z).Worker, r684⟩ : TCast)], wi64 (x510 + 1), F693, A711, c712, n713, p714, rfl, rfl, rfl, rfl, rfl, C721, (CH.le_trans le497 le694), hn716, hR719, hX378⟩
    ·refine W.condF (congrArg Value.bool (decide_eq_false hc616)) ?_
     refine W.exit ?_
     refine thenE_x ?_
     refine thenE_x ?_
     refine inB_here ?_
     cases hX378
     refine thenE_n ?_
     exact ⟨x500, F496, A501, c502, n503, p505, rfl, rfl, C511, le497, hn504, hR506, rfl⟩
   ·rintro env_ w_ ⟨x370, F366, A371, c372, n373, p375, ho368, ho369, C377, le367, hn374, hR376, rfl⟩
    replace H := sumE_l H
    apply kn env_ (.c ho368 (.c ho369 .n))
    refine W.seq ?_
    refine W.regionA [([7, 8], v1)] (by kernel_rfl) ?_
    have C760 := Ctx.drewN C377 1
    refine WA.takes [(0, none), (1, none), (2, some 0), (3, none), (4, some 0)] ⟨(Ctx.subI 1 C760 rfl), trivial⟩ (by kernel_rfl) ?_
    refine WT.run to 2 rfl ?_
    refine WT.val rfl (fun _ hC_ => Yl.loadV (g := g15) (off := 0) (o := 0) (cs := [.int .i64 a1.Worker, .slice A8 n10 c9]) (v := .int .i64 a1.Worker) rfl Tryz.underlying3 rfl (show Sub (v1) _ from hC_) rfl) ?_
    refine WT.run to 1 rfl ?_
    refine WT.val rfl (fun _ hC_ => Yl.loadV (g := g15) (off := 0) (o := 1) (cs := [.int .i64 a1.Worker, .slice A8 n10 c9]) (v := .slice A8 n10 c9) rfl Tryz.underlying24 rfl (show Sub (v1) _ from hC_) rfl) ?_
    refine WT.done ?_
    obtain ⟨r762, hg761, H⟩ := bindE H
    refine WA.up1 5 (by kernel_rfl) (Up.callH rfl (by kernel_rfl) rfl (tally_own.calls k _ F366 A8 c9 n10 a1.Value (Ctx.pre (qs := []) (rest := [p375, v1]) C760) hn11 hl12 hm13 (Sl.mono hS14 le367 le367) r762 hg761) (Yenter.fn Tryz.func94 (by kernel_rfl) rfl (argsE (.cons rfl .nil))) ?_)
    rintro e_ w_ ⟨A763, c764, n765, p767, rfl, C769, hn766, hR768⟩
    have C770 : Ctx _ _ _ _ _ [p767, p375, v1] := Ctx.call (qs := []) (rest := [p375, v1]) C760 C769
    refine ⟨_, rfl, ⟨(Ctx.subI 2 C770 rfl), trivial⟩, ?_⟩
    refine WA.takes [(6, none)] ⟨(Ctx.subI 2 C770 rfl), trivial⟩ (by kernel_rfl) ?_
    refine WT.val rfl (fun _ hC_ => Yl.build (places := [(0, 1), (1, 1)]) (cs := List.toArray [.int .i64 a1.Worker, .slice A763 n765 c764]) Tryz.underlying96 zr96 (pl96 _ Tryz.underlying96) (partsB (.cons rfl (.cons rfl .nil))) rfl) ?_
    refine WT.done ?_
    obtain ⟨F771, le772, lp773, (C774 : Ctx _ _ _ _ _ [p375, v1])⟩ := Ctx.fzI 0 C770 rfl
    obtain ⟨hl775, hm776, hS777⟩ := Row.fz hR768 le772 lp773
    have hR778 := Row.mono hR376 le772
    obtain ⟨A779, c780, n781, p782, w783, hn784, hy785, C786, hR787⟩ := ev_lit1' (P := Tryz.prog) 96 TCast.K C774 Tryz.underlying61 ti96 ⟨by decide, by decide⟩ (⟨a1.Worker, r762⟩ : TCast) (.agg (List.toArray [.int .i64 a1.Worker, .slice A763 n765 c764])) (TCast.mk' _ (⟨a1.Worker, r762⟩ : TCast) A763 c764 n765 hn766 hl775 hm776 hS777)
    refine WA.up1 7 (by kernel_rfl) (Up.val rfl rfl rfl (hy785 _ _ _ rfl) ⟨trivial, trivial⟩ ?_)
    obtain ⟨hc788, H⟩ := guardE H
    obtain ⟨A789, c790, n791, p792, w793, hn794, hy795, C796, hR797⟩ := ev_append' (P := Tryz.prog) (cb := c780) 96 TCast.K [p782] [v1] C786 hR778 hn784 (Row.sl hR787) (Ctx.subI 0 C786 rfl) Tryz.underlying61 ti96 rfl zo96 (by decide) (by decide) (by simpa using hc788)
    have C798 : Ctx _ _ _ _ _ [p782, p792, v1] := C796
    refine WA.up1 8 (by kernel_rfl) (Up.val rfl rfl rfl (hy795 _ _ _ _ rfl rfl) ⟨trivial, trivial⟩ ?_)
    refine WA.takes [(9, none), (10, none)] ⟨(Ctx.subI 2 C798 rfl), trivial⟩ (by kernel_rfl) ?_
    refine WT.run to 2 rfl ?_
    refine WT.done ?_
    refine WA.done (by kernel_rfl) ?_
    refine W.ret ?_
    have C799 : Ctx _ _ _ _ _ [p792] := Ctx.pick [1] C798 rfl
    simp only [Option.some.injEq, Prod.mk.injEq] at H
    obtain ⟨e800, e801⟩ := H
    subst e800 e801
    exact post_r (resE2 rfl rfl rfl) ⟨F771, A789, c790, n791, p792, rfl, (CH.le_trans le367 le772), C799, hn794, hR797⟩
def bytes_Equal.f (k : Nat) (a0 : List Int) (a1 : List Int) : Option Bool := some (decide ((strOfNums a0) = (strOfNums a1)))
set_option maxRecDepth 100000 in
set_option maxHeartbeats 4000000 in
theorem bytes_Equal.calls (k : Nat) (w : World) (F : CH) (A1 : Option Addr) (c2 : Nat) (n3 : Nat) (a0 : List Int) (A8 : Option Addr) (c9 : Nat) (n10 : Nat) (a1 : List Int) (hp : Pre w F []) (hn4 : n3 = a0.length) (hl5 : a0.length ≤ c2) (hm6 : c2 ≤ maxLen) (hS7 : Sl (Kd.int .u8) F F A1 a0) (hn11 : n10 = a1.length) (hl12 : a1.length ≤ c9) (hm13 : c9 ≤ maxLen) (hS14 : Sl (Kd.int .u8) F F A8 a1) (r0_ : Bool) (H : bytes_Equal.f k a0 a1 = some r0_) :
    Calls Tryz.prog 89 #[.slice A1 n3 c2, .slice A8 n10 c9] w fun e w' => e = .returned (.bool r0_) ∧ (∃ n_, w' = w.drewN n_) := by
 have C := Ctx.start hp
 generalize domL [] = D at C
 have W0 : ∃ n_, w = w.drewN n_ := ⟨0, rfl⟩
 unfold bytes_Equal.f at H
 refine Calls.ofW Tryz.func89 rfl (by simp [Tryz.ntmps89]) ?_
 refine W.seq ?_
 refine W.region rfl ?_
 refine WL.run to 1 rfl ?_
 refine WL.done ?_
 refine W.seq ?_
 refine W.region rfl ?_
 refine WL.run to 1 rfl ?_
 refine WL.val (Yl.convBS (xs := a0) rfl hn4 hS7 (C.fro) Tryz.underlying24 Tryz.underlying5 Tryz.underlying9) ?_
 refine WL.run to 1 rfl ?_
 refine WL.val (Yl.convBS (xs := a1) rfl hn11 hS14 (C.fro) Tryz.underlying24 Tryz.underlying5 Tryz.underlying9) ?_
 refine WL.val (Yl.seqD (p := strOfNums a0) (q := strOfNums a1) rfl rfl) ?_
 refine WL.run to 1 rfl ?_
 refine WL.done ?_
 refine W.ret ?_
 have e15 := Option.some.inj H
 subst e15
 exact post_r (resE1 rfl rfl) ⟨rfl, W0⟩
def tally_Decide.l1 : Nat → List TCast → Int → List (ByteArray × List (Int × Int)) → Int → Option (Sum Unit ((List Int) × Bool))
  | 0, _, _, _, _ => none
  | k + 1, a0, a1, r13, x112 => if x112 < (a0.length : Int) then (if 0 ≤ x112 ∧ x112 < (a0.length : Int) then (if (((mget r13 (strOfNums ((a0.getD x112.toNat TCast.z).Value))).getD []).length : Int) > a1 then ((tally_own.f k ((a0.getD x112.toNat TCast.z).Value)).bind fun r182 => some (Sum.inr (r182, true))) else (tally_Decide.l1 k a0 a1 r13 (wi64 (x112 + 1)))) else none) else (some (Sum.inl ()))
def tally_Decide.f (k : Nat) (a0 : List TCast) (a1 : Int) : Option ((List Int) × Bool) := if a1 < 0 then (some (([] : List Int), false)) else ((tally_voters.f k a0).bind fun r13 => (tally_Decide.l1 k a0 a1 r13 0).bind fun o_ => sumE o_ (fun _ => some (([] : List Int), false)) (fun p_ => some p_))
set_option maxRecDepth 100000 in
set_option maxHeartbeats 4000000 in
theorem tally_Decide.calls (k : Nat) (w : World) (F : CH) (A1 : Option Addr) (c2 : Nat) (n3 : Nat) (a0 : List TCast) (a1 : Int) (hp : Pre w F []) (hn4 : n3 = a0.length) (hl5 : a0.length ≤ c2) (hm6 : c2 ≤ maxLen) (hS7 : Sl TCast.K F F A1 a0) (r0_ : List Int) (r1_ : Bool) (H : tally_Decide.f k a0 a1 = some (r0_, r1_)) :
    Calls Tryz.prog 84 #[.slice A1 n3 c2, .int .i64 a1] w fun e w' => ∃ (A198 : Option Addr) (c199 : Nat) (n200 : Nat) (p202 : CH), e = .returned (.tuple #[(.slice A198 n200 c199), (.bool r1_)]) ∧ Ctx w F (domL []) w' F [p202] ∧ n200 = r0_.length ∧ Row (Kd.int .u8) F p202 (.slice A198 n200 c199) r0_ := by
 have C := Ctx.start hp
 generalize hD : domL [] = D at C ⊢
 unfold tally_Decide.f at H
 refine Calls.ofW Tryz.func84 rfl (by simp [Tryz.ntmps84]) ?_
 refine W.seq ?_
 refine W.region rfl ?_
 refine WL.run to 2 rfl ?_
 refine WL.done ?_
 refine W.seq ?_
 refine W.seq ?_
 refine W.region rfl ?_
 refine WL.run to 2 rfl ?_
 refine WL.done ?_
 rcases iteE H with ⟨hc8, H⟩ | ⟨hc8, H⟩
 ·refine W.condT (congrArg Value.bool (decide_eq_true hc8)) ?_
  refine W.seq ?_
  refine W.region rfl ?_
  refine WL.run to 2 rfl ?_
  refine WL.done ?_
  refine W.ret ?_
  refine thenE_r ?_
  have C9 : Ctx _ _ _ _ _ [CH.emp] := Ctx.pick [0] C rfl
  simp only [Option.some.injEq, Prod.mk.injEq] at H
  obtain ⟨e10, e11⟩ := H
  subst e10 e11
  exact post_r (resE2 rfl rfl rfl) ⟨none, 0, 0, CH.emp, rfl, C9, rfl, (Row.nil _ _)⟩
 ·refine W.condF (congrArg Value.bool (decide_eq_false hc8)) ?_
  refine W.skip ?_
  refine W.seq ?_
  refine W.region rfl ?_
  refine WL.run to 1 rfl ?_
  obtain ⟨r13, hg12, H⟩ := bindE H
  refine WL.callH (tally_voters.calls k _ F A1 c2 n3 a0 (Ctx.pre (qs := []) (rest := []) C) hn4 hl5 hm6 hS7 r13 hg12) (Yenter.fn Tryz.func95 (by kernel_rfl) rfl (argsE (.cons rfl .nil))) ?_
  rintro e_ w_ ⟨g14, p15, rfl, C17, hM16⟩
  refine ⟨_, rfl, ?_⟩
  have C18 : Ctx _ _ _ _ _ [p15] := Ctx.call (qs := []) (rest := []) C C17
  refine WL.run to 1 rfl ?_
  refine WL.done ?_
  refine W.seq ?_
  refine W.seq ?_
  refine W.region rfl ?_
  refine WL.run to 1 rfl ?_
  refine WL.val (Yl.lenN (A := A1) (l := n3) (q := c2) (n := (a0.length : Int)) rfl Tryz.underlying61 (by omega)) ?_
  refine WL.run to 1 rfl ?_
  refine WL.done ?_
  obtain ⟨o106, hX105, H⟩ := bindE H
  refine W.cutM (fun env_ w_ => Ctx w F D w_ F [p15] ∧ o106 = Sum.inl ()) ?_ ?_
  ·refine W.block ?_
   refine W.loop (fun g_ env_ w_ => ∃ (x112 : Int), env_ 1 = .int .i64 a1 ∧ env_ 6 = .map (some g14) ∧ env_ 13 = .slice A1 n3 c2 ∧ env_ 14 = .int .i64 (a0.length : Int) ∧ env_ 15 = .int .i64 x112 ∧ Ctx w F D w_ F [p15] ∧ tally_Decide.l1 g_ a0 a1 r13 x112 = some o106) k ⟨0, rfl, rfl, rfl, rfl, rfl, C18, hX105⟩ ?_
   clear hX105
   rintro g_ env_ w_ ⟨x112, ho107, ho108, ho109, ho110, ho111, C113, hX105⟩
   rcases g_ with _ | k152
   · exact absurd hX105 (by simp [tally_Decide.l1])
   rw [tally_Decide.l1] at hX105
   apply kn env_ (.c ho107 (.c ho108 (.c ho109 (.c ho110 (.c ho111 .n)))))
   refine W.seq ?_
   refine W.region rfl ?_
   refine WL.run to 1 rfl ?_
   refine WL.done ?_
   refine W.seq ?_
   rcases iteE hX105 with ⟨hc153, hX105⟩ | ⟨hc153, hX105⟩
   ·refine W.condT (congrArg Value.bool (decide_eq_true hc153)) ?_
    refine W.skip ?_
    refine W.seq ?_
    refine W.block ?_
    refine W.seq ?_
    refine W.region rfl ?_
    obtain ⟨hc154, hX105⟩ := guardE hX105
    obtain ⟨b155, of156, hA157, he158⟩ := hS7 (by omega)
    refine WL.val (Yl.elemAddr (i := x112) rfl rfl hA157 Tryz.underlying61 sz96 (by omega)) ?_
    obtain ⟨cs159, hr160, hx161⟩ := he158 x112.toNat _ (getD_some (d := TCast.z) (by omega))
    obtain ⟨A162, c163, n164, rfl, hn165, hl166, hm167, hS168⟩ := TCast.open hr160
    let q1 : List Go.Value := [.int .i64 ((a0.getD x112.toNat TCast.z).Worker), .slice A162 n164 c163]
    refine WL.val (Yl.loadAgg (cs := q1) rfl Tryz.underlying96 rfl sz96 (fun j u hu => by rw [add_of]; exact ((C113.fro)).cell (hx161 _ _ hu))) ?_
    obtain ⟨g169, w170, hy171, C172⟩ := ev_alloc (P := Tryz.prog) (e := 96) [.int .i64 0, .slice none 0 0] C113 zr96 rfl
    refine WL.val (hy171 _ _) ?_
    obtain ⟨w173, hy174, C175⟩ := ev_setI (P := Tryz.prog) (ps1 := []) (ps2 := [p15]) (t := 96) 0 q1 (.agg (List.toArray q1)) C172 rfl rfl (ones_of rfl) sz96
    have C176 : Ctx _ _ _ _ _ [CH.row g169 0 q1, p15] := C175
    refine WL.skip (hy174 _ _ _ _ rfl rfl) ?_
    refine WL.done ?_
    refine W.seq ?_
    refine W.region rfl ?_
    refine WL.run to 2 rfl ?_
    refine WL.val (Yl.loadV (g := g169) (off := 0) (o := 1) (cs := q1) (v := .slice A162 n164 c163) rfl Tryz.underlying24 rfl (Ctx.subI 0 C176 rfl) rfl) ?_
    refine WL.val (Yl.convBS (xs := (a0.getD x112.toNat TCast.z).Value) rfl hn165 hS168 (C176.fro) Tryz.underlying24 Tryz.underlying5 Tryz.underlying9) ?_
    obtain ⟨v177, hV178, hy179⟩ := NMap.get hM16 Tryz.underlying151 Tryz.underlying9 rfl (keyStr) zr139 (strOfNums ((a0.getD x112.toNat TCast.z).Value))
    refine WL.val (hy179 _ (Ctx.subI 1 C176 rfl) _ _ _ _ rfl rfl) ?_
    refine WL.val (Yl.lenMV hV178 (Ctx.subI 1 C176 rfl) rfl Tryz.underlying139) ?_
    refine WL.run to 2 rfl ?_
    refine WL.done ?_
    rcases iteE hX105 with ⟨hc180, hX105⟩ | ⟨hc180, hX105⟩
    ·refine W.condT (congrArg Value.bool (decide_eq_true hc180)) ?_
     refine W.seq ?_
     refine W.region rfl ?_
     refine WL.run to 1 rfl ?_
     refine WL.val (Yl.loadV (g := g169) (off := 0) (o := 1) (cs := q1) (v := .slice A162 n164 c163) rfl Tryz.underlying24 rfl (Ctx.subI 0 C176 rfl) rfl) ?_
     obtain ⟨r182, hg181, hX105⟩ := bindE hX105
     refine WL.callH (tally_own.calls k152 _ F A162 c163 n164 ((a0.getD x112.toNat TCast.z).Value) (Ctx.pre (qs := []) (rest := [CH.row g169 0 q1, p15]) C176) hn165 hl166 hm167 hS168 r182 hg181) (Yenter.fn Tryz.func94 (by kernel_rfl) rfl (argsE (.cons rfl .nil))) ?_
     rintro e_ w_ ⟨A183, c184, n185, p187, rfl, C189, hn186, hR188⟩
     refine ⟨_, rfl, ?_⟩
     have C190 : Ctx _ _ _ _ _ [p187, CH.row g169 0 q1, p15] := Ctx.call (qs := []) (rest := [CH.row g169 0 q1, p15]) C176 C189
     refine WL.run to 2 rfl ?_
     refine WL.done ?_
     refine W.ret ?_
     refine inB_r ?_
     refine thenE_r ?_
     refine thenE_r ?_
     refine inB_r ?_
     refine thenE_r ?_
     refine thenE_r ?_
     cases hX105
     replace H := sumE_r H
     have C191 : Ctx _ _ _ _ _ [p187] := Ctx.pick [0] C190 rfl
     simp only [Option.some.injEq, Prod.mk.injEq] at H
     obtain ⟨e192, e193⟩ := H
     subst e192 e193
     exact post_r (resE2 rfl rfl rfl) ⟨A183, c184, n185, p187, rfl, C191, hn186, hR188⟩
    ·refine W.condF (congrArg Value.bool (decide_eq_false hc180)) ?_
     refine W.skip ?_
     refine inB_n ?_
     refine W.region rfl ?_
     refine WL.run to 2 rfl ?_
     refine WL.done ?_
     have C194 : Ctx _ _ _ _ _ [p15] := Ctx.pick [1] C176 rfl
     exact thenE_n ⟨k152, Nat.lt_succ_self _, wi64 (x112 + 1), rfl, rfl, rfl, rfl, rfl, C194, hX105⟩
   ·refine W.condF (congrArg Value.bool (decide_eq_false hc153)) ?_
    refine W.exit ?_
    refine thenE_x ?_
    refine thenE_x ?_
    refine inB_here ?_
    cases hX105
    refine thenE_n ?_
    exact ⟨C113, rfl⟩
  ·rintro env_ w_ ⟨C104, rfl⟩
   replace H := sumE_l H
   refine W.seq ?_
   refine W.region rfl ?_
   refine WL.run to 2 rfl ?_
   refine WL.done ?_
   refine W.ret ?_
   have C195 : Ctx _ _ _ _ _ [CH.emp] := Ctx.pick [1] C104 rfl
   simp only [Option.some.injEq, Prod.mk.injEq] at H
   obtain ⟨e196, e197⟩ := H
   subst e196 e197
   exact post_r (resE2 rfl rfl rfl) ⟨none, 0, 0, CH.emp, rfl, C195, rfl, (Row.nil _ _)⟩
def tally_Liars.l1 : Nat → List TCast → List Int → List (Int × Int) → Int → Option (List (Int × Int))
  | 0, _, _, _, _ => none
  | k + 1, a0, a1, x198, x205 => if x205 < (a0.length : Int) then (if 0 ≤ x205 ∧ x205 < (a0.length : Int) then ((bytes_Equal.f k ((a0.getD x205.toNat TCast.z).Value) a1).bind fun r268 => if r268 = true then (tally_Liars.l1 k a0 a1 x198 (wi64 (x205 + 1))) else (tally_Liars.l1 k a0 a1 (mset x198 ((a0.getD x205.toNat TCast.z).Worker) x205) (wi64 (x205 + 1)))) else none) else (some x198)
def tally_Liars.f (k : Nat) (a0 : List TCast) (a1 : List Int) : Option (List Int) := (tally_Liars.l1 k a0 a1 ([] : List (Int × Int)) 0).bind fun x148 => if x148.length * 8 ≤ 140737488355328 then (some (sortI (x148.map (·.1)))) else none
set_option maxRecDepth 100000 in
set_option maxHeartbeats 4000000 in
theorem tally_Liars.calls (k : Nat) (w : World) (F : CH) (A1 : Option Addr) (c2 : Nat) (n3 : Nat) (a0 : List TCast) (A8 : Option Addr) (c9 : Nat) (n10 : Nat) (a1 : List Int) (hp : Pre w F []) (hn4 : n3 = a0.length) (hl5 : a0.length ≤ c2) (hm6 : c2 ≤ maxLen) (hS7 : Sl TCast.K F F A1 a0) (hn11 : n10 = a1.length) (hl12 : a1.length ≤ c9) (hm13 : c9 ≤ maxLen) (hS14 : Sl (Kd.int .u8) F F A8 a1) (r0_ : List Int) (H : tally_Liars.f k a0 a1 = some r0_) :
    Calls Tryz.prog 85 #[.slice A1 n3 c2, .slice A8 n10 c9] w fun e w' => ∃ (A311 : Option Addr) (c312 : Nat) (n313 : Nat) (p315 : CH), e = .returned (.slice A311 n313 c312) ∧ Ctx w F (domL []) w' F [p315] ∧ n313 = r0_.length ∧ Row (Kd.int .i64) F p315 (.slice A311 n313 c312) r0_ := by
 have C := Ctx.start hp
 generalize hD : domL [] = D at C ⊢
 unfold tally_Liars.f at H
 refine Calls.ofW Tryz.func85 rfl (by simp [Tryz.ntmps85]) ?_
 refine W.seq ?_
 refine W.region rfl ?_
 refine WL.run to 1 rfl ?_
 refine WL.done ?_
 refine W.seq ?_
 refine W.region rfl ?_
 obtain ⟨g15, p16, w17, hy18, C19, hM20⟩ := ev_makeMap (P := Tryz.prog) (α := Int) (β := Int) (t := 139) (Value.int .i64) (Value.int .i64) C
 refine WL.val (hy18 _ _) ?_
 refine WL.run to 1 rfl ?_
 refine WL.done ?_
 refine W.seq ?_
 refine W.seq ?_
 refine W.region rfl ?_
 refine WL.run to 1 rfl ?_
 refine WL.val (Yl.lenN (A := A1) (l := n3) (q := c2) (n := (a0.length : Int)) rfl Tryz.underlying61 (by omega)) ?_
 refine WL.run to 1 rfl ?_
 refine WL.done ?_
 obtain ⟨x148, hX153, H⟩ := bindE H
 refine W.cutM (fun env_ w_ => ∃ (g149 : Nat) (p150 : CH), env_ 5 = .map (some g149) ∧ Ctx w F D w_ F [p150] ∧ MRow (Value.int .i64) (Value.int .i64) p150 g149 x148) ?_ ?_
 ·refine W.block ?_
  refine W.loop (fun g_ env_ w_ => ∃ (x198 : List (Int × Int)) (x205 : Int) (g199 : Nat) (p200 : CH), env_ 1 = .slice A8 n10 c9 ∧ env_ 5 = .map (some g199) ∧ env_ 11 = .slice A1 n3 c2 ∧ env_ 12 = .int .i64 (a0.length : Int) ∧ env_ 13 = .int .i64 x205 ∧ Ctx w F D w_ F [p200] ∧ MRow (Value.int .i64) (Value.int .i64) p200 g199 x198 ∧ tally_Liars.l1 g_ a0 a1 x198 x205 = some x148) k ⟨([] : List (Int × Int)), 0, g15, p16, rfl, rfl, rfl, rfl, rfl, C19, hM20, hX153⟩ ?_
  clear hX153
  rintro g_ env_ w_ ⟨x198, x205, g199, p200, ho196, ho197, ho202, ho203, ho204, C206, hM201, hX153⟩
  rcases g_ with _ | k242
  · exact absurd hX153 (by simp [tally_Liars.l1])
  rw [tally_Liars.l1] at hX153
  apply kn env_ (.c ho196 (.c ho197 (.c ho202 (.c ho203 (.c ho204 .n)))))
  refine W.seq ?_
  refine W.region rfl ?_
  refine WL.run to 1 rfl ?_
  refine WL.done ?_
  refine W.seq ?_
  rcases iteE hX153 with ⟨hc243, hX153⟩ | ⟨hc243, hX153⟩
  ·refine W.condT (congrArg Value.bool (decide_eq_true hc243)) ?_
   refine W.skip ?_
   refine W.seq ?_
   refine W.block ?_
   refine W.seq ?_
   refine W.region rfl ?_
   refine WL.run to 1 rfl ?_
   obtain ⟨hc244, hX153⟩ := guardE hX153
   obtain ⟨b245, of246, hA247, he248⟩ := hS7 (by omega)
   refine WL.val (Yl.elemAddr (i := x205) rfl rfl hA247 Tryz.underlying61 sz96 (by omega)) ?_
   obtain ⟨cs249, hr250, hx251⟩ := he248 x205.toNat _ (getD_some (d := TCast.z) (by omega))
   obtain ⟨A252, c253, n254, rfl, hn255, hl256, hm257, hS258⟩ := TCast.open hr250
   let q1 : List Go.Value := [.int .i64 ((a0.getD x205.toNat TCast.z).Worker), .slice A252 n254 c253]
   refine WL.val (Yl.loadAgg (cs := q1) rfl Tryz.underlying96 rfl sz96 (fun j u hu => by rw [add_of]; exact ((C206.fro)).cell (hx251 _ _ hu))) ?_
   obtain ⟨g259, w260, hy261, C262⟩ := ev_alloc (P := Tryz.prog) (e := 96) [.int .i64 0, .slice none 0 0] C206 zr96 rfl
   refine WL.val (hy261 _ _) ?_
   refine WL.run to 1 rfl ?_
   obtain ⟨w263, hy264, C265⟩ := ev_setI (P := Tryz.prog) (ps1 := []) (ps2 := [p200]) (t := 96) 0 q1 (.agg (List.toArray q1)) C262 rfl rfl (ones_of rfl) sz96
   have C266 : Ctx _ _ _ _ _ [CH.row g259 0 q1, p200] := C265
   refine WL.skip (hy264 _ _ _ _ rfl rfl) ?_
   refine WL.done ?_
   refine W.seq ?_
   refine W.region rfl ?_
   refine WL.run to 1 rfl ?_
   refine WL.val (Yl.loadV (g := g259) (off := 0) (o := 1) (cs := q1) (v := .slice A252 n254 c253) rfl Tryz.underlying24 rfl (Ctx.subI 0 C266 rfl) rfl) ?_
   refine WL.run to 1 rfl ?_
   obtain ⟨r268, hg267, hX153⟩ := bindE hX153
   refine WL.callH (bytes_Equal.calls k242 _ F A252 c253 n254 ((a0.getD x205.toNat TCast.z).Value) A8 c9 n10 a1 C266.pre0 hn255 hl256 hm257 hS258 hn11 hl12 hm13 hS14 r268 hg267) (Yenter.fn Tryz.func89 (by kernel_rfl) rfl (argsE (.cons rfl (.cons rfl .nil)))) ?_
   rintro e_ w_ ⟨rfl, ⟨m269, rfl⟩⟩
   refine ⟨_, rfl, ?_⟩
   have C270 := Ctx.drewN C266 m269
   refine WL.run to 1 rfl ?_
   refine WL.done ?_
   rcases iteE hX153 with ⟨hc271, hX153⟩ | ⟨hc271, hX153⟩
   ·refine W.condF (congrArg Value.bool (nb_t hc271)) ?_
    refine W.skip ?_
    refine inB_n ?_
    refine W.region rfl ?_
    refine WL.run to 2 rfl ?_
    refine WL.done ?_
    have C272 : Ctx _ _ _ _ _ [p200] := Ctx.pick [1] C270 rfl
    exact thenE_n ⟨k242, Nat.lt_succ_self _, x198, wi64 (x205 + 1), g199, p200, rfl, rfl, rfl, rfl, rfl, C272, hM201, hX153⟩
   ·refine W.condT (congrArg Value.bool (nb_f hc271)) ?_
    refine W.region rfl ?_
    refine WL.run to 2 rfl ?_
    refine WL.val (Yl.loadV (g := g259) (off := 0) (o := 0) (cs := q1) (v := .int .i64 ((a0.getD x205.toNat TCast.z).Worker)) rfl Tryz.underlying3 rfl (Ctx.subI 0 C270 rfl) rfl) ?_
    refine WL.run to 1 rfl ?_
    obtain ⟨p273, w274, hy275, C276, hM277⟩ := ev_mapUpdate (P := Tryz.prog) (ps1 := [CH.row g259 0 q1]) (ps2 := []) ((a0.getD x205.toNat TCast.z).Worker) x205 C270 hM201 Tryz.underlying139 Tryz.underlying3 rfl (keyInt .i64)
    have C278 : Ctx _ _ _ _ _ [CH.row g259 0 q1, p273] := C276
    refine WL.skip (hy275 _ _ _ _ _ rfl rfl rfl) ?_
    refine WL.done ?_
    refine inB_n ?_
    refine W.region rfl ?_
    refine WL.run to 2 rfl ?_
    refine WL.done ?_
    have C279 : Ctx _ _ _ _ _ [p273] := Ctx.pick [1] C278 rfl
    exact thenE_n ⟨k242, Nat.lt_succ_self _, mset x198 ((a0.getD x205.toNat TCast.z).Worker) x205, wi64 (x205 + 1), g199, p273, rfl, rfl, rfl, rfl, rfl, C279, hM277, hX153⟩
  ·refine W.condF (congrArg Value.bool (decide_eq_false hc243)) ?_
   refine W.exit ?_
   refine thenE_x ?_
   refine thenE_x ?_
   refine inB_here ?_
   cases hX153
   refine thenE_n ?_
   exact ⟨g199, p200, rfl, C206, hM201⟩
 ·rintro env_ w_ ⟨g149, p150, ho147, C152, hM151⟩
  apply kn env_ (.c ho147 .n)
  refine W.seq ?_
  refine W.region rfl ?_
  refine WL.run to 1 rfl ?_
  refine WL.done ?_
  obtain ⟨hc280, H⟩ := guardE H
  obtain ⟨es281, cl282, hp283, hE284⟩ := hM151
  have C285 : Ctx _ _ _ _ F [CH.emp, p150] := Ctx.emp C152
  refine W.seq ?_
  refine W.cutM (fun env_ w_ => ∃ (A_ : Option Addr) (c_ n_ : Nat) (p_ : CH) (xs_ : List Int), env_ 8 = .slice A_ n_ c_ ∧ Ctx w F D w_ F [p_, p150] ∧ n_ = xs_.length ∧ Row (Kd.int .i64) F p_ (.slice A_ n_ c_) xs_ ∧ xs_.Perm (x148.map (·.1))) ?_ ?_
  ·refine W.seq ?_
   refine W.region rfl ?_
   refine WL.val (Yl.move (v := .map (some g149)) rfl) ?_
   obtain ⟨r286, w287, hy288, C289, hr290, I291⟩ := ev_range (P := Tryz.prog) (ek := (Value.int .i64)) (ev' := (Value.int .i64)) (l := x148) C285 (Sub.mono (Ctx.sub_mem (p := p150) C285 (by simp)) (by rw [hp283]; exact CH.le_refl _)) Tryz.underlying139
   refine WL.val (hy288 _ _ _ rfl) ?_
   refine WL.done ?_
   refine W.block ?_
   refine W.loop (fun g_ env_ w_ => ∃ (A_ : Option Addr) (c_ n_ : Nat) (p_ : CH) (xs_ : List Int), env_ 29 = .pointer (some ⟨r286, 0, none⟩) ∧ env_ 8 = .slice A_ n_ c_ ∧ Ctx w F D w_ F [p_, p150] ∧ n_ = xs_.length ∧ Row (Kd.int .i64) F p_ (.slice A_ n_ c_) xs_ ∧ Iter (Value.int .i64) (Value.int .i64) w_ r286 g149 es281 cl282 xs_ g_) _ ⟨none, 0, 0, CH.emp, [], rfl, rfl, C289, rfl, Row.nil _ _, I291⟩ ?_
   rintro g_ env_ w_ ⟨A_, c_, n_, p_, xs_, hi_, h8_, C_, hn_, hR_, I_⟩
   refine W.seq ?_
   refine W.region rfl ?_
   rcases Iter.next (P := Tryz.prog) (fun v => match v with | .int _ n => n | _ => 0) (fun _ => rfl) I_ C_ (Sub.mono (Ctx.sub_mem (p := p150) C_ (by simp)) (by rw [hp283]; exact CH.le_refl _)) hr290 hE284 with ⟨hperm_, hy_⟩ | ⟨k_, v_, w2_, left_, hl_, hlen_, hy_, C2_, I2_, he_⟩
   ·refine WL.val (hy_ _ _ _ hi_) ?_
    refine WL.val (Yl.extract (v := .bool false) rfl rfl) ?_
    refine WL.done ?_
    refine thenE_n ?_
    refine W.seq ?_
    refine W.condF rfl ?_
    refine W.exit ?_
    refine thenE_x ?_
    refine thenE_x ?_
    refine inB_here ?_
    exact thenE_n ⟨A_, c_, n_, p_, xs_, h8_, C_, hn_, hR_, hperm_⟩
   ·refine WL.val (hy_ _ _ _ hi_) ?_
    refine WL.val (Yl.extract (v := .bool true) rfl rfl) ?_
    refine WL.done ?_
    refine thenE_n ?_
    refine W.seq ?_
    refine W.condT rfl ?_
    refine W.skip ?_
    refine thenE_n ?_
    refine W.block ?_
    refine W.seq ?_
    refine W.region rfl ?_
    refine WL.val (he_ _ _ _ hi_) ?_
    refine WL.val (Yl.extract (v := .int .i64 k_) rfl rfl) ?_
    refine WL.val (Yl.assign (v := .int .i64 k_) rfl) ?_
    refine WL.done ?_
    refine thenE_n ?_
    refine W.region rfl ?_
    refine WL.val (Yl.move (v := .slice A_ n_ c_) h8_) ?_
    refine WL.val (Yl.move (v := .int .i64 k_) rfl) ?_
    have K0_ := Ctx.start C2_.pre1
    obtain ⟨A1_, c1_, n1_, p1_, w3_, hn1_, hy1_, K1_, hR1_⟩ := ev_lit1' (P := Tryz.prog) 3 (Kd.int .i64) K0_ Tryz.underlying47 ti3 ⟨by decide, by decide⟩ k_ (.int .i64 k_) rfl
    refine WL.val (hy1_ _ _ _ rfl) ?_
    obtain ⟨A4_, c4_, n4_, p4_, w4_, hn4_, hy4_, K4_, hR4_⟩ := ev_append' (P := Tryz.prog) (cb := c1_) 3 (Kd.int .i64) [p1_] [p150] K1_ hR_ hn1_ (Row.sl hR1_) (Ctx.sub_of [] [p_, p150] K1_) Tryz.underlying47 ti3 rfl zo3 (by decide) (by decide) (by have hl2_ : xs_.length + 1 ≤ x148.length := hlen_; have hq2_ := hc280; simp only [List.length_cons, List.length_nil]; omega)
    have K5_ : Ctx _ _ _ _ F [p4_, p150] := Ctx.drop [] [p4_, p150] K4_
    refine WL.val (hy4_ _ _ _ _ rfl rfl) ?_
    refine WL.val (Yl.assign (v := .slice A4_ n4_ c4_) rfl) ?_
    refine WL.done ?_
    refine inB_n ?_
    exact thenE_n ⟨left_, hl_, A4_, c4_, n4_, p4_, xs_ ++ [k_], hi_, rfl, C2_.call1 K5_, hn4_, hR4_, Iter.keep I2_ C2_ K5_⟩
  ·rintro env_ w_ ⟨A292, c293, n294, p295, xs296, h8297, C298, hn299, hR300, hp301⟩
   have hl307 : slices_Sort.f 0 xs296 = some (sortI (x148.map (·.1))) := by unfold slices_Sort.f; rw [if_pos (by rw [hp301.length_eq, List.length_map]; exact hc280), sortI_perm hp301]
   refine W.seq ?_
   refine W.region rfl ?_
   refine WL.val (Yl.move (v := .slice A292 n294 c293) h8297) ?_
   refine WL.call (args := #[.slice A292 n294 c293]) (Yenter.fn Tryz.func96 (by kernel_rfl) rfl (argsE (.cons rfl .nil))) (slices_Sort.calls 0 _ F A292 c293 n294 p295 xs296 (Ctx.pre (qs := [p295]) (rest := [p150]) C298) hn299 hR300 _ hl307) ?_
   rintro e_ w_ ⟨p303, rfl, C304, hn305, hR306⟩
   refine ⟨_, rfl, ?_⟩
   refine WL.done ?_
   have C308 : Ctx _ _ _ _ _ [p303, p150] := Ctx.call (qs := [p295]) (rest := [p150]) C298 C304
   refine thenE_n ?_
   refine W.seq ?_
   refine W.region rfl ?_
   refine WL.val (Yl.move (v := .slice A292 n294 c293) h8297) ?_
   refine WL.run to 1 rfl ?_
   refine WL.done ?_
   refine W.ret ?_
   have C309 : Ctx _ _ _ _ _ [p303] := Ctx.pick [0] C308 rfl
   have e310 := Option.some.inj H
   subst e310
   exact post_r (resE1 rfl rfl) ⟨A292, c293, n294, p303, rfl, C309, hn305, hR306⟩
end Go.Proofs.YtobdpbnadjkhiaaGreat
