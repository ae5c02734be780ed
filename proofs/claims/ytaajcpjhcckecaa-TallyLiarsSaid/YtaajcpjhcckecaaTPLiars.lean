/- Functions of the program: each as a plain function of numbers and lists, and the proof that the program's own comes to it. Nothing is assumed but what each theorem says. -/
import Derived.Test.YtaajcpjhcckecaaTGc
namespace Go.Proofs.Ytaajcpjhcckecaa
open Go.RowKit Go.WG
set_option linter.unusedVariables false
set_option linter.unusedSimpArgs false
def juratlaw19_TallyLiars.l2 : Nat → List TCast → List Int → Int → Bool → Int → Option Bool
  | 0, _, _, _, _, _ => none
  | k + 1, a0, a1, x1040, x1634, x1637 => if x1637 < (a0.length : Int) then ((if x1634 = true then (some (true)) else (if 0 ≤ x1637 ∧ x1637 < (a0.length : Int) then (if 0 ≤ x1040 ∧ x1040 < (a0.length : Int) then (if ((a0.getD x1637.toNat TCast.z).Worker) = ((a0.getD x1040.toNat TCast.z).Worker) then ((juratref01_Same.f k ((a0.getD x1637.toNat TCast.z).Value) a1).bind fun r1714 => some (!r1714)) else (some (false))) else none) else none)).bind fun g1683 => juratlaw19_TallyLiars.l2 k a0 a1 x1040 g1683 (wi64 (x1637 + 1))) else (some x1634)
def juratlaw19_TallyLiars.l3 : Nat → List TCast → List Int → Int → Bool → Int → Option (Sum Bool Bool)
  | 0, _, _, _, _, _ => none
  | k + 1, a0, r52, x1040, x1875, x1877 => if x1877 < (r52.length : Int) then ((if x1875 = true then (some (true)) else (if 0 ≤ x1877 ∧ x1877 < (r52.length : Int) then (if 0 ≤ x1040 ∧ x1040 < (a0.length : Int) then (some (decide ((r52.getD x1877.toNat 0) = ((a0.getD x1040.toNat TCast.z).Worker)))) else none) else none)).bind fun g1943 => (if x1877 > 0 then (if 0 ≤ (wi64 (x1877 - 1)) ∧ (wi64 (x1877 - 1)) < (r52.length : Int) then (if 0 ≤ x1877 ∧ x1877 < (r52.length : Int) then (some (decide ((r52.getD (wi64 (x1877 - 1)).toNat 0) ≥ (r52.getD x1877.toNat 0)))) else none) else none) else (some (false))).bind fun g1978 => if g1978 = true then (some (Sum.inr false)) else (juratlaw19_TallyLiars.l3 k a0 r52 x1040 g1943 (wi64 (x1877 + 1)))) else (some (Sum.inl x1875))
def juratlaw19_TallyLiars.l1 : Nat → List TCast → List Int → List Int → Int → Option (Sum Unit Bool)
  | 0, _, _, _, _ => none
  | k + 1, a0, a1, r52, x1040 => if x1040 < (a0.length : Int) then ((juratlaw19_TallyLiars.l2 k a0 a1 x1040 false 0).bind fun x1625 => (juratlaw19_TallyLiars.l3 k a0 r52 x1040 false 0).bind fun o_ => sumE o_ (fun x1865 => if x1625 = x1865 then (juratlaw19_TallyLiars.l1 k a0 a1 r52 (wi64 (x1040 + 1))) else (some (Sum.inr false))) (fun p_ => some (Sum.inr p_))) else (some (Sum.inl ()))
def juratlaw19_TallyLiars.f (k : Nat) (a0 : List TCast) (a1 : List Int) : Option Bool := (juratref19_Great.f k a0).bind fun r20 => (if r20 = true then (some (true)) else (some (decide ((a1.length : Int) > 200)))).bind fun g23 => if g23 = true then ((juratlaw19_awake.f k ).bind fun r32 => some r32) else ((juratref19_Copy.f k a0).bind fun r37 => (tally_Liars.f k r37 a1).bind fun r52 => (juratlaw19_TallyLiars.l1 k a0 a1 r52 0).bind fun o_ => sumE o_ (fun _ => (if (r52.length : Int) ≤ (a0.length : Int) then ((juratlaw19_awake.f k ).bind fun r2022 => some r2022) else (some false)).bind fun x2017 => some x2017) (fun p_ => some p_))
set_option maxRecDepth 100000 in
set_option maxHeartbeats 4000000 in
theorem juratlaw19_TallyLiars.calls (k : Nat) (w : World) (F : CH) (A1 : Option Addr) (c2 : Nat) (n3 : Nat) (a0 : List TCast) (A8 : Option Addr) (c9 : Nat) (n10 : Nat) (a1 : List Int) (hp : Pre w F []) (hn4 : n3 = a0.length) (hl5 : a0.length ≤ c2) (hm6 : c2 ≤ maxLen) (hS7 : Sl TCast.K F F A1 a0) (hn11 : n10 = a1.length) (hl12 : a1.length ≤ c9) (hm13 : c9 ≤ maxLen) (hS14 : Sl (Kd.int .u8) F F A8 a1) (r0_ : Bool) (H : juratlaw19_TallyLiars.f k a0 a1 = some r0_) :
    Calls Try.prog 4 #[.slice A1 n3 c2, .slice A8 n10 c9] w fun e w' => e = .returned (.bool r0_) ∧ Ctx w F (domL []) w' F [] := by
  have C := Ctx.start hp
  generalize hD : domL [] = D at C ⊢
  unfold juratlaw19_TallyLiars.f at H
  refine Calls.ofW Try.func4 rfl (by simp [Try.ntmps4]) ?_
  refine W.seq ?_
  refine W.region rfl ?_
  refine WL.val (Yl.assign (v := .bool false) rfl) ?_
  refine WL.done ?_
  refine W.seq ?_
  refine W.seq ?_
  refine W.region rfl ?_
  refine WL.val (Yl.move (v := .slice A1 n3 c2) rfl) ?_
  obtain ⟨r20, hg19, H⟩ := bindE H
  refine WL.call (args := #[.slice A1 n3 c2]) (Yenter.fn Try.func15 (by kernel_rfl) rfl (argsE (.cons rfl .nil))) (juratref19_Great.calls k _ F A1 c2 n3 a0 C.pre0 hn4 hl5 hm6 hS7 r20 hg19) ?_
  rintro e_ w_ ⟨rfl, ⟨m21, rfl⟩⟩
  refine ⟨_, rfl, ?_⟩
  have C22 := Ctx.drewN C m21
  refine WL.val (Yl.move (v := .bool r20) rfl) ?_
  obtain ⟨g23, HE24, H⟩ := bindE H
  refine WL.cut (fun env_ w_ => env_ 17 = .bool g23 ∧ env_ 0 = .slice A1 n3 c2 ∧ env_ 1 = .slice A8 n10 c9 ∧ Ctx w F D w_ F []) ?_ ?_
  · skip
    rcases iteE HE24 with ⟨hc25, HE24⟩ | ⟨hc25, HE24⟩
    · skip
      refine WL.off rfl (congrArg Value.bool hc25) ?_
      refine WL.off rfl (congrArg Value.bool hc25) ?_
      refine WL.off rfl (congrArg Value.bool hc25) ?_
      refine WL.val (Yl.pickT (v := .bool true) (congrArg Value.bool hc25) rfl) ?_
      cases HE24
      exact WL.done ⟨rfl, rfl, rfl, C22⟩
    · skip
      refine WL.on rfl (congrArg Value.bool (Bool.eq_false_iff.2 hc25)) ?_
      refine WL.val (Yl.move (v := .slice A8 n10 c9) rfl) ?_
      refine WL.on rfl (congrArg Value.bool (Bool.eq_false_iff.2 hc25)) ?_
      refine WL.val (Yl.lenN (A := A8) (l := n10) (q := c9) (n := (a1.length : Int)) rfl Try.underlying23 (by omega)) ?_
      refine WL.on rfl (congrArg Value.bool (Bool.eq_false_iff.2 hc25)) ?_
      refine WL.val (Yl.gtr (m := (a1.length : Int)) (n := 200) (q := decide ((a1.length : Int) > 200)) rfl rfl rfl) ?_
      refine WL.val (Yl.pickF (v := .bool (decide ((a1.length : Int) > 200))) (congrArg Value.bool (Bool.eq_false_iff.2 hc25)) rfl) ?_
      cases HE24
      exact WL.done ⟨rfl, rfl, rfl, C22⟩
  · skip
    rintro env_ w_ ⟨ho26, ho27, ho28, C29⟩
    rcases iteE H with ⟨hc30, H⟩ | ⟨hc30, H⟩
    · skip
      refine W.condT (ho26.trans (congrArg Value.bool hc30)) ?_
      refine W.seq ?_
      refine W.region rfl ?_
      obtain ⟨r32, hg31, H⟩ := bindE H
      refine WL.call (args := #[]) (Yenter.fn Try.func10 (by kernel_rfl) rfl (argsE .nil)) (juratlaw19_awake.calls k _ F  (Ctx.pre (qs := []) (rest := []) C29)  r32 hg31) ?_
      rintro e_ w_ ⟨rfl, C33⟩
      refine ⟨_, rfl, ?_⟩
      have C34 : Ctx _ _ _ _ F [] := Ctx.call (qs := []) (rest := []) C29 C33
      refine WL.val (Yl.assign (v := .bool r32) rfl) ?_
      refine WL.done ?_
      refine W.ret ?_
      refine thenE_r ?_
      have e35 := Option.some.inj H
      subst e35
      exact post_r (resE1 rfl rfl) ⟨rfl, C34⟩
    · skip
      refine W.condF (ho26.trans (congrArg Value.bool (Bool.eq_false_iff.2 hc30))) ?_
      refine W.skip ?_
      refine W.seq ?_
      refine W.region rfl ?_
      refine WL.val (Yl.move (v := .slice A1 n3 c2) ho27) ?_
      obtain ⟨r37, hg36, H⟩ := bindE H
      refine WL.call (args := #[.slice A1 n3 c2]) (Yenter.fn Try.func16 (by kernel_rfl) rfl (argsE (.cons rfl .nil))) (juratref19_Copy.calls k _ F A1 c2 n3 a0 (Ctx.pre (qs := []) (rest := []) C29) hn4 hl5 hm6 hS7 r37 hg36) ?_
      rintro e_ w_ ⟨F38, A40, c41, n42, p44, rfl, le39, C46, hn43, hR45⟩
      refine ⟨_, rfl, ?_⟩
      have C47 : Ctx _ _ _ _ F38 [p44] := Ctx.call (qs := []) (rest := []) C29 C46
      refine WL.val (Yl.move (v := .slice A8 n10 c9) ho28) ?_
      have le48 : CH.le F38 (CH.join F38 p44) := CH.le_joinL _ _
      have lp49 : CH.le p44 (CH.join F38 p44) := CH.le_joinR (Ctx.dis_of [] [] C47)
      have C50 : Ctx _ _ _ _ (CH.join F38 p44) [] := Ctx.freeze [] [] C47
      obtain ⟨r52, hg51, H⟩ := bindE H
      refine WL.call (args := #[.slice A40 n42 c41, .slice A8 n10 c9]) (Yenter.fn Try.func14 (by kernel_rfl) rfl (argsE (.cons rfl (.cons rfl .nil)))) (tally_Liars.calls k _ (CH.join F38 p44) A40 c41 n42 r37 A8 c9 n10 a1 (Ctx.pre (qs := []) (rest := []) C50) hn43 (Row.len_le hR45).1 (Row.len_le hR45).2.1 (Sl.mono (Row.sl hR45) le48 lp49) hn11 hl12 hm13 (Sl.mono hS14 (CH.le_trans le39 le48) (CH.le_trans le39 le48)) r52 hg51) ?_
      rintro e_ w_ ⟨A53, c54, n55, p57, rfl, C59, hn56, hR58⟩
      refine ⟨_, rfl, ?_⟩
      have hR60 : Row (Kd.int .i64) F38 p57 (.slice A53 n55 c54) r52 := hR58
      have C61 : Ctx _ _ _ _ F38 [p57, p44] := Ctx.callL (qs := []) (rest := [p44]) C47 le48 C59
      refine WL.val (Yl.assign (v := .slice A53 n55 c54) rfl) ?_
      refine WL.done ?_
      refine W.seq ?_
      refine W.seq ?_
      refine W.region rfl ?_
      refine WL.val (Yl.assign (v := .int .i64 0) rfl) ?_
      refine WL.done ?_
      obtain ⟨o1035, hX1034, H⟩ := bindE H
      refine W.cutM (fun env_ w_ => env_ 0 = .slice A1 n3 c2 ∧ env_ 5 = .slice A53 n55 c54 ∧ Ctx w F D w_ F38 [p57, p44] ∧ o1035 = Sum.inl ()) ?_ ?_
      · skip
        refine W.block ?_
        refine W.loop (fun g_ env_ w_ => ∃ (x1040 : Int), env_ 0 = .slice A1 n3 c2 ∧ env_ 1 = .slice A8 n10 c9 ∧ env_ 5 = .slice A53 n55 c54 ∧ env_ 6 = .int .i64 x1040 ∧ Ctx w F D w_ F38 [p57, p44] ∧ juratlaw19_TallyLiars.l1 g_ a0 a1 r52 x1040 = some o1035) k ⟨0, ho27, ho28, rfl, rfl, C61, hX1034⟩ ?_
        clear hX1034
        rintro g_ env_ w_ ⟨x1040, ho1036, ho1037, ho1038, ho1039, C1041, hX1034⟩
        rcases g_ with _ | k1523
        · exact absurd hX1034 (by simp [juratlaw19_TallyLiars.l1])
        rw [juratlaw19_TallyLiars.l1] at hX1034
        refine W.seq ?_
        refine W.seq ?_
        refine W.region rfl ?_
        refine WL.val (Yl.move (v := .int .i64 x1040) ho1039) ?_
        refine WL.val (Yl.move (v := .slice A1 n3 c2) ho1036) ?_
        refine WL.val (Yl.lenN (A := A1) (l := n3) (q := c2) (n := (a0.length : Int)) rfl Try.underlying26 (by omega)) ?_
        refine WL.val (Yl.lss (m := x1040) (n := (a0.length : Int)) (q := decide (x1040 < (a0.length : Int))) rfl rfl rfl) ?_
        refine WL.done ?_
        rcases iteE hX1034 with ⟨hc1524, hX1034⟩ | ⟨hc1524, hX1034⟩
        · skip
          refine W.condT (congrArg Value.bool (decide_eq_true hc1524)) ?_
          refine W.skip ?_
          refine W.seq ?_
          refine W.block ?_
          refine W.seq ?_
          refine W.region rfl ?_
          refine WL.val (Yl.assign (v := .bool false) rfl) ?_
          refine WL.val (Yl.assign (v := .bool false) rfl) ?_
          refine WL.done ?_
          refine W.seq ?_
          refine W.seq ?_
          refine W.region rfl ?_
          refine WL.val (Yl.assign (v := .int .i64 0) rfl) ?_
          refine WL.done ?_
          obtain ⟨x1625, hX1628, hX1034⟩ := bindE hX1034
          refine W.cutM (fun env_ w_ => env_ 0 = .slice A1 n3 c2 ∧ env_ 1 = .slice A8 n10 c9 ∧ env_ 5 = .slice A53 n55 c54 ∧ env_ 6 = .int .i64 x1040 ∧ env_ 7 = .bool x1625 ∧ env_ 8 = .bool false ∧ Ctx w F D w_ F38 [p57, p44]) ?_ ?_
          · skip
            refine W.block ?_
            refine W.loop (fun g_ env_ w_ => ∃ (x1634 : Bool) (x1637 : Int), env_ 0 = .slice A1 n3 c2 ∧ env_ 1 = .slice A8 n10 c9 ∧ env_ 5 = .slice A53 n55 c54 ∧ env_ 6 = .int .i64 x1040 ∧ env_ 7 = .bool x1634 ∧ env_ 8 = .bool false ∧ env_ 9 = .int .i64 x1637 ∧ Ctx w F D w_ F38 [p57, p44] ∧ juratlaw19_TallyLiars.l2 g_ a0 a1 x1040 x1634 x1637 = some x1625) k1523 ⟨false, 0, ho1036, ho1037, ho1038, ho1039, rfl, rfl, rfl, C1041, hX1628⟩ ?_
            clear hX1628
            rintro g_ env_ w_ ⟨x1634, x1637, ho1629, ho1630, ho1631, ho1632, ho1633, ho1635, ho1636, C1638, hX1628⟩
            rcases g_ with _ | k1681
            · exact absurd hX1628 (by simp [juratlaw19_TallyLiars.l2])
            rw [juratlaw19_TallyLiars.l2] at hX1628
            refine W.seq ?_
            refine W.seq ?_
            refine W.region rfl ?_
            refine WL.val (Yl.move (v := .int .i64 x1637) ho1636) ?_
            refine WL.val (Yl.move (v := .slice A1 n3 c2) ho1629) ?_
            refine WL.val (Yl.lenN (A := A1) (l := n3) (q := c2) (n := (a0.length : Int)) rfl Try.underlying26 (by omega)) ?_
            refine WL.val (Yl.lss (m := x1637) (n := (a0.length : Int)) (q := decide (x1637 < (a0.length : Int))) rfl rfl rfl) ?_
            refine WL.done ?_
            rcases iteE hX1628 with ⟨hc1682, hX1628⟩ | ⟨hc1682, hX1628⟩
            · skip
              refine W.condT (congrArg Value.bool (decide_eq_true hc1682)) ?_
              refine W.skip ?_
              refine W.seq ?_
              refine W.block ?_
              refine W.region_quiet (by kernel_rfl) (by kernel_rfl) rfl ?_
              refine WQ.val (fun _ hw => by obtain ⟨_, rfl⟩ := hw; exact Yl.move (v := .bool x1634) ho1633) ?_
              refine WQ.val (fun _ hw => by obtain ⟨_, rfl⟩ := hw; exact Yl.move (v := .bool x1634) rfl) ?_
              obtain ⟨g1683, HE1684, hX1628⟩ := bindE hX1628
              refine WQ.cut (fun env_ => env_ 7 = .bool g1683 ∧ env_ 0 = .slice A1 n3 c2 ∧ env_ 1 = .slice A8 n10 c9 ∧ env_ 5 = .slice A53 n55 c54 ∧ env_ 6 = .int .i64 x1040 ∧ env_ 8 = .bool false ∧ env_ 9 = .int .i64 x1637) ?_ ?_
              · skip
                rcases iteE HE1684 with ⟨hc1685, HE1684⟩ | ⟨hc1685, HE1684⟩
                · skip
                  refine WQ.off rfl (congrArg Value.bool hc1685) ?_
                  refine WQ.off rfl (congrArg Value.bool hc1685) ?_
                  refine WQ.off rfl (congrArg Value.bool hc1685) ?_
                  refine WQ.off rfl (congrArg Value.bool hc1685) ?_
                  refine WQ.off rfl (congrArg Value.bool hc1685) ?_
                  refine WQ.off rfl (congrArg Value.bool hc1685) ?_
                  refine WQ.off rfl (congrArg Value.bool hc1685) ?_
                  refine WQ.off rfl (congrArg Value.bool hc1685) ?_
                  refine WQ.off rfl (congrArg Value.bool hc1685) ?_
                  refine WQ.off rfl (congrArg Value.bool hc1685) ?_
                  refine WQ.off rfl (congrArg Value.bool hc1685) ?_
                  refine WQ.off rfl (congrArg Value.bool hc1685) ?_
                  refine WQ.off' rfl rfl ?_
                  refine WQ.off' rfl rfl ?_
                  refine WQ.off' rfl rfl ?_
                  refine WQ.off' rfl rfl ?_
                  refine WQ.off' rfl rfl ?_
                  refine WQ.off' rfl rfl ?_
                  refine WQ.off' rfl rfl ?_
                  refine WQ.off' rfl rfl ?_
                  refine WQ.off rfl (congrArg Value.bool hc1685) ?_
                  refine WQ.val (fun _ hw => by obtain ⟨_, rfl⟩ := hw; exact Yl.pickT (v := .bool true) (congrArg Value.bool hc1685) rfl) ?_
                  refine WQ.val (fun _ hw => by obtain ⟨_, rfl⟩ := hw; exact Yl.assign (v := .bool true) rfl) ?_
                  cases HE1684
                  exact WQ.done ⟨rfl, ho1629, ho1630, ho1631, ho1632, ho1635, ho1636⟩
                · skip
                  refine WQ.on rfl (congrArg Value.bool (Bool.eq_false_iff.2 hc1685)) ?_
                  refine WQ.val (fun _ hw => by obtain ⟨_, rfl⟩ := hw; exact Yl.move (v := .slice A1 n3 c2) ho1629) ?_
                  refine WQ.on rfl (congrArg Value.bool (Bool.eq_false_iff.2 hc1685)) ?_
                  refine WQ.val (fun _ hw => by obtain ⟨_, rfl⟩ := hw; exact Yl.move (v := .int .i64 x1637) ho1636) ?_
                  refine WQ.on rfl (congrArg Value.bool (Bool.eq_false_iff.2 hc1685)) ?_
                  obtain ⟨hc1686, HE1684⟩ := guardE HE1684
                  obtain ⟨b1687, of1688, hA1689, he1690⟩ := hS7 (by omega)
                  refine WQ.val (fun _ hw => by obtain ⟨_, rfl⟩ := hw; exact Yl.elemAddr (i := x1637) rfl rfl hA1689 Try.underlying26 sz37 (by omega)) ?_
                  refine WQ.on rfl (congrArg Value.bool (Bool.eq_false_iff.2 hc1685)) ?_
                  refine WQ.val (fun _ hw => by obtain ⟨_, rfl⟩ := hw; exact Yl.fieldAddr (i := 0) rfl Try.underlying37 rfl sz3) ?_
                  refine WQ.on rfl (congrArg Value.bool (Bool.eq_false_iff.2 hc1685)) ?_
                  obtain ⟨cs1691, hr1692, hx1693⟩ := he1690 x1637.toNat _ (getD_some (d := TCast.z) (by omega))
                  obtain ⟨A1694, c1695, n1696, rfl, hn1697, hl1698, hm1699, hS1700⟩ := TCast.open hr1692
                  refine WQ.val (fun _ hw => by obtain ⟨_, rfl⟩ := hw; exact Yl.load (v := .int .i64 ((a0.getD x1637.toNat TCast.z).Worker)) rfl Try.underlying3 rfl ((((C1638.drewN _).fro.mono le39)).cell (hx1693 0 _ rfl))) ?_
                  refine WQ.on rfl (congrArg Value.bool (Bool.eq_false_iff.2 hc1685)) ?_
                  refine WQ.val (fun _ hw => by obtain ⟨_, rfl⟩ := hw; exact Yl.move (v := .slice A1 n3 c2) ho1629) ?_
                  refine WQ.on rfl (congrArg Value.bool (Bool.eq_false_iff.2 hc1685)) ?_
                  refine WQ.val (fun _ hw => by obtain ⟨_, rfl⟩ := hw; exact Yl.move (v := .int .i64 x1040) ho1632) ?_
                  refine WQ.on rfl (congrArg Value.bool (Bool.eq_false_iff.2 hc1685)) ?_
                  obtain ⟨hc1701, HE1684⟩ := guardE HE1684
                  refine WQ.val (fun _ hw => by obtain ⟨_, rfl⟩ := hw; exact Yl.elemAddr (i := x1040) rfl rfl hA1689 Try.underlying26 sz37 (by omega)) ?_
                  refine WQ.on rfl (congrArg Value.bool (Bool.eq_false_iff.2 hc1685)) ?_
                  refine WQ.val (fun _ hw => by obtain ⟨_, rfl⟩ := hw; exact Yl.fieldAddr (i := 0) rfl Try.underlying37 rfl sz3) ?_
                  refine WQ.on rfl (congrArg Value.bool (Bool.eq_false_iff.2 hc1685)) ?_
                  obtain ⟨cs1702, hr1703, hx1704⟩ := he1690 x1040.toNat _ (getD_some (d := TCast.z) (by omega))
                  obtain ⟨A1705, c1706, n1707, rfl, hn1708, hl1709, hm1710, hS1711⟩ := TCast.open hr1703
                  refine WQ.val (fun _ hw => by obtain ⟨_, rfl⟩ := hw; exact Yl.load (v := .int .i64 ((a0.getD x1040.toNat TCast.z).Worker)) rfl Try.underlying3 rfl ((((C1638.drewN _).fro.mono le39)).cell (hx1704 0 _ rfl))) ?_
                  refine WQ.on rfl (congrArg Value.bool (Bool.eq_false_iff.2 hc1685)) ?_
                  refine WQ.val (fun _ hw => by obtain ⟨_, rfl⟩ := hw; exact Yl.eql (m := (a0.getD x1637.toNat TCast.z).Worker) (n := (a0.getD x1040.toNat TCast.z).Worker) (q := decide (((a0.getD x1637.toNat TCast.z).Worker) = ((a0.getD x1040.toNat TCast.z).Worker))) rfl rfl rfl) ?_
                  refine WQ.on rfl (congrArg Value.bool (Bool.eq_false_iff.2 hc1685)) ?_
                  refine WQ.val (fun _ hw => by obtain ⟨_, rfl⟩ := hw; exact Yl.move (v := .bool (decide (((a0.getD x1637.toNat TCast.z).Worker) = ((a0.getD x1040.toNat TCast.z).Worker)))) rfl) ?_
                  rcases iteE HE1684 with ⟨hc1712, HE1684⟩ | ⟨hc1712, HE1684⟩
                  · skip
                    refine WQ.on rfl (congrArg Value.bool (decide_eq_true hc1712)) ?_
                    refine WQ.val (fun _ hw => by obtain ⟨_, rfl⟩ := hw; exact Yl.move (v := .slice A1 n3 c2) ho1629) ?_
                    refine WQ.on rfl (congrArg Value.bool (decide_eq_true hc1712)) ?_
                    refine WQ.val (fun _ hw => by obtain ⟨_, rfl⟩ := hw; exact Yl.move (v := .int .i64 x1637) ho1636) ?_
                    refine WQ.on rfl (congrArg Value.bool (decide_eq_true hc1712)) ?_
                    refine WQ.val (fun _ hw => by obtain ⟨_, rfl⟩ := hw; exact Yl.elemAddr (i := x1637) rfl rfl hA1689 Try.underlying26 sz37 (by omega)) ?_
                    refine WQ.on rfl (congrArg Value.bool (decide_eq_true hc1712)) ?_
                    refine WQ.val (fun _ hw => by obtain ⟨_, rfl⟩ := hw; exact Yl.fieldAddr (i := 1) rfl Try.underlying37 rfl sz23) ?_
                    refine WQ.on rfl (congrArg Value.bool (decide_eq_true hc1712)) ?_
                    refine WQ.val (fun _ hw => by obtain ⟨_, rfl⟩ := hw; exact Yl.load (v := .slice A1694 n1696 c1695) rfl Try.underlying23 rfl ((((C1638.drewN _).fro.mono le39)).cell (hx1693 1 _ rfl))) ?_
                    refine WQ.on rfl (congrArg Value.bool (decide_eq_true hc1712)) ?_
                    refine WQ.val (fun _ hw => by obtain ⟨_, rfl⟩ := hw; exact Yl.move (v := .slice A8 n10 c9) ho1630) ?_
                    refine WQ.on rfl (congrArg Value.bool (decide_eq_true hc1712)) ?_
                    obtain ⟨r1714, hg1713, HE1684⟩ := bindE HE1684
                    refine WQ.call (v := .bool r1714) (f := 12) (args := #[.slice A1694 n1696 c1695, .slice A8 n10 c9]) (fun _ hw => by obtain ⟨_, rfl⟩ := hw; exact (Yenter.fn Try.func12 (by kernel_rfl) rfl (argsE (.cons rfl (.cons rfl .nil))))) (fun _ hw => by obtain ⟨n_, rfl⟩ := hw; exact (juratref01_Same.calls k1681 _ F38 A1694 c1695 n1696 ((a0.getD x1637.toNat TCast.z).Value) A8 c9 n10 a1 (C1638.drewN n_).pre0 hn1697 hl1698 hm1699 (Sl.mono hS1700 le39 le39) hn11 hl12 hm13 (Sl.mono hS14 le39 le39) r1714 hg1713).mono (fun _ _ ⟨he, m_, hm_⟩ => ⟨he, n_ + m_, by rw [hm_, World.drewN_drewN]⟩)) ?_
                    refine WQ.on rfl (congrArg Value.bool (decide_eq_true hc1712)) ?_
                    refine WQ.val (fun _ hw => by obtain ⟨_, rfl⟩ := hw; exact Yl.not (p := r1714) (q := !r1714) rfl rfl) ?_
                    refine WQ.on rfl (congrArg Value.bool (Bool.eq_false_iff.2 hc1685)) ?_
                    refine WQ.val (fun _ hw => by obtain ⟨_, rfl⟩ := hw; exact Yl.pickT (v := .bool (!r1714)) (congrArg Value.bool (decide_eq_true hc1712)) rfl) ?_
                    refine WQ.val (fun _ hw => by obtain ⟨_, rfl⟩ := hw; exact Yl.pickF (v := .bool (!r1714)) (congrArg Value.bool (Bool.eq_false_iff.2 hc1685)) rfl) ?_
                    refine WQ.val (fun _ hw => by obtain ⟨_, rfl⟩ := hw; exact Yl.assign (v := .bool (!r1714)) rfl) ?_
                    cases HE1684
                    exact WQ.done ⟨rfl, ho1629, ho1630, ho1631, ho1632, ho1635, ho1636⟩
                  · skip
                    refine WQ.off rfl (congrArg Value.bool (decide_eq_false hc1712)) ?_
                    refine WQ.off rfl (congrArg Value.bool (decide_eq_false hc1712)) ?_
                    refine WQ.off rfl (congrArg Value.bool (decide_eq_false hc1712)) ?_
                    refine WQ.off rfl (congrArg Value.bool (decide_eq_false hc1712)) ?_
                    refine WQ.off rfl (congrArg Value.bool (decide_eq_false hc1712)) ?_
                    refine WQ.off rfl (congrArg Value.bool (decide_eq_false hc1712)) ?_
                    refine WQ.off rfl (congrArg Value.bool (decide_eq_false hc1712)) ?_
                    refine WQ.off rfl (congrArg Value.bool (decide_eq_false hc1712)) ?_
                    refine WQ.on rfl (congrArg Value.bool (Bool.eq_false_iff.2 hc1685)) ?_
                    refine WQ.val (fun _ hw => by obtain ⟨_, rfl⟩ := hw; exact Yl.pickF (v := .bool false) (congrArg Value.bool (decide_eq_false hc1712)) rfl) ?_
                    refine WQ.val (fun _ hw => by obtain ⟨_, rfl⟩ := hw; exact Yl.pickF (v := .bool false) (congrArg Value.bool (Bool.eq_false_iff.2 hc1685)) rfl) ?_
                    refine WQ.val (fun _ hw => by obtain ⟨_, rfl⟩ := hw; exact Yl.assign (v := .bool false) rfl) ?_
                    cases HE1684
                    exact WQ.done ⟨rfl, ho1629, ho1630, ho1631, ho1632, ho1635, ho1636⟩
              · skip
                rintro env_ ⟨ho1715, ho1716, ho1717, ho1718, ho1719, ho1720, ho1721⟩
                intro nq1722
                have C1723 := Ctx.drewN C1638 nq1722
                refine inB_n ?_
                refine W.region rfl ?_
                refine WL.val (Yl.move (v := .int .i64 x1637) ho1721) ?_
                refine WL.val (Yl.add (m := x1637) (n := 1) (r := wi64 (x1637 + 1)) rfl rfl rfl) ?_
                refine WL.val (Yl.assign (v := .int .i64 (wi64 (x1637 + 1))) rfl) ?_
                refine WL.done ?_
                exact thenE_n ⟨k1681, Nat.lt_succ_self _, g1683, wi64 (x1637 + 1), ho1716, ho1717, ho1718, ho1719, ho1715, ho1720, rfl, C1723, hX1628⟩
            · skip
              refine W.condF (congrArg Value.bool (decide_eq_false hc1682)) ?_
              refine W.exit ?_
              refine thenE_x ?_
              refine thenE_x ?_
              refine inB_here ?_
              cases hX1628
              refine thenE_n ?_
              exact ⟨ho1629, ho1630, ho1631, ho1632, ho1633, ho1635, C1638⟩
          · skip
            rintro env_ w_ ⟨ho1620, ho1621, ho1622, ho1623, ho1624, ho1626, C1627⟩
            refine W.seq ?_
            refine W.seq ?_
            refine W.region rfl ?_
            refine WL.val (Yl.assign (v := .int .i64 0) rfl) ?_
            refine WL.done ?_
            obtain ⟨o1868, hX1867, hX1034⟩ := bindE hX1034
            refine W.cutM (fun env_ w_ => ∃ (x1865 : Bool), env_ 0 = .slice A1 n3 c2 ∧ env_ 1 = .slice A8 n10 c9 ∧ env_ 5 = .slice A53 n55 c54 ∧ env_ 6 = .int .i64 x1040 ∧ env_ 7 = .bool x1625 ∧ env_ 8 = .bool x1865 ∧ Ctx w F D w_ F38 [p57, p44] ∧ o1868 = Sum.inl x1865) ?_ ?_
            · skip
              refine W.block ?_
              refine W.loop (fun g_ env_ w_ => ∃ (x1875 : Bool) (x1877 : Int), env_ 0 = .slice A1 n3 c2 ∧ env_ 1 = .slice A8 n10 c9 ∧ env_ 5 = .slice A53 n55 c54 ∧ env_ 6 = .int .i64 x1040 ∧ env_ 7 = .bool x1625 ∧ env_ 8 = .bool x1875 ∧ env_ 10 = .int .i64 x1877 ∧ Ctx w F D w_ F38 [p57, p44] ∧ juratlaw19_TallyLiars.l3 g_ a0 r52 x1040 x1875 x1877 = some o1868) k1523 ⟨false, 0, ho1620, ho1621, ho1622, ho1623, ho1624, ho1626, rfl, C1627, hX1867⟩ ?_
              clear hX1867
              rintro g_ env_ w_ ⟨x1875, x1877, ho1869, ho1870, ho1871, ho1872, ho1873, ho1874, ho1876, C1878, hX1867⟩
              rcases g_ with _ | k1941
              · exact absurd hX1867 (by simp [juratlaw19_TallyLiars.l3])
              rw [juratlaw19_TallyLiars.l3] at hX1867
              refine W.seq ?_
              refine W.seq ?_
              refine W.region rfl ?_
              refine WL.val (Yl.move (v := .int .i64 x1877) ho1876) ?_
              refine WL.val (Yl.move (v := .slice A53 n55 c54) ho1871) ?_
              refine WL.val (Yl.lenN (A := A53) (l := n55) (q := c54) (n := (r52.length : Int)) rfl Try.underlying31 (by omega)) ?_
              refine WL.val (Yl.lss (m := x1877) (n := (r52.length : Int)) (q := decide (x1877 < (r52.length : Int))) rfl rfl rfl) ?_
              refine WL.done ?_
              rcases iteE hX1867 with ⟨hc1942, hX1867⟩ | ⟨hc1942, hX1867⟩
              · skip
                refine W.condT (congrArg Value.bool (decide_eq_true hc1942)) ?_
                refine W.skip ?_
                refine W.seq ?_
                refine W.block ?_
                refine W.seq ?_
                refine W.region_quiet (by kernel_rfl) (by kernel_rfl) rfl ?_
                refine WQ.val (fun _ hw => by obtain ⟨_, rfl⟩ := hw; exact Yl.move (v := .bool x1875) ho1874) ?_
                refine WQ.val (fun _ hw => by obtain ⟨_, rfl⟩ := hw; exact Yl.move (v := .bool x1875) rfl) ?_
                obtain ⟨g1943, HE1944, hX1867⟩ := bindE hX1867
                refine WQ.cut (fun env_ => env_ 8 = .bool g1943 ∧ env_ 0 = .slice A1 n3 c2 ∧ env_ 1 = .slice A8 n10 c9 ∧ env_ 5 = .slice A53 n55 c54 ∧ env_ 6 = .int .i64 x1040 ∧ env_ 7 = .bool x1625 ∧ env_ 10 = .int .i64 x1877) ?_ ?_
                · skip
                  rcases iteE HE1944 with ⟨hc1945, HE1944⟩ | ⟨hc1945, HE1944⟩
                  · skip
                    refine WQ.off rfl (congrArg Value.bool hc1945) ?_
                    refine WQ.off rfl (congrArg Value.bool hc1945) ?_
                    refine WQ.off rfl (congrArg Value.bool hc1945) ?_
                    refine WQ.off rfl (congrArg Value.bool hc1945) ?_
                    refine WQ.off rfl (congrArg Value.bool hc1945) ?_
                    refine WQ.off rfl (congrArg Value.bool hc1945) ?_
                    refine WQ.off rfl (congrArg Value.bool hc1945) ?_
                    refine WQ.off rfl (congrArg Value.bool hc1945) ?_
                    refine WQ.off rfl (congrArg Value.bool hc1945) ?_
                    refine WQ.off rfl (congrArg Value.bool hc1945) ?_
                    refine WQ.val (fun _ hw => by obtain ⟨_, rfl⟩ := hw; exact Yl.pickT (v := .bool true) (congrArg Value.bool hc1945) rfl) ?_
                    refine WQ.val (fun _ hw => by obtain ⟨_, rfl⟩ := hw; exact Yl.assign (v := .bool true) rfl) ?_
                    cases HE1944
                    exact WQ.done ⟨rfl, ho1869, ho1870, ho1871, ho1872, ho1873, ho1876⟩
                  · skip
                    refine WQ.on rfl (congrArg Value.bool (Bool.eq_false_iff.2 hc1945)) ?_
                    refine WQ.val (fun _ hw => by obtain ⟨_, rfl⟩ := hw; exact Yl.move (v := .slice A53 n55 c54) ho1871) ?_
                    refine WQ.on rfl (congrArg Value.bool (Bool.eq_false_iff.2 hc1945)) ?_
                    refine WQ.val (fun _ hw => by obtain ⟨_, rfl⟩ := hw; exact Yl.move (v := .int .i64 x1877) ho1876) ?_
                    refine WQ.on rfl (congrArg Value.bool (Bool.eq_false_iff.2 hc1945)) ?_
                    obtain ⟨hc1946, HE1944⟩ := guardE HE1944
                    obtain ⟨b1947, of1948, hA1949, he1950⟩ := (Row.sl hR60) (by omega)
                    refine WQ.val (fun _ hw => by obtain ⟨_, rfl⟩ := hw; exact Yl.elemAddr (i := x1877) rfl rfl hA1949 Try.underlying31 sz3 (by omega)) ?_
                    refine WQ.on rfl (congrArg Value.bool (Bool.eq_false_iff.2 hc1945)) ?_
                    obtain ⟨cs1951, hr1952, hx1953⟩ := he1950 x1877.toNat _ (getD_some (d := 0) (by omega))
                    obtain rfl := hr1952
                    refine WQ.val (fun _ hw => by obtain ⟨_, rfl⟩ := hw; exact Yl.load (v := .int .i64 (r52.getD x1877.toNat 0)) rfl Try.underlying3 rfl (((Ctx.sub_of [] [p44] (C1878.drewN _))).cell (hx1953 0 _ rfl))) ?_
                    refine WQ.on rfl (congrArg Value.bool (Bool.eq_false_iff.2 hc1945)) ?_
                    refine WQ.val (fun _ hw => by obtain ⟨_, rfl⟩ := hw; exact Yl.move (v := .slice A1 n3 c2) ho1869) ?_
                    refine WQ.on rfl (congrArg Value.bool (Bool.eq_false_iff.2 hc1945)) ?_
                    refine WQ.val (fun _ hw => by obtain ⟨_, rfl⟩ := hw; exact Yl.move (v := .int .i64 x1040) ho1872) ?_
                    refine WQ.on rfl (congrArg Value.bool (Bool.eq_false_iff.2 hc1945)) ?_
                    obtain ⟨hc1954, HE1944⟩ := guardE HE1944
                    obtain ⟨b1955, of1956, hA1957, he1958⟩ := hS7 (by omega)
                    refine WQ.val (fun _ hw => by obtain ⟨_, rfl⟩ := hw; exact Yl.elemAddr (i := x1040) rfl rfl hA1957 Try.underlying26 sz37 (by omega)) ?_
                    refine WQ.on rfl (congrArg Value.bool (Bool.eq_false_iff.2 hc1945)) ?_
                    refine WQ.val (fun _ hw => by obtain ⟨_, rfl⟩ := hw; exact Yl.fieldAddr (i := 0) rfl Try.underlying37 rfl sz3) ?_
                    refine WQ.on rfl (congrArg Value.bool (Bool.eq_false_iff.2 hc1945)) ?_
                    obtain ⟨cs1959, hr1960, hx1961⟩ := he1958 x1040.toNat _ (getD_some (d := TCast.z) (by omega))
                    obtain ⟨A1962, c1963, n1964, rfl, hn1965, hl1966, hm1967, hS1968⟩ := TCast.open hr1960
                    refine WQ.val (fun _ hw => by obtain ⟨_, rfl⟩ := hw; exact Yl.load (v := .int .i64 ((a0.getD x1040.toNat TCast.z).Worker)) rfl Try.underlying3 rfl ((((C1878.drewN _).fro.mono le39)).cell (hx1961 0 _ rfl))) ?_
                    refine WQ.on rfl (congrArg Value.bool (Bool.eq_false_iff.2 hc1945)) ?_
                    refine WQ.val (fun _ hw => by obtain ⟨_, rfl⟩ := hw; exact Yl.eql (m := r52.getD x1877.toNat 0) (n := (a0.getD x1040.toNat TCast.z).Worker) (q := decide ((r52.getD x1877.toNat 0) = ((a0.getD x1040.toNat TCast.z).Worker))) rfl rfl rfl) ?_
                    refine WQ.val (fun _ hw => by obtain ⟨_, rfl⟩ := hw; exact Yl.pickF (v := .bool (decide ((r52.getD x1877.toNat 0) = ((a0.getD x1040.toNat TCast.z).Worker)))) (congrArg Value.bool (Bool.eq_false_iff.2 hc1945)) rfl) ?_
                    refine WQ.val (fun _ hw => by obtain ⟨_, rfl⟩ := hw; exact Yl.assign (v := .bool (decide ((r52.getD x1877.toNat 0) = ((a0.getD x1040.toNat TCast.z).Worker)))) rfl) ?_
                    cases HE1944
                    exact WQ.done ⟨rfl, ho1869, ho1870, ho1871, ho1872, ho1873, ho1876⟩
                · skip
                  rintro env_ ⟨ho1969, ho1970, ho1971, ho1972, ho1973, ho1974, ho1975⟩
                  intro nq1976
                  have C1977 := Ctx.drewN C1878 nq1976
                  refine W.seq ?_
                  refine W.region_quiet (by kernel_rfl) (by kernel_rfl) rfl ?_
                  refine WQ.val (fun _ hw => by obtain ⟨_, rfl⟩ := hw; exact Yl.move (v := .int .i64 x1877) ho1975) ?_
                  refine WQ.val (fun _ hw => by obtain ⟨_, rfl⟩ := hw; exact Yl.gtr (m := x1877) (n := 0) (q := decide (x1877 > 0)) rfl rfl rfl) ?_
                  refine WQ.val (fun _ hw => by obtain ⟨_, rfl⟩ := hw; exact Yl.move (v := .bool (decide (x1877 > 0))) rfl) ?_
                  obtain ⟨g1978, HE1979, hX1867⟩ := bindE hX1867
                  refine WQ.cut (fun env_ => env_ 91 = .bool g1978 ∧ env_ 0 = .slice A1 n3 c2 ∧ env_ 1 = .slice A8 n10 c9 ∧ env_ 5 = .slice A53 n55 c54 ∧ env_ 6 = .int .i64 x1040 ∧ env_ 7 = .bool x1625 ∧ env_ 8 = .bool g1943 ∧ env_ 10 = .int .i64 x1877) ?_ ?_
                  · skip
                    rcases iteE HE1979 with ⟨hc1980, HE1979⟩ | ⟨hc1980, HE1979⟩
                    · skip
                      refine WQ.on rfl (congrArg Value.bool (decide_eq_true hc1980)) ?_
                      refine WQ.val (fun _ hw => by obtain ⟨_, rfl⟩ := hw; exact Yl.move (v := .slice A53 n55 c54) ho1972) ?_
                      refine WQ.on rfl (congrArg Value.bool (decide_eq_true hc1980)) ?_
                      refine WQ.val (fun _ hw => by obtain ⟨_, rfl⟩ := hw; exact Yl.move (v := .int .i64 x1877) ho1975) ?_
                      refine WQ.on rfl (congrArg Value.bool (decide_eq_true hc1980)) ?_
                      refine WQ.val (fun _ hw => by obtain ⟨_, rfl⟩ := hw; exact Yl.sub (m := x1877) (n := 1) (r := wi64 (x1877 - 1)) rfl rfl rfl) ?_
                      refine WQ.on rfl (congrArg Value.bool (decide_eq_true hc1980)) ?_
                      obtain ⟨hc1981, HE1979⟩ := guardE HE1979
                      obtain ⟨b1982, of1983, hA1984, he1985⟩ := (Row.sl hR60) (by omega)
                      refine WQ.val (fun _ hw => by obtain ⟨_, rfl⟩ := hw; exact Yl.elemAddr (i := wi64 (x1877 - 1)) rfl rfl hA1984 Try.underlying31 sz3 (by omega)) ?_
                      refine WQ.on rfl (congrArg Value.bool (decide_eq_true hc1980)) ?_
                      obtain ⟨cs1986, hr1987, hx1988⟩ := he1985 (wi64 (x1877 - 1)).toNat _ (getD_some (d := 0) (by omega))
                      obtain rfl := hr1987
                      refine WQ.val (fun _ hw => by obtain ⟨_, rfl⟩ := hw; exact Yl.load (v := .int .i64 (r52.getD (wi64 (x1877 - 1)).toNat 0)) rfl Try.underlying3 rfl (((Ctx.sub_of [] [p44] (C1977.drewN _))).cell (hx1988 0 _ rfl))) ?_
                      refine WQ.on rfl (congrArg Value.bool (decide_eq_true hc1980)) ?_
                      refine WQ.val (fun _ hw => by obtain ⟨_, rfl⟩ := hw; exact Yl.move (v := .slice A53 n55 c54) ho1972) ?_
                      refine WQ.on rfl (congrArg Value.bool (decide_eq_true hc1980)) ?_
                      refine WQ.val (fun _ hw => by obtain ⟨_, rfl⟩ := hw; exact Yl.move (v := .int .i64 x1877) ho1975) ?_
                      refine WQ.on rfl (congrArg Value.bool (decide_eq_true hc1980)) ?_
                      obtain ⟨hc1989, HE1979⟩ := guardE HE1979
                      refine WQ.val (fun _ hw => by obtain ⟨_, rfl⟩ := hw; exact Yl.elemAddr (i := x1877) rfl rfl hA1984 Try.underlying31 sz3 (by omega)) ?_
                      refine WQ.on rfl (congrArg Value.bool (decide_eq_true hc1980)) ?_
                      obtain ⟨cs1990, hr1991, hx1992⟩ := he1985 x1877.toNat _ (getD_some (d := 0) (by omega))
                      obtain rfl := hr1991
                      refine WQ.val (fun _ hw => by obtain ⟨_, rfl⟩ := hw; exact Yl.load (v := .int .i64 (r52.getD x1877.toNat 0)) rfl Try.underlying3 rfl (((Ctx.sub_of [] [p44] (C1977.drewN _))).cell (hx1992 0 _ rfl))) ?_
                      refine WQ.on rfl (congrArg Value.bool (decide_eq_true hc1980)) ?_
                      refine WQ.val (fun _ hw => by obtain ⟨_, rfl⟩ := hw; exact Yl.geq (m := r52.getD (wi64 (x1877 - 1)).toNat 0) (n := r52.getD x1877.toNat 0) (q := decide ((r52.getD (wi64 (x1877 - 1)).toNat 0) ≥ (r52.getD x1877.toNat 0))) rfl rfl rfl) ?_
                      refine WQ.val (fun _ hw => by obtain ⟨_, rfl⟩ := hw; exact Yl.pickT (v := .bool (decide ((r52.getD (wi64 (x1877 - 1)).toNat 0) ≥ (r52.getD x1877.toNat 0)))) (congrArg Value.bool (decide_eq_true hc1980)) rfl) ?_
                      cases HE1979
                      exact WQ.done ⟨rfl, ho1970, ho1971, ho1972, ho1973, ho1974, ho1969, ho1975⟩
                    · skip
                      refine WQ.off rfl (congrArg Value.bool (decide_eq_false hc1980)) ?_
                      refine WQ.off rfl (congrArg Value.bool (decide_eq_false hc1980)) ?_
                      refine WQ.off rfl (congrArg Value.bool (decide_eq_false hc1980)) ?_
                      refine WQ.off rfl (congrArg Value.bool (decide_eq_false hc1980)) ?_
                      refine WQ.off rfl (congrArg Value.bool (decide_eq_false hc1980)) ?_
                      refine WQ.off rfl (congrArg Value.bool (decide_eq_false hc1980)) ?_
                      refine WQ.off rfl (congrArg Value.bool (decide_eq_false hc1980)) ?_
                      refine WQ.off rfl (congrArg Value.bool (decide_eq_false hc1980)) ?_
                      refine WQ.off rfl (congrArg Value.bool (decide_eq_false hc1980)) ?_
                      refine WQ.off rfl (congrArg Value.bool (decide_eq_false hc1980)) ?_
                      refine WQ.val (fun _ hw => by obtain ⟨_, rfl⟩ := hw; exact Yl.pickF (v := .bool false) (congrArg Value.bool (decide_eq_false hc1980)) rfl) ?_
                      cases HE1979
                      exact WQ.done ⟨rfl, ho1970, ho1971, ho1972, ho1973, ho1974, ho1969, ho1975⟩
                  · skip
                    rintro env_ ⟨ho1993, ho1994, ho1995, ho1996, ho1997, ho1998, ho1999, ho2000⟩
                    intro nq2001
                    have C2002 := Ctx.drewN C1977 nq2001
                    rcases iteE hX1867 with ⟨hc2003, hX1867⟩ | ⟨hc2003, hX1867⟩
                    · skip
                      refine W.condT (ho1993.trans (congrArg Value.bool hc2003)) ?_
                      refine W.seq ?_
                      refine W.region rfl ?_
                      refine WL.val (Yl.assign (v := .bool false) rfl) ?_
                      refine WL.done ?_
                      refine W.ret ?_
                      refine inB_r ?_
                      refine thenE_r ?_
                      refine thenE_r ?_
                      refine inB_r ?_
                      refine thenE_r ?_
                      refine thenE_r ?_
                      refine inB_r ?_
                      refine thenE_r ?_
                      refine thenE_r ?_
                      refine inB_r ?_
                      refine thenE_r ?_
                      refine thenE_r ?_
                      cases hX1867
                      replace hX1034 := sumE_r hX1034
                      cases hX1034
                      replace H := sumE_r H
                      have C2004 : Ctx _ _ _ _ F38 [p44] := Ctx.drop [] [p44] C2002
                      have C2005 : Ctx _ _ _ _ F38 [] := Ctx.drop [] [] C2004
                      have e2006 := Option.some.inj H
                      subst e2006
                      exact post_r (resE1 rfl rfl) ⟨rfl, (Ctx.weak C2005 (CH.le_refl _))⟩
                    · skip
                      refine W.condF (ho1993.trans (congrArg Value.bool (Bool.eq_false_iff.2 hc2003))) ?_
                      refine W.skip ?_
                      refine inB_n ?_
                      refine W.region rfl ?_
                      refine WL.val (Yl.move (v := .int .i64 x1877) ho2000) ?_
                      refine WL.val (Yl.add (m := x1877) (n := 1) (r := wi64 (x1877 + 1)) rfl rfl rfl) ?_
                      refine WL.val (Yl.assign (v := .int .i64 (wi64 (x1877 + 1))) rfl) ?_
                      refine WL.done ?_
                      exact thenE_n ⟨k1941, Nat.lt_succ_self _, g1943, wi64 (x1877 + 1), ho1994, ho1995, ho1996, ho1997, ho1998, ho1999, rfl, C2002, hX1867⟩
              · skip
                refine W.condF (congrArg Value.bool (decide_eq_false hc1942)) ?_
                refine W.exit ?_
                refine thenE_x ?_
                refine thenE_x ?_
                refine inB_here ?_
                cases hX1867
                refine thenE_n ?_
                exact ⟨x1875, ho1869, ho1870, ho1871, ho1872, ho1873, ho1874, C1878, rfl⟩
            · skip
              rintro env_ w_ ⟨x1865, ho1859, ho1860, ho1861, ho1862, ho1863, ho1864, C1866, rfl⟩
              replace hX1034 := sumE_l hX1034
              refine W.seq ?_
              refine W.region rfl ?_
              refine WL.val (Yl.move (v := .bool x1625) ho1863) ?_
              refine WL.val (Yl.move (v := .bool x1865) ho1864) ?_
              refine WL.val (Yl.bneD (p := x1625) (q := x1865) rfl rfl Try.underlying4) ?_
              refine WL.done ?_
              rcases iteE hX1034 with ⟨hc2007, hX1034⟩ | ⟨hc2007, hX1034⟩
              · skip
                refine W.condF (congrArg Value.bool (ndec_t hc2007)) ?_
                refine W.skip ?_
                refine inB_n ?_
                refine W.region rfl ?_
                refine WL.val (Yl.move (v := .int .i64 x1040) ho1862) ?_
                refine WL.val (Yl.add (m := x1040) (n := 1) (r := wi64 (x1040 + 1)) rfl rfl rfl) ?_
                refine WL.val (Yl.assign (v := .int .i64 (wi64 (x1040 + 1))) rfl) ?_
                refine WL.done ?_
                exact thenE_n ⟨k1523, Nat.lt_succ_self _, wi64 (x1040 + 1), ho1859, ho1860, ho1861, rfl, C1866, hX1034⟩
              · skip
                refine W.condT (congrArg Value.bool (ndec_f hc2007)) ?_
                refine W.seq ?_
                refine W.region rfl ?_
                refine WL.val (Yl.assign (v := .bool false) rfl) ?_
                refine WL.done ?_
                refine W.ret ?_
                refine inB_r ?_
                refine thenE_r ?_
                refine thenE_r ?_
                refine inB_r ?_
                refine thenE_r ?_
                refine thenE_r ?_
                cases hX1034
                replace H := sumE_r H
                have C2008 : Ctx _ _ _ _ F38 [p44] := Ctx.drop [] [p44] C1866
                have C2009 : Ctx _ _ _ _ F38 [] := Ctx.drop [] [] C2008
                have e2010 := Option.some.inj H
                subst e2010
                exact post_r (resE1 rfl rfl) ⟨rfl, (Ctx.weak C2009 (CH.le_refl _))⟩
        · skip
          refine W.condF (congrArg Value.bool (decide_eq_false hc1524)) ?_
          refine W.exit ?_
          refine thenE_x ?_
          refine thenE_x ?_
          refine inB_here ?_
          cases hX1034
          refine thenE_n ?_
          exact ⟨ho1036, ho1038, C1041, rfl⟩
      · skip
        rintro env_ w_ ⟨ho1031, ho1032, C1033, rfl⟩
        replace H := sumE_l H
        refine W.seq ?_
        obtain ⟨x2017, hX2019, H⟩ := bindE H
        refine W.cutM (fun env_ w_ => env_ 4 = .bool x2017 ∧ Ctx w F D w_ F38 [p57, p44]) ?_ ?_
        · skip
          refine W.region rfl ?_
          refine WL.val (Yl.move (v := .slice A53 n55 c54) ho1032) ?_
          refine WL.val (Yl.lenN (A := A53) (l := n55) (q := c54) (n := (r52.length : Int)) rfl Try.underlying31 (by omega)) ?_
          refine WL.val (Yl.move (v := .slice A1 n3 c2) ho1031) ?_
          refine WL.val (Yl.lenN (A := A1) (l := n3) (q := c2) (n := (a0.length : Int)) rfl Try.underlying26 (by omega)) ?_
          refine WL.val (Yl.leq (m := (r52.length : Int)) (n := (a0.length : Int)) (q := decide ((r52.length : Int) ≤ (a0.length : Int))) rfl rfl rfl) ?_
          refine WL.val (Yl.move (v := .bool (decide ((r52.length : Int) ≤ (a0.length : Int)))) rfl) ?_
          rcases iteE hX2019 with ⟨hc2020, hX2019⟩ | ⟨hc2020, hX2019⟩
          · skip
            refine WL.on rfl (congrArg Value.bool (decide_eq_true hc2020)) ?_
            obtain ⟨r2022, hg2021, hX2019⟩ := bindE hX2019
            refine WL.call (args := #[]) (Yenter.fn Try.func10 (by kernel_rfl) rfl (argsE .nil)) (juratlaw19_awake.calls k _ F38  (Ctx.pre (qs := []) (rest := [p57, p44]) C1033)  r2022 hg2021) ?_
            rintro e_ w_ ⟨rfl, C2023⟩
            refine ⟨_, rfl, ?_⟩
            have C2024 : Ctx _ _ _ _ F38 [p57, p44] := Ctx.call (qs := []) (rest := [p57, p44]) C1033 C2023
            refine WL.val (Yl.pickT (v := .bool r2022) (congrArg Value.bool (decide_eq_true hc2020)) rfl) ?_
            refine WL.val (Yl.assign (v := .bool r2022) rfl) ?_
            refine WL.done ?_
            cases hX2019
            refine thenE_n ?_
            exact ⟨rfl, C2024⟩
          · skip
            refine WL.off rfl (congrArg Value.bool (decide_eq_false hc2020)) ?_
            refine WL.val (Yl.pickF (v := .bool false) (congrArg Value.bool (decide_eq_false hc2020)) rfl) ?_
            refine WL.val (Yl.assign (v := .bool false) rfl) ?_
            refine WL.done ?_
            cases hX2019
            refine thenE_n ?_
            exact ⟨rfl, C1033⟩
        · skip
          rintro env_ w_ ⟨ho2016, C2018⟩
          refine W.ret ?_
          have C2025 : Ctx _ _ _ _ F38 [p44] := Ctx.drop [] [p44] C2018
          have C2026 : Ctx _ _ _ _ F38 [] := Ctx.drop [] [] C2025
          have e2027 := Option.some.inj H
          subst e2027
          exact post_r (resE1 rfl ho2016) ⟨rfl, (Ctx.weak C2026 (CH.le_refl _))⟩
end Go.Proofs.Ytaajcpjhcckecaa
