/- Functions of the program: each as a plain function of numbers and lists, and the proof that the program's own comes to it. Nothing is assumed but what each theorem says. -/
import Derived.Test.YtaajcpjhcckecaaTGc
namespace Go.Proofs.Ytaajcpjhcckecaa
open Go.RowKit Go.WG
set_option linter.unusedVariables false
set_option linter.unusedSimpArgs false
def juratlaw19_TallyOne.l1 : Nat → Int → List TCast → List Int → Bool → Int → Option (Sum Unit Bool)
  | 0, _, _, _, _, _ => none
  | k + 1, a1, r47, r62, r63, x371 => if x371 < (r47.length : Int) then ((if 0 ≤ x371 ∧ x371 < (r47.length : Int) then ((tally_Count.f k r47 ((r47.getD x371.toNat TCast.z).Value)).bind fun r639 => if r639 > a1 then (if r63 = true then ((juratref01_Same.f k r62 ((r47.getD x371.toNat TCast.z).Value)).bind fun r648 => some (!r648)) else (some true)) else (some false)) else none).bind fun x595 => if x595 = true then (some (Sum.inr false)) else (juratlaw19_TallyOne.l1 k a1 r47 r62 r63 (wi64 (x371 + 1)))) else (some (Sum.inl ()))
def juratlaw19_TallyOne.f (k : Nat) (a0 : List (List Int)) (a1 : Int) : Option Bool := ((juratlaw19_great.f k a0).bind fun r34 => if r34 = true then (some true) else (if a1 < 0 then (some true) else (if a1 > 100 then (some true) else (some (decide ((a0.length : Int) > (wi64 ((wi64 (2 * a1)) + 1)))))))).bind fun x26 => if x26 = true then ((juratlaw19_awake.f k ).bind fun r42 => some r42) else ((juratlaw19_votes.f k a0).bind fun r47 => (tally_Decide.f k r47 a1).bind fun ⟨r62, r63⟩ => (juratlaw19_TallyOne.l1 k a1 r47 r62 r63 0).bind fun o_ => sumE o_ (fun _ => (if r63 = true then ((tally_Count.f k r47 r62).bind fun r687 => if r687 > a1 then ((juratlaw19_awake.f k ).bind fun r692 => some r692) else (some false)) else ((juratlaw19_awake.f k ).bind fun r696 => some r696)).bind fun x676 => some x676) (fun p_ => some p_))
set_option maxRecDepth 100000 in
set_option maxHeartbeats 4000000 in
theorem juratlaw19_TallyOne.calls (k : Nat) (w : World) (F : CH) (A1 : Option Addr) (c2 : Nat) (n3 : Nat) (a0 : List (List Int)) (a1 : Int) (hp : Pre w F []) (hn4 : n3 = a0.length) (hl5 : a0.length ≤ c2) (hm6 : c2 ≤ maxLen) (hS7 : Sl (Kd.slice (Kd.int .u8)) F F A1 a0) (r0_ : Bool) (H : juratlaw19_TallyOne.f k a0 a1 = some r0_) :
    Calls Try.prog 6 #[.slice A1 n3 c2, .int .i64 a1] w fun e w' => e = .returned (.bool r0_) ∧ Ctx w F (domL []) w' F [] := by
  have C := Ctx.start hp
  generalize hD : domL [] = D at C ⊢
  unfold juratlaw19_TallyOne.f at H
  refine Calls.ofW Try.func6 rfl (by simp [Try.ntmps6]) ?_
  refine W.seq ?_
  refine W.region rfl ?_
  refine WL.val (Yl.assign (v := .bool false) rfl) ?_
  refine WL.done ?_
  refine W.seq ?_
  refine W.seq ?_
  obtain ⟨x26, hX28, H⟩ := bindE H
  refine W.cutM (fun env_ w_ => env_ 0 = .slice A1 n3 c2 ∧ env_ 1 = .int .i64 a1 ∧ env_ 26 = .bool x26 ∧ Ctx w F D w_ F []) ?_ ?_
  · skip
    refine W.region rfl ?_
    refine WL.val (Yl.move (v := .slice A1 n3 c2) rfl) ?_
    obtain ⟨r34, hg33, hX28⟩ := bindE hX28
    refine WL.call (args := #[.slice A1 n3 c2]) (Yenter.fn Try.func9 (by kernel_rfl) rfl (argsE (.cons rfl .nil))) (juratlaw19_great.calls k _ F A1 c2 n3 a0 (Ctx.pre (qs := []) (rest := []) C) hn4 hl5 hm6 hS7 r34 hg33) ?_
    rintro e_ w_ ⟨rfl, C35⟩
    refine ⟨_, rfl, ?_⟩
    have C36 : Ctx _ _ _ _ F [] := Ctx.call (qs := []) (rest := []) C C35
    refine WL.val (Yl.move (v := .bool r34) rfl) ?_
    rcases iteE hX28 with ⟨hc37, hX28⟩ | ⟨hc37, hX28⟩
    · skip
      refine WL.off rfl (congrArg Value.bool hc37) ?_
      refine WL.off rfl (congrArg Value.bool hc37) ?_
      refine WL.val (Yl.pickT (v := .bool true) (congrArg Value.bool hc37) rfl) ?_
      refine WL.val (Yl.move (v := .bool true) rfl) ?_
      refine WL.off rfl rfl ?_
      refine WL.off rfl rfl ?_
      refine WL.val (Yl.pickT (v := .bool true) rfl rfl) ?_
      refine WL.val (Yl.move (v := .bool true) rfl) ?_
      refine WL.off rfl rfl ?_
      refine WL.off rfl rfl ?_
      refine WL.off rfl rfl ?_
      refine WL.off rfl rfl ?_
      refine WL.off rfl rfl ?_
      refine WL.off rfl rfl ?_
      refine WL.val (Yl.pickT (v := .bool true) rfl rfl) ?_
      refine WL.done ?_
      cases hX28
      refine thenE_n ?_
      exact ⟨rfl, rfl, rfl, C36⟩
    · skip
      refine WL.on rfl (congrArg Value.bool (Bool.eq_false_iff.2 hc37)) ?_
      refine WL.val (Yl.move (v := .int .i64 a1) rfl) ?_
      refine WL.on rfl (congrArg Value.bool (Bool.eq_false_iff.2 hc37)) ?_
      refine WL.val (Yl.lss (m := a1) (n := 0) (q := decide (a1 < 0)) rfl rfl rfl) ?_
      refine WL.val (Yl.pickF (v := .bool (decide (a1 < 0))) (congrArg Value.bool (Bool.eq_false_iff.2 hc37)) rfl) ?_
      refine WL.val (Yl.move (v := .bool (decide (a1 < 0))) rfl) ?_
      rcases iteE hX28 with ⟨hc38, hX28⟩ | ⟨hc38, hX28⟩
      · skip
        refine WL.off rfl (congrArg Value.bool (decide_eq_true hc38)) ?_
        refine WL.off rfl (congrArg Value.bool (decide_eq_true hc38)) ?_
        refine WL.val (Yl.pickT (v := .bool true) (congrArg Value.bool (decide_eq_true hc38)) rfl) ?_
        refine WL.val (Yl.move (v := .bool true) rfl) ?_
        refine WL.off rfl rfl ?_
        refine WL.off rfl rfl ?_
        refine WL.off rfl rfl ?_
        refine WL.off rfl rfl ?_
        refine WL.off rfl rfl ?_
        refine WL.off rfl rfl ?_
        refine WL.val (Yl.pickT (v := .bool true) rfl rfl) ?_
        refine WL.done ?_
        cases hX28
        refine thenE_n ?_
        exact ⟨rfl, rfl, rfl, C36⟩
      · skip
        refine WL.on rfl (congrArg Value.bool (decide_eq_false hc38)) ?_
        refine WL.val (Yl.move (v := .int .i64 a1) rfl) ?_
        refine WL.on rfl (congrArg Value.bool (decide_eq_false hc38)) ?_
        refine WL.val (Yl.gtr (m := a1) (n := 100) (q := decide (a1 > 100)) rfl rfl rfl) ?_
        refine WL.val (Yl.pickF (v := .bool (decide (a1 > 100))) (congrArg Value.bool (decide_eq_false hc38)) rfl) ?_
        refine WL.val (Yl.move (v := .bool (decide (a1 > 100))) rfl) ?_
        rcases iteE hX28 with ⟨hc39, hX28⟩ | ⟨hc39, hX28⟩
        · skip
          refine WL.off rfl (congrArg Value.bool (decide_eq_true hc39)) ?_
          refine WL.off rfl (congrArg Value.bool (decide_eq_true hc39)) ?_
          refine WL.off rfl (congrArg Value.bool (decide_eq_true hc39)) ?_
          refine WL.off rfl (congrArg Value.bool (decide_eq_true hc39)) ?_
          refine WL.off rfl (congrArg Value.bool (decide_eq_true hc39)) ?_
          refine WL.off rfl (congrArg Value.bool (decide_eq_true hc39)) ?_
          refine WL.val (Yl.pickT (v := .bool true) (congrArg Value.bool (decide_eq_true hc39)) rfl) ?_
          refine WL.done ?_
          cases hX28
          refine thenE_n ?_
          exact ⟨rfl, rfl, rfl, C36⟩
        · skip
          refine WL.on rfl (congrArg Value.bool (decide_eq_false hc39)) ?_
          refine WL.val (Yl.move (v := .slice A1 n3 c2) rfl) ?_
          refine WL.on rfl (congrArg Value.bool (decide_eq_false hc39)) ?_
          refine WL.val (Yl.lenN (A := A1) (l := n3) (q := c2) (n := (a0.length : Int)) rfl Try.underlying22 (by omega)) ?_
          refine WL.on rfl (congrArg Value.bool (decide_eq_false hc39)) ?_
          refine WL.val (Yl.move (v := .int .i64 a1) rfl) ?_
          refine WL.on rfl (congrArg Value.bool (decide_eq_false hc39)) ?_
          refine WL.val (Yl.mul (m := 2) (n := a1) (r := wi64 (2 * a1)) rfl rfl rfl) ?_
          refine WL.on rfl (congrArg Value.bool (decide_eq_false hc39)) ?_
          refine WL.val (Yl.add (m := wi64 (2 * a1)) (n := 1) (r := wi64 ((wi64 (2 * a1)) + 1)) rfl rfl rfl) ?_
          refine WL.on rfl (congrArg Value.bool (decide_eq_false hc39)) ?_
          refine WL.val (Yl.gtr (m := (a0.length : Int)) (n := wi64 ((wi64 (2 * a1)) + 1)) (q := decide ((a0.length : Int) > (wi64 ((wi64 (2 * a1)) + 1)))) rfl rfl rfl) ?_
          refine WL.val (Yl.pickF (v := .bool (decide ((a0.length : Int) > (wi64 ((wi64 (2 * a1)) + 1))))) (congrArg Value.bool (decide_eq_false hc39)) rfl) ?_
          refine WL.done ?_
          cases hX28
          refine thenE_n ?_
          exact ⟨rfl, rfl, rfl, C36⟩
  · skip
    rintro env_ w_ ⟨ho23, ho24, ho25, C27⟩
    rcases iteE H with ⟨hc40, H⟩ | ⟨hc40, H⟩
    · skip
      refine W.condT (ho25.trans (congrArg Value.bool hc40)) ?_
      refine W.seq ?_
      refine W.region rfl ?_
      obtain ⟨r42, hg41, H⟩ := bindE H
      refine WL.call (args := #[]) (Yenter.fn Try.func10 (by kernel_rfl) rfl (argsE .nil)) (juratlaw19_awake.calls k _ F  (Ctx.pre (qs := []) (rest := []) C27)  r42 hg41) ?_
      rintro e_ w_ ⟨rfl, C43⟩
      refine ⟨_, rfl, ?_⟩
      have C44 : Ctx _ _ _ _ F [] := Ctx.call (qs := []) (rest := []) C27 C43
      refine WL.val (Yl.assign (v := .bool r42) rfl) ?_
      refine WL.done ?_
      refine W.ret ?_
      refine thenE_r ?_
      have e45 := Option.some.inj H
      subst e45
      exact post_r (resE1 rfl rfl) ⟨rfl, C44⟩
    · skip
      refine W.condF (ho25.trans (congrArg Value.bool (Bool.eq_false_iff.2 hc40))) ?_
      refine W.skip ?_
      refine W.seq ?_
      refine W.region rfl ?_
      refine WL.val (Yl.move (v := .slice A1 n3 c2) ho23) ?_
      obtain ⟨r47, hg46, H⟩ := bindE H
      refine WL.call (args := #[.slice A1 n3 c2]) (Yenter.fn Try.func11 (by kernel_rfl) rfl (argsE (.cons rfl .nil))) (juratlaw19_votes.calls k _ F A1 c2 n3 a0 (Ctx.pre (qs := []) (rest := []) C27) hn4 hl5 hm6 hS7 r47 hg46) ?_
      rintro e_ w_ ⟨F48, A50, c51, n52, p54, rfl, le49, C56, hn53, hR55⟩
      refine ⟨_, rfl, ?_⟩
      have C57 : Ctx _ _ _ _ F48 [p54] := Ctx.call (qs := []) (rest := []) C27 C56
      refine WL.val (Yl.assign (v := .slice A50 n52 c51) rfl) ?_
      refine WL.done ?_
      refine W.seq ?_
      refine W.region rfl ?_
      refine WL.val (Yl.move (v := .slice A50 n52 c51) rfl) ?_
      refine WL.val (Yl.move (v := .int .i64 a1) ho24) ?_
      have le58 : CH.le F48 (CH.join F48 p54) := CH.le_joinL _ _
      have lp59 : CH.le p54 (CH.join F48 p54) := CH.le_joinR (Ctx.dis_of [] [] C57)
      have C60 : Ctx _ _ _ _ (CH.join F48 p54) [] := Ctx.freeze [] [] C57
      obtain ⟨⟨r62, r63⟩, hg61, H⟩ := bindE H
      refine WL.call (args := #[.slice A50 n52 c51, .int .i64 a1]) (Yenter.fn Try.func13 (by kernel_rfl) rfl (argsE (.cons rfl (.cons rfl .nil)))) (tally_Decide.calls k _ (CH.join F48 p54) A50 c51 n52 r47 a1 (Ctx.pre (qs := []) (rest := []) C60) hn53 (Row.len_le hR55).1 (Row.len_le hR55).2.1 (Sl.mono (Row.sl hR55) le58 lp59) r62 r63 hg61) ?_
      rintro e_ w_ ⟨A64, c65, n66, p68, rfl, C70, hn67, hR69⟩
      refine ⟨_, rfl, ?_⟩
      have hR71 : Row (Kd.int .u8) F48 p68 (.slice A64 n66 c65) r62 := hR69
      have C72 : Ctx _ _ _ _ F48 [p68, p54] := Ctx.callL (qs := []) (rest := [p54]) C57 le58 C70
      refine WL.val (Yl.move (v := .tuple #[(.slice A64 n66 c65), (.bool r63)]) rfl) ?_
      refine WL.val (Yl.extract (v := .slice A64 n66 c65) rfl rfl) ?_
      refine WL.val (Yl.extract (v := .bool r63) rfl rfl) ?_
      refine WL.val (Yl.assign (v := .slice A64 n66 c65) rfl) ?_
      refine WL.val (Yl.assign (v := .bool r63) rfl) ?_
      refine WL.done ?_
      refine W.seq ?_
      refine W.seq ?_
      refine W.region rfl ?_
      refine WL.val (Yl.assign (v := .int .i64 0) rfl) ?_
      refine WL.done ?_
      obtain ⟨o365, hX364, H⟩ := bindE H
      refine W.cutM (fun env_ w_ => env_ 1 = .int .i64 a1 ∧ env_ 5 = .slice A50 n52 c51 ∧ env_ 6 = .slice A64 n66 c65 ∧ env_ 7 = .bool r63 ∧ Ctx w F D w_ F48 [p68, p54] ∧ o365 = Sum.inl ()) ?_ ?_
      · skip
        refine W.block ?_
        refine W.loop (fun g_ env_ w_ => ∃ (x371 : Int), env_ 1 = .int .i64 a1 ∧ env_ 5 = .slice A50 n52 c51 ∧ env_ 6 = .slice A64 n66 c65 ∧ env_ 7 = .bool r63 ∧ env_ 8 = .int .i64 x371 ∧ Ctx w F D w_ F48 [p68, p54] ∧ juratlaw19_TallyOne.l1 g_ a1 r47 r62 r63 x371 = some o365) k ⟨0, ho24, rfl, rfl, rfl, rfl, C72, hX364⟩ ?_
        clear hX364
        rintro g_ env_ w_ ⟨x371, ho366, ho367, ho368, ho369, ho370, C372, hX364⟩
        rcases g_ with _ | k512
        · exact absurd hX364 (by simp [juratlaw19_TallyOne.l1])
        rw [juratlaw19_TallyOne.l1] at hX364
        refine W.seq ?_
        refine W.seq ?_
        refine W.region rfl ?_
        refine WL.val (Yl.move (v := .int .i64 x371) ho370) ?_
        refine WL.val (Yl.move (v := .slice A50 n52 c51) ho367) ?_
        refine WL.val (Yl.lenN (A := A50) (l := n52) (q := c51) (n := (r47.length : Int)) rfl Try.underlying26 (by omega)) ?_
        refine WL.val (Yl.lss (m := x371) (n := (r47.length : Int)) (q := decide (x371 < (r47.length : Int))) rfl rfl rfl) ?_
        refine WL.done ?_
        rcases iteE hX364 with ⟨hc513, hX364⟩ | ⟨hc513, hX364⟩
        · skip
          refine W.condT (congrArg Value.bool (decide_eq_true hc513)) ?_
          refine W.skip ?_
          refine W.seq ?_
          refine W.block ?_
          refine W.seq ?_
          obtain ⟨x595, hX597, hX364⟩ := bindE hX364
          refine W.cutM (fun env_ w_ => env_ 1 = .int .i64 a1 ∧ env_ 5 = .slice A50 n52 c51 ∧ env_ 6 = .slice A64 n66 c65 ∧ env_ 7 = .bool r63 ∧ env_ 8 = .int .i64 x371 ∧ env_ 63 = .bool x595 ∧ Ctx w F D w_ F48 [p68, p54]) ?_ ?_
          · skip
            refine W.region rfl ?_
            refine WL.val (Yl.move (v := .slice A50 n52 c51) ho367) ?_
            refine WL.val (Yl.move (v := .slice A50 n52 c51) ho367) ?_
            refine WL.val (Yl.move (v := .int .i64 x371) ho370) ?_
            obtain ⟨hc620, hX597⟩ := guardE hX597
            obtain ⟨b621, of622, hA623, he624⟩ := (Row.sl hR55) (by omega)
            refine WL.val (Yl.elemAddr (i := x371) rfl rfl hA623 Try.underlying26 sz37 (by omega)) ?_
            refine WL.val (Yl.fieldAddr (i := 1) rfl Try.underlying37 rfl sz23) ?_
            obtain ⟨cs625, hr626, hx627⟩ := he624 x371.toNat _ (getD_some (d := TCast.z) (by omega))
            obtain ⟨A628, c629, n630, rfl, hn631, hl632, hm633, hS634⟩ := TCast.open hr626
            refine WL.val (Yl.load (v := .slice A628 n630 c629) rfl Try.underlying23 rfl (((Ctx.sub_of [p68] [] C372)).cell (hx627 1 _ rfl))) ?_
            have le635 : CH.le F48 (CH.join F48 p54) := CH.le_joinL _ _
            have lp636 : CH.le p54 (CH.join F48 p54) := CH.le_joinR (Ctx.dis_of [p68] [] C372)
            have C637 : Ctx _ _ _ _ (CH.join F48 p54) [p68] := Ctx.freeze [p68] [] C372
            obtain ⟨r639, hg638, hX597⟩ := bindE hX597
            refine WL.call (args := #[.slice A50 n52 c51, .slice A628 n630 c629]) (Yenter.fn Try.func18 (by kernel_rfl) rfl (argsE (.cons rfl (.cons rfl .nil)))) (tally_Count.calls k512 _ (CH.join F48 p54) A50 c51 n52 r47 A628 c629 n630 ((r47.getD x371.toNat TCast.z).Value) (Ctx.pre (qs := []) (rest := [p68]) C637) hn53 (Row.len_le hR55).1 (Row.len_le hR55).2.1 (Sl.mono (Row.sl hR55) le635 lp636) hn631 hl632 hm633 (Sl.mono hS634 le635 le635) r639 hg638) ?_
            rintro e_ w_ ⟨rfl, C640⟩
            refine ⟨_, rfl, ?_⟩
            have C641 : Ctx _ _ _ _ F48 [p68, p54] := Ctx.callL (qs := []) (rest := [p68, p54]) C372 le635 C640
            refine WL.val (Yl.move (v := .int .i64 a1) ho366) ?_
            refine WL.val (Yl.gtr (m := r639) (n := a1) (q := decide (r639 > a1)) rfl rfl rfl) ?_
            refine WL.val (Yl.move (v := .bool (decide (r639 > a1))) rfl) ?_
            rcases iteE hX597 with ⟨hc642, hX597⟩ | ⟨hc642, hX597⟩
            · skip
              refine WL.on rfl (congrArg Value.bool (decide_eq_true hc642)) ?_
              refine WL.val (Yl.move (v := .bool r63) ho369) ?_
              refine WL.on rfl (congrArg Value.bool (decide_eq_true hc642)) ?_
              refine WL.val (Yl.move (v := .bool r63) rfl) ?_
              rcases iteE hX597 with ⟨hc643, hX597⟩ | ⟨hc643, hX597⟩
              · skip
                refine WL.on rfl (congrArg Value.bool hc643) ?_
                refine WL.val (Yl.move (v := .slice A64 n66 c65) ho368) ?_
                refine WL.on rfl (congrArg Value.bool hc643) ?_
                refine WL.val (Yl.move (v := .slice A50 n52 c51) ho367) ?_
                refine WL.on rfl (congrArg Value.bool hc643) ?_
                refine WL.val (Yl.move (v := .int .i64 x371) ho370) ?_
                refine WL.on rfl (congrArg Value.bool hc643) ?_
                refine WL.val (Yl.elemAddr (i := x371) rfl rfl hA623 Try.underlying26 sz37 (by omega)) ?_
                refine WL.on rfl (congrArg Value.bool hc643) ?_
                refine WL.val (Yl.fieldAddr (i := 1) rfl Try.underlying37 rfl sz23) ?_
                refine WL.on rfl (congrArg Value.bool hc643) ?_
                refine WL.val (Yl.load (v := .slice A628 n630 c629) rfl Try.underlying23 rfl (((Ctx.sub_of [p68] [] C641)).cell (hx627 1 _ rfl))) ?_
                refine WL.on rfl (congrArg Value.bool hc643) ?_
                have le644 : CH.le F48 (CH.join F48 p68) := CH.le_joinL _ _
                have lp645 : CH.le p68 (CH.join F48 p68) := CH.le_joinR (Ctx.dis_of [] [p54] C641)
                have C646 : Ctx _ _ _ _ (CH.join F48 p68) [p54] := Ctx.freeze [] [p54] C641
                obtain ⟨r648, hg647, hX597⟩ := bindE hX597
                refine WL.call (args := #[.slice A64 n66 c65, .slice A628 n630 c629]) (Yenter.fn Try.func12 (by kernel_rfl) rfl (argsE (.cons rfl (.cons rfl .nil)))) (juratref01_Same.calls k512 _ (CH.join F48 p68) A64 c65 n66 r62 A628 c629 n630 ((r47.getD x371.toNat TCast.z).Value) C646.pre0 hn67 (Row.len_le hR71).1 (Row.len_le hR71).2.1 (Sl.mono (Row.sl hR71) le644 lp645) hn631 hl632 hm633 (Sl.mono hS634 le644 le644) r648 hg647) ?_
                rintro e_ w_ ⟨rfl, ⟨m649, rfl⟩⟩
                refine ⟨_, rfl, ?_⟩
                have C650 := Ctx.drewN C641 m649
                refine WL.on rfl (congrArg Value.bool (decide_eq_true hc642)) ?_
                refine WL.val (Yl.pickT (v := .bool r648) (congrArg Value.bool hc643) rfl) ?_
                refine WL.on rfl (congrArg Value.bool (decide_eq_true hc642)) ?_
                refine WL.val (Yl.not (p := r648) (q := !r648) rfl rfl) ?_
                refine WL.val (Yl.pickT (v := .bool (!r648)) (congrArg Value.bool (decide_eq_true hc642)) rfl) ?_
                refine WL.done ?_
                cases hX597
                refine thenE_n ?_
                exact ⟨ho366, ho367, ho368, ho369, ho370, rfl, C650⟩
              · skip
                refine WL.off rfl (congrArg Value.bool (Bool.eq_false_iff.2 hc643)) ?_
                refine WL.off rfl (congrArg Value.bool (Bool.eq_false_iff.2 hc643)) ?_
                refine WL.off rfl (congrArg Value.bool (Bool.eq_false_iff.2 hc643)) ?_
                refine WL.off rfl (congrArg Value.bool (Bool.eq_false_iff.2 hc643)) ?_
                refine WL.off rfl (congrArg Value.bool (Bool.eq_false_iff.2 hc643)) ?_
                refine WL.off rfl (congrArg Value.bool (Bool.eq_false_iff.2 hc643)) ?_
                refine WL.off rfl (congrArg Value.bool (Bool.eq_false_iff.2 hc643)) ?_
                refine WL.on rfl (congrArg Value.bool (decide_eq_true hc642)) ?_
                refine WL.val (Yl.pickF (v := .bool false) (congrArg Value.bool (Bool.eq_false_iff.2 hc643)) rfl) ?_
                refine WL.on rfl (congrArg Value.bool (decide_eq_true hc642)) ?_
                refine WL.val (Yl.not (p := false) (q := true) rfl rfl) ?_
                refine WL.val (Yl.pickT (v := .bool true) (congrArg Value.bool (decide_eq_true hc642)) rfl) ?_
                refine WL.done ?_
                cases hX597
                refine thenE_n ?_
                exact ⟨ho366, ho367, ho368, ho369, ho370, rfl, C641⟩
            · skip
              refine WL.off rfl (congrArg Value.bool (decide_eq_false hc642)) ?_
              refine WL.off rfl (congrArg Value.bool (decide_eq_false hc642)) ?_
              refine WL.off' rfl rfl ?_
              refine WL.off' rfl rfl ?_
              refine WL.off' rfl rfl ?_
              refine WL.off' rfl rfl ?_
              refine WL.off' rfl rfl ?_
              refine WL.off' rfl rfl ?_
              refine WL.off' rfl rfl ?_
              refine WL.off rfl (congrArg Value.bool (decide_eq_false hc642)) ?_
              refine WL.off rfl (congrArg Value.bool (decide_eq_false hc642)) ?_
              refine WL.val (Yl.pickF (v := .bool false) (congrArg Value.bool (decide_eq_false hc642)) rfl) ?_
              refine WL.done ?_
              cases hX597
              refine thenE_n ?_
              exact ⟨ho366, ho367, ho368, ho369, ho370, rfl, C641⟩
          · skip
            rintro env_ w_ ⟨ho589, ho590, ho591, ho592, ho593, ho594, C596⟩
            rcases iteE hX364 with ⟨hc651, hX364⟩ | ⟨hc651, hX364⟩
            · skip
              refine W.condT (ho594.trans (congrArg Value.bool hc651)) ?_
              refine W.seq ?_
              refine W.region rfl ?_
              refine WL.val (Yl.assign (v := .bool false) rfl) ?_
              refine WL.done ?_
              refine W.ret ?_
              refine inB_r ?_
              refine thenE_r ?_
              refine thenE_r ?_
              refine inB_r ?_
              refine thenE_r ?_
              refine thenE_r ?_
              cases hX364
              replace H := sumE_r H
              have C652 : Ctx _ _ _ _ F48 [p54] := Ctx.drop [] [p54] C596
              have C653 : Ctx _ _ _ _ F48 [] := Ctx.drop [] [] C652
              have e654 := Option.some.inj H
              subst e654
              exact post_r (resE1 rfl rfl) ⟨rfl, (Ctx.weak C653 (CH.le_refl _))⟩
            · skip
              refine W.condF (ho594.trans (congrArg Value.bool (Bool.eq_false_iff.2 hc651))) ?_
              refine W.skip ?_
              refine inB_n ?_
              refine W.region rfl ?_
              refine WL.val (Yl.move (v := .int .i64 x371) ho593) ?_
              refine WL.val (Yl.add (m := x371) (n := 1) (r := wi64 (x371 + 1)) rfl rfl rfl) ?_
              refine WL.val (Yl.assign (v := .int .i64 (wi64 (x371 + 1))) rfl) ?_
              refine WL.done ?_
              exact thenE_n ⟨k512, Nat.lt_succ_self _, wi64 (x371 + 1), ho589, ho590, ho591, ho592, rfl, C596, hX364⟩
        · skip
          refine W.condF (congrArg Value.bool (decide_eq_false hc513)) ?_
          refine W.exit ?_
          refine thenE_x ?_
          refine thenE_x ?_
          refine inB_here ?_
          cases hX364
          refine thenE_n ?_
          exact ⟨ho366, ho367, ho368, ho369, C372, rfl⟩
      · skip
        rintro env_ w_ ⟨ho359, ho360, ho361, ho362, C363, rfl⟩
        replace H := sumE_l H
        refine W.seq ?_
        obtain ⟨x676, hX678, H⟩ := bindE H
        refine W.cutM (fun env_ w_ => env_ 4 = .bool x676 ∧ Ctx w F D w_ F48 [p68, p54]) ?_ ?_
        · skip
          refine W.region rfl ?_
          refine WL.val (Yl.move (v := .bool r63) ho362) ?_
          refine WL.val (Yl.not (p := r63) (q := !r63) rfl rfl) ?_
          refine WL.val (Yl.move (v := .bool (!r63)) rfl) ?_
          rcases iteE hX678 with ⟨hc679, hX678⟩ | ⟨hc679, hX678⟩
          · skip
            refine WL.on rfl (congrArg Value.bool (nb_t hc679)) ?_
            refine WL.val (Yl.move (v := .slice A50 n52 c51) ho360) ?_
            refine WL.on rfl (congrArg Value.bool (nb_t hc679)) ?_
            refine WL.val (Yl.move (v := .slice A64 n66 c65) ho361) ?_
            refine WL.on rfl (congrArg Value.bool (nb_t hc679)) ?_
            have le680 : CH.le F48 (CH.join F48 p54) := CH.le_joinL _ _
            have lp681 : CH.le p54 (CH.join F48 p54) := CH.le_joinR (Ctx.dis_of [p68] [] C363)
            have C682 : Ctx _ _ _ _ (CH.join F48 p54) [p68] := Ctx.freeze [p68] [] C363
            have le683 : CH.le (CH.join F48 p54) (CH.join (CH.join F48 p54) p68) := CH.le_joinL _ _
            have lp684 : CH.le p68 (CH.join (CH.join F48 p54) p68) := CH.le_joinR (Ctx.dis_of [] [] C682)
            have C685 : Ctx _ _ _ _ (CH.join (CH.join F48 p54) p68) [] := Ctx.freeze [] [] C682
            obtain ⟨r687, hg686, hX678⟩ := bindE hX678
            refine WL.call (args := #[.slice A50 n52 c51, .slice A64 n66 c65]) (Yenter.fn Try.func18 (by kernel_rfl) rfl (argsE (.cons rfl (.cons rfl .nil)))) (tally_Count.calls k _ (CH.join (CH.join F48 p54) p68) A50 c51 n52 r47 A64 c65 n66 r62 (Ctx.pre (qs := []) (rest := []) C685) hn53 (Row.len_le hR55).1 (Row.len_le hR55).2.1 (Sl.mono (Row.sl hR55) (CH.le_trans le680 le683) (CH.le_trans lp681 le683)) hn67 (Row.len_le hR71).1 (Row.len_le hR71).2.1 (Sl.mono (Row.sl hR71) (CH.le_trans le680 le683) lp684) r687 hg686) ?_
            rintro e_ w_ ⟨rfl, C688⟩
            refine ⟨_, rfl, ?_⟩
            have C689 : Ctx _ _ _ _ F48 [p68, p54] := Ctx.callL (qs := []) (rest := [p68, p54]) C363 (CH.le_trans le680 le683) C688
            refine WL.on rfl (congrArg Value.bool (nb_t hc679)) ?_
            refine WL.val (Yl.move (v := .int .i64 a1) ho359) ?_
            refine WL.on rfl (congrArg Value.bool (nb_t hc679)) ?_
            refine WL.val (Yl.gtr (m := r687) (n := a1) (q := decide (r687 > a1)) rfl rfl rfl) ?_
            refine WL.val (Yl.pickF (v := .bool (decide (r687 > a1))) (congrArg Value.bool (nb_t hc679)) rfl) ?_
            refine WL.val (Yl.move (v := .bool (decide (r687 > a1))) rfl) ?_
            rcases iteE hX678 with ⟨hc690, hX678⟩ | ⟨hc690, hX678⟩
            · skip
              refine WL.on rfl (congrArg Value.bool (decide_eq_true hc690)) ?_
              obtain ⟨r692, hg691, hX678⟩ := bindE hX678
              refine WL.call (args := #[]) (Yenter.fn Try.func10 (by kernel_rfl) rfl (argsE .nil)) (juratlaw19_awake.calls k _ F48  (Ctx.pre (qs := []) (rest := [p68, p54]) C689)  r692 hg691) ?_
              rintro e_ w_ ⟨rfl, C693⟩
              refine ⟨_, rfl, ?_⟩
              have C694 : Ctx _ _ _ _ F48 [p68, p54] := Ctx.call (qs := []) (rest := [p68, p54]) C689 C693
              refine WL.val (Yl.pickT (v := .bool r692) (congrArg Value.bool (decide_eq_true hc690)) rfl) ?_
              refine WL.val (Yl.assign (v := .bool r692) rfl) ?_
              refine WL.done ?_
              cases hX678
              refine thenE_n ?_
              exact ⟨rfl, C694⟩
            · skip
              refine WL.off rfl (congrArg Value.bool (decide_eq_false hc690)) ?_
              refine WL.val (Yl.pickF (v := .bool false) (congrArg Value.bool (decide_eq_false hc690)) rfl) ?_
              refine WL.val (Yl.assign (v := .bool false) rfl) ?_
              refine WL.done ?_
              cases hX678
              refine thenE_n ?_
              exact ⟨rfl, C689⟩
          · skip
            refine WL.off rfl (congrArg Value.bool (nb_f hc679)) ?_
            refine WL.off rfl (congrArg Value.bool (nb_f hc679)) ?_
            refine WL.off rfl (congrArg Value.bool (nb_f hc679)) ?_
            refine WL.off rfl (congrArg Value.bool (nb_f hc679)) ?_
            refine WL.off rfl (congrArg Value.bool (nb_f hc679)) ?_
            refine WL.val (Yl.pickT (v := .bool true) (congrArg Value.bool (nb_f hc679)) rfl) ?_
            refine WL.val (Yl.move (v := .bool true) rfl) ?_
            refine WL.on rfl rfl ?_
            obtain ⟨r696, hg695, hX678⟩ := bindE hX678
            refine WL.call (args := #[]) (Yenter.fn Try.func10 (by kernel_rfl) rfl (argsE .nil)) (juratlaw19_awake.calls k _ F48  (Ctx.pre (qs := []) (rest := [p68, p54]) C363)  r696 hg695) ?_
            rintro e_ w_ ⟨rfl, C697⟩
            refine ⟨_, rfl, ?_⟩
            have C698 : Ctx _ _ _ _ F48 [p68, p54] := Ctx.call (qs := []) (rest := [p68, p54]) C363 C697
            refine WL.val (Yl.pickT (v := .bool r696) rfl rfl) ?_
            refine WL.val (Yl.assign (v := .bool r696) rfl) ?_
            refine WL.done ?_
            cases hX678
            refine thenE_n ?_
            exact ⟨rfl, C698⟩
        · skip
          rintro env_ w_ ⟨ho675, C677⟩
          refine W.ret ?_
          have C699 : Ctx _ _ _ _ F48 [p54] := Ctx.drop [] [p54] C677
          have C700 : Ctx _ _ _ _ F48 [] := Ctx.drop [] [] C699
          have e701 := Option.some.inj H
          subst e701
          exact post_r (resE1 rfl ho675) ⟨rfl, (Ctx.weak C700 (CH.le_refl _))⟩
end Go.Proofs.Ytaajcpjhcckecaa
