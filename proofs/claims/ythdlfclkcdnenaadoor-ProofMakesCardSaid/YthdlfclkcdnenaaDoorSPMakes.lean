/- Functions of the program: each as a plain function of numbers and lists, and the proof that the program's own comes to it. Nothing is assumed but what each theorem says. -/
import Derived.Test.YthdlfclkcdnenaaDoorSGg
import Derived.Test.YthdlfclkcdnenaaDoorSGd
namespace Go.Proofs.YthdlfclkcdnenaaDoor
open Go.RowKit Go.WG
set_option linter.unusedVariables false
set_option linter.unusedSimpArgs false
def juratlaw08_ProofMakes.f (k : Nat) (a0 : List (List Int)) (a1 : Int) : Option Bool := if (a0.length : Int) > 100 then ((juratlaw08_awake.f k ).bind fun r10 => some r10) else ((juratlaw08_own.f k a0).bind fun r15 => (proof_Include.f k r15 a1).bind fun ⟨r28, r29⟩ => (juratref08_Include.f k a0 a1).bind fun ⟨r40, r41⟩ => (juratlaw08_own.f k a0).bind fun r51 => (proof_Consist.f k r51 a1).bind fun ⟨r64, r65⟩ => (juratref08_Consist.f k a0 a1).bind fun ⟨r76, r77⟩ => (if r29 = r41 then ((juratref05_Same.f k r28 r40).bind fun r126 => if r126 = true then (if r65 = r77 then ((juratref05_Same.f k r64 r76).bind fun r138 => if r138 = true then ((juratlaw08_awake.f k ).bind fun r143 => some r143) else (some false)) else (some false)) else (some false)) else (some false)).bind fun x115 => some x115)
set_option maxRecDepth 100000 in
set_option maxHeartbeats 4000000 in
theorem juratlaw08_ProofMakes.calls (k : Nat) (w : World) (F : CH) (A1 : Option Addr) (c2 : Nat) (n3 : Nat) (a0 : List (List Int)) (a1 : Int) (hp : Pre w F []) (hn4 : n3 = a0.length) (hl5 : a0.length ≤ c2) (hm6 : c2 ≤ maxLen) (hS7 : Sl (Kd.arrI 32 .u8) F F A1 a0) (hG0 : CH.le (CH.row 0 0 (glob0.map (Value.int .u32))) F) (hG1 : CH.le (CH.row 1 0 (glob1.map (Value.int .u32))) F) (hG2 : CH.le (CH.row 2 0 (glob2.map (Value.int .u32))) F) (hG3 : CH.le (CH.row 3 0 (glob3.map (Value.int .u32))) F) (r0_ : Bool) (H : juratlaw08_ProofMakes.f k a0 a1 = some r0_) :
    Calls Tryd.prog 6 #[.slice A1 n3 c2, .int .i64 a1] w fun e w' => e = .returned (.bool r0_) ∧ Ctx w F (domL []) w' F [] := by
  have C := Ctx.start hp
  generalize hD : domL [] = D at C ⊢
  unfold juratlaw08_ProofMakes.f at H
  refine Calls.ofW Tryd.func6 rfl (by simp [Tryd.ntmps6]) ?_
  refine W.seq ?_
  refine W.region rfl ?_
  refine WL.val (Yl.assign (v := .bool false) rfl) ?_
  refine WL.done ?_
  refine W.seq ?_
  refine W.seq ?_
  refine W.region rfl ?_
  refine WL.val (Yl.move (v := .slice A1 n3 c2) rfl) ?_
  refine WL.val (Yl.lenN (A := A1) (l := n3) (q := c2) (n := (a0.length : Int)) rfl Tryd.underlying31 (by omega)) ?_
  refine WL.val (Yl.gtr (m := (a0.length : Int)) (n := 100) (q := decide ((a0.length : Int) > 100)) rfl rfl rfl) ?_
  refine WL.done ?_
  rcases iteE H with ⟨hc8, H⟩ | ⟨hc8, H⟩
  · skip
    refine W.condT (congrArg Value.bool (decide_eq_true hc8)) ?_
    refine W.seq ?_
    refine W.region rfl ?_
    obtain ⟨r10, hg9, H⟩ := bindE H
    refine WL.call (args := #[]) (Yenter.fn Tryd.func21 (by kernel_rfl) rfl (argsE .nil)) (juratlaw08_awake.calls k _ F  (Ctx.pre (qs := []) (rest := []) C) (CH.le_trans hG1 (CH.le_trans (CH.le_refl _) (CH.le_refl _))) (CH.le_trans hG3 (CH.le_trans (CH.le_refl _) (CH.le_refl _))) r10 hg9) ?_
    rintro e_ w_ ⟨rfl, C11⟩
    refine ⟨_, rfl, ?_⟩
    have C12 : Ctx _ _ _ _ F [] := Ctx.call (qs := []) (rest := []) C C11
    refine WL.val (Yl.assign (v := .bool r10) rfl) ?_
    refine WL.done ?_
    refine W.ret ?_
    refine thenE_r ?_
    have e13 := Option.some.inj H
    subst e13
    exact post_r (resE1 rfl rfl) ⟨rfl, C12⟩
  · skip
    refine W.condF (congrArg Value.bool (decide_eq_false hc8)) ?_
    refine W.skip ?_
    refine W.seq ?_
    refine W.region rfl ?_
    refine WL.val (Yl.move (v := .slice A1 n3 c2) rfl) ?_
    obtain ⟨r15, hg14, H⟩ := bindE H
    refine WL.call (args := #[.slice A1 n3 c2]) (Yenter.fn Tryd.func23 (by kernel_rfl) rfl (argsE (.cons rfl .nil))) (juratlaw08_own.calls k _ F A1 c2 n3 a0 (Ctx.pre (qs := []) (rest := []) C) hn4 hl5 hm6 hS7 r15 hg14) ?_
    rintro e_ w_ ⟨A16, c17, n18, p20, rfl, C22, hn19, hR21⟩
    refine ⟨_, rfl, ?_⟩
    have C23 : Ctx _ _ _ _ F [p20] := Ctx.call (qs := []) (rest := []) C C22
    refine WL.val (Yl.move (v := .int .i64 a1) rfl) ?_
    have le24 : CH.le F (CH.join F p20) := CH.le_joinL _ _
    have lp25 : CH.le p20 (CH.join F p20) := CH.le_joinR (Ctx.dis_of [] [] C23)
    have C26 : Ctx _ _ _ _ (CH.join F p20) [] := Ctx.freeze [] [] C23
    obtain ⟨⟨r28, r29⟩, hg27, H⟩ := bindE H
    refine WL.call (args := #[.slice A16 n18 c17, .int .i64 a1]) (Yenter.fn Tryd.func29 (by kernel_rfl) rfl (argsE (.cons rfl (.cons rfl .nil)))) (proof_Include.calls k _ (CH.join F p20) A16 c17 n18 r15 a1 (Ctx.pre (qs := []) (rest := []) C26) hn19 (Row.len_le hR21).1 (Row.len_le hR21).2.1 (Sl.mono (Row.sl hR21) le24 lp25) (CH.le_trans hG1 (CH.le_trans (CH.le_refl _) le24)) (CH.le_trans hG3 (CH.le_trans (CH.le_refl _) le24)) r28 r29 hg27) ?_
    rintro e_ w_ ⟨A30, c31, n32, p34, rfl, C36, hn33, hR35⟩
    refine ⟨_, rfl, ?_⟩
    have hR37 : Row (Kd.arrI 32 .u8) F p34 (.slice A30 n32 c31) r28 := hR35
    have C38 : Ctx _ _ _ _ F [p34, p20] := Ctx.callL (qs := []) (rest := [p20]) C23 le24 C36
    refine WL.val (Yl.move (v := .tuple #[(.slice A30 n32 c31), (.int .i64 r29)]) rfl) ?_
    refine WL.val (Yl.extract (v := .slice A30 n32 c31) rfl rfl) ?_
    refine WL.val (Yl.extract (v := .int .i64 r29) rfl rfl) ?_
    refine WL.val (Yl.assign (v := .slice A30 n32 c31) rfl) ?_
    refine WL.val (Yl.assign (v := .int .i64 r29) rfl) ?_
    refine WL.done ?_
    refine W.seq ?_
    refine W.region rfl ?_
    refine WL.val (Yl.move (v := .slice A1 n3 c2) rfl) ?_
    refine WL.val (Yl.move (v := .int .i64 a1) rfl) ?_
    obtain ⟨⟨r40, r41⟩, hg39, H⟩ := bindE H
    refine WL.call (args := #[.slice A1 n3 c2, .int .i64 a1]) (Yenter.fn Tryd.func30 (by kernel_rfl) rfl (argsE (.cons rfl (.cons rfl .nil)))) (juratref08_Include.calls k _ F A1 c2 n3 a0 a1 (Ctx.pre (qs := []) (rest := [p34, p20]) C38) hn4 hl5 hm6 hS7 (CH.le_trans hG0 (CH.le_trans (CH.le_refl _) (CH.le_refl _))) (CH.le_trans hG2 (CH.le_trans (CH.le_refl _) (CH.le_refl _))) r40 r41 hg39) ?_
    rintro e_ w_ ⟨A42, c43, n44, p46, rfl, C48, hn45, hR47⟩
    refine ⟨_, rfl, ?_⟩
    have C49 : Ctx _ _ _ _ F [p46, p34, p20] := Ctx.call (qs := []) (rest := [p34, p20]) C38 C48
    refine WL.val (Yl.move (v := .tuple #[(.slice A42 n44 c43), (.int .i64 r41)]) rfl) ?_
    refine WL.val (Yl.extract (v := .slice A42 n44 c43) rfl rfl) ?_
    refine WL.val (Yl.extract (v := .int .i64 r41) rfl rfl) ?_
    refine WL.val (Yl.assign (v := .slice A42 n44 c43) rfl) ?_
    refine WL.val (Yl.assign (v := .int .i64 r41) rfl) ?_
    refine WL.done ?_
    refine W.seq ?_
    refine W.region rfl ?_
    refine WL.val (Yl.move (v := .slice A1 n3 c2) rfl) ?_
    obtain ⟨r51, hg50, H⟩ := bindE H
    refine WL.call (args := #[.slice A1 n3 c2]) (Yenter.fn Tryd.func23 (by kernel_rfl) rfl (argsE (.cons rfl .nil))) (juratlaw08_own.calls k _ F A1 c2 n3 a0 (Ctx.pre (qs := []) (rest := [p46, p34, p20]) C49) hn4 hl5 hm6 hS7 r51 hg50) ?_
    rintro e_ w_ ⟨A52, c53, n54, p56, rfl, C58, hn55, hR57⟩
    refine ⟨_, rfl, ?_⟩
    have C59 : Ctx _ _ _ _ F [p56, p46, p34, p20] := Ctx.call (qs := []) (rest := [p46, p34, p20]) C49 C58
    refine WL.val (Yl.move (v := .int .i64 a1) rfl) ?_
    have le60 : CH.le F (CH.join F p56) := CH.le_joinL _ _
    have lp61 : CH.le p56 (CH.join F p56) := CH.le_joinR (Ctx.dis_of [] [p46, p34, p20] C59)
    have C62 : Ctx _ _ _ _ (CH.join F p56) [p46, p34, p20] := Ctx.freeze [] [p46, p34, p20] C59
    obtain ⟨⟨r64, r65⟩, hg63, H⟩ := bindE H
    refine WL.call (args := #[.slice A52 n54 c53, .int .i64 a1]) (Yenter.fn Tryd.func31 (by kernel_rfl) rfl (argsE (.cons rfl (.cons rfl .nil)))) (proof_Consist.calls k _ (CH.join F p56) A52 c53 n54 r51 a1 (Ctx.pre (qs := []) (rest := [p46, p34, p20]) C62) hn55 (Row.len_le hR57).1 (Row.len_le hR57).2.1 (Sl.mono (Row.sl hR57) le60 lp61) (CH.le_trans hG1 (CH.le_trans (CH.le_refl _) le60)) (CH.le_trans hG3 (CH.le_trans (CH.le_refl _) le60)) r64 r65 hg63) ?_
    rintro e_ w_ ⟨A66, c67, n68, p70, rfl, C72, hn69, hR71⟩
    refine ⟨_, rfl, ?_⟩
    have hR73 : Row (Kd.arrI 32 .u8) F p70 (.slice A66 n68 c67) r64 := hR71
    have C74 : Ctx _ _ _ _ F [p70, p56, p46, p34, p20] := Ctx.callL (qs := []) (rest := [p56, p46, p34, p20]) C59 le60 C72
    refine WL.val (Yl.move (v := .tuple #[(.slice A66 n68 c67), (.int .i64 r65)]) rfl) ?_
    refine WL.val (Yl.extract (v := .slice A66 n68 c67) rfl rfl) ?_
    refine WL.val (Yl.extract (v := .int .i64 r65) rfl rfl) ?_
    refine WL.val (Yl.assign (v := .slice A66 n68 c67) rfl) ?_
    refine WL.val (Yl.assign (v := .int .i64 r65) rfl) ?_
    refine WL.done ?_
    refine W.seq ?_
    refine W.region rfl ?_
    refine WL.val (Yl.move (v := .slice A1 n3 c2) rfl) ?_
    refine WL.val (Yl.move (v := .int .i64 a1) rfl) ?_
    obtain ⟨⟨r76, r77⟩, hg75, H⟩ := bindE H
    refine WL.call (args := #[.slice A1 n3 c2, .int .i64 a1]) (Yenter.fn Tryd.func32 (by kernel_rfl) rfl (argsE (.cons rfl (.cons rfl .nil)))) (juratref08_Consist.calls k _ F A1 c2 n3 a0 a1 (Ctx.pre (qs := []) (rest := [p70, p56, p46, p34, p20]) C74) hn4 hl5 hm6 hS7 (CH.le_trans hG0 (CH.le_trans (CH.le_refl _) (CH.le_refl _))) (CH.le_trans hG2 (CH.le_trans (CH.le_refl _) (CH.le_refl _))) r76 r77 hg75) ?_
    rintro e_ w_ ⟨A78, c79, n80, p82, rfl, C84, hn81, hR83⟩
    refine ⟨_, rfl, ?_⟩
    have C85 : Ctx _ _ _ _ F [p82, p70, p56, p46, p34, p20] := Ctx.call (qs := []) (rest := [p70, p56, p46, p34, p20]) C74 C84
    refine WL.val (Yl.move (v := .tuple #[(.slice A78 n80 c79), (.int .i64 r77)]) rfl) ?_
    refine WL.val (Yl.extract (v := .slice A78 n80 c79) rfl rfl) ?_
    refine WL.val (Yl.extract (v := .int .i64 r77) rfl rfl) ?_
    refine WL.val (Yl.assign (v := .slice A78 n80 c79) rfl) ?_
    refine WL.val (Yl.assign (v := .int .i64 r77) rfl) ?_
    refine WL.done ?_
    refine W.seq ?_
    obtain ⟨x115, hX117, H⟩ := bindE H
    refine W.cutM (fun env_ w_ => env_ 4 = .bool x115 ∧ Ctx w F D w_ F [p82, p70, p56, p46, p34, p20]) ?_ ?_
    · skip
      refine W.region rfl ?_
      refine WL.val (Yl.move (v := .int .i64 r29) rfl) ?_
      refine WL.val (Yl.move (v := .int .i64 r41) rfl) ?_
      refine WL.val (Yl.eql (m := r29) (n := r41) (q := decide (r29 = r41)) rfl rfl rfl) ?_
      refine WL.val (Yl.move (v := .bool (decide (r29 = r41))) rfl) ?_
      rcases iteE hX117 with ⟨hc118, hX117⟩ | ⟨hc118, hX117⟩
      · skip
        refine WL.on rfl (congrArg Value.bool (decide_eq_true hc118)) ?_
        refine WL.val (Yl.move (v := .slice A30 n32 c31) rfl) ?_
        refine WL.on rfl (congrArg Value.bool (decide_eq_true hc118)) ?_
        refine WL.val (Yl.move (v := .slice A42 n44 c43) rfl) ?_
        refine WL.on rfl (congrArg Value.bool (decide_eq_true hc118)) ?_
        have le119 : CH.le F (CH.join F p34) := CH.le_joinL _ _
        have lp120 : CH.le p34 (CH.join F p34) := CH.le_joinR (Ctx.dis_of [p82, p70, p56, p46] [p20] C85)
        have C121 : Ctx _ _ _ _ (CH.join F p34) [p82, p70, p56, p46, p20] := Ctx.freeze [p82, p70, p56, p46] [p20] C85
        have le122 : CH.le (CH.join F p34) (CH.join (CH.join F p34) p46) := CH.le_joinL _ _
        have lp123 : CH.le p46 (CH.join (CH.join F p34) p46) := CH.le_joinR (Ctx.dis_of [p82, p70, p56] [p20] C121)
        have C124 : Ctx _ _ _ _ (CH.join (CH.join F p34) p46) [p82, p70, p56, p20] := Ctx.freeze [p82, p70, p56] [p20] C121
        obtain ⟨r126, hg125, hX117⟩ := bindE hX117
        refine WL.call (args := #[.slice A30 n32 c31, .slice A42 n44 c43]) (Yenter.fn Tryd.func33 (by kernel_rfl) rfl (argsE (.cons rfl (.cons rfl .nil)))) (juratref05_Same.calls k _ (CH.join (CH.join F p34) p46) A30 c31 n32 r28 A42 c43 n44 r40 C124.pre0 hn33 (Row.len_le hR37).1 (Row.len_le hR37).2.1 (Sl.mono (Row.sl hR37) (CH.le_trans le119 le122) (CH.le_trans lp120 le122)) hn45 (Row.len_le hR47).1 (Row.len_le hR47).2.1 (Sl.mono (Row.sl hR47) (CH.le_trans le119 le122) lp123) r126 hg125) ?_
        rintro e_ w_ ⟨rfl, ⟨m127, rfl⟩⟩
        refine ⟨_, rfl, ?_⟩
        have C128 := Ctx.drewN C85 m127
        refine WL.val (Yl.pickT (v := .bool r126) (congrArg Value.bool (decide_eq_true hc118)) rfl) ?_
        refine WL.val (Yl.move (v := .bool r126) rfl) ?_
        rcases iteE hX117 with ⟨hc129, hX117⟩ | ⟨hc129, hX117⟩
        · skip
          refine WL.on rfl (congrArg Value.bool hc129) ?_
          refine WL.val (Yl.move (v := .int .i64 r65) rfl) ?_
          refine WL.on rfl (congrArg Value.bool hc129) ?_
          refine WL.val (Yl.move (v := .int .i64 r77) rfl) ?_
          refine WL.on rfl (congrArg Value.bool hc129) ?_
          refine WL.val (Yl.eql (m := r65) (n := r77) (q := decide (r65 = r77)) rfl rfl rfl) ?_
          refine WL.val (Yl.pickT (v := .bool (decide (r65 = r77))) (congrArg Value.bool hc129) rfl) ?_
          refine WL.val (Yl.move (v := .bool (decide (r65 = r77))) rfl) ?_
          rcases iteE hX117 with ⟨hc130, hX117⟩ | ⟨hc130, hX117⟩
          · skip
            refine WL.on rfl (congrArg Value.bool (decide_eq_true hc130)) ?_
            refine WL.val (Yl.move (v := .slice A66 n68 c67) rfl) ?_
            refine WL.on rfl (congrArg Value.bool (decide_eq_true hc130)) ?_
            refine WL.val (Yl.move (v := .slice A78 n80 c79) rfl) ?_
            refine WL.on rfl (congrArg Value.bool (decide_eq_true hc130)) ?_
            have le131 : CH.le F (CH.join F p70) := CH.le_joinL _ _
            have lp132 : CH.le p70 (CH.join F p70) := CH.le_joinR (Ctx.dis_of [p82] [p56, p46, p34, p20] C128)
            have C133 : Ctx _ _ _ _ (CH.join F p70) [p82, p56, p46, p34, p20] := Ctx.freeze [p82] [p56, p46, p34, p20] C128
            have le134 : CH.le (CH.join F p70) (CH.join (CH.join F p70) p82) := CH.le_joinL _ _
            have lp135 : CH.le p82 (CH.join (CH.join F p70) p82) := CH.le_joinR (Ctx.dis_of [] [p56, p46, p34, p20] C133)
            have C136 : Ctx _ _ _ _ (CH.join (CH.join F p70) p82) [p56, p46, p34, p20] := Ctx.freeze [] [p56, p46, p34, p20] C133
            obtain ⟨r138, hg137, hX117⟩ := bindE hX117
            refine WL.call (args := #[.slice A66 n68 c67, .slice A78 n80 c79]) (Yenter.fn Tryd.func33 (by kernel_rfl) rfl (argsE (.cons rfl (.cons rfl .nil)))) (juratref05_Same.calls k _ (CH.join (CH.join F p70) p82) A66 c67 n68 r64 A78 c79 n80 r76 C136.pre0 hn69 (Row.len_le hR73).1 (Row.len_le hR73).2.1 (Sl.mono (Row.sl hR73) (CH.le_trans le131 le134) (CH.le_trans lp132 le134)) hn81 (Row.len_le hR83).1 (Row.len_le hR83).2.1 (Sl.mono (Row.sl hR83) (CH.le_trans le131 le134) lp135) r138 hg137) ?_
            rintro e_ w_ ⟨rfl, ⟨m139, rfl⟩⟩
            refine ⟨_, rfl, ?_⟩
            have C140 := Ctx.drewN C128 m139
            refine WL.val (Yl.pickT (v := .bool r138) (congrArg Value.bool (decide_eq_true hc130)) rfl) ?_
            refine WL.val (Yl.move (v := .bool r138) rfl) ?_
            rcases iteE hX117 with ⟨hc141, hX117⟩ | ⟨hc141, hX117⟩
            · skip
              refine WL.on rfl (congrArg Value.bool hc141) ?_
              obtain ⟨r143, hg142, hX117⟩ := bindE hX117
              refine WL.call (args := #[]) (Yenter.fn Tryd.func21 (by kernel_rfl) rfl (argsE .nil)) (juratlaw08_awake.calls k _ F  (Ctx.pre (qs := []) (rest := [p82, p70, p56, p46, p34, p20]) C140) (CH.le_trans hG1 (CH.le_trans (CH.le_refl _) (CH.le_refl _))) (CH.le_trans hG3 (CH.le_trans (CH.le_refl _) (CH.le_refl _))) r143 hg142) ?_
              rintro e_ w_ ⟨rfl, C144⟩
              refine ⟨_, rfl, ?_⟩
              have C145 : Ctx _ _ _ _ F [p82, p70, p56, p46, p34, p20] := Ctx.call (qs := []) (rest := [p82, p70, p56, p46, p34, p20]) C140 C144
              refine WL.val (Yl.pickT (v := .bool r143) (congrArg Value.bool hc141) rfl) ?_
              refine WL.val (Yl.assign (v := .bool r143) rfl) ?_
              refine WL.done ?_
              cases hX117
              refine thenE_n ?_
              exact ⟨rfl, C145⟩
            · skip
              refine WL.off rfl (congrArg Value.bool (Bool.eq_false_iff.2 hc141)) ?_
              refine WL.val (Yl.pickF (v := .bool false) (congrArg Value.bool (Bool.eq_false_iff.2 hc141)) rfl) ?_
              refine WL.val (Yl.assign (v := .bool false) rfl) ?_
              refine WL.done ?_
              cases hX117
              refine thenE_n ?_
              exact ⟨rfl, C140⟩
          · skip
            refine WL.off rfl (congrArg Value.bool (decide_eq_false hc130)) ?_
            refine WL.off rfl (congrArg Value.bool (decide_eq_false hc130)) ?_
            refine WL.off rfl (congrArg Value.bool (decide_eq_false hc130)) ?_
            refine WL.val (Yl.pickF (v := .bool false) (congrArg Value.bool (decide_eq_false hc130)) rfl) ?_
            refine WL.val (Yl.move (v := .bool false) rfl) ?_
            refine WL.off rfl rfl ?_
            refine WL.val (Yl.pickF (v := .bool false) rfl rfl) ?_
            refine WL.val (Yl.assign (v := .bool false) rfl) ?_
            refine WL.done ?_
            cases hX117
            refine thenE_n ?_
            exact ⟨rfl, C128⟩
        · skip
          refine WL.off rfl (congrArg Value.bool (Bool.eq_false_iff.2 hc129)) ?_
          refine WL.off rfl (congrArg Value.bool (Bool.eq_false_iff.2 hc129)) ?_
          refine WL.off rfl (congrArg Value.bool (Bool.eq_false_iff.2 hc129)) ?_
          refine WL.val (Yl.pickF (v := .bool false) (congrArg Value.bool (Bool.eq_false_iff.2 hc129)) rfl) ?_
          refine WL.val (Yl.move (v := .bool false) rfl) ?_
          refine WL.off rfl rfl ?_
          refine WL.off rfl rfl ?_
          refine WL.off rfl rfl ?_
          refine WL.val (Yl.pickF (v := .bool false) rfl rfl) ?_
          refine WL.val (Yl.move (v := .bool false) rfl) ?_
          refine WL.off rfl rfl ?_
          refine WL.val (Yl.pickF (v := .bool false) rfl rfl) ?_
          refine WL.val (Yl.assign (v := .bool false) rfl) ?_
          refine WL.done ?_
          cases hX117
          refine thenE_n ?_
          exact ⟨rfl, C128⟩
      · skip
        refine WL.off rfl (congrArg Value.bool (decide_eq_false hc118)) ?_
        refine WL.off rfl (congrArg Value.bool (decide_eq_false hc118)) ?_
        refine WL.off rfl (congrArg Value.bool (decide_eq_false hc118)) ?_
        refine WL.val (Yl.pickF (v := .bool false) (congrArg Value.bool (decide_eq_false hc118)) rfl) ?_
        refine WL.val (Yl.move (v := .bool false) rfl) ?_
        refine WL.off rfl rfl ?_
        refine WL.off rfl rfl ?_
        refine WL.off rfl rfl ?_
        refine WL.val (Yl.pickF (v := .bool false) rfl rfl) ?_
        refine WL.val (Yl.move (v := .bool false) rfl) ?_
        refine WL.off rfl rfl ?_
        refine WL.off rfl rfl ?_
        refine WL.off rfl rfl ?_
        refine WL.val (Yl.pickF (v := .bool false) rfl rfl) ?_
        refine WL.val (Yl.move (v := .bool false) rfl) ?_
        refine WL.off rfl rfl ?_
        refine WL.val (Yl.pickF (v := .bool false) rfl rfl) ?_
        refine WL.val (Yl.assign (v := .bool false) rfl) ?_
        refine WL.done ?_
        cases hX117
        refine thenE_n ?_
        exact ⟨rfl, C85⟩
    · skip
      rintro env_ w_ ⟨ho114, C116⟩
      refine W.ret ?_
      have C146 : Ctx _ _ _ _ F [p70, p56, p46, p34, p20] := Ctx.drop [] [p70, p56, p46, p34, p20] C116
      have C147 : Ctx _ _ _ _ F [p56, p46, p34, p20] := Ctx.drop [] [p56, p46, p34, p20] C146
      have C148 : Ctx _ _ _ _ F [p46, p34, p20] := Ctx.drop [] [p46, p34, p20] C147
      have C149 : Ctx _ _ _ _ F [p34, p20] := Ctx.drop [] [p34, p20] C148
      have C150 : Ctx _ _ _ _ F [p20] := Ctx.drop [] [p20] C149
      have C151 : Ctx _ _ _ _ F [] := Ctx.drop [] [] C150
      have e152 := Option.some.inj H
      subst e152
      exact post_r (resE1 rfl ho114) ⟨rfl, C151⟩
end Go.Proofs.YthdlfclkcdnenaaDoor
