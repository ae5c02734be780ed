/- Functions of the program: each as a plain function of numbers and lists, and the proof that the program's own comes to it. Nothing is assumed but what each theorem says. -/
import Derived.Test.YthdlfclkcdnenaaDoorGg
namespace Go.Proofs.YthdlfclkcdnenaaDoor
open Go.RowKit Go.WG
set_option linter.unusedVariables false
set_option linter.unusedSimpArgs false

/-! ### jurat/juratlaw08.ProofShort: function 7 -/
def juratlaw08_ProofShort.l1 : Nat → Int → Int → Option Int
  | 0, _, _ => none
  | k + 1, x41, x43 => if x43 > 0 then (juratlaw08_ProofShort.l1 k (wi64 (x41 + 1)) (wi64 (x43.tdiv 2))) else (some x41)
def juratlaw08_ProofShort.f (k : Nat) (a0 : List (List Int)) (a1 : Int) : Option Bool := (if (a0.length : Int) > 200 then (some (true)) else (some (decide ((a0.length : Int) = 0)))).bind fun g8 => if g8 = true then ((juratlaw08_awake.f k ).bind fun r17 => some r17) else (if (wu64 (a0.length : Int)) ≠ 0 then ((juratlaw08_ProofShort.l1 k 0 (wi64 ((a0.length : Int) - 1))).bind fun x35 => (juratlaw08_own.f k a0).bind fun r49 => (proof_Include.f k r49 (wi64 ((wu64 a1).tmod (wu64 (a0.length : Int))))).bind fun ⟨r62, r63⟩ => (juratlaw08_own.f k a0).bind fun r74 => (proof_Consist.f k r74 (wi64 ((wu64 a1).tmod (wu64 (a0.length : Int))))).bind fun ⟨r87, r88⟩ => (if r63 = 0 then (if r88 = 0 then (if (r62.length : Int) ≤ x35 then (if (r87.length : Int) ≤ (wi64 (x35 + 1)) then ((juratlaw08_awake.f k ).bind fun r115 => some r115) else (some false)) else (some false)) else (some false)) else (some false)).bind fun x107 => some x107) else none)
set_option maxRecDepth 100000 in
set_option maxHeartbeats 4000000 in
theorem juratlaw08_ProofShort.calls (k : Nat) (w : World) (F : CH) (A1 : Option Addr) (c2 : Nat) (n3 : Nat) (a0 : List (List Int)) (a1 : Int) (hp : Pre w F []) (hn4 : n3 = a0.length) (hl5 : a0.length ≤ c2) (hm6 : c2 ≤ maxLen) (hS7 : Sl (Kd.arrI 32 .u8) F F A1 a0) (hG1 : CH.le (CH.row 1 0 (glob1.map (Value.int .u32))) F) (hG3 : CH.le (CH.row 3 0 (glob3.map (Value.int .u32))) F) (r0_ : Bool) (H : juratlaw08_ProofShort.f k a0 a1 = some r0_) :
    Calls Tryd.prog 7 #[.slice A1 n3 c2, .int .i64 a1] w fun e w' => e = .returned (.bool r0_) ∧ Ctx w F (domL []) w' F [] := by
  have C := Ctx.start hp
  generalize hD : domL [] = D at C ⊢
  unfold juratlaw08_ProofShort.f at H
  refine Calls.ofW Tryd.func7 rfl (by simp [Tryd.ntmps7]) ?_
  refine W.seq ?_
  refine W.region rfl ?_
  refine WL.val (Yl.assign (v := .bool false) rfl) ?_
  refine WL.done ?_
  refine W.seq ?_
  refine W.seq ?_
  refine W.region rfl ?_
  refine WL.val (Yl.move (v := .slice A1 n3 c2) rfl) ?_
  refine WL.val (Yl.lenN (A := A1) (l := n3) (q := c2) (n := (a0.length : Int)) rfl Tryd.underlying31 (by omega)) ?_
  refine WL.val (Yl.gtr (m := (a0.length : Int)) (n := 200) (q := decide ((a0.length : Int) > 200)) rfl rfl rfl) ?_
  refine WL.val (Yl.move (v := .bool (decide ((a0.length : Int) > 200))) rfl) ?_
  obtain ⟨g8, HE9, H⟩ := bindE H
  refine WL.cut (fun env_ w_ => env_ 18 = .bool g8 ∧ env_ 0 = .slice A1 n3 c2 ∧ env_ 1 = .int .i64 a1 ∧ Ctx w F D w_ F []) ?_ ?_
  · skip
    rcases iteE HE9 with ⟨hc10, HE9⟩ | ⟨hc10, HE9⟩
    · skip
      refine WL.off rfl (congrArg Value.bool (decide_eq_true hc10)) ?_
      refine WL.off rfl (congrArg Value.bool (decide_eq_true hc10)) ?_
      refine WL.off rfl (congrArg Value.bool (decide_eq_true hc10)) ?_
      refine WL.val (Yl.pickT (v := .bool true) (congrArg Value.bool (decide_eq_true hc10)) rfl) ?_
      cases HE9
      exact WL.done ⟨rfl, rfl, rfl, C⟩
    · skip
      refine WL.on rfl (congrArg Value.bool (decide_eq_false hc10)) ?_
      refine WL.val (Yl.move (v := .slice A1 n3 c2) rfl) ?_
      refine WL.on rfl (congrArg Value.bool (decide_eq_false hc10)) ?_
      refine WL.val (Yl.lenN (A := A1) (l := n3) (q := c2) (n := (a0.length : Int)) rfl Tryd.underlying31 (by omega)) ?_
      refine WL.on rfl (congrArg Value.bool (decide_eq_false hc10)) ?_
      refine WL.val (Yl.eql (m := (a0.length : Int)) (n := 0) (q := decide ((a0.length : Int) = 0)) rfl rfl rfl) ?_
      refine WL.val (Yl.pickF (v := .bool (decide ((a0.length : Int) = 0))) (congrArg Value.bool (decide_eq_false hc10)) rfl) ?_
      cases HE9
      exact WL.done ⟨rfl, rfl, rfl, C⟩
  · skip
    rintro env_ w_ ⟨ho11, ho12, ho13, C14⟩
    rcases iteE H with ⟨hc15, H⟩ | ⟨hc15, H⟩
    · skip
      refine W.condT (ho11.trans (congrArg Value.bool hc15)) ?_
      refine W.seq ?_
      refine W.region rfl ?_
      obtain ⟨r17, hg16, H⟩ := bindE H
      refine WL.call (args := #[]) (Yenter.fn Tryd.func21 (by kernel_rfl) rfl (argsE .nil)) (juratlaw08_awake.calls k _ F  (Ctx.pre (qs := []) (rest := []) C14) (CH.le_trans hG1 (CH.le_trans (CH.le_refl _) (CH.le_refl _))) (CH.le_trans hG3 (CH.le_trans (CH.le_refl _) (CH.le_refl _))) r17 hg16) ?_
      rintro e_ w_ ⟨rfl, C18⟩
      refine ⟨_, rfl, ?_⟩
      have C19 : Ctx _ _ _ _ F [] := Ctx.call (qs := []) (rest := []) C14 C18
      refine WL.val (Yl.assign (v := .bool r17) rfl) ?_
      refine WL.done ?_
      refine W.ret ?_
      refine thenE_r ?_
      have e20 := Option.some.inj H
      subst e20
      exact post_r (resE1 rfl rfl) ⟨rfl, C19⟩
    · skip
      refine W.condF (ho11.trans (congrArg Value.bool (Bool.eq_false_iff.2 hc15))) ?_
      refine W.skip ?_
      refine W.seq ?_
      refine W.region rfl ?_
      refine WL.val (Yl.move (v := .int .i64 a1) ho13) ?_
      refine WL.val (Yl.conv (m := a1) (r := wu64 a1) rfl Tryd.underlying3 Tryd.underlying46 rfl) ?_
      refine WL.val (Yl.move (v := .slice A1 n3 c2) ho12) ?_
      refine WL.val (Yl.lenN (A := A1) (l := n3) (q := c2) (n := (a0.length : Int)) rfl Tryd.underlying31 (by omega)) ?_
      refine WL.val (Yl.conv (m := (a0.length : Int)) (r := wu64 (a0.length : Int)) rfl Tryd.underlying3 Tryd.underlying46 rfl) ?_
      obtain ⟨hc21, H⟩ := guardE H
      refine WL.val (Yl.rem (m := wu64 a1) (n := wu64 (a0.length : Int)) (r := (wu64 a1).tmod (wu64 (a0.length : Int))) rfl rfl hc21 rfl) ?_
      refine WL.val (Yl.conv (m := (wu64 a1).tmod (wu64 (a0.length : Int))) (r := wi64 ((wu64 a1).tmod (wu64 (a0.length : Int)))) rfl Tryd.underlying46 Tryd.underlying3 rfl) ?_
      refine WL.val (Yl.assign (v := .int .i64 (wi64 ((wu64 a1).tmod (wu64 (a0.length : Int))))) rfl) ?_
      refine WL.done ?_
      refine W.seq ?_
      refine W.region rfl ?_
      refine WL.val (Yl.assign (v := .int .i64 0) rfl) ?_
      refine WL.done ?_
      refine W.seq ?_
      refine W.seq ?_
      refine W.region rfl ?_
      refine WL.val (Yl.move (v := .slice A1 n3 c2) ho12) ?_
      refine WL.val (Yl.lenN (A := A1) (l := n3) (q := c2) (n := (a0.length : Int)) rfl Tryd.underlying31 (by omega)) ?_
      refine WL.val (Yl.sub (m := (a0.length : Int)) (n := 1) (r := wi64 ((a0.length : Int) - 1)) rfl rfl rfl) ?_
      refine WL.val (Yl.assign (v := .int .i64 (wi64 ((a0.length : Int) - 1))) rfl) ?_
      refine WL.done ?_
      obtain ⟨x35, hX37, H⟩ := bindE H
      refine W.cutM (fun env_ w_ => env_ 0 = .slice A1 n3 c2 ∧ env_ 1 = .int .i64 (wi64 ((wu64 a1).tmod (wu64 (a0.length : Int)))) ∧ env_ 5 = .int .i64 x35 ∧ Ctx w F D w_ F []) ?_ ?_
      · skip
        refine W.block ?_
        refine W.loop (fun g_ env_ w_ => ∃ (x41 : Int) (x43 : Int), env_ 0 = .slice A1 n3 c2 ∧ env_ 1 = .int .i64 (wi64 ((wu64 a1).tmod (wu64 (a0.length : Int)))) ∧ env_ 5 = .int .i64 x41 ∧ env_ 6 = .int .i64 x43 ∧ Ctx w F D w_ F [] ∧ juratlaw08_ProofShort.l1 g_ x41 x43 = some x35) k ⟨0, wi64 ((a0.length : Int) - 1), ho12, rfl, rfl, rfl, C14, hX37⟩ ?_
        clear hX37
        rintro g_ env_ w_ ⟨x41, x43, ho38, ho39, ho40, ho42, C44, hX37⟩
        rcases g_ with _ | k46
        · exact absurd hX37 (by simp [juratlaw08_ProofShort.l1])
        rw [juratlaw08_ProofShort.l1] at hX37
        refine W.seq ?_
        refine W.seq ?_
        refine W.region rfl ?_
        refine WL.val (Yl.move (v := .int .i64 x43) ho42) ?_
        refine WL.val (Yl.gtr (m := x43) (n := 0) (q := decide (x43 > 0)) rfl rfl rfl) ?_
        refine WL.done ?_
        rcases iteE hX37 with ⟨hc47, hX37⟩ | ⟨hc47, hX37⟩
        · skip
          refine W.condT (congrArg Value.bool (decide_eq_true hc47)) ?_
          refine W.skip ?_
          refine W.seq ?_
          refine W.block ?_
          refine W.region rfl ?_
          refine WL.val (Yl.move (v := .int .i64 x41) ho40) ?_
          refine WL.val (Yl.add (m := x41) (n := 1) (r := wi64 (x41 + 1)) rfl rfl rfl) ?_
          refine WL.val (Yl.assign (v := .int .i64 (wi64 (x41 + 1))) rfl) ?_
          refine WL.done ?_
          refine inB_n ?_
          refine W.region rfl ?_
          refine WL.val (Yl.move (v := .int .i64 x43) ho42) ?_
          refine WL.val (Yl.quo (m := x43) (n := 2) (r := wi64 (x43.tdiv 2)) rfl rfl (by decide) rfl) ?_
          refine WL.val (Yl.assign (v := .int .i64 (wi64 (x43.tdiv 2))) rfl) ?_
          refine WL.done ?_
          exact thenE_n ⟨k46, Nat.lt_succ_self _, wi64 (x41 + 1), wi64 (x43.tdiv 2), ho38, ho39, rfl, rfl, C44, hX37⟩
        · skip
          refine W.condF (congrArg Value.bool (decide_eq_false hc47)) ?_
          refine W.exit ?_
          refine thenE_x ?_
          refine thenE_x ?_
          refine inB_here ?_
          cases hX37
          refine thenE_n ?_
          exact ⟨ho38, ho39, ho40, C44⟩
      · skip
        rintro env_ w_ ⟨ho32, ho33, ho34, C36⟩
        refine W.seq ?_
        refine W.region rfl ?_
        refine WL.val (Yl.move (v := .slice A1 n3 c2) ho32) ?_
        obtain ⟨r49, hg48, H⟩ := bindE H
        refine WL.call (args := #[.slice A1 n3 c2]) (Yenter.fn Tryd.func23 (by kernel_rfl) rfl (argsE (.cons rfl .nil))) (juratlaw08_own.calls k _ F A1 c2 n3 a0 (Ctx.pre (qs := []) (rest := []) C36) hn4 hl5 hm6 hS7 r49 hg48) ?_
        rintro e_ w_ ⟨A50, c51, n52, p54, rfl, C56, hn53, hR55⟩
        refine ⟨_, rfl, ?_⟩
        have C57 : Ctx _ _ _ _ F [p54] := Ctx.call (qs := []) (rest := []) C36 C56
        refine WL.val (Yl.move (v := .int .i64 (wi64 ((wu64 a1).tmod (wu64 (a0.length : Int))))) ho33) ?_
        have le58 : CH.le F (CH.join F p54) := CH.le_joinL _ _
        have lp59 : CH.le p54 (CH.join F p54) := CH.le_joinR (Ctx.dis_of [] [] C57)
        have C60 : Ctx _ _ _ _ (CH.join F p54) [] := Ctx.freeze [] [] C57
        obtain ⟨⟨r62, r63⟩, hg61, H⟩ := bindE H
        refine WL.call (args := #[.slice A50 n52 c51, .int .i64 (wi64 ((wu64 a1).tmod (wu64 (a0.length : Int))))]) (Yenter.fn Tryd.func29 (by kernel_rfl) rfl (argsE (.cons rfl (.cons rfl .nil)))) (proof_Include.calls k _ (CH.join F p54) A50 c51 n52 r49 (wi64 ((wu64 a1).tmod (wu64 (a0.length : Int)))) (Ctx.pre (qs := []) (rest := []) C60) hn53 (Row.len_le hR55).1 (Row.len_le hR55).2.1 (Sl.mono (Row.sl hR55) le58 lp59) (CH.le_trans hG1 (CH.le_trans (CH.le_refl _) le58)) (CH.le_trans hG3 (CH.le_trans (CH.le_refl _) le58)) r62 r63 hg61) ?_
        rintro e_ w_ ⟨A64, c65, n66, p68, rfl, C70, hn67, hR69⟩
        refine ⟨_, rfl, ?_⟩
        have hR71 : Row (Kd.arrI 32 .u8) F p68 (.slice A64 n66 c65) r62 := hR69
        have C72 : Ctx _ _ _ _ F [p68, p54] := Ctx.callL (qs := []) (rest := [p54]) C57 le58 C70
        refine WL.val (Yl.move (v := .tuple #[(.slice A64 n66 c65), (.int .i64 r63)]) rfl) ?_
        refine WL.val (Yl.extract (v := .slice A64 n66 c65) rfl rfl) ?_
        refine WL.val (Yl.extract (v := .int .i64 r63) rfl rfl) ?_
        refine WL.val (Yl.assign (v := .slice A64 n66 c65) rfl) ?_
        refine WL.val (Yl.assign (v := .int .i64 r63) rfl) ?_
        refine WL.done ?_
        refine W.seq ?_
        refine W.region rfl ?_
        refine WL.val (Yl.move (v := .slice A1 n3 c2) ho32) ?_
        obtain ⟨r74, hg73, H⟩ := bindE H
        refine WL.call (args := #[.slice A1 n3 c2]) (Yenter.fn Tryd.func23 (by kernel_rfl) rfl (argsE (.cons rfl .nil))) (juratlaw08_own.calls k _ F A1 c2 n3 a0 (Ctx.pre (qs := []) (rest := [p68, p54]) C72) hn4 hl5 hm6 hS7 r74 hg73) ?_
        rintro e_ w_ ⟨A75, c76, n77, p79, rfl, C81, hn78, hR80⟩
        refine ⟨_, rfl, ?_⟩
        have C82 : Ctx _ _ _ _ F [p79, p68, p54] := Ctx.call (qs := []) (rest := [p68, p54]) C72 C81
        refine WL.val (Yl.move (v := .int .i64 (wi64 ((wu64 a1).tmod (wu64 (a0.length : Int))))) ho33) ?_
        have le83 : CH.le F (CH.join F p79) := CH.le_joinL _ _
        have lp84 : CH.le p79 (CH.join F p79) := CH.le_joinR (Ctx.dis_of [] [p68, p54] C82)
        have C85 : Ctx _ _ _ _ (CH.join F p79) [p68, p54] := Ctx.freeze [] [p68, p54] C82
        obtain ⟨⟨r87, r88⟩, hg86, H⟩ := bindE H
        refine WL.call (args := #[.slice A75 n77 c76, .int .i64 (wi64 ((wu64 a1).tmod (wu64 (a0.length : Int))))]) (Yenter.fn Tryd.func31 (by kernel_rfl) rfl (argsE (.cons rfl (.cons rfl .nil)))) (proof_Consist.calls k _ (CH.join F p79) A75 c76 n77 r74 (wi64 ((wu64 a1).tmod (wu64 (a0.length : Int)))) (Ctx.pre (qs := []) (rest := [p68, p54]) C85) hn78 (Row.len_le hR80).1 (Row.len_le hR80).2.1 (Sl.mono (Row.sl hR80) le83 lp84) (CH.le_trans hG1 (CH.le_trans (CH.le_refl _) le83)) (CH.le_trans hG3 (CH.le_trans (CH.le_refl _) le83)) r87 r88 hg86) ?_
        rintro e_ w_ ⟨A89, c90, n91, p93, rfl, C95, hn92, hR94⟩
        refine ⟨_, rfl, ?_⟩
        have hR96 : Row (Kd.arrI 32 .u8) F p93 (.slice A89 n91 c90) r87 := hR94
        have C97 : Ctx _ _ _ _ F [p93, p79, p68, p54] := Ctx.callL (qs := []) (rest := [p79, p68, p54]) C82 le83 C95
        refine WL.val (Yl.move (v := .tuple #[(.slice A89 n91 c90), (.int .i64 r88)]) rfl) ?_
        refine WL.val (Yl.extract (v := .slice A89 n91 c90) rfl rfl) ?_
        refine WL.val (Yl.extract (v := .int .i64 r88) rfl rfl) ?_
        refine WL.val (Yl.assign (v := .slice A89 n91 c90) rfl) ?_
        refine WL.val (Yl.assign (v := .int .i64 r88) rfl) ?_
        refine WL.done ?_
        refine W.seq ?_
        obtain ⟨x107, hX109, H⟩ := bindE H
        refine W.cutM (fun env_ w_ => env_ 4 = .bool x107 ∧ Ctx w F D w_ F [p93, p79, p68, p54]) ?_ ?_
        · skip
          refine W.region rfl ?_
          refine WL.val (Yl.move (v := .int .i64 r63) rfl) ?_
          refine WL.val (Yl.eql (m := r63) (n := 0) (q := decide (r63 = 0)) rfl rfl rfl) ?_
          refine WL.val (Yl.move (v := .bool (decide (r63 = 0))) rfl) ?_
          rcases iteE hX109 with ⟨hc110, hX109⟩ | ⟨hc110, hX109⟩
          · skip
            refine WL.on rfl (congrArg Value.bool (decide_eq_true hc110)) ?_
            refine WL.val (Yl.move (v := .int .i64 r88) rfl) ?_
            refine WL.on rfl (congrArg Value.bool (decide_eq_true hc110)) ?_
            refine WL.val (Yl.eql (m := r88) (n := 0) (q := decide (r88 = 0)) rfl rfl rfl) ?_
            refine WL.val (Yl.pickT (v := .bool (decide (r88 = 0))) (congrArg Value.bool (decide_eq_true hc110)) rfl) ?_
            refine WL.val (Yl.move (v := .bool (decide (r88 = 0))) rfl) ?_
            rcases iteE hX109 with ⟨hc111, hX109⟩ | ⟨hc111, hX109⟩
            · skip
              refine WL.on rfl (congrArg Value.bool (decide_eq_true hc111)) ?_
              refine WL.val (Yl.move (v := .slice A64 n66 c65) rfl) ?_
              refine WL.on rfl (congrArg Value.bool (decide_eq_true hc111)) ?_
              refine WL.val (Yl.lenN (A := A64) (l := n66) (q := c65) (n := (r62.length : Int)) rfl Tryd.underlying31 (by omega)) ?_
              refine WL.on rfl (congrArg Value.bool (decide_eq_true hc111)) ?_
              refine WL.val (Yl.move (v := .int .i64 x35) ho34) ?_
              refine WL.on rfl (congrArg Value.bool (decide_eq_true hc111)) ?_
              refine WL.val (Yl.leq (m := (r62.length : Int)) (n := x35) (q := decide ((r62.length : Int) ≤ x35)) rfl rfl rfl) ?_
              refine WL.val (Yl.pickT (v := .bool (decide ((r62.length : Int) ≤ x35))) (congrArg Value.bool (decide_eq_true hc111)) rfl) ?_
              refine WL.val (Yl.move (v := .bool (decide ((r62.length : Int) ≤ x35))) rfl) ?_
              rcases iteE hX109 with ⟨hc112, hX109⟩ | ⟨hc112, hX109⟩
              · skip
                refine WL.on rfl (congrArg Value.bool (decide_eq_true hc112)) ?_
                refine WL.val (Yl.move (v := .slice A89 n91 c90) rfl) ?_
                refine WL.on rfl (congrArg Value.bool (decide_eq_true hc112)) ?_
                refine WL.val (Yl.lenN (A := A89) (l := n91) (q := c90) (n := (r87.length : Int)) rfl Tryd.underlying31 (by omega)) ?_
                refine WL.on rfl (congrArg Value.bool (decide_eq_true hc112)) ?_
                refine WL.val (Yl.move (v := .int .i64 x35) ho34) ?_
                refine WL.on rfl (congrArg Value.bool (decide_eq_true hc112)) ?_
                refine WL.val (Yl.add (m := x35) (n := 1) (r := wi64 (x35 + 1)) rfl rfl rfl) ?_
                refine WL.on rfl (congrArg Value.bool (decide_eq_true hc112)) ?_
                refine WL.val (Yl.leq (m := (r87.length : Int)) (n := wi64 (x35 + 1)) (q := decide ((r87.length : Int) ≤ (wi64 (x35 + 1)))) rfl rfl rfl) ?_
                refine WL.val (Yl.pickT (v := .bool (decide ((r87.length : Int) ≤ (wi64 (x35 + 1))))) (congrArg Value.bool (decide_eq_true hc112)) rfl) ?_
                refine WL.val (Yl.move (v := .bool (decide ((r87.length : Int) ≤ (wi64 (x35 + 1))))) rfl) ?_
                rcases iteE hX109 with ⟨hc113, hX109⟩ | ⟨hc113, hX109⟩
                · skip
                  refine WL.on rfl (congrArg Value.bool (decide_eq_true hc113)) ?_
                  obtain ⟨r115, hg114, hX109⟩ := bindE hX109
                  refine WL.call (args := #[]) (Yenter.fn Tryd.func21 (by kernel_rfl) rfl (argsE .nil)) (juratlaw08_awake.calls k _ F  (Ctx.pre (qs := []) (rest := [p93, p79, p68, p54]) C97) (CH.le_trans hG1 (CH.le_trans (CH.le_refl _) (CH.le_refl _))) (CH.le_trans hG3 (CH.le_trans (CH.le_refl _) (CH.le_refl _))) r115 hg114) ?_
                  rintro e_ w_ ⟨rfl, C116⟩
                  refine ⟨_, rfl, ?_⟩
                  have C117 : Ctx _ _ _ _ F [p93, p79, p68, p54] := Ctx.call (qs := []) (rest := [p93, p79, p68, p54]) C97 C116
                  refine WL.val (Yl.pickT (v := .bool r115) (congrArg Value.bool (decide_eq_true hc113)) rfl) ?_
                  refine WL.val (Yl.assign (v := .bool r115) rfl) ?_
                  refine WL.done ?_
                  cases hX109
                  refine thenE_n ?_
                  exact ⟨rfl, C117⟩
                · skip
                  refine WL.off rfl (congrArg Value.bool (decide_eq_false hc113)) ?_
                  refine WL.val (Yl.pickF (v := .bool false) (congrArg Value.bool (decide_eq_false hc113)) rfl) ?_
                  refine WL.val (Yl.assign (v := .bool false) rfl) ?_
                  refine WL.done ?_
                  cases hX109
                  refine thenE_n ?_
                  exact ⟨rfl, C97⟩
              · skip
                refine WL.off rfl (congrArg Value.bool (decide_eq_false hc112)) ?_
                refine WL.off rfl (congrArg Value.bool (decide_eq_false hc112)) ?_
                refine WL.off rfl (congrArg Value.bool (decide_eq_false hc112)) ?_
                refine WL.off rfl (congrArg Value.bool (decide_eq_false hc112)) ?_
                refine WL.off rfl (congrArg Value.bool (decide_eq_false hc112)) ?_
                refine WL.val (Yl.pickF (v := .bool false) (congrArg Value.bool (decide_eq_false hc112)) rfl) ?_
                refine WL.val (Yl.move (v := .bool false) rfl) ?_
                refine WL.off rfl rfl ?_
                refine WL.val (Yl.pickF (v := .bool false) rfl rfl) ?_
                refine WL.val (Yl.assign (v := .bool false) rfl) ?_
                refine WL.done ?_
                cases hX109
                refine thenE_n ?_
                exact ⟨rfl, C97⟩
            · skip
              refine WL.off rfl (congrArg Value.bool (decide_eq_false hc111)) ?_
              refine WL.off rfl (congrArg Value.bool (decide_eq_false hc111)) ?_
              refine WL.off rfl (congrArg Value.bool (decide_eq_false hc111)) ?_
              refine WL.off rfl (congrArg Value.bool (decide_eq_false hc111)) ?_
              refine WL.val (Yl.pickF (v := .bool false) (congrArg Value.bool (decide_eq_false hc111)) rfl) ?_
              refine WL.val (Yl.move (v := .bool false) rfl) ?_
              refine WL.off rfl rfl ?_
              refine WL.off rfl rfl ?_
              refine WL.off rfl rfl ?_
              refine WL.off rfl rfl ?_
              refine WL.off rfl rfl ?_
              refine WL.val (Yl.pickF (v := .bool false) rfl rfl) ?_
              refine WL.val (Yl.move (v := .bool false) rfl) ?_
              refine WL.off rfl rfl ?_
              refine WL.val (Yl.pickF (v := .bool false) rfl rfl) ?_
              refine WL.val (Yl.assign (v := .bool false) rfl) ?_
              refine WL.done ?_
              cases hX109
              refine thenE_n ?_
              exact ⟨rfl, C97⟩
          · skip
            refine WL.off rfl (congrArg Value.bool (decide_eq_false hc110)) ?_
            refine WL.off rfl (congrArg Value.bool (decide_eq_false hc110)) ?_
            refine WL.val (Yl.pickF (v := .bool false) (congrArg Value.bool (decide_eq_false hc110)) rfl) ?_
            refine WL.val (Yl.move (v := .bool false) rfl) ?_
            refine WL.off rfl rfl ?_
            refine WL.off rfl rfl ?_
            refine WL.off rfl rfl ?_
            refine WL.off rfl rfl ?_
            refine WL.val (Yl.pickF (v := .bool false) rfl rfl) ?_
            refine WL.val (Yl.move (v := .bool false) rfl) ?_
            refine WL.off rfl rfl ?_
            refine WL.off rfl rfl ?_
            refine WL.off rfl rfl ?_
            refine WL.off rfl rfl ?_
            refine WL.off rfl rfl ?_
            refine WL.val (Yl.pickF (v := .bool false) rfl rfl) ?_
            refine WL.val (Yl.move (v := .bool false) rfl) ?_
            refine WL.off rfl rfl ?_
            refine WL.val (Yl.pickF (v := .bool false) rfl rfl) ?_
            refine WL.val (Yl.assign (v := .bool false) rfl) ?_
            refine WL.done ?_
            cases hX109
            refine thenE_n ?_
            exact ⟨rfl, C97⟩
        · skip
          rintro env_ w_ ⟨ho106, C108⟩
          refine W.ret ?_
          have C118 : Ctx _ _ _ _ F [p79, p68, p54] := Ctx.drop [] [p79, p68, p54] C108
          have C119 : Ctx _ _ _ _ F [p68, p54] := Ctx.drop [] [p68, p54] C118
          have C120 : Ctx _ _ _ _ F [p54] := Ctx.drop [] [p54] C119
          have C121 : Ctx _ _ _ _ F [] := Ctx.drop [] [] C120
          have e122 := Option.some.inj H
          subst e122
          exact post_r (resE1 rfl ho106) ⟨rfl, C121⟩
end Go.Proofs.YthdlfclkcdnenaaDoor
