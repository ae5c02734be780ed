/- Functions of the program: each as a plain function of numbers and lists, and the proof that the program's own comes to it. Nothing is assumed but what each theorem says. -/
import Derived.Test.YtaajcpjhcckecaaTGc
namespace Go.Proofs.Ytaajcpjhcckecaa
open Go.RowKit Go.WG
set_option linter.unusedVariables false
set_option linter.unusedSimpArgs false
def juratlaw19_TallyHonest.l1 : Nat → List (List Int) → List Int → Int → Int → Option Int
  | 0, _, _, _, _ => none
  | k + 1, a0, a1, x130, x132 => if x132 < (a0.length : Int) then (if 0 ≤ x132 ∧ x132 < (a0.length : Int) then ((juratref01_Same.f k (a0.getD x132.toNat []) a1).bind fun r173 => if r173 = true then (juratlaw19_TallyHonest.l1 k a0 a1 x130 (wi64 (x132 + 1))) else (juratlaw19_TallyHonest.l1 k a0 a1 (wi64 (x130 + 1)) (wi64 (x132 + 1)))) else none) else (some x130)
def juratlaw19_TallyHonest.f (k : Nat) (a0 : List (List Int)) (a1 : List Int) (a2 : Int) : Option Bool := ((juratlaw19_great.f k a0).bind fun r42 => if r42 = true then (some true) else (if (a1.length : Int) > 200 then (some true) else (if a2 < 0 then (some true) else (some (decide (a2 > 100)))))).bind fun x34 => if x34 = true then ((juratlaw19_awake.f k ).bind fun r50 => some r50) else ((juratlaw19_votes.f k a0).bind fun r55 => (juratlaw19_TallyHonest.l1 k a0 a1 0 0).bind fun x122 => (tally_Decide.f k r55 a2).bind fun ⟨r181, r182⟩ => (if x122 ≤ a2 then (if r182 = true then ((juratref01_Same.f k r181 a1).bind fun r200 => some (!r200)) else (some (false))) else (some (false))).bind fun g192 => if g192 = true then (some false) else ((if (wi64 ((r55.length : Int) - x122)) > a2 then (if (r55.length : Int) ≤ (wi64 ((wi64 (2 * a2)) + 1)) then (if r182 = true then ((juratref01_Same.f k r181 a1).bind fun r224 => some (!r224)) else (some (true))) else (some (false))) else (some (false))).bind fun g215 => if g215 = true then (some false) else (((tally_Liars.f k r55 a1).bind fun r305 => if (r305.length : Int) = x122 then ((juratlaw19_awake.f k ).bind fun r317 => some r317) else (some false)).bind fun x284 => some x284)))
set_option maxRecDepth 100000 in
set_option maxHeartbeats 4000000 in
theorem juratlaw19_TallyHonest.calls (k : Nat) (w : World) (F : CH) (A1 : Option Addr) (c2 : Nat) (n3 : Nat) (a0 : List (List Int)) (A8 : Option Addr) (c9 : Nat) (n10 : Nat) (a1 : List Int) (a2 : Int) (hp : Pre w F []) (hn4 : n3 = a0.length) (hl5 : a0.length ≤ c2) (hm6 : c2 ≤ maxLen) (hS7 : Sl (Kd.slice (Kd.int .u8)) F F A1 a0) (hn11 : n10 = a1.length) (hl12 : a1.length ≤ c9) (hm13 : c9 ≤ maxLen) (hS14 : Sl (Kd.int .u8) F F A8 a1) (r0_ : Bool) (H : juratlaw19_TallyHonest.f k a0 a1 a2 = some r0_) :
    Calls Try.prog 3 #[.slice A1 n3 c2, .slice A8 n10 c9, .int .i64 a2] w fun e w' => e = .returned (.bool r0_) ∧ Ctx w F (domL []) w' F [] := by
  have C := Ctx.start hp
  generalize hD : domL [] = D at C ⊢
  unfold juratlaw19_TallyHonest.f at H
  refine Calls.ofW Try.func3 rfl (by simp [Try.ntmps3]) ?_
  refine W.seq ?_
  refine W.region rfl ?_
  refine WL.val (Yl.assign (v := .bool false) rfl) ?_
  refine WL.done ?_
  refine W.seq ?_
  refine W.seq ?_
  obtain ⟨x34, hX36, H⟩ := bindE H
  refine W.cutM (fun env_ w_ => env_ 0 = .slice A1 n3 c2 ∧ env_ 1 = .slice A8 n10 c9 ∧ env_ 2 = .int .i64 a2 ∧ env_ 26 = .bool x34 ∧ Ctx w F D w_ F []) ?_ ?_
  · skip
    refine W.region rfl ?_
    refine WL.val (Yl.move (v := .slice A1 n3 c2) rfl) ?_
    obtain ⟨r42, hg41, hX36⟩ := bindE hX36
    refine WL.call (args := #[.slice A1 n3 c2]) (Yenter.fn Try.func9 (by kernel_rfl) rfl (argsE (.cons rfl .nil))) (juratlaw19_great.calls k _ F A1 c2 n3 a0 (Ctx.pre (qs := []) (rest := []) C) hn4 hl5 hm6 hS7 r42 hg41) ?_
    rintro e_ w_ ⟨rfl, C43⟩
    refine ⟨_, rfl, ?_⟩
    have C44 : Ctx _ _ _ _ F [] := Ctx.call (qs := []) (rest := []) C C43
    refine WL.val (Yl.move (v := .bool r42) rfl) ?_
    rcases iteE hX36 with ⟨hc45, hX36⟩ | ⟨hc45, hX36⟩
    · skip
      refine WL.off rfl (congrArg Value.bool hc45) ?_
      refine WL.off rfl (congrArg Value.bool hc45) ?_
      refine WL.off rfl (congrArg Value.bool hc45) ?_
      refine WL.val (Yl.pickT (v := .bool true) (congrArg Value.bool hc45) rfl) ?_
      refine WL.val (Yl.move (v := .bool true) rfl) ?_
      refine WL.off rfl rfl ?_
      refine WL.off rfl rfl ?_
      refine WL.val (Yl.pickT (v := .bool true) rfl rfl) ?_
      refine WL.val (Yl.move (v := .bool true) rfl) ?_
      refine WL.off rfl rfl ?_
      refine WL.off rfl rfl ?_
      refine WL.val (Yl.pickT (v := .bool true) rfl rfl) ?_
      refine WL.done ?_
      cases hX36
      refine thenE_n ?_
      exact ⟨rfl, rfl, rfl, rfl, C44⟩
    · skip
      refine WL.on rfl (congrArg Value.bool (Bool.eq_false_iff.2 hc45)) ?_
      refine WL.val (Yl.move (v := .slice A8 n10 c9) rfl) ?_
      refine WL.on rfl (congrArg Value.bool (Bool.eq_false_iff.2 hc45)) ?_
      refine WL.val (Yl.lenN (A := A8) (l := n10) (q := c9) (n := (a1.length : Int)) rfl Try.underlying23 (by omega)) ?_
      refine WL.on rfl (congrArg Value.bool (Bool.eq_false_iff.2 hc45)) ?_
      refine WL.val (Yl.gtr (m := (a1.length : Int)) (n := 200) (q := decide ((a1.length : Int) > 200)) rfl rfl rfl) ?_
      refine WL.val (Yl.pickF (v := .bool (decide ((a1.length : Int) > 200))) (congrArg Value.bool (Bool.eq_false_iff.2 hc45)) rfl) ?_
      refine WL.val (Yl.move (v := .bool (decide ((a1.length : Int) > 200))) rfl) ?_
      rcases iteE hX36 with ⟨hc46, hX36⟩ | ⟨hc46, hX36⟩
      · skip
        refine WL.off rfl (congrArg Value.bool (decide_eq_true hc46)) ?_
        refine WL.off rfl (congrArg Value.bool (decide_eq_true hc46)) ?_
        refine WL.val (Yl.pickT (v := .bool true) (congrArg Value.bool (decide_eq_true hc46)) rfl) ?_
        refine WL.val (Yl.move (v := .bool true) rfl) ?_
        refine WL.off rfl rfl ?_
        refine WL.off rfl rfl ?_
        refine WL.val (Yl.pickT (v := .bool true) rfl rfl) ?_
        refine WL.done ?_
        cases hX36
        refine thenE_n ?_
        exact ⟨rfl, rfl, rfl, rfl, C44⟩
      · skip
        refine WL.on rfl (congrArg Value.bool (decide_eq_false hc46)) ?_
        refine WL.val (Yl.move (v := .int .i64 a2) rfl) ?_
        refine WL.on rfl (congrArg Value.bool (decide_eq_false hc46)) ?_
        refine WL.val (Yl.lss (m := a2) (n := 0) (q := decide (a2 < 0)) rfl rfl rfl) ?_
        refine WL.val (Yl.pickF (v := .bool (decide (a2 < 0))) (congrArg Value.bool (decide_eq_false hc46)) rfl) ?_
        refine WL.val (Yl.move (v := .bool (decide (a2 < 0))) rfl) ?_
        rcases iteE hX36 with ⟨hc47, hX36⟩ | ⟨hc47, hX36⟩
        · skip
          refine WL.off rfl (congrArg Value.bool (decide_eq_true hc47)) ?_
          refine WL.off rfl (congrArg Value.bool (decide_eq_true hc47)) ?_
          refine WL.val (Yl.pickT (v := .bool true) (congrArg Value.bool (decide_eq_true hc47)) rfl) ?_
          refine WL.done ?_
          cases hX36
          refine thenE_n ?_
          exact ⟨rfl, rfl, rfl, rfl, C44⟩
        · skip
          refine WL.on rfl (congrArg Value.bool (decide_eq_false hc47)) ?_
          refine WL.val (Yl.move (v := .int .i64 a2) rfl) ?_
          refine WL.on rfl (congrArg Value.bool (decide_eq_false hc47)) ?_
          refine WL.val (Yl.gtr (m := a2) (n := 100) (q := decide (a2 > 100)) rfl rfl rfl) ?_
          refine WL.val (Yl.pickF (v := .bool (decide (a2 > 100))) (congrArg Value.bool (decide_eq_false hc47)) rfl) ?_
          refine WL.done ?_
          cases hX36
          refine thenE_n ?_
          exact ⟨rfl, rfl, rfl, rfl, C44⟩
  · skip
    rintro env_ w_ ⟨ho30, ho31, ho32, ho33, C35⟩
    rcases iteE H with ⟨hc48, H⟩ | ⟨hc48, H⟩
    · skip
      refine W.condT (ho33.trans (congrArg Value.bool hc48)) ?_
      refine W.seq ?_
      refine W.region rfl ?_
      obtain ⟨r50, hg49, H⟩ := bindE H
      refine WL.call (args := #[]) (Yenter.fn Try.func10 (by kernel_rfl) rfl (argsE .nil)) (juratlaw19_awake.calls k _ F  (Ctx.pre (qs := []) (rest := []) C35)  r50 hg49) ?_
      rintro e_ w_ ⟨rfl, C51⟩
      refine ⟨_, rfl, ?_⟩
      have C52 : Ctx _ _ _ _ F [] := Ctx.call (qs := []) (rest := []) C35 C51
      refine WL.val (Yl.assign (v := .bool r50) rfl) ?_
      refine WL.done ?_
      refine W.ret ?_
      refine thenE_r ?_
      have e53 := Option.some.inj H
      subst e53
      exact post_r (resE1 rfl rfl) ⟨rfl, C52⟩
    · skip
      refine W.condF (ho33.trans (congrArg Value.bool (Bool.eq_false_iff.2 hc48))) ?_
      refine W.skip ?_
      refine W.seq ?_
      refine W.region rfl ?_
      refine WL.val (Yl.move (v := .slice A1 n3 c2) ho30) ?_
      obtain ⟨r55, hg54, H⟩ := bindE H
      refine WL.call (args := #[.slice A1 n3 c2]) (Yenter.fn Try.func11 (by kernel_rfl) rfl (argsE (.cons rfl .nil))) (juratlaw19_votes.calls k _ F A1 c2 n3 a0 (Ctx.pre (qs := []) (rest := []) C35) hn4 hl5 hm6 hS7 r55 hg54) ?_
      rintro e_ w_ ⟨F56, A58, c59, n60, p62, rfl, le57, C64, hn61, hR63⟩
      refine ⟨_, rfl, ?_⟩
      have C65 : Ctx _ _ _ _ F56 [p62] := Ctx.call (qs := []) (rest := []) C35 C64
      refine WL.val (Yl.assign (v := .slice A58 n60 c59) rfl) ?_
      refine WL.done ?_
      refine W.seq ?_
      refine W.region rfl ?_
      refine WL.val (Yl.assign (v := .int .i64 0) rfl) ?_
      refine WL.done ?_
      refine W.seq ?_
      refine W.seq ?_
      refine W.region rfl ?_
      refine WL.val (Yl.assign (v := .int .i64 0) rfl) ?_
      refine WL.done ?_
      obtain ⟨x122, hX124, H⟩ := bindE H
      refine W.cutM (fun env_ w_ => env_ 1 = .slice A8 n10 c9 ∧ env_ 2 = .int .i64 a2 ∧ env_ 7 = .slice A58 n60 c59 ∧ env_ 8 = .int .i64 x122 ∧ Ctx w F D w_ F56 [p62]) ?_ ?_
      · skip
        refine W.block ?_
        refine W.loop (fun g_ env_ w_ => ∃ (x130 : Int) (x132 : Int), env_ 0 = .slice A1 n3 c2 ∧ env_ 1 = .slice A8 n10 c9 ∧ env_ 2 = .int .i64 a2 ∧ env_ 7 = .slice A58 n60 c59 ∧ env_ 8 = .int .i64 x130 ∧ env_ 9 = .int .i64 x132 ∧ Ctx w F D w_ F56 [p62] ∧ juratlaw19_TallyHonest.l1 g_ a0 a1 x130 x132 = some x122) k ⟨0, 0, ho30, ho31, ho32, rfl, rfl, rfl, C65, hX124⟩ ?_
        clear hX124
        rintro g_ env_ w_ ⟨x130, x132, ho125, ho126, ho127, ho128, ho129, ho131, C133, hX124⟩
        rcases g_ with _ | k155
        · exact absurd hX124 (by simp [juratlaw19_TallyHonest.l1])
        rw [juratlaw19_TallyHonest.l1] at hX124
        refine W.seq ?_
        refine W.seq ?_
        refine W.region rfl ?_
        refine WL.val (Yl.move (v := .int .i64 x132) ho131) ?_
        refine WL.val (Yl.move (v := .slice A1 n3 c2) ho125) ?_
        refine WL.val (Yl.lenN (A := A1) (l := n3) (q := c2) (n := (a0.length : Int)) rfl Try.underlying22 (by omega)) ?_
        refine WL.val (Yl.lss (m := x132) (n := (a0.length : Int)) (q := decide (x132 < (a0.length : Int))) rfl rfl rfl) ?_
        refine WL.done ?_
        rcases iteE hX124 with ⟨hc156, hX124⟩ | ⟨hc156, hX124⟩
        · skip
          refine W.condT (congrArg Value.bool (decide_eq_true hc156)) ?_
          refine W.skip ?_
          refine W.seq ?_
          refine W.block ?_
          refine W.seq ?_
          refine W.region rfl ?_
          refine WL.val (Yl.move (v := .slice A1 n3 c2) ho125) ?_
          refine WL.val (Yl.move (v := .int .i64 x132) ho131) ?_
          obtain ⟨hc157, hX124⟩ := guardE hX124
          obtain ⟨b158, of159, hA160, he161⟩ := hS7 (by omega)
          refine WL.val (Yl.elemAddr (i := x132) rfl rfl hA160 Try.underlying22 sz23 (by omega)) ?_
          obtain ⟨cs162, hr163, hx164⟩ := he161 x132.toNat _ (getD_some (d := []) (by omega))
          obtain ⟨A165, c166, rfl, hl169, hm170, hS171⟩ := hr163
          refine WL.val (Yl.load (v := .slice A165 ((a0.getD x132.toNat []).length) c166) rfl Try.underlying23 rfl (((C133.fro.mono le57)).cell (hx164 0 _ rfl))) ?_
          refine WL.val (Yl.move (v := .slice A8 n10 c9) ho126) ?_
          obtain ⟨r173, hg172, hX124⟩ := bindE hX124
          refine WL.call (args := #[.slice A165 ((a0.getD x132.toNat []).length) c166, .slice A8 n10 c9]) (Yenter.fn Try.func12 (by kernel_rfl) rfl (argsE (.cons rfl (.cons rfl .nil)))) (juratref01_Same.calls k155 _ F56 A165 c166 ((a0.getD x132.toNat []).length) (a0.getD x132.toNat []) A8 c9 n10 a1 C133.pre0 rfl hl169 hm170 (Sl.mono hS171 le57 le57) hn11 hl12 hm13 (Sl.mono hS14 le57 le57) r173 hg172) ?_
          rintro e_ w_ ⟨rfl, ⟨m174, rfl⟩⟩
          refine ⟨_, rfl, ?_⟩
          have C175 := Ctx.drewN C133 m174
          refine WL.val (Yl.not (p := r173) (q := !r173) rfl rfl) ?_
          refine WL.done ?_
          rcases iteE hX124 with ⟨hc176, hX124⟩ | ⟨hc176, hX124⟩
          · skip
            refine W.condF (congrArg Value.bool (nb_t hc176)) ?_
            refine W.skip ?_
            refine inB_n ?_
            refine W.region rfl ?_
            refine WL.val (Yl.move (v := .int .i64 x132) ho131) ?_
            refine WL.val (Yl.add (m := x132) (n := 1) (r := wi64 (x132 + 1)) rfl rfl rfl) ?_
            refine WL.val (Yl.assign (v := .int .i64 (wi64 (x132 + 1))) rfl) ?_
            refine WL.done ?_
            exact thenE_n ⟨k155, Nat.lt_succ_self _, x130, wi64 (x132 + 1), ho125, ho126, ho127, ho128, ho129, rfl, C175, hX124⟩
          · skip
            refine W.condT (congrArg Value.bool (nb_f hc176)) ?_
            refine W.region rfl ?_
            refine WL.val (Yl.move (v := .int .i64 x130) ho129) ?_
            refine WL.val (Yl.add (m := x130) (n := 1) (r := wi64 (x130 + 1)) rfl rfl rfl) ?_
            refine WL.val (Yl.assign (v := .int .i64 (wi64 (x130 + 1))) rfl) ?_
            refine WL.done ?_
            refine inB_n ?_
            refine W.region rfl ?_
            refine WL.val (Yl.move (v := .int .i64 x132) ho131) ?_
            refine WL.val (Yl.add (m := x132) (n := 1) (r := wi64 (x132 + 1)) rfl rfl rfl) ?_
            refine WL.val (Yl.assign (v := .int .i64 (wi64 (x132 + 1))) rfl) ?_
            refine WL.done ?_
            exact thenE_n ⟨k155, Nat.lt_succ_self _, wi64 (x130 + 1), wi64 (x132 + 1), ho125, ho126, ho127, ho128, rfl, rfl, C175, hX124⟩
        · skip
          refine W.condF (congrArg Value.bool (decide_eq_false hc156)) ?_
          refine W.exit ?_
          refine thenE_x ?_
          refine thenE_x ?_
          refine inB_here ?_
          cases hX124
          refine thenE_n ?_
          exact ⟨ho126, ho127, ho128, ho129, C133⟩
      · skip
        rintro env_ w_ ⟨ho118, ho119, ho120, ho121, C123⟩
        refine W.seq ?_
        refine W.region rfl ?_
        refine WL.val (Yl.move (v := .slice A58 n60 c59) ho120) ?_
        refine WL.val (Yl.move (v := .int .i64 a2) ho119) ?_
        have le177 : CH.le F56 (CH.join F56 p62) := CH.le_joinL _ _
        have lp178 : CH.le p62 (CH.join F56 p62) := CH.le_joinR (Ctx.dis_of [] [] C123)
        have C179 : Ctx _ _ _ _ (CH.join F56 p62) [] := Ctx.freeze [] [] C123
        obtain ⟨⟨r181, r182⟩, hg180, H⟩ := bindE H
        refine WL.call (args := #[.slice A58 n60 c59, .int .i64 a2]) (Yenter.fn Try.func13 (by kernel_rfl) rfl (argsE (.cons rfl (.cons rfl .nil)))) (tally_Decide.calls k _ (CH.join F56 p62) A58 c59 n60 r55 a2 (Ctx.pre (qs := []) (rest := []) C179) hn61 (Row.len_le hR63).1 (Row.len_le hR63).2.1 (Sl.mono (Row.sl hR63) le177 lp178) r181 r182 hg180) ?_
        rintro e_ w_ ⟨A183, c184, n185, p187, rfl, C189, hn186, hR188⟩
        refine ⟨_, rfl, ?_⟩
        have hR190 : Row (Kd.int .u8) F56 p187 (.slice A183 n185 c184) r181 := hR188
        have C191 : Ctx _ _ _ _ F56 [p187, p62] := Ctx.callL (qs := []) (rest := [p62]) C123 le177 C189
        refine WL.val (Yl.move (v := .tuple #[(.slice A183 n185 c184), (.bool r182)]) rfl) ?_
        refine WL.val (Yl.extract (v := .slice A183 n185 c184) rfl rfl) ?_
        refine WL.val (Yl.extract (v := .bool r182) rfl rfl) ?_
        refine WL.val (Yl.assign (v := .slice A183 n185 c184) rfl) ?_
        refine WL.val (Yl.assign (v := .bool r182) rfl) ?_
        refine WL.done ?_
        refine W.seq ?_
        refine W.seq ?_
        refine W.region rfl ?_
        refine WL.val (Yl.move (v := .int .i64 x122) ho121) ?_
        refine WL.val (Yl.move (v := .int .i64 a2) ho119) ?_
        refine WL.val (Yl.leq (m := x122) (n := a2) (q := decide (x122 ≤ a2)) rfl rfl rfl) ?_
        refine WL.val (Yl.move (v := .bool (decide (x122 ≤ a2))) rfl) ?_
        obtain ⟨g192, HE193, H⟩ := bindE H
        refine WL.cut (fun env_ w_ => env_ 62 = .bool g192 ∧ env_ 1 = .slice A8 n10 c9 ∧ env_ 2 = .int .i64 a2 ∧ env_ 7 = .slice A58 n60 c59 ∧ env_ 8 = .int .i64 x122 ∧ env_ 10 = .slice A183 n185 c184 ∧ env_ 11 = .bool r182 ∧ Ctx w F D w_ F56 [p187, p62]) ?_ ?_
        · skip
          rcases iteE HE193 with ⟨hc194, HE193⟩ | ⟨hc194, HE193⟩
          · skip
            refine WL.on rfl (congrArg Value.bool (decide_eq_true hc194)) ?_
            refine WL.val (Yl.move (v := .bool r182) rfl) ?_
            refine WL.val (Yl.pickT (v := .bool r182) (congrArg Value.bool (decide_eq_true hc194)) rfl) ?_
            refine WL.val (Yl.move (v := .bool r182) rfl) ?_
            rcases iteE HE193 with ⟨hc195, HE193⟩ | ⟨hc195, HE193⟩
            · skip
              refine WL.on rfl (congrArg Value.bool hc195) ?_
              refine WL.val (Yl.move (v := .slice A183 n185 c184) rfl) ?_
              refine WL.on rfl (congrArg Value.bool hc195) ?_
              refine WL.val (Yl.move (v := .slice A8 n10 c9) ho118) ?_
              refine WL.on rfl (congrArg Value.bool hc195) ?_
              have le196 : CH.le F56 (CH.join F56 p187) := CH.le_joinL _ _
              have lp197 : CH.le p187 (CH.join F56 p187) := CH.le_joinR (Ctx.dis_of [] [p62] C191)
              have C198 : Ctx _ _ _ _ (CH.join F56 p187) [p62] := Ctx.freeze [] [p62] C191
              obtain ⟨r200, hg199, HE193⟩ := bindE HE193
              refine WL.call (args := #[.slice A183 n185 c184, .slice A8 n10 c9]) (Yenter.fn Try.func12 (by kernel_rfl) rfl (argsE (.cons rfl (.cons rfl .nil)))) (juratref01_Same.calls k _ (CH.join F56 p187) A183 c184 n185 r181 A8 c9 n10 a1 C198.pre0 hn186 (Row.len_le hR190).1 (Row.len_le hR190).2.1 (Sl.mono (Row.sl hR190) le196 lp197) hn11 hl12 hm13 (Sl.mono hS14 (CH.le_trans le57 le196) (CH.le_trans le57 le196)) r200 hg199) ?_
              rintro e_ w_ ⟨rfl, ⟨m201, rfl⟩⟩
              refine ⟨_, rfl, ?_⟩
              have C202 := Ctx.drewN C191 m201
              refine WL.on rfl (congrArg Value.bool hc195) ?_
              refine WL.val (Yl.not (p := r200) (q := !r200) rfl rfl) ?_
              refine WL.val (Yl.pickT (v := .bool (!r200)) (congrArg Value.bool hc195) rfl) ?_
              cases HE193
              exact WL.done ⟨rfl, ho118, ho119, ho120, ho121, rfl, rfl, C202⟩
            · skip
              refine WL.off rfl (congrArg Value.bool (Bool.eq_false_iff.2 hc195)) ?_
              refine WL.off rfl (congrArg Value.bool (Bool.eq_false_iff.2 hc195)) ?_
              refine WL.off rfl (congrArg Value.bool (Bool.eq_false_iff.2 hc195)) ?_
              refine WL.off rfl (congrArg Value.bool (Bool.eq_false_iff.2 hc195)) ?_
              refine WL.val (Yl.pickF (v := .bool false) (congrArg Value.bool (Bool.eq_false_iff.2 hc195)) rfl) ?_
              cases HE193
              exact WL.done ⟨rfl, ho118, ho119, ho120, ho121, rfl, rfl, C191⟩
          · skip
            refine WL.off rfl (congrArg Value.bool (decide_eq_false hc194)) ?_
            refine WL.val (Yl.pickF (v := .bool false) (congrArg Value.bool (decide_eq_false hc194)) rfl) ?_
            refine WL.val (Yl.move (v := .bool false) rfl) ?_
            refine WL.off rfl rfl ?_
            refine WL.off rfl rfl ?_
            refine WL.off rfl rfl ?_
            refine WL.off rfl rfl ?_
            refine WL.val (Yl.pickF (v := .bool false) rfl rfl) ?_
            cases HE193
            exact WL.done ⟨rfl, ho118, ho119, ho120, ho121, rfl, rfl, C191⟩
        · skip
          rintro env_ w_ ⟨ho203, ho204, ho205, ho206, ho207, ho208, ho209, C210⟩
          rcases iteE H with ⟨hc211, H⟩ | ⟨hc211, H⟩
          · skip
            refine W.condT (ho203.trans (congrArg Value.bool hc211)) ?_
            refine W.seq ?_
            refine W.region rfl ?_
            refine WL.val (Yl.assign (v := .bool false) rfl) ?_
            refine WL.done ?_
            refine W.ret ?_
            refine thenE_r ?_
            have C212 : Ctx _ _ _ _ F56 [p62] := Ctx.drop [] [p62] C210
            have C213 : Ctx _ _ _ _ F56 [] := Ctx.drop [] [] C212
            have e214 := Option.some.inj H
            subst e214
            exact post_r (resE1 rfl rfl) ⟨rfl, (Ctx.weak C213 (CH.le_refl _))⟩
          · skip
            refine W.condF (ho203.trans (congrArg Value.bool (Bool.eq_false_iff.2 hc211))) ?_
            refine W.skip ?_
            refine W.seq ?_
            refine W.seq ?_
            refine W.region rfl ?_
            refine WL.val (Yl.move (v := .slice A58 n60 c59) ho206) ?_
            refine WL.val (Yl.lenN (A := A58) (l := n60) (q := c59) (n := (r55.length : Int)) rfl Try.underlying26 (by omega)) ?_
            refine WL.val (Yl.move (v := .int .i64 x122) ho207) ?_
            refine WL.val (Yl.sub (m := (r55.length : Int)) (n := x122) (r := wi64 ((r55.length : Int) - x122)) rfl rfl rfl) ?_
            refine WL.val (Yl.move (v := .int .i64 a2) ho205) ?_
            refine WL.val (Yl.gtr (m := wi64 ((r55.length : Int) - x122)) (n := a2) (q := decide ((wi64 ((r55.length : Int) - x122)) > a2)) rfl rfl rfl) ?_
            refine WL.val (Yl.move (v := .bool (decide ((wi64 ((r55.length : Int) - x122)) > a2))) rfl) ?_
            obtain ⟨g215, HE216, H⟩ := bindE H
            refine WL.cut (fun env_ w_ => env_ 85 = .bool g215 ∧ env_ 1 = .slice A8 n10 c9 ∧ env_ 7 = .slice A58 n60 c59 ∧ env_ 8 = .int .i64 x122 ∧ Ctx w F D w_ F56 [p187, p62]) ?_ ?_
            · skip
              rcases iteE HE216 with ⟨hc217, HE216⟩ | ⟨hc217, HE216⟩
              · skip
                refine WL.on rfl (congrArg Value.bool (decide_eq_true hc217)) ?_
                refine WL.val (Yl.move (v := .slice A58 n60 c59) ho206) ?_
                refine WL.on rfl (congrArg Value.bool (decide_eq_true hc217)) ?_
                refine WL.val (Yl.lenN (A := A58) (l := n60) (q := c59) (n := (r55.length : Int)) rfl Try.underlying26 (by omega)) ?_
                refine WL.on rfl (congrArg Value.bool (decide_eq_true hc217)) ?_
                refine WL.val (Yl.move (v := .int .i64 a2) ho205) ?_
                refine WL.on rfl (congrArg Value.bool (decide_eq_true hc217)) ?_
                refine WL.val (Yl.mul (m := 2) (n := a2) (r := wi64 (2 * a2)) rfl rfl rfl) ?_
                refine WL.on rfl (congrArg Value.bool (decide_eq_true hc217)) ?_
                refine WL.val (Yl.add (m := wi64 (2 * a2)) (n := 1) (r := wi64 ((wi64 (2 * a2)) + 1)) rfl rfl rfl) ?_
                refine WL.on rfl (congrArg Value.bool (decide_eq_true hc217)) ?_
                refine WL.val (Yl.leq (m := (r55.length : Int)) (n := wi64 ((wi64 (2 * a2)) + 1)) (q := decide ((r55.length : Int) ≤ (wi64 ((wi64 (2 * a2)) + 1)))) rfl rfl rfl) ?_
                refine WL.val (Yl.pickT (v := .bool (decide ((r55.length : Int) ≤ (wi64 ((wi64 (2 * a2)) + 1))))) (congrArg Value.bool (decide_eq_true hc217)) rfl) ?_
                refine WL.val (Yl.move (v := .bool (decide ((r55.length : Int) ≤ (wi64 ((wi64 (2 * a2)) + 1))))) rfl) ?_
                rcases iteE HE216 with ⟨hc218, HE216⟩ | ⟨hc218, HE216⟩
                · skip
                  refine WL.on rfl (congrArg Value.bool (decide_eq_true hc218)) ?_
                  refine WL.val (Yl.move (v := .bool r182) ho209) ?_
                  refine WL.on rfl (congrArg Value.bool (decide_eq_true hc218)) ?_
                  refine WL.val (Yl.move (v := .bool r182) rfl) ?_
                  rcases iteE HE216 with ⟨hc219, HE216⟩ | ⟨hc219, HE216⟩
                  · skip
                    refine WL.on rfl (congrArg Value.bool hc219) ?_
                    refine WL.val (Yl.move (v := .slice A183 n185 c184) ho208) ?_
                    refine WL.on rfl (congrArg Value.bool hc219) ?_
                    refine WL.val (Yl.move (v := .slice A8 n10 c9) ho204) ?_
                    refine WL.on rfl (congrArg Value.bool hc219) ?_
                    have le220 : CH.le F56 (CH.join F56 p187) := CH.le_joinL _ _
                    have lp221 : CH.le p187 (CH.join F56 p187) := CH.le_joinR (Ctx.dis_of [] [p62] C210)
                    have C222 : Ctx _ _ _ _ (CH.join F56 p187) [p62] := Ctx.freeze [] [p62] C210
                    obtain ⟨r224, hg223, HE216⟩ := bindE HE216
                    refine WL.call (args := #[.slice A183 n185 c184, .slice A8 n10 c9]) (Yenter.fn Try.func12 (by kernel_rfl) rfl (argsE (.cons rfl (.cons rfl .nil)))) (juratref01_Same.calls k _ (CH.join F56 p187) A183 c184 n185 r181 A8 c9 n10 a1 C222.pre0 hn186 (Row.len_le hR190).1 (Row.len_le hR190).2.1 (Sl.mono (Row.sl hR190) le220 lp221) hn11 hl12 hm13 (Sl.mono hS14 (CH.le_trans le57 le220) (CH.le_trans le57 le220)) r224 hg223) ?_
                    rintro e_ w_ ⟨rfl, ⟨m225, rfl⟩⟩
                    refine ⟨_, rfl, ?_⟩
                    have C226 := Ctx.drewN C210 m225
                    refine WL.on rfl (congrArg Value.bool (decide_eq_true hc218)) ?_
                    refine WL.val (Yl.pickT (v := .bool r224) (congrArg Value.bool hc219) rfl) ?_
                    refine WL.on rfl (congrArg Value.bool (decide_eq_true hc218)) ?_
                    refine WL.val (Yl.not (p := r224) (q := !r224) rfl rfl) ?_
                    refine WL.val (Yl.pickT (v := .bool (!r224)) (congrArg Value.bool (decide_eq_true hc218)) rfl) ?_
                    cases HE216
                    exact WL.done ⟨rfl, ho204, ho206, ho207, C226⟩
                  · skip
                    refine WL.off rfl (congrArg Value.bool (Bool.eq_false_iff.2 hc219)) ?_
                    refine WL.off rfl (congrArg Value.bool (Bool.eq_false_iff.2 hc219)) ?_
                    refine WL.off rfl (congrArg Value.bool (Bool.eq_false_iff.2 hc219)) ?_
                    refine WL.on rfl (congrArg Value.bool (decide_eq_true hc218)) ?_
                    refine WL.val (Yl.pickF (v := .bool false) (congrArg Value.bool (Bool.eq_false_iff.2 hc219)) rfl) ?_
                    refine WL.on rfl (congrArg Value.bool (decide_eq_true hc218)) ?_
                    refine WL.val (Yl.not (p := false) (q := true) rfl rfl) ?_
                    refine WL.val (Yl.pickT (v := .bool true) (congrArg Value.bool (decide_eq_true hc218)) rfl) ?_
                    cases HE216
                    exact WL.done ⟨rfl, ho204, ho206, ho207, C210⟩
                · skip
                  refine WL.off rfl (congrArg Value.bool (decide_eq_false hc218)) ?_
                  refine WL.off rfl (congrArg Value.bool (decide_eq_false hc218)) ?_
                  refine WL.off' rfl rfl ?_
                  refine WL.off' rfl rfl ?_
                  refine WL.off' rfl rfl ?_
                  refine WL.off rfl (congrArg Value.bool (decide_eq_false hc218)) ?_
                  refine WL.off rfl (congrArg Value.bool (decide_eq_false hc218)) ?_
                  refine WL.val (Yl.pickF (v := .bool false) (congrArg Value.bool (decide_eq_false hc218)) rfl) ?_
                  cases HE216
                  exact WL.done ⟨rfl, ho204, ho206, ho207, C210⟩
              · skip
                refine WL.off rfl (congrArg Value.bool (decide_eq_false hc217)) ?_
                refine WL.off rfl (congrArg Value.bool (decide_eq_false hc217)) ?_
                refine WL.off rfl (congrArg Value.bool (decide_eq_false hc217)) ?_
                refine WL.off rfl (congrArg Value.bool (decide_eq_false hc217)) ?_
                refine WL.off rfl (congrArg Value.bool (decide_eq_false hc217)) ?_
                refine WL.off rfl (congrArg Value.bool (decide_eq_false hc217)) ?_
                refine WL.val (Yl.pickF (v := .bool false) (congrArg Value.bool (decide_eq_false hc217)) rfl) ?_
                refine WL.val (Yl.move (v := .bool false) rfl) ?_
                refine WL.off rfl rfl ?_
                refine WL.off rfl rfl ?_
                refine WL.off' rfl rfl ?_
                refine WL.off' rfl rfl ?_
                refine WL.off' rfl rfl ?_
                refine WL.off rfl rfl ?_
                refine WL.off rfl rfl ?_
                refine WL.val (Yl.pickF (v := .bool false) rfl rfl) ?_
                cases HE216
                exact WL.done ⟨rfl, ho204, ho206, ho207, C210⟩
            · skip
              rintro env_ w_ ⟨ho227, ho228, ho229, ho230, C231⟩
              rcases iteE H with ⟨hc232, H⟩ | ⟨hc232, H⟩
              · skip
                refine W.condT (ho227.trans (congrArg Value.bool hc232)) ?_
                refine W.seq ?_
                refine W.region rfl ?_
                refine WL.val (Yl.assign (v := .bool false) rfl) ?_
                refine WL.done ?_
                refine W.ret ?_
                refine thenE_r ?_
                have C233 : Ctx _ _ _ _ F56 [p62] := Ctx.drop [] [p62] C231
                have C234 : Ctx _ _ _ _ F56 [] := Ctx.drop [] [] C233
                have e235 := Option.some.inj H
                subst e235
                exact post_r (resE1 rfl rfl) ⟨rfl, (Ctx.weak C234 (CH.le_refl _))⟩
              · skip
                refine W.condF (ho227.trans (congrArg Value.bool (Bool.eq_false_iff.2 hc232))) ?_
                refine W.skip ?_
                refine W.seq ?_
                obtain ⟨x284, hX286, H⟩ := bindE H
                refine W.cutM (fun env_ w_ => env_ 6 = .bool x284 ∧ Ctx w F D w_ F56 [p187, p62]) ?_ ?_
                · skip
                  refine W.region rfl ?_
                  refine WL.val (Yl.move (v := .slice A58 n60 c59) ho229) ?_
                  refine WL.val (Yl.move (v := .slice A8 n10 c9) ho228) ?_
                  have le301 : CH.le F56 (CH.join F56 p62) := CH.le_joinL _ _
                  have lp302 : CH.le p62 (CH.join F56 p62) := CH.le_joinR (Ctx.dis_of [p187] [] C231)
                  have C303 : Ctx _ _ _ _ (CH.join F56 p62) [p187] := Ctx.freeze [p187] [] C231
                  obtain ⟨r305, hg304, hX286⟩ := bindE hX286
                  refine WL.call (args := #[.slice A58 n60 c59, .slice A8 n10 c9]) (Yenter.fn Try.func14 (by kernel_rfl) rfl (argsE (.cons rfl (.cons rfl .nil)))) (tally_Liars.calls k _ (CH.join F56 p62) A58 c59 n60 r55 A8 c9 n10 a1 (Ctx.pre (qs := []) (rest := [p187]) C303) hn61 (Row.len_le hR63).1 (Row.len_le hR63).2.1 (Sl.mono (Row.sl hR63) le301 lp302) hn11 hl12 hm13 (Sl.mono hS14 (CH.le_trans le57 le301) (CH.le_trans le57 le301)) r305 hg304) ?_
                  rintro e_ w_ ⟨A306, c307, n308, p310, rfl, C312, hn309, hR311⟩
                  refine ⟨_, rfl, ?_⟩
                  have hR313 : Row (Kd.int .i64) F56 p310 (.slice A306 n308 c307) r305 := hR311
                  have C314 : Ctx _ _ _ _ F56 [p310, p187, p62] := Ctx.callL (qs := []) (rest := [p187, p62]) C231 le301 C312
                  refine WL.val (Yl.lenN (A := A306) (l := n308) (q := c307) (n := (r305.length : Int)) rfl Try.underlying31 (by omega)) ?_
                  refine WL.val (Yl.move (v := .int .i64 x122) ho230) ?_
                  refine WL.val (Yl.eql (m := (r305.length : Int)) (n := x122) (q := decide ((r305.length : Int) = x122)) rfl rfl rfl) ?_
                  refine WL.val (Yl.move (v := .bool (decide ((r305.length : Int) = x122))) rfl) ?_
                  rcases iteE hX286 with ⟨hc315, hX286⟩ | ⟨hc315, hX286⟩
                  · skip
                    refine WL.on rfl (congrArg Value.bool (decide_eq_true hc315)) ?_
                    obtain ⟨r317, hg316, hX286⟩ := bindE hX286
                    refine WL.call (args := #[]) (Yenter.fn Try.func10 (by kernel_rfl) rfl (argsE .nil)) (juratlaw19_awake.calls k _ F56  (Ctx.pre (qs := []) (rest := [p310, p187, p62]) C314)  r317 hg316) ?_
                    rintro e_ w_ ⟨rfl, C318⟩
                    refine ⟨_, rfl, ?_⟩
                    have C319 : Ctx _ _ _ _ F56 [p310, p187, p62] := Ctx.call (qs := []) (rest := [p310, p187, p62]) C314 C318
                    refine WL.val (Yl.pickT (v := .bool r317) (congrArg Value.bool (decide_eq_true hc315)) rfl) ?_
                    refine WL.val (Yl.assign (v := .bool r317) rfl) ?_
                    refine WL.done ?_
                    have C320 : Ctx _ _ _ _ F56 [p187, p62] := Ctx.drop [] [p187, p62] C319
                    cases hX286
                    refine thenE_n ?_
                    exact ⟨rfl, C320⟩
                  · skip
                    refine WL.off rfl (congrArg Value.bool (decide_eq_false hc315)) ?_
                    refine WL.val (Yl.pickF (v := .bool false) (congrArg Value.bool (decide_eq_false hc315)) rfl) ?_
                    refine WL.val (Yl.assign (v := .bool false) rfl) ?_
                    refine WL.done ?_
                    have C321 : Ctx _ _ _ _ F56 [p187, p62] := Ctx.drop [] [p187, p62] C314
                    cases hX286
                    refine thenE_n ?_
                    exact ⟨rfl, C321⟩
                · skip
                  rintro env_ w_ ⟨ho283, C285⟩
                  refine W.ret ?_
                  have C322 : Ctx _ _ _ _ F56 [p62] := Ctx.drop [] [p62] C285
                  have C323 : Ctx _ _ _ _ F56 [] := Ctx.drop [] [] C322
                  have e324 := Option.some.inj H
                  subst e324
                  exact post_r (resE1 rfl ho283) ⟨rfl, (Ctx.weak C323 (CH.le_refl _))⟩
end Go.Proofs.Ytaajcpjhcckecaa
