/- Functions of the program: each as a plain function of numbers and lists, and the proof that the program's own comes to it. Nothing is assumed but what each theorem says. -/
import Derived.Test.YtaajcpjhcckecaaTGc
namespace Go.Proofs.Ytaajcpjhcckecaa
open Go.RowKit Go.WG
set_option linter.unusedVariables false
set_option linter.unusedSimpArgs false
def juratlaw19_TallyTells.f (k : Nat) (a0 : List TCast) (a1 : List Int) (a2 : Int) : Option Bool := (juratref19_Great.f k a0).bind fun r20 => (if r20 = true then (some (true)) else (some (decide ((a1.length : Int) > 200)))).bind fun g23 => if g23 = true then ((juratlaw19_awake.f k ).bind fun r33 => some r33) else ((juratref19_Copy.f k a0).bind fun r38 => (tally_Decide.f k r38 a2).bind fun ⟨r53, r54⟩ => (juratref19_Decide.f k a0 a2).bind fun ⟨r65, r66⟩ => ((juratref01_Same.f k r53 r65).bind fun r194 => if r194 = true then (if r54 = r66 then ((juratref19_Copy.f k a0).bind fun r200 => (tally_Count.f k r200 a1).bind fun r217 => (juratref19_Count.f k a0 a1).bind fun r221 => if r217 = r221 then ((juratref19_Copy.f k a0).bind fun r226 => (tally_Liars.f k r226 a1).bind fun r244 => (juratref19_Liars.f k a0 a1).bind fun r255 => (juratref18_Same.f k r244 r255).bind fun r271 => if r271 = true then ((juratlaw19_awake.f k ).bind fun r276 => some r276) else (some false)) else (some false)) else (some false)) else (some false)).bind fun x180 => some x180)
set_option maxRecDepth 100000 in
set_option maxHeartbeats 4000000 in
theorem juratlaw19_TallyTells.calls (k : Nat) (w : World) (F : CH) (A1 : Option Addr) (c2 : Nat) (n3 : Nat) (a0 : List TCast) (A8 : Option Addr) (c9 : Nat) (n10 : Nat) (a1 : List Int) (a2 : Int) (hp : Pre w F []) (hn4 : n3 = a0.length) (hl5 : a0.length ≤ c2) (hm6 : c2 ≤ maxLen) (hS7 : Sl TCast.K F F A1 a0) (hn11 : n10 = a1.length) (hl12 : a1.length ≤ c9) (hm13 : c9 ≤ maxLen) (hS14 : Sl (Kd.int .u8) F F A8 a1) (r0_ : Bool) (H : juratlaw19_TallyTells.f k a0 a1 a2 = some r0_) :
    Calls Try.prog 5 #[.slice A1 n3 c2, .slice A8 n10 c9, .int .i64 a2] w fun e w' => e = .returned (.bool r0_) ∧ Ctx w F (domL []) w' F [] := by
  have C := Ctx.start hp
  generalize hD : domL [] = D at C ⊢
  unfold juratlaw19_TallyTells.f at H
  refine Calls.ofW Try.func5 rfl (by simp [Try.ntmps5]) ?_
  refine W.seq ?_
  refine W.region rfl ?_
  refine WL.val (Yl.assign (v := .bool false) rfl) ?_
  refine WL.done ?_
  refine W.seq ?_
  refine W.seq ?_
  refine W.region rfl ?_
  refine WL.val (Yl.move (v := .slice A1 n3 c2) rfl) ?_
  obtain ⟨r20, hg19, H⟩ := bindE H
  refine WL.call (args := #[.slice A1 n3 c2]) (Yenter.fn Try.func15 (by kernel_rfl) rfl (argsE (.cons rfl .nil))) (juratref19_Great.calls k _ F A1 c2 n3 a0 C.pre0 hn4 hl5 hm6 hS7 r20 hg19) ?_
  rintro e_ w_ ⟨rfl, ⟨m21, rfl⟩⟩
  refine ⟨_, rfl, ?_⟩
  have C22 := Ctx.drewN C m21
  refine WL.val (Yl.move (v := .bool r20) rfl) ?_
  obtain ⟨g23, HE24, H⟩ := bindE H
  refine WL.cut (fun env_ w_ => env_ 17 = .bool g23 ∧ env_ 0 = .slice A1 n3 c2 ∧ env_ 1 = .slice A8 n10 c9 ∧ env_ 2 = .int .i64 a2 ∧ Ctx w F D w_ F []) ?_ ?_
  · skip
    rcases iteE HE24 with ⟨hc25, HE24⟩ | ⟨hc25, HE24⟩
    · skip
      refine WL.off rfl (congrArg Value.bool hc25) ?_
      refine WL.off rfl (congrArg Value.bool hc25) ?_
      refine WL.off rfl (congrArg Value.bool hc25) ?_
      refine WL.val (Yl.pickT (v := .bool true) (congrArg Value.bool hc25) rfl) ?_
      cases HE24
      exact WL.done ⟨rfl, rfl, rfl, rfl, C22⟩
    · skip
      refine WL.on rfl (congrArg Value.bool (Bool.eq_false_iff.2 hc25)) ?_
      refine WL.val (Yl.move (v := .slice A8 n10 c9) rfl) ?_
      refine WL.on rfl (congrArg Value.bool (Bool.eq_false_iff.2 hc25)) ?_
      refine WL.val (Yl.lenN (A := A8) (l := n10) (q := c9) (n := (a1.length : Int)) rfl Try.underlying23 (by omega)) ?_
      refine WL.on rfl (congrArg Value.bool (Bool.eq_false_iff.2 hc25)) ?_
      refine WL.val (Yl.gtr (m := (a1.length : Int)) (n := 200) (q := decide ((a1.length : Int) > 200)) rfl rfl rfl) ?_
      refine WL.val (Yl.pickF (v := .bool (decide ((a1.length : Int) > 200))) (congrArg Value.bool (Bool.eq_false_iff.2 hc25)) rfl) ?_
      cases HE24
      exact WL.done ⟨rfl, rfl, rfl, rfl, C22⟩
  · skip
    rintro env_ w_ ⟨ho26, ho27, ho28, ho29, C30⟩
    rcases iteE H with ⟨hc31, H⟩ | ⟨hc31, H⟩
    · skip
      refine W.condT (ho26.trans (congrArg Value.bool hc31)) ?_
      refine W.seq ?_
      refine W.region rfl ?_
      obtain ⟨r33, hg32, H⟩ := bindE H
      refine WL.call (args := #[]) (Yenter.fn Try.func10 (by kernel_rfl) rfl (argsE .nil)) (juratlaw19_awake.calls k _ F  (Ctx.pre (qs := []) (rest := []) C30)  r33 hg32) ?_
      rintro e_ w_ ⟨rfl, C34⟩
      refine ⟨_, rfl, ?_⟩
      have C35 : Ctx _ _ _ _ F [] := Ctx.call (qs := []) (rest := []) C30 C34
      refine WL.val (Yl.assign (v := .bool r33) rfl) ?_
      refine WL.done ?_
      refine W.ret ?_
      refine thenE_r ?_
      have e36 := Option.some.inj H
      subst e36
      exact post_r (resE1 rfl rfl) ⟨rfl, C35⟩
    · skip
      refine W.condF (ho26.trans (congrArg Value.bool (Bool.eq_false_iff.2 hc31))) ?_
      refine W.skip ?_
      refine W.seq ?_
      refine W.region rfl ?_
      refine WL.val (Yl.move (v := .slice A1 n3 c2) ho27) ?_
      obtain ⟨r38, hg37, H⟩ := bindE H
      refine WL.call (args := #[.slice A1 n3 c2]) (Yenter.fn Try.func16 (by kernel_rfl) rfl (argsE (.cons rfl .nil))) (juratref19_Copy.calls k _ F A1 c2 n3 a0 (Ctx.pre (qs := []) (rest := []) C30) hn4 hl5 hm6 hS7 r38 hg37) ?_
      rintro e_ w_ ⟨F39, A41, c42, n43, p45, rfl, le40, C47, hn44, hR46⟩
      refine ⟨_, rfl, ?_⟩
      have C48 : Ctx _ _ _ _ F39 [p45] := Ctx.call (qs := []) (rest := []) C30 C47
      refine WL.val (Yl.move (v := .int .i64 a2) ho29) ?_
      have le49 : CH.le F39 (CH.join F39 p45) := CH.le_joinL _ _
      have lp50 : CH.le p45 (CH.join F39 p45) := CH.le_joinR (Ctx.dis_of [] [] C48)
      have C51 : Ctx _ _ _ _ (CH.join F39 p45) [] := Ctx.freeze [] [] C48
      obtain ⟨⟨r53, r54⟩, hg52, H⟩ := bindE H
      refine WL.call (args := #[.slice A41 n43 c42, .int .i64 a2]) (Yenter.fn Try.func13 (by kernel_rfl) rfl (argsE (.cons rfl (.cons rfl .nil)))) (tally_Decide.calls k _ (CH.join F39 p45) A41 c42 n43 r38 a2 (Ctx.pre (qs := []) (rest := []) C51) hn44 (Row.len_le hR46).1 (Row.len_le hR46).2.1 (Sl.mono (Row.sl hR46) le49 lp50) r53 r54 hg52) ?_
      rintro e_ w_ ⟨A55, c56, n57, p59, rfl, C61, hn58, hR60⟩
      refine ⟨_, rfl, ?_⟩
      have hR62 : Row (Kd.int .u8) F39 p59 (.slice A55 n57 c56) r53 := hR60
      have C63 : Ctx _ _ _ _ F39 [p59, p45] := Ctx.callL (qs := []) (rest := [p45]) C48 le49 C61
      refine WL.val (Yl.move (v := .tuple #[(.slice A55 n57 c56), (.bool r54)]) rfl) ?_
      refine WL.val (Yl.extract (v := .slice A55 n57 c56) rfl rfl) ?_
      refine WL.val (Yl.extract (v := .bool r54) rfl rfl) ?_
      refine WL.val (Yl.assign (v := .slice A55 n57 c56) rfl) ?_
      refine WL.val (Yl.assign (v := .bool r54) rfl) ?_
      refine WL.done ?_
      refine W.seq ?_
      refine W.region rfl ?_
      refine WL.val (Yl.move (v := .slice A1 n3 c2) ho27) ?_
      refine WL.val (Yl.move (v := .int .i64 a2) ho29) ?_
      obtain ⟨⟨r65, r66⟩, hg64, H⟩ := bindE H
      refine WL.call (args := #[.slice A1 n3 c2, .int .i64 a2]) (Yenter.fn Try.func17 (by kernel_rfl) rfl (argsE (.cons rfl (.cons rfl .nil)))) (juratref19_Decide.calls k _ F39 A1 c2 n3 a0 a2 C63.pre0 hn4 hl5 hm6 (Sl.mono hS7 le40 le40) r65 r66 hg64) ?_
      rintro e_ w_ ⟨A67, c68, n69, rfl, ⟨m74, rfl⟩, hn70, hl71, hm72, hS73⟩
      refine ⟨_, rfl, ?_⟩
      have C75 := Ctx.drewN C63 m74
      refine WL.val (Yl.move (v := .tuple #[(.slice A67 n69 c68), (.bool r66)]) rfl) ?_
      refine WL.val (Yl.extract (v := .slice A67 n69 c68) rfl rfl) ?_
      refine WL.val (Yl.extract (v := .bool r66) rfl rfl) ?_
      refine WL.val (Yl.assign (v := .slice A67 n69 c68) rfl) ?_
      refine WL.val (Yl.assign (v := .bool r66) rfl) ?_
      refine WL.done ?_
      refine W.seq ?_
      obtain ⟨x180, hX182, H⟩ := bindE H
      refine W.cutM (fun env_ w_ => env_ 6 = .bool x180 ∧ Ctx w F D w_ F39 [p59, p45]) ?_ ?_
      · skip
        refine W.region rfl ?_
        refine WL.val (Yl.move (v := .slice A55 n57 c56) rfl) ?_
        refine WL.val (Yl.move (v := .slice A67 n69 c68) rfl) ?_
        have le190 : CH.le F39 (CH.join F39 p59) := CH.le_joinL _ _
        have lp191 : CH.le p59 (CH.join F39 p59) := CH.le_joinR (Ctx.dis_of [] [p45] C75)
        have C192 : Ctx _ _ _ _ (CH.join F39 p59) [p45] := Ctx.freeze [] [p45] C75
        obtain ⟨r194, hg193, hX182⟩ := bindE hX182
        refine WL.call (args := #[.slice A55 n57 c56, .slice A67 n69 c68]) (Yenter.fn Try.func12 (by kernel_rfl) rfl (argsE (.cons rfl (.cons rfl .nil)))) (juratref01_Same.calls k _ (CH.join F39 p59) A55 c56 n57 r53 A67 c68 n69 r65 C192.pre0 hn58 (Row.len_le hR62).1 (Row.len_le hR62).2.1 (Sl.mono (Row.sl hR62) le190 lp191) hn70 hl71 hm72 (Sl.mono hS73 le190 le190) r194 hg193) ?_
        rintro e_ w_ ⟨rfl, ⟨m195, rfl⟩⟩
        refine ⟨_, rfl, ?_⟩
        have C196 := Ctx.drewN C75 m195
        refine WL.val (Yl.move (v := .bool r194) rfl) ?_
        rcases iteE hX182 with ⟨hc197, hX182⟩ | ⟨hc197, hX182⟩
        · skip
          refine WL.on rfl (congrArg Value.bool hc197) ?_
          refine WL.val (Yl.move (v := .bool r54) rfl) ?_
          refine WL.on rfl (congrArg Value.bool hc197) ?_
          refine WL.val (Yl.move (v := .bool r66) rfl) ?_
          refine WL.on rfl (congrArg Value.bool hc197) ?_
          refine WL.val (Yl.beqD (p := r54) (q := r66) rfl rfl Try.underlying4) ?_
          refine WL.val (Yl.pickT (v := .bool (decide (r54 = r66))) (congrArg Value.bool hc197) rfl) ?_
          refine WL.val (Yl.move (v := .bool (decide (r54 = r66))) rfl) ?_
          rcases iteE hX182 with ⟨hc198, hX182⟩ | ⟨hc198, hX182⟩
          · skip
            refine WL.on rfl (congrArg Value.bool (decide_eq_true hc198)) ?_
            refine WL.val (Yl.move (v := .slice A1 n3 c2) ho27) ?_
            refine WL.on rfl (congrArg Value.bool (decide_eq_true hc198)) ?_
            obtain ⟨r200, hg199, hX182⟩ := bindE hX182
            refine WL.call (args := #[.slice A1 n3 c2]) (Yenter.fn Try.func16 (by kernel_rfl) rfl (argsE (.cons rfl .nil))) (juratref19_Copy.calls k _ F39 A1 c2 n3 a0 (Ctx.pre (qs := []) (rest := [p59, p45]) C196) hn4 hl5 hm6 (Sl.mono hS7 le40 le40) r200 hg199) ?_
            rintro e_ w_ ⟨F201, A203, c204, n205, p207, rfl, le202, C209, hn206, hR208⟩
            refine ⟨_, rfl, ?_⟩
            have C210 : Ctx _ _ _ _ F201 [p207, p59, p45] := Ctx.call (qs := []) (rest := [p59, p45]) C196 C209
            have hR211 := Row.mono hR46 le202
            have hR212 := Row.mono hR62 le202
            refine WL.on rfl (congrArg Value.bool (decide_eq_true hc198)) ?_
            refine WL.val (Yl.move (v := .slice A8 n10 c9) ho28) ?_
            refine WL.on rfl (congrArg Value.bool (decide_eq_true hc198)) ?_
            have le213 : CH.le F201 (CH.join F201 p207) := CH.le_joinL _ _
            have lp214 : CH.le p207 (CH.join F201 p207) := CH.le_joinR (Ctx.dis_of [] [p59, p45] C210)
            have C215 : Ctx _ _ _ _ (CH.join F201 p207) [p59, p45] := Ctx.freeze [] [p59, p45] C210
            obtain ⟨r217, hg216, hX182⟩ := bindE hX182
            refine WL.call (args := #[.slice A203 n205 c204, .slice A8 n10 c9]) (Yenter.fn Try.func18 (by kernel_rfl) rfl (argsE (.cons rfl (.cons rfl .nil)))) (tally_Count.calls k _ (CH.join F201 p207) A203 c204 n205 r200 A8 c9 n10 a1 (Ctx.pre (qs := []) (rest := [p59, p45]) C215) hn206 (Row.len_le hR208).1 (Row.len_le hR208).2.1 (Sl.mono (Row.sl hR208) le213 lp214) hn11 hl12 hm13 (Sl.mono hS14 (CH.le_trans (CH.le_trans le40 le202) le213) (CH.le_trans (CH.le_trans le40 le202) le213)) r217 hg216) ?_
            rintro e_ w_ ⟨rfl, C218⟩
            refine ⟨_, rfl, ?_⟩
            have C219 : Ctx _ _ _ _ F201 [p207, p59, p45] := Ctx.callL (qs := []) (rest := [p207, p59, p45]) C210 le213 C218
            refine WL.on rfl (congrArg Value.bool (decide_eq_true hc198)) ?_
            refine WL.val (Yl.move (v := .slice A1 n3 c2) ho27) ?_
            refine WL.on rfl (congrArg Value.bool (decide_eq_true hc198)) ?_
            refine WL.val (Yl.move (v := .slice A8 n10 c9) ho28) ?_
            refine WL.on rfl (congrArg Value.bool (decide_eq_true hc198)) ?_
            obtain ⟨r221, hg220, hX182⟩ := bindE hX182
            refine WL.call (args := #[.slice A1 n3 c2, .slice A8 n10 c9]) (Yenter.fn Try.func19 (by kernel_rfl) rfl (argsE (.cons rfl (.cons rfl .nil)))) (juratref19_Count.calls k _ F201 A1 c2 n3 a0 A8 c9 n10 a1 C219.pre0 hn4 hl5 hm6 (Sl.mono hS7 (CH.le_trans le40 le202) (CH.le_trans le40 le202)) hn11 hl12 hm13 (Sl.mono hS14 (CH.le_trans le40 le202) (CH.le_trans le40 le202)) r221 hg220) ?_
            rintro e_ w_ ⟨rfl, ⟨m222, rfl⟩⟩
            refine ⟨_, rfl, ?_⟩
            have C223 := Ctx.drewN C219 m222
            refine WL.on rfl (congrArg Value.bool (decide_eq_true hc198)) ?_
            refine WL.val (Yl.eql (m := r217) (n := r221) (q := decide (r217 = r221)) rfl rfl rfl) ?_
            refine WL.val (Yl.pickT (v := .bool (decide (r217 = r221))) (congrArg Value.bool (decide_eq_true hc198)) rfl) ?_
            refine WL.val (Yl.move (v := .bool (decide (r217 = r221))) rfl) ?_
            rcases iteE hX182 with ⟨hc224, hX182⟩ | ⟨hc224, hX182⟩
            · skip
              refine WL.on rfl (congrArg Value.bool (decide_eq_true hc224)) ?_
              refine WL.val (Yl.move (v := .slice A1 n3 c2) ho27) ?_
              refine WL.on rfl (congrArg Value.bool (decide_eq_true hc224)) ?_
              obtain ⟨r226, hg225, hX182⟩ := bindE hX182
              refine WL.call (args := #[.slice A1 n3 c2]) (Yenter.fn Try.func16 (by kernel_rfl) rfl (argsE (.cons rfl .nil))) (juratref19_Copy.calls k _ F201 A1 c2 n3 a0 (Ctx.pre (qs := []) (rest := [p207, p59, p45]) C223) hn4 hl5 hm6 (Sl.mono hS7 (CH.le_trans le40 le202) (CH.le_trans le40 le202)) r226 hg225) ?_
              rintro e_ w_ ⟨F227, A229, c230, n231, p233, rfl, le228, C235, hn232, hR234⟩
              refine ⟨_, rfl, ?_⟩
              have C236 : Ctx _ _ _ _ F227 [p233, p207, p59, p45] := Ctx.call (qs := []) (rest := [p207, p59, p45]) C223 C235
              have hR237 := Row.mono hR211 le228
              have hR238 := Row.mono hR212 le228
              have hR239 := Row.mono hR208 le228
              refine WL.on rfl (congrArg Value.bool (decide_eq_true hc224)) ?_
              refine WL.val (Yl.move (v := .slice A8 n10 c9) ho28) ?_
              refine WL.on rfl (congrArg Value.bool (decide_eq_true hc224)) ?_
              have le240 : CH.le F227 (CH.join F227 p233) := CH.le_joinL _ _
              have lp241 : CH.le p233 (CH.join F227 p233) := CH.le_joinR (Ctx.dis_of [] [p207, p59, p45] C236)
              have C242 : Ctx _ _ _ _ (CH.join F227 p233) [p207, p59, p45] := Ctx.freeze [] [p207, p59, p45] C236
              obtain ⟨r244, hg243, hX182⟩ := bindE hX182
              refine WL.call (args := #[.slice A229 n231 c230, .slice A8 n10 c9]) (Yenter.fn Try.func14 (by kernel_rfl) rfl (argsE (.cons rfl (.cons rfl .nil)))) (tally_Liars.calls k _ (CH.join F227 p233) A229 c230 n231 r226 A8 c9 n10 a1 (Ctx.pre (qs := []) (rest := [p207, p59, p45]) C242) hn232 (Row.len_le hR234).1 (Row.len_le hR234).2.1 (Sl.mono (Row.sl hR234) le240 lp241) hn11 hl12 hm13 (Sl.mono hS14 (CH.le_trans (CH.le_trans le40 (CH.le_trans le202 le228)) le240) (CH.le_trans (CH.le_trans le40 (CH.le_trans le202 le228)) le240)) r244 hg243) ?_
              rintro e_ w_ ⟨A245, c246, n247, p249, rfl, C251, hn248, hR250⟩
              refine ⟨_, rfl, ?_⟩
              have hR252 : Row (Kd.int .i64) F227 p249 (.slice A245 n247 c246) r244 := hR250
              have C253 : Ctx _ _ _ _ F227 [p249, p233, p207, p59, p45] := Ctx.callL (qs := []) (rest := [p233, p207, p59, p45]) C236 le240 C251
              refine WL.on rfl (congrArg Value.bool (decide_eq_true hc224)) ?_
              refine WL.val (Yl.move (v := .slice A1 n3 c2) ho27) ?_
              refine WL.on rfl (congrArg Value.bool (decide_eq_true hc224)) ?_
              refine WL.val (Yl.move (v := .slice A8 n10 c9) ho28) ?_
              refine WL.on rfl (congrArg Value.bool (decide_eq_true hc224)) ?_
              obtain ⟨r255, hg254, hX182⟩ := bindE hX182
              refine WL.call (args := #[.slice A1 n3 c2, .slice A8 n10 c9]) (Yenter.fn Try.func21 (by kernel_rfl) rfl (argsE (.cons rfl (.cons rfl .nil)))) (juratref19_Liars.calls k _ F227 A1 c2 n3 a0 A8 c9 n10 a1 (Ctx.pre (qs := []) (rest := [p249, p233, p207, p59, p45]) C253) hn4 hl5 hm6 (Sl.mono hS7 (CH.le_trans le40 (CH.le_trans le202 le228)) (CH.le_trans le40 (CH.le_trans le202 le228))) hn11 hl12 hm13 (Sl.mono hS14 (CH.le_trans le40 (CH.le_trans le202 le228)) (CH.le_trans le40 (CH.le_trans le202 le228))) r255 hg254) ?_
              rintro e_ w_ ⟨A256, c257, n258, p260, rfl, C262, hn259, hR261⟩
              refine ⟨_, rfl, ?_⟩
              have C263 : Ctx _ _ _ _ F227 [p260, p249, p233, p207, p59, p45] := Ctx.call (qs := []) (rest := [p249, p233, p207, p59, p45]) C253 C262
              refine WL.on rfl (congrArg Value.bool (decide_eq_true hc224)) ?_
              have le264 : CH.le F227 (CH.join F227 p249) := CH.le_joinL _ _
              have lp265 : CH.le p249 (CH.join F227 p249) := CH.le_joinR (Ctx.dis_of [p260] [p233, p207, p59, p45] C263)
              have C266 : Ctx _ _ _ _ (CH.join F227 p249) [p260, p233, p207, p59, p45] := Ctx.freeze [p260] [p233, p207, p59, p45] C263
              have le267 : CH.le (CH.join F227 p249) (CH.join (CH.join F227 p249) p260) := CH.le_joinL _ _
              have lp268 : CH.le p260 (CH.join (CH.join F227 p249) p260) := CH.le_joinR (Ctx.dis_of [] [p233, p207, p59, p45] C266)
              have C269 : Ctx _ _ _ _ (CH.join (CH.join F227 p249) p260) [p233, p207, p59, p45] := Ctx.freeze [] [p233, p207, p59, p45] C266
              obtain ⟨r271, hg270, hX182⟩ := bindE hX182
              refine WL.call (args := #[.slice A245 n247 c246, .slice A256 n258 c257]) (Yenter.fn Try.func20 (by kernel_rfl) rfl (argsE (.cons rfl (.cons rfl .nil)))) (juratref18_Same.calls k _ (CH.join (CH.join F227 p249) p260) A245 c246 n247 r244 A256 c257 n258 r255 C269.pre0 hn248 (Row.len_le hR252).1 (Row.len_le hR252).2.1 (Sl.mono (Row.sl hR252) (CH.le_trans le264 le267) (CH.le_trans lp265 le267)) hn259 (Row.len_le hR261).1 (Row.len_le hR261).2.1 (Sl.mono (Row.sl hR261) (CH.le_trans le264 le267) lp268) r271 hg270) ?_
              rintro e_ w_ ⟨rfl, ⟨m272, rfl⟩⟩
              refine ⟨_, rfl, ?_⟩
              have C273 := Ctx.drewN C263 m272
              refine WL.val (Yl.pickT (v := .bool r271) (congrArg Value.bool (decide_eq_true hc224)) rfl) ?_
              refine WL.val (Yl.move (v := .bool r271) rfl) ?_
              rcases iteE hX182 with ⟨hc274, hX182⟩ | ⟨hc274, hX182⟩
              · skip
                refine WL.on rfl (congrArg Value.bool hc274) ?_
                obtain ⟨r276, hg275, hX182⟩ := bindE hX182
                refine WL.call (args := #[]) (Yenter.fn Try.func10 (by kernel_rfl) rfl (argsE .nil)) (juratlaw19_awake.calls k _ F227  (Ctx.pre (qs := []) (rest := [p260, p249, p233, p207, p59, p45]) C273)  r276 hg275) ?_
                rintro e_ w_ ⟨rfl, C277⟩
                refine ⟨_, rfl, ?_⟩
                have C278 : Ctx _ _ _ _ F227 [p260, p249, p233, p207, p59, p45] := Ctx.call (qs := []) (rest := [p260, p249, p233, p207, p59, p45]) C273 C277
                refine WL.val (Yl.pickT (v := .bool r276) (congrArg Value.bool hc274) rfl) ?_
                refine WL.val (Yl.assign (v := .bool r276) rfl) ?_
                refine WL.done ?_
                have C279 : Ctx _ _ _ _ F227 [p249, p233, p207, p59, p45] := Ctx.drop [] [p249, p233, p207, p59, p45] C278
                have C280 : Ctx _ _ _ _ F227 [p233, p207, p59, p45] := Ctx.drop [] [p233, p207, p59, p45] C279
                have C281 : Ctx _ _ _ _ F227 [p207, p59, p45] := Ctx.drop [] [p207, p59, p45] C280
                have C282 : Ctx _ _ _ _ F227 [p59, p45] := Ctx.drop [] [p59, p45] C281
                have C283 := Ctx.lower C282 le40 (CH.le_trans le202 le228)
                cases hX182
                refine thenE_n ?_
                exact ⟨rfl, C283⟩
              · skip
                refine WL.off rfl (congrArg Value.bool (Bool.eq_false_iff.2 hc274)) ?_
                refine WL.val (Yl.pickF (v := .bool false) (congrArg Value.bool (Bool.eq_false_iff.2 hc274)) rfl) ?_
                refine WL.val (Yl.assign (v := .bool false) rfl) ?_
                refine WL.done ?_
                have C284 : Ctx _ _ _ _ F227 [p249, p233, p207, p59, p45] := Ctx.drop [] [p249, p233, p207, p59, p45] C273
                have C285 : Ctx _ _ _ _ F227 [p233, p207, p59, p45] := Ctx.drop [] [p233, p207, p59, p45] C284
                have C286 : Ctx _ _ _ _ F227 [p207, p59, p45] := Ctx.drop [] [p207, p59, p45] C285
                have C287 : Ctx _ _ _ _ F227 [p59, p45] := Ctx.drop [] [p59, p45] C286
                have C288 := Ctx.lower C287 le40 (CH.le_trans le202 le228)
                cases hX182
                refine thenE_n ?_
                exact ⟨rfl, C288⟩
            · skip
              refine WL.off rfl (congrArg Value.bool (decide_eq_false hc224)) ?_
              refine WL.off rfl (congrArg Value.bool (decide_eq_false hc224)) ?_
              refine WL.off rfl (congrArg Value.bool (decide_eq_false hc224)) ?_
              refine WL.off rfl (congrArg Value.bool (decide_eq_false hc224)) ?_
              refine WL.off rfl (congrArg Value.bool (decide_eq_false hc224)) ?_
              refine WL.off rfl (congrArg Value.bool (decide_eq_false hc224)) ?_
              refine WL.off rfl (congrArg Value.bool (decide_eq_false hc224)) ?_
              refine WL.off rfl (congrArg Value.bool (decide_eq_false hc224)) ?_
              refine WL.val (Yl.pickF (v := .bool false) (congrArg Value.bool (decide_eq_false hc224)) rfl) ?_
              refine WL.val (Yl.move (v := .bool false) rfl) ?_
              refine WL.off rfl rfl ?_
              refine WL.val (Yl.pickF (v := .bool false) rfl rfl) ?_
              refine WL.val (Yl.assign (v := .bool false) rfl) ?_
              refine WL.done ?_
              have C289 : Ctx _ _ _ _ F201 [p59, p45] := Ctx.drop [] [p59, p45] C223
              have C290 := Ctx.lower C289 le40 le202
              cases hX182
              refine thenE_n ?_
              exact ⟨rfl, C290⟩
          · skip
            refine WL.off rfl (congrArg Value.bool (decide_eq_false hc198)) ?_
            refine WL.off rfl (congrArg Value.bool (decide_eq_false hc198)) ?_
            refine WL.off rfl (congrArg Value.bool (decide_eq_false hc198)) ?_
            refine WL.off rfl (congrArg Value.bool (decide_eq_false hc198)) ?_
            refine WL.off rfl (congrArg Value.bool (decide_eq_false hc198)) ?_
            refine WL.off rfl (congrArg Value.bool (decide_eq_false hc198)) ?_
            refine WL.off rfl (congrArg Value.bool (decide_eq_false hc198)) ?_
            refine WL.off rfl (congrArg Value.bool (decide_eq_false hc198)) ?_
            refine WL.val (Yl.pickF (v := .bool false) (congrArg Value.bool (decide_eq_false hc198)) rfl) ?_
            refine WL.val (Yl.move (v := .bool false) rfl) ?_
            refine WL.off rfl rfl ?_
            refine WL.off rfl rfl ?_
            refine WL.off rfl rfl ?_
            refine WL.off rfl rfl ?_
            refine WL.off rfl rfl ?_
            refine WL.off rfl rfl ?_
            refine WL.off rfl rfl ?_
            refine WL.off rfl rfl ?_
            refine WL.val (Yl.pickF (v := .bool false) rfl rfl) ?_
            refine WL.val (Yl.move (v := .bool false) rfl) ?_
            refine WL.off rfl rfl ?_
            refine WL.val (Yl.pickF (v := .bool false) rfl rfl) ?_
            refine WL.val (Yl.assign (v := .bool false) rfl) ?_
            refine WL.done ?_
            cases hX182
            refine thenE_n ?_
            exact ⟨rfl, C196⟩
        · skip
          refine WL.off rfl (congrArg Value.bool (Bool.eq_false_iff.2 hc197)) ?_
          refine WL.off rfl (congrArg Value.bool (Bool.eq_false_iff.2 hc197)) ?_
          refine WL.off rfl (congrArg Value.bool (Bool.eq_false_iff.2 hc197)) ?_
          refine WL.val (Yl.pickF (v := .bool false) (congrArg Value.bool (Bool.eq_false_iff.2 hc197)) rfl) ?_
          refine WL.val (Yl.move (v := .bool false) rfl) ?_
          refine WL.off rfl rfl ?_
          refine WL.off rfl rfl ?_
          refine WL.off rfl rfl ?_
          refine WL.off rfl rfl ?_
          refine WL.off rfl rfl ?_
          refine WL.off rfl rfl ?_
          refine WL.off rfl rfl ?_
          refine WL.off rfl rfl ?_
          refine WL.val (Yl.pickF (v := .bool false) rfl rfl) ?_
          refine WL.val (Yl.move (v := .bool false) rfl) ?_
          refine WL.off rfl rfl ?_
          refine WL.off rfl rfl ?_
          refine WL.off rfl rfl ?_
          refine WL.off rfl rfl ?_
          refine WL.off rfl rfl ?_
          refine WL.off rfl rfl ?_
          refine WL.off rfl rfl ?_
          refine WL.off rfl rfl ?_
          refine WL.val (Yl.pickF (v := .bool false) rfl rfl) ?_
          refine WL.val (Yl.move (v := .bool false) rfl) ?_
          refine WL.off rfl rfl ?_
          refine WL.val (Yl.pickF (v := .bool false) rfl rfl) ?_
          refine WL.val (Yl.assign (v := .bool false) rfl) ?_
          refine WL.done ?_
          cases hX182
          refine thenE_n ?_
          exact ⟨rfl, C196⟩
      · skip
        rintro env_ w_ ⟨ho179, C181⟩
        refine W.ret ?_
        have C291 : Ctx _ _ _ _ F39 [p45] := Ctx.drop [] [p45] C181
        have C292 : Ctx _ _ _ _ F39 [] := Ctx.drop [] [] C291
        have e293 := Option.some.inj H
        subst e293
        exact post_r (resE1 rfl ho179) ⟨rfl, (Ctx.weak C292 (CH.le_refl _))⟩
end Go.Proofs.Ytaajcpjhcckecaa
