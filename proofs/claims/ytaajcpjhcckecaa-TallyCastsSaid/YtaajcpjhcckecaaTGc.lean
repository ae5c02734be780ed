/- Functions of the program: each as a plain function of numbers and lists, and the proof that the program's own comes to it. Nothing is assumed but what each theorem says. -/
import Derived.Test.YtaajcpjhcckecaaTGb
namespace Go.Proofs.Ytaajcpjhcckecaa
open Go.RowKit Go.WG
set_option linter.unusedVariables false
set_option linter.unusedSimpArgs false
def juratlaw19_awake.f (k : Nat)  : Option Bool := (tally_Decide.f k [(⟨0, [97]⟩ : TCast), (⟨1, [98]⟩ : TCast), (⟨2, [97]⟩ : TCast)] 1).bind fun ⟨r65, r66⟩ => (if r66 = true then ((juratref01_Same.f k r65 [97]).bind fun r154 => if r154 = true then ((tally_Liars.f k [(⟨0, [97]⟩ : TCast), (⟨1, [98]⟩ : TCast), (⟨2, [97]⟩ : TCast)] r65).bind fun r165 => (juratref18_Same.f k r165 [1]).bind fun r191 => some r191) else (some false)) else (some false)).bind fun x134 => some x134
set_option maxRecDepth 100000 in
set_option maxHeartbeats 4000000 in
theorem juratlaw19_awake.calls (k : Nat) (w : World) (F : CH)  (hp : Pre w F [])  (r0_ : Bool) (H : juratlaw19_awake.f k  = some r0_) :
    Calls Try.prog 10 #[] w fun e w' => e = .returned (.bool r0_) ∧ Ctx w F (domL []) w' F [] := by
  have C := Ctx.start hp
  generalize hD : domL [] = D at C ⊢
  unfold juratlaw19_awake.f at H
  refine Calls.ofW Try.func10 rfl (by simp [Try.ntmps10]) ?_
  refine W.seq ?_
  refine W.region rfl ?_
  refine WL.val (Yl.assign (v := .bool false) rfl) ?_
  refine WL.done ?_
  refine W.seq ?_
  refine W.region rfl ?_
  obtain ⟨A1, c2, n3, p4, w5, hn6, hy7, C8, hR9⟩ := ev_lit1' (P := Try.prog) 5 (Kd.int .u8) C Try.underlying23 ti5 ⟨by decide, by decide⟩ 97 (.int .u8 97) rfl
  refine WL.val (hy7 _ _ _ rfl) ?_
  refine WL.val (Yl.build (places := [(0, 1), (1, 1)]) (cs := List.toArray [.int .i64 0, .slice A1 n3 c2]) Try.underlying37 zr37 (pl37 _ Try.underlying37) (partsB (.cons rfl (.cons rfl .nil))) rfl) ?_
  obtain ⟨A10, c11, n12, p13, w14, hn15, hy16, C17, hR18⟩ := ev_lit1' (P := Try.prog) 5 (Kd.int .u8) C8 Try.underlying23 ti5 ⟨by decide, by decide⟩ 98 (.int .u8 98) rfl
  refine WL.val (hy16 _ _ _ rfl) ?_
  refine WL.val (Yl.build (places := [(0, 1), (1, 1)]) (cs := List.toArray [.int .i64 1, .slice A10 n12 c11]) Try.underlying37 zr37 (pl37 _ Try.underlying37) (partsB (.cons rfl (.cons rfl .nil))) rfl) ?_
  obtain ⟨A19, c20, n21, p22, w23, hn24, hy25, C26, hR27⟩ := ev_lit1' (P := Try.prog) 5 (Kd.int .u8) C17 Try.underlying23 ti5 ⟨by decide, by decide⟩ 97 (.int .u8 97) rfl
  refine WL.val (hy25 _ _ _ rfl) ?_
  refine WL.val (Yl.build (places := [(0, 1), (1, 1)]) (cs := List.toArray [.int .i64 2, .slice A19 n21 c20]) Try.underlying37 zr37 (pl37 _ Try.underlying37) (partsB (.cons rfl (.cons rfl .nil))) rfl) ?_
  have hd28 := Ctx.dis_of [p22, p13] [] C26
  have C31 : Ctx _ _ _ _ (CH.join F p4) [p22, p13] := Ctx.freeze [p22, p13] [] C26
  have le30 := CH.le_joinL F p4
  obtain ⟨hl32, hm33, hS34⟩ := Row.freeze' hR9 hd28
  have hR35 := Row.mono hR18 le30
  have hR36 := Row.mono hR27 le30
  have hd37 := Ctx.dis_of [p22] [] C31
  have C40 : Ctx _ _ _ _ (CH.join (CH.join F p4) p13) [p22] := Ctx.freeze [p22] [] C31
  have le39 := CH.le_joinL (CH.join F p4) p13
  obtain ⟨hl41, hm42, hS43⟩ := Row.freeze' hR35 hd37
  have hR44 := Row.mono hR36 le39
  have hd45 := Ctx.dis_of [] [] C40
  have C48 : Ctx _ _ _ _ (CH.join (CH.join (CH.join F p4) p13) p22) [] := Ctx.freeze [] [] C40
  have le47 := CH.le_joinL (CH.join (CH.join F p4) p13) p22
  obtain ⟨hl49, hm50, hS51⟩ := Row.freeze' hR44 hd45
  obtain ⟨A52, c53, n54, p55, w56, hn57, hy58, C59, hR60⟩ := ev_lit' (P := Try.prog) 37 TCast.K C48 Try.underlying26 ti37 (by decide) [(⟨0, [97]⟩ : TCast), (⟨1, [98]⟩ : TCast), (⟨2, [97]⟩ : TCast)] [.agg (List.toArray [.int .i64 0, .slice A1 n3 c2]), .agg (List.toArray [.int .i64 1, .slice A10 n12 c11]), .agg (List.toArray [.int .i64 2, .slice A19 n21 c20])] (.cons (TCast.mk' _ (⟨0, [97]⟩ : TCast) A1 c2 n3 hn6 hl32 hm33 (Sl.mono hS34 (CH.le_trans le39 le47) (CH.le_trans le39 le47))) (.cons (TCast.mk' _ (⟨1, [98]⟩ : TCast) A10 c11 n12 hn15 hl41 hm42 (Sl.mono hS43 le47 le47)) (.cons (TCast.mk' _ (⟨2, [97]⟩ : TCast) A19 c20 n21 hn24 hl49 hm50 hS51) .nil))) 3 rfl (by decide) (by decide)
  refine WL.val (hy58 _ [(.tmp 5), (.tmp 7), (.tmp 9)] _ (.cons rfl (.cons rfl (.cons rfl .nil)))) ?_
  refine WL.val (Yl.assign (v := .slice A52 n54 c53) rfl) ?_
  refine WL.done ?_
  refine W.seq ?_
  refine W.region rfl ?_
  refine WL.val (Yl.move (v := .slice A52 n54 c53) rfl) ?_
  have le61 : CH.le (CH.join (CH.join (CH.join F p4) p13) p22) (CH.join (CH.join (CH.join (CH.join F p4) p13) p22) p55) := CH.le_joinL _ _
  have lp62 : CH.le p55 (CH.join (CH.join (CH.join (CH.join F p4) p13) p22) p55) := CH.le_joinR (Ctx.dis_of [] [] C59)
  have C63 : Ctx _ _ _ _ (CH.join (CH.join (CH.join (CH.join F p4) p13) p22) p55) [] := Ctx.freeze [] [] C59
  obtain ⟨⟨r65, r66⟩, hg64, H⟩ := bindE H
  refine WL.call (args := #[.slice A52 n54 c53, .int .i64 1]) (Yenter.fn Try.func13 (by kernel_rfl) rfl (argsE (.cons rfl (.cons rfl .nil)))) (tally_Decide.calls k _ (CH.join (CH.join (CH.join (CH.join F p4) p13) p22) p55) A52 c53 n54 [(⟨0, [97]⟩ : TCast), (⟨1, [98]⟩ : TCast), (⟨2, [97]⟩ : TCast)] 1 (Ctx.pre (qs := []) (rest := []) C63) hn57 (Row.len_le hR60).1 (Row.len_le hR60).2.1 (Sl.mono (Row.sl hR60) le61 lp62) r65 r66 hg64) ?_
  rintro e_ w_ ⟨A67, c68, n69, p71, rfl, C73, hn70, hR72⟩
  refine ⟨_, rfl, ?_⟩
  have hR74 : Row (Kd.int .u8) (CH.join (CH.join (CH.join F p4) p13) p22) p71 (.slice A67 n69 c68) r65 := hR72
  have C75 : Ctx _ _ _ _ (CH.join (CH.join (CH.join F p4) p13) p22) [p71, p55] := Ctx.callL (qs := []) (rest := [p55]) C59 le61 C73
  refine WL.val (Yl.move (v := .tuple #[(.slice A67 n69 c68), (.bool r66)]) rfl) ?_
  refine WL.val (Yl.extract (v := .slice A67 n69 c68) rfl rfl) ?_
  refine WL.val (Yl.extract (v := .bool r66) rfl rfl) ?_
  refine WL.val (Yl.assign (v := .slice A67 n69 c68) rfl) ?_
  refine WL.val (Yl.assign (v := .bool r66) rfl) ?_
  refine WL.done ?_
  refine W.seq ?_
  obtain ⟨x134, hX136, H⟩ := bindE H
  refine W.cutM (fun env_ w_ => env_ 0 = .bool x134 ∧ Ctx w F D w_ (CH.join (CH.join (CH.join F p4) p13) p22) [p71, p55]) ?_ ?_
  · skip
    refine W.region rfl ?_
    refine WL.val (Yl.move (v := .bool r66) rfl) ?_
    refine WL.val (Yl.move (v := .bool r66) rfl) ?_
    rcases iteE hX136 with ⟨hc137, hX136⟩ | ⟨hc137, hX136⟩
    · skip
      refine WL.on rfl (congrArg Value.bool hc137) ?_
      refine WL.val (Yl.move (v := .slice A67 n69 c68) rfl) ?_
      refine WL.on rfl (congrArg Value.bool hc137) ?_
      obtain ⟨A138, c139, n140, p141, w142, hn143, hy144, C145, hR146⟩ := ev_lit1' (P := Try.prog) 5 (Kd.int .u8) C75 Try.underlying23 ti5 ⟨by decide, by decide⟩ 97 (.int .u8 97) rfl
      refine WL.val (hy144 _ _ _ rfl) ?_
      refine WL.on rfl (congrArg Value.bool hc137) ?_
      have le147 : CH.le (CH.join (CH.join (CH.join F p4) p13) p22) (CH.join (CH.join (CH.join (CH.join F p4) p13) p22) p71) := CH.le_joinL _ _
      have lp148 : CH.le p71 (CH.join (CH.join (CH.join (CH.join F p4) p13) p22) p71) := CH.le_joinR (Ctx.dis_of [p141] [p55] C145)
      have C149 : Ctx _ _ _ _ (CH.join (CH.join (CH.join (CH.join F p4) p13) p22) p71) [p141, p55] := Ctx.freeze [p141] [p55] C145
      have le150 : CH.le (CH.join (CH.join (CH.join (CH.join F p4) p13) p22) p71) (CH.join (CH.join (CH.join (CH.join (CH.join F p4) p13) p22) p71) p141) := CH.le_joinL _ _
      have lp151 : CH.le p141 (CH.join (CH.join (CH.join (CH.join (CH.join F p4) p13) p22) p71) p141) := CH.le_joinR (Ctx.dis_of [] [p55] C149)
      have C152 : Ctx _ _ _ _ (CH.join (CH.join (CH.join (CH.join (CH.join F p4) p13) p22) p71) p141) [p55] := Ctx.freeze [] [p55] C149
      obtain ⟨r154, hg153, hX136⟩ := bindE hX136
      refine WL.call (args := #[.slice A67 n69 c68, .slice A138 n140 c139]) (Yenter.fn Try.func12 (by kernel_rfl) rfl (argsE (.cons rfl (.cons rfl .nil)))) (juratref01_Same.calls k _ (CH.join (CH.join (CH.join (CH.join (CH.join F p4) p13) p22) p71) p141) A67 c68 n69 r65 A138 c139 n140 [97] C152.pre0 hn70 (Row.len_le hR74).1 (Row.len_le hR74).2.1 (Sl.mono (Row.sl hR74) (CH.le_trans le147 le150) (CH.le_trans lp148 le150)) hn143 (Row.len_le hR146).1 (Row.len_le hR146).2.1 (Sl.mono (Row.sl hR146) (CH.le_trans le147 le150) lp151) r154 hg153) ?_
      rintro e_ w_ ⟨rfl, ⟨m155, rfl⟩⟩
      refine ⟨_, rfl, ?_⟩
      have C156 := Ctx.drewN C145 m155
      refine WL.val (Yl.pickT (v := .bool r154) (congrArg Value.bool hc137) rfl) ?_
      refine WL.val (Yl.move (v := .bool r154) rfl) ?_
      rcases iteE hX136 with ⟨hc157, hX136⟩ | ⟨hc157, hX136⟩
      · skip
        refine WL.on rfl (congrArg Value.bool hc157) ?_
        refine WL.val (Yl.move (v := .slice A52 n54 c53) rfl) ?_
        refine WL.on rfl (congrArg Value.bool hc157) ?_
        refine WL.val (Yl.move (v := .slice A67 n69 c68) rfl) ?_
        refine WL.on rfl (congrArg Value.bool hc157) ?_
        have le158 : CH.le (CH.join (CH.join (CH.join F p4) p13) p22) (CH.join (CH.join (CH.join (CH.join F p4) p13) p22) p55) := CH.le_joinL _ _
        have lp159 : CH.le p55 (CH.join (CH.join (CH.join (CH.join F p4) p13) p22) p55) := CH.le_joinR (Ctx.dis_of [p141, p71] [] C156)
        have C160 : Ctx _ _ _ _ (CH.join (CH.join (CH.join (CH.join F p4) p13) p22) p55) [p141, p71] := Ctx.freeze [p141, p71] [] C156
        have le161 : CH.le (CH.join (CH.join (CH.join (CH.join F p4) p13) p22) p55) (CH.join (CH.join (CH.join (CH.join (CH.join F p4) p13) p22) p55) p71) := CH.le_joinL _ _
        have lp162 : CH.le p71 (CH.join (CH.join (CH.join (CH.join (CH.join F p4) p13) p22) p55) p71) := CH.le_joinR (Ctx.dis_of [p141] [] C160)
        have C163 : Ctx _ _ _ _ (CH.join (CH.join (CH.join (CH.join (CH.join F p4) p13) p22) p55) p71) [p141] := Ctx.freeze [p141] [] C160
        obtain ⟨r165, hg164, hX136⟩ := bindE hX136
        refine WL.call (args := #[.slice A52 n54 c53, .slice A67 n69 c68]) (Yenter.fn Try.func14 (by kernel_rfl) rfl (argsE (.cons rfl (.cons rfl .nil)))) (tally_Liars.calls k _ (CH.join (CH.join (CH.join (CH.join (CH.join F p4) p13) p22) p55) p71) A52 c53 n54 [(⟨0, [97]⟩ : TCast), (⟨1, [98]⟩ : TCast), (⟨2, [97]⟩ : TCast)] A67 c68 n69 r65 (Ctx.pre (qs := []) (rest := [p141]) C163) hn57 (Row.len_le hR60).1 (Row.len_le hR60).2.1 (Sl.mono (Row.sl hR60) (CH.le_trans le158 le161) (CH.le_trans lp159 le161)) hn70 (Row.len_le hR74).1 (Row.len_le hR74).2.1 (Sl.mono (Row.sl hR74) (CH.le_trans le158 le161) lp162) r165 hg164) ?_
        rintro e_ w_ ⟨A166, c167, n168, p170, rfl, C172, hn169, hR171⟩
        refine ⟨_, rfl, ?_⟩
        have hR173 : Row (Kd.int .i64) (CH.join (CH.join (CH.join F p4) p13) p22) p170 (.slice A166 n168 c167) r165 := hR171
        have C174 : Ctx _ _ _ _ (CH.join (CH.join (CH.join F p4) p13) p22) [p170, p141, p71, p55] := Ctx.callL (qs := []) (rest := [p141, p71, p55]) C156 (CH.le_trans le158 le161) C172
        refine WL.on rfl (congrArg Value.bool hc157) ?_
        obtain ⟨A175, c176, n177, p178, w179, hn180, hy181, C182, hR183⟩ := ev_lit1' (P := Try.prog) 3 (Kd.int .i64) C174 Try.underlying31 ti3 ⟨by decide, by decide⟩ 1 (.int .i64 1) rfl
        refine WL.val (hy181 _ _ _ rfl) ?_
        refine WL.on rfl (congrArg Value.bool hc157) ?_
        have le184 : CH.le (CH.join (CH.join (CH.join F p4) p13) p22) (CH.join (CH.join (CH.join (CH.join F p4) p13) p22) p170) := CH.le_joinL _ _
        have lp185 : CH.le p170 (CH.join (CH.join (CH.join (CH.join F p4) p13) p22) p170) := CH.le_joinR (Ctx.dis_of [p178] [p141, p71, p55] C182)
        have C186 : Ctx _ _ _ _ (CH.join (CH.join (CH.join (CH.join F p4) p13) p22) p170) [p178, p141, p71, p55] := Ctx.freeze [p178] [p141, p71, p55] C182
        have le187 : CH.le (CH.join (CH.join (CH.join (CH.join F p4) p13) p22) p170) (CH.join (CH.join (CH.join (CH.join (CH.join F p4) p13) p22) p170) p178) := CH.le_joinL _ _
        have lp188 : CH.le p178 (CH.join (CH.join (CH.join (CH.join (CH.join F p4) p13) p22) p170) p178) := CH.le_joinR (Ctx.dis_of [] [p141, p71, p55] C186)
        have C189 : Ctx _ _ _ _ (CH.join (CH.join (CH.join (CH.join (CH.join F p4) p13) p22) p170) p178) [p141, p71, p55] := Ctx.freeze [] [p141, p71, p55] C186
        obtain ⟨r191, hg190, hX136⟩ := bindE hX136
        refine WL.call (args := #[.slice A166 n168 c167, .slice A175 n177 c176]) (Yenter.fn Try.func20 (by kernel_rfl) rfl (argsE (.cons rfl (.cons rfl .nil)))) (juratref18_Same.calls k _ (CH.join (CH.join (CH.join (CH.join (CH.join F p4) p13) p22) p170) p178) A166 c167 n168 r165 A175 c176 n177 [1] C189.pre0 hn169 (Row.len_le hR173).1 (Row.len_le hR173).2.1 (Sl.mono (Row.sl hR173) (CH.le_trans le184 le187) (CH.le_trans lp185 le187)) hn180 (Row.len_le hR183).1 (Row.len_le hR183).2.1 (Sl.mono (Row.sl hR183) (CH.le_trans le184 le187) lp188) r191 hg190) ?_
        rintro e_ w_ ⟨rfl, ⟨m192, rfl⟩⟩
        refine ⟨_, rfl, ?_⟩
        have C193 := Ctx.drewN C182 m192
        refine WL.val (Yl.pickT (v := .bool r191) (congrArg Value.bool hc157) rfl) ?_
        refine WL.val (Yl.assign (v := .bool r191) rfl) ?_
        refine WL.done ?_
        have C194 : Ctx _ _ _ _ (CH.join (CH.join (CH.join F p4) p13) p22) [p170, p141, p71, p55] := Ctx.drop [] [p170, p141, p71, p55] C193
        have C195 : Ctx _ _ _ _ (CH.join (CH.join (CH.join F p4) p13) p22) [p141, p71, p55] := Ctx.drop [] [p141, p71, p55] C194
        have C196 : Ctx _ _ _ _ (CH.join (CH.join (CH.join F p4) p13) p22) [p71, p55] := Ctx.drop [] [p71, p55] C195
        cases hX136
        refine thenE_n ?_
        exact ⟨rfl, C196⟩
      · skip
        refine WL.off rfl (congrArg Value.bool (Bool.eq_false_iff.2 hc157)) ?_
        refine WL.off rfl (congrArg Value.bool (Bool.eq_false_iff.2 hc157)) ?_
        refine WL.off rfl (congrArg Value.bool (Bool.eq_false_iff.2 hc157)) ?_
        refine WL.off rfl (congrArg Value.bool (Bool.eq_false_iff.2 hc157)) ?_
        refine WL.off rfl (congrArg Value.bool (Bool.eq_false_iff.2 hc157)) ?_
        refine WL.val (Yl.pickF (v := .bool false) (congrArg Value.bool (Bool.eq_false_iff.2 hc157)) rfl) ?_
        refine WL.val (Yl.assign (v := .bool false) rfl) ?_
        refine WL.done ?_
        have C197 : Ctx _ _ _ _ (CH.join (CH.join (CH.join F p4) p13) p22) [p71, p55] := Ctx.drop [] [p71, p55] C156
        cases hX136
        refine thenE_n ?_
        exact ⟨rfl, C197⟩
    · skip
      refine WL.off rfl (congrArg Value.bool (Bool.eq_false_iff.2 hc137)) ?_
      refine WL.off rfl (congrArg Value.bool (Bool.eq_false_iff.2 hc137)) ?_
      refine WL.off rfl (congrArg Value.bool (Bool.eq_false_iff.2 hc137)) ?_
      refine WL.val (Yl.pickF (v := .bool false) (congrArg Value.bool (Bool.eq_false_iff.2 hc137)) rfl) ?_
      refine WL.val (Yl.move (v := .bool false) rfl) ?_
      refine WL.off rfl rfl ?_
      refine WL.off rfl rfl ?_
      refine WL.off rfl rfl ?_
      refine WL.off rfl rfl ?_
      refine WL.off rfl rfl ?_
      refine WL.val (Yl.pickF (v := .bool false) rfl rfl) ?_
      refine WL.val (Yl.assign (v := .bool false) rfl) ?_
      refine WL.done ?_
      cases hX136
      refine thenE_n ?_
      exact ⟨rfl, C75⟩
  · skip
    rintro env_ w_ ⟨ho133, C135⟩
    refine W.ret ?_
    have C198 : Ctx _ _ _ _ (CH.join (CH.join (CH.join F p4) p13) p22) [p55] := Ctx.drop [] [p55] C135
    have C199 : Ctx _ _ _ _ (CH.join (CH.join (CH.join F p4) p13) p22) [] := Ctx.drop [] [] C198
    have e200 := Option.some.inj H
    subst e200
    exact post_r (resE1 rfl ho133) ⟨rfl, (Ctx.weak C199 (CH.le_refl _))⟩
end Go.Proofs.Ytaajcpjhcckecaa
