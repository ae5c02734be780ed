/- Functions of the program: each as a plain function of numbers and lists, and the proof that the program's own comes to it. Nothing is assumed but what each theorem says. -/
import Derived.Test.YtnoocbdpkddpbaaGe
namespace Go.Proofs.Ytnoocbdpkddpbaa
open Go.RowKit Go.WG
set_option linter.unusedVariables false
set_option linter.unusedSimpArgs false

/-! ### jurat/juratlaw13.AgendaFull: function 5 -/
def juratlaw13_AgendaFull.l1 : Nat → Int → Int → TAgenda → Option (Sum TAgenda Bool)
  | 0, _, _, _ => none
  | k + 1, a0, x133, x134 => if x133 < a0 then ((agenda_Agenda_Put.f k x134 (⟨wi64 (a0 - x133), x133⟩ : TEntry)).bind fun ⟨r164, r165⟩ => if (decide (r164 = 0)) = (decide (x133 < 4096)) then (juratlaw13_AgendaFull.l1 k a0 (wi64 (x133 + 1)) r165) else (some (Sum.inr false))) else (some (Sum.inl x134))
def juratlaw13_AgendaFull.f (k : Nat) (a0 : Int) : Option Bool := if ((decide (a0 < 0)) || (decide (a0 > 4200))) = true then ((juratlaw13_awake.f k ).bind fun r7 => some r7) else ((agenda_New.f k ).bind fun r11 => (juratlaw13_AgendaFull.l1 k a0 0 r11).bind fun o_ => sumE o_ (fun x96 => (if a0 = 0 then ((agenda_Agenda_Len.f k x96).bind fun r258 => if r258 = (if 4096 < a0 then 4096 else a0) then ((juratlaw13_awake.f k ).bind fun r263 => some (r263, x96)) else (some (false, x96))) else ((agenda_Agenda_Put.f k x96 (⟨(-1), 0⟩ : TEntry)).bind fun ⟨r267, r268⟩ => if r267 = 0 then ((agenda_Agenda_Len.f k r268).bind fun r291 => if r291 = (if 4096 < a0 then 4096 else a0) then ((juratlaw13_awake.f k ).bind fun r296 => some (r296, r268)) else (some (false, r268))) else (some (false, r268)))).bind fun ⟨x234, x235⟩ => some x234) (fun p_ => some p_))
set_option maxRecDepth 100000 in
set_option maxHeartbeats 4000000 in
theorem juratlaw13_AgendaFull.calls (k : Nat) (w : World) (F : CH) (a0 : Int) (hp : Pre w F [])  (r0_ : Bool) (H : juratlaw13_AgendaFull.f k a0 = some r0_) :
    Calls Try.prog 5 #[.int .i64 a0] w fun e w' => e = .returned (.bool r0_) ∧ Ctx w F (domL []) w' F [] := by
  have C := Ctx.start hp
  generalize hD : domL [] = D at C ⊢
  unfold juratlaw13_AgendaFull.f at H
  refine Calls.ofW Try.func5 rfl (by simp [Try.ntmps5]) ?_
  refine W.seq ?_
  refine W.region rfl ?_
  refine WL.val (Yl.assign (v := .bool false) rfl) ?_
  refine WL.done ?_
  refine W.seq ?_
  refine W.seq ?_
  refine W.region rfl ?_
  refine WL.val (Yl.move (v := .int .i64 a0) rfl) ?_
  refine WL.val (Yl.lss (m := a0) (n := 0) (q := decide (a0 < 0)) rfl rfl rfl) ?_
  refine WL.val (Yl.move (v := .bool (decide (a0 < 0))) rfl) ?_
  refine WL.cut (fun env_ w_ => env_ 10 = .bool ((decide (a0 < 0)) || (decide (a0 > 4200))) ∧ env_ 0 = .int .i64 a0 ∧ Ctx w F D w_ F []) ?_ ?_
  · skip
    rcases Bool.eq_false_or_eq_true (decide (a0 < 0)) with hb1 | hb1
    · skip
      refine WL.off rfl (congrArg Value.bool hb1) ?_
      refine WL.off rfl (congrArg Value.bool hb1) ?_
      refine WL.val (Yl.pickT (v := .bool true) (congrArg Value.bool hb1) rfl) ?_
      exact WL.done ⟨(congrArg Value.bool (show true = ((decide (a0 < 0)) || (decide (a0 > 4200))) from by simp [hb1])), rfl, C⟩
    · skip
      refine WL.on rfl (congrArg Value.bool hb1) ?_
      refine WL.val (Yl.move (v := .int .i64 a0) rfl) ?_
      refine WL.on rfl (congrArg Value.bool hb1) ?_
      refine WL.val (Yl.gtr (m := a0) (n := 4200) (q := decide (a0 > 4200)) rfl rfl rfl) ?_
      refine WL.val (Yl.pickF (v := .bool (decide (a0 > 4200))) (congrArg Value.bool hb1) rfl) ?_
      exact WL.done ⟨(congrArg Value.bool (show (decide (a0 > 4200)) = ((decide (a0 < 0)) || (decide (a0 > 4200))) from by simp [hb1])), rfl, C⟩
  · skip
    rintro env_ w_ ⟨ho2, ho3, C4⟩
    rcases iteE H with ⟨hc5, H⟩ | ⟨hc5, H⟩
    · skip
      refine W.condT (ho2.trans (congrArg Value.bool hc5)) ?_
      refine W.seq ?_
      refine W.region rfl ?_
      obtain ⟨r7, hg6, H⟩ := bindE H
      refine WL.call (args := #[]) (Yenter.fn Try.func8 (by kernel_rfl) rfl (argsE .nil)) (juratlaw13_awake.calls k _ F  (Ctx.pre (qs := []) (rest := []) C4)  r7 hg6) ?_
      rintro e_ w_ ⟨rfl, C8⟩
      refine ⟨_, rfl, ?_⟩
      have C9 : Ctx _ _ _ _ F [] := Ctx.call (qs := []) (rest := []) C4 C8
      refine WL.val (Yl.assign (v := .bool r7) rfl) ?_
      refine WL.done ?_
      refine W.ret ?_
      refine thenE_r ?_
      cases H
      exact post_r (resE1 rfl rfl) ⟨rfl, C9⟩
    · skip
      refine W.condF (ho2.trans (congrArg Value.bool (Bool.eq_false_iff.2 hc5))) ?_
      refine W.skip ?_
      refine W.seq ?_
      refine W.region rfl ?_
      obtain ⟨r11, hg10, H⟩ := bindE H
      refine WL.call (args := #[]) (Yenter.fn Try.func9 (by kernel_rfl) rfl (argsE .nil)) (agenda_New.calls k _ F  (Ctx.pre (qs := []) (rest := []) C4)  r11 hg10) ?_
      rintro e_ w_ ⟨g12, o13, A14, c15, n16, p18, g20, p21, rfl, C23, hn17, hR19, hM22⟩
      refine ⟨_, rfl, ?_⟩
      have C24 : Ctx _ _ _ _ F [CH.row g12 o13 [.slice A14 n16 c15, .map (some g20)], p18, p21] := Ctx.call (qs := []) (rest := []) C4 C23
      refine WL.val (Yl.assign (v := .pointer (some ⟨g12, o13, none⟩)) rfl) ?_
      refine WL.done ?_
      refine W.seq ?_
      refine W.seq ?_
      refine W.region rfl ?_
      refine WL.val (Yl.assign (v := .int .i64 0) rfl) ?_
      refine WL.done ?_
      obtain ⟨o108, hX107, H⟩ := bindE H
      refine W.cutM (fun env_ w_ => ∃ (x96 : TAgenda) (A97 : Option Addr) (c98 : Nat) (n99 : Nat) (p101 : CH) (g103 : Nat) (p104 : CH), env_ 0 = .int .i64 a0 ∧ env_ 3 = .pointer (some ⟨g12, o13, none⟩) ∧ Ctx w F D w_ F [CH.row g12 o13 [.slice A97 n99 c98, .map (some g103)], p101, p104] ∧ n99 = x96.q.l.length ∧ Row TEntry.K F p101 (.slice A97 n99 c98) x96.q.l ∧ MRow (Value.int .i64) (Value.int .i64) p104 g103 x96.q.place ∧ o108 = Sum.inl x96) ?_ ?_
      · skip
        refine W.block ?_
        refine W.loop (fun g_ env_ w_ => ∃ (x133 : Int) (x134 : TAgenda) (A135 : Option Addr) (c136 : Nat) (n137 : Nat) (p139 : CH) (g141 : Nat) (p142 : CH), env_ 0 = .int .i64 a0 ∧ env_ 3 = .pointer (some ⟨g12, o13, none⟩) ∧ env_ 4 = .int .i64 x133 ∧ Ctx w F D w_ F [CH.row g12 o13 [.slice A135 n137 c136, .map (some g141)], p139, p142] ∧ n137 = x134.q.l.length ∧ Row TEntry.K F p139 (.slice A135 n137 c136) x134.q.l ∧ MRow (Value.int .i64) (Value.int .i64) p142 g141 x134.q.place ∧ juratlaw13_AgendaFull.l1 g_ a0 x133 x134 = some o108) k ⟨0, r11, A14, c15, n16, p18, g20, p21, ho3, rfl, rfl, C24, hn17, hR19, hM22, hX107⟩ ?_
        clear hX107
        rintro g_ env_ w_ ⟨x133, x134, A135, c136, n137, p139, g141, p142, ho130, ho131, ho132, C144, hn138, hR140, hM143, hX107⟩
        rcases g_ with _ | k161
        · exact absurd hX107 (by simp [juratlaw13_AgendaFull.l1])
        rw [juratlaw13_AgendaFull.l1] at hX107
        refine W.seq ?_
        refine W.seq ?_
        refine W.region rfl ?_
        refine WL.val (Yl.move (v := .int .i64 x133) ho132) ?_
        refine WL.val (Yl.move (v := .int .i64 a0) ho130) ?_
        refine WL.val (Yl.lss (m := x133) (n := a0) (q := decide (x133 < a0)) rfl rfl rfl) ?_
        refine WL.done ?_
        rcases iteE hX107 with ⟨hc162, hX107⟩ | ⟨hc162, hX107⟩
        · skip
          refine W.condT (congrArg Value.bool (decide_eq_true hc162)) ?_
          refine W.skip ?_
          refine W.seq ?_
          refine W.block ?_
          refine W.seq ?_
          refine W.region rfl ?_
          refine WL.val (Yl.move (v := .pointer (some ⟨g12, o13, none⟩)) ho131) ?_
          refine WL.val (Yl.move (v := .int .i64 a0) ho130) ?_
          refine WL.val (Yl.move (v := .int .i64 x133) ho132) ?_
          refine WL.val (Yl.sub (m := a0) (n := x133) (r := wi64 (a0 - x133)) rfl rfl rfl) ?_
          refine WL.val (Yl.move (v := .int .i64 x133) ho132) ?_
          refine WL.val (Yl.build (places := [(0, 1), (1, 1)]) (cs := List.toArray [.int .i64 (wi64 (a0 - x133)), .int .i64 x133]) Try.underlying29 zr29 (pl29 _ Try.underlying29) (partsB (.cons rfl (.cons rfl .nil))) rfl) ?_
          obtain ⟨⟨r164, r165⟩, hg163, hX107⟩ := bindE hX107
          refine WL.call (args := #[.pointer (some ⟨g12, o13, none⟩), .agg (List.toArray [.int .i64 (wi64 (a0 - x133)), .int .i64 x133])]) (Yenter.fn Try.func10 (by kernel_rfl) rfl (argsE (.cons rfl (.cons rfl .nil)))) (agenda_Agenda_Put.calls k161 _ F g12 o13 A135 c136 n137 p139 g141 p142 x134 (⟨wi64 (a0 - x133), x133⟩ : TEntry) (Ctx.pre (qs := [CH.row g12 o13 [.slice A135 n137 c136, .map (some g141)], p139, p142]) (rest := []) C144) hn138 hR140 hM143 r164 r165 hg163) ?_
          rintro e_ w_ ⟨A166, c167, n168, p170, g172, p173, rfl, C175, hn169, hR171, hM174⟩
          refine ⟨_, rfl, ?_⟩
          have C176 : Ctx _ _ _ _ F [CH.row g12 o13 [.slice A166 n168 c167, .map (some g172)], p170, p173] := Ctx.call (qs := [CH.row g12 o13 [.slice A135 n137 c136, .map (some g141)], p139, p142]) (rest := []) C144 C175
          refine WL.val (Yl.eql (m := r164) (n := 0) (q := decide (r164 = 0)) rfl rfl rfl) ?_
          refine WL.val (Yl.move (v := .int .i64 x133) ho132) ?_
          refine WL.val (Yl.lss (m := x133) (n := 4096) (q := decide (x133 < 4096)) rfl rfl rfl) ?_
          refine WL.val (Yl.bneD (p := decide (r164 = 0)) (q := decide (x133 < 4096)) rfl rfl Try.underlying4) ?_
          refine WL.done ?_
          rcases iteE hX107 with ⟨hc177, hX107⟩ | ⟨hc177, hX107⟩
          · skip
            refine W.condF (congrArg Value.bool (ndec_t hc177)) ?_
            refine W.skip ?_
            refine inB_n ?_
            refine W.region rfl ?_
            refine WL.val (Yl.move (v := .int .i64 x133) ho132) ?_
            refine WL.val (Yl.add (m := x133) (n := 1) (r := wi64 (x133 + 1)) rfl rfl rfl) ?_
            refine WL.val (Yl.assign (v := .int .i64 (wi64 (x133 + 1))) rfl) ?_
            refine WL.done ?_
            exact thenE_n ⟨k161, Nat.lt_succ_self _, wi64 (x133 + 1), r165, A166, c167, n168, p170, g172, p173, ho130, ho131, rfl, C176, hn169, hR171, hM174, hX107⟩
          · skip
            refine W.condT (congrArg Value.bool (ndec_f hc177)) ?_
            refine W.seq ?_
            refine W.region rfl ?_
            refine WL.val (Yl.assign (v := .bool false) rfl) ?_
            refine WL.done ?_
            refine W.ret ?_
            refine inB_r ?_
            refine thenE_r ?_
            refine thenE_r ?_
            refine inB_r ?_
            refine thenE_r ?_
            refine thenE_r ?_
            cases hX107
            replace H := sumE_r H
            have C178 : Ctx _ _ _ _ F [p170, p173] := Ctx.drop [] [p170, p173] C176
            have C179 : Ctx _ _ _ _ F [p173] := Ctx.drop [] [p173] C178
            have C180 : Ctx _ _ _ _ F [] := Ctx.drop [] [] C179
            cases H
            exact post_r (resE1 rfl rfl) ⟨rfl, C180⟩
        · skip
          refine W.condF (congrArg Value.bool (decide_eq_false hc162)) ?_
          refine W.exit ?_
          refine thenE_x ?_
          refine thenE_x ?_
          refine inB_here ?_
          cases hX107
          refine thenE_n ?_
          exact ⟨x134, A135, c136, n137, p139, g141, p142, ho130, ho131, C144, hn138, hR140, hM143, rfl⟩
      · skip
        rintro env_ w_ ⟨x96, A97, c98, n99, p101, g103, p104, ho94, ho95, C106, hn100, hR102, hM105, rfl⟩
        replace H := sumE_l H
        refine W.seq ?_
        obtain ⟨⟨x234, x235⟩, hX246, H⟩ := bindE H
        refine W.cutM (fun env_ w_ => ∃ (A236 : Option Addr) (c237 : Nat) (n238 : Nat) (p240 : CH) (g242 : Nat) (p243 : CH), env_ 2 = .bool x234 ∧ Ctx w F D w_ F [CH.row g12 o13 [.slice A236 n238 c237, .map (some g242)], p240, p243] ∧ n238 = x235.q.l.length ∧ Row TEntry.K F p240 (.slice A236 n238 c237) x235.q.l ∧ MRow (Value.int .i64) (Value.int .i64) p243 g242 x235.q.place) ?_ ?_
        · skip
          refine W.region rfl ?_
          refine WL.val (Yl.move (v := .int .i64 a0) ho94) ?_
          refine WL.val (Yl.eql (m := a0) (n := 0) (q := decide (a0 = 0)) rfl rfl rfl) ?_
          refine WL.val (Yl.move (v := .bool (decide (a0 = 0))) rfl) ?_
          rcases iteE hX246 with ⟨hc247, hX246⟩ | ⟨hc247, hX246⟩
          · skip
            refine WL.off rfl (congrArg Value.bool (decide_eq_true hc247)) ?_
            refine WL.off rfl (congrArg Value.bool (decide_eq_true hc247)) ?_
            refine WL.off rfl (congrArg Value.bool (decide_eq_true hc247)) ?_
            refine WL.off rfl (congrArg Value.bool (decide_eq_true hc247)) ?_
            refine WL.val (Yl.pickT (v := .bool true) (congrArg Value.bool (decide_eq_true hc247)) rfl) ?_
            refine WL.val (Yl.move (v := .bool true) rfl) ?_
            refine WL.on rfl rfl ?_
            refine WL.val (Yl.move (v := .pointer (some ⟨g12, o13, none⟩)) ho95) ?_
            refine WL.on rfl rfl ?_
            have le248 : CH.le F (CH.join F (CH.row g12 o13 [.slice A97 n99 c98, .map (some g103)])) := CH.le_joinL _ _
            have lp249 : CH.le (CH.row g12 o13 [.slice A97 n99 c98, .map (some g103)]) (CH.join F (CH.row g12 o13 [.slice A97 n99 c98, .map (some g103)])) := CH.le_joinR (Ctx.dis_of [] [p101, p104] C106)
            have C250 : Ctx _ _ _ _ (CH.join F (CH.row g12 o13 [.slice A97 n99 c98, .map (some g103)])) [p101, p104] := Ctx.freeze [] [p101, p104] C106
            have le251 : CH.le (CH.join F (CH.row g12 o13 [.slice A97 n99 c98, .map (some g103)])) (CH.join (CH.join F (CH.row g12 o13 [.slice A97 n99 c98, .map (some g103)])) p101) := CH.le_joinL _ _
            have lp252 : CH.le p101 (CH.join (CH.join F (CH.row g12 o13 [.slice A97 n99 c98, .map (some g103)])) p101) := CH.le_joinR (Ctx.dis_of [] [p104] C250)
            have C253 : Ctx _ _ _ _ (CH.join (CH.join F (CH.row g12 o13 [.slice A97 n99 c98, .map (some g103)])) p101) [p104] := Ctx.freeze [] [p104] C250
            have le254 : CH.le (CH.join (CH.join F (CH.row g12 o13 [.slice A97 n99 c98, .map (some g103)])) p101) (CH.join (CH.join (CH.join F (CH.row g12 o13 [.slice A97 n99 c98, .map (some g103)])) p101) p104) := CH.le_joinL _ _
            have lp255 : CH.le p104 (CH.join (CH.join (CH.join F (CH.row g12 o13 [.slice A97 n99 c98, .map (some g103)])) p101) p104) := CH.le_joinR (Ctx.dis_of [] [] C253)
            have C256 : Ctx _ _ _ _ (CH.join (CH.join (CH.join F (CH.row g12 o13 [.slice A97 n99 c98, .map (some g103)])) p101) p104) [] := Ctx.freeze [] [] C253
            obtain ⟨r258, hg257, hX246⟩ := bindE hX246
            refine WL.call (args := #[.pointer (some ⟨g12, o13, none⟩)]) (Yenter.fn Try.func12 (by kernel_rfl) rfl (argsE (.cons rfl .nil))) (agenda_Agenda_Len.calls k _ (CH.join (CH.join (CH.join F (CH.row g12 o13 [.slice A97 n99 c98, .map (some g103)])) p101) p104) g12 o13 A97 c98 n99 g103 p104 x96 C256.pre0 hn100 (Row.len_le hR102).1 (Row.len_le hR102).2.1 (Sl.mono (Row.sl hR102) (CH.le_trans (CH.le_trans le248 le251) le254) (CH.le_trans lp252 le254)) hM105 lp255 (CH.le_trans (CH.le_trans lp249 le251) le254) r258 hg257) ?_
            rintro e_ w_ ⟨rfl, ⟨m259, rfl⟩⟩
            refine ⟨_, rfl, ?_⟩
            have C260 := Ctx.drewN C106 m259
            refine WL.on rfl rfl ?_
            refine WL.val (Yl.move (v := .int .i64 a0) ho94) ?_
            refine WL.on rfl rfl ?_
            refine WL.val (Yl.min2 (m := a0) (n := 4096) (r := (if 4096 < a0 then 4096 else a0)) rfl rfl rfl) ?_
            refine WL.on rfl rfl ?_
            refine WL.val (Yl.eql (m := r258) (n := (if 4096 < a0 then 4096 else a0)) (q := decide (r258 = (if 4096 < a0 then 4096 else a0))) rfl rfl rfl) ?_
            refine WL.val (Yl.pickT (v := .bool (decide (r258 = (if 4096 < a0 then 4096 else a0)))) rfl rfl) ?_
            refine WL.val (Yl.move (v := .bool (decide (r258 = (if 4096 < a0 then 4096 else a0)))) rfl) ?_
            rcases iteE hX246 with ⟨hc261, hX246⟩ | ⟨hc261, hX246⟩
            · skip
              refine WL.on rfl (congrArg Value.bool (decide_eq_true hc261)) ?_
              obtain ⟨r263, hg262, hX246⟩ := bindE hX246
              refine WL.call (args := #[]) (Yenter.fn Try.func8 (by kernel_rfl) rfl (argsE .nil)) (juratlaw13_awake.calls k _ F  (Ctx.pre (qs := []) (rest := [CH.row g12 o13 [.slice A97 n99 c98, .map (some g103)], p101, p104]) C260)  r263 hg262) ?_
              rintro e_ w_ ⟨rfl, C264⟩
              refine ⟨_, rfl, ?_⟩
              have C265 : Ctx _ _ _ _ F [CH.row g12 o13 [.slice A97 n99 c98, .map (some g103)], p101, p104] := Ctx.call (qs := []) (rest := [CH.row g12 o13 [.slice A97 n99 c98, .map (some g103)], p101, p104]) C260 C264
              refine WL.val (Yl.pickT (v := .bool r263) (congrArg Value.bool (decide_eq_true hc261)) rfl) ?_
              refine WL.val (Yl.assign (v := .bool r263) rfl) ?_
              refine WL.done ?_
              cases hX246
              refine thenE_n ?_
              exact ⟨A97, c98, n99, p101, g103, p104, rfl, C265, hn100, hR102, hM105⟩
            · skip
              refine WL.off rfl (congrArg Value.bool (decide_eq_false hc261)) ?_
              refine WL.val (Yl.pickF (v := .bool false) (congrArg Value.bool (decide_eq_false hc261)) rfl) ?_
              refine WL.val (Yl.assign (v := .bool false) rfl) ?_
              refine WL.done ?_
              cases hX246
              refine thenE_n ?_
              exact ⟨A97, c98, n99, p101, g103, p104, rfl, C260, hn100, hR102, hM105⟩
          · skip
            refine WL.on rfl (congrArg Value.bool (decide_eq_false hc247)) ?_
            refine WL.val (Yl.move (v := .pointer (some ⟨g12, o13, none⟩)) ho95) ?_
            refine WL.on rfl (congrArg Value.bool (decide_eq_false hc247)) ?_
            refine WL.val (Yl.build (places := [(0, 1), (1, 1)]) (cs := List.toArray [.int .i64 (-1), .int .i64 0]) Try.underlying29 zr29 (pl29 _ Try.underlying29) (partsB (.cons rfl (.cons rfl .nil))) rfl) ?_
            refine WL.on rfl (congrArg Value.bool (decide_eq_false hc247)) ?_
            obtain ⟨⟨r267, r268⟩, hg266, hX246⟩ := bindE hX246
            refine WL.call (args := #[.pointer (some ⟨g12, o13, none⟩), .agg (List.toArray [.int .i64 (-1), .int .i64 0])]) (Yenter.fn Try.func10 (by kernel_rfl) rfl (argsE (.cons rfl (.cons rfl .nil)))) (agenda_Agenda_Put.calls k _ F g12 o13 A97 c98 n99 p101 g103 p104 x96 (⟨(-1), 0⟩ : TEntry) (Ctx.pre (qs := [CH.row g12 o13 [.slice A97 n99 c98, .map (some g103)], p101, p104]) (rest := []) C106) hn100 hR102 hM105 r267 r268 hg266) ?_
            rintro e_ w_ ⟨A269, c270, n271, p273, g275, p276, rfl, C278, hn272, hR274, hM277⟩
            refine ⟨_, rfl, ?_⟩
            have C279 : Ctx _ _ _ _ F [CH.row g12 o13 [.slice A269 n271 c270, .map (some g275)], p273, p276] := Ctx.call (qs := [CH.row g12 o13 [.slice A97 n99 c98, .map (some g103)], p101, p104]) (rest := []) C106 C278
            refine WL.on rfl (congrArg Value.bool (decide_eq_false hc247)) ?_
            refine WL.val (Yl.eql (m := r267) (n := 0) (q := decide (r267 = 0)) rfl rfl rfl) ?_
            refine WL.val (Yl.pickF (v := .bool (decide (r267 = 0))) (congrArg Value.bool (decide_eq_false hc247)) rfl) ?_
            refine WL.val (Yl.move (v := .bool (decide (r267 = 0))) rfl) ?_
            rcases iteE hX246 with ⟨hc280, hX246⟩ | ⟨hc280, hX246⟩
            · skip
              refine WL.on rfl (congrArg Value.bool (decide_eq_true hc280)) ?_
              refine WL.val (Yl.move (v := .pointer (some ⟨g12, o13, none⟩)) ho95) ?_
              refine WL.on rfl (congrArg Value.bool (decide_eq_true hc280)) ?_
              have le281 : CH.le F (CH.join F (CH.row g12 o13 [.slice A269 n271 c270, .map (some g275)])) := CH.le_joinL _ _
              have lp282 : CH.le (CH.row g12 o13 [.slice A269 n271 c270, .map (some g275)]) (CH.join F (CH.row g12 o13 [.slice A269 n271 c270, .map (some g275)])) := CH.le_joinR (Ctx.dis_of [] [p273, p276] C279)
              have C283 : Ctx _ _ _ _ (CH.join F (CH.row g12 o13 [.slice A269 n271 c270, .map (some g275)])) [p273, p276] := Ctx.freeze [] [p273, p276] C279
              have le284 : CH.le (CH.join F (CH.row g12 o13 [.slice A269 n271 c270, .map (some g275)])) (CH.join (CH.join F (CH.row g12 o13 [.slice A269 n271 c270, .map (some g275)])) p273) := CH.le_joinL _ _
              have lp285 : CH.le p273 (CH.join (CH.join F (CH.row g12 o13 [.slice A269 n271 c270, .map (some g275)])) p273) := CH.le_joinR (Ctx.dis_of [] [p276] C283)
              have C286 : Ctx _ _ _ _ (CH.join (CH.join F (CH.row g12 o13 [.slice A269 n271 c270, .map (some g275)])) p273) [p276] := Ctx.freeze [] [p276] C283
              have le287 : CH.le (CH.join (CH.join F (CH.row g12 o13 [.slice A269 n271 c270, .map (some g275)])) p273) (CH.join (CH.join (CH.join F (CH.row g12 o13 [.slice A269 n271 c270, .map (some g275)])) p273) p276) := CH.le_joinL _ _
              have lp288 : CH.le p276 (CH.join (CH.join (CH.join F (CH.row g12 o13 [.slice A269 n271 c270, .map (some g275)])) p273) p276) := CH.le_joinR (Ctx.dis_of [] [] C286)
              have C289 : Ctx _ _ _ _ (CH.join (CH.join (CH.join F (CH.row g12 o13 [.slice A269 n271 c270, .map (some g275)])) p273) p276) [] := Ctx.freeze [] [] C286
              obtain ⟨r291, hg290, hX246⟩ := bindE hX246
              refine WL.call (args := #[.pointer (some ⟨g12, o13, none⟩)]) (Yenter.fn Try.func12 (by kernel_rfl) rfl (argsE (.cons rfl .nil))) (agenda_Agenda_Len.calls k _ (CH.join (CH.join (CH.join F (CH.row g12 o13 [.slice A269 n271 c270, .map (some g275)])) p273) p276) g12 o13 A269 c270 n271 g275 p276 r268 C289.pre0 hn272 (Row.len_le hR274).1 (Row.len_le hR274).2.1 (Sl.mono (Row.sl hR274) (CH.le_trans (CH.le_trans le281 le284) le287) (CH.le_trans lp285 le287)) hM277 lp288 (CH.le_trans (CH.le_trans lp282 le284) le287) r291 hg290) ?_
              rintro e_ w_ ⟨rfl, ⟨m292, rfl⟩⟩
              refine ⟨_, rfl, ?_⟩
              have C293 := Ctx.drewN C279 m292
              refine WL.on rfl (congrArg Value.bool (decide_eq_true hc280)) ?_
              refine WL.val (Yl.move (v := .int .i64 a0) ho94) ?_
              refine WL.on rfl (congrArg Value.bool (decide_eq_true hc280)) ?_
              refine WL.val (Yl.min2 (m := a0) (n := 4096) (r := (if 4096 < a0 then 4096 else a0)) rfl rfl rfl) ?_
              refine WL.on rfl (congrArg Value.bool (decide_eq_true hc280)) ?_
              refine WL.val (Yl.eql (m := r291) (n := (if 4096 < a0 then 4096 else a0)) (q := decide (r291 = (if 4096 < a0 then 4096 else a0))) rfl rfl rfl) ?_
              refine WL.val (Yl.pickT (v := .bool (decide (r291 = (if 4096 < a0 then 4096 else a0)))) (congrArg Value.bool (decide_eq_true hc280)) rfl) ?_
              refine WL.val (Yl.move (v := .bool (decide (r291 = (if 4096 < a0 then 4096 else a0)))) rfl) ?_
              rcases iteE hX246 with ⟨hc294, hX246⟩ | ⟨hc294, hX246⟩
              · skip
                refine WL.on rfl (congrArg Value.bool (decide_eq_true hc294)) ?_
                obtain ⟨r296, hg295, hX246⟩ := bindE hX246
                refine WL.call (args := #[]) (Yenter.fn Try.func8 (by kernel_rfl) rfl (argsE .nil)) (juratlaw13_awake.calls k _ F  (Ctx.pre (qs := []) (rest := [CH.row g12 o13 [.slice A269 n271 c270, .map (some g275)], p273, p276]) C293)  r296 hg295) ?_
                rintro e_ w_ ⟨rfl, C297⟩
                refine ⟨_, rfl, ?_⟩
                have C298 : Ctx _ _ _ _ F [CH.row g12 o13 [.slice A269 n271 c270, .map (some g275)], p273, p276] := Ctx.call (qs := []) (rest := [CH.row g12 o13 [.slice A269 n271 c270, .map (some g275)], p273, p276]) C293 C297
                refine WL.val (Yl.pickT (v := .bool r296) (congrArg Value.bool (decide_eq_true hc294)) rfl) ?_
                refine WL.val (Yl.assign (v := .bool r296) rfl) ?_
                refine WL.done ?_
                cases hX246
                refine thenE_n ?_
                exact ⟨A269, c270, n271, p273, g275, p276, rfl, C298, hn272, hR274, hM277⟩
              · skip
                refine WL.off rfl (congrArg Value.bool (decide_eq_false hc294)) ?_
                refine WL.val (Yl.pickF (v := .bool false) (congrArg Value.bool (decide_eq_false hc294)) rfl) ?_
                refine WL.val (Yl.assign (v := .bool false) rfl) ?_
                refine WL.done ?_
                cases hX246
                refine thenE_n ?_
                exact ⟨A269, c270, n271, p273, g275, p276, rfl, C293, hn272, hR274, hM277⟩
            · skip
              refine WL.off rfl (congrArg Value.bool (decide_eq_false hc280)) ?_
              refine WL.off rfl (congrArg Value.bool (decide_eq_false hc280)) ?_
              refine WL.off rfl (congrArg Value.bool (decide_eq_false hc280)) ?_
              refine WL.off rfl (congrArg Value.bool (decide_eq_false hc280)) ?_
              refine WL.off rfl (congrArg Value.bool (decide_eq_false hc280)) ?_
              refine WL.val (Yl.pickF (v := .bool false) (congrArg Value.bool (decide_eq_false hc280)) rfl) ?_
              refine WL.val (Yl.move (v := .bool false) rfl) ?_
              refine WL.off rfl rfl ?_
              refine WL.val (Yl.pickF (v := .bool false) rfl rfl) ?_
              refine WL.val (Yl.assign (v := .bool false) rfl) ?_
              refine WL.done ?_
              cases hX246
              refine thenE_n ?_
              exact ⟨A269, c270, n271, p273, g275, p276, rfl, C279, hn272, hR274, hM277⟩
        · skip
          rintro env_ w_ ⟨A236, c237, n238, p240, g242, p243, ho233, C245, hn239, hR241, hM244⟩
          refine W.ret ?_
          have C299 : Ctx _ _ _ _ F [p240, p243] := Ctx.drop [] [p240, p243] C245
          have C300 : Ctx _ _ _ _ F [p243] := Ctx.drop [] [p243] C299
          have C301 : Ctx _ _ _ _ F [] := Ctx.drop [] [] C300
          cases H
          exact post_r (resE1 rfl ho233) ⟨rfl, C301⟩
end Go.Proofs.Ytnoocbdpkddpbaa
