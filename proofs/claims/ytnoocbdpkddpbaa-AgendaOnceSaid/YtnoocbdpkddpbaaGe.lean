/- Functions of the program: each as a plain function of numbers and lists, and the proof that the program's own comes to it. Nothing is assumed but what each theorem says. -/
import Derived.Test.YtnoocbdpkddpbaaGd
namespace Go.Proofs.Ytnoocbdpkddpbaa
open Go.RowKit Go.WG
set_option linter.unusedVariables false
set_option linter.unusedSimpArgs false

/-! ### jurat/juratlaw13.awake: function 8 -/
def juratlaw13_awake.f (k : Nat)  : Option Bool := (agenda_New.f k ).bind fun r2 => ((agenda_Agenda_Put.f k r2 (⟨5, 1⟩ : TEntry)).bind fun ⟨r118, r119⟩ => if r118 = 0 then ((agenda_Agenda_Put.f k r119 (⟨3, 2⟩ : TEntry)).bind fun ⟨r133, r134⟩ => if r133 = 0 then ((agenda_Agenda_Put.f k r134 (⟨4, 1⟩ : TEntry)).bind fun ⟨r148, r149⟩ => some (!decide (r148 = 0), r149)) else (some (true, r134))) else (some (true, r119))).bind fun ⟨x90, x91⟩ => if x90 = true then (some false) else (((agenda_Agenda_Due.f k x91 4).bind fun ⟨r350, r351⟩ => (juratref13_Same.f k r350 [(⟨3, 2⟩ : TEntry), (⟨4, 1⟩ : TEntry)]).bind fun r385 => if r385 = true then ((agenda_Agenda_Len.f k r351).bind fun r399 => some (decide (r399 = 0), r351)) else (some (false, r351))).bind fun ⟨x297, x298⟩ => some x297)
set_option maxRecDepth 100000 in
set_option maxHeartbeats 4000000 in
theorem juratlaw13_awake.calls (k : Nat) (w : World) (F : CH)  (hp : Pre w F [])  (r0_ : Bool) (H : juratlaw13_awake.f k  = some r0_) :
    Calls Try.prog 8 #[] w fun e w' => e = .returned (.bool r0_) ∧ Ctx w F (domL []) w' F [] := by
  have C := Ctx.start hp
  generalize hD : domL [] = D at C ⊢
  unfold juratlaw13_awake.f at H
  refine Calls.ofW Try.func8 rfl (by simp [Try.ntmps8]) ?_
  refine W.seq ?_
  refine W.region rfl ?_
  refine WL.val (Yl.assign (v := .bool false) rfl) ?_
  refine WL.done ?_
  refine W.seq ?_
  refine W.region rfl ?_
  obtain ⟨r2, hg1, H⟩ := bindE H
  refine WL.call (args := #[]) (Yenter.fn Try.func9 (by kernel_rfl) rfl (argsE .nil)) (agenda_New.calls k _ F  (Ctx.pre (qs := []) (rest := []) C)  r2 hg1) ?_
  rintro e_ w_ ⟨g3, o4, A5, c6, n7, p9, g11, p12, rfl, C14, hn8, hR10, hM13⟩
  refine ⟨_, rfl, ?_⟩
  have C15 : Ctx _ _ _ _ F [CH.row g3 o4 [.slice A5 n7 c6, .map (some g11)], p9, p12] := Ctx.call (qs := []) (rest := []) C C14
  refine WL.val (Yl.assign (v := .pointer (some ⟨g3, o4, none⟩)) rfl) ?_
  refine WL.done ?_
  refine W.seq ?_
  refine W.seq ?_
  obtain ⟨⟨x90, x91⟩, hX102, H⟩ := bindE H
  refine W.cutM (fun env_ w_ => ∃ (A92 : Option Addr) (c93 : Nat) (n94 : Nat) (p96 : CH) (g98 : Nat) (p99 : CH), env_ 1 = .pointer (some ⟨g3, o4, none⟩) ∧ env_ 18 = .bool x90 ∧ Ctx w F D w_ F [CH.row g3 o4 [.slice A92 n94 c93, .map (some g98)], p96, p99] ∧ n94 = x91.q.l.length ∧ Row TEntry.K F p96 (.slice A92 n94 c93) x91.q.l ∧ MRow (Value.int .i64) (Value.int .i64) p99 g98 x91.q.place) ?_ ?_
  · skip
    refine W.region rfl ?_
    refine WL.val (Yl.move (v := .pointer (some ⟨g3, o4, none⟩)) rfl) ?_
    refine WL.val (Yl.build (places := [(0, 1), (1, 1)]) (cs := List.toArray [.int .i64 5, .int .i64 1]) Try.underlying29 zr29 (pl29 _ Try.underlying29) (partsB (.cons rfl (.cons rfl .nil))) rfl) ?_
    obtain ⟨⟨r118, r119⟩, hg117, hX102⟩ := bindE hX102
    refine WL.call (args := #[.pointer (some ⟨g3, o4, none⟩), .agg (List.toArray [.int .i64 5, .int .i64 1])]) (Yenter.fn Try.func10 (by kernel_rfl) rfl (argsE (.cons rfl (.cons rfl .nil)))) (agenda_Agenda_Put.calls k _ F g3 o4 A5 c6 n7 p9 g11 p12 r2 (⟨5, 1⟩ : TEntry) (Ctx.pre (qs := [CH.row g3 o4 [.slice A5 n7 c6, .map (some g11)], p9, p12]) (rest := []) C15) hn8 hR10 hM13 r118 r119 hg117) ?_
    rintro e_ w_ ⟨A120, c121, n122, p124, g126, p127, rfl, C129, hn123, hR125, hM128⟩
    refine ⟨_, rfl, ?_⟩
    have C130 : Ctx _ _ _ _ F [CH.row g3 o4 [.slice A120 n122 c121, .map (some g126)], p124, p127] := Ctx.call (qs := [CH.row g3 o4 [.slice A5 n7 c6, .map (some g11)], p9, p12]) (rest := []) C15 C129
    refine WL.val (Yl.neq (m := r118) (n := 0) (q := !decide (r118 = 0)) rfl rfl rfl) ?_
    refine WL.val (Yl.move (v := .bool (!decide (r118 = 0))) rfl) ?_
    rcases iteE hX102 with ⟨hc131, hX102⟩ | ⟨hc131, hX102⟩
    · skip
      refine WL.on rfl (congrArg Value.bool (ndec_t hc131)) ?_
      refine WL.val (Yl.move (v := .pointer (some ⟨g3, o4, none⟩)) rfl) ?_
      refine WL.on rfl (congrArg Value.bool (ndec_t hc131)) ?_
      refine WL.val (Yl.build (places := [(0, 1), (1, 1)]) (cs := List.toArray [.int .i64 3, .int .i64 2]) Try.underlying29 zr29 (pl29 _ Try.underlying29) (partsB (.cons rfl (.cons rfl .nil))) rfl) ?_
      refine WL.on rfl (congrArg Value.bool (ndec_t hc131)) ?_
      obtain ⟨⟨r133, r134⟩, hg132, hX102⟩ := bindE hX102
      refine WL.call (args := #[.pointer (some ⟨g3, o4, none⟩), .agg (List.toArray [.int .i64 3, .int .i64 2])]) (Yenter.fn Try.func10 (by kernel_rfl) rfl (argsE (.cons rfl (.cons rfl .nil)))) (agenda_Agenda_Put.calls k _ F g3 o4 A120 c121 n122 p124 g126 p127 r119 (⟨3, 2⟩ : TEntry) (Ctx.pre (qs := [CH.row g3 o4 [.slice A120 n122 c121, .map (some g126)], p124, p127]) (rest := []) C130) hn123 hR125 hM128 r133 r134 hg132) ?_
      rintro e_ w_ ⟨A135, c136, n137, p139, g141, p142, rfl, C144, hn138, hR140, hM143⟩
      refine ⟨_, rfl, ?_⟩
      have C145 : Ctx _ _ _ _ F [CH.row g3 o4 [.slice A135 n137 c136, .map (some g141)], p139, p142] := Ctx.call (qs := [CH.row g3 o4 [.slice A120 n122 c121, .map (some g126)], p124, p127]) (rest := []) C130 C144
      refine WL.on rfl (congrArg Value.bool (ndec_t hc131)) ?_
      refine WL.val (Yl.neq (m := r133) (n := 0) (q := !decide (r133 = 0)) rfl rfl rfl) ?_
      refine WL.val (Yl.pickF (v := .bool (!decide (r133 = 0))) (congrArg Value.bool (ndec_t hc131)) rfl) ?_
      refine WL.val (Yl.move (v := .bool (!decide (r133 = 0))) rfl) ?_
      rcases iteE hX102 with ⟨hc146, hX102⟩ | ⟨hc146, hX102⟩
      · skip
        refine WL.on rfl (congrArg Value.bool (ndec_t hc146)) ?_
        refine WL.val (Yl.move (v := .pointer (some ⟨g3, o4, none⟩)) rfl) ?_
        refine WL.on rfl (congrArg Value.bool (ndec_t hc146)) ?_
        refine WL.val (Yl.build (places := [(0, 1), (1, 1)]) (cs := List.toArray [.int .i64 4, .int .i64 1]) Try.underlying29 zr29 (pl29 _ Try.underlying29) (partsB (.cons rfl (.cons rfl .nil))) rfl) ?_
        refine WL.on rfl (congrArg Value.bool (ndec_t hc146)) ?_
        obtain ⟨⟨r148, r149⟩, hg147, hX102⟩ := bindE hX102
        refine WL.call (args := #[.pointer (some ⟨g3, o4, none⟩), .agg (List.toArray [.int .i64 4, .int .i64 1])]) (Yenter.fn Try.func10 (by kernel_rfl) rfl (argsE (.cons rfl (.cons rfl .nil)))) (agenda_Agenda_Put.calls k _ F g3 o4 A135 c136 n137 p139 g141 p142 r134 (⟨4, 1⟩ : TEntry) (Ctx.pre (qs := [CH.row g3 o4 [.slice A135 n137 c136, .map (some g141)], p139, p142]) (rest := []) C145) hn138 hR140 hM143 r148 r149 hg147) ?_
        rintro e_ w_ ⟨A150, c151, n152, p154, g156, p157, rfl, C159, hn153, hR155, hM158⟩
        refine ⟨_, rfl, ?_⟩
        have C160 : Ctx _ _ _ _ F [CH.row g3 o4 [.slice A150 n152 c151, .map (some g156)], p154, p157] := Ctx.call (qs := [CH.row g3 o4 [.slice A135 n137 c136, .map (some g141)], p139, p142]) (rest := []) C145 C159
        refine WL.on rfl (congrArg Value.bool (ndec_t hc146)) ?_
        refine WL.val (Yl.neq (m := r148) (n := 0) (q := !decide (r148 = 0)) rfl rfl rfl) ?_
        refine WL.val (Yl.pickF (v := .bool (!decide (r148 = 0))) (congrArg Value.bool (ndec_t hc146)) rfl) ?_
        refine WL.done ?_
        cases hX102
        refine thenE_n ?_
        exact ⟨A150, c151, n152, p154, g156, p157, rfl, rfl, C160, hn153, hR155, hM158⟩
      · skip
        refine WL.off rfl (congrArg Value.bool (ndec_f hc146)) ?_
        refine WL.off rfl (congrArg Value.bool (ndec_f hc146)) ?_
        refine WL.off rfl (congrArg Value.bool (ndec_f hc146)) ?_
        refine WL.off rfl (congrArg Value.bool (ndec_f hc146)) ?_
        refine WL.val (Yl.pickT (v := .bool true) (congrArg Value.bool (ndec_f hc146)) rfl) ?_
        refine WL.done ?_
        cases hX102
        refine thenE_n ?_
        exact ⟨A135, c136, n137, p139, g141, p142, rfl, rfl, C145, hn138, hR140, hM143⟩
    · skip
      refine WL.off rfl (congrArg Value.bool (ndec_f hc131)) ?_
      refine WL.off rfl (congrArg Value.bool (ndec_f hc131)) ?_
      refine WL.off rfl (congrArg Value.bool (ndec_f hc131)) ?_
      refine WL.off rfl (congrArg Value.bool (ndec_f hc131)) ?_
      refine WL.val (Yl.pickT (v := .bool true) (congrArg Value.bool (ndec_f hc131)) rfl) ?_
      refine WL.val (Yl.move (v := .bool true) rfl) ?_
      refine WL.off rfl rfl ?_
      refine WL.off rfl rfl ?_
      refine WL.off rfl rfl ?_
      refine WL.off rfl rfl ?_
      refine WL.val (Yl.pickT (v := .bool true) rfl rfl) ?_
      refine WL.done ?_
      cases hX102
      refine thenE_n ?_
      exact ⟨A120, c121, n122, p124, g126, p127, rfl, rfl, C130, hn123, hR125, hM128⟩
  · skip
    rintro env_ w_ ⟨A92, c93, n94, p96, g98, p99, ho88, ho89, C101, hn95, hR97, hM100⟩
    rcases iteE H with ⟨hc161, H⟩ | ⟨hc161, H⟩
    · skip
      refine W.condT (ho89.trans (congrArg Value.bool hc161)) ?_
      refine W.seq ?_
      refine W.region rfl ?_
      refine WL.val (Yl.assign (v := .bool false) rfl) ?_
      refine WL.done ?_
      refine W.ret ?_
      refine thenE_r ?_
      have C162 : Ctx _ _ _ _ F [p96, p99] := Ctx.drop [] [p96, p99] C101
      have C163 : Ctx _ _ _ _ F [p99] := Ctx.drop [] [p99] C162
      have C164 : Ctx _ _ _ _ F [] := Ctx.drop [] [] C163
      cases H
      exact post_r (resE1 rfl rfl) ⟨rfl, C164⟩
    · skip
      refine W.condF (ho89.trans (congrArg Value.bool (Bool.eq_false_iff.2 hc161))) ?_
      refine W.skip ?_
      refine W.seq ?_
      obtain ⟨⟨x297, x298⟩, hX309, H⟩ := bindE H
      refine W.cutM (fun env_ w_ => ∃ (A299 : Option Addr) (c300 : Nat) (n301 : Nat) (p303 : CH) (g305 : Nat) (p306 : CH), env_ 0 = .bool x297 ∧ Ctx w F D w_ F [CH.row g3 o4 [.slice A299 n301 c300, .map (some g305)], p303, p306] ∧ n301 = x298.q.l.length ∧ Row TEntry.K F p303 (.slice A299 n301 c300) x298.q.l ∧ MRow (Value.int .i64) (Value.int .i64) p306 g305 x298.q.place) ?_ ?_
      · skip
        refine W.region rfl ?_
        refine WL.val (Yl.move (v := .pointer (some ⟨g3, o4, none⟩)) ho88) ?_
        obtain ⟨⟨r350, r351⟩, hg349, hX309⟩ := bindE hX309
        refine WL.call (args := #[.pointer (some ⟨g3, o4, none⟩), .int .i64 4]) (Yenter.fn Try.func11 (by kernel_rfl) rfl (argsE (.cons rfl (.cons rfl .nil)))) (agenda_Agenda_Due.calls k _ F g3 o4 A92 c93 n94 p96 g98 p99 x91 4 (Ctx.pre (qs := [CH.row g3 o4 [.slice A92 n94 c93, .map (some g98)], p96, p99]) (rest := []) C101) hn95 hR97 hM100 r350 r351 hg349) ?_
        rintro e_ w_ ⟨A352, c353, n354, p356, A358, c359, n360, p362, g364, p365, rfl, C367, hn355, hR357, hn361, hR363, hM366⟩
        refine ⟨_, rfl, ?_⟩
        have C368 : Ctx _ _ _ _ F [CH.row g3 o4 [.slice A358 n360 c359, .map (some g364)], p362, p365, p356] := Ctx.call (qs := [CH.row g3 o4 [.slice A92 n94 c93, .map (some g98)], p96, p99]) (rest := []) C101 C367
        refine WL.val (Yl.build (places := [(0, 1), (1, 1)]) (cs := List.toArray [.int .i64 3, .int .i64 2]) Try.underlying29 zr29 (pl29 _ Try.underlying29) (partsB (.cons rfl (.cons rfl .nil))) rfl) ?_
        refine WL.val (Yl.build (places := [(0, 1), (1, 1)]) (cs := List.toArray [.int .i64 4, .int .i64 1]) Try.underlying29 zr29 (pl29 _ Try.underlying29) (partsB (.cons rfl (.cons rfl .nil))) rfl) ?_
        obtain ⟨A369, c370, n371, p372, w373, hn374, hy375, C376, hR377⟩ := ev_lit' (P := Try.prog) 29 TEntry.K C368 Try.underlying22 ti29 (by decide) [(⟨3, 2⟩ : TEntry), (⟨4, 1⟩ : TEntry)] [.agg (List.toArray [.int .i64 3, .int .i64 2]), .agg (List.toArray [.int .i64 4, .int .i64 1])] (.cons (TEntry.mk' _ (⟨3, 2⟩ : TEntry)  ) (.cons (TEntry.mk' _ (⟨4, 1⟩ : TEntry)  ) .nil)) 2 rfl (by decide) (by decide)
        refine WL.val (hy375 _ [(.tmp 21), (.tmp 22)] _ (.cons rfl (.cons rfl .nil))) ?_
        have le378 : CH.le F (CH.join F p356) := CH.le_joinL _ _
        have lp379 : CH.le p356 (CH.join F p356) := CH.le_joinR (Ctx.dis_of [p372, CH.row g3 o4 [.slice A358 n360 c359, .map (some g364)], p362, p365] [] C376)
        have C380 : Ctx _ _ _ _ (CH.join F p356) [p372, CH.row g3 o4 [.slice A358 n360 c359, .map (some g364)], p362, p365] := Ctx.freeze [p372, CH.row g3 o4 [.slice A358 n360 c359, .map (some g364)], p362, p365] [] C376
        have le381 : CH.le (CH.join F p356) (CH.join (CH.join F p356) p372) := CH.le_joinL _ _
        have lp382 : CH.le p372 (CH.join (CH.join F p356) p372) := CH.le_joinR (Ctx.dis_of [] [CH.row g3 o4 [.slice A358 n360 c359, .map (some g364)], p362, p365] C380)
        have C383 : Ctx _ _ _ _ (CH.join (CH.join F p356) p372) [CH.row g3 o4 [.slice A358 n360 c359, .map (some g364)], p362, p365] := Ctx.freeze [] [CH.row g3 o4 [.slice A358 n360 c359, .map (some g364)], p362, p365] C380
        obtain ⟨r385, hg384, hX309⟩ := bindE hX309
        refine WL.call (args := #[.slice A352 n354 c353, .slice A369 n371 c370]) (Yenter.fn Try.func13 (by kernel_rfl) rfl (argsE (.cons rfl (.cons rfl .nil)))) (juratref13_Same.calls k _ (CH.join (CH.join F p356) p372) A352 c353 n354 r350 A369 c370 n371 [(⟨3, 2⟩ : TEntry), (⟨4, 1⟩ : TEntry)] C383.pre0 hn355 (Row.len_le hR357).1 (Row.len_le hR357).2.1 (Sl.mono (Row.sl hR357) (CH.le_trans le378 le381) (CH.le_trans lp379 le381)) hn374 (Row.len_le hR377).1 (Row.len_le hR377).2.1 (Sl.mono (Row.sl hR377) (CH.le_trans le378 le381) lp382) r385 hg384) ?_
        rintro e_ w_ ⟨rfl, ⟨m386, rfl⟩⟩
        refine ⟨_, rfl, ?_⟩
        have C387 := Ctx.drewN C376 m386
        refine WL.val (Yl.move (v := .bool r385) rfl) ?_
        rcases iteE hX309 with ⟨hc388, hX309⟩ | ⟨hc388, hX309⟩
        · skip
          refine WL.on rfl (congrArg Value.bool hc388) ?_
          refine WL.val (Yl.move (v := .pointer (some ⟨g3, o4, none⟩)) ho88) ?_
          refine WL.on rfl (congrArg Value.bool hc388) ?_
          have le389 : CH.le F (CH.join F (CH.row g3 o4 [.slice A358 n360 c359, .map (some g364)])) := CH.le_joinL _ _
          have lp390 : CH.le (CH.row g3 o4 [.slice A358 n360 c359, .map (some g364)]) (CH.join F (CH.row g3 o4 [.slice A358 n360 c359, .map (some g364)])) := CH.le_joinR (Ctx.dis_of [p372] [p362, p365, p356] C387)
          have C391 : Ctx _ _ _ _ (CH.join F (CH.row g3 o4 [.slice A358 n360 c359, .map (some g364)])) [p372, p362, p365, p356] := Ctx.freeze [p372] [p362, p365, p356] C387
          have le392 : CH.le (CH.join F (CH.row g3 o4 [.slice A358 n360 c359, .map (some g364)])) (CH.join (CH.join F (CH.row g3 o4 [.slice A358 n360 c359, .map (some g364)])) p362) := CH.le_joinL _ _
          have lp393 : CH.le p362 (CH.join (CH.join F (CH.row g3 o4 [.slice A358 n360 c359, .map (some g364)])) p362) := CH.le_joinR (Ctx.dis_of [p372] [p365, p356] C391)
          have C394 : Ctx _ _ _ _ (CH.join (CH.join F (CH.row g3 o4 [.slice A358 n360 c359, .map (some g364)])) p362) [p372, p365, p356] := Ctx.freeze [p372] [p365, p356] C391
          have le395 : CH.le (CH.join (CH.join F (CH.row g3 o4 [.slice A358 n360 c359, .map (some g364)])) p362) (CH.join (CH.join (CH.join F (CH.row g3 o4 [.slice A358 n360 c359, .map (some g364)])) p362) p365) := CH.le_joinL _ _
          have lp396 : CH.le p365 (CH.join (CH.join (CH.join F (CH.row g3 o4 [.slice A358 n360 c359, .map (some g364)])) p362) p365) := CH.le_joinR (Ctx.dis_of [p372] [p356] C394)
          have C397 : Ctx _ _ _ _ (CH.join (CH.join (CH.join F (CH.row g3 o4 [.slice A358 n360 c359, .map (some g364)])) p362) p365) [p372, p356] := Ctx.freeze [p372] [p356] C394
          obtain ⟨r399, hg398, hX309⟩ := bindE hX309
          refine WL.call (args := #[.pointer (some ⟨g3, o4, none⟩)]) (Yenter.fn Try.func12 (by kernel_rfl) rfl (argsE (.cons rfl .nil))) (agenda_Agenda_Len.calls k _ (CH.join (CH.join (CH.join F (CH.row g3 o4 [.slice A358 n360 c359, .map (some g364)])) p362) p365) g3 o4 A358 c359 n360 g364 p365 r351 C397.pre0 hn361 (Row.len_le hR363).1 (Row.len_le hR363).2.1 (Sl.mono (Row.sl hR363) (CH.le_trans (CH.le_trans le389 le392) le395) (CH.le_trans lp393 le395)) hM366 lp396 (CH.le_trans (CH.le_trans lp390 le392) le395) r399 hg398) ?_
          rintro e_ w_ ⟨rfl, ⟨m400, rfl⟩⟩
          refine ⟨_, rfl, ?_⟩
          have C401 := Ctx.drewN C387 m400
          refine WL.on rfl (congrArg Value.bool hc388) ?_
          refine WL.val (Yl.eql (m := r399) (n := 0) (q := decide (r399 = 0)) rfl rfl rfl) ?_
          refine WL.val (Yl.pickT (v := .bool (decide (r399 = 0))) (congrArg Value.bool hc388) rfl) ?_
          refine WL.val (Yl.assign (v := .bool (decide (r399 = 0))) rfl) ?_
          refine WL.done ?_
          have C402 : Ctx _ _ _ _ F [CH.row g3 o4 [.slice A358 n360 c359, .map (some g364)], p362, p365, p356] := Ctx.drop [] [CH.row g3 o4 [.slice A358 n360 c359, .map (some g364)], p362, p365, p356] C401
          have C403 : Ctx _ _ _ _ F [CH.row g3 o4 [.slice A358 n360 c359, .map (some g364)], p362, p365] := Ctx.drop [CH.row g3 o4 [.slice A358 n360 c359, .map (some g364)], p362, p365] [] C402
          cases hX309
          refine thenE_n ?_
          exact ⟨A358, c359, n360, p362, g364, p365, rfl, C403, hn361, hR363, hM366⟩
        · skip
          refine WL.off rfl (congrArg Value.bool (Bool.eq_false_iff.2 hc388)) ?_
          refine WL.off rfl (congrArg Value.bool (Bool.eq_false_iff.2 hc388)) ?_
          refine WL.off rfl (congrArg Value.bool (Bool.eq_false_iff.2 hc388)) ?_
          refine WL.val (Yl.pickF (v := .bool false) (congrArg Value.bool (Bool.eq_false_iff.2 hc388)) rfl) ?_
          refine WL.val (Yl.assign (v := .bool false) rfl) ?_
          refine WL.done ?_
          have C404 : Ctx _ _ _ _ F [CH.row g3 o4 [.slice A358 n360 c359, .map (some g364)], p362, p365, p356] := Ctx.drop [] [CH.row g3 o4 [.slice A358 n360 c359, .map (some g364)], p362, p365, p356] C387
          have C405 : Ctx _ _ _ _ F [CH.row g3 o4 [.slice A358 n360 c359, .map (some g364)], p362, p365] := Ctx.drop [CH.row g3 o4 [.slice A358 n360 c359, .map (some g364)], p362, p365] [] C404
          cases hX309
          refine thenE_n ?_
          exact ⟨A358, c359, n360, p362, g364, p365, rfl, C405, hn361, hR363, hM366⟩
      · skip
        rintro env_ w_ ⟨A299, c300, n301, p303, g305, p306, ho296, C308, hn302, hR304, hM307⟩
        refine W.ret ?_
        have C406 : Ctx _ _ _ _ F [p303, p306] := Ctx.drop [] [p303, p306] C308
        have C407 : Ctx _ _ _ _ F [p306] := Ctx.drop [] [p306] C406
        have C408 : Ctx _ _ _ _ F [] := Ctx.drop [] [] C407
        cases H
        exact post_r (resE1 rfl ho296) ⟨rfl, C408⟩
end Go.Proofs.Ytnoocbdpkddpbaa
