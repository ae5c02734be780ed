/- Functions of the program: each as a plain function of numbers and lists, and the proof that the program's own comes to it. Nothing is assumed but what each theorem says. -/
import Derived.Test.YtnoocbdpkddpbaaGe
namespace Go.Proofs.Ytnoocbdpkddpbaa
open Go.RowKit Go.WG
set_option linter.unusedVariables false
set_option linter.unusedSimpArgs false

/-! ### jurat/juratlaw13.AgendaParts: function 4 -/
def juratlaw13_AgendaParts.l1 : Nat → List TEntry → Int → TAgenda → TAgenda → Option (TAgenda × TAgenda)
  | 0, _, _, _, _ => none
  | k + 1, a0, x346, x347, x357 => if x346 < (a0.length : Int) then (if 0 ≤ x346 ∧ x346 < (a0.length : Int) then ((agenda_Agenda_Put.f k x347 (a0.getD x346.toNat TEntry.z)).bind fun ⟨r434, r435⟩ => (agenda_Agenda_Put.f k x357 (a0.getD x346.toNat TEntry.z)).bind fun ⟨r457, r458⟩ => juratlaw13_AgendaParts.l1 k a0 (wi64 (x346 + 1)) r435 r458) else none) else (some (x347, x357))
def juratlaw13_AgendaParts.f (k : Nat) (a0 : List TEntry) (a1 : Int) (a2 : Int) : Option Bool := if ((decide ((a0.length : Int) > 100)) || (decide (a1 > a2))) = true then ((juratlaw13_awake.f k ).bind fun r16 => some r16) else ((agenda_New.f k ).bind fun r20 => (agenda_New.f k ).bind fun r35 => (juratlaw13_AgendaParts.l1 k a0 0 r20 r35).bind fun ⟨x255, x265⟩ => (agenda_Agenda_Due.f k x255 a1).bind fun ⟨r480, r481⟩ => (agenda_Agenda_Due.f k r481 a2).bind fun ⟨r500, r501⟩ => if (r480.length + r500.length) * 16 ≤ 140737488355328 then (((agenda_Agenda_Due.f k x265 a2).bind fun ⟨r772, r773⟩ => (juratref13_Same.f k (r480 ++ r500) r772).bind fun r798 => if r798 = true then ((agenda_Agenda_Len.f k r501).bind fun r812 => (agenda_Agenda_Len.f k r773).bind fun r825 => if r812 = r825 then ((juratlaw13_awake.f k ).bind fun r830 => some (r830, r773)) else (some (false, r773))) else (some (false, r773))).bind fun ⟨x698, x699⟩ => some x698) else none)
set_option maxRecDepth 100000 in
set_option maxHeartbeats 4000000 in
theorem juratlaw13_AgendaParts.calls (k : Nat) (w : World) (F : CH) (A1 : Option Addr) (c2 : Nat) (n3 : Nat) (a0 : List TEntry) (a1 : Int) (a2 : Int) (hp : Pre w F []) (hn4 : n3 = a0.length) (hl5 : a0.length ≤ c2) (hm6 : c2 ≤ maxLen) (hS7 : Sl TEntry.K F F A1 a0) (r0_ : Bool) (H : juratlaw13_AgendaParts.f k a0 a1 a2 = some r0_) :
    Calls Try.prog 4 #[.slice A1 n3 c2, .int .i64 a1, .int .i64 a2] w fun e w' => e = .returned (.bool r0_) ∧ Ctx w F (domL []) w' F [] := by
  have C := Ctx.start hp
  generalize hD : domL [] = D at C ⊢
  unfold juratlaw13_AgendaParts.f at H
  refine Calls.ofW Try.func4 rfl (by simp [Try.ntmps4]) ?_
  refine W.seq ?_
  refine W.region rfl ?_
  refine WL.val (Yl.assign (v := .bool false) rfl) ?_
  refine WL.done ?_
  refine W.seq ?_
  refine W.seq ?_
  refine W.region rfl ?_
  refine WL.val (Yl.move (v := .slice A1 n3 c2) rfl) ?_
  refine WL.val (Yl.lenN (A := A1) (l := n3) (q := c2) (n := (a0.length : Int)) rfl Try.underlying22 (by omega)) ?_
  refine WL.val (Yl.gtr (m := (a0.length : Int)) (n := 100) (q := decide ((a0.length : Int) > 100)) rfl rfl rfl) ?_
  refine WL.val (Yl.move (v := .bool (decide ((a0.length : Int) > 100))) rfl) ?_
  refine WL.cut (fun env_ w_ => env_ 18 = .bool ((decide ((a0.length : Int) > 100)) || (decide (a1 > a2))) ∧ env_ 0 = .slice A1 n3 c2 ∧ env_ 1 = .int .i64 a1 ∧ env_ 2 = .int .i64 a2 ∧ Ctx w F D w_ F []) ?_ ?_
  · skip
    rcases Bool.eq_false_or_eq_true (decide ((a0.length : Int) > 100)) with hb8 | hb8
    · skip
      refine WL.off rfl (congrArg Value.bool hb8) ?_
      refine WL.off rfl (congrArg Value.bool hb8) ?_
      refine WL.off rfl (congrArg Value.bool hb8) ?_
      refine WL.val (Yl.pickT (v := .bool true) (congrArg Value.bool hb8) rfl) ?_
      exact WL.done ⟨(congrArg Value.bool (show true = ((decide ((a0.length : Int) > 100)) || (decide (a1 > a2))) from by simp [hb8])), rfl, rfl, rfl, C⟩
    · skip
      refine WL.on rfl (congrArg Value.bool hb8) ?_
      refine WL.val (Yl.move (v := .int .i64 a1) rfl) ?_
      refine WL.on rfl (congrArg Value.bool hb8) ?_
      refine WL.val (Yl.move (v := .int .i64 a2) rfl) ?_
      refine WL.on rfl (congrArg Value.bool hb8) ?_
      refine WL.val (Yl.gtr (m := a1) (n := a2) (q := decide (a1 > a2)) rfl rfl rfl) ?_
      refine WL.val (Yl.pickF (v := .bool (decide (a1 > a2))) (congrArg Value.bool hb8) rfl) ?_
      exact WL.done ⟨(congrArg Value.bool (show (decide (a1 > a2)) = ((decide ((a0.length : Int) > 100)) || (decide (a1 > a2))) from by simp [hb8])), rfl, rfl, rfl, C⟩
  · skip
    rintro env_ w_ ⟨ho9, ho10, ho11, ho12, C13⟩
    rcases iteE H with ⟨hc14, H⟩ | ⟨hc14, H⟩
    · skip
      refine W.condT (ho9.trans (congrArg Value.bool hc14)) ?_
      refine W.seq ?_
      refine W.region rfl ?_
      obtain ⟨r16, hg15, H⟩ := bindE H
      refine WL.call (args := #[]) (Yenter.fn Try.func8 (by kernel_rfl) rfl (argsE .nil)) (juratlaw13_awake.calls k _ F  (Ctx.pre (qs := []) (rest := []) C13)  r16 hg15) ?_
      rintro e_ w_ ⟨rfl, C17⟩
      refine ⟨_, rfl, ?_⟩
      have C18 : Ctx _ _ _ _ F [] := Ctx.call (qs := []) (rest := []) C13 C17
      refine WL.val (Yl.assign (v := .bool r16) rfl) ?_
      refine WL.done ?_
      refine W.ret ?_
      refine thenE_r ?_
      cases H
      exact post_r (resE1 rfl rfl) ⟨rfl, C18⟩
    · skip
      refine W.condF (ho9.trans (congrArg Value.bool (Bool.eq_false_iff.2 hc14))) ?_
      refine W.skip ?_
      refine W.seq ?_
      refine W.region rfl ?_
      obtain ⟨r20, hg19, H⟩ := bindE H
      refine WL.call (args := #[]) (Yenter.fn Try.func9 (by kernel_rfl) rfl (argsE .nil)) (agenda_New.calls k _ F  (Ctx.pre (qs := []) (rest := []) C13)  r20 hg19) ?_
      rintro e_ w_ ⟨g21, o22, A23, c24, n25, p27, g29, p30, rfl, C32, hn26, hR28, hM31⟩
      refine ⟨_, rfl, ?_⟩
      have C33 : Ctx _ _ _ _ F [CH.row g21 o22 [.slice A23 n25 c24, .map (some g29)], p27, p30] := Ctx.call (qs := []) (rest := []) C13 C32
      obtain ⟨r35, hg34, H⟩ := bindE H
      refine WL.call (args := #[]) (Yenter.fn Try.func9 (by kernel_rfl) rfl (argsE .nil)) (agenda_New.calls k _ F  (Ctx.pre (qs := []) (rest := [CH.row g21 o22 [.slice A23 n25 c24, .map (some g29)], p27, p30]) C33)  r35 hg34) ?_
      rintro e_ w_ ⟨g36, o37, A38, c39, n40, p42, g44, p45, rfl, C47, hn41, hR43, hM46⟩
      refine ⟨_, rfl, ?_⟩
      have C48 : Ctx _ _ _ _ F [CH.row g36 o37 [.slice A38 n40 c39, .map (some g44)], p42, p45, CH.row g21 o22 [.slice A23 n25 c24, .map (some g29)], p27, p30] := Ctx.call (qs := []) (rest := [CH.row g21 o22 [.slice A23 n25 c24, .map (some g29)], p27, p30]) C33 C47
      refine WL.val (Yl.assign (v := .pointer (some ⟨g21, o22, none⟩)) rfl) ?_
      refine WL.val (Yl.assign (v := .pointer (some ⟨g36, o37, none⟩)) rfl) ?_
      refine WL.done ?_
      refine W.seq ?_
      refine W.seq ?_
      refine W.region rfl ?_
      refine WL.val (Yl.assign (v := .int .i64 0) rfl) ?_
      refine WL.done ?_
      obtain ⟨⟨x255, x265⟩, hX276, H⟩ := bindE H
      refine W.cutM (fun env_ w_ => ∃ (A256 : Option Addr) (c257 : Nat) (n258 : Nat) (p260 : CH) (g262 : Nat) (p263 : CH) (A266 : Option Addr) (c267 : Nat) (n268 : Nat) (p270 : CH) (g272 : Nat) (p273 : CH), env_ 1 = .int .i64 a1 ∧ env_ 2 = .int .i64 a2 ∧ env_ 7 = .pointer (some ⟨g21, o22, none⟩) ∧ env_ 8 = .pointer (some ⟨g36, o37, none⟩) ∧ Ctx w F D w_ F [CH.row g21 o22 [.slice A256 n258 c257, .map (some g262)], p260, p263, CH.row g36 o37 [.slice A266 n268 c267, .map (some g272)], p270, p273] ∧ n258 = x255.q.l.length ∧ Row TEntry.K F p260 (.slice A256 n258 c257) x255.q.l ∧ MRow (Value.int .i64) (Value.int .i64) p263 g262 x255.q.place ∧ n268 = x265.q.l.length ∧ Row TEntry.K F p270 (.slice A266 n268 c267) x265.q.l ∧ MRow (Value.int .i64) (Value.int .i64) p273 g272 x265.q.place) ?_ ?_
      · skip
        refine W.block ?_
        have C415 : Ctx _ _ _ _ F [CH.row g36 o37 [.slice A38 n40 c39, .map (some g44)], p42, CH.row g21 o22 [.slice A23 n25 c24, .map (some g29)], p45, p27, p30] := Ctx.swap [CH.row g36 o37 [.slice A38 n40 c39, .map (some g44)], p42] [p27, p30] C48
        have C416 : Ctx _ _ _ _ F [CH.row g36 o37 [.slice A38 n40 c39, .map (some g44)], CH.row g21 o22 [.slice A23 n25 c24, .map (some g29)], p42, p45, p27, p30] := Ctx.swap [CH.row g36 o37 [.slice A38 n40 c39, .map (some g44)]] [p45, p27, p30] C415
        have C417 : Ctx _ _ _ _ F [CH.row g21 o22 [.slice A23 n25 c24, .map (some g29)], CH.row g36 o37 [.slice A38 n40 c39, .map (some g44)], p42, p45, p27, p30] := Ctx.swap [] [p42, p45, p27, p30] C416
        have C418 : Ctx _ _ _ _ F [CH.row g21 o22 [.slice A23 n25 c24, .map (some g29)], CH.row g36 o37 [.slice A38 n40 c39, .map (some g44)], p42, p27, p45, p30] := Ctx.swap [CH.row g21 o22 [.slice A23 n25 c24, .map (some g29)], CH.row g36 o37 [.slice A38 n40 c39, .map (some g44)], p42] [p30] C417
        have C419 : Ctx _ _ _ _ F [CH.row g21 o22 [.slice A23 n25 c24, .map (some g29)], CH.row g36 o37 [.slice A38 n40 c39, .map (some g44)], p27, p42, p45, p30] := Ctx.swap [CH.row g21 o22 [.slice A23 n25 c24, .map (some g29)], CH.row g36 o37 [.slice A38 n40 c39, .map (some g44)]] [p45, p30] C418
        have C420 : Ctx _ _ _ _ F [CH.row g21 o22 [.slice A23 n25 c24, .map (some g29)], p27, CH.row g36 o37 [.slice A38 n40 c39, .map (some g44)], p42, p45, p30] := Ctx.swap [CH.row g21 o22 [.slice A23 n25 c24, .map (some g29)]] [p42, p45, p30] C419
        have C421 : Ctx _ _ _ _ F [CH.row g21 o22 [.slice A23 n25 c24, .map (some g29)], p27, CH.row g36 o37 [.slice A38 n40 c39, .map (some g44)], p42, p30, p45] := Ctx.swap [CH.row g21 o22 [.slice A23 n25 c24, .map (some g29)], p27, CH.row g36 o37 [.slice A38 n40 c39, .map (some g44)], p42] [] C420
        have C422 : Ctx _ _ _ _ F [CH.row g21 o22 [.slice A23 n25 c24, .map (some g29)], p27, CH.row g36 o37 [.slice A38 n40 c39, .map (some g44)], p30, p42, p45] := Ctx.swap [CH.row g21 o22 [.slice A23 n25 c24, .map (some g29)], p27, CH.row g36 o37 [.slice A38 n40 c39, .map (some g44)]] [p45] C421
        have C423 : Ctx _ _ _ _ F [CH.row g21 o22 [.slice A23 n25 c24, .map (some g29)], p27, p30, CH.row g36 o37 [.slice A38 n40 c39, .map (some g44)], p42, p45] := Ctx.swap [CH.row g21 o22 [.slice A23 n25 c24, .map (some g29)], p27] [p42, p45] C422
        refine W.loop (fun g_ env_ w_ => ∃ (x346 : Int) (x347 : TAgenda) (x357 : TAgenda) (A348 : Option Addr) (c349 : Nat) (n350 : Nat) (p352 : CH) (g354 : Nat) (p355 : CH) (A358 : Option Addr) (c359 : Nat) (n360 : Nat) (p362 : CH) (g364 : Nat) (p365 : CH), env_ 0 = .slice A1 n3 c2 ∧ env_ 1 = .int .i64 a1 ∧ env_ 2 = .int .i64 a2 ∧ env_ 7 = .pointer (some ⟨g21, o22, none⟩) ∧ env_ 8 = .pointer (some ⟨g36, o37, none⟩) ∧ env_ 9 = .int .i64 x346 ∧ Ctx w F D w_ F [CH.row g21 o22 [.slice A348 n350 c349, .map (some g354)], p352, p355, CH.row g36 o37 [.slice A358 n360 c359, .map (some g364)], p362, p365] ∧ n350 = x347.q.l.length ∧ Row TEntry.K F p352 (.slice A348 n350 c349) x347.q.l ∧ MRow (Value.int .i64) (Value.int .i64) p355 g354 x347.q.place ∧ n360 = x357.q.l.length ∧ Row TEntry.K F p362 (.slice A358 n360 c359) x357.q.l ∧ MRow (Value.int .i64) (Value.int .i64) p365 g364 x357.q.place ∧ juratlaw13_AgendaParts.l1 g_ a0 x346 x347 x357 = some (x255, x265)) k ⟨0, r20, r35, A23, c24, n25, p27, g29, p30, A38, c39, n40, p42, g44, p45, ho10, ho11, ho12, rfl, rfl, rfl, C423, hn26, hR28, hM31, hn41, hR43, hM46, hX276⟩ ?_
        clear hX276
        rintro g_ env_ w_ ⟨x346, x347, x357, A348, c349, n350, p352, g354, p355, A358, c359, n360, p362, g364, p365, ho340, ho341, ho342, ho343, ho344, ho345, C367, hn351, hR353, hM356, hn361, hR363, hM366, hX276⟩
        rcases g_ with _ | k414
        · exact absurd hX276 (by simp [juratlaw13_AgendaParts.l1])
        rw [juratlaw13_AgendaParts.l1] at hX276
        refine W.seq ?_
        refine W.seq ?_
        refine W.region rfl ?_
        refine WL.val (Yl.move (v := .int .i64 x346) ho345) ?_
        refine WL.val (Yl.move (v := .slice A1 n3 c2) ho340) ?_
        refine WL.val (Yl.lenN (A := A1) (l := n3) (q := c2) (n := (a0.length : Int)) rfl Try.underlying22 (by omega)) ?_
        refine WL.val (Yl.lss (m := x346) (n := (a0.length : Int)) (q := decide (x346 < (a0.length : Int))) rfl rfl rfl) ?_
        refine WL.done ?_
        rcases iteE hX276 with ⟨hc424, hX276⟩ | ⟨hc424, hX276⟩
        · skip
          refine W.condT (congrArg Value.bool (decide_eq_true hc424)) ?_
          refine W.skip ?_
          refine W.seq ?_
          refine W.block ?_
          refine W.seq ?_
          refine W.region rfl ?_
          refine WL.val (Yl.move (v := .pointer (some ⟨g21, o22, none⟩)) ho343) ?_
          refine WL.val (Yl.move (v := .slice A1 n3 c2) ho340) ?_
          refine WL.val (Yl.move (v := .int .i64 x346) ho345) ?_
          obtain ⟨hc425, hX276⟩ := guardE hX276
          obtain ⟨b426, of427, hA428, he429⟩ := hS7 (by omega)
          refine WL.val (Yl.elemAddr (i := x346) rfl rfl hA428 Try.underlying22 sz29 (by omega)) ?_
          obtain ⟨cs430, hr431, hx432⟩ := he429 x346.toNat _ (getD_some (d := TEntry.z) (by omega))
          obtain ⟨rfl⟩ := TEntry.open hr431
          refine WL.val (Yl.loadAgg (cs := [.int .i64 ((a0.getD x346.toNat TEntry.z).At), .int .i64 ((a0.getD x346.toNat TEntry.z).ID)]) rfl Try.underlying29 rfl sz29 (fun j u hu => by rw [add_of]; exact ((C367.fro)).cell (hx432 _ _ hu))) ?_
          obtain ⟨⟨r434, r435⟩, hg433, hX276⟩ := bindE hX276
          refine WL.call (args := #[.pointer (some ⟨g21, o22, none⟩), .agg (List.toArray [.int .i64 ((a0.getD x346.toNat TEntry.z).At), .int .i64 ((a0.getD x346.toNat TEntry.z).ID)])]) (Yenter.fn Try.func10 (by kernel_rfl) rfl (argsE (.cons rfl (.cons rfl .nil)))) (agenda_Agenda_Put.calls k414 _ F g21 o22 A348 c349 n350 p352 g354 p355 x347 (a0.getD x346.toNat TEntry.z) (Ctx.pre (qs := [CH.row g21 o22 [.slice A348 n350 c349, .map (some g354)], p352, p355]) (rest := [CH.row g36 o37 [.slice A358 n360 c359, .map (some g364)], p362, p365]) C367) hn351 hR353 hM356 r434 r435 hg433) ?_
          rintro e_ w_ ⟨A436, c437, n438, p440, g442, p443, rfl, C445, hn439, hR441, hM444⟩
          refine ⟨_, rfl, ?_⟩
          have C446 : Ctx _ _ _ _ F [CH.row g21 o22 [.slice A436 n438 c437, .map (some g442)], p440, p443, CH.row g36 o37 [.slice A358 n360 c359, .map (some g364)], p362, p365] := Ctx.call (qs := [CH.row g21 o22 [.slice A348 n350 c349, .map (some g354)], p352, p355]) (rest := [CH.row g36 o37 [.slice A358 n360 c359, .map (some g364)], p362, p365]) C367 C445
          refine WL.done ?_
          refine W.region rfl ?_
          refine WL.val (Yl.move (v := .pointer (some ⟨g36, o37, none⟩)) ho344) ?_
          refine WL.val (Yl.move (v := .slice A1 n3 c2) ho340) ?_
          refine WL.val (Yl.move (v := .int .i64 x346) ho345) ?_
          refine WL.val (Yl.elemAddr (i := x346) rfl rfl hA428 Try.underlying22 sz29 (by omega)) ?_
          refine WL.val (Yl.loadAgg (cs := [.int .i64 ((a0.getD x346.toNat TEntry.z).At), .int .i64 ((a0.getD x346.toNat TEntry.z).ID)]) rfl Try.underlying29 rfl sz29 (fun j u hu => by rw [add_of]; exact ((C446.fro)).cell (hx432 _ _ hu))) ?_
          have C447 : Ctx _ _ _ _ F [CH.row g21 o22 [.slice A436 n438 c437, .map (some g442)], p440, CH.row g36 o37 [.slice A358 n360 c359, .map (some g364)], p443, p362, p365] := Ctx.swap [CH.row g21 o22 [.slice A436 n438 c437, .map (some g442)], p440] [p362, p365] C446
          have C448 : Ctx _ _ _ _ F [CH.row g21 o22 [.slice A436 n438 c437, .map (some g442)], CH.row g36 o37 [.slice A358 n360 c359, .map (some g364)], p440, p443, p362, p365] := Ctx.swap [CH.row g21 o22 [.slice A436 n438 c437, .map (some g442)]] [p443, p362, p365] C447
          have C449 : Ctx _ _ _ _ F [CH.row g36 o37 [.slice A358 n360 c359, .map (some g364)], CH.row g21 o22 [.slice A436 n438 c437, .map (some g442)], p440, p443, p362, p365] := Ctx.swap [] [p440, p443, p362, p365] C448
          have C450 : Ctx _ _ _ _ F [CH.row g36 o37 [.slice A358 n360 c359, .map (some g364)], CH.row g21 o22 [.slice A436 n438 c437, .map (some g442)], p440, p362, p443, p365] := Ctx.swap [CH.row g36 o37 [.slice A358 n360 c359, .map (some g364)], CH.row g21 o22 [.slice A436 n438 c437, .map (some g442)], p440] [p365] C449
          have C451 : Ctx _ _ _ _ F [CH.row g36 o37 [.slice A358 n360 c359, .map (some g364)], CH.row g21 o22 [.slice A436 n438 c437, .map (some g442)], p362, p440, p443, p365] := Ctx.swap [CH.row g36 o37 [.slice A358 n360 c359, .map (some g364)], CH.row g21 o22 [.slice A436 n438 c437, .map (some g442)]] [p443, p365] C450
          have C452 : Ctx _ _ _ _ F [CH.row g36 o37 [.slice A358 n360 c359, .map (some g364)], p362, CH.row g21 o22 [.slice A436 n438 c437, .map (some g442)], p440, p443, p365] := Ctx.swap [CH.row g36 o37 [.slice A358 n360 c359, .map (some g364)]] [p440, p443, p365] C451
          have C453 : Ctx _ _ _ _ F [CH.row g36 o37 [.slice A358 n360 c359, .map (some g364)], p362, CH.row g21 o22 [.slice A436 n438 c437, .map (some g442)], p440, p365, p443] := Ctx.swap [CH.row g36 o37 [.slice A358 n360 c359, .map (some g364)], p362, CH.row g21 o22 [.slice A436 n438 c437, .map (some g442)], p440] [] C452
          have C454 : Ctx _ _ _ _ F [CH.row g36 o37 [.slice A358 n360 c359, .map (some g364)], p362, CH.row g21 o22 [.slice A436 n438 c437, .map (some g442)], p365, p440, p443] := Ctx.swap [CH.row g36 o37 [.slice A358 n360 c359, .map (some g364)], p362, CH.row g21 o22 [.slice A436 n438 c437, .map (some g442)]] [p443] C453
          have C455 : Ctx _ _ _ _ F [CH.row g36 o37 [.slice A358 n360 c359, .map (some g364)], p362, p365, CH.row g21 o22 [.slice A436 n438 c437, .map (some g442)], p440, p443] := Ctx.swap [CH.row g36 o37 [.slice A358 n360 c359, .map (some g364)], p362] [p440, p443] C454
          obtain ⟨⟨r457, r458⟩, hg456, hX276⟩ := bindE hX276
          refine WL.call (args := #[.pointer (some ⟨g36, o37, none⟩), .agg (List.toArray [.int .i64 ((a0.getD x346.toNat TEntry.z).At), .int .i64 ((a0.getD x346.toNat TEntry.z).ID)])]) (Yenter.fn Try.func10 (by kernel_rfl) rfl (argsE (.cons rfl (.cons rfl .nil)))) (agenda_Agenda_Put.calls k414 _ F g36 o37 A358 c359 n360 p362 g364 p365 x357 (a0.getD x346.toNat TEntry.z) (Ctx.pre (qs := [CH.row g36 o37 [.slice A358 n360 c359, .map (some g364)], p362, p365]) (rest := [CH.row g21 o22 [.slice A436 n438 c437, .map (some g442)], p440, p443]) C455) hn361 hR363 hM366 r457 r458 hg456) ?_
          rintro e_ w_ ⟨A459, c460, n461, p463, g465, p466, rfl, C468, hn462, hR464, hM467⟩
          refine ⟨_, rfl, ?_⟩
          have C469 : Ctx _ _ _ _ F [CH.row g36 o37 [.slice A459 n461 c460, .map (some g465)], p463, p466, CH.row g21 o22 [.slice A436 n438 c437, .map (some g442)], p440, p443] := Ctx.call (qs := [CH.row g36 o37 [.slice A358 n360 c359, .map (some g364)], p362, p365]) (rest := [CH.row g21 o22 [.slice A436 n438 c437, .map (some g442)], p440, p443]) C455 C468
          refine WL.done ?_
          refine inB_n ?_
          refine W.region rfl ?_
          refine WL.val (Yl.move (v := .int .i64 x346) ho345) ?_
          refine WL.val (Yl.add (m := x346) (n := 1) (r := wi64 (x346 + 1)) rfl rfl rfl) ?_
          refine WL.val (Yl.assign (v := .int .i64 (wi64 (x346 + 1))) rfl) ?_
          refine WL.done ?_
          have C470 : Ctx _ _ _ _ F [CH.row g36 o37 [.slice A459 n461 c460, .map (some g465)], p463, CH.row g21 o22 [.slice A436 n438 c437, .map (some g442)], p466, p440, p443] := Ctx.swap [CH.row g36 o37 [.slice A459 n461 c460, .map (some g465)], p463] [p440, p443] C469
          have C471 : Ctx _ _ _ _ F [CH.row g36 o37 [.slice A459 n461 c460, .map (some g465)], CH.row g21 o22 [.slice A436 n438 c437, .map (some g442)], p463, p466, p440, p443] := Ctx.swap [CH.row g36 o37 [.slice A459 n461 c460, .map (some g465)]] [p466, p440, p443] C470
          have C472 : Ctx _ _ _ _ F [CH.row g21 o22 [.slice A436 n438 c437, .map (some g442)], CH.row g36 o37 [.slice A459 n461 c460, .map (some g465)], p463, p466, p440, p443] := Ctx.swap [] [p463, p466, p440, p443] C471
          have C473 : Ctx _ _ _ _ F [CH.row g21 o22 [.slice A436 n438 c437, .map (some g442)], CH.row g36 o37 [.slice A459 n461 c460, .map (some g465)], p463, p440, p466, p443] := Ctx.swap [CH.row g21 o22 [.slice A436 n438 c437, .map (some g442)], CH.row g36 o37 [.slice A459 n461 c460, .map (some g465)], p463] [p443] C472
          have C474 : Ctx _ _ _ _ F [CH.row g21 o22 [.slice A436 n438 c437, .map (some g442)], CH.row g36 o37 [.slice A459 n461 c460, .map (some g465)], p440, p463, p466, p443] := Ctx.swap [CH.row g21 o22 [.slice A436 n438 c437, .map (some g442)], CH.row g36 o37 [.slice A459 n461 c460, .map (some g465)]] [p466, p443] C473
          have C475 : Ctx _ _ _ _ F [CH.row g21 o22 [.slice A436 n438 c437, .map (some g442)], p440, CH.row g36 o37 [.slice A459 n461 c460, .map (some g465)], p463, p466, p443] := Ctx.swap [CH.row g21 o22 [.slice A436 n438 c437, .map (some g442)]] [p463, p466, p443] C474
          have C476 : Ctx _ _ _ _ F [CH.row g21 o22 [.slice A436 n438 c437, .map (some g442)], p440, CH.row g36 o37 [.slice A459 n461 c460, .map (some g465)], p463, p443, p466] := Ctx.swap [CH.row g21 o22 [.slice A436 n438 c437, .map (some g442)], p440, CH.row g36 o37 [.slice A459 n461 c460, .map (some g465)], p463] [] C475
          have C477 : Ctx _ _ _ _ F [CH.row g21 o22 [.slice A436 n438 c437, .map (some g442)], p440, CH.row g36 o37 [.slice A459 n461 c460, .map (some g465)], p443, p463, p466] := Ctx.swap [CH.row g21 o22 [.slice A436 n438 c437, .map (some g442)], p440, CH.row g36 o37 [.slice A459 n461 c460, .map (some g465)]] [p466] C476
          have C478 : Ctx _ _ _ _ F [CH.row g21 o22 [.slice A436 n438 c437, .map (some g442)], p440, p443, CH.row g36 o37 [.slice A459 n461 c460, .map (some g465)], p463, p466] := Ctx.swap [CH.row g21 o22 [.slice A436 n438 c437, .map (some g442)], p440] [p463, p466] C477
          exact thenE_n ⟨k414, Nat.lt_succ_self _, wi64 (x346 + 1), r435, r458, A436, c437, n438, p440, g442, p443, A459, c460, n461, p463, g465, p466, ho340, ho341, ho342, ho343, ho344, rfl, C478, hn439, hR441, hM444, hn462, hR464, hM467, hX276⟩
        · skip
          refine W.condF (congrArg Value.bool (decide_eq_false hc424)) ?_
          refine W.exit ?_
          refine thenE_x ?_
          refine thenE_x ?_
          refine inB_here ?_
          cases hX276
          refine thenE_n ?_
          exact ⟨A348, c349, n350, p352, g354, p355, A358, c359, n360, p362, g364, p365, ho341, ho342, ho343, ho344, C367, hn351, hR353, hM356, hn361, hR363, hM366⟩
      · skip
        rintro env_ w_ ⟨A256, c257, n258, p260, g262, p263, A266, c267, n268, p270, g272, p273, ho251, ho252, ho253, ho254, C275, hn259, hR261, hM264, hn269, hR271, hM274⟩
        refine W.seq ?_
        refine W.region rfl ?_
        refine WL.val (Yl.move (v := .pointer (some ⟨g21, o22, none⟩)) ho253) ?_
        refine WL.val (Yl.move (v := .int .i64 a1) ho251) ?_
        obtain ⟨⟨r480, r481⟩, hg479, H⟩ := bindE H
        refine WL.call (args := #[.pointer (some ⟨g21, o22, none⟩), .int .i64 a1]) (Yenter.fn Try.func11 (by kernel_rfl) rfl (argsE (.cons rfl (.cons rfl .nil)))) (agenda_Agenda_Due.calls k _ F g21 o22 A256 c257 n258 p260 g262 p263 x255 a1 (Ctx.pre (qs := [CH.row g21 o22 [.slice A256 n258 c257, .map (some g262)], p260, p263]) (rest := [CH.row g36 o37 [.slice A266 n268 c267, .map (some g272)], p270, p273]) C275) hn259 hR261 hM264 r480 r481 hg479) ?_
        rintro e_ w_ ⟨A482, c483, n484, p486, A488, c489, n490, p492, g494, p495, rfl, C497, hn485, hR487, hn491, hR493, hM496⟩
        refine ⟨_, rfl, ?_⟩
        have C498 : Ctx _ _ _ _ F [CH.row g21 o22 [.slice A488 n490 c489, .map (some g494)], p492, p495, p486, CH.row g36 o37 [.slice A266 n268 c267, .map (some g272)], p270, p273] := Ctx.call (qs := [CH.row g21 o22 [.slice A256 n258 c257, .map (some g262)], p260, p263]) (rest := [CH.row g36 o37 [.slice A266 n268 c267, .map (some g272)], p270, p273]) C275 C497
        refine WL.val (Yl.assign (v := .slice A482 n484 c483) rfl) ?_
        refine WL.done ?_
        refine W.seq ?_
        refine W.region rfl ?_
        refine WL.val (Yl.move (v := .slice A482 n484 c483) rfl) ?_
        refine WL.val (Yl.move (v := .pointer (some ⟨g21, o22, none⟩)) ho253) ?_
        refine WL.val (Yl.move (v := .int .i64 a2) ho252) ?_
        obtain ⟨⟨r500, r501⟩, hg499, H⟩ := bindE H
        refine WL.call (args := #[.pointer (some ⟨g21, o22, none⟩), .int .i64 a2]) (Yenter.fn Try.func11 (by kernel_rfl) rfl (argsE (.cons rfl (.cons rfl .nil)))) (agenda_Agenda_Due.calls k _ F g21 o22 A488 c489 n490 p492 g494 p495 r481 a2 (Ctx.pre (qs := [CH.row g21 o22 [.slice A488 n490 c489, .map (some g494)], p492, p495]) (rest := [p486, CH.row g36 o37 [.slice A266 n268 c267, .map (some g272)], p270, p273]) C498) hn491 hR493 hM496 r500 r501 hg499) ?_
        rintro e_ w_ ⟨A502, c503, n504, p506, A508, c509, n510, p512, g514, p515, rfl, C517, hn505, hR507, hn511, hR513, hM516⟩
        refine ⟨_, rfl, ?_⟩
        have C518 : Ctx _ _ _ _ F [CH.row g21 o22 [.slice A508 n510 c509, .map (some g514)], p512, p515, p506, p486, CH.row g36 o37 [.slice A266 n268 c267, .map (some g272)], p270, p273] := Ctx.call (qs := [CH.row g21 o22 [.slice A488 n490 c489, .map (some g494)], p492, p495]) (rest := [p486, CH.row g36 o37 [.slice A266 n268 c267, .map (some g272)], p270, p273]) C498 C517
        obtain ⟨hc519, H⟩ := guardE H
        obtain ⟨A520, c521, n522, p523, w524, hn525, hy526, C527, hR528⟩ := ev_append' (P := Try.prog) (cb := c503) 29 TEntry.K [CH.row g21 o22 [.slice A508 n510 c509, .map (some g514)], p512, p515, p506] [CH.row g36 o37 [.slice A266 n268 c267, .map (some g272)], p270, p273] C518 hR487 hn505 (Row.sl hR507) (Ctx.sub_of [CH.row g21 o22 [.slice A508 n510 c509, .map (some g514)], p512, p515] [p486, CH.row g36 o37 [.slice A266 n268 c267, .map (some g272)], p270, p273] C518) Try.underlying22 ti29 rfl zo29 (by decide) (by decide) (by simpa using hc519)
        have C529 : Ctx _ _ _ _ F [CH.row g21 o22 [.slice A508 n510 c509, .map (some g514)], p512, p515, p506, p523, CH.row g36 o37 [.slice A266 n268 c267, .map (some g272)], p270, p273] := C527
        refine WL.val (hy526 _ _ _ _ rfl rfl) ?_
        refine WL.val (Yl.assign (v := .slice A520 n522 c521) rfl) ?_
        refine WL.done ?_
        refine W.seq ?_
        obtain ⟨⟨x698, x699⟩, hX710, H⟩ := bindE H
        refine W.cutM (fun env_ w_ => ∃ (A700 : Option Addr) (c701 : Nat) (n702 : Nat) (p704 : CH) (g706 : Nat) (p707 : CH), env_ 6 = .bool x698 ∧ Ctx w F D w_ F [CH.row g36 o37 [.slice A700 n702 c701, .map (some g706)], p704, p707, CH.row g21 o22 [.slice A508 n510 c509, .map (some g514)], p512, p515, p506, p523] ∧ n702 = x699.q.l.length ∧ Row TEntry.K F p704 (.slice A700 n702 c701) x699.q.l ∧ MRow (Value.int .i64) (Value.int .i64) p707 g706 x699.q.place) ?_ ?_
        · skip
          refine W.region rfl ?_
          refine WL.val (Yl.move (v := .slice A520 n522 c521) rfl) ?_
          refine WL.val (Yl.move (v := .pointer (some ⟨g36, o37, none⟩)) ho254) ?_
          refine WL.val (Yl.move (v := .int .i64 a2) ho252) ?_
          have C756 : Ctx _ _ _ _ F [CH.row g21 o22 [.slice A508 n510 c509, .map (some g514)], p512, p515, p506, CH.row g36 o37 [.slice A266 n268 c267, .map (some g272)], p523, p270, p273] := Ctx.swap [CH.row g21 o22 [.slice A508 n510 c509, .map (some g514)], p512, p515, p506] [p270, p273] C529
          have C757 : Ctx _ _ _ _ F [CH.row g21 o22 [.slice A508 n510 c509, .map (some g514)], p512, p515, CH.row g36 o37 [.slice A266 n268 c267, .map (some g272)], p506, p523, p270, p273] := Ctx.swap [CH.row g21 o22 [.slice A508 n510 c509, .map (some g514)], p512, p515] [p523, p270, p273] C756
          have C758 : Ctx _ _ _ _ F [CH.row g21 o22 [.slice A508 n510 c509, .map (some g514)], p512, CH.row g36 o37 [.slice A266 n268 c267, .map (some g272)], p515, p506, p523, p270, p273] := Ctx.swap [CH.row g21 o22 [.slice A508 n510 c509, .map (some g514)], p512] [p506, p523, p270, p273] C757
          have C759 : Ctx _ _ _ _ F [CH.row g21 o22 [.slice A508 n510 c509, .map (some g514)], CH.row g36 o37 [.slice A266 n268 c267, .map (some g272)], p512, p515, p506, p523, p270, p273] := Ctx.swap [CH.row g21 o22 [.slice A508 n510 c509, .map (some g514)]] [p515, p506, p523, p270, p273] C758
          have C760 : Ctx _ _ _ _ F [CH.row g36 o37 [.slice A266 n268 c267, .map (some g272)], CH.row g21 o22 [.slice A508 n510 c509, .map (some g514)], p512, p515, p506, p523, p270, p273] := Ctx.swap [] [p512, p515, p506, p523, p270, p273] C759
          have C761 : Ctx _ _ _ _ F [CH.row g36 o37 [.slice A266 n268 c267, .map (some g272)], CH.row g21 o22 [.slice A508 n510 c509, .map (some g514)], p512, p515, p506, p270, p523, p273] := Ctx.swap [CH.row g36 o37 [.slice A266 n268 c267, .map (some g272)], CH.row g21 o22 [.slice A508 n510 c509, .map (some g514)], p512, p515, p506] [p273] C760
          have C762 : Ctx _ _ _ _ F [CH.row g36 o37 [.slice A266 n268 c267, .map (some g272)], CH.row g21 o22 [.slice A508 n510 c509, .map (some g514)], p512, p515, p270, p506, p523, p273] := Ctx.swap [CH.row g36 o37 [.slice A266 n268 c267, .map (some g272)], CH.row g21 o22 [.slice A508 n510 c509, .map (some g514)], p512, p515] [p523, p273] C761
          have C763 : Ctx _ _ _ _ F [CH.row g36 o37 [.slice A266 n268 c267, .map (some g272)], CH.row g21 o22 [.slice A508 n510 c509, .map (some g514)], p512, p270, p515, p506, p523, p273] := Ctx.swap [CH.row g36 o37 [.slice A266 n268 c267, .map (some g272)], CH.row g21 o22 [.slice A508 n510 c509, .map (some g514)], p512] [p506, p523, p273] C762
          have C764 : Ctx _ _ _ _ F [CH.row g36 o37 [.slice A266 n268 c267, .map (some g272)], CH.row g21 o22 [.slice A508 n510 c509, .map (some g514)], p270, p512, p515, p506, p523, p273] := Ctx.swap [CH.row g36 o37 [.slice A266 n268 c267, .map (some g272)], CH.row g21 o22 [.slice A508 n510 c509, .map (some g514)]] [p515, p506, p523, p273] C763
          have C765 : Ctx _ _ _ _ F [CH.row g36 o37 [.slice A266 n268 c267, .map (some g272)], p270, CH.row g21 o22 [.slice A508 n510 c509, .map (some g514)], p512, p515, p506, p523, p273] := Ctx.swap [CH.row g36 o37 [.slice A266 n268 c267, .map (some g272)]] [p512, p515, p506, p523, p273] C764
          have C766 : Ctx _ _ _ _ F [CH.row g36 o37 [.slice A266 n268 c267, .map (some g272)], p270, CH.row g21 o22 [.slice A508 n510 c509, .map (some g514)], p512, p515, p506, p273, p523] := Ctx.swap [CH.row g36 o37 [.slice A266 n268 c267, .map (some g272)], p270, CH.row g21 o22 [.slice A508 n510 c509, .map (some g514)], p512, p515, p506] [] C765
          have C767 : Ctx _ _ _ _ F [CH.row g36 o37 [.slice A266 n268 c267, .map (some g272)], p270, CH.row g21 o22 [.slice A508 n510 c509, .map (some g514)], p512, p515, p273, p506, p523] := Ctx.swap [CH.row g36 o37 [.slice A266 n268 c267, .map (some g272)], p270, CH.row g21 o22 [.slice A508 n510 c509, .map (some g514)], p512, p515] [p523] C766
          have C768 : Ctx _ _ _ _ F [CH.row g36 o37 [.slice A266 n268 c267, .map (some g272)], p270, CH.row g21 o22 [.slice A508 n510 c509, .map (some g514)], p512, p273, p515, p506, p523] := Ctx.swap [CH.row g36 o37 [.slice A266 n268 c267, .map (some g272)], p270, CH.row g21 o22 [.slice A508 n510 c509, .map (some g514)], p512] [p506, p523] C767
          have C769 : Ctx _ _ _ _ F [CH.row g36 o37 [.slice A266 n268 c267, .map (some g272)], p270, CH.row g21 o22 [.slice A508 n510 c509, .map (some g514)], p273, p512, p515, p506, p523] := Ctx.swap [CH.row g36 o37 [.slice A266 n268 c267, .map (some g272)], p270, CH.row g21 o22 [.slice A508 n510 c509, .map (some g514)]] [p515, p506, p523] C768
          have C770 : Ctx _ _ _ _ F [CH.row g36 o37 [.slice A266 n268 c267, .map (some g272)], p270, p273, CH.row g21 o22 [.slice A508 n510 c509, .map (some g514)], p512, p515, p506, p523] := Ctx.swap [CH.row g36 o37 [.slice A266 n268 c267, .map (some g272)], p270] [p512, p515, p506, p523] C769
          obtain ⟨⟨r772, r773⟩, hg771, hX710⟩ := bindE hX710
          refine WL.call (args := #[.pointer (some ⟨g36, o37, none⟩), .int .i64 a2]) (Yenter.fn Try.func11 (by kernel_rfl) rfl (argsE (.cons rfl (.cons rfl .nil)))) (agenda_Agenda_Due.calls k _ F g36 o37 A266 c267 n268 p270 g272 p273 x265 a2 (Ctx.pre (qs := [CH.row g36 o37 [.slice A266 n268 c267, .map (some g272)], p270, p273]) (rest := [CH.row g21 o22 [.slice A508 n510 c509, .map (some g514)], p512, p515, p506, p523]) C770) hn269 hR271 hM274 r772 r773 hg771) ?_
          rintro e_ w_ ⟨A774, c775, n776, p778, A780, c781, n782, p784, g786, p787, rfl, C789, hn777, hR779, hn783, hR785, hM788⟩
          refine ⟨_, rfl, ?_⟩
          have C790 : Ctx _ _ _ _ F [CH.row g36 o37 [.slice A780 n782 c781, .map (some g786)], p784, p787, p778, CH.row g21 o22 [.slice A508 n510 c509, .map (some g514)], p512, p515, p506, p523] := Ctx.call (qs := [CH.row g36 o37 [.slice A266 n268 c267, .map (some g272)], p270, p273]) (rest := [CH.row g21 o22 [.slice A508 n510 c509, .map (some g514)], p512, p515, p506, p523]) C770 C789
          have le791 : CH.le F (CH.join F p523) := CH.le_joinL _ _
          have lp792 : CH.le p523 (CH.join F p523) := CH.le_joinR (Ctx.dis_of [CH.row g36 o37 [.slice A780 n782 c781, .map (some g786)], p784, p787, p778, CH.row g21 o22 [.slice A508 n510 c509, .map (some g514)], p512, p515, p506] [] C790)
          have C793 : Ctx _ _ _ _ (CH.join F p523) [CH.row g36 o37 [.slice A780 n782 c781, .map (some g786)], p784, p787, p778, CH.row g21 o22 [.slice A508 n510 c509, .map (some g514)], p512, p515, p506] := Ctx.freeze [CH.row g36 o37 [.slice A780 n782 c781, .map (some g786)], p784, p787, p778, CH.row g21 o22 [.slice A508 n510 c509, .map (some g514)], p512, p515, p506] [] C790
          have le794 : CH.le (CH.join F p523) (CH.join (CH.join F p523) p778) := CH.le_joinL _ _
          have lp795 : CH.le p778 (CH.join (CH.join F p523) p778) := CH.le_joinR (Ctx.dis_of [CH.row g36 o37 [.slice A780 n782 c781, .map (some g786)], p784, p787] [CH.row g21 o22 [.slice A508 n510 c509, .map (some g514)], p512, p515, p506] C793)
          have C796 : Ctx _ _ _ _ (CH.join (CH.join F p523) p778) [CH.row g36 o37 [.slice A780 n782 c781, .map (some g786)], p784, p787, CH.row g21 o22 [.slice A508 n510 c509, .map (some g514)], p512, p515, p506] := Ctx.freeze [CH.row g36 o37 [.slice A780 n782 c781, .map (some g786)], p784, p787] [CH.row g21 o22 [.slice A508 n510 c509, .map (some g514)], p512, p515, p506] C793
          obtain ⟨r798, hg797, hX710⟩ := bindE hX710
          refine WL.call (args := #[.slice A520 n522 c521, .slice A774 n776 c775]) (Yenter.fn Try.func13 (by kernel_rfl) rfl (argsE (.cons rfl (.cons rfl .nil)))) (juratref13_Same.calls k _ (CH.join (CH.join F p523) p778) A520 c521 n522 (r480 ++ r500) A774 c775 n776 r772 C796.pre0 hn525 (Row.len_le hR528).1 (Row.len_le hR528).2.1 (Sl.mono (Row.sl hR528) (CH.le_trans le791 le794) (CH.le_trans lp792 le794)) hn777 (Row.len_le hR779).1 (Row.len_le hR779).2.1 (Sl.mono (Row.sl hR779) (CH.le_trans le791 le794) lp795) r798 hg797) ?_
          rintro e_ w_ ⟨rfl, ⟨m799, rfl⟩⟩
          refine ⟨_, rfl, ?_⟩
          have C800 := Ctx.drewN C790 m799
          refine WL.val (Yl.move (v := .bool r798) rfl) ?_
          rcases iteE hX710 with ⟨hc801, hX710⟩ | ⟨hc801, hX710⟩
          · skip
            refine WL.on rfl (congrArg Value.bool hc801) ?_
            refine WL.val (Yl.move (v := .pointer (some ⟨g21, o22, none⟩)) ho253) ?_
            refine WL.on rfl (congrArg Value.bool hc801) ?_
            have le802 : CH.le F (CH.join F (CH.row g21 o22 [.slice A508 n510 c509, .map (some g514)])) := CH.le_joinL _ _
            have lp803 : CH.le (CH.row g21 o22 [.slice A508 n510 c509, .map (some g514)]) (CH.join F (CH.row g21 o22 [.slice A508 n510 c509, .map (some g514)])) := CH.le_joinR (Ctx.dis_of [CH.row g36 o37 [.slice A780 n782 c781, .map (some g786)], p784, p787, p778] [p512, p515, p506, p523] C800)
            have C804 : Ctx _ _ _ _ (CH.join F (CH.row g21 o22 [.slice A508 n510 c509, .map (some g514)])) [CH.row g36 o37 [.slice A780 n782 c781, .map (some g786)], p784, p787, p778, p512, p515, p506, p523] := Ctx.freeze [CH.row g36 o37 [.slice A780 n782 c781, .map (some g786)], p784, p787, p778] [p512, p515, p506, p523] C800
            have le805 : CH.le (CH.join F (CH.row g21 o22 [.slice A508 n510 c509, .map (some g514)])) (CH.join (CH.join F (CH.row g21 o22 [.slice A508 n510 c509, .map (some g514)])) p512) := CH.le_joinL _ _
            have lp806 : CH.le p512 (CH.join (CH.join F (CH.row g21 o22 [.slice A508 n510 c509, .map (some g514)])) p512) := CH.le_joinR (Ctx.dis_of [CH.row g36 o37 [.slice A780 n782 c781, .map (some g786)], p784, p787, p778] [p515, p506, p523] C804)
            have C807 : Ctx _ _ _ _ (CH.join (CH.join F (CH.row g21 o22 [.slice A508 n510 c509, .map (some g514)])) p512) [CH.row g36 o37 [.slice A780 n782 c781, .map (some g786)], p784, p787, p778, p515, p506, p523] := Ctx.freeze [CH.row g36 o37 [.slice A780 n782 c781, .map (some g786)], p784, p787, p778] [p515, p506, p523] C804
            have le808 : CH.le (CH.join (CH.join F (CH.row g21 o22 [.slice A508 n510 c509, .map (some g514)])) p512) (CH.join (CH.join (CH.join F (CH.row g21 o22 [.slice A508 n510 c509, .map (some g514)])) p512) p515) := CH.le_joinL _ _
            have lp809 : CH.le p515 (CH.join (CH.join (CH.join F (CH.row g21 o22 [.slice A508 n510 c509, .map (some g514)])) p512) p515) := CH.le_joinR (Ctx.dis_of [CH.row g36 o37 [.slice A780 n782 c781, .map (some g786)], p784, p787, p778] [p506, p523] C807)
            have C810 : Ctx _ _ _ _ (CH.join (CH.join (CH.join F (CH.row g21 o22 [.slice A508 n510 c509, .map (some g514)])) p512) p515) [CH.row g36 o37 [.slice A780 n782 c781, .map (some g786)], p784, p787, p778, p506, p523] := Ctx.freeze [CH.row g36 o37 [.slice A780 n782 c781, .map (some g786)], p784, p787, p778] [p506, p523] C807
            obtain ⟨r812, hg811, hX710⟩ := bindE hX710
            refine WL.call (args := #[.pointer (some ⟨g21, o22, none⟩)]) (Yenter.fn Try.func12 (by kernel_rfl) rfl (argsE (.cons rfl .nil))) (agenda_Agenda_Len.calls k _ (CH.join (CH.join (CH.join F (CH.row g21 o22 [.slice A508 n510 c509, .map (some g514)])) p512) p515) g21 o22 A508 c509 n510 g514 p515 r501 C810.pre0 hn511 (Row.len_le hR513).1 (Row.len_le hR513).2.1 (Sl.mono (Row.sl hR513) (CH.le_trans (CH.le_trans le802 le805) le808) (CH.le_trans lp806 le808)) hM516 lp809 (CH.le_trans (CH.le_trans lp803 le805) le808) r812 hg811) ?_
            rintro e_ w_ ⟨rfl, ⟨m813, rfl⟩⟩
            refine ⟨_, rfl, ?_⟩
            have C814 := Ctx.drewN C800 m813
            refine WL.on rfl (congrArg Value.bool hc801) ?_
            refine WL.val (Yl.move (v := .pointer (some ⟨g36, o37, none⟩)) ho254) ?_
            refine WL.on rfl (congrArg Value.bool hc801) ?_
            have le815 : CH.le F (CH.join F (CH.row g36 o37 [.slice A780 n782 c781, .map (some g786)])) := CH.le_joinL _ _
            have lp816 : CH.le (CH.row g36 o37 [.slice A780 n782 c781, .map (some g786)]) (CH.join F (CH.row g36 o37 [.slice A780 n782 c781, .map (some g786)])) := CH.le_joinR (Ctx.dis_of [] [p784, p787, p778, CH.row g21 o22 [.slice A508 n510 c509, .map (some g514)], p512, p515, p506, p523] C814)
            have C817 : Ctx _ _ _ _ (CH.join F (CH.row g36 o37 [.slice A780 n782 c781, .map (some g786)])) [p784, p787, p778, CH.row g21 o22 [.slice A508 n510 c509, .map (some g514)], p512, p515, p506, p523] := Ctx.freeze [] [p784, p787, p778, CH.row g21 o22 [.slice A508 n510 c509, .map (some g514)], p512, p515, p506, p523] C814
            have le818 : CH.le (CH.join F (CH.row g36 o37 [.slice A780 n782 c781, .map (some g786)])) (CH.join (CH.join F (CH.row g36 o37 [.slice A780 n782 c781, .map (some g786)])) p784) := CH.le_joinL _ _
            have lp819 : CH.le p784 (CH.join (CH.join F (CH.row g36 o37 [.slice A780 n782 c781, .map (some g786)])) p784) := CH.le_joinR (Ctx.dis_of [] [p787, p778, CH.row g21 o22 [.slice A508 n510 c509, .map (some g514)], p512, p515, p506, p523] C817)
            have C820 : Ctx _ _ _ _ (CH.join (CH.join F (CH.row g36 o37 [.slice A780 n782 c781, .map (some g786)])) p784) [p787, p778, CH.row g21 o22 [.slice A508 n510 c509, .map (some g514)], p512, p515, p506, p523] := Ctx.freeze [] [p787, p778, CH.row g21 o22 [.slice A508 n510 c509, .map (some g514)], p512, p515, p506, p523] C817
            have le821 : CH.le (CH.join (CH.join F (CH.row g36 o37 [.slice A780 n782 c781, .map (some g786)])) p784) (CH.join (CH.join (CH.join F (CH.row g36 o37 [.slice A780 n782 c781, .map (some g786)])) p784) p787) := CH.le_joinL _ _
            have lp822 : CH.le p787 (CH.join (CH.join (CH.join F (CH.row g36 o37 [.slice A780 n782 c781, .map (some g786)])) p784) p787) := CH.le_joinR (Ctx.dis_of [] [p778, CH.row g21 o22 [.slice A508 n510 c509, .map (some g514)], p512, p515, p506, p523] C820)
            have C823 : Ctx _ _ _ _ (CH.join (CH.join (CH.join F (CH.row g36 o37 [.slice A780 n782 c781, .map (some g786)])) p784) p787) [p778, CH.row g21 o22 [.slice A508 n510 c509, .map (some g514)], p512, p515, p506, p523] := Ctx.freeze [] [p778, CH.row g21 o22 [.slice A508 n510 c509, .map (some g514)], p512, p515, p506, p523] C820
            obtain ⟨r825, hg824, hX710⟩ := bindE hX710
            refine WL.call (args := #[.pointer (some ⟨g36, o37, none⟩)]) (Yenter.fn Try.func12 (by kernel_rfl) rfl (argsE (.cons rfl .nil))) (agenda_Agenda_Len.calls k _ (CH.join (CH.join (CH.join F (CH.row g36 o37 [.slice A780 n782 c781, .map (some g786)])) p784) p787) g36 o37 A780 c781 n782 g786 p787 r773 C823.pre0 hn783 (Row.len_le hR785).1 (Row.len_le hR785).2.1 (Sl.mono (Row.sl hR785) (CH.le_trans (CH.le_trans le815 le818) le821) (CH.le_trans lp819 le821)) hM788 lp822 (CH.le_trans (CH.le_trans lp816 le818) le821) r825 hg824) ?_
            rintro e_ w_ ⟨rfl, ⟨m826, rfl⟩⟩
            refine ⟨_, rfl, ?_⟩
            have C827 := Ctx.drewN C814 m826
            refine WL.on rfl (congrArg Value.bool hc801) ?_
            refine WL.val (Yl.eql (m := r812) (n := r825) (q := decide (r812 = r825)) rfl rfl rfl) ?_
            refine WL.val (Yl.pickT (v := .bool (decide (r812 = r825))) (congrArg Value.bool hc801) rfl) ?_
            refine WL.val (Yl.move (v := .bool (decide (r812 = r825))) rfl) ?_
            rcases iteE hX710 with ⟨hc828, hX710⟩ | ⟨hc828, hX710⟩
            · skip
              refine WL.on rfl (congrArg Value.bool (decide_eq_true hc828)) ?_
              obtain ⟨r830, hg829, hX710⟩ := bindE hX710
              refine WL.call (args := #[]) (Yenter.fn Try.func8 (by kernel_rfl) rfl (argsE .nil)) (juratlaw13_awake.calls k _ F  (Ctx.pre (qs := []) (rest := [CH.row g36 o37 [.slice A780 n782 c781, .map (some g786)], p784, p787, p778, CH.row g21 o22 [.slice A508 n510 c509, .map (some g514)], p512, p515, p506, p523]) C827)  r830 hg829) ?_
              rintro e_ w_ ⟨rfl, C831⟩
              refine ⟨_, rfl, ?_⟩
              have C832 : Ctx _ _ _ _ F [CH.row g36 o37 [.slice A780 n782 c781, .map (some g786)], p784, p787, p778, CH.row g21 o22 [.slice A508 n510 c509, .map (some g514)], p512, p515, p506, p523] := Ctx.call (qs := []) (rest := [CH.row g36 o37 [.slice A780 n782 c781, .map (some g786)], p784, p787, p778, CH.row g21 o22 [.slice A508 n510 c509, .map (some g514)], p512, p515, p506, p523]) C827 C831
              refine WL.val (Yl.pickT (v := .bool r830) (congrArg Value.bool (decide_eq_true hc828)) rfl) ?_
              refine WL.val (Yl.assign (v := .bool r830) rfl) ?_
              refine WL.done ?_
              have C833 : Ctx _ _ _ _ F [CH.row g36 o37 [.slice A780 n782 c781, .map (some g786)], p784, p787, CH.row g21 o22 [.slice A508 n510 c509, .map (some g514)], p512, p515, p506, p523] := Ctx.drop [CH.row g36 o37 [.slice A780 n782 c781, .map (some g786)], p784, p787] [CH.row g21 o22 [.slice A508 n510 c509, .map (some g514)], p512, p515, p506, p523] C832
              cases hX710
              refine thenE_n ?_
              exact ⟨A780, c781, n782, p784, g786, p787, rfl, C833, hn783, hR785, hM788⟩
            · skip
              refine WL.off rfl (congrArg Value.bool (decide_eq_false hc828)) ?_
              refine WL.val (Yl.pickF (v := .bool false) (congrArg Value.bool (decide_eq_false hc828)) rfl) ?_
              refine WL.val (Yl.assign (v := .bool false) rfl) ?_
              refine WL.done ?_
              have C834 : Ctx _ _ _ _ F [CH.row g36 o37 [.slice A780 n782 c781, .map (some g786)], p784, p787, CH.row g21 o22 [.slice A508 n510 c509, .map (some g514)], p512, p515, p506, p523] := Ctx.drop [CH.row g36 o37 [.slice A780 n782 c781, .map (some g786)], p784, p787] [CH.row g21 o22 [.slice A508 n510 c509, .map (some g514)], p512, p515, p506, p523] C827
              cases hX710
              refine thenE_n ?_
              exact ⟨A780, c781, n782, p784, g786, p787, rfl, C834, hn783, hR785, hM788⟩
          · skip
            refine WL.off rfl (congrArg Value.bool (Bool.eq_false_iff.2 hc801)) ?_
            refine WL.off rfl (congrArg Value.bool (Bool.eq_false_iff.2 hc801)) ?_
            refine WL.off rfl (congrArg Value.bool (Bool.eq_false_iff.2 hc801)) ?_
            refine WL.off rfl (congrArg Value.bool (Bool.eq_false_iff.2 hc801)) ?_
            refine WL.off rfl (congrArg Value.bool (Bool.eq_false_iff.2 hc801)) ?_
            refine WL.val (Yl.pickF (v := .bool false) (congrArg Value.bool (Bool.eq_false_iff.2 hc801)) rfl) ?_
            refine WL.val (Yl.move (v := .bool false) rfl) ?_
            refine WL.off rfl rfl ?_
            refine WL.val (Yl.pickF (v := .bool false) rfl rfl) ?_
            refine WL.val (Yl.assign (v := .bool false) rfl) ?_
            refine WL.done ?_
            have C835 : Ctx _ _ _ _ F [CH.row g36 o37 [.slice A780 n782 c781, .map (some g786)], p784, p787, CH.row g21 o22 [.slice A508 n510 c509, .map (some g514)], p512, p515, p506, p523] := Ctx.drop [CH.row g36 o37 [.slice A780 n782 c781, .map (some g786)], p784, p787] [CH.row g21 o22 [.slice A508 n510 c509, .map (some g514)], p512, p515, p506, p523] C800
            cases hX710
            refine thenE_n ?_
            exact ⟨A780, c781, n782, p784, g786, p787, rfl, C835, hn783, hR785, hM788⟩
        · skip
          rintro env_ w_ ⟨A700, c701, n702, p704, g706, p707, ho697, C709, hn703, hR705, hM708⟩
          refine W.ret ?_
          have C836 : Ctx _ _ _ _ F [p704, p707, CH.row g21 o22 [.slice A508 n510 c509, .map (some g514)], p512, p515, p506, p523] := Ctx.drop [] [p704, p707, CH.row g21 o22 [.slice A508 n510 c509, .map (some g514)], p512, p515, p506, p523] C709
          have C837 : Ctx _ _ _ _ F [p707, CH.row g21 o22 [.slice A508 n510 c509, .map (some g514)], p512, p515, p506, p523] := Ctx.drop [] [p707, CH.row g21 o22 [.slice A508 n510 c509, .map (some g514)], p512, p515, p506, p523] C836
          have C838 : Ctx _ _ _ _ F [CH.row g21 o22 [.slice A508 n510 c509, .map (some g514)], p512, p515, p506, p523] := Ctx.drop [] [CH.row g21 o22 [.slice A508 n510 c509, .map (some g514)], p512, p515, p506, p523] C837
          have C839 : Ctx _ _ _ _ F [p512, p515, p506, p523] := Ctx.drop [] [p512, p515, p506, p523] C838
          have C840 : Ctx _ _ _ _ F [p515, p506, p523] := Ctx.drop [] [p515, p506, p523] C839
          have C841 : Ctx _ _ _ _ F [p506, p523] := Ctx.drop [] [p506, p523] C840
          have C842 : Ctx _ _ _ _ F [p523] := Ctx.drop [] [p523] C841
          have C843 : Ctx _ _ _ _ F [] := Ctx.drop [] [] C842
          cases H
          exact post_r (resE1 rfl ho697) ⟨rfl, C843⟩
end Go.Proofs.Ytnoocbdpkddpbaa
