/- Functions of the program: each as a plain function of numbers and lists, and the proof that the program's own comes to it. Nothing is assumed but what each theorem says. -/
import Derived.Test.YtnoocbdpkddpbaaGe
namespace Go.Proofs.Ytnoocbdpkddpbaa
open Go.RowKit Go.WG
set_option linter.unusedVariables false
set_option linter.unusedSimpArgs false

/-! ### jurat/juratlaw13.AgendaOnce: function 3 -/
def juratlaw13_AgendaOnce.l1 : Nat → List TEntry → Int → TAgenda → Option (Sum TAgenda Bool)
  | 0, _, _, _ => none
  | k + 1, a0, x173, x174 => if x173 < (a0.length : Int) then (if 0 ≤ x173 ∧ x173 < (a0.length : Int) then ((agenda_Agenda_Put.f k x174 (a0.getD x173.toNat TEntry.z)).bind fun ⟨r220, r221⟩ => if r220 = 0 then (juratlaw13_AgendaOnce.l1 k a0 (wi64 (x173 + 1)) r221) else (some (Sum.inr false))) else none) else (some (Sum.inl x174))
def juratlaw13_AgendaOnce.l3 : Nat → List TEntry → List TEntry → Int → Int → Option (Sum Unit Bool)
  | 0, _, _, _, _ => none
  | k + 1, r238, r258, x525, x711 => if x711 < x525 then (if 0 ≤ x711 ∧ x711 < ((r238 ++ r258).length : Int) then (if (((r238 ++ r258).getD x711.toNat TEntry.z).ID) = (((r238 ++ r258).getD x525.toNat TEntry.z).ID) then (some (Sum.inr false)) else (juratlaw13_AgendaOnce.l3 k r238 r258 x525 (wi64 (x711 + 1)))) else none) else (some (Sum.inl ()))
def juratlaw13_AgendaOnce.l2 : Nat → Int → List TEntry → List TEntry → Int → Option (Sum Unit Bool)
  | 0, _, _, _, _ => none
  | k + 1, a1, r238, r258, x525 => if x525 < ((r238 ++ r258).length : Int) then (if 0 ≤ x525 ∧ x525 < ((r238 ++ r258).length : Int) then ((if (decide (x525 < (r238.length : Int))) = (decide ((((r238 ++ r258).getD x525.toNat TEntry.z).At) ≤ a1)) then (if x525 > 0 then (if 0 ≤ (wi64 (x525 - 1)) ∧ (wi64 (x525 - 1)) < ((r238 ++ r258).length : Int) then (if (((r238 ++ r258).getD (wi64 (x525 - 1)).toNat TEntry.z).At) > (((r238 ++ r258).getD x525.toNat TEntry.z).At) then (some (true)) else (if (((r238 ++ r258).getD (wi64 (x525 - 1)).toNat TEntry.z).At) = (((r238 ++ r258).getD x525.toNat TEntry.z).At) then (some (decide ((((r238 ++ r258).getD (wi64 (x525 - 1)).toNat TEntry.z).ID) ≥ (((r238 ++ r258).getD x525.toNat TEntry.z).ID)))) else (some (false)))) else none) else (some (false))) else (some (true))).bind fun g643 => if g643 = true then (some (Sum.inr false)) else ((juratlaw13_AgendaOnce.l3 k r238 r258 x525 0).bind fun o_ => sumE o_ (fun _ => juratlaw13_AgendaOnce.l2 k a1 r238 r258 (wi64 (x525 + 1))) (fun p_ => some (Sum.inr p_)))) else none) else (some (Sum.inl ()))
def juratlaw13_AgendaOnce.l5 : Nat → List TEntry → Int → Int → Int → Option Int
  | 0, _, _, _, _ => none
  | k + 1, a0, x1237, x1541, x1544 => if x1544 < (a0.length : Int) then (if 0 ≤ x1544 ∧ x1544 < (a0.length : Int) then (if 0 ≤ x1237 ∧ x1237 < (a0.length : Int) then (if ((a0.getD x1544.toNat TEntry.z).ID) = ((a0.getD x1237.toNat TEntry.z).ID) then (juratlaw13_AgendaOnce.l5 k a0 x1237 ((a0.getD x1544.toNat TEntry.z).At) (wi64 (x1544 + 1))) else (juratlaw13_AgendaOnce.l5 k a0 x1237 x1541 (wi64 (x1544 + 1)))) else none) else none) else (some x1541)
def juratlaw13_AgendaOnce.l6 : Nat → List TEntry → List TEntry → List TEntry → Int → Int → Bool → Int → Option Bool
  | 0, _, _, _, _, _, _, _ => none
  | k + 1, a0, r238, r258, x1237, x1532, x1662, x1664 => if x1664 < ((r238 ++ r258).length : Int) then ((if x1662 = true then (some (true)) else (if 0 ≤ x1664 ∧ x1664 < ((r238 ++ r258).length : Int) then (if 0 ≤ x1237 ∧ x1237 < (a0.length : Int) then (some (decide ((((r238 ++ r258).getD x1664.toNat TEntry.z).At) = x1532 ∧ (((r238 ++ r258).getD x1664.toNat TEntry.z).ID) = ((a0.getD x1237.toNat TEntry.z).ID)))) else none) else none)).bind fun g1697 => juratlaw13_AgendaOnce.l6 k a0 r238 r258 x1237 x1532 g1697 (wi64 (x1664 + 1))) else (some x1662)
def juratlaw13_AgendaOnce.l4 : Nat → List TEntry → List TEntry → List TEntry → Int → Option (Sum Unit Bool)
  | 0, _, _, _, _ => none
  | k + 1, a0, r238, r258, x1237 => if x1237 < (a0.length : Int) then ((juratlaw13_AgendaOnce.l5 k a0 x1237 0 x1237).bind fun x1532 => (juratlaw13_AgendaOnce.l6 k a0 r238 r258 x1237 x1532 false 0).bind fun x1653 => if x1653 = true then (juratlaw13_AgendaOnce.l4 k a0 r238 r258 (wi64 (x1237 + 1))) else (some (Sum.inr false))) else (some (Sum.inl ()))
def juratlaw13_AgendaOnce.f (k : Nat) (a0 : List TEntry) (a1 : Int) : Option Bool := if (a0.length : Int) > 100 then ((juratlaw13_awake.f k ).bind fun r10 => some r10) else ((agenda_New.f k ).bind fun r14 => (juratlaw13_AgendaOnce.l1 k a0 0 r14).bind fun o_ => sumE o_ (fun x126 => (agenda_Agenda_Due.f k x126 a1).bind fun ⟨r238, r239⟩ => (agenda_Agenda_Due.f k r239 9223372036854775807).bind fun ⟨r258, r259⟩ => if r238.length * 16 ≤ 140737488355328 then (if (r238.length + r258.length) * 16 ≤ 140737488355328 then ((juratlaw13_AgendaOnce.l2 k a1 r238 r258 0).bind fun o_ => sumE o_ (fun _ => (juratlaw13_AgendaOnce.l4 k a0 r238 r258 0).bind fun o_ => sumE o_ (fun _ => ((agenda_Agenda_Len.f k r259).bind fun r1803 => if r1803 = 0 then ((juratlaw13_awake.f k ).bind fun r1808 => some r1808) else (some false)).bind fun x1777 => some x1777) (fun p_ => some p_)) (fun p_ => some p_)) else none) else none) (fun p_ => some p_))
set_option maxRecDepth 100000 in
set_option maxHeartbeats 4000000 in
theorem juratlaw13_AgendaOnce.calls (k : Nat) (w : World) (F : CH) (A1 : Option Addr) (c2 : Nat) (n3 : Nat) (a0 : List TEntry) (a1 : Int) (hp : Pre w F []) (hn4 : n3 = a0.length) (hl5 : a0.length ≤ c2) (hm6 : c2 ≤ maxLen) (hS7 : Sl TEntry.K F F A1 a0) (r0_ : Bool) (H : juratlaw13_AgendaOnce.f k a0 a1 = some r0_) :
    Calls Try.prog 3 #[.slice A1 n3 c2, .int .i64 a1] w fun e w' => e = .returned (.bool r0_) ∧ Ctx w F (domL []) w' F [] := by
  have C := Ctx.start hp
  generalize hD : domL [] = D at C ⊢
  unfold juratlaw13_AgendaOnce.f at H
  refine Calls.ofW Try.func3 rfl (by simp [Try.ntmps3]) ?_
  refine W.seq ?_
  refine W.region rfl ?_
  refine WL.val (Yl.assign (v := .bool false) rfl) ?_
  refine WL.done ?_
  refine W.seq ?_
  refine W.seq ?_
  refine W.region rfl ?_
  refine WL.val (Yl.move (v := .slice A1 n3 c2) rfl) ?_
  refine WL.val (Yl.lenN (A := A1) (l := n3) (q := c2) (n := (a0.length : Int)) rfl Try.underlying22 (by omega)) ?_
  refine WL.val (Yl.gtr (m := (a0.length : Int)) (n := 100) (q := decide ((a0.length : Int) > 100)) rfl rfl rfl) ?_
  refine WL.done ?_
  rcases iteE H with ⟨hc8, H⟩ | ⟨hc8, H⟩
  · skip
    refine W.condT (congrArg Value.bool (decide_eq_true hc8)) ?_
    refine W.seq ?_
    refine W.region rfl ?_
    obtain ⟨r10, hg9, H⟩ := bindE H
    refine WL.call (args := #[]) (Yenter.fn Try.func8 (by kernel_rfl) rfl (argsE .nil)) (juratlaw13_awake.calls k _ F  (Ctx.pre (qs := []) (rest := []) C)  r10 hg9) ?_
    rintro e_ w_ ⟨rfl, C11⟩
    refine ⟨_, rfl, ?_⟩
    have C12 : Ctx _ _ _ _ F [] := Ctx.call (qs := []) (rest := []) C C11
    refine WL.val (Yl.assign (v := .bool r10) rfl) ?_
    refine WL.done ?_
    refine W.ret ?_
    refine thenE_r ?_
    cases H
    exact post_r (resE1 rfl rfl) ⟨rfl, C12⟩
  · skip
    refine W.condF (congrArg Value.bool (decide_eq_false hc8)) ?_
    refine W.skip ?_
    refine W.seq ?_
    refine W.region rfl ?_
    obtain ⟨r14, hg13, H⟩ := bindE H
    refine WL.call (args := #[]) (Yenter.fn Try.func9 (by kernel_rfl) rfl (argsE .nil)) (agenda_New.calls k _ F  (Ctx.pre (qs := []) (rest := []) C)  r14 hg13) ?_
    rintro e_ w_ ⟨g15, o16, A17, c18, n19, p21, g23, p24, rfl, C26, hn20, hR22, hM25⟩
    refine ⟨_, rfl, ?_⟩
    have C27 : Ctx _ _ _ _ F [CH.row g15 o16 [.slice A17 n19 c18, .map (some g23)], p21, p24] := Ctx.call (qs := []) (rest := []) C C26
    refine WL.val (Yl.assign (v := .pointer (some ⟨g15, o16, none⟩)) rfl) ?_
    refine WL.done ?_
    refine W.seq ?_
    refine W.seq ?_
    refine W.region rfl ?_
    refine WL.val (Yl.assign (v := .int .i64 0) rfl) ?_
    refine WL.done ?_
    obtain ⟨o138, hX137, H⟩ := bindE H
    refine W.cutM (fun env_ w_ => ∃ (x126 : TAgenda) (A127 : Option Addr) (c128 : Nat) (n129 : Nat) (p131 : CH) (g133 : Nat) (p134 : CH), env_ 0 = .slice A1 n3 c2 ∧ env_ 1 = .int .i64 a1 ∧ env_ 5 = .pointer (some ⟨g15, o16, none⟩) ∧ Ctx w F D w_ F [CH.row g15 o16 [.slice A127 n129 c128, .map (some g133)], p131, p134] ∧ n129 = x126.q.l.length ∧ Row TEntry.K F p131 (.slice A127 n129 c128) x126.q.l ∧ MRow (Value.int .i64) (Value.int .i64) p134 g133 x126.q.place ∧ o138 = Sum.inl x126) ?_ ?_
    · skip
      refine W.block ?_
      refine W.loop (fun g_ env_ w_ => ∃ (x173 : Int) (x174 : TAgenda) (A175 : Option Addr) (c176 : Nat) (n177 : Nat) (p179 : CH) (g181 : Nat) (p182 : CH), env_ 0 = .slice A1 n3 c2 ∧ env_ 1 = .int .i64 a1 ∧ env_ 5 = .pointer (some ⟨g15, o16, none⟩) ∧ env_ 6 = .int .i64 x173 ∧ Ctx w F D w_ F [CH.row g15 o16 [.slice A175 n177 c176, .map (some g181)], p179, p182] ∧ n177 = x174.q.l.length ∧ Row TEntry.K F p179 (.slice A175 n177 c176) x174.q.l ∧ MRow (Value.int .i64) (Value.int .i64) p182 g181 x174.q.place ∧ juratlaw13_AgendaOnce.l1 g_ a0 x173 x174 = some o138) k ⟨0, r14, A17, c18, n19, p21, g23, p24, rfl, rfl, rfl, rfl, C27, hn20, hR22, hM25, hX137⟩ ?_
      clear hX137
      rintro g_ env_ w_ ⟨x173, x174, A175, c176, n177, p179, g181, p182, ho169, ho170, ho171, ho172, C184, hn178, hR180, hM183, hX137⟩
      rcases g_ with _ | k209
      · exact absurd hX137 (by simp [juratlaw13_AgendaOnce.l1])
      rw [juratlaw13_AgendaOnce.l1] at hX137
      refine W.seq ?_
      refine W.seq ?_
      refine W.region rfl ?_
      refine WL.val (Yl.move (v := .int .i64 x173) ho172) ?_
      refine WL.val (Yl.move (v := .slice A1 n3 c2) ho169) ?_
      refine WL.val (Yl.lenN (A := A1) (l := n3) (q := c2) (n := (a0.length : Int)) rfl Try.underlying22 (by omega)) ?_
      refine WL.val (Yl.lss (m := x173) (n := (a0.length : Int)) (q := decide (x173 < (a0.length : Int))) rfl rfl rfl) ?_
      refine WL.done ?_
      rcases iteE hX137 with ⟨hc210, hX137⟩ | ⟨hc210, hX137⟩
      · skip
        refine W.condT (congrArg Value.bool (decide_eq_true hc210)) ?_
        refine W.skip ?_
        refine W.seq ?_
        refine W.block ?_
        refine W.seq ?_
        refine W.region rfl ?_
        refine WL.val (Yl.move (v := .pointer (some ⟨g15, o16, none⟩)) ho171) ?_
        refine WL.val (Yl.move (v := .slice A1 n3 c2) ho169) ?_
        refine WL.val (Yl.move (v := .int .i64 x173) ho172) ?_
        obtain ⟨hc211, hX137⟩ := guardE hX137
        obtain ⟨b212, of213, hA214, he215⟩ := hS7 (by omega)
        refine WL.val (Yl.elemAddr (i := x173) rfl rfl hA214 Try.underlying22 sz29 (by omega)) ?_
        obtain ⟨cs216, hr217, hx218⟩ := he215 x173.toNat _ (getD_some (d := TEntry.z) (by omega))
        obtain ⟨rfl⟩ := TEntry.open hr217
        refine WL.val (Yl.loadAgg (cs := [.int .i64 ((a0.getD x173.toNat TEntry.z).At), .int .i64 ((a0.getD x173.toNat TEntry.z).ID)]) rfl Try.underlying29 rfl sz29 (fun j u hu => by rw [add_of]; exact ((C184.fro)).cell (hx218 _ _ hu))) ?_
        obtain ⟨⟨r220, r221⟩, hg219, hX137⟩ := bindE hX137
        refine WL.call (args := #[.pointer (some ⟨g15, o16, none⟩), .agg (List.toArray [.int .i64 ((a0.getD x173.toNat TEntry.z).At), .int .i64 ((a0.getD x173.toNat TEntry.z).ID)])]) (Yenter.fn Try.func10 (by kernel_rfl) rfl (argsE (.cons rfl (.cons rfl .nil)))) (agenda_Agenda_Put.calls k209 _ F g15 o16 A175 c176 n177 p179 g181 p182 x174 (a0.getD x173.toNat TEntry.z) (Ctx.pre (qs := [CH.row g15 o16 [.slice A175 n177 c176, .map (some g181)], p179, p182]) (rest := []) C184) hn178 hR180 hM183 r220 r221 hg219) ?_
        rintro e_ w_ ⟨A222, c223, n224, p226, g228, p229, rfl, C231, hn225, hR227, hM230⟩
        refine ⟨_, rfl, ?_⟩
        have C232 : Ctx _ _ _ _ F [CH.row g15 o16 [.slice A222 n224 c223, .map (some g228)], p226, p229] := Ctx.call (qs := [CH.row g15 o16 [.slice A175 n177 c176, .map (some g181)], p179, p182]) (rest := []) C184 C231
        refine WL.val (Yl.neq (m := r220) (n := 0) (q := !decide (r220 = 0)) rfl rfl rfl) ?_
        refine WL.done ?_
        rcases iteE hX137 with ⟨hc233, hX137⟩ | ⟨hc233, hX137⟩
        · skip
          refine W.condF (congrArg Value.bool (ndec_t hc233)) ?_
          refine W.skip ?_
          refine inB_n ?_
          refine W.region rfl ?_
          refine WL.val (Yl.move (v := .int .i64 x173) ho172) ?_
          refine WL.val (Yl.add (m := x173) (n := 1) (r := wi64 (x173 + 1)) rfl rfl rfl) ?_
          refine WL.val (Yl.assign (v := .int .i64 (wi64 (x173 + 1))) rfl) ?_
          refine WL.done ?_
          exact thenE_n ⟨k209, Nat.lt_succ_self _, wi64 (x173 + 1), r221, A222, c223, n224, p226, g228, p229, ho169, ho170, ho171, rfl, C232, hn225, hR227, hM230, hX137⟩
        · skip
          refine W.condT (congrArg Value.bool (ndec_f hc233)) ?_
          refine W.seq ?_
          refine W.region rfl ?_
          refine WL.val (Yl.assign (v := .bool false) rfl) ?_
          refine WL.done ?_
          refine W.ret ?_
          refine inB_r ?_
          refine thenE_r ?_
          refine thenE_r ?_
          refine inB_r ?_
          refine thenE_r ?_
          refine thenE_r ?_
          cases hX137
          replace H := sumE_r H
          have C234 : Ctx _ _ _ _ F [p226, p229] := Ctx.drop [] [p226, p229] C232
          have C235 : Ctx _ _ _ _ F [p229] := Ctx.drop [] [p229] C234
          have C236 : Ctx _ _ _ _ F [] := Ctx.drop [] [] C235
          cases H
          exact post_r (resE1 rfl rfl) ⟨rfl, C236⟩
      · skip
        refine W.condF (congrArg Value.bool (decide_eq_false hc210)) ?_
        refine W.exit ?_
        refine thenE_x ?_
        refine thenE_x ?_
        refine inB_here ?_
        cases hX137
        refine thenE_n ?_
        exact ⟨x174, A175, c176, n177, p179, g181, p182, ho169, ho170, ho171, C184, hn178, hR180, hM183, rfl⟩
    · skip
      rintro env_ w_ ⟨x126, A127, c128, n129, p131, g133, p134, ho123, ho124, ho125, C136, hn130, hR132, hM135, rfl⟩
      replace H := sumE_l H
      refine W.seq ?_
      refine W.region rfl ?_
      refine WL.val (Yl.move (v := .pointer (some ⟨g15, o16, none⟩)) ho125) ?_
      refine WL.val (Yl.move (v := .int .i64 a1) ho124) ?_
      obtain ⟨⟨r238, r239⟩, hg237, H⟩ := bindE H
      refine WL.call (args := #[.pointer (some ⟨g15, o16, none⟩), .int .i64 a1]) (Yenter.fn Try.func11 (by kernel_rfl) rfl (argsE (.cons rfl (.cons rfl .nil)))) (agenda_Agenda_Due.calls k _ F g15 o16 A127 c128 n129 p131 g133 p134 x126 a1 (Ctx.pre (qs := [CH.row g15 o16 [.slice A127 n129 c128, .map (some g133)], p131, p134]) (rest := []) C136) hn130 hR132 hM135 r238 r239 hg237) ?_
      rintro e_ w_ ⟨A240, c241, n242, p244, A246, c247, n248, p250, g252, p253, rfl, C255, hn243, hR245, hn249, hR251, hM254⟩
      refine ⟨_, rfl, ?_⟩
      have C256 : Ctx _ _ _ _ F [CH.row g15 o16 [.slice A246 n248 c247, .map (some g252)], p250, p253, p244] := Ctx.call (qs := [CH.row g15 o16 [.slice A127 n129 c128, .map (some g133)], p131, p134]) (rest := []) C136 C255
      refine WL.val (Yl.assign (v := .slice A240 n242 c241) rfl) ?_
      refine WL.done ?_
      refine W.seq ?_
      refine W.region rfl ?_
      refine WL.val (Yl.move (v := .pointer (some ⟨g15, o16, none⟩)) ho125) ?_
      obtain ⟨⟨r258, r259⟩, hg257, H⟩ := bindE H
      refine WL.call (args := #[.pointer (some ⟨g15, o16, none⟩), .int .i64 9223372036854775807]) (Yenter.fn Try.func11 (by kernel_rfl) rfl (argsE (.cons rfl (.cons rfl .nil)))) (agenda_Agenda_Due.calls k _ F g15 o16 A246 c247 n248 p250 g252 p253 r239 9223372036854775807 (Ctx.pre (qs := [CH.row g15 o16 [.slice A246 n248 c247, .map (some g252)], p250, p253]) (rest := [p244]) C256) hn249 hR251 hM254 r258 r259 hg257) ?_
      rintro e_ w_ ⟨A260, c261, n262, p264, A266, c267, n268, p270, g272, p273, rfl, C275, hn263, hR265, hn269, hR271, hM274⟩
      refine ⟨_, rfl, ?_⟩
      have C276 : Ctx _ _ _ _ F [CH.row g15 o16 [.slice A266 n268 c267, .map (some g272)], p270, p273, p264, p244] := Ctx.call (qs := [CH.row g15 o16 [.slice A246 n248 c247, .map (some g252)], p250, p253]) (rest := [p244]) C256 C275
      refine WL.val (Yl.assign (v := .slice A260 n262 c261) rfl) ?_
      refine WL.done ?_
      refine W.seq ?_
      refine W.region rfl ?_
      obtain ⟨A277, c278, n279, p280, w281, hn282, hy283, C284, hR285⟩ := ev_lit0 (P := Try.prog) 29 TEntry.K C276 Try.underlying22 ti29
      refine WL.val (hy283 _ _) ?_
      refine WL.val (Yl.move (v := .slice A240 n242 c241) rfl) ?_
      obtain ⟨hc286, H⟩ := guardE H
      obtain ⟨A287, c288, n289, p290, w291, hn292, hy293, C294, hR295⟩ := ev_append' (P := Try.prog) (cb := c241) 29 TEntry.K [] [CH.row g15 o16 [.slice A266 n268 c267, .map (some g272)], p270, p273, p264, p244] C284 hR285 hn243 (Row.sl hR245) (Ctx.sub_of [p280, CH.row g15 o16 [.slice A266 n268 c267, .map (some g272)], p270, p273, p264] [] C284) Try.underlying22 ti29 rfl zo29 (by decide) (by decide) (by simpa using hc286)
      have C296 : Ctx _ _ _ _ F [p290, CH.row g15 o16 [.slice A266 n268 c267, .map (some g272)], p270, p273, p264, p244] := C294
      rw [List.nil_append] at hn292 hR295
      refine WL.val (hy293 _ _ _ _ rfl rfl) ?_
      refine WL.val (Yl.move (v := .slice A260 n262 c261) rfl) ?_
      obtain ⟨hc297, H⟩ := guardE H
      obtain ⟨A298, c299, n300, p301, w302, hn303, hy304, C305, hR306⟩ := ev_append' (P := Try.prog) (cb := c261) 29 TEntry.K [] [CH.row g15 o16 [.slice A266 n268 c267, .map (some g272)], p270, p273, p264, p244] C296 hR295 hn263 (Row.sl hR265) (Ctx.sub_of [p290, CH.row g15 o16 [.slice A266 n268 c267, .map (some g272)], p270, p273] [p244] C296) Try.underlying22 ti29 rfl zo29 (by decide) (by decide) (by simpa using hc297)
      have C307 : Ctx _ _ _ _ F [p301, CH.row g15 o16 [.slice A266 n268 c267, .map (some g272)], p270, p273, p264, p244] := C305
      refine WL.val (hy304 _ _ _ _ rfl rfl) ?_
      refine WL.val (Yl.assign (v := .slice A298 n300 c299) rfl) ?_
      refine WL.done ?_
      refine W.seq ?_
      refine W.seq ?_
      refine W.region rfl ?_
      refine WL.val (Yl.assign (v := .int .i64 0) rfl) ?_
      refine WL.done ?_
      obtain ⟨o518, hX517, H⟩ := bindE H
      refine W.cutM (fun env_ w_ => env_ 0 = .slice A1 n3 c2 ∧ env_ 5 = .pointer (some ⟨g15, o16, none⟩) ∧ env_ 9 = .slice A298 n300 c299 ∧ Ctx w F D w_ F [p301, CH.row g15 o16 [.slice A266 n268 c267, .map (some g272)], p270, p273, p264, p244] ∧ o518 = Sum.inl ()) ?_ ?_
      · skip
        refine W.block ?_
        refine W.loop (fun g_ env_ w_ => ∃ (x525 : Int), env_ 0 = .slice A1 n3 c2 ∧ env_ 1 = .int .i64 a1 ∧ env_ 5 = .pointer (some ⟨g15, o16, none⟩) ∧ env_ 7 = .slice A240 n242 c241 ∧ env_ 9 = .slice A298 n300 c299 ∧ env_ 10 = .int .i64 x525 ∧ Ctx w F D w_ F [p301, CH.row g15 o16 [.slice A266 n268 c267, .map (some g272)], p270, p273, p264, p244] ∧ juratlaw13_AgendaOnce.l2 g_ a1 r238 r258 x525 = some o518) k ⟨0, ho123, ho124, ho125, rfl, rfl, rfl, C307, hX517⟩ ?_
        clear hX517
        rintro g_ env_ w_ ⟨x525, ho519, ho520, ho521, ho522, ho523, ho524, C526, hX517⟩
        rcases g_ with _ | k625
        · exact absurd hX517 (by simp [juratlaw13_AgendaOnce.l2])
        rw [juratlaw13_AgendaOnce.l2] at hX517
        refine W.seq ?_
        refine W.seq ?_
        refine W.region rfl ?_
        refine WL.val (Yl.move (v := .int .i64 x525) ho524) ?_
        refine WL.val (Yl.move (v := .slice A298 n300 c299) ho523) ?_
        refine WL.val (Yl.lenN (A := A298) (l := n300) (q := c299) (n := ((r238 ++ r258).length : Int)) rfl Try.underlying22 (by omega)) ?_
        refine WL.val (Yl.lss (m := x525) (n := ((r238 ++ r258).length : Int)) (q := decide (x525 < ((r238 ++ r258).length : Int))) rfl rfl rfl) ?_
        refine WL.done ?_
        rcases iteE hX517 with ⟨hc626, hX517⟩ | ⟨hc626, hX517⟩
        · skip
          refine W.condT (congrArg Value.bool (decide_eq_true hc626)) ?_
          refine W.skip ?_
          refine W.seq ?_
          refine W.block ?_
          refine W.seq ?_
          refine W.seq ?_
          refine W.region_quiet (by kernel_rfl) (by kernel_rfl) rfl ?_
          refine WQ.val (fun _ hw => by obtain ⟨_, rfl⟩ := hw; exact Yl.move (v := .int .i64 x525) ho524) ?_
          refine WQ.val (fun _ hw => by obtain ⟨_, rfl⟩ := hw; exact Yl.move (v := .slice A240 n242 c241) ho522) ?_
          refine WQ.val (fun _ hw => by obtain ⟨_, rfl⟩ := hw; exact Yl.lenN (A := A240) (l := n242) (q := c241) (n := (r238.length : Int)) rfl Try.underlying22 (by omega)) ?_
          refine WQ.val (fun _ hw => by obtain ⟨_, rfl⟩ := hw; exact Yl.lss (m := x525) (n := (r238.length : Int)) (q := decide (x525 < (r238.length : Int))) rfl rfl rfl) ?_
          refine WQ.val (fun _ hw => by obtain ⟨_, rfl⟩ := hw; exact Yl.move (v := .slice A298 n300 c299) ho523) ?_
          refine WQ.val (fun _ hw => by obtain ⟨_, rfl⟩ := hw; exact Yl.move (v := .int .i64 x525) ho524) ?_
          obtain ⟨hc635, hX517⟩ := guardE hX517
          obtain ⟨b636, of637, hA638, he639⟩ := (Row.sl hR306) (by omega)
          refine WQ.val (fun _ hw => by obtain ⟨_, rfl⟩ := hw; exact Yl.elemAddr (i := x525) rfl rfl hA638 Try.underlying22 sz29 (by omega)) ?_
          refine WQ.val (fun _ hw => by obtain ⟨_, rfl⟩ := hw; exact Yl.fieldAddr (i := 0) rfl Try.underlying29 rfl sz3) ?_
          obtain ⟨cs640, hr641, hx642⟩ := he639 x525.toNat _ (getD_some (d := TEntry.z) (by omega))
          obtain ⟨rfl⟩ := TEntry.open hr641
          refine WQ.val (fun _ hw => by obtain ⟨_, rfl⟩ := hw; exact Yl.load (v := .int .i64 (((r238 ++ r258).getD x525.toNat TEntry.z).At)) rfl Try.underlying3 rfl (((Ctx.sub_of [] [CH.row g15 o16 [.slice A266 n268 c267, .map (some g272)], p270, p273, p264, p244] (C526.drewN _))).cell (hx642 0 _ rfl))) ?_
          refine WQ.val (fun _ hw => by obtain ⟨_, rfl⟩ := hw; exact Yl.move (v := .int .i64 a1) ho520) ?_
          refine WQ.val (fun _ hw => by obtain ⟨_, rfl⟩ := hw; exact Yl.leq (m := ((r238 ++ r258).getD x525.toNat TEntry.z).At) (n := a1) (q := decide ((((r238 ++ r258).getD x525.toNat TEntry.z).At) ≤ a1)) rfl rfl rfl) ?_
          refine WQ.val (fun _ hw => by obtain ⟨_, rfl⟩ := hw; exact Yl.bneD (p := decide (x525 < (r238.length : Int))) (q := decide ((((r238 ++ r258).getD x525.toNat TEntry.z).At) ≤ a1)) rfl rfl Try.underlying4) ?_
          refine WQ.val (fun _ hw => by obtain ⟨_, rfl⟩ := hw; exact Yl.move (v := .bool (!decide ((decide (x525 < (r238.length : Int))) = (decide ((((r238 ++ r258).getD x525.toNat TEntry.z).At) ≤ a1))))) rfl) ?_
          obtain ⟨g643, HE644, hX517⟩ := bindE hX517
          refine WQ.cut (fun env_ => env_ 108 = .bool g643 ∧ env_ 0 = .slice A1 n3 c2 ∧ env_ 1 = .int .i64 a1 ∧ env_ 5 = .pointer (some ⟨g15, o16, none⟩) ∧ env_ 7 = .slice A240 n242 c241 ∧ env_ 9 = .slice A298 n300 c299 ∧ env_ 10 = .int .i64 x525) ?_ ?_
          · skip
            rcases iteE HE644 with ⟨hc645, HE644⟩ | ⟨hc645, HE644⟩
            · skip
              refine WQ.on rfl (congrArg Value.bool (ndec_t hc645)) ?_
              refine WQ.val (fun _ hw => by obtain ⟨_, rfl⟩ := hw; exact Yl.move (v := .int .i64 x525) ho524) ?_
              refine WQ.on rfl (congrArg Value.bool (ndec_t hc645)) ?_
              refine WQ.val (fun _ hw => by obtain ⟨_, rfl⟩ := hw; exact Yl.gtr (m := x525) (n := 0) (q := decide (x525 > 0)) rfl rfl rfl) ?_
              refine WQ.on rfl (congrArg Value.bool (ndec_t hc645)) ?_
              refine WQ.val (fun _ hw => by obtain ⟨_, rfl⟩ := hw; exact Yl.move (v := .bool (decide (x525 > 0))) rfl) ?_
              rcases iteE HE644 with ⟨hc646, HE644⟩ | ⟨hc646, HE644⟩
              · skip
                refine WQ.on rfl (congrArg Value.bool (decide_eq_true hc646)) ?_
                refine WQ.val (fun _ hw => by obtain ⟨_, rfl⟩ := hw; exact Yl.move (v := .slice A298 n300 c299) ho523) ?_
                refine WQ.on rfl (congrArg Value.bool (decide_eq_true hc646)) ?_
                refine WQ.val (fun _ hw => by obtain ⟨_, rfl⟩ := hw; exact Yl.move (v := .int .i64 x525) ho524) ?_
                refine WQ.on rfl (congrArg Value.bool (decide_eq_true hc646)) ?_
                refine WQ.val (fun _ hw => by obtain ⟨_, rfl⟩ := hw; exact Yl.sub (m := x525) (n := 1) (r := wi64 (x525 - 1)) rfl rfl rfl) ?_
                refine WQ.on rfl (congrArg Value.bool (decide_eq_true hc646)) ?_
                obtain ⟨hc647, HE644⟩ := guardE HE644
                refine WQ.val (fun _ hw => by obtain ⟨_, rfl⟩ := hw; exact Yl.elemAddr (i := wi64 (x525 - 1)) rfl rfl hA638 Try.underlying22 sz29 (by omega)) ?_
                refine WQ.on rfl (congrArg Value.bool (decide_eq_true hc646)) ?_
                refine WQ.val (fun _ hw => by obtain ⟨_, rfl⟩ := hw; exact Yl.fieldAddr (i := 0) rfl Try.underlying29 rfl sz3) ?_
                refine WQ.on rfl (congrArg Value.bool (decide_eq_true hc646)) ?_
                obtain ⟨cs648, hr649, hx650⟩ := he639 (wi64 (x525 - 1)).toNat _ (getD_some (d := TEntry.z) (by omega))
                obtain ⟨rfl⟩ := TEntry.open hr649
                refine WQ.val (fun _ hw => by obtain ⟨_, rfl⟩ := hw; exact Yl.load (v := .int .i64 (((r238 ++ r258).getD (wi64 (x525 - 1)).toNat TEntry.z).At)) rfl Try.underlying3 rfl (((Ctx.sub_of [] [CH.row g15 o16 [.slice A266 n268 c267, .map (some g272)], p270, p273, p264, p244] (C526.drewN _))).cell (hx650 0 _ rfl))) ?_
                refine WQ.on rfl (congrArg Value.bool (decide_eq_true hc646)) ?_
                refine WQ.val (fun _ hw => by obtain ⟨_, rfl⟩ := hw; exact Yl.move (v := .slice A298 n300 c299) ho523) ?_
                refine WQ.on rfl (congrArg Value.bool (decide_eq_true hc646)) ?_
                refine WQ.val (fun _ hw => by obtain ⟨_, rfl⟩ := hw; exact Yl.move (v := .int .i64 x525) ho524) ?_
                refine WQ.on rfl (congrArg Value.bool (decide_eq_true hc646)) ?_
                refine WQ.val (fun _ hw => by obtain ⟨_, rfl⟩ := hw; exact Yl.elemAddr (i := x525) rfl rfl hA638 Try.underlying22 sz29 (by omega)) ?_
                refine WQ.on rfl (congrArg Value.bool (decide_eq_true hc646)) ?_
                refine WQ.val (fun _ hw => by obtain ⟨_, rfl⟩ := hw; exact Yl.fieldAddr (i := 0) rfl Try.underlying29 rfl sz3) ?_
                refine WQ.on rfl (congrArg Value.bool (decide_eq_true hc646)) ?_
                refine WQ.val (fun _ hw => by obtain ⟨_, rfl⟩ := hw; exact Yl.load (v := .int .i64 (((r238 ++ r258).getD x525.toNat TEntry.z).At)) rfl Try.underlying3 rfl (((Ctx.sub_of [] [CH.row g15 o16 [.slice A266 n268 c267, .map (some g272)], p270, p273, p264, p244] (C526.drewN _))).cell (hx642 0 _ rfl))) ?_
                refine WQ.on rfl (congrArg Value.bool (decide_eq_true hc646)) ?_
                refine WQ.val (fun _ hw => by obtain ⟨_, rfl⟩ := hw; exact Yl.gtr (m := ((r238 ++ r258).getD (wi64 (x525 - 1)).toNat TEntry.z).At) (n := ((r238 ++ r258).getD x525.toNat TEntry.z).At) (q := decide ((((r238 ++ r258).getD (wi64 (x525 - 1)).toNat TEntry.z).At) > (((r238 ++ r258).getD x525.toNat TEntry.z).At))) rfl rfl rfl) ?_
                refine WQ.on rfl (congrArg Value.bool (decide_eq_true hc646)) ?_
                refine WQ.val (fun _ hw => by obtain ⟨_, rfl⟩ := hw; exact Yl.move (v := .bool (decide ((((r238 ++ r258).getD (wi64 (x525 - 1)).toNat TEntry.z).At) > (((r238 ++ r258).getD x525.toNat TEntry.z).At)))) rfl) ?_
                rcases iteE HE644 with ⟨hc651, HE644⟩ | ⟨hc651, HE644⟩
                · skip
                  refine WQ.off rfl (congrArg Value.bool (decide_eq_true hc651)) ?_
                  refine WQ.off rfl (congrArg Value.bool (decide_eq_true hc651)) ?_
                  refine WQ.off rfl (congrArg Value.bool (decide_eq_true hc651)) ?_
                  refine WQ.off rfl (congrArg Value.bool (decide_eq_true hc651)) ?_
                  refine WQ.off rfl (congrArg Value.bool (decide_eq_true hc651)) ?_
                  refine WQ.off rfl (congrArg Value.bool (decide_eq_true hc651)) ?_
                  refine WQ.off rfl (congrArg Value.bool (decide_eq_true hc651)) ?_
                  refine WQ.off rfl (congrArg Value.bool (decide_eq_true hc651)) ?_
                  refine WQ.off rfl (congrArg Value.bool (decide_eq_true hc651)) ?_
                  refine WQ.off rfl (congrArg Value.bool (decide_eq_true hc651)) ?_
                  refine WQ.off rfl (congrArg Value.bool (decide_eq_true hc651)) ?_
                  refine WQ.off rfl (congrArg Value.bool (decide_eq_true hc651)) ?_
                  refine WQ.off rfl (congrArg Value.bool (decide_eq_true hc651)) ?_
                  refine WQ.off' rfl rfl ?_
                  refine WQ.off' rfl rfl ?_
                  refine WQ.off' rfl rfl ?_
                  refine WQ.off' rfl rfl ?_
                  refine WQ.off' rfl rfl ?_
                  refine WQ.off' rfl rfl ?_
                  refine WQ.off' rfl rfl ?_
                  refine WQ.off' rfl rfl ?_
                  refine WQ.off' rfl rfl ?_
                  refine WQ.off' rfl rfl ?_
                  refine WQ.off' rfl rfl ?_
                  refine WQ.off' rfl rfl ?_
                  refine WQ.off rfl (congrArg Value.bool (decide_eq_true hc651)) ?_
                  refine WQ.on rfl (congrArg Value.bool (decide_eq_true hc646)) ?_
                  refine WQ.val (fun _ hw => by obtain ⟨_, rfl⟩ := hw; exact Yl.pickT (v := .bool true) (congrArg Value.bool (decide_eq_true hc651)) rfl) ?_
                  refine WQ.on rfl (congrArg Value.bool (ndec_t hc645)) ?_
                  refine WQ.val (fun _ hw => by obtain ⟨_, rfl⟩ := hw; exact Yl.pickT (v := .bool true) (congrArg Value.bool (decide_eq_true hc646)) rfl) ?_
                  refine WQ.val (fun _ hw => by obtain ⟨_, rfl⟩ := hw; exact Yl.pickF (v := .bool true) (congrArg Value.bool (ndec_t hc645)) rfl) ?_
                  cases HE644
                  exact WQ.done ⟨rfl, ho519, ho520, ho521, ho522, ho523, ho524⟩
                · skip
                  refine WQ.on rfl (congrArg Value.bool (decide_eq_false hc651)) ?_
                  refine WQ.val (fun _ hw => by obtain ⟨_, rfl⟩ := hw; exact Yl.move (v := .slice A298 n300 c299) ho523) ?_
                  refine WQ.on rfl (congrArg Value.bool (decide_eq_false hc651)) ?_
                  refine WQ.val (fun _ hw => by obtain ⟨_, rfl⟩ := hw; exact Yl.move (v := .int .i64 x525) ho524) ?_
                  refine WQ.on rfl (congrArg Value.bool (decide_eq_false hc651)) ?_
                  refine WQ.val (fun _ hw => by obtain ⟨_, rfl⟩ := hw; exact Yl.sub (m := x525) (n := 1) (r := wi64 (x525 - 1)) rfl rfl rfl) ?_
                  refine WQ.on rfl (congrArg Value.bool (decide_eq_false hc651)) ?_
                  refine WQ.val (fun _ hw => by obtain ⟨_, rfl⟩ := hw; exact Yl.elemAddr (i := wi64 (x525 - 1)) rfl rfl hA638 Try.underlying22 sz29 (by omega)) ?_
                  refine WQ.on rfl (congrArg Value.bool (decide_eq_false hc651)) ?_
                  refine WQ.val (fun _ hw => by obtain ⟨_, rfl⟩ := hw; exact Yl.fieldAddr (i := 0) rfl Try.underlying29 rfl sz3) ?_
                  refine WQ.on rfl (congrArg Value.bool (decide_eq_false hc651)) ?_
                  refine WQ.val (fun _ hw => by obtain ⟨_, rfl⟩ := hw; exact Yl.load (v := .int .i64 (((r238 ++ r258).getD (wi64 (x525 - 1)).toNat TEntry.z).At)) rfl Try.underlying3 rfl (((Ctx.sub_of [] [CH.row g15 o16 [.slice A266 n268 c267, .map (some g272)], p270, p273, p264, p244] (C526.drewN _))).cell (hx650 0 _ rfl))) ?_
                  refine WQ.on rfl (congrArg Value.bool (decide_eq_false hc651)) ?_
                  refine WQ.val (fun _ hw => by obtain ⟨_, rfl⟩ := hw; exact Yl.move (v := .slice A298 n300 c299) ho523) ?_
                  refine WQ.on rfl (congrArg Value.bool (decide_eq_false hc651)) ?_
                  refine WQ.val (fun _ hw => by obtain ⟨_, rfl⟩ := hw; exact Yl.move (v := .int .i64 x525) ho524) ?_
                  refine WQ.on rfl (congrArg Value.bool (decide_eq_false hc651)) ?_
                  refine WQ.val (fun _ hw => by obtain ⟨_, rfl⟩ := hw; exact Yl.elemAddr (i := x525) rfl rfl hA638 Try.underlying22 sz29 (by omega)) ?_
                  refine WQ.on rfl (congrArg Value.bool (decide_eq_false hc651)) ?_
                  refine WQ.val (fun _ hw => by obtain ⟨_, rfl⟩ := hw; exact Yl.fieldAddr (i := 0) rfl Try.underlying29 rfl sz3) ?_
                  refine WQ.on rfl (congrArg Value.bool (decide_eq_false hc651)) ?_
                  refine WQ.val (fun _ hw => by obtain ⟨_, rfl⟩ := hw; exact Yl.load (v := .int .i64 (((r238 ++ r258).getD x525.toNat TEntry.z).At)) rfl Try.underlying3 rfl (((Ctx.sub_of [] [CH.row g15 o16 [.slice A266 n268 c267, .map (some g272)], p270, p273, p264, p244] (C526.drewN _))).cell (hx642 0 _ rfl))) ?_
                  refine WQ.on rfl (congrArg Value.bool (decide_eq_false hc651)) ?_
                  refine WQ.val (fun _ hw => by obtain ⟨_, rfl⟩ := hw; exact Yl.eql (m := ((r238 ++ r258).getD (wi64 (x525 - 1)).toNat TEntry.z).At) (n := ((r238 ++ r258).getD x525.toNat TEntry.z).At) (q := decide ((((r238 ++ r258).getD (wi64 (x525 - 1)).toNat TEntry.z).At) = (((r238 ++ r258).getD x525.toNat TEntry.z).At))) rfl rfl rfl) ?_
                  refine WQ.on rfl (congrArg Value.bool (decide_eq_false hc651)) ?_
                  refine WQ.val (fun _ hw => by obtain ⟨_, rfl⟩ := hw; exact Yl.move (v := .bool (decide ((((r238 ++ r258).getD (wi64 (x525 - 1)).toNat TEntry.z).At) = (((r238 ++ r258).getD x525.toNat TEntry.z).At)))) rfl) ?_
                  rcases iteE HE644 with ⟨hc652, HE644⟩ | ⟨hc652, HE644⟩
                  · skip
                    refine WQ.on rfl (congrArg Value.bool (decide_eq_true hc652)) ?_
                    refine WQ.val (fun _ hw => by obtain ⟨_, rfl⟩ := hw; exact Yl.move (v := .slice A298 n300 c299) ho523) ?_
                    refine WQ.on rfl (congrArg Value.bool (decide_eq_true hc652)) ?_
                    refine WQ.val (fun _ hw => by obtain ⟨_, rfl⟩ := hw; exact Yl.move (v := .int .i64 x525) ho524) ?_
                    refine WQ.on rfl (congrArg Value.bool (decide_eq_true hc652)) ?_
                    refine WQ.val (fun _ hw => by obtain ⟨_, rfl⟩ := hw; exact Yl.sub (m := x525) (n := 1) (r := wi64 (x525 - 1)) rfl rfl rfl) ?_
                    refine WQ.on rfl (congrArg Value.bool (decide_eq_true hc652)) ?_
                    refine WQ.val (fun _ hw => by obtain ⟨_, rfl⟩ := hw; exact Yl.elemAddr (i := wi64 (x525 - 1)) rfl rfl hA638 Try.underlying22 sz29 (by omega)) ?_
                    refine WQ.on rfl (congrArg Value.bool (decide_eq_true hc652)) ?_
                    refine WQ.val (fun _ hw => by obtain ⟨_, rfl⟩ := hw; exact Yl.fieldAddr (i := 1) rfl Try.underlying29 rfl sz3) ?_
                    refine WQ.on rfl (congrArg Value.bool (decide_eq_true hc652)) ?_
                    refine WQ.val (fun _ hw => by obtain ⟨_, rfl⟩ := hw; exact Yl.load (v := .int .i64 (((r238 ++ r258).getD (wi64 (x525 - 1)).toNat TEntry.z).ID)) rfl Try.underlying3 rfl (((Ctx.sub_of [] [CH.row g15 o16 [.slice A266 n268 c267, .map (some g272)], p270, p273, p264, p244] (C526.drewN _))).cell (hx650 1 _ rfl))) ?_
                    refine WQ.on rfl (congrArg Value.bool (decide_eq_true hc652)) ?_
                    refine WQ.val (fun _ hw => by obtain ⟨_, rfl⟩ := hw; exact Yl.move (v := .slice A298 n300 c299) ho523) ?_
                    refine WQ.on rfl (congrArg Value.bool (decide_eq_true hc652)) ?_
                    refine WQ.val (fun _ hw => by obtain ⟨_, rfl⟩ := hw; exact Yl.move (v := .int .i64 x525) ho524) ?_
                    refine WQ.on rfl (congrArg Value.bool (decide_eq_true hc652)) ?_
                    refine WQ.val (fun _ hw => by obtain ⟨_, rfl⟩ := hw; exact Yl.elemAddr (i := x525) rfl rfl hA638 Try.underlying22 sz29 (by omega)) ?_
                    refine WQ.on rfl (congrArg Value.bool (decide_eq_true hc652)) ?_
                    refine WQ.val (fun _ hw => by obtain ⟨_, rfl⟩ := hw; exact Yl.fieldAddr (i := 1) rfl Try.underlying29 rfl sz3) ?_
                    refine WQ.on rfl (congrArg Value.bool (decide_eq_true hc652)) ?_
                    refine WQ.val (fun _ hw => by obtain ⟨_, rfl⟩ := hw; exact Yl.load (v := .int .i64 (((r238 ++ r258).getD x525.toNat TEntry.z).ID)) rfl Try.underlying3 rfl (((Ctx.sub_of [] [CH.row g15 o16 [.slice A266 n268 c267, .map (some g272)], p270, p273, p264, p244] (C526.drewN _))).cell (hx642 1 _ rfl))) ?_
                    refine WQ.on rfl (congrArg Value.bool (decide_eq_true hc652)) ?_
                    refine WQ.val (fun _ hw => by obtain ⟨_, rfl⟩ := hw; exact Yl.geq (m := ((r238 ++ r258).getD (wi64 (x525 - 1)).toNat TEntry.z).ID) (n := ((r238 ++ r258).getD x525.toNat TEntry.z).ID) (q := decide ((((r238 ++ r258).getD (wi64 (x525 - 1)).toNat TEntry.z).ID) ≥ (((r238 ++ r258).getD x525.toNat TEntry.z).ID))) rfl rfl rfl) ?_
                    refine WQ.on rfl (congrArg Value.bool (decide_eq_false hc651)) ?_
                    refine WQ.val (fun _ hw => by obtain ⟨_, rfl⟩ := hw; exact Yl.pickT (v := .bool (decide ((((r238 ++ r258).getD (wi64 (x525 - 1)).toNat TEntry.z).ID) ≥ (((r238 ++ r258).getD x525.toNat TEntry.z).ID)))) (congrArg Value.bool (decide_eq_true hc652)) rfl) ?_
                    refine WQ.on rfl (congrArg Value.bool (decide_eq_true hc646)) ?_
                    refine WQ.val (fun _ hw => by obtain ⟨_, rfl⟩ := hw; exact Yl.pickF (v := .bool (decide ((((r238 ++ r258).getD (wi64 (x525 - 1)).toNat TEntry.z).ID) ≥ (((r238 ++ r258).getD x525.toNat TEntry.z).ID)))) (congrArg Value.bool (decide_eq_false hc651)) rfl) ?_
                    refine WQ.on rfl (congrArg Value.bool (ndec_t hc645)) ?_
                    refine WQ.val (fun _ hw => by obtain ⟨_, rfl⟩ := hw; exact Yl.pickT (v := .bool (decide ((((r238 ++ r258).getD (wi64 (x525 - 1)).toNat TEntry.z).ID) ≥ (((r238 ++ r258).getD x525.toNat TEntry.z).ID)))) (congrArg Value.bool (decide_eq_true hc646)) rfl) ?_
                    refine WQ.val (fun _ hw => by obtain ⟨_, rfl⟩ := hw; exact Yl.pickF (v := .bool (decide ((((r238 ++ r258).getD (wi64 (x525 - 1)).toNat TEntry.z).ID) ≥ (((r238 ++ r258).getD x525.toNat TEntry.z).ID)))) (congrArg Value.bool (ndec_t hc645)) rfl) ?_
                    cases HE644
                    exact WQ.done ⟨rfl, ho519, ho520, ho521, ho522, ho523, ho524⟩
                  · skip
                    refine WQ.off rfl (congrArg Value.bool (decide_eq_false hc652)) ?_
                    refine WQ.off rfl (congrArg Value.bool (decide_eq_false hc652)) ?_
                    refine WQ.off rfl (congrArg Value.bool (decide_eq_false hc652)) ?_
                    refine WQ.off rfl (congrArg Value.bool (decide_eq_false hc652)) ?_
                    refine WQ.off rfl (congrArg Value.bool (decide_eq_false hc652)) ?_
                    refine WQ.off rfl (congrArg Value.bool (decide_eq_false hc652)) ?_
                    refine WQ.off rfl (congrArg Value.bool (decide_eq_false hc652)) ?_
                    refine WQ.off rfl (congrArg Value.bool (decide_eq_false hc652)) ?_
                    refine WQ.off rfl (congrArg Value.bool (decide_eq_false hc652)) ?_
                    refine WQ.off rfl (congrArg Value.bool (decide_eq_false hc652)) ?_
                    refine WQ.off rfl (congrArg Value.bool (decide_eq_false hc652)) ?_
                    refine WQ.off rfl (congrArg Value.bool (decide_eq_false hc652)) ?_
                    refine WQ.on rfl (congrArg Value.bool (decide_eq_false hc651)) ?_
                    refine WQ.val (fun _ hw => by obtain ⟨_, rfl⟩ := hw; exact Yl.pickF (v := .bool false) (congrArg Value.bool (decide_eq_false hc652)) rfl) ?_
                    refine WQ.on rfl (congrArg Value.bool (decide_eq_true hc646)) ?_
                    refine WQ.val (fun _ hw => by obtain ⟨_, rfl⟩ := hw; exact Yl.pickF (v := .bool false) (congrArg Value.bool (decide_eq_false hc651)) rfl) ?_
                    refine WQ.on rfl (congrArg Value.bool (ndec_t hc645)) ?_
                    refine WQ.val (fun _ hw => by obtain ⟨_, rfl⟩ := hw; exact Yl.pickT (v := .bool false) (congrArg Value.bool (decide_eq_true hc646)) rfl) ?_
                    refine WQ.val (fun _ hw => by obtain ⟨_, rfl⟩ := hw; exact Yl.pickF (v := .bool false) (congrArg Value.bool (ndec_t hc645)) rfl) ?_
                    cases HE644
                    exact WQ.done ⟨rfl, ho519, ho520, ho521, ho522, ho523, ho524⟩
              · skip
                refine WQ.off rfl (congrArg Value.bool (decide_eq_false hc646)) ?_
                refine WQ.off rfl (congrArg Value.bool (decide_eq_false hc646)) ?_
                refine WQ.off rfl (congrArg Value.bool (decide_eq_false hc646)) ?_
                refine WQ.off rfl (congrArg Value.bool (decide_eq_false hc646)) ?_
                refine WQ.off rfl (congrArg Value.bool (decide_eq_false hc646)) ?_
                refine WQ.off rfl (congrArg Value.bool (decide_eq_false hc646)) ?_
                refine WQ.off rfl (congrArg Value.bool (decide_eq_false hc646)) ?_
                refine WQ.off rfl (congrArg Value.bool (decide_eq_false hc646)) ?_
                refine WQ.off rfl (congrArg Value.bool (decide_eq_false hc646)) ?_
                refine WQ.off rfl (congrArg Value.bool (decide_eq_false hc646)) ?_
                refine WQ.off rfl (congrArg Value.bool (decide_eq_false hc646)) ?_
                refine WQ.off rfl (congrArg Value.bool (decide_eq_false hc646)) ?_
                refine WQ.off rfl (congrArg Value.bool (decide_eq_false hc646)) ?_
                refine WQ.off' rfl rfl ?_
                refine WQ.off' rfl rfl ?_
                refine WQ.off' rfl rfl ?_
                refine WQ.off' rfl rfl ?_
                refine WQ.off' rfl rfl ?_
                refine WQ.off' rfl rfl ?_
                refine WQ.off' rfl rfl ?_
                refine WQ.off' rfl rfl ?_
                refine WQ.off' rfl rfl ?_
                refine WQ.off' rfl rfl ?_
                refine WQ.off' rfl rfl ?_
                refine WQ.off' rfl rfl ?_
                refine WQ.off' rfl rfl ?_
                refine WQ.off' rfl rfl ?_
                refine WQ.off' rfl rfl ?_
                refine WQ.off' rfl rfl ?_
                refine WQ.off' rfl rfl ?_
                refine WQ.off' rfl rfl ?_
                refine WQ.off' rfl rfl ?_
                refine WQ.off' rfl rfl ?_
                refine WQ.off' rfl rfl ?_
                refine WQ.off' rfl rfl ?_
                refine WQ.off' rfl rfl ?_
                refine WQ.off' rfl rfl ?_
                refine WQ.off' rfl rfl ?_
                refine WQ.off' rfl rfl ?_
                refine WQ.off rfl (congrArg Value.bool (decide_eq_false hc646)) ?_
                refine WQ.on rfl (congrArg Value.bool (ndec_t hc645)) ?_
                refine WQ.val (fun _ hw => by obtain ⟨_, rfl⟩ := hw; exact Yl.pickF (v := .bool false) (congrArg Value.bool (decide_eq_false hc646)) rfl) ?_
                refine WQ.val (fun _ hw => by obtain ⟨_, rfl⟩ := hw; exact Yl.pickF (v := .bool false) (congrArg Value.bool (ndec_t hc645)) rfl) ?_
                cases HE644
                exact WQ.done ⟨rfl, ho519, ho520, ho521, ho522, ho523, ho524⟩
            · skip
              refine WQ.off rfl (congrArg Value.bool (ndec_f hc645)) ?_
              refine WQ.off rfl (congrArg Value.bool (ndec_f hc645)) ?_
              refine WQ.off rfl (congrArg Value.bool (ndec_f hc645)) ?_
              refine WQ.off' rfl rfl ?_
              refine WQ.off' rfl rfl ?_
              refine WQ.off' rfl rfl ?_
              refine WQ.off' rfl rfl ?_
              refine WQ.off' rfl rfl ?_
              refine WQ.off' rfl rfl ?_
              refine WQ.off' rfl rfl ?_
              refine WQ.off' rfl rfl ?_
              refine WQ.off' rfl rfl ?_
              refine WQ.off' rfl rfl ?_
              refine WQ.off' rfl rfl ?_
              refine WQ.off' rfl rfl ?_
              refine WQ.off' rfl rfl ?_
              refine WQ.off' rfl rfl ?_
              refine WQ.off' rfl rfl ?_
              refine WQ.off' rfl rfl ?_
              refine WQ.off' rfl rfl ?_
              refine WQ.off' rfl rfl ?_
              refine WQ.off' rfl rfl ?_
              refine WQ.off' rfl rfl ?_
              refine WQ.off' rfl rfl ?_
              refine WQ.off' rfl rfl ?_
              refine WQ.off' rfl rfl ?_
              refine WQ.off' rfl rfl ?_
              refine WQ.off' rfl rfl ?_
              refine WQ.off' rfl rfl ?_
              refine WQ.off' rfl rfl ?_
              refine WQ.off' rfl rfl ?_
              refine WQ.off' rfl rfl ?_
              refine WQ.off' rfl rfl ?_
              refine WQ.off' rfl rfl ?_
              refine WQ.off' rfl rfl ?_
              refine WQ.off' rfl rfl ?_
              refine WQ.off' rfl rfl ?_
              refine WQ.off' rfl rfl ?_
              refine WQ.off' rfl rfl ?_
              refine WQ.off' rfl rfl ?_
              refine WQ.off' rfl rfl ?_
              refine WQ.off' rfl rfl ?_
              refine WQ.off' rfl rfl ?_
              refine WQ.off rfl (congrArg Value.bool (ndec_f hc645)) ?_
              refine WQ.val (fun _ hw => by obtain ⟨_, rfl⟩ := hw; exact Yl.pickT (v := .bool true) (congrArg Value.bool (ndec_f hc645)) rfl) ?_
              cases HE644
              exact WQ.done ⟨rfl, ho519, ho520, ho521, ho522, ho523, ho524⟩
          · skip
            rintro env_ ⟨ho653, ho654, ho655, ho656, ho657, ho658, ho659⟩
            intro nq660
            have C661 := Ctx.drewN C526 nq660
            rcases iteE hX517 with ⟨hc662, hX517⟩ | ⟨hc662, hX517⟩
            · skip
              refine W.condT (ho653.trans (congrArg Value.bool hc662)) ?_
              refine W.seq ?_
              refine W.region rfl ?_
              refine WL.val (Yl.assign (v := .bool false) rfl) ?_
              refine WL.done ?_
              refine W.ret ?_
              refine thenE_r ?_
              refine inB_r ?_
              refine thenE_r ?_
              refine thenE_r ?_
              refine inB_r ?_
              refine thenE_r ?_
              refine thenE_r ?_
              cases hX517
              replace H := sumE_r H
              have C663 : Ctx _ _ _ _ F [CH.row g15 o16 [.slice A266 n268 c267, .map (some g272)], p270, p273, p264, p244] := Ctx.drop [] [CH.row g15 o16 [.slice A266 n268 c267, .map (some g272)], p270, p273, p264, p244] C661
              have C664 : Ctx _ _ _ _ F [p270, p273, p264, p244] := Ctx.drop [] [p270, p273, p264, p244] C663
              have C665 : Ctx _ _ _ _ F [p273, p264, p244] := Ctx.drop [] [p273, p264, p244] C664
              have C666 : Ctx _ _ _ _ F [p264, p244] := Ctx.drop [] [p264, p244] C665
              have C667 : Ctx _ _ _ _ F [p244] := Ctx.drop [] [p244] C666
              have C668 : Ctx _ _ _ _ F [] := Ctx.drop [] [] C667
              cases H
              exact post_r (resE1 rfl rfl) ⟨rfl, C668⟩
            · skip
              refine W.condF (ho653.trans (congrArg Value.bool (Bool.eq_false_iff.2 hc662))) ?_
              refine W.skip ?_
              refine W.seq ?_
              refine W.region rfl ?_
              refine WL.val (Yl.assign (v := .int .i64 0) rfl) ?_
              refine WL.done ?_
              obtain ⟨o703, hX702, hX517⟩ := bindE hX517
              refine W.cutM (fun env_ w_ => env_ 0 = .slice A1 n3 c2 ∧ env_ 1 = .int .i64 a1 ∧ env_ 5 = .pointer (some ⟨g15, o16, none⟩) ∧ env_ 7 = .slice A240 n242 c241 ∧ env_ 9 = .slice A298 n300 c299 ∧ env_ 10 = .int .i64 x525 ∧ Ctx w F D w_ F [p301, CH.row g15 o16 [.slice A266 n268 c267, .map (some g272)], p270, p273, p264, p244] ∧ o703 = Sum.inl ()) ?_ ?_
              · skip
                refine W.block ?_
                refine W.loop (fun g_ env_ w_ => ∃ (x711 : Int), env_ 0 = .slice A1 n3 c2 ∧ env_ 1 = .int .i64 a1 ∧ env_ 5 = .pointer (some ⟨g15, o16, none⟩) ∧ env_ 7 = .slice A240 n242 c241 ∧ env_ 9 = .slice A298 n300 c299 ∧ env_ 10 = .int .i64 x525 ∧ env_ 11 = .int .i64 x711 ∧ Ctx w F D w_ F [p301, CH.row g15 o16 [.slice A266 n268 c267, .map (some g272)], p270, p273, p264, p244] ∧ juratlaw13_AgendaOnce.l3 g_ r238 r258 x525 x711 = some o703) k625 ⟨0, ho654, ho655, ho656, ho657, ho658, ho659, rfl, C661, hX702⟩ ?_
                clear hX702
                rintro g_ env_ w_ ⟨x711, ho704, ho705, ho706, ho707, ho708, ho709, ho710, C712, hX702⟩
                rcases g_ with _ | k721
                · exact absurd hX702 (by simp [juratlaw13_AgendaOnce.l3])
                rw [juratlaw13_AgendaOnce.l3] at hX702
                refine W.seq ?_
                refine W.seq ?_
                refine W.region rfl ?_
                refine WL.val (Yl.move (v := .int .i64 x711) ho710) ?_
                refine WL.val (Yl.move (v := .int .i64 x525) ho709) ?_
                refine WL.val (Yl.lss (m := x711) (n := x525) (q := decide (x711 < x525)) rfl rfl rfl) ?_
                refine WL.done ?_
                rcases iteE hX702 with ⟨hc722, hX702⟩ | ⟨hc722, hX702⟩
                · skip
                  refine W.condT (congrArg Value.bool (decide_eq_true hc722)) ?_
                  refine W.skip ?_
                  refine W.seq ?_
                  refine W.block ?_
                  refine W.seq ?_
                  refine W.region_quiet (by kernel_rfl) (by kernel_rfl) rfl ?_
                  refine WQ.val (fun _ hw => by obtain ⟨_, rfl⟩ := hw; exact Yl.move (v := .slice A298 n300 c299) ho708) ?_
                  refine WQ.val (fun _ hw => by obtain ⟨_, rfl⟩ := hw; exact Yl.move (v := .int .i64 x711) ho710) ?_
                  obtain ⟨hc723, hX702⟩ := guardE hX702
                  refine WQ.val (fun _ hw => by obtain ⟨_, rfl⟩ := hw; exact Yl.elemAddr (i := x711) rfl rfl hA638 Try.underlying22 sz29 (by omega)) ?_
                  refine WQ.val (fun _ hw => by obtain ⟨_, rfl⟩ := hw; exact Yl.fieldAddr (i := 1) rfl Try.underlying29 rfl sz3) ?_
                  obtain ⟨cs724, hr725, hx726⟩ := he639 x711.toNat _ (getD_some (d := TEntry.z) (by omega))
                  obtain ⟨rfl⟩ := TEntry.open hr725
                  refine WQ.val (fun _ hw => by obtain ⟨_, rfl⟩ := hw; exact Yl.load (v := .int .i64 (((r238 ++ r258).getD x711.toNat TEntry.z).ID)) rfl Try.underlying3 rfl (((Ctx.sub_of [] [CH.row g15 o16 [.slice A266 n268 c267, .map (some g272)], p270, p273, p264, p244] (C712.drewN _))).cell (hx726 1 _ rfl))) ?_
                  refine WQ.val (fun _ hw => by obtain ⟨_, rfl⟩ := hw; exact Yl.move (v := .slice A298 n300 c299) ho708) ?_
                  refine WQ.val (fun _ hw => by obtain ⟨_, rfl⟩ := hw; exact Yl.move (v := .int .i64 x525) ho709) ?_
                  refine WQ.val (fun _ hw => by obtain ⟨_, rfl⟩ := hw; exact Yl.elemAddr (i := x525) rfl rfl hA638 Try.underlying22 sz29 (by omega)) ?_
                  refine WQ.val (fun _ hw => by obtain ⟨_, rfl⟩ := hw; exact Yl.fieldAddr (i := 1) rfl Try.underlying29 rfl sz3) ?_
                  refine WQ.val (fun _ hw => by obtain ⟨_, rfl⟩ := hw; exact Yl.load (v := .int .i64 (((r238 ++ r258).getD x525.toNat TEntry.z).ID)) rfl Try.underlying3 rfl (((Ctx.sub_of [] [CH.row g15 o16 [.slice A266 n268 c267, .map (some g272)], p270, p273, p264, p244] (C712.drewN _))).cell (hx642 1 _ rfl))) ?_
                  refine WQ.val (fun _ hw => by obtain ⟨_, rfl⟩ := hw; exact Yl.eql (m := ((r238 ++ r258).getD x711.toNat TEntry.z).ID) (n := ((r238 ++ r258).getD x525.toNat TEntry.z).ID) (q := decide ((((r238 ++ r258).getD x711.toNat TEntry.z).ID) = (((r238 ++ r258).getD x525.toNat TEntry.z).ID))) rfl rfl rfl) ?_
                  refine WQ.done (fun nq727 => ?_)
                  have C728 := Ctx.drewN C712 nq727
                  rcases iteE hX702 with ⟨hc729, hX702⟩ | ⟨hc729, hX702⟩
                  · skip
                    refine W.condT (congrArg Value.bool (decide_eq_true hc729)) ?_
                    refine W.seq ?_
                    refine W.region rfl ?_
                    refine WL.val (Yl.assign (v := .bool false) rfl) ?_
                    refine WL.done ?_
                    refine W.ret ?_
                    refine inB_r ?_
                    refine thenE_r ?_
                    refine thenE_r ?_
                    refine inB_r ?_
                    refine thenE_r ?_
                    refine inB_r ?_
                    refine thenE_r ?_
                    refine thenE_r ?_
                    refine inB_r ?_
                    refine thenE_r ?_
                    refine thenE_r ?_
                    cases hX702
                    replace hX517 := sumE_r hX517
                    cases hX517
                    replace H := sumE_r H
                    have C730 : Ctx _ _ _ _ F [CH.row g15 o16 [.slice A266 n268 c267, .map (some g272)], p270, p273, p264, p244] := Ctx.drop [] [CH.row g15 o16 [.slice A266 n268 c267, .map (some g272)], p270, p273, p264, p244] C728
                    have C731 : Ctx _ _ _ _ F [p270, p273, p264, p244] := Ctx.drop [] [p270, p273, p264, p244] C730
                    have C732 : Ctx _ _ _ _ F [p273, p264, p244] := Ctx.drop [] [p273, p264, p244] C731
                    have C733 : Ctx _ _ _ _ F [p264, p244] := Ctx.drop [] [p264, p244] C732
                    have C734 : Ctx _ _ _ _ F [p244] := Ctx.drop [] [p244] C733
                    have C735 : Ctx _ _ _ _ F [] := Ctx.drop [] [] C734
                    cases H
                    exact post_r (resE1 rfl rfl) ⟨rfl, C735⟩
                  · skip
                    refine W.condF (congrArg Value.bool (decide_eq_false hc729)) ?_
                    refine W.skip ?_
                    refine inB_n ?_
                    refine W.region rfl ?_
                    refine WL.val (Yl.move (v := .int .i64 x711) ho710) ?_
                    refine WL.val (Yl.add (m := x711) (n := 1) (r := wi64 (x711 + 1)) rfl rfl rfl) ?_
                    refine WL.val (Yl.assign (v := .int .i64 (wi64 (x711 + 1))) rfl) ?_
                    refine WL.done ?_
                    exact thenE_n ⟨k721, Nat.lt_succ_self _, wi64 (x711 + 1), ho704, ho705, ho706, ho707, ho708, ho709, rfl, C728, hX702⟩
                · skip
                  refine W.condF (congrArg Value.bool (decide_eq_false hc722)) ?_
                  refine W.exit ?_
                  refine thenE_x ?_
                  refine thenE_x ?_
                  refine inB_here ?_
                  cases hX702
                  refine thenE_n ?_
                  exact ⟨ho704, ho705, ho706, ho707, ho708, ho709, C712, rfl⟩
              · skip
                rintro env_ w_ ⟨ho695, ho696, ho697, ho698, ho699, ho700, C701, rfl⟩
                replace hX517 := sumE_l hX517
                refine inB_n ?_
                refine W.region rfl ?_
                refine WL.val (Yl.move (v := .int .i64 x525) ho700) ?_
                refine WL.val (Yl.add (m := x525) (n := 1) (r := wi64 (x525 + 1)) rfl rfl rfl) ?_
                refine WL.val (Yl.assign (v := .int .i64 (wi64 (x525 + 1))) rfl) ?_
                refine WL.done ?_
                exact thenE_n ⟨k625, Nat.lt_succ_self _, wi64 (x525 + 1), ho695, ho696, ho697, ho698, ho699, rfl, C701, hX517⟩
        · skip
          refine W.condF (congrArg Value.bool (decide_eq_false hc626)) ?_
          refine W.exit ?_
          refine thenE_x ?_
          refine thenE_x ?_
          refine inB_here ?_
          cases hX517
          refine thenE_n ?_
          exact ⟨ho519, ho521, ho523, C526, rfl⟩
      · skip
        rintro env_ w_ ⟨ho513, ho514, ho515, C516, rfl⟩
        replace H := sumE_l H
        refine W.seq ?_
        refine W.seq ?_
        refine W.region rfl ?_
        refine WL.val (Yl.assign (v := .int .i64 0) rfl) ?_
        refine WL.done ?_
        obtain ⟨o1232, hX1231, H⟩ := bindE H
        refine W.cutM (fun env_ w_ => env_ 5 = .pointer (some ⟨g15, o16, none⟩) ∧ Ctx w F D w_ F [p301, CH.row g15 o16 [.slice A266 n268 c267, .map (some g272)], p270, p273, p264, p244] ∧ o1232 = Sum.inl ()) ?_ ?_
        · skip
          refine W.block ?_
          refine W.loop (fun g_ env_ w_ => ∃ (x1237 : Int), env_ 0 = .slice A1 n3 c2 ∧ env_ 5 = .pointer (some ⟨g15, o16, none⟩) ∧ env_ 9 = .slice A298 n300 c299 ∧ env_ 12 = .int .i64 x1237 ∧ Ctx w F D w_ F [p301, CH.row g15 o16 [.slice A266 n268 c267, .map (some g272)], p270, p273, p264, p244] ∧ juratlaw13_AgendaOnce.l4 g_ a0 r238 r258 x1237 = some o1232) k ⟨0, ho513, ho514, ho515, rfl, C516, hX1231⟩ ?_
          clear hX1231
          rintro g_ env_ w_ ⟨x1237, ho1233, ho1234, ho1235, ho1236, C1238, hX1231⟩
          rcases g_ with _ | k1482
          · exact absurd hX1231 (by simp [juratlaw13_AgendaOnce.l4])
          rw [juratlaw13_AgendaOnce.l4] at hX1231
          refine W.seq ?_
          refine W.seq ?_
          refine W.region rfl ?_
          refine WL.val (Yl.move (v := .int .i64 x1237) ho1236) ?_
          refine WL.val (Yl.move (v := .slice A1 n3 c2) ho1233) ?_
          refine WL.val (Yl.lenN (A := A1) (l := n3) (q := c2) (n := (a0.length : Int)) rfl Try.underlying22 (by omega)) ?_
          refine WL.val (Yl.lss (m := x1237) (n := (a0.length : Int)) (q := decide (x1237 < (a0.length : Int))) rfl rfl rfl) ?_
          refine WL.done ?_
          rcases iteE hX1231 with ⟨hc1483, hX1231⟩ | ⟨hc1483, hX1231⟩
          · skip
            refine W.condT (congrArg Value.bool (decide_eq_true hc1483)) ?_
            refine W.skip ?_
            refine W.seq ?_
            refine W.block ?_
            refine W.seq ?_
            refine W.region rfl ?_
            refine WL.val (Yl.assign (v := .int .i64 0) rfl) ?_
            refine WL.val (Yl.assign (v := .bool false) rfl) ?_
            refine WL.done ?_
            refine W.seq ?_
            refine W.seq ?_
            refine W.region rfl ?_
            refine WL.val (Yl.move (v := .int .i64 x1237) ho1236) ?_
            refine WL.val (Yl.assign (v := .int .i64 x1237) rfl) ?_
            refine WL.done ?_
            obtain ⟨x1532, hX1535, hX1231⟩ := bindE hX1231
            refine W.cutM (fun env_ w_ => env_ 0 = .slice A1 n3 c2 ∧ env_ 5 = .pointer (some ⟨g15, o16, none⟩) ∧ env_ 9 = .slice A298 n300 c299 ∧ env_ 12 = .int .i64 x1237 ∧ env_ 13 = .int .i64 x1532 ∧ env_ 14 = .bool false ∧ Ctx w F D w_ F [p301, CH.row g15 o16 [.slice A266 n268 c267, .map (some g272)], p270, p273, p264, p244]) ?_ ?_
            · skip
              refine W.block ?_
              refine W.loop (fun g_ env_ w_ => ∃ (x1541 : Int) (x1544 : Int), env_ 0 = .slice A1 n3 c2 ∧ env_ 5 = .pointer (some ⟨g15, o16, none⟩) ∧ env_ 9 = .slice A298 n300 c299 ∧ env_ 12 = .int .i64 x1237 ∧ env_ 13 = .int .i64 x1541 ∧ env_ 14 = .bool false ∧ env_ 15 = .int .i64 x1544 ∧ Ctx w F D w_ F [p301, CH.row g15 o16 [.slice A266 n268 c267, .map (some g272)], p270, p273, p264, p244] ∧ juratlaw13_AgendaOnce.l5 g_ a0 x1237 x1541 x1544 = some x1532) k1482 ⟨0, x1237, ho1233, ho1234, ho1235, ho1236, rfl, rfl, rfl, C1238, hX1535⟩ ?_
              clear hX1535
              rintro g_ env_ w_ ⟨x1541, x1544, ho1536, ho1537, ho1538, ho1539, ho1540, ho1542, ho1543, C1545, hX1535⟩
              rcases g_ with _ | k1562
              · exact absurd hX1535 (by simp [juratlaw13_AgendaOnce.l5])
              rw [juratlaw13_AgendaOnce.l5] at hX1535
              refine W.seq ?_
              refine W.seq ?_
              refine W.region rfl ?_
              refine WL.val (Yl.move (v := .int .i64 x1544) ho1543) ?_
              refine WL.val (Yl.move (v := .slice A1 n3 c2) ho1536) ?_
              refine WL.val (Yl.lenN (A := A1) (l := n3) (q := c2) (n := (a0.length : Int)) rfl Try.underlying22 (by omega)) ?_
              refine WL.val (Yl.lss (m := x1544) (n := (a0.length : Int)) (q := decide (x1544 < (a0.length : Int))) rfl rfl rfl) ?_
              refine WL.done ?_
              rcases iteE hX1535 with ⟨hc1563, hX1535⟩ | ⟨hc1563, hX1535⟩
              · skip
                refine W.condT (congrArg Value.bool (decide_eq_true hc1563)) ?_
                refine W.skip ?_
                refine W.seq ?_
                refine W.block ?_
                refine W.seq ?_
                refine W.region_quiet (by kernel_rfl) (by kernel_rfl) rfl ?_
                refine WQ.val (fun _ hw => by obtain ⟨_, rfl⟩ := hw; exact Yl.move (v := .slice A1 n3 c2) ho1536) ?_
                refine WQ.val (fun _ hw => by obtain ⟨_, rfl⟩ := hw; exact Yl.move (v := .int .i64 x1544) ho1543) ?_
                obtain ⟨hc1564, hX1535⟩ := guardE hX1535
                obtain ⟨b1565, of1566, hA1567, he1568⟩ := hS7 (by omega)
                refine WQ.val (fun _ hw => by obtain ⟨_, rfl⟩ := hw; exact Yl.elemAddr (i := x1544) rfl rfl hA1567 Try.underlying22 sz29 (by omega)) ?_
                refine WQ.val (fun _ hw => by obtain ⟨_, rfl⟩ := hw; exact Yl.fieldAddr (i := 1) rfl Try.underlying29 rfl sz3) ?_
                obtain ⟨cs1569, hr1570, hx1571⟩ := he1568 x1544.toNat _ (getD_some (d := TEntry.z) (by omega))
                obtain ⟨rfl⟩ := TEntry.open hr1570
                refine WQ.val (fun _ hw => by obtain ⟨_, rfl⟩ := hw; exact Yl.load (v := .int .i64 ((a0.getD x1544.toNat TEntry.z).ID)) rfl Try.underlying3 rfl ((((C1545.drewN _).fro)).cell (hx1571 1 _ rfl))) ?_
                refine WQ.val (fun _ hw => by obtain ⟨_, rfl⟩ := hw; exact Yl.move (v := .slice A1 n3 c2) ho1536) ?_
                refine WQ.val (fun _ hw => by obtain ⟨_, rfl⟩ := hw; exact Yl.move (v := .int .i64 x1237) ho1539) ?_
                obtain ⟨hc1572, hX1535⟩ := guardE hX1535
                refine WQ.val (fun _ hw => by obtain ⟨_, rfl⟩ := hw; exact Yl.elemAddr (i := x1237) rfl rfl hA1567 Try.underlying22 sz29 (by omega)) ?_
                refine WQ.val (fun _ hw => by obtain ⟨_, rfl⟩ := hw; exact Yl.fieldAddr (i := 1) rfl Try.underlying29 rfl sz3) ?_
                obtain ⟨cs1573, hr1574, hx1575⟩ := he1568 x1237.toNat _ (getD_some (d := TEntry.z) (by omega))
                obtain ⟨rfl⟩ := TEntry.open hr1574
                refine WQ.val (fun _ hw => by obtain ⟨_, rfl⟩ := hw; exact Yl.load (v := .int .i64 ((a0.getD x1237.toNat TEntry.z).ID)) rfl Try.underlying3 rfl ((((C1545.drewN _).fro)).cell (hx1575 1 _ rfl))) ?_
                refine WQ.val (fun _ hw => by obtain ⟨_, rfl⟩ := hw; exact Yl.eql (m := (a0.getD x1544.toNat TEntry.z).ID) (n := (a0.getD x1237.toNat TEntry.z).ID) (q := decide (((a0.getD x1544.toNat TEntry.z).ID) = ((a0.getD x1237.toNat TEntry.z).ID))) rfl rfl rfl) ?_
                refine WQ.done (fun nq1576 => ?_)
                have C1577 := Ctx.drewN C1545 nq1576
                rcases iteE hX1535 with ⟨hc1578, hX1535⟩ | ⟨hc1578, hX1535⟩
                · skip
                  refine W.condT (congrArg Value.bool (decide_eq_true hc1578)) ?_
                  refine W.region rfl ?_
                  refine WL.val (Yl.move (v := .slice A1 n3 c2) ho1536) ?_
                  refine WL.val (Yl.move (v := .int .i64 x1544) ho1543) ?_
                  refine WL.val (Yl.elemAddr (i := x1544) rfl rfl hA1567 Try.underlying22 sz29 (by omega)) ?_
                  refine WL.val (Yl.fieldAddr (i := 0) rfl Try.underlying29 rfl sz3) ?_
                  refine WL.val (Yl.load (v := .int .i64 ((a0.getD x1544.toNat TEntry.z).At)) rfl Try.underlying3 rfl (((C1577.fro)).cell (hx1571 0 _ rfl))) ?_
                  refine WL.val (Yl.assign (v := .int .i64 ((a0.getD x1544.toNat TEntry.z).At)) rfl) ?_
                  refine WL.done ?_
                  refine inB_n ?_
                  refine W.region rfl ?_
                  refine WL.val (Yl.move (v := .int .i64 x1544) ho1543) ?_
                  refine WL.val (Yl.add (m := x1544) (n := 1) (r := wi64 (x1544 + 1)) rfl rfl rfl) ?_
                  refine WL.val (Yl.assign (v := .int .i64 (wi64 (x1544 + 1))) rfl) ?_
                  refine WL.done ?_
                  exact thenE_n ⟨k1562, Nat.lt_succ_self _, (a0.getD x1544.toNat TEntry.z).At, wi64 (x1544 + 1), ho1536, ho1537, ho1538, ho1539, rfl, ho1542, rfl, C1577, hX1535⟩
                · skip
                  refine W.condF (congrArg Value.bool (decide_eq_false hc1578)) ?_
                  refine W.skip ?_
                  refine inB_n ?_
                  refine W.region rfl ?_
                  refine WL.val (Yl.move (v := .int .i64 x1544) ho1543) ?_
                  refine WL.val (Yl.add (m := x1544) (n := 1) (r := wi64 (x1544 + 1)) rfl rfl rfl) ?_
                  refine WL.val (Yl.assign (v := .int .i64 (wi64 (x1544 + 1))) rfl) ?_
                  refine WL.done ?_
                  exact thenE_n ⟨k1562, Nat.lt_succ_self _, x1541, wi64 (x1544 + 1), ho1536, ho1537, ho1538, ho1539, ho1540, ho1542, rfl, C1577, hX1535⟩
              · skip
                refine W.condF (congrArg Value.bool (decide_eq_false hc1563)) ?_
                refine W.exit ?_
                refine thenE_x ?_
                refine thenE_x ?_
                refine inB_here ?_
                cases hX1535
                refine thenE_n ?_
                exact ⟨ho1536, ho1537, ho1538, ho1539, ho1540, ho1542, C1545⟩
            · skip
              rintro env_ w_ ⟨ho1527, ho1528, ho1529, ho1530, ho1531, ho1533, C1534⟩
              refine W.seq ?_
              refine W.seq ?_
              refine W.region rfl ?_
              refine WL.val (Yl.assign (v := .int .i64 0) rfl) ?_
              refine WL.done ?_
              obtain ⟨x1653, hX1655, hX1231⟩ := bindE hX1231
              refine W.cutM (fun env_ w_ => env_ 0 = .slice A1 n3 c2 ∧ env_ 5 = .pointer (some ⟨g15, o16, none⟩) ∧ env_ 9 = .slice A298 n300 c299 ∧ env_ 12 = .int .i64 x1237 ∧ env_ 14 = .bool x1653 ∧ Ctx w F D w_ F [p301, CH.row g15 o16 [.slice A266 n268 c267, .map (some g272)], p270, p273, p264, p244]) ?_ ?_
              · skip
                refine W.block ?_
                refine W.loop (fun g_ env_ w_ => ∃ (x1662 : Bool) (x1664 : Int), env_ 0 = .slice A1 n3 c2 ∧ env_ 5 = .pointer (some ⟨g15, o16, none⟩) ∧ env_ 9 = .slice A298 n300 c299 ∧ env_ 12 = .int .i64 x1237 ∧ env_ 13 = .int .i64 x1532 ∧ env_ 14 = .bool x1662 ∧ env_ 16 = .int .i64 x1664 ∧ Ctx w F D w_ F [p301, CH.row g15 o16 [.slice A266 n268 c267, .map (some g272)], p270, p273, p264, p244] ∧ juratlaw13_AgendaOnce.l6 g_ a0 r238 r258 x1237 x1532 x1662 x1664 = some x1653) k1482 ⟨false, 0, ho1527, ho1528, ho1529, ho1530, ho1531, ho1533, rfl, C1534, hX1655⟩ ?_
                clear hX1655
                rintro g_ env_ w_ ⟨x1662, x1664, ho1656, ho1657, ho1658, ho1659, ho1660, ho1661, ho1663, C1665, hX1655⟩
                rcases g_ with _ | k1695
                · exact absurd hX1655 (by simp [juratlaw13_AgendaOnce.l6])
                rw [juratlaw13_AgendaOnce.l6] at hX1655
                refine W.seq ?_
                refine W.seq ?_
                refine W.region rfl ?_
                refine WL.val (Yl.move (v := .int .i64 x1664) ho1663) ?_
                refine WL.val (Yl.move (v := .slice A298 n300 c299) ho1658) ?_
                refine WL.val (Yl.lenN (A := A298) (l := n300) (q := c299) (n := ((r238 ++ r258).length : Int)) rfl Try.underlying22 (by omega)) ?_
                refine WL.val (Yl.lss (m := x1664) (n := ((r238 ++ r258).length : Int)) (q := decide (x1664 < ((r238 ++ r258).length : Int))) rfl rfl rfl) ?_
                refine WL.done ?_
                rcases iteE hX1655 with ⟨hc1696, hX1655⟩ | ⟨hc1696, hX1655⟩
                · skip
                  refine W.condT (congrArg Value.bool (decide_eq_true hc1696)) ?_
                  refine W.skip ?_
                  refine W.seq ?_
                  refine W.block ?_
                  refine W.region_quiet (by kernel_rfl) (by kernel_rfl) rfl ?_
                  refine WQ.val (fun _ hw => by obtain ⟨_, rfl⟩ := hw; exact Yl.move (v := .bool x1662) ho1661) ?_
                  refine WQ.val (fun _ hw => by obtain ⟨_, rfl⟩ := hw; exact Yl.move (v := .bool x1662) rfl) ?_
                  obtain ⟨g1697, HE1698, hX1655⟩ := bindE hX1655
                  refine WQ.cut (fun env_ => env_ 14 = .bool g1697 ∧ env_ 0 = .slice A1 n3 c2 ∧ env_ 5 = .pointer (some ⟨g15, o16, none⟩) ∧ env_ 9 = .slice A298 n300 c299 ∧ env_ 12 = .int .i64 x1237 ∧ env_ 13 = .int .i64 x1532 ∧ env_ 16 = .int .i64 x1664) ?_ ?_
                  · skip
                    rcases iteE HE1698 with ⟨hc1699, HE1698⟩ | ⟨hc1699, HE1698⟩
                    · skip
                      refine WQ.off rfl (congrArg Value.bool hc1699) ?_
                      refine WQ.off rfl (congrArg Value.bool hc1699) ?_
                      refine WQ.off rfl (congrArg Value.bool hc1699) ?_
                      refine WQ.off rfl (congrArg Value.bool hc1699) ?_
                      refine WQ.off rfl (congrArg Value.bool hc1699) ?_
                      refine WQ.off rfl (congrArg Value.bool hc1699) ?_
                      refine WQ.off rfl (congrArg Value.bool hc1699) ?_
                      refine WQ.off rfl (congrArg Value.bool hc1699) ?_
                      refine WQ.off rfl (congrArg Value.bool hc1699) ?_
                      refine WQ.off rfl (congrArg Value.bool hc1699) ?_
                      refine WQ.off rfl (congrArg Value.bool hc1699) ?_
                      refine WQ.off rfl (congrArg Value.bool hc1699) ?_
                      refine WQ.val (fun _ hw => by obtain ⟨_, rfl⟩ := hw; exact Yl.pickT (v := .bool true) (congrArg Value.bool hc1699) rfl) ?_
                      refine WQ.val (fun _ hw => by obtain ⟨_, rfl⟩ := hw; exact Yl.assign (v := .bool true) rfl) ?_
                      cases HE1698
                      exact WQ.done ⟨rfl, ho1656, ho1657, ho1658, ho1659, ho1660, ho1663⟩
                    · skip
                      refine WQ.on rfl (congrArg Value.bool (Bool.eq_false_iff.2 hc1699)) ?_
                      refine WQ.val (fun _ hw => by obtain ⟨_, rfl⟩ := hw; exact Yl.move (v := .slice A298 n300 c299) ho1658) ?_
                      refine WQ.on rfl (congrArg Value.bool (Bool.eq_false_iff.2 hc1699)) ?_
                      refine WQ.val (fun _ hw => by obtain ⟨_, rfl⟩ := hw; exact Yl.move (v := .int .i64 x1664) ho1663) ?_
                      refine WQ.on rfl (congrArg Value.bool (Bool.eq_false_iff.2 hc1699)) ?_
                      obtain ⟨hc1700, HE1698⟩ := guardE HE1698
                      obtain ⟨b1701, of1702, hA1703, he1704⟩ := (Row.sl hR306) (by omega)
                      refine WQ.val (fun _ hw => by obtain ⟨_, rfl⟩ := hw; exact Yl.elemAddr (i := x1664) rfl rfl hA1703 Try.underlying22 sz29 (by omega)) ?_
                      refine WQ.on rfl (congrArg Value.bool (Bool.eq_false_iff.2 hc1699)) ?_
                      obtain ⟨cs1705, hr1706, hx1707⟩ := he1704 x1664.toNat _ (getD_some (d := TEntry.z) (by omega))
                      obtain ⟨rfl⟩ := TEntry.open hr1706
                      refine WQ.val (fun _ hw => by obtain ⟨_, rfl⟩ := hw; exact Yl.loadAgg (cs := [.int .i64 (((r238 ++ r258).getD x1664.toNat TEntry.z).At), .int .i64 (((r238 ++ r258).getD x1664.toNat TEntry.z).ID)]) rfl Try.underlying29 rfl sz29 (fun j u hu => by rw [add_of]; exact ((Ctx.sub_of [] [CH.row g15 o16 [.slice A266 n268 c267, .map (some g272)], p270, p273, p264, p244] (C1665.drewN _))).cell (hx1707 _ _ hu))) ?_
                      refine WQ.on rfl (congrArg Value.bool (Bool.eq_false_iff.2 hc1699)) ?_
                      refine WQ.val (fun _ hw => by obtain ⟨_, rfl⟩ := hw; exact Yl.move (v := .int .i64 x1532) ho1660) ?_
                      refine WQ.on rfl (congrArg Value.bool (Bool.eq_false_iff.2 hc1699)) ?_
                      refine WQ.val (fun _ hw => by obtain ⟨_, rfl⟩ := hw; exact Yl.move (v := .slice A1 n3 c2) ho1656) ?_
                      refine WQ.on rfl (congrArg Value.bool (Bool.eq_false_iff.2 hc1699)) ?_
                      refine WQ.val (fun _ hw => by obtain ⟨_, rfl⟩ := hw; exact Yl.move (v := .int .i64 x1237) ho1659) ?_
                      refine WQ.on rfl (congrArg Value.bool (Bool.eq_false_iff.2 hc1699)) ?_
                      obtain ⟨hc1708, HE1698⟩ := guardE HE1698
                      obtain ⟨b1709, of1710, hA1711, he1712⟩ := hS7 (by omega)
                      refine WQ.val (fun _ hw => by obtain ⟨_, rfl⟩ := hw; exact Yl.elemAddr (i := x1237) rfl rfl hA1711 Try.underlying22 sz29 (by omega)) ?_
                      refine WQ.on rfl (congrArg Value.bool (Bool.eq_false_iff.2 hc1699)) ?_
                      refine WQ.val (fun _ hw => by obtain ⟨_, rfl⟩ := hw; exact Yl.fieldAddr (i := 1) rfl Try.underlying29 rfl sz3) ?_
                      refine WQ.on rfl (congrArg Value.bool (Bool.eq_false_iff.2 hc1699)) ?_
                      obtain ⟨cs1713, hr1714, hx1715⟩ := he1712 x1237.toNat _ (getD_some (d := TEntry.z) (by omega))
                      obtain ⟨rfl⟩ := TEntry.open hr1714
                      refine WQ.val (fun _ hw => by obtain ⟨_, rfl⟩ := hw; exact Yl.load (v := .int .i64 ((a0.getD x1237.toNat TEntry.z).ID)) rfl Try.underlying3 rfl ((((C1665.drewN _).fro)).cell (hx1715 1 _ rfl))) ?_
                      refine WQ.on rfl (congrArg Value.bool (Bool.eq_false_iff.2 hc1699)) ?_
                      refine WQ.val (fun _ hw => by obtain ⟨_, rfl⟩ := hw; exact Yl.build (places := [(0, 1), (1, 1)]) (cs := List.toArray [.int .i64 x1532, .int .i64 ((a0.getD x1237.toNat TEntry.z).ID)]) Try.underlying29 zr29 (pl29 _ Try.underlying29) (partsB (.cons rfl (.cons rfl .nil))) rfl) ?_
                      refine WQ.on rfl (congrArg Value.bool (Bool.eq_false_iff.2 hc1699)) ?_
                      refine WQ.val (fun _ hw => by obtain ⟨_, rfl⟩ := hw; exact Yl.aeql (n := 2) (xs := [.int .i64 (((r238 ++ r258).getD x1664.toNat TEntry.z).At), .int .i64 (((r238 ++ r258).getD x1664.toNat TEntry.z).ID)]) (ys := [.int .i64 x1532, .int .i64 ((a0.getD x1237.toNat TEntry.z).ID)]) rfl rfl eg29 (EqV.struct (n := 1) Try.underlying29 sh29 (EqFs.cons (by decide) (PartE.one Try.underlying3 rfl rfl) (PartE.one Try.underlying3 rfl rfl) (EqV.int Try.underlying3) (EqFs.one (by decide) (PartE.one Try.underlying3 rfl rfl) (PartE.one Try.underlying3 rfl rfl) (EqV.int Try.underlying3)))) (by decide)) ?_
                      refine WQ.val (fun _ hw => by obtain ⟨_, rfl⟩ := hw; exact Yl.pickF (v := .bool (decide ((((r238 ++ r258).getD x1664.toNat TEntry.z).At) = x1532 ∧ (((r238 ++ r258).getD x1664.toNat TEntry.z).ID) = ((a0.getD x1237.toNat TEntry.z).ID)))) (congrArg Value.bool (Bool.eq_false_iff.2 hc1699)) rfl) ?_
                      refine WQ.val (fun _ hw => by obtain ⟨_, rfl⟩ := hw; exact Yl.assign (v := .bool (decide ((((r238 ++ r258).getD x1664.toNat TEntry.z).At) = x1532 ∧ (((r238 ++ r258).getD x1664.toNat TEntry.z).ID) = ((a0.getD x1237.toNat TEntry.z).ID)))) rfl) ?_
                      cases HE1698
                      exact WQ.done ⟨rfl, ho1656, ho1657, ho1658, ho1659, ho1660, ho1663⟩
                  · skip
                    rintro env_ ⟨ho1716, ho1717, ho1718, ho1719, ho1720, ho1721, ho1722⟩
                    intro nq1723
                    have C1724 := Ctx.drewN C1665 nq1723
                    refine inB_n ?_
                    refine W.region rfl ?_
                    refine WL.val (Yl.move (v := .int .i64 x1664) ho1722) ?_
                    refine WL.val (Yl.add (m := x1664) (n := 1) (r := wi64 (x1664 + 1)) rfl rfl rfl) ?_
                    refine WL.val (Yl.assign (v := .int .i64 (wi64 (x1664 + 1))) rfl) ?_
                    refine WL.done ?_
                    exact thenE_n ⟨k1695, Nat.lt_succ_self _, g1697, wi64 (x1664 + 1), ho1717, ho1718, ho1719, ho1720, ho1721, ho1716, rfl, C1724, hX1655⟩
                · skip
                  refine W.condF (congrArg Value.bool (decide_eq_false hc1696)) ?_
                  refine W.exit ?_
                  refine thenE_x ?_
                  refine thenE_x ?_
                  refine inB_here ?_
                  cases hX1655
                  refine thenE_n ?_
                  exact ⟨ho1656, ho1657, ho1658, ho1659, ho1661, C1665⟩
              · skip
                rintro env_ w_ ⟨ho1648, ho1649, ho1650, ho1651, ho1652, C1654⟩
                refine W.seq ?_
                refine W.region rfl ?_
                refine WL.val (Yl.move (v := .bool x1653) ho1652) ?_
                refine WL.val (Yl.not (p := x1653) (q := !x1653) rfl rfl) ?_
                refine WL.done ?_
                rcases iteE hX1231 with ⟨hc1725, hX1231⟩ | ⟨hc1725, hX1231⟩
                · skip
                  refine W.condF (congrArg Value.bool (nb_t hc1725)) ?_
                  refine W.skip ?_
                  refine inB_n ?_
                  refine W.region rfl ?_
                  refine WL.val (Yl.move (v := .int .i64 x1237) ho1651) ?_
                  refine WL.val (Yl.add (m := x1237) (n := 1) (r := wi64 (x1237 + 1)) rfl rfl rfl) ?_
                  refine WL.val (Yl.assign (v := .int .i64 (wi64 (x1237 + 1))) rfl) ?_
                  refine WL.done ?_
                  exact thenE_n ⟨k1482, Nat.lt_succ_self _, wi64 (x1237 + 1), ho1648, ho1649, ho1650, rfl, C1654, hX1231⟩
                · skip
                  refine W.condT (congrArg Value.bool (nb_f hc1725)) ?_
                  refine W.seq ?_
                  refine W.region rfl ?_
                  refine WL.val (Yl.assign (v := .bool false) rfl) ?_
                  refine WL.done ?_
                  refine W.ret ?_
                  refine inB_r ?_
                  refine thenE_r ?_
                  refine thenE_r ?_
                  refine inB_r ?_
                  refine thenE_r ?_
                  refine thenE_r ?_
                  cases hX1231
                  replace H := sumE_r H
                  have C1726 : Ctx _ _ _ _ F [CH.row g15 o16 [.slice A266 n268 c267, .map (some g272)], p270, p273, p264, p244] := Ctx.drop [] [CH.row g15 o16 [.slice A266 n268 c267, .map (some g272)], p270, p273, p264, p244] C1654
                  have C1727 : Ctx _ _ _ _ F [p270, p273, p264, p244] := Ctx.drop [] [p270, p273, p264, p244] C1726
                  have C1728 : Ctx _ _ _ _ F [p273, p264, p244] := Ctx.drop [] [p273, p264, p244] C1727
                  have C1729 : Ctx _ _ _ _ F [p264, p244] := Ctx.drop [] [p264, p244] C1728
                  have C1730 : Ctx _ _ _ _ F [p244] := Ctx.drop [] [p244] C1729
                  have C1731 : Ctx _ _ _ _ F [] := Ctx.drop [] [] C1730
                  cases H
                  exact post_r (resE1 rfl rfl) ⟨rfl, C1731⟩
          · skip
            refine W.condF (congrArg Value.bool (decide_eq_false hc1483)) ?_
            refine W.exit ?_
            refine thenE_x ?_
            refine thenE_x ?_
            refine inB_here ?_
            cases hX1231
            refine thenE_n ?_
            exact ⟨ho1234, C1238, rfl⟩
        · skip
          rintro env_ w_ ⟨ho1229, C1230, rfl⟩
          replace H := sumE_l H
          refine W.seq ?_
          obtain ⟨x1777, hX1779, H⟩ := bindE H
          refine W.cutM (fun env_ w_ => env_ 4 = .bool x1777 ∧ Ctx w F D w_ F [p301, CH.row g15 o16 [.slice A266 n268 c267, .map (some g272)], p270, p273, p264, p244]) ?_ ?_
          · skip
            refine W.region rfl ?_
            refine WL.val (Yl.move (v := .pointer (some ⟨g15, o16, none⟩)) ho1229) ?_
            have le1793 : CH.le F (CH.join F (CH.row g15 o16 [.slice A266 n268 c267, .map (some g272)])) := CH.le_joinL _ _
            have lp1794 : CH.le (CH.row g15 o16 [.slice A266 n268 c267, .map (some g272)]) (CH.join F (CH.row g15 o16 [.slice A266 n268 c267, .map (some g272)])) := CH.le_joinR (Ctx.dis_of [p301] [p270, p273, p264, p244] C1230)
            have C1795 : Ctx _ _ _ _ (CH.join F (CH.row g15 o16 [.slice A266 n268 c267, .map (some g272)])) [p301, p270, p273, p264, p244] := Ctx.freeze [p301] [p270, p273, p264, p244] C1230
            have le1796 : CH.le (CH.join F (CH.row g15 o16 [.slice A266 n268 c267, .map (some g272)])) (CH.join (CH.join F (CH.row g15 o16 [.slice A266 n268 c267, .map (some g272)])) p270) := CH.le_joinL _ _
            have lp1797 : CH.le p270 (CH.join (CH.join F (CH.row g15 o16 [.slice A266 n268 c267, .map (some g272)])) p270) := CH.le_joinR (Ctx.dis_of [p301] [p273, p264, p244] C1795)
            have C1798 : Ctx _ _ _ _ (CH.join (CH.join F (CH.row g15 o16 [.slice A266 n268 c267, .map (some g272)])) p270) [p301, p273, p264, p244] := Ctx.freeze [p301] [p273, p264, p244] C1795
            have le1799 : CH.le (CH.join (CH.join F (CH.row g15 o16 [.slice A266 n268 c267, .map (some g272)])) p270) (CH.join (CH.join (CH.join F (CH.row g15 o16 [.slice A266 n268 c267, .map (some g272)])) p270) p273) := CH.le_joinL _ _
            have lp1800 : CH.le p273 (CH.join (CH.join (CH.join F (CH.row g15 o16 [.slice A266 n268 c267, .map (some g272)])) p270) p273) := CH.le_joinR (Ctx.dis_of [p301] [p264, p244] C1798)
            have C1801 : Ctx _ _ _ _ (CH.join (CH.join (CH.join F (CH.row g15 o16 [.slice A266 n268 c267, .map (some g272)])) p270) p273) [p301, p264, p244] := Ctx.freeze [p301] [p264, p244] C1798
            obtain ⟨r1803, hg1802, hX1779⟩ := bindE hX1779
            refine WL.call (args := #[.pointer (some ⟨g15, o16, none⟩)]) (Yenter.fn Try.func12 (by kernel_rfl) rfl (argsE (.cons rfl .nil))) (agenda_Agenda_Len.calls k _ (CH.join (CH.join (CH.join F (CH.row g15 o16 [.slice A266 n268 c267, .map (some g272)])) p270) p273) g15 o16 A266 c267 n268 g272 p273 r259 C1801.pre0 hn269 (Row.len_le hR271).1 (Row.len_le hR271).2.1 (Sl.mono (Row.sl hR271) (CH.le_trans (CH.le_trans le1793 le1796) le1799) (CH.le_trans lp1797 le1799)) hM274 lp1800 (CH.le_trans (CH.le_trans lp1794 le1796) le1799) r1803 hg1802) ?_
            rintro e_ w_ ⟨rfl, ⟨m1804, rfl⟩⟩
            refine ⟨_, rfl, ?_⟩
            have C1805 := Ctx.drewN C1230 m1804
            refine WL.val (Yl.eql (m := r1803) (n := 0) (q := decide (r1803 = 0)) rfl rfl rfl) ?_
            refine WL.val (Yl.move (v := .bool (decide (r1803 = 0))) rfl) ?_
            rcases iteE hX1779 with ⟨hc1806, hX1779⟩ | ⟨hc1806, hX1779⟩
            · skip
              refine WL.on rfl (congrArg Value.bool (decide_eq_true hc1806)) ?_
              obtain ⟨r1808, hg1807, hX1779⟩ := bindE hX1779
              refine WL.call (args := #[]) (Yenter.fn Try.func8 (by kernel_rfl) rfl (argsE .nil)) (juratlaw13_awake.calls k _ F  (Ctx.pre (qs := []) (rest := [p301, CH.row g15 o16 [.slice A266 n268 c267, .map (some g272)], p270, p273, p264, p244]) C1805)  r1808 hg1807) ?_
              rintro e_ w_ ⟨rfl, C1809⟩
              refine ⟨_, rfl, ?_⟩
              have C1810 : Ctx _ _ _ _ F [p301, CH.row g15 o16 [.slice A266 n268 c267, .map (some g272)], p270, p273, p264, p244] := Ctx.call (qs := []) (rest := [p301, CH.row g15 o16 [.slice A266 n268 c267, .map (some g272)], p270, p273, p264, p244]) C1805 C1809
              refine WL.val (Yl.pickT (v := .bool r1808) (congrArg Value.bool (decide_eq_true hc1806)) rfl) ?_
              refine WL.val (Yl.assign (v := .bool r1808) rfl) ?_
              refine WL.done ?_
              cases hX1779
              refine thenE_n ?_
              exact ⟨rfl, C1810⟩
            · skip
              refine WL.off rfl (congrArg Value.bool (decide_eq_false hc1806)) ?_
              refine WL.val (Yl.pickF (v := .bool false) (congrArg Value.bool (decide_eq_false hc1806)) rfl) ?_
              refine WL.val (Yl.assign (v := .bool false) rfl) ?_
              refine WL.done ?_
              cases hX1779
              refine thenE_n ?_
              exact ⟨rfl, C1805⟩
          · skip
            rintro env_ w_ ⟨ho1776, C1778⟩
            refine W.ret ?_
            have C1811 : Ctx _ _ _ _ F [CH.row g15 o16 [.slice A266 n268 c267, .map (some g272)], p270, p273, p264, p244] := Ctx.drop [] [CH.row g15 o16 [.slice A266 n268 c267, .map (some g272)], p270, p273, p264, p244] C1778
            have C1812 : Ctx _ _ _ _ F [p270, p273, p264, p244] := Ctx.drop [] [p270, p273, p264, p244] C1811
            have C1813 : Ctx _ _ _ _ F [p273, p264, p244] := Ctx.drop [] [p273, p264, p244] C1812
            have C1814 : Ctx _ _ _ _ F [p264, p244] := Ctx.drop [] [p264, p244] C1813
            have C1815 : Ctx _ _ _ _ F [p244] := Ctx.drop [] [p244] C1814
            have C1816 : Ctx _ _ _ _ F [] := Ctx.drop [] [] C1815
            cases H
            exact post_r (resE1 rfl ho1776) ⟨rfl, C1816⟩
end Go.Proofs.Ytnoocbdpkddpbaa
