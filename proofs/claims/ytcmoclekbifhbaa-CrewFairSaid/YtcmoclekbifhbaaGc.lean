/- Functions of the program: each as a plain function of numbers and lists, and the proof that the program's own comes to it. Nothing is assumed but what each theorem says. -/
import Derived.Test.YtcmoclekbifhbaaGb
namespace Go.Proofs.Ytcmoclekbifhbaa
open Go.RowKit Go.WG
set_option linter.unusedVariables false
set_option linter.unusedSimpArgs false

/-! ### jurat/juratlaw18.awake: function 7 -/
def juratlaw18_awake.f (k : Nat)  : Option Bool := if 0 ≤ (4 : Int) ∧ (4 : Int) * 1 ≤ 140737488355328 then ((crew_Pick.f k [1, 0, 0, 2] (List.replicate (4 : Int).toNat (false : Bool)) 4 3).bind fun ⟨r27, r28⟩ => (if r28 = 0 then ((juratref18_Same.f k r27 [1, 2, 0]).bind fun r57 => some (r57)) else (some (false))).bind fun g38 => some g38) else none
set_option maxRecDepth 100000 in
set_option maxHeartbeats 4000000 in
theorem juratlaw18_awake.calls (k : Nat) (w : World) (F : CH)  (hp : Pre w F [])  (r0_ : Bool) (H : juratlaw18_awake.f k  = some r0_) :
    Calls Try.prog 7 #[] w fun e w' => e = .returned (.bool r0_) ∧ Ctx w F (domL []) w' F [] := by
  have C := Ctx.start hp
  generalize hD : domL [] = D at C ⊢
  unfold juratlaw18_awake.f at H
  refine Calls.ofW Try.func7 rfl (by simp [Try.ntmps7]) ?_
  refine W.seq ?_
  refine W.region rfl ?_
  refine WL.val (Yl.assign (v := .bool false) rfl) ?_
  refine WL.done ?_
  refine W.seq ?_
  refine W.region rfl ?_
  obtain ⟨A1, c2, n3, p4, w5, hn6, hy7, C8, hR9⟩ := ev_lit' (P := Try.prog) 3 (Kd.int .i64) C Try.underlying22 ti3 (by decide) [1, 0, 0, 2] [.int .i64 1, .int .i64 0, .int .i64 0, .int .i64 2] (.cons rfl (.cons rfl (.cons rfl (.cons rfl .nil)))) 4 rfl (by decide) (by decide)
  refine WL.val (hy7 _ [(.const (Value.int (IntKind.i64) (1))), (.const (Value.int (IntKind.i64) (0))), (.const (Value.int (IntKind.i64) (0))), (.const (Value.int (IntKind.i64) (2)))] _ (.cons rfl (.cons rfl (.cons rfl (.cons rfl .nil))))) ?_
  obtain ⟨hc10, H⟩ := guardE H
  obtain ⟨A11, c12, n13, p14, w15, hn16, hy17, C18, hR19⟩ := ev_make' (P := Try.prog) 4 Kd.bool C8 Try.underlying23 ti4 false rfl (by decide) 4 hc10
  refine WL.val (hy17 _ _ _ _ _ _ rfl rfl) ?_
  have le20 : CH.le F (CH.join F p4) := CH.le_joinL _ _
  have lp21 : CH.le p4 (CH.join F p4) := CH.le_joinR (Ctx.dis_of [p14] [] C18)
  have C22 : Ctx _ _ _ _ (CH.join F p4) [p14] := Ctx.freeze [p14] [] C18
  have le23 : CH.le (CH.join F p4) (CH.join (CH.join F p4) p14) := CH.le_joinL _ _
  have lp24 : CH.le p14 (CH.join (CH.join F p4) p14) := CH.le_joinR (Ctx.dis_of [] [] C22)
  have C25 : Ctx _ _ _ _ (CH.join (CH.join F p4) p14) [] := Ctx.freeze [] [] C22
  obtain ⟨⟨r27, r28⟩, hg26, H⟩ := bindE H
  refine WL.call (args := #[.slice A1 n3 c2, .slice A11 n13 c12, .int .i64 4, .int .i64 3]) (Yenter.fn Try.func8 (by kernel_rfl) rfl (argsE (.cons rfl (.cons rfl (.cons rfl (.cons rfl .nil)))))) (crew_Pick.calls k _ (CH.join (CH.join F p4) p14) A1 c2 n3 [1, 0, 0, 2] A11 c12 n13 (List.replicate (4 : Int).toNat (false : Bool)) 4 3 (Ctx.pre (qs := []) (rest := []) C25) hn6 (Row.len_le hR9).1 (Row.len_le hR9).2.1 (Sl.mono (Row.sl hR9) (CH.le_trans le20 le23) (CH.le_trans lp21 le23)) hn16 (Row.len_le hR19).1 (Row.len_le hR19).2.1 (Sl.mono (Row.sl hR19) (CH.le_trans le20 le23) lp24) r27 r28 hg26) ?_
  rintro e_ w_ ⟨A29, c30, n31, p33, rfl, C35, hn32, hR34⟩
  refine ⟨_, rfl, ?_⟩
  have hR36 : Row (Kd.int .i64) F p33 (.slice A29 n31 c30) r27 := hR34
  have C37 : Ctx _ _ _ _ F [p33, p14, p4] := Ctx.callL (qs := []) (rest := [p14, p4]) C18 (CH.le_trans le20 le23) C35
  refine WL.val (Yl.move (v := .tuple #[(.slice A29 n31 c30), (.int .i64 r28)]) rfl) ?_
  refine WL.val (Yl.extract (v := .slice A29 n31 c30) rfl rfl) ?_
  refine WL.val (Yl.extract (v := .int .i64 r28) rfl rfl) ?_
  refine WL.val (Yl.assign (v := .slice A29 n31 c30) rfl) ?_
  refine WL.val (Yl.assign (v := .int .i64 r28) rfl) ?_
  refine WL.done ?_
  refine W.seq ?_
  refine W.region rfl ?_
  refine WL.val (Yl.move (v := .int .i64 r28) rfl) ?_
  refine WL.val (Yl.eql (m := r28) (n := 0) (q := decide (r28 = 0)) rfl rfl rfl) ?_
  refine WL.val (Yl.move (v := .bool (decide (r28 = 0))) rfl) ?_
  obtain ⟨g38, HE39, H⟩ := bindE H
  refine WL.cut (fun env_ w_ => env_ 0 = .bool g38 ∧ Ctx w F D w_ F [p33, p14, p4]) ?_ ?_
  · skip
    rcases iteE HE39 with ⟨hc40, HE39⟩ | ⟨hc40, HE39⟩
    · skip
      refine WL.on rfl (congrArg Value.bool (decide_eq_true hc40)) ?_
      refine WL.val (Yl.move (v := .slice A29 n31 c30) rfl) ?_
      refine WL.on rfl (congrArg Value.bool (decide_eq_true hc40)) ?_
      obtain ⟨A41, c42, n43, p44, w45, hn46, hy47, C48, hR49⟩ := ev_lit' (P := Try.prog) 3 (Kd.int .i64) C37 Try.underlying22 ti3 (by decide) [1, 2, 0] [.int .i64 1, .int .i64 2, .int .i64 0] (.cons rfl (.cons rfl (.cons rfl .nil))) 3 rfl (by decide) (by decide)
      refine WL.val (hy47 _ [(.const (Value.int (IntKind.i64) (1))), (.const (Value.int (IntKind.i64) (2))), (.const (Value.int (IntKind.i64) (0)))] _ (.cons rfl (.cons rfl (.cons rfl .nil)))) ?_
      refine WL.on rfl (congrArg Value.bool (decide_eq_true hc40)) ?_
      have le50 : CH.le F (CH.join F p33) := CH.le_joinL _ _
      have lp51 : CH.le p33 (CH.join F p33) := CH.le_joinR (Ctx.dis_of [p44] [p14, p4] C48)
      have C52 : Ctx _ _ _ _ (CH.join F p33) [p44, p14, p4] := Ctx.freeze [p44] [p14, p4] C48
      have le53 : CH.le (CH.join F p33) (CH.join (CH.join F p33) p44) := CH.le_joinL _ _
      have lp54 : CH.le p44 (CH.join (CH.join F p33) p44) := CH.le_joinR (Ctx.dis_of [] [p14, p4] C52)
      have C55 : Ctx _ _ _ _ (CH.join (CH.join F p33) p44) [p14, p4] := Ctx.freeze [] [p14, p4] C52
      obtain ⟨r57, hg56, HE39⟩ := bindE HE39
      refine WL.call (args := #[.slice A29 n31 c30, .slice A41 n43 c42]) (Yenter.fn Try.func10 (by kernel_rfl) rfl (argsE (.cons rfl (.cons rfl .nil)))) (juratref18_Same.calls k _ (CH.join (CH.join F p33) p44) A29 c30 n31 r27 A41 c42 n43 [1, 2, 0] C55.pre0 hn32 (Row.len_le hR36).1 (Row.len_le hR36).2.1 (Sl.mono (Row.sl hR36) (CH.le_trans le50 le53) (CH.le_trans lp51 le53)) hn46 (Row.len_le hR49).1 (Row.len_le hR49).2.1 (Sl.mono (Row.sl hR49) (CH.le_trans le50 le53) lp54) r57 hg56) ?_
      rintro e_ w_ ⟨rfl, ⟨m58, rfl⟩⟩
      refine ⟨_, rfl, ?_⟩
      have C59 := Ctx.drewN C48 m58
      refine WL.val (Yl.pickT (v := .bool r57) (congrArg Value.bool (decide_eq_true hc40)) rfl) ?_
      refine WL.val (Yl.assign (v := .bool r57) rfl) ?_
      cases HE39
      have C60 : Ctx _ _ _ _ F [p33, p14, p4] := Ctx.drop [] [p33, p14, p4] C59
      exact WL.done ⟨rfl, C60⟩
    · skip
      refine WL.off rfl (congrArg Value.bool (decide_eq_false hc40)) ?_
      refine WL.off rfl (congrArg Value.bool (decide_eq_false hc40)) ?_
      refine WL.off rfl (congrArg Value.bool (decide_eq_false hc40)) ?_
      refine WL.val (Yl.pickF (v := .bool false) (congrArg Value.bool (decide_eq_false hc40)) rfl) ?_
      refine WL.val (Yl.assign (v := .bool false) rfl) ?_
      cases HE39
      exact WL.done ⟨rfl, C37⟩
  · skip
    rintro env_ w_ ⟨ho61, C62⟩
    refine W.ret ?_
    have C63 : Ctx _ _ _ _ F [p14, p4] := Ctx.drop [] [p14, p4] C62
    have C64 : Ctx _ _ _ _ F [p4] := Ctx.drop [] [p4] C63
    have C65 : Ctx _ _ _ _ F [] := Ctx.drop [] [] C64
    cases H
    exact post_r (resE1 rfl ho61) ⟨rfl, C65⟩
/-! ### jurat/juratlaw18.CrewRight: function 3 -/
def juratlaw18_CrewRight.l1 : Nat → List Int → List Bool → Int → Int → List Int → Int → List Bool → Int → Option (Sum (Int × (List Bool)) Bool)
  | 0, _, _, _, _, _, _, _, _ => none
  | k + 1, a0, a1, a2, a3, r76, x449, x451, x459 => if x459 < a3 then (if 0 ≤ x459 ∧ x459 < (r76.length : Int) then ((if (r76.getD x459.toNat 0) < 0 then (some (true)) else (if (r76.getD x459.toNat 0) ≥ (a0.length : Int) then (some (true)) else (if 0 ≤ (r76.getD x459.toNat 0) ∧ (r76.getD x459.toNat 0) < (a1.length : Int) then (if (a1.getD (r76.getD x459.toNat 0).toNat false) = true then (some (true)) else (if 0 ≤ (r76.getD x459.toNat 0) ∧ (r76.getD x459.toNat 0) < (a0.length : Int) then (if (a0.getD (r76.getD x459.toNat 0).toNat 0) ≥ a2 then (some (true)) else (if 0 ≤ (r76.getD x459.toNat 0) ∧ (r76.getD x459.toNat 0) < (x451.length : Int) then (some (x451.getD (r76.getD x459.toNat 0).toNat false)) else none)) else none)) else none))).bind fun g543 => if g543 = true then (some (Sum.inr false)) else (if 0 ≤ (r76.getD x459.toNat 0) ∧ (r76.getD x459.toNat 0) < (x451.length : Int) then (if 0 ≤ (r76.getD x459.toNat 0) ∧ (r76.getD x459.toNat 0) < (a0.length : Int) then (juratlaw18_CrewRight.l1 k a0 a1 a2 a3 r76 (if (a0.getD (r76.getD x459.toNat 0).toNat 0) > x449 then a0.getD (r76.getD x459.toNat 0).toNat 0 else x449) (x451.set (r76.getD x459.toNat 0).toNat true) (wi64 (x459 + 1))) else none) else none)) else none) else (some (Sum.inl (x449, x451)))
def juratlaw18_CrewRight.l2 : Nat → List Int → List Bool → Int → List Bool → Int → Option (Sum Unit Bool)
  | 0, _, _, _, _, _ => none
  | k + 1, a0, a1, x348, x350, x700 => if x700 < (a0.length : Int) then (if 0 ≤ x700 ∧ x700 < (a1.length : Int) then ((if (a1.getD x700.toNat false) = true then (some (false)) else (if 0 ≤ x700 ∧ x700 < (x350.length : Int) then (if (x350.getD x700.toNat false) = true then (some (false)) else (if 0 ≤ x700 ∧ x700 < (a0.length : Int) then (some (decide ((a0.getD x700.toNat 0) < x348))) else none)) else none)).bind fun g749 => if g749 = true then (some (Sum.inr false)) else (juratlaw18_CrewRight.l2 k a0 a1 x348 x350 (wi64 (x700 + 1)))) else none) else (some (Sum.inl ()))
def juratlaw18_CrewRight.f (k : Nat) (a0 : List Int) (a1 : List Bool) (a2 : Int) (a3 : Int) : Option Bool := (if (a0.length : Int) > 8 then (some (true)) else (some (decide ((a1.length : Int) > 8)))).bind fun g15 => if g15 = true then ((juratlaw18_awake.f k ).bind fun r26 => some r26) else (if a0.length * 8 ≤ 140737488355328 then (if a1.length * 1 ≤ 140737488355328 then ((crew_Pick.f k a0 a1 a2 a3).bind fun ⟨r76, r77⟩ => if r77 = 0 then (if (r76.length : Int) = a3 then (if 0 ≤ (8 : Int) ∧ (8 : Int) * 1 ≤ 140737488355328 then ((juratlaw18_CrewRight.l1 k a0 a1 a2 a3 r76 0 (List.replicate (8 : Int).toNat (false : Bool)) 0).bind fun o_ => sumE o_ (fun ⟨x348, x350⟩ => (juratlaw18_CrewRight.l2 k a0 a1 x348 x350 0).bind fun o_ => sumE o_ (fun _ => (juratlaw18_awake.f k ).bind fun r782 => some r782) (fun p_ => some p_)) (fun p_ => some p_)) else none) else (some false)) else ((if (r76.length : Int) = 0 then ((juratlaw18_awake.f k ).bind fun r796 => some (r796)) else (some (false))).bind fun g792 => some g792)) else none) else none)
set_option maxRecDepth 100000 in
set_option maxHeartbeats 4000000 in
theorem juratlaw18_CrewRight.calls (k : Nat) (w : World) (F : CH) (A1 : Option Addr) (c2 : Nat) (n3 : Nat) (a0 : List Int) (A8 : Option Addr) (c9 : Nat) (n10 : Nat) (a1 : List Bool) (a2 : Int) (a3 : Int) (hp : Pre w F []) (hn4 : n3 = a0.length) (hl5 : a0.length ≤ c2) (hm6 : c2 ≤ maxLen) (hS7 : Sl (Kd.int .i64) F F A1 a0) (hn11 : n10 = a1.length) (hl12 : a1.length ≤ c9) (hm13 : c9 ≤ maxLen) (hS14 : Sl Kd.bool F F A8 a1) (r0_ : Bool) (H : juratlaw18_CrewRight.f k a0 a1 a2 a3 = some r0_) :
    Calls Try.prog 3 #[.slice A1 n3 c2, .slice A8 n10 c9, .int .i64 a2, .int .i64 a3] w fun e w' => e = .returned (.bool r0_) ∧ Ctx w F (domL []) w' F [] := by
  have C := Ctx.start hp
  generalize hD : domL [] = D at C ⊢
  unfold juratlaw18_CrewRight.f at H
  refine Calls.ofW Try.func3 rfl (by simp [Try.ntmps3]) ?_
  refine W.seq ?_
  refine W.region rfl ?_
  refine WL.val (Yl.assign (v := .bool false) rfl) ?_
  refine WL.done ?_
  refine W.seq ?_
  refine W.seq ?_
  refine W.region rfl ?_
  refine WL.val (Yl.move (v := .slice A1 n3 c2) rfl) ?_
  refine WL.val (Yl.lenN (A := A1) (l := n3) (q := c2) (n := (a0.length : Int)) rfl Try.underlying22 (by omega)) ?_
  refine WL.val (Yl.gtr (m := (a0.length : Int)) (n := 8) (q := decide ((a0.length : Int) > 8)) rfl rfl rfl) ?_
  refine WL.val (Yl.move (v := .bool (decide ((a0.length : Int) > 8))) rfl) ?_
  obtain ⟨g15, HE16, H⟩ := bindE H
  refine WL.cut (fun env_ w_ => env_ 23 = .bool g15 ∧ env_ 0 = .slice A1 n3 c2 ∧ env_ 1 = .slice A8 n10 c9 ∧ env_ 2 = .int .i64 a2 ∧ env_ 3 = .int .i64 a3 ∧ Ctx w F D w_ F []) ?_ ?_
  · skip
    rcases iteE HE16 with ⟨hc17, HE16⟩ | ⟨hc17, HE16⟩
    · skip
      refine WL.off rfl (congrArg Value.bool (decide_eq_true hc17)) ?_
      refine WL.off rfl (congrArg Value.bool (decide_eq_true hc17)) ?_
      refine WL.off rfl (congrArg Value.bool (decide_eq_true hc17)) ?_
      refine WL.val (Yl.pickT (v := .bool true) (congrArg Value.bool (decide_eq_true hc17)) rfl) ?_
      cases HE16
      exact WL.done ⟨rfl, rfl, rfl, rfl, rfl, C⟩
    · skip
      refine WL.on rfl (congrArg Value.bool (decide_eq_false hc17)) ?_
      refine WL.val (Yl.move (v := .slice A8 n10 c9) rfl) ?_
      refine WL.on rfl (congrArg Value.bool (decide_eq_false hc17)) ?_
      refine WL.val (Yl.lenN (A := A8) (l := n10) (q := c9) (n := (a1.length : Int)) rfl Try.underlying23 (by omega)) ?_
      refine WL.on rfl (congrArg Value.bool (decide_eq_false hc17)) ?_
      refine WL.val (Yl.gtr (m := (a1.length : Int)) (n := 8) (q := decide ((a1.length : Int) > 8)) rfl rfl rfl) ?_
      refine WL.val (Yl.pickF (v := .bool (decide ((a1.length : Int) > 8))) (congrArg Value.bool (decide_eq_false hc17)) rfl) ?_
      cases HE16
      exact WL.done ⟨rfl, rfl, rfl, rfl, rfl, C⟩
  · skip
    rintro env_ w_ ⟨ho18, ho19, ho20, ho21, ho22, C23⟩
    rcases iteE H with ⟨hc24, H⟩ | ⟨hc24, H⟩
    · skip
      refine W.condT (ho18.trans (congrArg Value.bool hc24)) ?_
      refine W.seq ?_
      refine W.region rfl ?_
      obtain ⟨r26, hg25, H⟩ := bindE H
      refine WL.call (args := #[]) (Yenter.fn Try.func7 (by kernel_rfl) rfl (argsE .nil)) (juratlaw18_awake.calls k _ F  (Ctx.pre (qs := []) (rest := []) C23)  r26 hg25) ?_
      rintro e_ w_ ⟨rfl, C27⟩
      refine ⟨_, rfl, ?_⟩
      have C28 : Ctx _ _ _ _ F [] := Ctx.call (qs := []) (rest := []) C23 C27
      refine WL.val (Yl.assign (v := .bool r26) rfl) ?_
      refine WL.done ?_
      refine W.ret ?_
      refine thenE_r ?_
      cases H
      exact post_r (resE1 rfl rfl) ⟨rfl, C28⟩
    · skip
      refine W.condF (ho18.trans (congrArg Value.bool (Bool.eq_false_iff.2 hc24))) ?_
      refine W.skip ?_
      refine W.seq ?_
      refine W.region rfl ?_
      obtain ⟨A29, c30, n31, p32, w33, hn34, hy35, C36, hR37⟩ := ev_lit0 (P := Try.prog) 3 (Kd.int .i64) C23 Try.underlying22 ti3
      refine WL.val (hy35 _ _) ?_
      refine WL.val (Yl.move (v := .slice A1 n3 c2) ho19) ?_
      obtain ⟨hc38, H⟩ := guardE H
      obtain ⟨A39, c40, n41, p42, w43, hn44, hy45, C46, hR47⟩ := ev_append' (P := Try.prog) (cb := c2) 3 (Kd.int .i64) [] [] C36 hR37 hn4 hS7 C36.fro Try.underlying22 ti3 rfl zo3 (by decide) (by decide) (by simpa using hc38)
      have C48 : Ctx _ _ _ _ F [p42] := C46
      rw [List.nil_append] at hn44 hR47
      refine WL.val (hy45 _ _ _ _ rfl rfl) ?_
      obtain ⟨A49, c50, n51, p52, w53, hn54, hy55, C56, hR57⟩ := ev_lit0 (P := Try.prog) 4 Kd.bool C48 Try.underlying23 ti4
      refine WL.val (hy55 _ _) ?_
      refine WL.val (Yl.move (v := .slice A8 n10 c9) ho20) ?_
      obtain ⟨hc58, H⟩ := guardE H
      obtain ⟨A59, c60, n61, p62, w63, hn64, hy65, C66, hR67⟩ := ev_append' (P := Try.prog) (cb := c9) 4 Kd.bool [] [p42] C56 hR57 hn11 hS14 C56.fro Try.underlying23 ti4 rfl zo4 (by decide) (by decide) (by simpa using hc58)
      have C68 : Ctx _ _ _ _ F [p62, p42] := C66
      rw [List.nil_append] at hn64 hR67
      refine WL.val (hy65 _ _ _ _ rfl rfl) ?_
      refine WL.val (Yl.move (v := .int .i64 a2) ho21) ?_
      refine WL.val (Yl.move (v := .int .i64 a3) ho22) ?_
      have le69 : CH.le F (CH.join F p42) := CH.le_joinL _ _
      have lp70 : CH.le p42 (CH.join F p42) := CH.le_joinR (Ctx.dis_of [p62] [] C68)
      have C71 : Ctx _ _ _ _ (CH.join F p42) [p62] := Ctx.freeze [p62] [] C68
      have le72 : CH.le (CH.join F p42) (CH.join (CH.join F p42) p62) := CH.le_joinL _ _
      have lp73 : CH.le p62 (CH.join (CH.join F p42) p62) := CH.le_joinR (Ctx.dis_of [] [] C71)
      have C74 : Ctx _ _ _ _ (CH.join (CH.join F p42) p62) [] := Ctx.freeze [] [] C71
      obtain ⟨⟨r76, r77⟩, hg75, H⟩ := bindE H
      refine WL.call (args := #[.slice A39 n41 c40, .slice A59 n61 c60, .int .i64 a2, .int .i64 a3]) (Yenter.fn Try.func8 (by kernel_rfl) rfl (argsE (.cons rfl (.cons rfl (.cons rfl (.cons rfl .nil)))))) (crew_Pick.calls k _ (CH.join (CH.join F p42) p62) A39 c40 n41 a0 A59 c60 n61 a1 a2 a3 (Ctx.pre (qs := []) (rest := []) C74) hn44 (Row.len_le hR47).1 (Row.len_le hR47).2.1 (Sl.mono (Row.sl hR47) (CH.le_trans le69 le72) (CH.le_trans lp70 le72)) hn64 (Row.len_le hR67).1 (Row.len_le hR67).2.1 (Sl.mono (Row.sl hR67) (CH.le_trans le69 le72) lp73) r76 r77 hg75) ?_
      rintro e_ w_ ⟨A78, c79, n80, p82, rfl, C84, hn81, hR83⟩
      refine ⟨_, rfl, ?_⟩
      have hR85 : Row (Kd.int .i64) F p82 (.slice A78 n80 c79) r76 := hR83
      have C86 : Ctx _ _ _ _ F [p82, p62, p42] := Ctx.callL (qs := []) (rest := [p62, p42]) C68 (CH.le_trans le69 le72) C84
      refine WL.val (Yl.move (v := .tuple #[(.slice A78 n80 c79), (.int .i64 r77)]) rfl) ?_
      refine WL.val (Yl.extract (v := .slice A78 n80 c79) rfl rfl) ?_
      refine WL.val (Yl.extract (v := .int .i64 r77) rfl rfl) ?_
      refine WL.val (Yl.assign (v := .slice A78 n80 c79) rfl) ?_
      refine WL.val (Yl.assign (v := .int .i64 r77) rfl) ?_
      refine WL.done ?_
      refine W.seq ?_
      refine W.seq ?_
      refine W.region rfl ?_
      refine WL.val (Yl.move (v := .int .i64 r77) rfl) ?_
      refine WL.val (Yl.neq (m := r77) (n := 0) (q := !decide (r77 = 0)) rfl rfl rfl) ?_
      refine WL.done ?_
      rcases iteE H with ⟨hc87, H⟩ | ⟨hc87, H⟩
      · skip
        refine W.condF (congrArg Value.bool (ndec_t hc87)) ?_
        refine W.skip ?_
        refine W.seq ?_
        refine W.seq ?_
        refine W.region rfl ?_
        refine WL.val (Yl.move (v := .slice A78 n80 c79) rfl) ?_
        refine WL.val (Yl.lenN (A := A78) (l := n80) (q := c79) (n := (r76.length : Int)) rfl Try.underlying22 (by omega)) ?_
        refine WL.val (Yl.move (v := .int .i64 a3) ho22) ?_
        refine WL.val (Yl.neq (m := (r76.length : Int)) (n := a3) (q := !decide ((r76.length : Int) = a3)) rfl rfl rfl) ?_
        refine WL.done ?_
        rcases iteE H with ⟨hc88, H⟩ | ⟨hc88, H⟩
        · skip
          refine W.condF (congrArg Value.bool (ndec_t hc88)) ?_
          refine W.skip ?_
          refine W.seq ?_
          refine W.region rfl ?_
          refine WL.val (Yl.assign (v := .int .i64 0) rfl) ?_
          refine WL.done ?_
          refine W.seq ?_
          refine W.region rfl ?_
          obtain ⟨hc89, H⟩ := guardE H
          obtain ⟨A90, c91, n92, p93, w94, hn95, hy96, C97, hR98⟩ := ev_make' (P := Try.prog) 4 Kd.bool C86 Try.underlying23 ti4 false rfl (by decide) 8 hc89
          refine WL.val (hy96 _ _ _ _ _ _ rfl rfl) ?_
          refine WL.val (Yl.assign (v := .slice A90 n92 c91) rfl) ?_
          refine WL.done ?_
          refine W.seq ?_
          refine W.seq ?_
          refine W.region rfl ?_
          refine WL.val (Yl.assign (v := .int .i64 0) rfl) ?_
          refine WL.done ?_
          obtain ⟨o359, hX358, H⟩ := bindE H
          refine W.cutM (fun env_ w_ => ∃ (x348 : Int) (x350 : List Bool) (A351 : Option Addr) (c352 : Nat) (n353 : Nat) (p355 : CH), env_ 0 = .slice A1 n3 c2 ∧ env_ 1 = .slice A8 n10 c9 ∧ env_ 11 = .int .i64 x348 ∧ env_ 12 = .slice A351 n353 c352 ∧ Ctx w F D w_ F [p355, p82, p62, p42] ∧ n353 = x350.length ∧ Row Kd.bool F p355 (.slice A351 n353 c352) x350 ∧ o359 = Sum.inl (x348, x350)) ?_ ?_
          · skip
            refine W.block ?_
            refine W.loop (fun g_ env_ w_ => ∃ (x449 : Int) (x451 : List Bool) (x459 : Int) (A452 : Option Addr) (c453 : Nat) (n454 : Nat) (p456 : CH), env_ 0 = .slice A1 n3 c2 ∧ env_ 1 = .slice A8 n10 c9 ∧ env_ 2 = .int .i64 a2 ∧ env_ 3 = .int .i64 a3 ∧ env_ 9 = .slice A78 n80 c79 ∧ env_ 11 = .int .i64 x449 ∧ env_ 12 = .slice A452 n454 c453 ∧ env_ 13 = .int .i64 x459 ∧ Ctx w F D w_ F [p456, p82, p62, p42] ∧ n454 = x451.length ∧ Row Kd.bool F p456 (.slice A452 n454 c453) x451 ∧ juratlaw18_CrewRight.l1 g_ a0 a1 a2 a3 r76 x449 x451 x459 = some o359) k ⟨0, (List.replicate (8 : Int).toNat (false : Bool)), 0, A90, c91, n92, p93, ho19, ho20, ho21, ho22, rfl, rfl, rfl, rfl, C97, hn95, hR98, hX358⟩ ?_
            clear hX358
            rintro g_ env_ w_ ⟨x449, x451, x459, A452, c453, n454, p456, ho443, ho444, ho445, ho446, ho447, ho448, ho450, ho458, C460, hn455, hR457, hX358⟩
            rcases g_ with _ | k533
            · exact absurd hX358 (by simp [juratlaw18_CrewRight.l1])
            rw [juratlaw18_CrewRight.l1] at hX358
            refine W.seq ?_
            refine W.seq ?_
            refine W.region rfl ?_
            refine WL.val (Yl.move (v := .int .i64 x459) ho458) ?_
            refine WL.val (Yl.move (v := .int .i64 a3) ho446) ?_
            refine WL.val (Yl.lss (m := x459) (n := a3) (q := decide (x459 < a3)) rfl rfl rfl) ?_
            refine WL.done ?_
            rcases iteE hX358 with ⟨hc534, hX358⟩ | ⟨hc534, hX358⟩
            · skip
              refine W.condT (congrArg Value.bool (decide_eq_true hc534)) ?_
              refine W.skip ?_
              refine W.seq ?_
              refine W.block ?_
              refine W.seq ?_
              refine W.region rfl ?_
              refine WL.val (Yl.move (v := .slice A78 n80 c79) ho447) ?_
              refine WL.val (Yl.move (v := .int .i64 x459) ho458) ?_
              obtain ⟨hc535, hX358⟩ := guardE hX358
              obtain ⟨b536, of537, hA538, he539⟩ := (Row.sl hR85) (by omega)
              refine WL.val (Yl.elemAddr (i := x459) rfl rfl hA538 Try.underlying22 sz3 (by omega)) ?_
              obtain ⟨cs540, hr541, hx542⟩ := he539 x459.toNat _ (getD_some (d := 0) (by omega))
              obtain rfl := hr541
              refine WL.val (Yl.load (v := .int .i64 (r76.getD x459.toNat 0)) rfl Try.underlying3 rfl (((Ctx.sub_of [p456] [p62, p42] C460)).cell (hx542 0 _ rfl))) ?_
              refine WL.val (Yl.assign (v := .int .i64 (r76.getD x459.toNat 0)) rfl) ?_
              refine WL.done ?_
              refine W.seq ?_
              refine W.seq ?_
              refine W.region rfl ?_
              refine WL.val (Yl.move (v := .int .i64 (r76.getD x459.toNat 0)) rfl) ?_
              refine WL.val (Yl.lss (m := r76.getD x459.toNat 0) (n := 0) (q := decide ((r76.getD x459.toNat 0) < 0)) rfl rfl rfl) ?_
              refine WL.val (Yl.move (v := .bool (decide ((r76.getD x459.toNat 0) < 0))) rfl) ?_
              obtain ⟨g543, HE544, hX358⟩ := bindE hX358
              refine WL.cut (fun env_ w_ => env_ 86 = .bool g543 ∧ env_ 0 = .slice A1 n3 c2 ∧ env_ 1 = .slice A8 n10 c9 ∧ env_ 2 = .int .i64 a2 ∧ env_ 3 = .int .i64 a3 ∧ env_ 9 = .slice A78 n80 c79 ∧ env_ 11 = .int .i64 x449 ∧ env_ 12 = .slice A452 n454 c453 ∧ env_ 13 = .int .i64 x459 ∧ env_ 14 = .int .i64 (r76.getD x459.toNat 0) ∧ Ctx w F D w_ F [p456, p82, p62, p42]) ?_ ?_
              · skip
                rcases iteE HE544 with ⟨hc545, HE544⟩ | ⟨hc545, HE544⟩
                · skip
                  refine WL.off rfl (congrArg Value.bool (decide_eq_true hc545)) ?_
                  refine WL.off rfl (congrArg Value.bool (decide_eq_true hc545)) ?_
                  refine WL.off rfl (congrArg Value.bool (decide_eq_true hc545)) ?_
                  refine WL.off rfl (congrArg Value.bool (decide_eq_true hc545)) ?_
                  refine WL.val (Yl.pickT (v := .bool true) (congrArg Value.bool (decide_eq_true hc545)) rfl) ?_
                  refine WL.val (Yl.move (v := .bool true) rfl) ?_
                  refine WL.off rfl rfl ?_
                  refine WL.off rfl rfl ?_
                  refine WL.off rfl rfl ?_
                  refine WL.off rfl rfl ?_
                  refine WL.val (Yl.pickT (v := .bool true) rfl rfl) ?_
                  refine WL.val (Yl.move (v := .bool true) rfl) ?_
                  refine WL.off rfl rfl ?_
                  refine WL.off rfl rfl ?_
                  refine WL.off rfl rfl ?_
                  refine WL.off rfl rfl ?_
                  refine WL.off rfl rfl ?_
                  refine WL.off rfl rfl ?_
                  refine WL.val (Yl.pickT (v := .bool true) rfl rfl) ?_
                  refine WL.val (Yl.move (v := .bool true) rfl) ?_
                  refine WL.off rfl rfl ?_
                  refine WL.off rfl rfl ?_
                  refine WL.off rfl rfl ?_
                  refine WL.off rfl rfl ?_
                  refine WL.val (Yl.pickT (v := .bool true) rfl rfl) ?_
                  cases HE544
                  exact WL.done ⟨rfl, ho443, ho444, ho445, ho446, ho447, ho448, ho450, ho458, rfl, C460⟩
                · skip
                  refine WL.on rfl (congrArg Value.bool (decide_eq_false hc545)) ?_
                  refine WL.val (Yl.move (v := .int .i64 (r76.getD x459.toNat 0)) rfl) ?_
                  refine WL.on rfl (congrArg Value.bool (decide_eq_false hc545)) ?_
                  refine WL.val (Yl.move (v := .slice A1 n3 c2) ho443) ?_
                  refine WL.on rfl (congrArg Value.bool (decide_eq_false hc545)) ?_
                  refine WL.val (Yl.lenN (A := A1) (l := n3) (q := c2) (n := (a0.length : Int)) rfl Try.underlying22 (by omega)) ?_
                  refine WL.on rfl (congrArg Value.bool (decide_eq_false hc545)) ?_
                  refine WL.val (Yl.geq (m := r76.getD x459.toNat 0) (n := (a0.length : Int)) (q := decide ((r76.getD x459.toNat 0) ≥ (a0.length : Int))) rfl rfl rfl) ?_
                  refine WL.val (Yl.pickF (v := .bool (decide ((r76.getD x459.toNat 0) ≥ (a0.length : Int)))) (congrArg Value.bool (decide_eq_false hc545)) rfl) ?_
                  refine WL.val (Yl.move (v := .bool (decide ((r76.getD x459.toNat 0) ≥ (a0.length : Int)))) rfl) ?_
                  rcases iteE HE544 with ⟨hc546, HE544⟩ | ⟨hc546, HE544⟩
                  · skip
                    refine WL.off rfl (congrArg Value.bool (decide_eq_true hc546)) ?_
                    refine WL.off rfl (congrArg Value.bool (decide_eq_true hc546)) ?_
                    refine WL.off rfl (congrArg Value.bool (decide_eq_true hc546)) ?_
                    refine WL.off rfl (congrArg Value.bool (decide_eq_true hc546)) ?_
                    refine WL.val (Yl.pickT (v := .bool true) (congrArg Value.bool (decide_eq_true hc546)) rfl) ?_
                    refine WL.val (Yl.move (v := .bool true) rfl) ?_
                    refine WL.off rfl rfl ?_
                    refine WL.off rfl rfl ?_
                    refine WL.off rfl rfl ?_
                    refine WL.off rfl rfl ?_
                    refine WL.off rfl rfl ?_
                    refine WL.off rfl rfl ?_
                    refine WL.val (Yl.pickT (v := .bool true) rfl rfl) ?_
                    refine WL.val (Yl.move (v := .bool true) rfl) ?_
                    refine WL.off rfl rfl ?_
                    refine WL.off rfl rfl ?_
                    refine WL.off rfl rfl ?_
                    refine WL.off rfl rfl ?_
                    refine WL.val (Yl.pickT (v := .bool true) rfl rfl) ?_
                    cases HE544
                    exact WL.done ⟨rfl, ho443, ho444, ho445, ho446, ho447, ho448, ho450, ho458, rfl, C460⟩
                  · skip
                    refine WL.on rfl (congrArg Value.bool (decide_eq_false hc546)) ?_
                    refine WL.val (Yl.move (v := .slice A8 n10 c9) ho444) ?_
                    refine WL.on rfl (congrArg Value.bool (decide_eq_false hc546)) ?_
                    refine WL.val (Yl.move (v := .int .i64 (r76.getD x459.toNat 0)) rfl) ?_
                    refine WL.on rfl (congrArg Value.bool (decide_eq_false hc546)) ?_
                    obtain ⟨hc547, HE544⟩ := guardE HE544
                    obtain ⟨b548, of549, hA550, he551⟩ := hS14 (by omega)
                    refine WL.val (Yl.elemAddr (i := r76.getD x459.toNat 0) rfl rfl hA550 Try.underlying23 sz4 (by omega)) ?_
                    refine WL.on rfl (congrArg Value.bool (decide_eq_false hc546)) ?_
                    obtain ⟨cs552, hr553, hx554⟩ := he551 (r76.getD x459.toNat 0).toNat _ (getD_some (d := false) (by omega))
                    obtain rfl := hr553
                    refine WL.val (Yl.load (v := .bool (a1.getD (r76.getD x459.toNat 0).toNat false)) rfl Try.underlying4 rfl (((C460.fro)).cell (hx554 0 _ rfl))) ?_
                    refine WL.val (Yl.pickF (v := .bool (a1.getD (r76.getD x459.toNat 0).toNat false)) (congrArg Value.bool (decide_eq_false hc546)) rfl) ?_
                    refine WL.val (Yl.move (v := .bool (a1.getD (r76.getD x459.toNat 0).toNat false)) rfl) ?_
                    rcases iteE HE544 with ⟨hc555, HE544⟩ | ⟨hc555, HE544⟩
                    · skip
                      refine WL.off rfl (congrArg Value.bool hc555) ?_
                      refine WL.off rfl (congrArg Value.bool hc555) ?_
                      refine WL.off rfl (congrArg Value.bool hc555) ?_
                      refine WL.off rfl (congrArg Value.bool hc555) ?_
                      refine WL.off rfl (congrArg Value.bool hc555) ?_
                      refine WL.off rfl (congrArg Value.bool hc555) ?_
                      refine WL.val (Yl.pickT (v := .bool true) (congrArg Value.bool hc555) rfl) ?_
                      refine WL.val (Yl.move (v := .bool true) rfl) ?_
                      refine WL.off rfl rfl ?_
                      refine WL.off rfl rfl ?_
                      refine WL.off rfl rfl ?_
                      refine WL.off rfl rfl ?_
                      refine WL.val (Yl.pickT (v := .bool true) rfl rfl) ?_
                      cases HE544
                      exact WL.done ⟨rfl, ho443, ho444, ho445, ho446, ho447, ho448, ho450, ho458, rfl, C460⟩
                    · skip
                      refine WL.on rfl (congrArg Value.bool (Bool.eq_false_iff.2 hc555)) ?_
                      refine WL.val (Yl.move (v := .slice A1 n3 c2) ho443) ?_
                      refine WL.on rfl (congrArg Value.bool (Bool.eq_false_iff.2 hc555)) ?_
                      refine WL.val (Yl.move (v := .int .i64 (r76.getD x459.toNat 0)) rfl) ?_
                      refine WL.on rfl (congrArg Value.bool (Bool.eq_false_iff.2 hc555)) ?_
                      obtain ⟨hc556, HE544⟩ := guardE HE544
                      obtain ⟨b557, of558, hA559, he560⟩ := hS7 (by omega)
                      refine WL.val (Yl.elemAddr (i := r76.getD x459.toNat 0) rfl rfl hA559 Try.underlying22 sz3 (by omega)) ?_
                      refine WL.on rfl (congrArg Value.bool (Bool.eq_false_iff.2 hc555)) ?_
                      obtain ⟨cs561, hr562, hx563⟩ := he560 (r76.getD x459.toNat 0).toNat _ (getD_some (d := 0) (by omega))
                      obtain rfl := hr562
                      refine WL.val (Yl.load (v := .int .i64 (a0.getD (r76.getD x459.toNat 0).toNat 0)) rfl Try.underlying3 rfl (((C460.fro)).cell (hx563 0 _ rfl))) ?_
                      refine WL.on rfl (congrArg Value.bool (Bool.eq_false_iff.2 hc555)) ?_
                      refine WL.val (Yl.move (v := .int .i64 a2) ho445) ?_
                      refine WL.on rfl (congrArg Value.bool (Bool.eq_false_iff.2 hc555)) ?_
                      refine WL.val (Yl.geq (m := a0.getD (r76.getD x459.toNat 0).toNat 0) (n := a2) (q := decide ((a0.getD (r76.getD x459.toNat 0).toNat 0) ≥ a2)) rfl rfl rfl) ?_
                      refine WL.val (Yl.pickF (v := .bool (decide ((a0.getD (r76.getD x459.toNat 0).toNat 0) ≥ a2))) (congrArg Value.bool (Bool.eq_false_iff.2 hc555)) rfl) ?_
                      refine WL.val (Yl.move (v := .bool (decide ((a0.getD (r76.getD x459.toNat 0).toNat 0) ≥ a2))) rfl) ?_
                      rcases iteE HE544 with ⟨hc564, HE544⟩ | ⟨hc564, HE544⟩
                      · skip
                        refine WL.off rfl (congrArg Value.bool (decide_eq_true hc564)) ?_
                        refine WL.off rfl (congrArg Value.bool (decide_eq_true hc564)) ?_
                        refine WL.off rfl (congrArg Value.bool (decide_eq_true hc564)) ?_
                        refine WL.off rfl (congrArg Value.bool (decide_eq_true hc564)) ?_
                        refine WL.val (Yl.pickT (v := .bool true) (congrArg Value.bool (decide_eq_true hc564)) rfl) ?_
                        cases HE544
                        exact WL.done ⟨rfl, ho443, ho444, ho445, ho446, ho447, ho448, ho450, ho458, rfl, C460⟩
                      · skip
                        refine WL.on rfl (congrArg Value.bool (decide_eq_false hc564)) ?_
                        refine WL.val (Yl.move (v := .slice A452 n454 c453) ho450) ?_
                        refine WL.on rfl (congrArg Value.bool (decide_eq_false hc564)) ?_
                        refine WL.val (Yl.move (v := .int .i64 (r76.getD x459.toNat 0)) rfl) ?_
                        refine WL.on rfl (congrArg Value.bool (decide_eq_false hc564)) ?_
                        obtain ⟨hc565, HE544⟩ := guardE HE544
                        obtain ⟨b566, of567, hA568, he569⟩ := (Row.sl hR457) (by omega)
                        refine WL.val (Yl.elemAddr (i := r76.getD x459.toNat 0) rfl rfl hA568 Try.underlying23 sz4 (by omega)) ?_
                        refine WL.on rfl (congrArg Value.bool (decide_eq_false hc564)) ?_
                        obtain ⟨cs570, hr571, hx572⟩ := he569 (r76.getD x459.toNat 0).toNat _ (getD_some (d := false) (by omega))
                        obtain rfl := hr571
                        refine WL.val (Yl.load (v := .bool (x451.getD (r76.getD x459.toNat 0).toNat false)) rfl Try.underlying4 rfl (((Ctx.sub_of [] [p82, p62, p42] C460)).cell (hx572 0 _ rfl))) ?_
                        refine WL.val (Yl.pickF (v := .bool (x451.getD (r76.getD x459.toNat 0).toNat false)) (congrArg Value.bool (decide_eq_false hc564)) rfl) ?_
                        cases HE544
                        exact WL.done ⟨rfl, ho443, ho444, ho445, ho446, ho447, ho448, ho450, ho458, rfl, C460⟩
              · skip
                rintro env_ w_ ⟨ho573, ho574, ho575, ho576, ho577, ho578, ho579, ho580, ho581, ho582, C583⟩
                rcases iteE hX358 with ⟨hc584, hX358⟩ | ⟨hc584, hX358⟩
                · skip
                  refine W.condT (ho573.trans (congrArg Value.bool hc584)) ?_
                  refine W.seq ?_
                  refine W.region rfl ?_
                  refine WL.val (Yl.assign (v := .bool false) rfl) ?_
                  refine WL.done ?_
                  refine W.ret ?_
                  refine thenE_r ?_
                  refine inB_r ?_
                  refine thenE_r ?_
                  refine thenE_r ?_
                  refine inB_r ?_
                  refine thenE_r ?_
                  refine thenE_r ?_
                  cases hX358
                  replace H := sumE_r H
                  have C585 : Ctx _ _ _ _ F [p82, p62, p42] := Ctx.drop [] [p82, p62, p42] C583
                  have C586 : Ctx _ _ _ _ F [p62, p42] := Ctx.drop [] [p62, p42] C585
                  have C587 : Ctx _ _ _ _ F [p42] := Ctx.drop [] [p42] C586
                  have C588 : Ctx _ _ _ _ F [] := Ctx.drop [] [] C587
                  cases H
                  exact post_r (resE1 rfl rfl) ⟨rfl, C588⟩
                · skip
                  refine W.condF (ho573.trans (congrArg Value.bool (Bool.eq_false_iff.2 hc584))) ?_
                  refine W.skip ?_
                  refine W.seq ?_
                  refine W.region rfl ?_
                  refine WL.val (Yl.move (v := .slice A452 n454 c453) ho580) ?_
                  refine WL.val (Yl.move (v := .int .i64 (r76.getD x459.toNat 0)) ho582) ?_
                  obtain ⟨hc589, hX358⟩ := guardE hX358
                  obtain ⟨b590, of591, hA592, he593⟩ := (Row.sl hR457) (by omega)
                  refine WL.val (Yl.elemAddr (i := r76.getD x459.toNat 0) rfl rfl hA592 Try.underlying23 sz4 (by omega)) ?_
                  have hj599 : (r76.getD x459.toNat 0).toNat < x451.length := by first | omega | (simp only [List.length_set, List.length_replicate] at *; omega)
                  obtain ⟨p594, w595, hy596, C597, hR598⟩ := ev_store (P := Try.prog) (t := 4) Kd.bool [] [p82, p62, p42] C583 hR457 hA592 (r76.getD x459.toNat 0).toNat 0 hj599 false (.bool true) ([.bool true]) rfl (by simp [Value.oneCell']) (Nat.le_of_ble_eq_true rfl) sz4 (true) (fun _ h_ => rep_whole h_ rfl) ⟨b590, of591 + (r76.getD x459.toNat 0).toNat * 1, none⟩ rfl
                  have hn600 : n454 = (x451.set (r76.getD x459.toNat 0).toNat true).length := by rw [List.length_set]; omega
                  have C601 : Ctx _ _ _ _ F [p594, p82, p62, p42] := C597
                  refine WL.skip (hy596 _ _ _ _ rfl rfl) ?_
                  refine WL.done ?_
                  refine W.region rfl ?_
                  refine WL.val (Yl.move (v := .int .i64 x449) ho579) ?_
                  refine WL.val (Yl.move (v := .slice A1 n3 c2) ho574) ?_
                  refine WL.val (Yl.move (v := .int .i64 (r76.getD x459.toNat 0)) ho582) ?_
                  obtain ⟨hc602, hX358⟩ := guardE hX358
                  obtain ⟨b603, of604, hA605, he606⟩ := hS7 (by omega)
                  refine WL.val (Yl.elemAddr (i := r76.getD x459.toNat 0) rfl rfl hA605 Try.underlying22 sz3 (by omega)) ?_
                  obtain ⟨cs607, hr608, hx609⟩ := he606 (r76.getD x459.toNat 0).toNat _ (getD_some (d := 0) (by omega))
                  obtain rfl := hr608
                  refine WL.val (Yl.load (v := .int .i64 (a0.getD (r76.getD x459.toNat 0).toNat 0)) rfl Try.underlying3 rfl (((C601.fro)).cell (hx609 0 _ rfl))) ?_
                  refine WL.val (Yl.max2 (m := x449) (n := a0.getD (r76.getD x459.toNat 0).toNat 0) (r := (if (a0.getD (r76.getD x459.toNat 0).toNat 0) > x449 then a0.getD (r76.getD x459.toNat 0).toNat 0 else x449)) rfl rfl rfl) ?_
                  refine WL.val (Yl.assign (v := .int .i64 (if (a0.getD (r76.getD x459.toNat 0).toNat 0) > x449 then a0.getD (r76.getD x459.toNat 0).toNat 0 else x449)) rfl) ?_
                  refine WL.done ?_
                  refine inB_n ?_
                  refine W.region rfl ?_
                  refine WL.val (Yl.move (v := .int .i64 x459) ho581) ?_
                  refine WL.val (Yl.add (m := x459) (n := 1) (r := wi64 (x459 + 1)) rfl rfl rfl) ?_
                  refine WL.val (Yl.assign (v := .int .i64 (wi64 (x459 + 1))) rfl) ?_
                  refine WL.done ?_
                  exact thenE_n ⟨k533, Nat.lt_succ_self _, (if (a0.getD (r76.getD x459.toNat 0).toNat 0) > x449 then a0.getD (r76.getD x459.toNat 0).toNat 0 else x449), x451.set (r76.getD x459.toNat 0).toNat true, wi64 (x459 + 1), A452, c453, n454, p594, ho574, ho575, ho576, ho577, ho578, rfl, ho580, rfl, C601, hn600, hR598, hX358⟩
            · skip
              refine W.condF (congrArg Value.bool (decide_eq_false hc534)) ?_
              refine W.exit ?_
              refine thenE_x ?_
              refine thenE_x ?_
              refine inB_here ?_
              cases hX358
              refine thenE_n ?_
              exact ⟨x449, x451, A452, c453, n454, p456, ho443, ho444, ho448, ho450, C460, hn455, hR457, rfl⟩
          · skip
            rintro env_ w_ ⟨x348, x350, A351, c352, n353, p355, ho345, ho346, ho347, ho349, C357, hn354, hR356, rfl⟩
            replace H := sumE_l H
            refine W.seq ?_
            refine W.seq ?_
            refine W.region rfl ?_
            refine WL.val (Yl.assign (v := .int .i64 0) rfl) ?_
            refine WL.done ?_
            obtain ⟨o694, hX693, H⟩ := bindE H
            refine W.cutM (fun env_ w_ => Ctx w F D w_ F [p355, p82, p62, p42] ∧ o694 = Sum.inl ()) ?_ ?_
            · skip
              refine W.block ?_
              refine W.loop (fun g_ env_ w_ => ∃ (x700 : Int), env_ 0 = .slice A1 n3 c2 ∧ env_ 1 = .slice A8 n10 c9 ∧ env_ 11 = .int .i64 x348 ∧ env_ 12 = .slice A351 n353 c352 ∧ env_ 15 = .int .i64 x700 ∧ Ctx w F D w_ F [p355, p82, p62, p42] ∧ juratlaw18_CrewRight.l2 g_ a0 a1 x348 x350 x700 = some o694) k ⟨0, ho345, ho346, ho347, ho349, rfl, C357, hX693⟩ ?_
              clear hX693
              rintro g_ env_ w_ ⟨x700, ho695, ho696, ho697, ho698, ho699, C701, hX693⟩
              rcases g_ with _ | k739
              · exact absurd hX693 (by simp [juratlaw18_CrewRight.l2])
              rw [juratlaw18_CrewRight.l2] at hX693
              refine W.seq ?_
              refine W.seq ?_
              refine W.region rfl ?_
              refine WL.val (Yl.move (v := .int .i64 x700) ho699) ?_
              refine WL.val (Yl.move (v := .slice A1 n3 c2) ho695) ?_
              refine WL.val (Yl.lenN (A := A1) (l := n3) (q := c2) (n := (a0.length : Int)) rfl Try.underlying22 (by omega)) ?_
              refine WL.val (Yl.lss (m := x700) (n := (a0.length : Int)) (q := decide (x700 < (a0.length : Int))) rfl rfl rfl) ?_
              refine WL.done ?_
              rcases iteE hX693 with ⟨hc740, hX693⟩ | ⟨hc740, hX693⟩
              · skip
                refine W.condT (congrArg Value.bool (decide_eq_true hc740)) ?_
                refine W.skip ?_
                refine W.seq ?_
                refine W.block ?_
                refine W.seq ?_
                refine W.region rfl ?_
                refine WL.val (Yl.move (v := .slice A8 n10 c9) ho696) ?_
                refine WL.val (Yl.move (v := .int .i64 x700) ho699) ?_
                obtain ⟨hc741, hX693⟩ := guardE hX693
                obtain ⟨b742, of743, hA744, he745⟩ := hS14 (by omega)
                refine WL.val (Yl.elemAddr (i := x700) rfl rfl hA744 Try.underlying23 sz4 (by omega)) ?_
                obtain ⟨cs746, hr747, hx748⟩ := he745 x700.toNat _ (getD_some (d := false) (by omega))
                obtain rfl := hr747
                refine WL.val (Yl.load (v := .bool (a1.getD x700.toNat false)) rfl Try.underlying4 rfl (((C701.fro)).cell (hx748 0 _ rfl))) ?_
                refine WL.val (Yl.not (p := a1.getD x700.toNat false) (q := !(a1.getD x700.toNat false)) rfl rfl) ?_
                refine WL.val (Yl.move (v := .bool (!(a1.getD x700.toNat false))) rfl) ?_
                obtain ⟨g749, HE750, hX693⟩ := bindE hX693
                refine WL.cut (fun env_ w_ => env_ 121 = .bool g749 ∧ env_ 0 = .slice A1 n3 c2 ∧ env_ 1 = .slice A8 n10 c9 ∧ env_ 11 = .int .i64 x348 ∧ env_ 12 = .slice A351 n353 c352 ∧ env_ 15 = .int .i64 x700 ∧ Ctx w F D w_ F [p355, p82, p62, p42]) ?_ ?_
                · skip
                  rcases iteE HE750 with ⟨hc751, HE750⟩ | ⟨hc751, HE750⟩
                  · skip
                    refine WL.off rfl (congrArg Value.bool (nb_t hc751)) ?_
                    refine WL.off rfl (congrArg Value.bool (nb_t hc751)) ?_
                    refine WL.off rfl (congrArg Value.bool (nb_t hc751)) ?_
                    refine WL.off rfl (congrArg Value.bool (nb_t hc751)) ?_
                    refine WL.off rfl (congrArg Value.bool (nb_t hc751)) ?_
                    refine WL.val (Yl.pickF (v := .bool false) (congrArg Value.bool (nb_t hc751)) rfl) ?_
                    refine WL.val (Yl.move (v := .bool false) rfl) ?_
                    refine WL.off rfl rfl ?_
                    refine WL.off rfl rfl ?_
                    refine WL.off rfl rfl ?_
                    refine WL.off rfl rfl ?_
                    refine WL.off rfl rfl ?_
                    refine WL.off rfl rfl ?_
                    refine WL.val (Yl.pickF (v := .bool false) rfl rfl) ?_
                    cases HE750
                    exact WL.done ⟨rfl, ho695, ho696, ho697, ho698, ho699, C701⟩
                  · skip
                    refine WL.on rfl (congrArg Value.bool (nb_f hc751)) ?_
                    refine WL.val (Yl.move (v := .slice A351 n353 c352) ho698) ?_
                    refine WL.on rfl (congrArg Value.bool (nb_f hc751)) ?_
                    refine WL.val (Yl.move (v := .int .i64 x700) ho699) ?_
                    refine WL.on rfl (congrArg Value.bool (nb_f hc751)) ?_
                    obtain ⟨hc752, HE750⟩ := guardE HE750
                    obtain ⟨b753, of754, hA755, he756⟩ := (Row.sl hR356) (by omega)
                    refine WL.val (Yl.elemAddr (i := x700) rfl rfl hA755 Try.underlying23 sz4 (by omega)) ?_
                    refine WL.on rfl (congrArg Value.bool (nb_f hc751)) ?_
                    obtain ⟨cs757, hr758, hx759⟩ := he756 x700.toNat _ (getD_some (d := false) (by omega))
                    obtain rfl := hr758
                    refine WL.val (Yl.load (v := .bool (x350.getD x700.toNat false)) rfl Try.underlying4 rfl (((Ctx.sub_of [] [p82, p62, p42] C701)).cell (hx759 0 _ rfl))) ?_
                    refine WL.on rfl (congrArg Value.bool (nb_f hc751)) ?_
                    refine WL.val (Yl.not (p := x350.getD x700.toNat false) (q := !(x350.getD x700.toNat false)) rfl rfl) ?_
                    refine WL.val (Yl.pickT (v := .bool (!(x350.getD x700.toNat false))) (congrArg Value.bool (nb_f hc751)) rfl) ?_
                    refine WL.val (Yl.move (v := .bool (!(x350.getD x700.toNat false))) rfl) ?_
                    rcases iteE HE750 with ⟨hc760, HE750⟩ | ⟨hc760, HE750⟩
                    · skip
                      refine WL.off rfl (congrArg Value.bool (nb_t hc760)) ?_
                      refine WL.off rfl (congrArg Value.bool (nb_t hc760)) ?_
                      refine WL.off rfl (congrArg Value.bool (nb_t hc760)) ?_
                      refine WL.off rfl (congrArg Value.bool (nb_t hc760)) ?_
                      refine WL.off rfl (congrArg Value.bool (nb_t hc760)) ?_
                      refine WL.off rfl (congrArg Value.bool (nb_t hc760)) ?_
                      refine WL.val (Yl.pickF (v := .bool false) (congrArg Value.bool (nb_t hc760)) rfl) ?_
                      cases HE750
                      exact WL.done ⟨rfl, ho695, ho696, ho697, ho698, ho699, C701⟩
                    · skip
                      refine WL.on rfl (congrArg Value.bool (nb_f hc760)) ?_
                      refine WL.val (Yl.move (v := .slice A1 n3 c2) ho695) ?_
                      refine WL.on rfl (congrArg Value.bool (nb_f hc760)) ?_
                      refine WL.val (Yl.move (v := .int .i64 x700) ho699) ?_
                      refine WL.on rfl (congrArg Value.bool (nb_f hc760)) ?_
                      obtain ⟨hc761, HE750⟩ := guardE HE750
                      obtain ⟨b762, of763, hA764, he765⟩ := hS7 (by omega)
                      refine WL.val (Yl.elemAddr (i := x700) rfl rfl hA764 Try.underlying22 sz3 (by omega)) ?_
                      refine WL.on rfl (congrArg Value.bool (nb_f hc760)) ?_
                      obtain ⟨cs766, hr767, hx768⟩ := he765 x700.toNat _ (getD_some (d := 0) (by omega))
                      obtain rfl := hr767
                      refine WL.val (Yl.load (v := .int .i64 (a0.getD x700.toNat 0)) rfl Try.underlying3 rfl (((C701.fro)).cell (hx768 0 _ rfl))) ?_
                      refine WL.on rfl (congrArg Value.bool (nb_f hc760)) ?_
                      refine WL.val (Yl.move (v := .int .i64 x348) ho697) ?_
                      refine WL.on rfl (congrArg Value.bool (nb_f hc760)) ?_
                      refine WL.val (Yl.lss (m := a0.getD x700.toNat 0) (n := x348) (q := decide ((a0.getD x700.toNat 0) < x348)) rfl rfl rfl) ?_
                      refine WL.val (Yl.pickT (v := .bool (decide ((a0.getD x700.toNat 0) < x348))) (congrArg Value.bool (nb_f hc760)) rfl) ?_
                      cases HE750
                      exact WL.done ⟨rfl, ho695, ho696, ho697, ho698, ho699, C701⟩
                · skip
                  rintro env_ w_ ⟨ho769, ho770, ho771, ho772, ho773, ho774, C775⟩
                  rcases iteE hX693 with ⟨hc776, hX693⟩ | ⟨hc776, hX693⟩
                  · skip
                    refine W.condT (ho769.trans (congrArg Value.bool hc776)) ?_
                    refine W.seq ?_
                    refine W.region rfl ?_
                    refine WL.val (Yl.assign (v := .bool false) rfl) ?_
                    refine WL.done ?_
                    refine W.ret ?_
                    refine inB_r ?_
                    refine thenE_r ?_
                    refine thenE_r ?_
                    refine inB_r ?_
                    refine thenE_r ?_
                    refine thenE_r ?_
                    cases hX693
                    replace H := sumE_r H
                    have C777 : Ctx _ _ _ _ F [p82, p62, p42] := Ctx.drop [] [p82, p62, p42] C775
                    have C778 : Ctx _ _ _ _ F [p62, p42] := Ctx.drop [] [p62, p42] C777
                    have C779 : Ctx _ _ _ _ F [p42] := Ctx.drop [] [p42] C778
                    have C780 : Ctx _ _ _ _ F [] := Ctx.drop [] [] C779
                    cases H
                    exact post_r (resE1 rfl rfl) ⟨rfl, C780⟩
                  · skip
                    refine W.condF (ho769.trans (congrArg Value.bool (Bool.eq_false_iff.2 hc776))) ?_
                    refine W.skip ?_
                    refine inB_n ?_
                    refine W.region rfl ?_
                    refine WL.val (Yl.move (v := .int .i64 x700) ho774) ?_
                    refine WL.val (Yl.add (m := x700) (n := 1) (r := wi64 (x700 + 1)) rfl rfl rfl) ?_
                    refine WL.val (Yl.assign (v := .int .i64 (wi64 (x700 + 1))) rfl) ?_
                    refine WL.done ?_
                    exact thenE_n ⟨k739, Nat.lt_succ_self _, wi64 (x700 + 1), ho770, ho771, ho772, ho773, rfl, C775, hX693⟩
              · skip
                refine W.condF (congrArg Value.bool (decide_eq_false hc740)) ?_
                refine W.exit ?_
                refine thenE_x ?_
                refine thenE_x ?_
                refine inB_here ?_
                cases hX693
                refine thenE_n ?_
                exact ⟨C701, rfl⟩
            · skip
              rintro env_ w_ ⟨C692, rfl⟩
              replace H := sumE_l H
              refine W.seq ?_
              refine W.region rfl ?_
              obtain ⟨r782, hg781, H⟩ := bindE H
              refine WL.call (args := #[]) (Yenter.fn Try.func7 (by kernel_rfl) rfl (argsE .nil)) (juratlaw18_awake.calls k _ F  (Ctx.pre (qs := []) (rest := [p355, p82, p62, p42]) C692)  r782 hg781) ?_
              rintro e_ w_ ⟨rfl, C783⟩
              refine ⟨_, rfl, ?_⟩
              have C784 : Ctx _ _ _ _ F [p355, p82, p62, p42] := Ctx.call (qs := []) (rest := [p355, p82, p62, p42]) C692 C783
              refine WL.val (Yl.assign (v := .bool r782) rfl) ?_
              refine WL.done ?_
              refine W.ret ?_
              have C785 : Ctx _ _ _ _ F [p82, p62, p42] := Ctx.drop [] [p82, p62, p42] C784
              have C786 : Ctx _ _ _ _ F [p62, p42] := Ctx.drop [] [p62, p42] C785
              have C787 : Ctx _ _ _ _ F [p42] := Ctx.drop [] [p42] C786
              have C788 : Ctx _ _ _ _ F [] := Ctx.drop [] [] C787
              cases H
              exact post_r (resE1 rfl rfl) ⟨rfl, C788⟩
        · skip
          refine W.condT (congrArg Value.bool (ndec_f hc88)) ?_
          refine W.seq ?_
          refine W.region rfl ?_
          refine WL.val (Yl.assign (v := .bool false) rfl) ?_
          refine WL.done ?_
          refine W.ret ?_
          refine thenE_r ?_
          have C789 : Ctx _ _ _ _ F [p62, p42] := Ctx.drop [] [p62, p42] C86
          have C790 : Ctx _ _ _ _ F [p42] := Ctx.drop [] [p42] C789
          have C791 : Ctx _ _ _ _ F [] := Ctx.drop [] [] C790
          cases H
          exact post_r (resE1 rfl rfl) ⟨rfl, C791⟩
      · skip
        refine W.condT (congrArg Value.bool (ndec_f hc87)) ?_
        refine W.seq ?_
        refine W.region rfl ?_
        refine WL.val (Yl.move (v := .slice A78 n80 c79) rfl) ?_
        refine WL.val (Yl.lenN (A := A78) (l := n80) (q := c79) (n := (r76.length : Int)) rfl Try.underlying22 (by omega)) ?_
        refine WL.val (Yl.eql (m := (r76.length : Int)) (n := 0) (q := decide ((r76.length : Int) = 0)) rfl rfl rfl) ?_
        refine WL.val (Yl.move (v := .bool (decide ((r76.length : Int) = 0))) rfl) ?_
        obtain ⟨g792, HE793, H⟩ := bindE H
        refine WL.cut (fun env_ w_ => env_ 8 = .bool g792 ∧ Ctx w F D w_ F [p82, p62, p42]) ?_ ?_
        · skip
          rcases iteE HE793 with ⟨hc794, HE793⟩ | ⟨hc794, HE793⟩
          · skip
            refine WL.on rfl (congrArg Value.bool (decide_eq_true hc794)) ?_
            obtain ⟨r796, hg795, HE793⟩ := bindE HE793
            refine WL.call (args := #[]) (Yenter.fn Try.func7 (by kernel_rfl) rfl (argsE .nil)) (juratlaw18_awake.calls k _ F  (Ctx.pre (qs := []) (rest := [p82, p62, p42]) C86)  r796 hg795) ?_
            rintro e_ w_ ⟨rfl, C797⟩
            refine ⟨_, rfl, ?_⟩
            have C798 : Ctx _ _ _ _ F [p82, p62, p42] := Ctx.call (qs := []) (rest := [p82, p62, p42]) C86 C797
            refine WL.val (Yl.pickT (v := .bool r796) (congrArg Value.bool (decide_eq_true hc794)) rfl) ?_
            refine WL.val (Yl.assign (v := .bool r796) rfl) ?_
            cases HE793
            exact WL.done ⟨rfl, C798⟩
          · skip
            refine WL.off rfl (congrArg Value.bool (decide_eq_false hc794)) ?_
            refine WL.val (Yl.pickF (v := .bool false) (congrArg Value.bool (decide_eq_false hc794)) rfl) ?_
            refine WL.val (Yl.assign (v := .bool false) rfl) ?_
            cases HE793
            exact WL.done ⟨rfl, C86⟩
        · skip
          rintro env_ w_ ⟨ho799, C800⟩
          refine W.ret ?_
          refine thenE_r ?_
          have C801 : Ctx _ _ _ _ F [p62, p42] := Ctx.drop [] [p62, p42] C800
          have C802 : Ctx _ _ _ _ F [p42] := Ctx.drop [] [p42] C801
          have C803 : Ctx _ _ _ _ F [] := Ctx.drop [] [] C802
          cases H
          exact post_r (resE1 rfl ho799) ⟨rfl, C803⟩
/-! ### jurat/juratlaw18.CrewFair: function 4 -/
def juratlaw18_CrewFair.l1 : Nat → Int → List Int → Int → Option (List Int)
  | 0, _, _, _ => none
  | k + 1, a1, x148, x156 => if x156 < (x148.length : Int) then (if 0 ≤ x156 ∧ x156 < (x148.length : Int) then (juratlaw18_CrewFair.l1 k a1 (x148.set x156.toNat a1) (wi64 (x156 + 1))) else none) else (some x148)
def juratlaw18_CrewFair.l3 : Nat → List Int → List Int → Int → Option (Sum (List Int) Bool)
  | 0, _, _, _ => none
  | k + 1, r8769, x8999, x9009 => if x9009 < (r8769.length : Int) then (if 0 ≤ x9009 ∧ x9009 < (r8769.length : Int) then ((if (r8769.getD x9009.toNat 0) < 0 then (some (true)) else (some (decide ((r8769.getD x9009.toNat 0) ≥ (x8999.length : Int))))).bind fun g9063 => if g9063 = true then (some (Sum.inr false)) else (if 0 ≤ (r8769.getD x9009.toNat 0) ∧ (r8769.getD x9009.toNat 0) < (x8999.length : Int) then (juratlaw18_CrewFair.l3 k r8769 (x8999.set (r8769.getD x9009.toNat 0).toNat (wi64 ((x8999.getD (r8769.getD x9009.toNat 0).toNat 0) + 1))) (wi64 (x9009 + 1))) else none)) else none) else (some (Sum.inl x8999))
def juratlaw18_CrewFair.l5 : Nat → List Bool → Int → List Int → Int → Int → Option (Sum Unit Bool)
  | 0, _, _, _, _, _ => none
  | k + 1, a0, a1, x8934, x9589, x9955 => if x9955 < (x8934.length : Int) then (if 0 ≤ x9589 ∧ x9589 < (a0.length : Int) then ((if (a0.getD x9589.toNat false) = true then (if 0 ≤ x9589 ∧ x9589 < (x8934.length : Int) then (some (!decide ((x8934.getD x9589.toNat 0) = a1))) else none) else (if 0 ≤ x9955 ∧ x9955 < (a0.length : Int) then (if (a0.getD x9955.toNat false) = true then (some (false)) else (if 0 ≤ x9589 ∧ x9589 < (x8934.length : Int) then (if 0 ≤ x9955 ∧ x9955 < (x8934.length : Int) then (if (x8934.getD x9589.toNat 0) > (wi64 ((x8934.getD x9955.toNat 0) + 1)) then (some (true)) else (some (false))) else none) else none)) else none)).bind fun g10017 => if g10017 = true then (some (Sum.inr false)) else (juratlaw18_CrewFair.l5 k a0 a1 x8934 x9589 (wi64 (x9955 + 1)))) else none) else (some (Sum.inl ()))
def juratlaw18_CrewFair.l4 : Nat → List Bool → Int → List Int → Int → Option (Sum Unit Bool)
  | 0, _, _, _, _ => none
  | k + 1, a0, a1, x8934, x9589 => if x9589 < (x8934.length : Int) then ((juratlaw18_CrewFair.l5 k a0 a1 x8934 x9589 0).bind fun o_ => sumE o_ (fun _ => juratlaw18_CrewFair.l4 k a0 a1 x8934 (wi64 (x9589 + 1))) (fun p_ => some (Sum.inr p_))) else (some (Sum.inl ()))
def juratlaw18_CrewFair.l2 : Nat → List Bool → Int → Int → List Int → List Int → Int → Option (Sum Unit Bool)
  | 0, _, _, _, _, _, _ => none
  | k + 1, a0, a1, a2, a3, x6773, x6781 => if x6781 < (a3.length : Int) then (if 0 ≤ x6781 ∧ x6781 < (a3.length : Int) then (if x6773.length * 8 ≤ 140737488355328 then (if (([] : List Bool).length + a0.length) * 1 ≤ 140737488355328 then ((crew_Pick.f k x6773 a0 a2 (a3.getD x6781.toNat 0)).bind fun ⟨r8769, r8770⟩ => if r8770 = 0 then ((juratlaw18_CrewFair.l3 k r8769 x6773 0).bind fun o_ => sumE o_ (fun x8934 => (juratlaw18_CrewFair.l4 k a0 a1 x8934 0).bind fun o_ => sumE o_ (fun _ => juratlaw18_CrewFair.l2 k a0 a1 a2 a3 x8934 (wi64 (x6781 + 1))) (fun p_ => some (Sum.inr p_))) (fun p_ => some (Sum.inr p_))) else (juratlaw18_CrewFair.l2 k a0 a1 a2 a3 x6773 (wi64 (x6781 + 1)))) else none) else none) else none) else (some (Sum.inl ()))
def juratlaw18_CrewFair.f (k : Nat) (a0 : List Bool) (a1 : Int) (a2 : Int) (a3 : List Int) : Option Bool := (if (a0.length : Int) > 8 then (some (true)) else (if (a3.length : Int) > 100 then (some (true)) else (if a1 < 0 then (some (true)) else (some (decide (a1 > 1000)))))).bind fun g15 => if g15 = true then ((juratlaw18_awake.f k ).bind fun r28 => some r28) else (if 0 ≤ (a0.length : Int) ∧ (a0.length : Int) * 8 ≤ 140737488355328 then ((juratlaw18_CrewFair.l1 k a1 (List.replicate (a0.length : Int).toNat (0 : Int)) 0).bind fun x112 => (juratlaw18_CrewFair.l2 k a0 a1 a2 a3 x112 0).bind fun o_ => sumE o_ (fun _ => (juratlaw18_awake.f k ).bind fun r10070 => some r10070) (fun p_ => some p_)) else none)
set_option maxRecDepth 100000 in
set_option maxHeartbeats 4000000 in
theorem juratlaw18_CrewFair.calls (k : Nat) (w : World) (F : CH) (A1 : Option Addr) (c2 : Nat) (n3 : Nat) (a0 : List Bool) (a1 : Int) (a2 : Int) (A8 : Option Addr) (c9 : Nat) (n10 : Nat) (a3 : List Int) (hp : Pre w F []) (hn4 : n3 = a0.length) (hl5 : a0.length ≤ c2) (hm6 : c2 ≤ maxLen) (hS7 : Sl Kd.bool F F A1 a0) (hn11 : n10 = a3.length) (hl12 : a3.length ≤ c9) (hm13 : c9 ≤ maxLen) (hS14 : Sl (Kd.int .i64) F F A8 a3) (r0_ : Bool) (H : juratlaw18_CrewFair.f k a0 a1 a2 a3 = some r0_) :
    Calls Try.prog 4 #[.slice A1 n3 c2, .int .i64 a1, .int .i64 a2, .slice A8 n10 c9] w fun e w' => e = .returned (.bool r0_) ∧ Ctx w F (domL []) w' F [] := by
  have C := Ctx.start hp
  generalize hD : domL [] = D at C ⊢
  unfold juratlaw18_CrewFair.f at H
  refine Calls.ofW Try.func4 rfl (by simp [Try.ntmps4]) ?_
  refine W.seq ?_
  refine W.region rfl ?_
  refine WL.val (Yl.assign (v := .bool false) rfl) ?_
  refine WL.done ?_
  refine W.seq ?_
  refine W.seq ?_
  refine W.region rfl ?_
  refine WL.val (Yl.move (v := .slice A1 n3 c2) rfl) ?_
  refine WL.val (Yl.lenN (A := A1) (l := n3) (q := c2) (n := (a0.length : Int)) rfl Try.underlying23 (by omega)) ?_
  refine WL.val (Yl.gtr (m := (a0.length : Int)) (n := 8) (q := decide ((a0.length : Int) > 8)) rfl rfl rfl) ?_
  refine WL.val (Yl.move (v := .bool (decide ((a0.length : Int) > 8))) rfl) ?_
  obtain ⟨g15, HE16, H⟩ := bindE H
  refine WL.cut (fun env_ w_ => env_ 32 = .bool g15 ∧ env_ 0 = .slice A1 n3 c2 ∧ env_ 1 = .int .i64 a1 ∧ env_ 2 = .int .i64 a2 ∧ env_ 3 = .slice A8 n10 c9 ∧ Ctx w F D w_ F []) ?_ ?_
  · skip
    rcases iteE HE16 with ⟨hc17, HE16⟩ | ⟨hc17, HE16⟩
    · skip
      refine WL.off rfl (congrArg Value.bool (decide_eq_true hc17)) ?_
      refine WL.off rfl (congrArg Value.bool (decide_eq_true hc17)) ?_
      refine WL.off rfl (congrArg Value.bool (decide_eq_true hc17)) ?_
      refine WL.val (Yl.pickT (v := .bool true) (congrArg Value.bool (decide_eq_true hc17)) rfl) ?_
      refine WL.val (Yl.move (v := .bool true) rfl) ?_
      refine WL.off rfl rfl ?_
      refine WL.off rfl rfl ?_
      refine WL.val (Yl.pickT (v := .bool true) rfl rfl) ?_
      refine WL.val (Yl.move (v := .bool true) rfl) ?_
      refine WL.off rfl rfl ?_
      refine WL.off rfl rfl ?_
      refine WL.val (Yl.pickT (v := .bool true) rfl rfl) ?_
      cases HE16
      exact WL.done ⟨rfl, rfl, rfl, rfl, rfl, C⟩
    · skip
      refine WL.on rfl (congrArg Value.bool (decide_eq_false hc17)) ?_
      refine WL.val (Yl.move (v := .slice A8 n10 c9) rfl) ?_
      refine WL.on rfl (congrArg Value.bool (decide_eq_false hc17)) ?_
      refine WL.val (Yl.lenN (A := A8) (l := n10) (q := c9) (n := (a3.length : Int)) rfl Try.underlying22 (by omega)) ?_
      refine WL.on rfl (congrArg Value.bool (decide_eq_false hc17)) ?_
      refine WL.val (Yl.gtr (m := (a3.length : Int)) (n := 100) (q := decide ((a3.length : Int) > 100)) rfl rfl rfl) ?_
      refine WL.val (Yl.pickF (v := .bool (decide ((a3.length : Int) > 100))) (congrArg Value.bool (decide_eq_false hc17)) rfl) ?_
      refine WL.val (Yl.move (v := .bool (decide ((a3.length : Int) > 100))) rfl) ?_
      rcases iteE HE16 with ⟨hc18, HE16⟩ | ⟨hc18, HE16⟩
      · skip
        refine WL.off rfl (congrArg Value.bool (decide_eq_true hc18)) ?_
        refine WL.off rfl (congrArg Value.bool (decide_eq_true hc18)) ?_
        refine WL.val (Yl.pickT (v := .bool true) (congrArg Value.bool (decide_eq_true hc18)) rfl) ?_
        refine WL.val (Yl.move (v := .bool true) rfl) ?_
        refine WL.off rfl rfl ?_
        refine WL.off rfl rfl ?_
        refine WL.val (Yl.pickT (v := .bool true) rfl rfl) ?_
        cases HE16
        exact WL.done ⟨rfl, rfl, rfl, rfl, rfl, C⟩
      · skip
        refine WL.on rfl (congrArg Value.bool (decide_eq_false hc18)) ?_
        refine WL.val (Yl.move (v := .int .i64 a1) rfl) ?_
        refine WL.on rfl (congrArg Value.bool (decide_eq_false hc18)) ?_
        refine WL.val (Yl.lss (m := a1) (n := 0) (q := decide (a1 < 0)) rfl rfl rfl) ?_
        refine WL.val (Yl.pickF (v := .bool (decide (a1 < 0))) (congrArg Value.bool (decide_eq_false hc18)) rfl) ?_
        refine WL.val (Yl.move (v := .bool (decide (a1 < 0))) rfl) ?_
        rcases iteE HE16 with ⟨hc19, HE16⟩ | ⟨hc19, HE16⟩
        · skip
          refine WL.off rfl (congrArg Value.bool (decide_eq_true hc19)) ?_
          refine WL.off rfl (congrArg Value.bool (decide_eq_true hc19)) ?_
          refine WL.val (Yl.pickT (v := .bool true) (congrArg Value.bool (decide_eq_true hc19)) rfl) ?_
          cases HE16
          exact WL.done ⟨rfl, rfl, rfl, rfl, rfl, C⟩
        · skip
          refine WL.on rfl (congrArg Value.bool (decide_eq_false hc19)) ?_
          refine WL.val (Yl.move (v := .int .i64 a1) rfl) ?_
          refine WL.on rfl (congrArg Value.bool (decide_eq_false hc19)) ?_
          refine WL.val (Yl.gtr (m := a1) (n := 1000) (q := decide (a1 > 1000)) rfl rfl rfl) ?_
          refine WL.val (Yl.pickF (v := .bool (decide (a1 > 1000))) (congrArg Value.bool (decide_eq_false hc19)) rfl) ?_
          cases HE16
          exact WL.done ⟨rfl, rfl, rfl, rfl, rfl, C⟩
  · skip
    rintro env_ w_ ⟨ho20, ho21, ho22, ho23, ho24, C25⟩
    rcases iteE H with ⟨hc26, H⟩ | ⟨hc26, H⟩
    · skip
      refine W.condT (ho20.trans (congrArg Value.bool hc26)) ?_
      refine W.seq ?_
      refine W.region rfl ?_
      obtain ⟨r28, hg27, H⟩ := bindE H
      refine WL.call (args := #[]) (Yenter.fn Try.func7 (by kernel_rfl) rfl (argsE .nil)) (juratlaw18_awake.calls k _ F  (Ctx.pre (qs := []) (rest := []) C25)  r28 hg27) ?_
      rintro e_ w_ ⟨rfl, C29⟩
      refine ⟨_, rfl, ?_⟩
      have C30 : Ctx _ _ _ _ F [] := Ctx.call (qs := []) (rest := []) C25 C29
      refine WL.val (Yl.assign (v := .bool r28) rfl) ?_
      refine WL.done ?_
      refine W.ret ?_
      refine thenE_r ?_
      cases H
      exact post_r (resE1 rfl rfl) ⟨rfl, C30⟩
    · skip
      refine W.condF (ho20.trans (congrArg Value.bool (Bool.eq_false_iff.2 hc26))) ?_
      refine W.skip ?_
      refine W.seq ?_
      refine W.region rfl ?_
      refine WL.val (Yl.move (v := .slice A1 n3 c2) ho21) ?_
      refine WL.val (Yl.lenN (A := A1) (l := n3) (q := c2) (n := (a0.length : Int)) rfl Try.underlying23 (by omega)) ?_
      obtain ⟨hc31, H⟩ := guardE H
      obtain ⟨A32, c33, n34, p35, w36, hn37, hy38, C39, hR40⟩ := ev_make' (P := Try.prog) 3 (Kd.int .i64) C25 Try.underlying22 ti3 0 rfl (by decide) (a0.length : Int) hc31
      refine WL.val (hy38 _ _ _ _ _ _ rfl rfl) ?_
      refine WL.val (Yl.assign (v := .slice A32 n34 c33) rfl) ?_
      refine WL.done ?_
      refine W.seq ?_
      refine W.seq ?_
      refine W.region rfl ?_
      refine WL.val (Yl.assign (v := .int .i64 0) rfl) ?_
      refine WL.done ?_
      obtain ⟨x112, hX120, H⟩ := bindE H
      refine W.cutM (fun env_ w_ => ∃ (A113 : Option Addr) (c114 : Nat) (n115 : Nat) (p117 : CH), env_ 0 = .slice A1 n3 c2 ∧ env_ 1 = .int .i64 a1 ∧ env_ 2 = .int .i64 a2 ∧ env_ 3 = .slice A8 n10 c9 ∧ env_ 9 = .slice A113 n115 c114 ∧ Ctx w F D w_ F [p117] ∧ n115 = x112.length ∧ Row (Kd.int .i64) F p117 (.slice A113 n115 c114) x112) ?_ ?_
      · skip
        refine W.block ?_
        refine W.loop (fun g_ env_ w_ => ∃ (x148 : List Int) (x156 : Int) (A149 : Option Addr) (c150 : Nat) (n151 : Nat) (p153 : CH), env_ 0 = .slice A1 n3 c2 ∧ env_ 1 = .int .i64 a1 ∧ env_ 2 = .int .i64 a2 ∧ env_ 3 = .slice A8 n10 c9 ∧ env_ 9 = .slice A149 n151 c150 ∧ env_ 10 = .int .i64 x156 ∧ Ctx w F D w_ F [p153] ∧ n151 = x148.length ∧ Row (Kd.int .i64) F p153 (.slice A149 n151 c150) x148 ∧ juratlaw18_CrewFair.l1 g_ a1 x148 x156 = some x112) k ⟨(List.replicate (a0.length : Int).toNat (0 : Int)), 0, A32, c33, n34, p35, ho21, ho22, ho23, ho24, rfl, rfl, C39, hn37, hR40, hX120⟩ ?_
        clear hX120
        rintro g_ env_ w_ ⟨x148, x156, A149, c150, n151, p153, ho143, ho144, ho145, ho146, ho147, ho155, C157, hn152, hR154, hX120⟩
        rcases g_ with _ | k172
        · exact absurd hX120 (by simp [juratlaw18_CrewFair.l1])
        rw [juratlaw18_CrewFair.l1] at hX120
        refine W.seq ?_
        refine W.seq ?_
        refine W.region rfl ?_
        refine WL.val (Yl.move (v := .int .i64 x156) ho155) ?_
        refine WL.val (Yl.move (v := .slice A149 n151 c150) ho147) ?_
        refine WL.val (Yl.lenN (A := A149) (l := n151) (q := c150) (n := (x148.length : Int)) rfl Try.underlying22 (by omega)) ?_
        refine WL.val (Yl.lss (m := x156) (n := (x148.length : Int)) (q := decide (x156 < (x148.length : Int))) rfl rfl rfl) ?_
        refine WL.done ?_
        rcases iteE hX120 with ⟨hc173, hX120⟩ | ⟨hc173, hX120⟩
        · skip
          refine W.condT (congrArg Value.bool (decide_eq_true hc173)) ?_
          refine W.skip ?_
          refine W.seq ?_
          refine W.block ?_
          refine W.region rfl ?_
          refine WL.val (Yl.move (v := .slice A149 n151 c150) ho147) ?_
          refine WL.val (Yl.move (v := .int .i64 x156) ho155) ?_
          refine WL.val (Yl.move (v := .int .i64 a1) ho144) ?_
          obtain ⟨hc174, hX120⟩ := guardE hX120
          obtain ⟨b175, of176, hA177, he178⟩ := (Row.sl hR154) (by omega)
          refine WL.val (Yl.elemAddr (i := x156) rfl rfl hA177 Try.underlying22 sz3 (by omega)) ?_
          have hj184 : x156.toNat < x148.length := by first | omega | (simp only [List.length_set, List.length_replicate] at *; omega)
          obtain ⟨p179, w180, hy181, C182, hR183⟩ := ev_store (P := Try.prog) (t := 3) (Kd.int .i64) [] [] C157 hR154 hA177 x156.toNat 0 hj184 0 (.int .i64 a1) ([.int .i64 a1]) rfl (by simp [Value.oneCell']) (Nat.le_of_ble_eq_true rfl) sz3 (a1) (fun _ h_ => rep_whole h_ rfl) ⟨b175, of176 + x156.toNat * 1, none⟩ rfl
          have hn185 : n151 = (x148.set x156.toNat a1).length := by rw [List.length_set]; omega
          have C186 : Ctx _ _ _ _ F [p179] := C182
          refine WL.skip (hy181 _ _ _ _ rfl rfl) ?_
          refine WL.done ?_
          refine inB_n ?_
          refine W.region rfl ?_
          refine WL.val (Yl.move (v := .int .i64 x156) ho155) ?_
          refine WL.val (Yl.add (m := x156) (n := 1) (r := wi64 (x156 + 1)) rfl rfl rfl) ?_
          refine WL.val (Yl.assign (v := .int .i64 (wi64 (x156 + 1))) rfl) ?_
          refine WL.done ?_
          exact thenE_n ⟨k172, Nat.lt_succ_self _, x148.set x156.toNat a1, wi64 (x156 + 1), A149, c150, n151, p179, ho143, ho144, ho145, ho146, ho147, rfl, C186, hn185, hR183, hX120⟩
        · skip
          refine W.condF (congrArg Value.bool (decide_eq_false hc173)) ?_
          refine W.exit ?_
          refine thenE_x ?_
          refine thenE_x ?_
          refine inB_here ?_
          cases hX120
          refine thenE_n ?_
          exact ⟨A149, c150, n151, p153, ho143, ho144, ho145, ho146, ho147, C157, hn152, hR154⟩
      · skip
        rintro env_ w_ ⟨A113, c114, n115, p117, ho107, ho108, ho109, ho110, ho111, C119, hn116, hR118⟩
        refine W.seq ?_
        refine W.seq ?_
        refine W.region rfl ?_
        refine WL.val (Yl.assign (v := .int .i64 0) rfl) ?_
        refine WL.done ?_
        obtain ⟨o5124, hX5123, H⟩ := bindE H
        refine W.cutM (fun env_ w_ => Ctx w F D w_ F [] ∧ o5124 = Sum.inl ()) ?_ ?_
        · skip
          refine W.block ?_
          refine W.loop (fun g_ env_ w_ => ∃ (x6773 : List Int) (x6781 : Int) (A6774 : Option Addr) (c6775 : Nat) (n6776 : Nat) (p6778 : CH), env_ 0 = .slice A1 n3 c2 ∧ env_ 1 = .int .i64 a1 ∧ env_ 2 = .int .i64 a2 ∧ env_ 3 = .slice A8 n10 c9 ∧ env_ 9 = .slice A6774 n6776 c6775 ∧ env_ 11 = .int .i64 x6781 ∧ Ctx w F D w_ F [p6778] ∧ n6776 = x6773.length ∧ Row (Kd.int .i64) F p6778 (.slice A6774 n6776 c6775) x6773 ∧ juratlaw18_CrewFair.l2 g_ a0 a1 a2 a3 x6773 x6781 = some o5124) k ⟨x112, 0, A113, c114, n115, p117, ho107, ho108, ho109, ho110, ho111, rfl, C119, hn116, hR118, hX5123⟩ ?_
          clear hX5123
          rintro g_ env_ w_ ⟨x6773, x6781, A6774, c6775, n6776, p6778, ho6768, ho6769, ho6770, ho6771, ho6772, ho6780, C6782, hn6777, hR6779, hX5123⟩
          rcases g_ with _ | k8418
          · exact absurd hX5123 (by simp [juratlaw18_CrewFair.l2])
          rw [juratlaw18_CrewFair.l2] at hX5123
          refine W.seq ?_
          refine W.seq ?_
          refine W.region rfl ?_
          refine WL.val (Yl.move (v := .int .i64 x6781) ho6780) ?_
          refine WL.val (Yl.move (v := .slice A8 n10 c9) ho6771) ?_
          refine WL.val (Yl.lenN (A := A8) (l := n10) (q := c9) (n := (a3.length : Int)) rfl Try.underlying22 (by omega)) ?_
          refine WL.val (Yl.lss (m := x6781) (n := (a3.length : Int)) (q := decide (x6781 < (a3.length : Int))) rfl rfl rfl) ?_
          refine WL.done ?_
          rcases iteE hX5123 with ⟨hc8419, hX5123⟩ | ⟨hc8419, hX5123⟩
          · skip
            refine W.condT (congrArg Value.bool (decide_eq_true hc8419)) ?_
            refine W.skip ?_
            refine W.seq ?_
            refine W.block ?_
            refine W.seq ?_
            refine W.regionA [([11], F)] (by kernel_rfl) ?_
            have C8486 := Ctx.drewN C6782 1
            refine WA.take none 1 rfl (by kernel_rfl) (by kernel_rfl) (show _ = #[false, true, false, false, false, false, false, false, false, false, false, false, false, false, false, false, false] from rfl) trivial ⟨(C8486.fro), trivial⟩ (fun _ hC_ => Yl.move (v := .slice A6774 n6776 c6775) ho6772) ?_
            refine WA.take none 4 rfl (by kernel_rfl) (by kernel_rfl) (show _ = #[false, true, false, false, true, false, false, false, false, false, false, false, false, false, false, false, false] from rfl) trivial ⟨(C8486.fro), trivial⟩ (fun _ hC_ => Yl.move (v := .slice A1 n3 c2) ho6768) ?_
            refine WA.take none 6 rfl (by kernel_rfl) (by kernel_rfl) (show _ = #[false, true, false, false, true, false, true, false, false, false, false, false, false, false, false, false, false] from rfl) trivial ⟨(C8486.fro), trivial⟩ (fun _ hC_ => Yl.move (v := .int .i64 a2) ho6770) ?_
            refine WA.take none 7 rfl (by kernel_rfl) (by kernel_rfl) (show _ = #[false, true, false, false, true, false, true, true, false, false, false, false, false, false, false, false, false] from rfl) trivial ⟨(C8486.fro), trivial⟩ (fun _ hC_ => Yl.move (v := .slice A8 n10 c9) ho6771) ?_
            refine WA.take none 8 rfl (by kernel_rfl) (by kernel_rfl) (show _ = #[false, true, false, false, true, false, true, true, true, false, false, false, false, false, false, false, false] from rfl) trivial ⟨(C8486.fro), trivial⟩ (fun _ hC_ => Yl.move (v := .int .i64 x6781) ho6780) ?_
            obtain ⟨hc8487, hX5123⟩ := guardE hX5123
            obtain ⟨b8488, of8489, hA8490, he8491⟩ := hS14 (by omega)
            refine WA.take none 9 rfl (by kernel_rfl) (by kernel_rfl) (show _ = #[false, true, false, false, true, false, true, true, true, true, false, false, false, false, false, false, false] from rfl) trivial ⟨(C8486.fro), trivial⟩ (fun _ hC_ => Yl.elemAddr (i := x6781) rfl rfl hA8490 Try.underlying22 sz3 (by omega)) ?_
            obtain ⟨cs8492, hr8493, hx8494⟩ := he8491 x6781.toNat _ (getD_some (d := 0) (by omega))
            obtain rfl := hr8493
            refine WA.take (some 0) 10 rfl (by kernel_rfl) (by kernel_rfl) (show _ = #[false, true, false, false, true, false, true, true, true, true, true, false, false, false, false, false, false] from rfl) (C8486.fro) ⟨(C8486.fro), trivial⟩ (fun _ hC_ => Yl.load (v := .int .i64 (a3.getD x6781.toNat 0)) rfl Try.underlying3 rfl (((Sub.mono (show Sub F _ from hC_) (CH.le_refl _))).cell (hx8494 0 _ rfl))) ?_
            obtain ⟨hc8573, hX5123⟩ := guardE hX5123
            refine WA.joinAt (fun env_ w_ => ∃ (A8656 : Option Addr) (c8657 : Nat) (n8658 : Nat) (p8660 : CH) (A8663 : Option Addr) (c8664 : Nat) (n8665 : Nat) (p8667 : CH), env_ 0 = .slice A1 n3 c2 ∧ env_ 1 = .int .i64 a1 ∧ env_ 2 = .int .i64 a2 ∧ env_ 3 = .slice A8 n10 c9 ∧ env_ 9 = .slice A6774 n6776 c6775 ∧ env_ 11 = .int .i64 x6781 ∧ env_ 56 = .slice A8656 n8658 c8657 ∧ env_ 57 = .slice A8663 n8665 c8664 ∧ env_ 58 = .slice A1 n3 c2 ∧ env_ 60 = .int .i64 a2 ∧ env_ 64 = .int .i64 (a3.getD x6781.toNat 0) ∧ Ctx w F D w_ F [p8660, p8667, p6778] ∧ n8658 = x6773.length ∧ Row (Kd.int .i64) F p8660 (.slice A8656 n8658 c8657) x6773 ∧ n8665 = ([] : List Bool).length ∧ Row Kd.bool F p8667 (.slice A8663 n8665 c8664) ([] : List Bool)) #[true, true, true, true, true, false, true, true, true, true, true, false, false, false, false, false, false] 7 ?_ ?_
            · skip
              intro kJ8673
              refine WA.up2 0 3 (by kernel_rfl) ?_ ?_
              · skip
                obtain ⟨A8674, c8675, n8676, p8677, w8678, hn8679, hy8680, C8681, hR8682⟩ := ev_lit0 (P := Try.prog) 3 (Kd.int .i64) C8486 Try.underlying22 ti3
                refine Up.val rfl rfl (show _ = #[true, true, false, false, true, false, true, true, true, true, true, false, false, false, false, false, false] from rfl) (hy8680 _ _) ⟨(C8681.fro), trivial⟩ ?_
                refine WA.up2 2 3 (by kernel_rfl) ?_ ?_
                · skip
                  obtain ⟨A8683, c8684, n8685, p8686, w8687, hn8688, hy8689, C8690, hR8691⟩ := ev_append' (P := Try.prog) (cb := c6775) 3 (Kd.int .i64) [] [p6778] C8681 hR8682 hn6777 (Row.sl hR6779) (Ctx.sub_of [p8677] [] C8681) Try.underlying22 ti3 rfl zo3 (by decide) (by decide) (by simpa using hc8573)
                  have C8692 : Ctx _ _ _ _ F [p8686, p6778] := C8690
                  rw [List.nil_append] at hn8688 hR8691
                  refine Up.val rfl rfl (show _ = #[true, true, true, false, true, false, true, true, true, true, true, false, false, false, false, false, false] from rfl) (hy8689 _ _ _ _ rfl rfl) ⟨(C8692.fro), trivial⟩ ?_
                  obtain ⟨A8693, c8694, n8695, p8696, w8697, hn8698, hy8699, C8700, hR8701⟩ := ev_lit0 (P := Try.prog) 4 Kd.bool C8692 Try.underlying23 ti4
                  refine WA.up1 3 (by kernel_rfl) (Up.val rfl rfl (show _ = #[true, true, true, true, true, false, true, true, true, true, true, false, false, false, false, false, false] from rfl) (hy8699 _ _) ⟨(C8700.fro), trivial⟩ ?_)
                  have C8702 : Ctx _ _ _ _ F [p8686, p8696, p6778] := Ctx.swap [] [p6778] C8700
                  exact kJ8673 _ _ ⟨A8683, c8684, n8685, p8686, A8693, c8694, n8695, p8696, ho6768, ho6769, ho6770, ho6771, ho6772, ho6780, rfl, rfl, rfl, rfl, rfl, C8702, hn8688, hR8691, hn8698, hR8701⟩
                · skip
                  obtain ⟨A8703, c8704, n8705, p8706, w8707, hn8708, hy8709, C8710, hR8711⟩ := ev_lit0 (P := Try.prog) 4 Kd.bool C8681 Try.underlying23 ti4
                  refine Up.val rfl rfl (show _ = #[true, true, false, true, true, false, true, true, true, true, true, false, false, false, false, false, false] from rfl) (hy8709 _ _) ⟨(C8710.fro), trivial⟩ ?_
                  obtain ⟨A8712, c8713, n8714, p8715, w8716, hn8717, hy8718, C8719, hR8720⟩ := ev_append' (P := Try.prog) (cb := c6775) 3 (Kd.int .i64) [p8706] [p6778] C8710 hR8682 hn6777 (Row.sl hR6779) (Ctx.sub_of [p8706, p8677] [] C8710) Try.underlying22 ti3 rfl zo3 (by decide) (by decide) (by simpa using hc8573)
                  have C8721 : Ctx _ _ _ _ F [p8706, p8715, p6778] := C8719
                  rw [List.nil_append] at hn8717 hR8720
                  refine WA.up1 2 (by kernel_rfl) (Up.val rfl rfl (show _ = #[true, true, true, true, true, false, true, true, true, true, true, false, false, false, false, false, false] from rfl) (hy8718 _ _ _ _ rfl rfl) ⟨(C8721.fro), trivial⟩ ?_)
                  have C8722 : Ctx _ _ _ _ F [p8715, p8706, p6778] := Ctx.swap [] [p6778] C8721
                  exact kJ8673 _ _ ⟨A8712, c8713, n8714, p8715, A8703, c8704, n8705, p8706, ho6768, ho6769, ho6770, ho6771, ho6772, ho6780, rfl, rfl, rfl, rfl, rfl, C8722, hn8717, hR8720, hn8708, hR8711⟩
              · skip
                obtain ⟨A8723, c8724, n8725, p8726, w8727, hn8728, hy8729, C8730, hR8731⟩ := ev_lit0 (P := Try.prog) 4 Kd.bool C8486 Try.underlying23 ti4
                refine Up.val rfl rfl (show _ = #[false, true, false, true, true, false, true, true, true, true, true, false, false, false, false, false, false] from rfl) (hy8729 _ _) ⟨(C8730.fro), trivial⟩ ?_
                obtain ⟨A8732, c8733, n8734, p8735, w8736, hn8737, hy8738, C8739, hR8740⟩ := ev_lit0 (P := Try.prog) 3 (Kd.int .i64) C8730 Try.underlying22 ti3
                refine WA.up1 0 (by kernel_rfl) (Up.val rfl rfl (show _ = #[true, true, false, true, true, false, true, true, true, true, true, false, false, false, false, false, false] from rfl) (hy8738 _ _) ⟨(C8739.fro), trivial⟩ ?_)
                obtain ⟨A8741, c8742, n8743, p8744, w8745, hn8746, hy8747, C8748, hR8749⟩ := ev_append' (P := Try.prog) (cb := c6775) 3 (Kd.int .i64) [] [p8726, p6778] C8739 hR8740 hn6777 (Row.sl hR6779) (Ctx.sub_of [p8735, p8726] [] C8739) Try.underlying22 ti3 rfl zo3 (by decide) (by decide) (by simpa using hc8573)
                have C8750 : Ctx _ _ _ _ F [p8744, p8726, p6778] := C8748
                rw [List.nil_append] at hn8746 hR8749
                refine WA.up1 2 (by kernel_rfl) (Up.val rfl rfl (show _ = #[true, true, true, true, true, false, true, true, true, true, true, false, false, false, false, false, false] from rfl) (hy8747 _ _ _ _ rfl rfl) ⟨(C8750.fro), trivial⟩ ?_)
                exact kJ8673 _ _ ⟨A8741, c8742, n8743, p8744, A8723, c8724, n8725, p8726, ho6768, ho6769, ho6770, ho6771, ho6772, ho6780, rfl, rfl, rfl, rfl, rfl, C8750, hn8746, hR8749, hn8728, hR8731⟩
            · skip
              rintro env_ w_ ⟨A8656, c8657, n8658, p8660, A8663, c8664, n8665, p8667, ho8649, ho8650, ho8651, ho8652, ho8653, ho8654, ho8655, ho8662, ho8669, ho8670, ho8671, C8672, hn8659, hR8661, hn8666, hR8668⟩
              obtain ⟨hc8751, hX5123⟩ := guardE hX5123
              obtain ⟨A8752, c8753, n8754, p8755, w8756, hn8757, hy8758, C8759, hR8760⟩ := ev_append' (P := Try.prog) (cb := c2) 4 Kd.bool [p8660] [p6778] C8672 hR8668 hn4 hS7 C8672.fro Try.underlying23 ti4 rfl zo4 (by decide) (by decide) (by simpa using hc8751)
              have C8761 : Ctx _ _ _ _ F [p8660, p8755, p6778] := C8759
              rw [List.nil_append] at hn8757 hR8760
              refine WA.up1 5 (by kernel_rfl) (Up.val rfl rfl (show _ = #[true, true, true, true, true, true, true, true, true, true, true, false, false, false, false, false, false] from rfl) (hy8758 _ _ _ _ ho8662 ho8669) ⟨(C8761.fro), trivial⟩ ?_)
              have le8762 : CH.le F (CH.join F p8660) := CH.le_joinL _ _
              have lp8763 : CH.le p8660 (CH.join F p8660) := CH.le_joinR (Ctx.dis_of [] [p8755, p6778] C8761)
              have C8764 : Ctx _ _ _ _ (CH.join F p8660) [p8755, p6778] := Ctx.freeze [] [p8755, p6778] C8761
              have le8765 : CH.le (CH.join F p8660) (CH.join (CH.join F p8660) p8755) := CH.le_joinL _ _
              have lp8766 : CH.le p8755 (CH.join (CH.join F p8660) p8755) := CH.le_joinR (Ctx.dis_of [] [p6778] C8764)
              have C8767 : Ctx _ _ _ _ (CH.join (CH.join F p8660) p8755) [p6778] := Ctx.freeze [] [p6778] C8764
              obtain ⟨⟨r8769, r8770⟩, hg8768, hX5123⟩ := bindE hX5123
              refine WA.up1 11 (by kernel_rfl) (Up.call (args := #[.slice A8656 n8658 c8657, .slice A8752 n8754 c8753, .int .i64 a2, .int .i64 (a3.getD x6781.toNat 0)]) rfl (by kernel_rfl) (show _ = #[true, true, true, true, true, true, true, true, true, true, true, true, false, false, false, false, false] from rfl) (Yenter.fn Try.func8 (by kernel_rfl) rfl (argsE (.cons ho8655 (.cons rfl (.cons ho8670 (.cons ho8671 .nil)))))) (crew_Pick.calls k8418 _ (CH.join (CH.join F p8660) p8755) A8656 c8657 n8658 x6773 A8752 c8753 n8754 a0 a2 (a3.getD x6781.toNat 0) (Ctx.pre (qs := []) (rest := [p6778]) C8767) hn8659 (Row.len_le hR8661).1 (Row.len_le hR8661).2.1 (Sl.mono (Row.sl hR8661) (CH.le_trans le8762 le8765) (CH.le_trans lp8763 le8765)) hn8757 (Row.len_le hR8760).1 (Row.len_le hR8760).2.1 (Sl.mono (Row.sl hR8760) (CH.le_trans le8762 le8765) lp8766) r8769 r8770 hg8768) ?_)
              rintro e_ w_ ⟨A8771, c8772, n8773, p8775, rfl, C8777, hn8774, hR8776⟩
              have hR8778 : Row (Kd.int .i64) F p8775 (.slice A8771 n8773 c8772) r8769 := hR8776
              have C8779 : Ctx _ _ _ _ F [p8775, p8660, p8755, p6778] := Ctx.callL (qs := []) (rest := [p8660, p8755, p6778]) C8761 (CH.le_trans le8762 le8765) C8777
              refine ⟨_, rfl, ⟨trivial, trivial⟩, ?_⟩
              refine WA.take none 12 rfl (by kernel_rfl) (by kernel_rfl) (show _ = #[true, true, true, true, true, true, true, true, true, true, true, true, true, false, false, false, false] from rfl) trivial ⟨trivial, trivial⟩ (fun _ hC_ => Yl.move (v := .tuple #[(.slice A8771 n8773 c8772), (.int .i64 r8770)]) rfl) ?_
              refine WA.take none 13 rfl (by kernel_rfl) (by kernel_rfl) (show _ = #[true, true, true, true, true, true, true, true, true, true, true, true, true, true, false, false, false] from rfl) trivial ⟨trivial, trivial⟩ (fun _ hC_ => Yl.extract (v := .slice A8771 n8773 c8772) rfl rfl) ?_
              refine WA.take none 14 rfl (by kernel_rfl) (by kernel_rfl) (show _ = #[true, true, true, true, true, true, true, true, true, true, true, true, true, true, true, false, false] from rfl) trivial ⟨trivial, trivial⟩ (fun _ hC_ => Yl.extract (v := .int .i64 r8770) rfl rfl) ?_
              refine WA.take none 15 rfl (by kernel_rfl) (by kernel_rfl) (show _ = #[true, true, true, true, true, true, true, true, true, true, true, true, true, true, true, true, false] from rfl) trivial ⟨trivial, trivial⟩ (fun _ hC_ => Yl.assign (v := .slice A8771 n8773 c8772) rfl) ?_
              refine WA.take none 16 rfl (by kernel_rfl) (by kernel_rfl) (show _ = #[true, true, true, true, true, true, true, true, true, true, true, true, true, true, true, true, true] from rfl) trivial ⟨trivial, trivial⟩ (fun _ hC_ => Yl.assign (v := .int .i64 r8770) rfl) ?_
              refine WA.done (by kernel_rfl) ?_
              refine W.seq ?_
              refine W.seq ?_
              refine W.region rfl ?_
              refine WL.val (Yl.move (v := .int .i64 r8770) rfl) ?_
              refine WL.val (Yl.neq (m := r8770) (n := 0) (q := !decide (r8770 = 0)) rfl rfl rfl) ?_
              refine WL.done ?_
              rcases iteE hX5123 with ⟨hc8780, hX5123⟩ | ⟨hc8780, hX5123⟩
              · skip
                refine W.condF (congrArg Value.bool (ndec_t hc8780)) ?_
                refine W.skip ?_
                refine W.seq ?_
                refine W.seq ?_
                refine W.region rfl ?_
                refine WL.val (Yl.assign (v := .int .i64 0) rfl) ?_
                refine WL.done ?_
                obtain ⟨o8944, hX8943, hX5123⟩ := bindE hX5123
                refine W.cutM (fun env_ w_ => ∃ (x8934 : List Int) (A8935 : Option Addr) (c8936 : Nat) (n8937 : Nat) (p8939 : CH), env_ 0 = .slice A1 n3 c2 ∧ env_ 1 = .int .i64 a1 ∧ env_ 2 = .int .i64 a2 ∧ env_ 3 = .slice A8 n10 c9 ∧ env_ 9 = .slice A8935 n8937 c8936 ∧ env_ 11 = .int .i64 x6781 ∧ Ctx w F D w_ F [p8939, p8775, p8660, p8755] ∧ n8937 = x8934.length ∧ Row (Kd.int .i64) F p8939 (.slice A8935 n8937 c8936) x8934 ∧ o8944 = Sum.inl x8934) ?_ ?_
                · skip
                  refine W.block ?_
                  have C9051 : Ctx _ _ _ _ F [p8775, p8660, p6778, p8755] := Ctx.swap [p8775, p8660] [] C8779
                  have C9052 : Ctx _ _ _ _ F [p8775, p6778, p8660, p8755] := Ctx.swap [p8775] [p8755] C9051
                  have C9053 : Ctx _ _ _ _ F [p6778, p8775, p8660, p8755] := Ctx.swap [] [p8660, p8755] C9052
                  refine W.loop (fun g_ env_ w_ => ∃ (x8999 : List Int) (x9009 : Int) (A9000 : Option Addr) (c9001 : Nat) (n9002 : Nat) (p9004 : CH), env_ 0 = .slice A1 n3 c2 ∧ env_ 1 = .int .i64 a1 ∧ env_ 2 = .int .i64 a2 ∧ env_ 3 = .slice A8 n10 c9 ∧ env_ 9 = .slice A9000 n9002 c9001 ∧ env_ 11 = .int .i64 x6781 ∧ env_ 12 = .slice A8771 n8773 c8772 ∧ env_ 14 = .int .i64 x9009 ∧ Ctx w F D w_ F [p9004, p8775, p8660, p8755] ∧ n9002 = x8999.length ∧ Row (Kd.int .i64) F p9004 (.slice A9000 n9002 c9001) x8999 ∧ juratlaw18_CrewFair.l3 g_ r8769 x8999 x9009 = some o8944) k8418 ⟨x6773, 0, A6774, c6775, n6776, p6778, ho8649, ho8650, ho8651, ho8652, ho8653, ho8654, rfl, rfl, C9053, hn6777, hR6779, hX8943⟩ ?_
                  clear hX8943
                  rintro g_ env_ w_ ⟨x8999, x9009, A9000, c9001, n9002, p9004, ho8994, ho8995, ho8996, ho8997, ho8998, ho9006, ho9007, ho9008, C9010, hn9003, hR9005, hX8943⟩
                  rcases g_ with _ | k9050
                  · exact absurd hX8943 (by simp [juratlaw18_CrewFair.l3])
                  rw [juratlaw18_CrewFair.l3] at hX8943
                  refine W.seq ?_
                  refine W.seq ?_
                  refine W.region rfl ?_
                  refine WL.val (Yl.move (v := .int .i64 x9009) ho9008) ?_
                  refine WL.val (Yl.move (v := .slice A8771 n8773 c8772) ho9007) ?_
                  refine WL.val (Yl.lenN (A := A8771) (l := n8773) (q := c8772) (n := (r8769.length : Int)) rfl Try.underlying22 (by omega)) ?_
                  refine WL.val (Yl.lss (m := x9009) (n := (r8769.length : Int)) (q := decide (x9009 < (r8769.length : Int))) rfl rfl rfl) ?_
                  refine WL.done ?_
                  rcases iteE hX8943 with ⟨hc9054, hX8943⟩ | ⟨hc9054, hX8943⟩
                  · skip
                    refine W.condT (congrArg Value.bool (decide_eq_true hc9054)) ?_
                    refine W.skip ?_
                    refine W.seq ?_
                    refine W.block ?_
                    refine W.seq ?_
                    refine W.seq ?_
                    refine W.region rfl ?_
                    refine WL.val (Yl.move (v := .slice A8771 n8773 c8772) ho9007) ?_
                    refine WL.val (Yl.move (v := .int .i64 x9009) ho9008) ?_
                    obtain ⟨hc9055, hX8943⟩ := guardE hX8943
                    obtain ⟨b9056, of9057, hA9058, he9059⟩ := (Row.sl hR8778) (by omega)
                    refine WL.val (Yl.elemAddr (i := x9009) rfl rfl hA9058 Try.underlying22 sz3 (by omega)) ?_
                    obtain ⟨cs9060, hr9061, hx9062⟩ := he9059 x9009.toNat _ (getD_some (d := 0) (by omega))
                    obtain rfl := hr9061
                    refine WL.val (Yl.load (v := .int .i64 (r8769.getD x9009.toNat 0)) rfl Try.underlying3 rfl (((Ctx.sub_of [p9004] [p8660, p8755] C9010)).cell (hx9062 0 _ rfl))) ?_
                    refine WL.val (Yl.lss (m := r8769.getD x9009.toNat 0) (n := 0) (q := decide ((r8769.getD x9009.toNat 0) < 0)) rfl rfl rfl) ?_
                    refine WL.val (Yl.move (v := .bool (decide ((r8769.getD x9009.toNat 0) < 0))) rfl) ?_
                    obtain ⟨g9063, HE9064, hX8943⟩ := bindE hX8943
                    refine WL.cut (fun env_ w_ => env_ 89 = .bool g9063 ∧ env_ 0 = .slice A1 n3 c2 ∧ env_ 1 = .int .i64 a1 ∧ env_ 2 = .int .i64 a2 ∧ env_ 3 = .slice A8 n10 c9 ∧ env_ 9 = .slice A9000 n9002 c9001 ∧ env_ 11 = .int .i64 x6781 ∧ env_ 12 = .slice A8771 n8773 c8772 ∧ env_ 14 = .int .i64 x9009 ∧ Ctx w F D w_ F [p9004, p8775, p8660, p8755]) ?_ ?_
                    · skip
                      rcases iteE HE9064 with ⟨hc9065, HE9064⟩ | ⟨hc9065, HE9064⟩
                      · skip
                        refine WL.off rfl (congrArg Value.bool (decide_eq_true hc9065)) ?_
                        refine WL.off rfl (congrArg Value.bool (decide_eq_true hc9065)) ?_
                        refine WL.off rfl (congrArg Value.bool (decide_eq_true hc9065)) ?_
                        refine WL.off rfl (congrArg Value.bool (decide_eq_true hc9065)) ?_
                        refine WL.off rfl (congrArg Value.bool (decide_eq_true hc9065)) ?_
                        refine WL.off rfl (congrArg Value.bool (decide_eq_true hc9065)) ?_
                        refine WL.off rfl (congrArg Value.bool (decide_eq_true hc9065)) ?_
                        refine WL.val (Yl.pickT (v := .bool true) (congrArg Value.bool (decide_eq_true hc9065)) rfl) ?_
                        cases HE9064
                        exact WL.done ⟨rfl, ho8994, ho8995, ho8996, ho8997, ho8998, ho9006, ho9007, ho9008, C9010⟩
                      · skip
                        refine WL.on rfl (congrArg Value.bool (decide_eq_false hc9065)) ?_
                        refine WL.val (Yl.move (v := .slice A8771 n8773 c8772) ho9007) ?_
                        refine WL.on rfl (congrArg Value.bool (decide_eq_false hc9065)) ?_
                        refine WL.val (Yl.move (v := .int .i64 x9009) ho9008) ?_
                        refine WL.on rfl (congrArg Value.bool (decide_eq_false hc9065)) ?_
                        refine WL.val (Yl.elemAddr (i := x9009) rfl rfl hA9058 Try.underlying22 sz3 (by omega)) ?_
                        refine WL.on rfl (congrArg Value.bool (decide_eq_false hc9065)) ?_
                        refine WL.val (Yl.load (v := .int .i64 (r8769.getD x9009.toNat 0)) rfl Try.underlying3 rfl (((Ctx.sub_of [p9004] [p8660, p8755] C9010)).cell (hx9062 0 _ rfl))) ?_
                        refine WL.on rfl (congrArg Value.bool (decide_eq_false hc9065)) ?_
                        refine WL.val (Yl.move (v := .slice A9000 n9002 c9001) ho8998) ?_
                        refine WL.on rfl (congrArg Value.bool (decide_eq_false hc9065)) ?_
                        refine WL.val (Yl.lenN (A := A9000) (l := n9002) (q := c9001) (n := (x8999.length : Int)) rfl Try.underlying22 (by omega)) ?_
                        refine WL.on rfl (congrArg Value.bool (decide_eq_false hc9065)) ?_
                        refine WL.val (Yl.geq (m := r8769.getD x9009.toNat 0) (n := (x8999.length : Int)) (q := decide ((r8769.getD x9009.toNat 0) ≥ (x8999.length : Int))) rfl rfl rfl) ?_
                        refine WL.val (Yl.pickF (v := .bool (decide ((r8769.getD x9009.toNat 0) ≥ (x8999.length : Int)))) (congrArg Value.bool (decide_eq_false hc9065)) rfl) ?_
                        cases HE9064
                        exact WL.done ⟨rfl, ho8994, ho8995, ho8996, ho8997, ho8998, ho9006, ho9007, ho9008, C9010⟩
                    · skip
                      rintro env_ w_ ⟨ho9066, ho9067, ho9068, ho9069, ho9070, ho9071, ho9072, ho9073, ho9074, C9075⟩
                      rcases iteE hX8943 with ⟨hc9076, hX8943⟩ | ⟨hc9076, hX8943⟩
                      · skip
                        refine W.condT (ho9066.trans (congrArg Value.bool hc9076)) ?_
                        refine W.seq ?_
                        refine W.region rfl ?_
                        refine WL.val (Yl.assign (v := .bool false) rfl) ?_
                        refine WL.done ?_
                        refine W.ret ?_
                        refine thenE_r ?_
                        refine inB_r ?_
                        refine thenE_r ?_
                        refine thenE_r ?_
                        refine inB_r ?_
                        refine thenE_r ?_
                        refine thenE_r ?_
                        refine inB_r ?_
                        refine thenE_r ?_
                        refine thenE_r ?_
                        refine inB_r ?_
                        refine thenE_r ?_
                        refine thenE_r ?_
                        cases hX8943
                        replace hX5123 := sumE_r hX5123
                        cases hX5123
                        replace H := sumE_r H
                        have C9077 : Ctx _ _ _ _ F [p8775, p8660, p8755] := Ctx.drop [] [p8775, p8660, p8755] C9075
                        have C9078 : Ctx _ _ _ _ F [p8660, p8755] := Ctx.drop [] [p8660, p8755] C9077
                        have C9079 : Ctx _ _ _ _ F [p8755] := Ctx.drop [] [p8755] C9078
                        have C9080 : Ctx _ _ _ _ F [] := Ctx.drop [] [] C9079
                        cases H
                        exact post_r (resE1 rfl rfl) ⟨rfl, C9080⟩
                      · skip
                        refine W.condF (ho9066.trans (congrArg Value.bool (Bool.eq_false_iff.2 hc9076))) ?_
                        refine W.skip ?_
                        refine W.region rfl ?_
                        refine WL.val (Yl.move (v := .slice A9000 n9002 c9001) ho9071) ?_
                        refine WL.val (Yl.move (v := .slice A8771 n8773 c8772) ho9073) ?_
                        refine WL.val (Yl.move (v := .int .i64 x9009) ho9074) ?_
                        refine WL.val (Yl.elemAddr (i := x9009) rfl rfl hA9058 Try.underlying22 sz3 (by omega)) ?_
                        refine WL.val (Yl.load (v := .int .i64 (r8769.getD x9009.toNat 0)) rfl Try.underlying3 rfl (((Ctx.sub_of [p9004] [p8660, p8755] C9075)).cell (hx9062 0 _ rfl))) ?_
                        obtain ⟨hc9081, hX8943⟩ := guardE hX8943
                        obtain ⟨b9082, of9083, hA9084, he9085⟩ := (Row.sl hR9005) (by omega)
                        refine WL.val (Yl.elemAddr (i := r8769.getD x9009.toNat 0) rfl rfl hA9084 Try.underlying22 sz3 (by omega)) ?_
                        obtain ⟨cs9086, hr9087, hx9088⟩ := he9085 (r8769.getD x9009.toNat 0).toNat _ (getD_some (d := 0) (by omega))
                        obtain rfl := hr9087
                        refine WL.val (Yl.load (v := .int .i64 (x8999.getD (r8769.getD x9009.toNat 0).toNat 0)) rfl Try.underlying3 rfl (((Ctx.sub_of [] [p8775, p8660, p8755] C9075)).cell (hx9088 0 _ rfl))) ?_
                        refine WL.val (Yl.add (m := x8999.getD (r8769.getD x9009.toNat 0).toNat 0) (n := 1) (r := wi64 ((x8999.getD (r8769.getD x9009.toNat 0).toNat 0) + 1)) rfl rfl rfl) ?_
                        refine WL.val (Yl.elemAddr (i := r8769.getD x9009.toNat 0) rfl rfl hA9084 Try.underlying22 sz3 (by omega)) ?_
                        have hj9094 : (r8769.getD x9009.toNat 0).toNat < x8999.length := by first | omega | (simp only [List.length_set, List.length_replicate] at *; omega)
                        obtain ⟨p9089, w9090, hy9091, C9092, hR9093⟩ := ev_store (P := Try.prog) (t := 3) (Kd.int .i64) [] [p8775, p8660, p8755] C9075 hR9005 hA9084 (r8769.getD x9009.toNat 0).toNat 0 hj9094 0 (.int .i64 (wi64 ((x8999.getD (r8769.getD x9009.toNat 0).toNat 0) + 1))) ([.int .i64 (wi64 ((x8999.getD (r8769.getD x9009.toNat 0).toNat 0) + 1))]) rfl (by simp [Value.oneCell']) (Nat.le_of_ble_eq_true rfl) sz3 (wi64 ((x8999.getD (r8769.getD x9009.toNat 0).toNat 0) + 1)) (fun _ h_ => rep_whole h_ rfl) ⟨b9082, of9083 + (r8769.getD x9009.toNat 0).toNat * 1, none⟩ rfl
                        have hn9095 : n9002 = (x8999.set (r8769.getD x9009.toNat 0).toNat (wi64 ((x8999.getD (r8769.getD x9009.toNat 0).toNat 0) + 1))).length := by rw [List.length_set]; omega
                        have C9096 : Ctx _ _ _ _ F [p9089, p8775, p8660, p8755] := C9092
                        refine WL.skip (hy9091 _ _ _ _ rfl rfl) ?_
                        refine WL.done ?_
                        refine inB_n ?_
                        refine W.region rfl ?_
                        refine WL.val (Yl.move (v := .int .i64 x9009) ho9074) ?_
                        refine WL.val (Yl.add (m := x9009) (n := 1) (r := wi64 (x9009 + 1)) rfl rfl rfl) ?_
                        refine WL.val (Yl.assign (v := .int .i64 (wi64 (x9009 + 1))) rfl) ?_
                        refine WL.done ?_
                        exact thenE_n ⟨k9050, Nat.lt_succ_self _, x8999.set (r8769.getD x9009.toNat 0).toNat (wi64 ((x8999.getD (r8769.getD x9009.toNat 0).toNat 0) + 1)), wi64 (x9009 + 1), A9000, c9001, n9002, p9089, ho9067, ho9068, ho9069, ho9070, ho9071, ho9072, ho9073, rfl, C9096, hn9095, hR9093, hX8943⟩
                  · skip
                    refine W.condF (congrArg Value.bool (decide_eq_false hc9054)) ?_
                    refine W.exit ?_
                    refine thenE_x ?_
                    refine thenE_x ?_
                    refine inB_here ?_
                    cases hX8943
                    refine thenE_n ?_
                    exact ⟨x8999, A9000, c9001, n9002, p9004, ho8994, ho8995, ho8996, ho8997, ho8998, ho9006, C9010, hn9003, hR9005, rfl⟩
                · skip
                  rintro env_ w_ ⟨x8934, A8935, c8936, n8937, p8939, ho8929, ho8930, ho8931, ho8932, ho8933, ho8941, C8942, hn8938, hR8940, rfl⟩
                  replace hX5123 := sumE_l hX5123
                  refine W.seq ?_
                  refine W.region rfl ?_
                  refine WL.val (Yl.assign (v := .int .i64 0) rfl) ?_
                  refine WL.done ?_
                  obtain ⟨o9581, hX9580, hX5123⟩ := bindE hX5123
                  refine W.cutM (fun env_ w_ => env_ 0 = .slice A1 n3 c2 ∧ env_ 1 = .int .i64 a1 ∧ env_ 2 = .int .i64 a2 ∧ env_ 3 = .slice A8 n10 c9 ∧ env_ 9 = .slice A8935 n8937 c8936 ∧ env_ 11 = .int .i64 x6781 ∧ Ctx w F D w_ F [p8939, p8775, p8660, p8755] ∧ o9581 = Sum.inl ()) ?_ ?_
                  · skip
                    refine W.block ?_
                    refine W.loop (fun g_ env_ w_ => ∃ (x9589 : Int), env_ 0 = .slice A1 n3 c2 ∧ env_ 1 = .int .i64 a1 ∧ env_ 2 = .int .i64 a2 ∧ env_ 3 = .slice A8 n10 c9 ∧ env_ 9 = .slice A8935 n8937 c8936 ∧ env_ 11 = .int .i64 x6781 ∧ env_ 15 = .int .i64 x9589 ∧ Ctx w F D w_ F [p8939, p8775, p8660, p8755] ∧ juratlaw18_CrewFair.l4 g_ a0 a1 x8934 x9589 = some o9581) k8418 ⟨0, ho8929, ho8930, ho8931, ho8932, ho8933, ho8941, rfl, C8942, hX9580⟩ ?_
                    clear hX9580
                    rintro g_ env_ w_ ⟨x9589, ho9582, ho9583, ho9584, ho9585, ho9586, ho9587, ho9588, C9590, hX9580⟩
                    rcases g_ with _ | k9824
                    · exact absurd hX9580 (by simp [juratlaw18_CrewFair.l4])
                    rw [juratlaw18_CrewFair.l4] at hX9580
                    refine W.seq ?_
                    refine W.seq ?_
                    refine W.region rfl ?_
                    refine WL.val (Yl.move (v := .int .i64 x9589) ho9588) ?_
                    refine WL.val (Yl.move (v := .slice A8935 n8937 c8936) ho9586) ?_
                    refine WL.val (Yl.lenN (A := A8935) (l := n8937) (q := c8936) (n := (x8934.length : Int)) rfl Try.underlying22 (by omega)) ?_
                    refine WL.val (Yl.lss (m := x9589) (n := (x8934.length : Int)) (q := decide (x9589 < (x8934.length : Int))) rfl rfl rfl) ?_
                    refine WL.done ?_
                    rcases iteE hX9580 with ⟨hc9825, hX9580⟩ | ⟨hc9825, hX9580⟩
                    · skip
                      refine W.condT (congrArg Value.bool (decide_eq_true hc9825)) ?_
                      refine W.skip ?_
                      refine W.seq ?_
                      refine W.block ?_
                      refine W.seq ?_
                      refine W.region rfl ?_
                      refine WL.val (Yl.assign (v := .int .i64 0) rfl) ?_
                      refine WL.done ?_
                      obtain ⟨o9946, hX9945, hX9580⟩ := bindE hX9580
                      refine W.cutM (fun env_ w_ => env_ 0 = .slice A1 n3 c2 ∧ env_ 1 = .int .i64 a1 ∧ env_ 2 = .int .i64 a2 ∧ env_ 3 = .slice A8 n10 c9 ∧ env_ 9 = .slice A8935 n8937 c8936 ∧ env_ 11 = .int .i64 x6781 ∧ env_ 15 = .int .i64 x9589 ∧ Ctx w F D w_ F [p8939, p8775, p8660, p8755] ∧ o9946 = Sum.inl ()) ?_ ?_
                      · skip
                        refine W.block ?_
                        refine W.loop (fun g_ env_ w_ => ∃ (x9955 : Int), env_ 0 = .slice A1 n3 c2 ∧ env_ 1 = .int .i64 a1 ∧ env_ 2 = .int .i64 a2 ∧ env_ 3 = .slice A8 n10 c9 ∧ env_ 9 = .slice A8935 n8937 c8936 ∧ env_ 11 = .int .i64 x6781 ∧ env_ 15 = .int .i64 x9589 ∧ env_ 16 = .int .i64 x9955 ∧ Ctx w F D w_ F [p8939, p8775, p8660, p8755] ∧ juratlaw18_CrewFair.l5 g_ a0 a1 x8934 x9589 x9955 = some o9946) k9824 ⟨0, ho9582, ho9583, ho9584, ho9585, ho9586, ho9587, ho9588, rfl, C9590, hX9945⟩ ?_
                        clear hX9945
                        rintro g_ env_ w_ ⟨x9955, ho9947, ho9948, ho9949, ho9950, ho9951, ho9952, ho9953, ho9954, C9956, hX9945⟩
                        rcases g_ with _ | k10007
                        · exact absurd hX9945 (by simp [juratlaw18_CrewFair.l5])
                        rw [juratlaw18_CrewFair.l5] at hX9945
                        refine W.seq ?_
                        refine W.seq ?_
                        refine W.region rfl ?_
                        refine WL.val (Yl.move (v := .int .i64 x9955) ho9954) ?_
                        refine WL.val (Yl.move (v := .slice A8935 n8937 c8936) ho9951) ?_
                        refine WL.val (Yl.lenN (A := A8935) (l := n8937) (q := c8936) (n := (x8934.length : Int)) rfl Try.underlying22 (by omega)) ?_
                        refine WL.val (Yl.lss (m := x9955) (n := (x8934.length : Int)) (q := decide (x9955 < (x8934.length : Int))) rfl rfl rfl) ?_
                        refine WL.done ?_
                        rcases iteE hX9945 with ⟨hc10008, hX9945⟩ | ⟨hc10008, hX9945⟩
                        · skip
                          refine W.condT (congrArg Value.bool (decide_eq_true hc10008)) ?_
                          refine W.skip ?_
                          refine W.seq ?_
                          refine W.block ?_
                          refine W.seq ?_
                          refine W.region_quiet (by kernel_rfl) (by kernel_rfl) rfl ?_
                          refine WQ.val (fun _ hw => by obtain ⟨_, rfl⟩ := hw; exact Yl.move (v := .slice A1 n3 c2) ho9947) ?_
                          refine WQ.val (fun _ hw => by obtain ⟨_, rfl⟩ := hw; exact Yl.move (v := .int .i64 x9589) ho9953) ?_
                          obtain ⟨hc10009, hX9945⟩ := guardE hX9945
                          obtain ⟨b10010, of10011, hA10012, he10013⟩ := hS7 (by omega)
                          refine WQ.val (fun _ hw => by obtain ⟨_, rfl⟩ := hw; exact Yl.elemAddr (i := x9589) rfl rfl hA10012 Try.underlying23 sz4 (by omega)) ?_
                          obtain ⟨cs10014, hr10015, hx10016⟩ := he10013 x9589.toNat _ (getD_some (d := false) (by omega))
                          obtain rfl := hr10015
                          refine WQ.val (fun _ hw => by obtain ⟨_, rfl⟩ := hw; exact Yl.load (v := .bool (a0.getD x9589.toNat false)) rfl Try.underlying4 rfl (((C9956.fro)).cell (hx10016 0 _ rfl))) ?_
                          refine WQ.val (fun _ hw => by obtain ⟨_, rfl⟩ := hw; exact Yl.not (p := a0.getD x9589.toNat false) (q := !(a0.getD x9589.toNat false)) rfl rfl) ?_
                          refine WQ.val (fun _ hw => by obtain ⟨_, rfl⟩ := hw; exact Yl.move (v := .bool (!(a0.getD x9589.toNat false))) rfl) ?_
                          obtain ⟨g10017, HE10018, hX9945⟩ := bindE hX9945
                          refine WQ.cut (fun env_ => env_ 148 = .bool g10017 ∧ env_ 0 = .slice A1 n3 c2 ∧ env_ 1 = .int .i64 a1 ∧ env_ 2 = .int .i64 a2 ∧ env_ 3 = .slice A8 n10 c9 ∧ env_ 9 = .slice A8935 n8937 c8936 ∧ env_ 11 = .int .i64 x6781 ∧ env_ 15 = .int .i64 x9589 ∧ env_ 16 = .int .i64 x9955) ?_ ?_
                          · skip
                            rcases iteE HE10018 with ⟨hc10019, HE10018⟩ | ⟨hc10019, HE10018⟩
                            · skip
                              refine WQ.off rfl (congrArg Value.bool (nb_t hc10019)) ?_
                              refine WQ.off rfl (congrArg Value.bool (nb_t hc10019)) ?_
                              refine WQ.off rfl (congrArg Value.bool (nb_t hc10019)) ?_
                              refine WQ.off rfl (congrArg Value.bool (nb_t hc10019)) ?_
                              refine WQ.off rfl (congrArg Value.bool (nb_t hc10019)) ?_
                              refine WQ.val (fun _ hw => by obtain ⟨_, rfl⟩ := hw; exact Yl.pickF (v := .bool false) (congrArg Value.bool (nb_t hc10019)) rfl) ?_
                              refine WQ.val (fun _ hw => by obtain ⟨_, rfl⟩ := hw; exact Yl.move (v := .bool false) rfl) ?_
                              refine WQ.off rfl rfl ?_
                              refine WQ.off rfl rfl ?_
                              refine WQ.off rfl rfl ?_
                              refine WQ.off rfl rfl ?_
                              refine WQ.off rfl rfl ?_
                              refine WQ.off rfl rfl ?_
                              refine WQ.off rfl rfl ?_
                              refine WQ.off rfl rfl ?_
                              refine WQ.off rfl rfl ?_
                              refine WQ.off rfl rfl ?_
                              refine WQ.val (fun _ hw => by obtain ⟨_, rfl⟩ := hw; exact Yl.pickF (v := .bool false) rfl rfl) ?_
                              refine WQ.val (fun _ hw => by obtain ⟨_, rfl⟩ := hw; exact Yl.move (v := .bool false) rfl) ?_
                              refine WQ.on rfl rfl ?_
                              refine WQ.val (fun _ hw => by obtain ⟨_, rfl⟩ := hw; exact Yl.move (v := .slice A1 n3 c2) ho9947) ?_
                              refine WQ.on rfl rfl ?_
                              refine WQ.val (fun _ hw => by obtain ⟨_, rfl⟩ := hw; exact Yl.move (v := .int .i64 x9589) ho9953) ?_
                              refine WQ.on rfl rfl ?_
                              refine WQ.val (fun _ hw => by obtain ⟨_, rfl⟩ := hw; exact Yl.elemAddr (i := x9589) rfl rfl hA10012 Try.underlying23 sz4 (by omega)) ?_
                              refine WQ.on rfl rfl ?_
                              refine WQ.val (fun _ hw => by obtain ⟨_, rfl⟩ := hw; exact Yl.load (v := .bool (a0.getD x9589.toNat false)) rfl Try.underlying4 rfl (((C9956.fro)).cell (hx10016 0 _ rfl))) ?_
                              refine WQ.on rfl rfl ?_
                              refine WQ.val (fun _ hw => by obtain ⟨_, rfl⟩ := hw; exact Yl.move (v := .bool (a0.getD x9589.toNat false)) rfl) ?_
                              refine WQ.on rfl (congrArg Value.bool hc10019) ?_
                              refine WQ.val (fun _ hw => by obtain ⟨_, rfl⟩ := hw; exact Yl.move (v := .slice A8935 n8937 c8936) ho9951) ?_
                              refine WQ.on rfl (congrArg Value.bool hc10019) ?_
                              refine WQ.val (fun _ hw => by obtain ⟨_, rfl⟩ := hw; exact Yl.move (v := .int .i64 x9589) ho9953) ?_
                              refine WQ.on rfl (congrArg Value.bool hc10019) ?_
                              obtain ⟨hc10020, HE10018⟩ := guardE HE10018
                              obtain ⟨b10021, of10022, hA10023, he10024⟩ := (Row.sl hR8940) (by omega)
                              refine WQ.val (fun _ hw => by obtain ⟨_, rfl⟩ := hw; exact Yl.elemAddr (i := x9589) rfl rfl hA10023 Try.underlying22 sz3 (by omega)) ?_
                              refine WQ.on rfl (congrArg Value.bool hc10019) ?_
                              obtain ⟨cs10025, hr10026, hx10027⟩ := he10024 x9589.toNat _ (getD_some (d := 0) (by omega))
                              obtain rfl := hr10026
                              refine WQ.val (fun _ hw => by obtain ⟨_, rfl⟩ := hw; exact Yl.load (v := .int .i64 (x8934.getD x9589.toNat 0)) rfl Try.underlying3 rfl (((Ctx.sub_of [] [p8775, p8660, p8755] C9956)).cell (hx10027 0 _ rfl))) ?_
                              refine WQ.on rfl (congrArg Value.bool hc10019) ?_
                              refine WQ.val (fun _ hw => by obtain ⟨_, rfl⟩ := hw; exact Yl.move (v := .int .i64 a1) ho9948) ?_
                              refine WQ.on rfl (congrArg Value.bool hc10019) ?_
                              refine WQ.val (fun _ hw => by obtain ⟨_, rfl⟩ := hw; exact Yl.neq (m := x8934.getD x9589.toNat 0) (n := a1) (q := !decide ((x8934.getD x9589.toNat 0) = a1)) rfl rfl rfl) ?_
                              refine WQ.on rfl rfl ?_
                              refine WQ.val (fun _ hw => by obtain ⟨_, rfl⟩ := hw; exact Yl.pickT (v := .bool (!decide ((x8934.getD x9589.toNat 0) = a1))) (congrArg Value.bool hc10019) rfl) ?_
                              refine WQ.val (fun _ hw => by obtain ⟨_, rfl⟩ := hw; exact Yl.pickF (v := .bool (!decide ((x8934.getD x9589.toNat 0) = a1))) rfl rfl) ?_
                              cases HE10018
                              exact WQ.done ⟨rfl, ho9947, ho9948, ho9949, ho9950, ho9951, ho9952, ho9953, ho9954⟩
                            · skip
                              refine WQ.on rfl (congrArg Value.bool (nb_f hc10019)) ?_
                              refine WQ.val (fun _ hw => by obtain ⟨_, rfl⟩ := hw; exact Yl.move (v := .slice A1 n3 c2) ho9947) ?_
                              refine WQ.on rfl (congrArg Value.bool (nb_f hc10019)) ?_
                              refine WQ.val (fun _ hw => by obtain ⟨_, rfl⟩ := hw; exact Yl.move (v := .int .i64 x9955) ho9954) ?_
                              refine WQ.on rfl (congrArg Value.bool (nb_f hc10019)) ?_
                              obtain ⟨hc10028, HE10018⟩ := guardE HE10018
                              refine WQ.val (fun _ hw => by obtain ⟨_, rfl⟩ := hw; exact Yl.elemAddr (i := x9955) rfl rfl hA10012 Try.underlying23 sz4 (by omega)) ?_
                              refine WQ.on rfl (congrArg Value.bool (nb_f hc10019)) ?_
                              obtain ⟨cs10029, hr10030, hx10031⟩ := he10013 x9955.toNat _ (getD_some (d := false) (by omega))
                              obtain rfl := hr10030
                              refine WQ.val (fun _ hw => by obtain ⟨_, rfl⟩ := hw; exact Yl.load (v := .bool (a0.getD x9955.toNat false)) rfl Try.underlying4 rfl (((C9956.fro)).cell (hx10031 0 _ rfl))) ?_
                              refine WQ.on rfl (congrArg Value.bool (nb_f hc10019)) ?_
                              refine WQ.val (fun _ hw => by obtain ⟨_, rfl⟩ := hw; exact Yl.not (p := a0.getD x9955.toNat false) (q := !(a0.getD x9955.toNat false)) rfl rfl) ?_
                              refine WQ.val (fun _ hw => by obtain ⟨_, rfl⟩ := hw; exact Yl.pickT (v := .bool (!(a0.getD x9955.toNat false))) (congrArg Value.bool (nb_f hc10019)) rfl) ?_
                              refine WQ.val (fun _ hw => by obtain ⟨_, rfl⟩ := hw; exact Yl.move (v := .bool (!(a0.getD x9955.toNat false))) rfl) ?_
                              rcases iteE HE10018 with ⟨hc10032, HE10018⟩ | ⟨hc10032, HE10018⟩
                              · skip
                                refine WQ.off rfl (congrArg Value.bool (nb_t hc10032)) ?_
                                refine WQ.off rfl (congrArg Value.bool (nb_t hc10032)) ?_
                                refine WQ.off rfl (congrArg Value.bool (nb_t hc10032)) ?_
                                refine WQ.off rfl (congrArg Value.bool (nb_t hc10032)) ?_
                                refine WQ.off rfl (congrArg Value.bool (nb_t hc10032)) ?_
                                refine WQ.off rfl (congrArg Value.bool (nb_t hc10032)) ?_
                                refine WQ.off rfl (congrArg Value.bool (nb_t hc10032)) ?_
                                refine WQ.off rfl (congrArg Value.bool (nb_t hc10032)) ?_
                                refine WQ.off rfl (congrArg Value.bool (nb_t hc10032)) ?_
                                refine WQ.off rfl (congrArg Value.bool (nb_t hc10032)) ?_
                                refine WQ.val (fun _ hw => by obtain ⟨_, rfl⟩ := hw; exact Yl.pickF (v := .bool false) (congrArg Value.bool (nb_t hc10032)) rfl) ?_
                                refine WQ.val (fun _ hw => by obtain ⟨_, rfl⟩ := hw; exact Yl.move (v := .bool false) rfl) ?_
                                refine WQ.on rfl rfl ?_
                                refine WQ.val (fun _ hw => by obtain ⟨_, rfl⟩ := hw; exact Yl.move (v := .slice A1 n3 c2) ho9947) ?_
                                refine WQ.on rfl rfl ?_
                                refine WQ.val (fun _ hw => by obtain ⟨_, rfl⟩ := hw; exact Yl.move (v := .int .i64 x9589) ho9953) ?_
                                refine WQ.on rfl rfl ?_
                                refine WQ.val (fun _ hw => by obtain ⟨_, rfl⟩ := hw; exact Yl.elemAddr (i := x9589) rfl rfl hA10012 Try.underlying23 sz4 (by omega)) ?_
                                refine WQ.on rfl rfl ?_
                                refine WQ.val (fun _ hw => by obtain ⟨_, rfl⟩ := hw; exact Yl.load (v := .bool (a0.getD x9589.toNat false)) rfl Try.underlying4 rfl (((C9956.fro)).cell (hx10016 0 _ rfl))) ?_
                                refine WQ.on rfl rfl ?_
                                refine WQ.val (fun _ hw => by obtain ⟨_, rfl⟩ := hw; exact Yl.move (v := .bool (a0.getD x9589.toNat false)) rfl) ?_
                                refine WQ.off rfl (congrArg Value.bool (Bool.eq_false_iff.2 hc10019)) ?_
                                refine WQ.off rfl (congrArg Value.bool (Bool.eq_false_iff.2 hc10019)) ?_
                                refine WQ.off rfl (congrArg Value.bool (Bool.eq_false_iff.2 hc10019)) ?_
                                refine WQ.off rfl (congrArg Value.bool (Bool.eq_false_iff.2 hc10019)) ?_
                                refine WQ.off rfl (congrArg Value.bool (Bool.eq_false_iff.2 hc10019)) ?_
                                refine WQ.off rfl (congrArg Value.bool (Bool.eq_false_iff.2 hc10019)) ?_
                                refine WQ.on rfl rfl ?_
                                refine WQ.val (fun _ hw => by obtain ⟨_, rfl⟩ := hw; exact Yl.pickF (v := .bool false) (congrArg Value.bool (Bool.eq_false_iff.2 hc10019)) rfl) ?_
                                refine WQ.val (fun _ hw => by obtain ⟨_, rfl⟩ := hw; exact Yl.pickF (v := .bool false) rfl rfl) ?_
                                cases HE10018
                                exact WQ.done ⟨rfl, ho9947, ho9948, ho9949, ho9950, ho9951, ho9952, ho9953, ho9954⟩
                              · skip
                                refine WQ.on rfl (congrArg Value.bool (nb_f hc10032)) ?_
                                refine WQ.val (fun _ hw => by obtain ⟨_, rfl⟩ := hw; exact Yl.move (v := .slice A8935 n8937 c8936) ho9951) ?_
                                refine WQ.on rfl (congrArg Value.bool (nb_f hc10032)) ?_
                                refine WQ.val (fun _ hw => by obtain ⟨_, rfl⟩ := hw; exact Yl.move (v := .int .i64 x9589) ho9953) ?_
                                refine WQ.on rfl (congrArg Value.bool (nb_f hc10032)) ?_
                                obtain ⟨hc10033, HE10018⟩ := guardE HE10018
                                obtain ⟨b10034, of10035, hA10036, he10037⟩ := (Row.sl hR8940) (by omega)
                                refine WQ.val (fun _ hw => by obtain ⟨_, rfl⟩ := hw; exact Yl.elemAddr (i := x9589) rfl rfl hA10036 Try.underlying22 sz3 (by omega)) ?_
                                refine WQ.on rfl (congrArg Value.bool (nb_f hc10032)) ?_
                                obtain ⟨cs10038, hr10039, hx10040⟩ := he10037 x9589.toNat _ (getD_some (d := 0) (by omega))
                                obtain rfl := hr10039
                                refine WQ.val (fun _ hw => by obtain ⟨_, rfl⟩ := hw; exact Yl.load (v := .int .i64 (x8934.getD x9589.toNat 0)) rfl Try.underlying3 rfl (((Ctx.sub_of [] [p8775, p8660, p8755] C9956)).cell (hx10040 0 _ rfl))) ?_
                                refine WQ.on rfl (congrArg Value.bool (nb_f hc10032)) ?_
                                refine WQ.val (fun _ hw => by obtain ⟨_, rfl⟩ := hw; exact Yl.move (v := .slice A8935 n8937 c8936) ho9951) ?_
                                refine WQ.on rfl (congrArg Value.bool (nb_f hc10032)) ?_
                                refine WQ.val (fun _ hw => by obtain ⟨_, rfl⟩ := hw; exact Yl.move (v := .int .i64 x9955) ho9954) ?_
                                refine WQ.on rfl (congrArg Value.bool (nb_f hc10032)) ?_
                                obtain ⟨hc10041, HE10018⟩ := guardE HE10018
                                refine WQ.val (fun _ hw => by obtain ⟨_, rfl⟩ := hw; exact Yl.elemAddr (i := x9955) rfl rfl hA10036 Try.underlying22 sz3 (by omega)) ?_
                                refine WQ.on rfl (congrArg Value.bool (nb_f hc10032)) ?_
                                obtain ⟨cs10042, hr10043, hx10044⟩ := he10037 x9955.toNat _ (getD_some (d := 0) (by omega))
                                obtain rfl := hr10043
                                refine WQ.val (fun _ hw => by obtain ⟨_, rfl⟩ := hw; exact Yl.load (v := .int .i64 (x8934.getD x9955.toNat 0)) rfl Try.underlying3 rfl (((Ctx.sub_of [] [p8775, p8660, p8755] C9956)).cell (hx10044 0 _ rfl))) ?_
                                refine WQ.on rfl (congrArg Value.bool (nb_f hc10032)) ?_
                                refine WQ.val (fun _ hw => by obtain ⟨_, rfl⟩ := hw; exact Yl.add (m := x8934.getD x9955.toNat 0) (n := 1) (r := wi64 ((x8934.getD x9955.toNat 0) + 1)) rfl rfl rfl) ?_
                                refine WQ.on rfl (congrArg Value.bool (nb_f hc10032)) ?_
                                refine WQ.val (fun _ hw => by obtain ⟨_, rfl⟩ := hw; exact Yl.gtr (m := x8934.getD x9589.toNat 0) (n := wi64 ((x8934.getD x9955.toNat 0) + 1)) (q := decide ((x8934.getD x9589.toNat 0) > (wi64 ((x8934.getD x9955.toNat 0) + 1)))) rfl rfl rfl) ?_
                                refine WQ.val (fun _ hw => by obtain ⟨_, rfl⟩ := hw; exact Yl.pickT (v := .bool (decide ((x8934.getD x9589.toNat 0) > (wi64 ((x8934.getD x9955.toNat 0) + 1))))) (congrArg Value.bool (nb_f hc10032)) rfl) ?_
                                refine WQ.val (fun _ hw => by obtain ⟨_, rfl⟩ := hw; exact Yl.move (v := .bool (decide ((x8934.getD x9589.toNat 0) > (wi64 ((x8934.getD x9955.toNat 0) + 1))))) rfl) ?_
                                rcases iteE HE10018 with ⟨hc10045, HE10018⟩ | ⟨hc10045, HE10018⟩
                                · skip
                                  refine WQ.off rfl (congrArg Value.bool (decide_eq_true hc10045)) ?_
                                  refine WQ.off rfl (congrArg Value.bool (decide_eq_true hc10045)) ?_
                                  refine WQ.off rfl (congrArg Value.bool (decide_eq_true hc10045)) ?_
                                  refine WQ.off rfl (congrArg Value.bool (decide_eq_true hc10045)) ?_
                                  refine WQ.off rfl (congrArg Value.bool (decide_eq_true hc10045)) ?_
                                  refine WQ.off' rfl rfl ?_
                                  refine WQ.off' rfl rfl ?_
                                  refine WQ.off' rfl rfl ?_
                                  refine WQ.off' rfl rfl ?_
                                  refine WQ.off' rfl rfl ?_
                                  refine WQ.off' rfl rfl ?_
                                  refine WQ.off rfl (congrArg Value.bool (decide_eq_true hc10045)) ?_
                                  refine WQ.val (fun _ hw => by obtain ⟨_, rfl⟩ := hw; exact Yl.pickT (v := .bool true) (congrArg Value.bool (decide_eq_true hc10045)) rfl) ?_
                                  cases HE10018
                                  exact WQ.done ⟨rfl, ho9947, ho9948, ho9949, ho9950, ho9951, ho9952, ho9953, ho9954⟩
                                · skip
                                  refine WQ.on rfl (congrArg Value.bool (decide_eq_false hc10045)) ?_
                                  refine WQ.val (fun _ hw => by obtain ⟨_, rfl⟩ := hw; exact Yl.move (v := .slice A1 n3 c2) ho9947) ?_
                                  refine WQ.on rfl (congrArg Value.bool (decide_eq_false hc10045)) ?_
                                  refine WQ.val (fun _ hw => by obtain ⟨_, rfl⟩ := hw; exact Yl.move (v := .int .i64 x9589) ho9953) ?_
                                  refine WQ.on rfl (congrArg Value.bool (decide_eq_false hc10045)) ?_
                                  refine WQ.val (fun _ hw => by obtain ⟨_, rfl⟩ := hw; exact Yl.elemAddr (i := x9589) rfl rfl hA10012 Try.underlying23 sz4 (by omega)) ?_
                                  refine WQ.on rfl (congrArg Value.bool (decide_eq_false hc10045)) ?_
                                  refine WQ.val (fun _ hw => by obtain ⟨_, rfl⟩ := hw; exact Yl.load (v := .bool (a0.getD x9589.toNat false)) rfl Try.underlying4 rfl (((C9956.fro)).cell (hx10016 0 _ rfl))) ?_
                                  refine WQ.on rfl (congrArg Value.bool (decide_eq_false hc10045)) ?_
                                  refine WQ.val (fun _ hw => by obtain ⟨_, rfl⟩ := hw; exact Yl.move (v := .bool (a0.getD x9589.toNat false)) rfl) ?_
                                  refine WQ.off rfl (congrArg Value.bool (Bool.eq_false_iff.2 hc10019)) ?_
                                  refine WQ.off rfl (congrArg Value.bool (Bool.eq_false_iff.2 hc10019)) ?_
                                  refine WQ.off rfl (congrArg Value.bool (Bool.eq_false_iff.2 hc10019)) ?_
                                  refine WQ.off rfl (congrArg Value.bool (Bool.eq_false_iff.2 hc10019)) ?_
                                  refine WQ.off rfl (congrArg Value.bool (Bool.eq_false_iff.2 hc10019)) ?_
                                  refine WQ.off rfl (congrArg Value.bool (Bool.eq_false_iff.2 hc10019)) ?_
                                  refine WQ.on rfl (congrArg Value.bool (decide_eq_false hc10045)) ?_
                                  refine WQ.val (fun _ hw => by obtain ⟨_, rfl⟩ := hw; exact Yl.pickF (v := .bool false) (congrArg Value.bool (Bool.eq_false_iff.2 hc10019)) rfl) ?_
                                  refine WQ.val (fun _ hw => by obtain ⟨_, rfl⟩ := hw; exact Yl.pickF (v := .bool false) (congrArg Value.bool (decide_eq_false hc10045)) rfl) ?_
                                  cases HE10018
                                  exact WQ.done ⟨rfl, ho9947, ho9948, ho9949, ho9950, ho9951, ho9952, ho9953, ho9954⟩
                          · skip
                            rintro env_ ⟨ho10046, ho10047, ho10048, ho10049, ho10050, ho10051, ho10052, ho10053, ho10054⟩
                            intro nq10055
                            have C10056 := Ctx.drewN C9956 nq10055
                            rcases iteE hX9945 with ⟨hc10057, hX9945⟩ | ⟨hc10057, hX9945⟩
                            · skip
                              refine W.condT (ho10046.trans (congrArg Value.bool hc10057)) ?_
                              refine W.seq ?_
                              refine W.region rfl ?_
                              refine WL.val (Yl.assign (v := .bool false) rfl) ?_
                              refine WL.done ?_
                              refine W.ret ?_
                              refine inB_r ?_
                              refine thenE_r ?_
                              refine thenE_r ?_
                              refine inB_r ?_
                              refine thenE_r ?_
                              refine inB_r ?_
                              refine thenE_r ?_
                              refine thenE_r ?_
                              refine inB_r ?_
                              refine thenE_r ?_
                              refine inB_r ?_
                              refine thenE_r ?_
                              refine thenE_r ?_
                              refine inB_r ?_
                              refine thenE_r ?_
                              refine thenE_r ?_
                              cases hX9945
                              replace hX9580 := sumE_r hX9580
                              cases hX9580
                              replace hX5123 := sumE_r hX5123
                              cases hX5123
                              replace H := sumE_r H
                              have C10058 : Ctx _ _ _ _ F [p8775, p8660, p8755] := Ctx.drop [] [p8775, p8660, p8755] C10056
                              have C10059 : Ctx _ _ _ _ F [p8660, p8755] := Ctx.drop [] [p8660, p8755] C10058
                              have C10060 : Ctx _ _ _ _ F [p8755] := Ctx.drop [] [p8755] C10059
                              have C10061 : Ctx _ _ _ _ F [] := Ctx.drop [] [] C10060
                              cases H
                              exact post_r (resE1 rfl rfl) ⟨rfl, C10061⟩
                            · skip
                              refine W.condF (ho10046.trans (congrArg Value.bool (Bool.eq_false_iff.2 hc10057))) ?_
                              refine W.skip ?_
                              refine inB_n ?_
                              refine W.region rfl ?_
                              refine WL.val (Yl.move (v := .int .i64 x9955) ho10054) ?_
                              refine WL.val (Yl.add (m := x9955) (n := 1) (r := wi64 (x9955 + 1)) rfl rfl rfl) ?_
                              refine WL.val (Yl.assign (v := .int .i64 (wi64 (x9955 + 1))) rfl) ?_
                              refine WL.done ?_
                              exact thenE_n ⟨k10007, Nat.lt_succ_self _, wi64 (x9955 + 1), ho10047, ho10048, ho10049, ho10050, ho10051, ho10052, ho10053, rfl, C10056, hX9945⟩
                        · skip
                          refine W.condF (congrArg Value.bool (decide_eq_false hc10008)) ?_
                          refine W.exit ?_
                          refine thenE_x ?_
                          refine thenE_x ?_
                          refine inB_here ?_
                          cases hX9945
                          refine thenE_n ?_
                          exact ⟨ho9947, ho9948, ho9949, ho9950, ho9951, ho9952, ho9953, C9956, rfl⟩
                      · skip
                        rintro env_ w_ ⟨ho9937, ho9938, ho9939, ho9940, ho9941, ho9942, ho9943, C9944, rfl⟩
                        replace hX9580 := sumE_l hX9580
                        refine inB_n ?_
                        refine W.region rfl ?_
                        refine WL.val (Yl.move (v := .int .i64 x9589) ho9943) ?_
                        refine WL.val (Yl.add (m := x9589) (n := 1) (r := wi64 (x9589 + 1)) rfl rfl rfl) ?_
                        refine WL.val (Yl.assign (v := .int .i64 (wi64 (x9589 + 1))) rfl) ?_
                        refine WL.done ?_
                        exact thenE_n ⟨k9824, Nat.lt_succ_self _, wi64 (x9589 + 1), ho9937, ho9938, ho9939, ho9940, ho9941, ho9942, rfl, C9944, hX9580⟩
                    · skip
                      refine W.condF (congrArg Value.bool (decide_eq_false hc9825)) ?_
                      refine W.exit ?_
                      refine thenE_x ?_
                      refine thenE_x ?_
                      refine inB_here ?_
                      cases hX9580
                      refine thenE_n ?_
                      exact ⟨ho9582, ho9583, ho9584, ho9585, ho9586, ho9587, C9590, rfl⟩
                  · skip
                    rintro env_ w_ ⟨ho9573, ho9574, ho9575, ho9576, ho9577, ho9578, C9579, rfl⟩
                    replace hX5123 := sumE_l hX5123
                    refine inB_n ?_
                    refine W.region rfl ?_
                    refine WL.val (Yl.move (v := .int .i64 x6781) ho9578) ?_
                    refine WL.val (Yl.add (m := x6781) (n := 1) (r := wi64 (x6781 + 1)) rfl rfl rfl) ?_
                    refine WL.val (Yl.assign (v := .int .i64 (wi64 (x6781 + 1))) rfl) ?_
                    refine WL.done ?_
                    have C10062 : Ctx _ _ _ _ F [p8939, p8660, p8755] := Ctx.drop [p8939] [p8660, p8755] C9579
                    have C10063 : Ctx _ _ _ _ F [p8939, p8755] := Ctx.drop [p8939] [p8755] C10062
                    have C10064 : Ctx _ _ _ _ F [p8939] := Ctx.drop [p8939] [] C10063
                    exact thenE_n ⟨k8418, Nat.lt_succ_self _, x8934, wi64 (x6781 + 1), A8935, c8936, n8937, p8939, ho9573, ho9574, ho9575, ho9576, ho9577, rfl, C10064, hn8938, hR8940, hX5123⟩
              · skip
                refine W.condT (congrArg Value.bool (ndec_f hc8780)) ?_
                refine W.exit ?_
                refine thenE_x ?_
                refine inB_here ?_
                refine W.region rfl ?_
                refine WL.val (Yl.move (v := .int .i64 x6781) ho8654) ?_
                refine WL.val (Yl.add (m := x6781) (n := 1) (r := wi64 (x6781 + 1)) rfl rfl rfl) ?_
                refine WL.val (Yl.assign (v := .int .i64 (wi64 (x6781 + 1))) rfl) ?_
                refine WL.done ?_
                have C10065 : Ctx _ _ _ _ F [p8660, p8755, p6778] := Ctx.drop [] [p8660, p8755, p6778] C8779
                have C10066 : Ctx _ _ _ _ F [p8755, p6778] := Ctx.drop [] [p8755, p6778] C10065
                have C10067 : Ctx _ _ _ _ F [p6778] := Ctx.drop [] [p6778] C10066
                exact thenE_n ⟨k8418, Nat.lt_succ_self _, x6773, wi64 (x6781 + 1), A6774, c6775, n6776, p6778, ho8649, ho8650, ho8651, ho8652, ho8653, rfl, C10067, hn6777, hR6779, hX5123⟩
          · skip
            refine W.condF (congrArg Value.bool (decide_eq_false hc8419)) ?_
            refine W.exit ?_
            refine thenE_x ?_
            refine thenE_x ?_
            refine inB_here ?_
            have C10068 : Ctx _ _ _ _ F [] := Ctx.drop [] [] C6782
            cases hX5123
            refine thenE_n ?_
            exact ⟨C10068, rfl⟩
        · skip
          rintro env_ w_ ⟨C5122, rfl⟩
          replace H := sumE_l H
          refine W.seq ?_
          refine W.region rfl ?_
          obtain ⟨r10070, hg10069, H⟩ := bindE H
          refine WL.call (args := #[]) (Yenter.fn Try.func7 (by kernel_rfl) rfl (argsE .nil)) (juratlaw18_awake.calls k _ F  (Ctx.pre (qs := []) (rest := []) C5122)  r10070 hg10069) ?_
          rintro e_ w_ ⟨rfl, C10071⟩
          refine ⟨_, rfl, ?_⟩
          have C10072 : Ctx _ _ _ _ F [] := Ctx.call (qs := []) (rest := []) C5122 C10071
          refine WL.val (Yl.assign (v := .bool r10070) rfl) ?_
          refine WL.done ?_
          refine W.ret ?_
          cases H
          exact post_r (resE1 rfl rfl) ⟨rfl, C10072⟩
/-! ### jurat/juratlaw18.CrewPicks: function 5 -/
def juratlaw18_CrewPicks.f (k : Nat) (a0 : List Int) (a1 : List Bool) (a2 : Int) (a3 : Int) : Option Bool := (if (a0.length : Int) > 100 then (some (true)) else (some (decide ((a1.length : Int) > 100)))).bind fun g15 => if g15 = true then ((juratlaw18_awake.f k ).bind fun r26 => some r26) else (if a0.length * 8 ≤ 140737488355328 then (if a1.length * 1 ≤ 140737488355328 then ((crew_Pick.f k a0 a1 a2 a3).bind fun ⟨r76, r77⟩ => (juratref18_Pick.f k a0 a1 a2 a3).bind fun ⟨r88, r89⟩ => (if r77 = r89 then ((juratref18_Same.f k r76 r88).bind fun r108 => if r108 = true then ((crew_Left.f k a0 a1 a2).bind fun r119 => (juratref18_Left.f k a0 a1 a2).bind fun r123 => if r119 = r123 then ((juratlaw18_awake.f k ).bind fun r128 => some (r128)) else (some (false))) else (some (false))) else (some (false))).bind fun g98 => some g98) else none) else none)
set_option maxRecDepth 100000 in
set_option maxHeartbeats 4000000 in
theorem juratlaw18_CrewPicks.calls (k : Nat) (w : World) (F : CH) (A1 : Option Addr) (c2 : Nat) (n3 : Nat) (a0 : List Int) (A8 : Option Addr) (c9 : Nat) (n10 : Nat) (a1 : List Bool) (a2 : Int) (a3 : Int) (hp : Pre w F []) (hn4 : n3 = a0.length) (hl5 : a0.length ≤ c2) (hm6 : c2 ≤ maxLen) (hS7 : Sl (Kd.int .i64) F F A1 a0) (hn11 : n10 = a1.length) (hl12 : a1.length ≤ c9) (hm13 : c9 ≤ maxLen) (hS14 : Sl Kd.bool F F A8 a1) (r0_ : Bool) (H : juratlaw18_CrewPicks.f k a0 a1 a2 a3 = some r0_) :
    Calls Try.prog 5 #[.slice A1 n3 c2, .slice A8 n10 c9, .int .i64 a2, .int .i64 a3] w fun e w' => e = .returned (.bool r0_) ∧ Ctx w F (domL []) w' F [] := by
  have C := Ctx.start hp
  generalize hD : domL [] = D at C ⊢
  unfold juratlaw18_CrewPicks.f at H
  refine Calls.ofW Try.func5 rfl (by simp [Try.ntmps5]) ?_
  refine W.seq ?_
  refine W.region rfl ?_
  refine WL.val (Yl.assign (v := .bool false) rfl) ?_
  refine WL.done ?_
  refine W.seq ?_
  refine W.seq ?_
  refine W.region rfl ?_
  refine WL.val (Yl.move (v := .slice A1 n3 c2) rfl) ?_
  refine WL.val (Yl.lenN (A := A1) (l := n3) (q := c2) (n := (a0.length : Int)) rfl Try.underlying22 (by omega)) ?_
  refine WL.val (Yl.gtr (m := (a0.length : Int)) (n := 100) (q := decide ((a0.length : Int) > 100)) rfl rfl rfl) ?_
  refine WL.val (Yl.move (v := .bool (decide ((a0.length : Int) > 100))) rfl) ?_
  obtain ⟨g15, HE16, H⟩ := bindE H
  refine WL.cut (fun env_ w_ => env_ 22 = .bool g15 ∧ env_ 0 = .slice A1 n3 c2 ∧ env_ 1 = .slice A8 n10 c9 ∧ env_ 2 = .int .i64 a2 ∧ env_ 3 = .int .i64 a3 ∧ Ctx w F D w_ F []) ?_ ?_
  · skip
    rcases iteE HE16 with ⟨hc17, HE16⟩ | ⟨hc17, HE16⟩
    · skip
      refine WL.off rfl (congrArg Value.bool (decide_eq_true hc17)) ?_
      refine WL.off rfl (congrArg Value.bool (decide_eq_true hc17)) ?_
      refine WL.off rfl (congrArg Value.bool (decide_eq_true hc17)) ?_
      refine WL.val (Yl.pickT (v := .bool true) (congrArg Value.bool (decide_eq_true hc17)) rfl) ?_
      cases HE16
      exact WL.done ⟨rfl, rfl, rfl, rfl, rfl, C⟩
    · skip
      refine WL.on rfl (congrArg Value.bool (decide_eq_false hc17)) ?_
      refine WL.val (Yl.move (v := .slice A8 n10 c9) rfl) ?_
      refine WL.on rfl (congrArg Value.bool (decide_eq_false hc17)) ?_
      refine WL.val (Yl.lenN (A := A8) (l := n10) (q := c9) (n := (a1.length : Int)) rfl Try.underlying23 (by omega)) ?_
      refine WL.on rfl (congrArg Value.bool (decide_eq_false hc17)) ?_
      refine WL.val (Yl.gtr (m := (a1.length : Int)) (n := 100) (q := decide ((a1.length : Int) > 100)) rfl rfl rfl) ?_
      refine WL.val (Yl.pickF (v := .bool (decide ((a1.length : Int) > 100))) (congrArg Value.bool (decide_eq_false hc17)) rfl) ?_
      cases HE16
      exact WL.done ⟨rfl, rfl, rfl, rfl, rfl, C⟩
  · skip
    rintro env_ w_ ⟨ho18, ho19, ho20, ho21, ho22, C23⟩
    rcases iteE H with ⟨hc24, H⟩ | ⟨hc24, H⟩
    · skip
      refine W.condT (ho18.trans (congrArg Value.bool hc24)) ?_
      refine W.seq ?_
      refine W.region rfl ?_
      obtain ⟨r26, hg25, H⟩ := bindE H
      refine WL.call (args := #[]) (Yenter.fn Try.func7 (by kernel_rfl) rfl (argsE .nil)) (juratlaw18_awake.calls k _ F  (Ctx.pre (qs := []) (rest := []) C23)  r26 hg25) ?_
      rintro e_ w_ ⟨rfl, C27⟩
      refine ⟨_, rfl, ?_⟩
      have C28 : Ctx _ _ _ _ F [] := Ctx.call (qs := []) (rest := []) C23 C27
      refine WL.val (Yl.assign (v := .bool r26) rfl) ?_
      refine WL.done ?_
      refine W.ret ?_
      refine thenE_r ?_
      cases H
      exact post_r (resE1 rfl rfl) ⟨rfl, C28⟩
    · skip
      refine W.condF (ho18.trans (congrArg Value.bool (Bool.eq_false_iff.2 hc24))) ?_
      refine W.skip ?_
      refine W.seq ?_
      refine W.region rfl ?_
      obtain ⟨A29, c30, n31, p32, w33, hn34, hy35, C36, hR37⟩ := ev_lit0 (P := Try.prog) 3 (Kd.int .i64) C23 Try.underlying22 ti3
      refine WL.val (hy35 _ _) ?_
      refine WL.val (Yl.move (v := .slice A1 n3 c2) ho19) ?_
      obtain ⟨hc38, H⟩ := guardE H
      obtain ⟨A39, c40, n41, p42, w43, hn44, hy45, C46, hR47⟩ := ev_append' (P := Try.prog) (cb := c2) 3 (Kd.int .i64) [] [] C36 hR37 hn4 hS7 C36.fro Try.underlying22 ti3 rfl zo3 (by decide) (by decide) (by simpa using hc38)
      have C48 : Ctx _ _ _ _ F [p42] := C46
      rw [List.nil_append] at hn44 hR47
      refine WL.val (hy45 _ _ _ _ rfl rfl) ?_
      obtain ⟨A49, c50, n51, p52, w53, hn54, hy55, C56, hR57⟩ := ev_lit0 (P := Try.prog) 4 Kd.bool C48 Try.underlying23 ti4
      refine WL.val (hy55 _ _) ?_
      refine WL.val (Yl.move (v := .slice A8 n10 c9) ho20) ?_
      obtain ⟨hc58, H⟩ := guardE H
      obtain ⟨A59, c60, n61, p62, w63, hn64, hy65, C66, hR67⟩ := ev_append' (P := Try.prog) (cb := c9) 4 Kd.bool [] [p42] C56 hR57 hn11 hS14 C56.fro Try.underlying23 ti4 rfl zo4 (by decide) (by decide) (by simpa using hc58)
      have C68 : Ctx _ _ _ _ F [p62, p42] := C66
      rw [List.nil_append] at hn64 hR67
      refine WL.val (hy65 _ _ _ _ rfl rfl) ?_
      refine WL.val (Yl.assign (v := .slice A39 n41 c40) rfl) ?_
      refine WL.val (Yl.assign (v := .slice A59 n61 c60) rfl) ?_
      refine WL.done ?_
      refine W.seq ?_
      refine W.region rfl ?_
      refine WL.val (Yl.move (v := .slice A39 n41 c40) rfl) ?_
      refine WL.val (Yl.move (v := .slice A59 n61 c60) rfl) ?_
      refine WL.val (Yl.move (v := .int .i64 a2) ho21) ?_
      refine WL.val (Yl.move (v := .int .i64 a3) ho22) ?_
      have le69 : CH.le F (CH.join F p42) := CH.le_joinL _ _
      have lp70 : CH.le p42 (CH.join F p42) := CH.le_joinR (Ctx.dis_of [p62] [] C68)
      have C71 : Ctx _ _ _ _ (CH.join F p42) [p62] := Ctx.freeze [p62] [] C68
      have le72 : CH.le (CH.join F p42) (CH.join (CH.join F p42) p62) := CH.le_joinL _ _
      have lp73 : CH.le p62 (CH.join (CH.join F p42) p62) := CH.le_joinR (Ctx.dis_of [] [] C71)
      have C74 : Ctx _ _ _ _ (CH.join (CH.join F p42) p62) [] := Ctx.freeze [] [] C71
      obtain ⟨⟨r76, r77⟩, hg75, H⟩ := bindE H
      refine WL.call (args := #[.slice A39 n41 c40, .slice A59 n61 c60, .int .i64 a2, .int .i64 a3]) (Yenter.fn Try.func8 (by kernel_rfl) rfl (argsE (.cons rfl (.cons rfl (.cons rfl (.cons rfl .nil)))))) (crew_Pick.calls k _ (CH.join (CH.join F p42) p62) A39 c40 n41 a0 A59 c60 n61 a1 a2 a3 (Ctx.pre (qs := []) (rest := []) C74) hn44 (Row.len_le hR47).1 (Row.len_le hR47).2.1 (Sl.mono (Row.sl hR47) (CH.le_trans le69 le72) (CH.le_trans lp70 le72)) hn64 (Row.len_le hR67).1 (Row.len_le hR67).2.1 (Sl.mono (Row.sl hR67) (CH.le_trans le69 le72) lp73) r76 r77 hg75) ?_
      rintro e_ w_ ⟨A78, c79, n80, p82, rfl, C84, hn81, hR83⟩
      refine ⟨_, rfl, ?_⟩
      have hR85 : Row (Kd.int .i64) F p82 (.slice A78 n80 c79) r76 := hR83
      have C86 : Ctx _ _ _ _ F [p82, p62, p42] := Ctx.callL (qs := []) (rest := [p62, p42]) C68 (CH.le_trans le69 le72) C84
      refine WL.val (Yl.move (v := .tuple #[(.slice A78 n80 c79), (.int .i64 r77)]) rfl) ?_
      refine WL.val (Yl.extract (v := .slice A78 n80 c79) rfl rfl) ?_
      refine WL.val (Yl.extract (v := .int .i64 r77) rfl rfl) ?_
      refine WL.val (Yl.assign (v := .slice A78 n80 c79) rfl) ?_
      refine WL.val (Yl.assign (v := .int .i64 r77) rfl) ?_
      refine WL.done ?_
      refine W.seq ?_
      refine W.region rfl ?_
      refine WL.val (Yl.move (v := .slice A1 n3 c2) ho19) ?_
      refine WL.val (Yl.move (v := .slice A8 n10 c9) ho20) ?_
      refine WL.val (Yl.move (v := .int .i64 a2) ho21) ?_
      refine WL.val (Yl.move (v := .int .i64 a3) ho22) ?_
      obtain ⟨⟨r88, r89⟩, hg87, H⟩ := bindE H
      refine WL.call (args := #[.slice A1 n3 c2, .slice A8 n10 c9, .int .i64 a2, .int .i64 a3]) (Yenter.fn Try.func9 (by kernel_rfl) rfl (argsE (.cons rfl (.cons rfl (.cons rfl (.cons rfl .nil)))))) (juratref18_Pick.calls k _ F A1 c2 n3 a0 A8 c9 n10 a1 a2 a3 (Ctx.pre (qs := []) (rest := [p82, p62, p42]) C86) hn4 hl5 hm6 hS7 hn11 hl12 hm13 hS14 r88 r89 hg87) ?_
      rintro e_ w_ ⟨A90, c91, n92, p94, rfl, C96, hn93, hR95⟩
      refine ⟨_, rfl, ?_⟩
      have C97 : Ctx _ _ _ _ F [p94, p82, p62, p42] := Ctx.call (qs := []) (rest := [p82, p62, p42]) C86 C96
      refine WL.val (Yl.move (v := .tuple #[(.slice A90 n92 c91), (.int .i64 r89)]) rfl) ?_
      refine WL.val (Yl.extract (v := .slice A90 n92 c91) rfl rfl) ?_
      refine WL.val (Yl.extract (v := .int .i64 r89) rfl rfl) ?_
      refine WL.val (Yl.assign (v := .slice A90 n92 c91) rfl) ?_
      refine WL.val (Yl.assign (v := .int .i64 r89) rfl) ?_
      refine WL.done ?_
      refine W.seq ?_
      refine W.region rfl ?_
      refine WL.val (Yl.move (v := .int .i64 r77) rfl) ?_
      refine WL.val (Yl.move (v := .int .i64 r89) rfl) ?_
      refine WL.val (Yl.eql (m := r77) (n := r89) (q := decide (r77 = r89)) rfl rfl rfl) ?_
      refine WL.val (Yl.move (v := .bool (decide (r77 = r89))) rfl) ?_
      obtain ⟨g98, HE99, H⟩ := bindE H
      refine WL.cut (fun env_ w_ => env_ 8 = .bool g98 ∧ Ctx w F D w_ F [p94, p82, p62, p42]) ?_ ?_
      · skip
        rcases iteE HE99 with ⟨hc100, HE99⟩ | ⟨hc100, HE99⟩
        · skip
          refine WL.on rfl (congrArg Value.bool (decide_eq_true hc100)) ?_
          refine WL.val (Yl.move (v := .slice A78 n80 c79) rfl) ?_
          refine WL.on rfl (congrArg Value.bool (decide_eq_true hc100)) ?_
          refine WL.val (Yl.move (v := .slice A90 n92 c91) rfl) ?_
          refine WL.on rfl (congrArg Value.bool (decide_eq_true hc100)) ?_
          have le101 : CH.le F (CH.join F p82) := CH.le_joinL _ _
          have lp102 : CH.le p82 (CH.join F p82) := CH.le_joinR (Ctx.dis_of [p94] [p62, p42] C97)
          have C103 : Ctx _ _ _ _ (CH.join F p82) [p94, p62, p42] := Ctx.freeze [p94] [p62, p42] C97
          have le104 : CH.le (CH.join F p82) (CH.join (CH.join F p82) p94) := CH.le_joinL _ _
          have lp105 : CH.le p94 (CH.join (CH.join F p82) p94) := CH.le_joinR (Ctx.dis_of [] [p62, p42] C103)
          have C106 : Ctx _ _ _ _ (CH.join (CH.join F p82) p94) [p62, p42] := Ctx.freeze [] [p62, p42] C103
          obtain ⟨r108, hg107, HE99⟩ := bindE HE99
          refine WL.call (args := #[.slice A78 n80 c79, .slice A90 n92 c91]) (Yenter.fn Try.func10 (by kernel_rfl) rfl (argsE (.cons rfl (.cons rfl .nil)))) (juratref18_Same.calls k _ (CH.join (CH.join F p82) p94) A78 c79 n80 r76 A90 c91 n92 r88 C106.pre0 hn81 (Row.len_le hR85).1 (Row.len_le hR85).2.1 (Sl.mono (Row.sl hR85) (CH.le_trans le101 le104) (CH.le_trans lp102 le104)) hn93 (Row.len_le hR95).1 (Row.len_le hR95).2.1 (Sl.mono (Row.sl hR95) (CH.le_trans le101 le104) lp105) r108 hg107) ?_
          rintro e_ w_ ⟨rfl, ⟨m109, rfl⟩⟩
          refine ⟨_, rfl, ?_⟩
          have C110 := Ctx.drewN C97 m109
          refine WL.val (Yl.pickT (v := .bool r108) (congrArg Value.bool (decide_eq_true hc100)) rfl) ?_
          refine WL.val (Yl.move (v := .bool r108) rfl) ?_
          rcases iteE HE99 with ⟨hc111, HE99⟩ | ⟨hc111, HE99⟩
          · skip
            refine WL.on rfl (congrArg Value.bool hc111) ?_
            refine WL.val (Yl.move (v := .slice A39 n41 c40) rfl) ?_
            refine WL.on rfl (congrArg Value.bool hc111) ?_
            refine WL.val (Yl.move (v := .slice A59 n61 c60) rfl) ?_
            refine WL.on rfl (congrArg Value.bool hc111) ?_
            refine WL.val (Yl.move (v := .int .i64 a2) ho21) ?_
            refine WL.on rfl (congrArg Value.bool hc111) ?_
            have le112 : CH.le F (CH.join F p42) := CH.le_joinL _ _
            have lp113 : CH.le p42 (CH.join F p42) := CH.le_joinR (Ctx.dis_of [p94, p82, p62] [] C110)
            have C114 : Ctx _ _ _ _ (CH.join F p42) [p94, p82, p62] := Ctx.freeze [p94, p82, p62] [] C110
            have le115 : CH.le (CH.join F p42) (CH.join (CH.join F p42) p62) := CH.le_joinL _ _
            have lp116 : CH.le p62 (CH.join (CH.join F p42) p62) := CH.le_joinR (Ctx.dis_of [p94, p82] [] C114)
            have C117 : Ctx _ _ _ _ (CH.join (CH.join F p42) p62) [p94, p82] := Ctx.freeze [p94, p82] [] C114
            obtain ⟨r119, hg118, HE99⟩ := bindE HE99
            refine WL.call (args := #[.slice A39 n41 c40, .slice A59 n61 c60, .int .i64 a2]) (Yenter.fn Try.func11 (by kernel_rfl) rfl (argsE (.cons rfl (.cons rfl (.cons rfl .nil))))) (crew_Left.calls k _ (CH.join (CH.join F p42) p62) A39 c40 n41 a0 A59 c60 n61 a1 a2 (Ctx.pre (qs := []) (rest := [p94, p82]) C117) hn44 (Row.len_le hR47).1 (Row.len_le hR47).2.1 (Sl.mono (Row.sl hR47) (CH.le_trans le112 le115) (CH.le_trans lp113 le115)) hn64 (Row.len_le hR67).1 (Row.len_le hR67).2.1 (Sl.mono (Row.sl hR67) (CH.le_trans le112 le115) lp116) r119 hg118) ?_
            rintro e_ w_ ⟨rfl, C120⟩
            refine ⟨_, rfl, ?_⟩
            have C121 : Ctx _ _ _ _ F [p94, p82, p62, p42] := Ctx.callL (qs := []) (rest := [p94, p82, p62, p42]) C110 (CH.le_trans le112 le115) C120
            refine WL.on rfl (congrArg Value.bool hc111) ?_
            refine WL.val (Yl.move (v := .slice A1 n3 c2) ho19) ?_
            refine WL.on rfl (congrArg Value.bool hc111) ?_
            refine WL.val (Yl.move (v := .slice A8 n10 c9) ho20) ?_
            refine WL.on rfl (congrArg Value.bool hc111) ?_
            refine WL.val (Yl.move (v := .int .i64 a2) ho21) ?_
            refine WL.on rfl (congrArg Value.bool hc111) ?_
            obtain ⟨r123, hg122, HE99⟩ := bindE HE99
            refine WL.call (args := #[.slice A1 n3 c2, .slice A8 n10 c9, .int .i64 a2]) (Yenter.fn Try.func12 (by kernel_rfl) rfl (argsE (.cons rfl (.cons rfl (.cons rfl .nil))))) (juratref18_Left.calls k _ F A1 c2 n3 a0 A8 c9 n10 a1 a2 C121.pre0 hn4 hl5 hm6 hS7 hn11 hl12 hm13 hS14 r123 hg122) ?_
            rintro e_ w_ ⟨rfl, ⟨m124, rfl⟩⟩
            refine ⟨_, rfl, ?_⟩
            have C125 := Ctx.drewN C121 m124
            refine WL.on rfl (congrArg Value.bool hc111) ?_
            refine WL.val (Yl.eql (m := r119) (n := r123) (q := decide (r119 = r123)) rfl rfl rfl) ?_
            refine WL.val (Yl.pickT (v := .bool (decide (r119 = r123))) (congrArg Value.bool hc111) rfl) ?_
            refine WL.val (Yl.move (v := .bool (decide (r119 = r123))) rfl) ?_
            rcases iteE HE99 with ⟨hc126, HE99⟩ | ⟨hc126, HE99⟩
            · skip
              refine WL.on rfl (congrArg Value.bool (decide_eq_true hc126)) ?_
              obtain ⟨r128, hg127, HE99⟩ := bindE HE99
              refine WL.call (args := #[]) (Yenter.fn Try.func7 (by kernel_rfl) rfl (argsE .nil)) (juratlaw18_awake.calls k _ F  (Ctx.pre (qs := []) (rest := [p94, p82, p62, p42]) C125)  r128 hg127) ?_
              rintro e_ w_ ⟨rfl, C129⟩
              refine ⟨_, rfl, ?_⟩
              have C130 : Ctx _ _ _ _ F [p94, p82, p62, p42] := Ctx.call (qs := []) (rest := [p94, p82, p62, p42]) C125 C129
              refine WL.val (Yl.pickT (v := .bool r128) (congrArg Value.bool (decide_eq_true hc126)) rfl) ?_
              refine WL.val (Yl.assign (v := .bool r128) rfl) ?_
              cases HE99
              exact WL.done ⟨rfl, C130⟩
            · skip
              refine WL.off rfl (congrArg Value.bool (decide_eq_false hc126)) ?_
              refine WL.val (Yl.pickF (v := .bool false) (congrArg Value.bool (decide_eq_false hc126)) rfl) ?_
              refine WL.val (Yl.assign (v := .bool false) rfl) ?_
              cases HE99
              exact WL.done ⟨rfl, C125⟩
          · skip
            refine WL.off rfl (congrArg Value.bool (Bool.eq_false_iff.2 hc111)) ?_
            refine WL.off rfl (congrArg Value.bool (Bool.eq_false_iff.2 hc111)) ?_
            refine WL.off rfl (congrArg Value.bool (Bool.eq_false_iff.2 hc111)) ?_
            refine WL.off rfl (congrArg Value.bool (Bool.eq_false_iff.2 hc111)) ?_
            refine WL.off rfl (congrArg Value.bool (Bool.eq_false_iff.2 hc111)) ?_
            refine WL.off rfl (congrArg Value.bool (Bool.eq_false_iff.2 hc111)) ?_
            refine WL.off rfl (congrArg Value.bool (Bool.eq_false_iff.2 hc111)) ?_
            refine WL.off rfl (congrArg Value.bool (Bool.eq_false_iff.2 hc111)) ?_
            refine WL.off rfl (congrArg Value.bool (Bool.eq_false_iff.2 hc111)) ?_
            refine WL.val (Yl.pickF (v := .bool false) (congrArg Value.bool (Bool.eq_false_iff.2 hc111)) rfl) ?_
            refine WL.val (Yl.move (v := .bool false) rfl) ?_
            refine WL.off rfl rfl ?_
            refine WL.val (Yl.pickF (v := .bool false) rfl rfl) ?_
            refine WL.val (Yl.assign (v := .bool false) rfl) ?_
            cases HE99
            exact WL.done ⟨rfl, C110⟩
        · skip
          refine WL.off rfl (congrArg Value.bool (decide_eq_false hc100)) ?_
          refine WL.off rfl (congrArg Value.bool (decide_eq_false hc100)) ?_
          refine WL.off rfl (congrArg Value.bool (decide_eq_false hc100)) ?_
          refine WL.val (Yl.pickF (v := .bool false) (congrArg Value.bool (decide_eq_false hc100)) rfl) ?_
          refine WL.val (Yl.move (v := .bool false) rfl) ?_
          refine WL.off rfl rfl ?_
          refine WL.off rfl rfl ?_
          refine WL.off rfl rfl ?_
          refine WL.off rfl rfl ?_
          refine WL.off rfl rfl ?_
          refine WL.off rfl rfl ?_
          refine WL.off rfl rfl ?_
          refine WL.off rfl rfl ?_
          refine WL.off rfl rfl ?_
          refine WL.val (Yl.pickF (v := .bool false) rfl rfl) ?_
          refine WL.val (Yl.move (v := .bool false) rfl) ?_
          refine WL.off rfl rfl ?_
          refine WL.val (Yl.pickF (v := .bool false) rfl rfl) ?_
          refine WL.val (Yl.assign (v := .bool false) rfl) ?_
          cases HE99
          exact WL.done ⟨rfl, C97⟩
      · skip
        rintro env_ w_ ⟨ho131, C132⟩
        refine W.ret ?_
        have C133 : Ctx _ _ _ _ F [p82, p62, p42] := Ctx.drop [] [p82, p62, p42] C132
        have C134 : Ctx _ _ _ _ F [p62, p42] := Ctx.drop [] [p62, p42] C133
        have C135 : Ctx _ _ _ _ F [p42] := Ctx.drop [] [p42] C134
        have C136 : Ctx _ _ _ _ F [] := Ctx.drop [] [] C135
        cases H
        exact post_r (resE1 rfl ho131) ⟨rfl, C136⟩
/-! ### jurat/juratlaw18.CrewLeft: function 6 -/
def juratlaw18_CrewLeft.f (k : Nat) (a0 : List Int) (a1 : List Bool) (a2 : Int) (a3 : Int) : Option Bool := (juratref18_Right.f k a0 a1).bind fun r16 => if (((!r16) || (decide (a3 < 1))) || (decide (a2 < 0))) = true then (if a0.length * 8 ≤ 140737488355328 then (if a1.length * 1 ≤ 140737488355328 then ((crew_Pick.f k a0 a1 a2 a3).bind fun ⟨r75, r76⟩ => (if r76 = 1 then ((juratlaw18_awake.f k ).bind fun r90 => some (r90)) else (some (false))).bind fun g86 => some g86) else none) else none) else (if a0.length * 8 ≤ 140737488355328 then (if a1.length * 1 ≤ 140737488355328 then ((crew_Left.f k a0 a1 a2).bind fun r145 => (crew_Pick.f k a0 a1 a2 a3).bind fun ⟨r193, r194⟩ => if a3 ≤ r145 then ((if r194 = 0 then (if (r193.length : Int) = a3 then ((juratlaw18_awake.f k ).bind fun r210 => some (r210)) else (some (false))) else (some (false))).bind fun g205 => some g205) else ((if r194 = 70 then (if (r193.length : Int) = 0 then ((juratlaw18_awake.f k ).bind fun r225 => some (r225)) else (some (false))) else (if r194 = 180 then (if (r193.length : Int) = 0 then ((juratlaw18_awake.f k ).bind fun r231 => some (r231)) else (some (false))) else (some (false)))).bind fun g220 => some g220)) else none) else none)
set_option maxRecDepth 100000 in
set_option maxHeartbeats 4000000 in
theorem juratlaw18_CrewLeft.calls (k : Nat) (w : World) (F : CH) (A1 : Option Addr) (c2 : Nat) (n3 : Nat) (a0 : List Int) (A8 : Option Addr) (c9 : Nat) (n10 : Nat) (a1 : List Bool) (a2 : Int) (a3 : Int) (hp : Pre w F []) (hn4 : n3 = a0.length) (hl5 : a0.length ≤ c2) (hm6 : c2 ≤ maxLen) (hS7 : Sl (Kd.int .i64) F F A1 a0) (hn11 : n10 = a1.length) (hl12 : a1.length ≤ c9) (hm13 : c9 ≤ maxLen) (hS14 : Sl Kd.bool F F A8 a1) (r0_ : Bool) (H : juratlaw18_CrewLeft.f k a0 a1 a2 a3 = some r0_) :
    Calls Try.prog 6 #[.slice A1 n3 c2, .slice A8 n10 c9, .int .i64 a2, .int .i64 a3] w fun e w' => e = .returned (.bool r0_) ∧ Ctx w F (domL []) w' F [] := by
  have C := Ctx.start hp
  generalize hD : domL [] = D at C ⊢
  unfold juratlaw18_CrewLeft.f at H
  refine Calls.ofW Try.func6 rfl (by simp [Try.ntmps6]) ?_
  refine W.seq ?_
  refine W.region rfl ?_
  refine WL.val (Yl.assign (v := .bool false) rfl) ?_
  refine WL.done ?_
  refine W.seq ?_
  refine W.seq ?_
  refine W.region rfl ?_
  refine WL.val (Yl.move (v := .slice A1 n3 c2) rfl) ?_
  refine WL.val (Yl.move (v := .slice A8 n10 c9) rfl) ?_
  obtain ⟨r16, hg15, H⟩ := bindE H
  refine WL.call (args := #[.slice A1 n3 c2, .slice A8 n10 c9]) (Yenter.fn Try.func13 (by kernel_rfl) rfl (argsE (.cons rfl (.cons rfl .nil)))) (juratref18_Right.calls k _ F A1 c2 n3 a0 A8 c9 n10 a1 C.pre0 hn4 hl5 hm6 hS7 hn11 hl12 hm13 hS14 r16 hg15) ?_
  rintro e_ w_ ⟨rfl, ⟨m17, rfl⟩⟩
  refine ⟨_, rfl, ?_⟩
  have C18 := Ctx.drewN C m17
  refine WL.val (Yl.not (p := r16) (q := !r16) rfl rfl) ?_
  refine WL.val (Yl.move (v := .bool (!r16)) rfl) ?_
  refine WL.cut (fun env_ w_ => env_ 25 = .bool (((!r16) || (decide (a3 < 1))) || (decide (a2 < 0))) ∧ env_ 0 = .slice A1 n3 c2 ∧ env_ 1 = .slice A8 n10 c9 ∧ env_ 2 = .int .i64 a2 ∧ env_ 3 = .int .i64 a3 ∧ Ctx w F D w_ F []) ?_ ?_
  · skip
    rcases Bool.eq_false_or_eq_true (!r16) with hb19 | hb19
    · skip
      refine WL.off rfl (congrArg Value.bool hb19) ?_
      refine WL.off rfl (congrArg Value.bool hb19) ?_
      refine WL.val (Yl.pickT (v := .bool true) (congrArg Value.bool hb19) rfl) ?_
      refine WL.val (Yl.move (v := .bool true) rfl) ?_
      refine WL.off rfl rfl ?_
      refine WL.off rfl rfl ?_
      refine WL.val (Yl.pickT (v := .bool true) rfl rfl) ?_
      exact WL.done ⟨(congrArg Value.bool (show true = (((!r16) || (decide (a3 < 1))) || (decide (a2 < 0))) from by simp [hb19])), rfl, rfl, rfl, rfl, C18⟩
    · skip
      refine WL.on rfl (congrArg Value.bool hb19) ?_
      refine WL.val (Yl.move (v := .int .i64 a3) rfl) ?_
      refine WL.on rfl (congrArg Value.bool hb19) ?_
      refine WL.val (Yl.lss (m := a3) (n := 1) (q := decide (a3 < 1)) rfl rfl rfl) ?_
      refine WL.val (Yl.pickF (v := .bool (decide (a3 < 1))) (congrArg Value.bool hb19) rfl) ?_
      refine WL.val (Yl.move (v := .bool (decide (a3 < 1))) rfl) ?_
      rcases Bool.eq_false_or_eq_true (decide (a3 < 1)) with hb20 | hb20
      · skip
        refine WL.off rfl (congrArg Value.bool hb20) ?_
        refine WL.off rfl (congrArg Value.bool hb20) ?_
        refine WL.val (Yl.pickT (v := .bool true) (congrArg Value.bool hb20) rfl) ?_
        exact WL.done ⟨(congrArg Value.bool (show true = (((!r16) || (decide (a3 < 1))) || (decide (a2 < 0))) from by simp [hb19, hb20])), rfl, rfl, rfl, rfl, C18⟩
      · skip
        refine WL.on rfl (congrArg Value.bool hb20) ?_
        refine WL.val (Yl.move (v := .int .i64 a2) rfl) ?_
        refine WL.on rfl (congrArg Value.bool hb20) ?_
        refine WL.val (Yl.lss (m := a2) (n := 0) (q := decide (a2 < 0)) rfl rfl rfl) ?_
        refine WL.val (Yl.pickF (v := .bool (decide (a2 < 0))) (congrArg Value.bool hb20) rfl) ?_
        exact WL.done ⟨(congrArg Value.bool (show (decide (a2 < 0)) = (((!r16) || (decide (a3 < 1))) || (decide (a2 < 0))) from by simp [hb19, hb20])), rfl, rfl, rfl, rfl, C18⟩
  · skip
    rintro env_ w_ ⟨ho21, ho22, ho23, ho24, ho25, C26⟩
    rcases iteE H with ⟨hc27, H⟩ | ⟨hc27, H⟩
    · skip
      refine W.condT (ho21.trans (congrArg Value.bool hc27)) ?_
      refine W.seq ?_
      refine W.region rfl ?_
      obtain ⟨A28, c29, n30, p31, w32, hn33, hy34, C35, hR36⟩ := ev_lit0 (P := Try.prog) 3 (Kd.int .i64) C26 Try.underlying22 ti3
      refine WL.val (hy34 _ _) ?_
      refine WL.val (Yl.move (v := .slice A1 n3 c2) ho22) ?_
      obtain ⟨hc37, H⟩ := guardE H
      obtain ⟨A38, c39, n40, p41, w42, hn43, hy44, C45, hR46⟩ := ev_append' (P := Try.prog) (cb := c2) 3 (Kd.int .i64) [] [] C35 hR36 hn4 hS7 C35.fro Try.underlying22 ti3 rfl zo3 (by decide) (by decide) (by simpa using hc37)
      have C47 : Ctx _ _ _ _ F [p41] := C45
      rw [List.nil_append] at hn43 hR46
      refine WL.val (hy44 _ _ _ _ rfl rfl) ?_
      obtain ⟨A48, c49, n50, p51, w52, hn53, hy54, C55, hR56⟩ := ev_lit0 (P := Try.prog) 4 Kd.bool C47 Try.underlying23 ti4
      refine WL.val (hy54 _ _) ?_
      refine WL.val (Yl.move (v := .slice A8 n10 c9) ho23) ?_
      obtain ⟨hc57, H⟩ := guardE H
      obtain ⟨A58, c59, n60, p61, w62, hn63, hy64, C65, hR66⟩ := ev_append' (P := Try.prog) (cb := c9) 4 Kd.bool [] [p41] C55 hR56 hn11 hS14 C55.fro Try.underlying23 ti4 rfl zo4 (by decide) (by decide) (by simpa using hc57)
      have C67 : Ctx _ _ _ _ F [p61, p41] := C65
      rw [List.nil_append] at hn63 hR66
      refine WL.val (hy64 _ _ _ _ rfl rfl) ?_
      refine WL.val (Yl.move (v := .int .i64 a2) ho24) ?_
      refine WL.val (Yl.move (v := .int .i64 a3) ho25) ?_
      have le68 : CH.le F (CH.join F p41) := CH.le_joinL _ _
      have lp69 : CH.le p41 (CH.join F p41) := CH.le_joinR (Ctx.dis_of [p61] [] C67)
      have C70 : Ctx _ _ _ _ (CH.join F p41) [p61] := Ctx.freeze [p61] [] C67
      have le71 : CH.le (CH.join F p41) (CH.join (CH.join F p41) p61) := CH.le_joinL _ _
      have lp72 : CH.le p61 (CH.join (CH.join F p41) p61) := CH.le_joinR (Ctx.dis_of [] [] C70)
      have C73 : Ctx _ _ _ _ (CH.join (CH.join F p41) p61) [] := Ctx.freeze [] [] C70
      obtain ⟨⟨r75, r76⟩, hg74, H⟩ := bindE H
      refine WL.call (args := #[.slice A38 n40 c39, .slice A58 n60 c59, .int .i64 a2, .int .i64 a3]) (Yenter.fn Try.func8 (by kernel_rfl) rfl (argsE (.cons rfl (.cons rfl (.cons rfl (.cons rfl .nil)))))) (crew_Pick.calls k _ (CH.join (CH.join F p41) p61) A38 c39 n40 a0 A58 c59 n60 a1 a2 a3 (Ctx.pre (qs := []) (rest := []) C73) hn43 (Row.len_le hR46).1 (Row.len_le hR46).2.1 (Sl.mono (Row.sl hR46) (CH.le_trans le68 le71) (CH.le_trans lp69 le71)) hn63 (Row.len_le hR66).1 (Row.len_le hR66).2.1 (Sl.mono (Row.sl hR66) (CH.le_trans le68 le71) lp72) r75 r76 hg74) ?_
      rintro e_ w_ ⟨A77, c78, n79, p81, rfl, C83, hn80, hR82⟩
      refine ⟨_, rfl, ?_⟩
      have hR84 : Row (Kd.int .i64) F p81 (.slice A77 n79 c78) r75 := hR82
      have C85 : Ctx _ _ _ _ F [p81, p61, p41] := Ctx.callL (qs := []) (rest := [p61, p41]) C67 (CH.le_trans le68 le71) C83
      refine WL.val (Yl.move (v := .tuple #[(.slice A77 n79 c78), (.int .i64 r76)]) rfl) ?_
      refine WL.val (Yl.extract (v := .slice A77 n79 c78) rfl rfl) ?_
      refine WL.val (Yl.extract (v := .int .i64 r76) rfl rfl) ?_
      refine WL.val (Yl.assign (v := .slice A77 n79 c78) rfl) ?_
      refine WL.val (Yl.assign (v := .int .i64 r76) rfl) ?_
      refine WL.done ?_
      refine W.seq ?_
      refine W.region rfl ?_
      refine WL.val (Yl.move (v := .int .i64 r76) rfl) ?_
      refine WL.val (Yl.eql (m := r76) (n := 1) (q := decide (r76 = 1)) rfl rfl rfl) ?_
      refine WL.val (Yl.move (v := .bool (decide (r76 = 1))) rfl) ?_
      obtain ⟨g86, HE87, H⟩ := bindE H
      refine WL.cut (fun env_ w_ => env_ 8 = .bool g86 ∧ Ctx w F D w_ F [p81, p61, p41]) ?_ ?_
      · skip
        rcases iteE HE87 with ⟨hc88, HE87⟩ | ⟨hc88, HE87⟩
        · skip
          refine WL.on rfl (congrArg Value.bool (decide_eq_true hc88)) ?_
          obtain ⟨r90, hg89, HE87⟩ := bindE HE87
          refine WL.call (args := #[]) (Yenter.fn Try.func7 (by kernel_rfl) rfl (argsE .nil)) (juratlaw18_awake.calls k _ F  (Ctx.pre (qs := []) (rest := [p81, p61, p41]) C85)  r90 hg89) ?_
          rintro e_ w_ ⟨rfl, C91⟩
          refine ⟨_, rfl, ?_⟩
          have C92 : Ctx _ _ _ _ F [p81, p61, p41] := Ctx.call (qs := []) (rest := [p81, p61, p41]) C85 C91
          refine WL.val (Yl.pickT (v := .bool r90) (congrArg Value.bool (decide_eq_true hc88)) rfl) ?_
          refine WL.val (Yl.assign (v := .bool r90) rfl) ?_
          cases HE87
          exact WL.done ⟨rfl, C92⟩
        · skip
          refine WL.off rfl (congrArg Value.bool (decide_eq_false hc88)) ?_
          refine WL.val (Yl.pickF (v := .bool false) (congrArg Value.bool (decide_eq_false hc88)) rfl) ?_
          refine WL.val (Yl.assign (v := .bool false) rfl) ?_
          cases HE87
          exact WL.done ⟨rfl, C85⟩
      · skip
        rintro env_ w_ ⟨ho93, C94⟩
        refine W.ret ?_
        refine thenE_r ?_
        have C95 : Ctx _ _ _ _ F [p61, p41] := Ctx.drop [] [p61, p41] C94
        have C96 : Ctx _ _ _ _ F [p41] := Ctx.drop [] [p41] C95
        have C97 : Ctx _ _ _ _ F [] := Ctx.drop [] [] C96
        cases H
        exact post_r (resE1 rfl ho93) ⟨rfl, C97⟩
    · skip
      refine W.condF (ho21.trans (congrArg Value.bool (Bool.eq_false_iff.2 hc27))) ?_
      refine W.skip ?_
      refine W.seq ?_
      refine W.region rfl ?_
      obtain ⟨A98, c99, n100, p101, w102, hn103, hy104, C105, hR106⟩ := ev_lit0 (P := Try.prog) 3 (Kd.int .i64) C26 Try.underlying22 ti3
      refine WL.val (hy104 _ _) ?_
      refine WL.val (Yl.move (v := .slice A1 n3 c2) ho22) ?_
      obtain ⟨hc107, H⟩ := guardE H
      obtain ⟨A108, c109, n110, p111, w112, hn113, hy114, C115, hR116⟩ := ev_append' (P := Try.prog) (cb := c2) 3 (Kd.int .i64) [] [] C105 hR106 hn4 hS7 C105.fro Try.underlying22 ti3 rfl zo3 (by decide) (by decide) (by simpa using hc107)
      have C117 : Ctx _ _ _ _ F [p111] := C115
      rw [List.nil_append] at hn113 hR116
      refine WL.val (hy114 _ _ _ _ rfl rfl) ?_
      obtain ⟨A118, c119, n120, p121, w122, hn123, hy124, C125, hR126⟩ := ev_lit0 (P := Try.prog) 4 Kd.bool C117 Try.underlying23 ti4
      refine WL.val (hy124 _ _) ?_
      refine WL.val (Yl.move (v := .slice A8 n10 c9) ho23) ?_
      obtain ⟨hc127, H⟩ := guardE H
      obtain ⟨A128, c129, n130, p131, w132, hn133, hy134, C135, hR136⟩ := ev_append' (P := Try.prog) (cb := c9) 4 Kd.bool [] [p111] C125 hR126 hn11 hS14 C125.fro Try.underlying23 ti4 rfl zo4 (by decide) (by decide) (by simpa using hc127)
      have C137 : Ctx _ _ _ _ F [p131, p111] := C135
      rw [List.nil_append] at hn133 hR136
      refine WL.val (hy134 _ _ _ _ rfl rfl) ?_
      refine WL.val (Yl.move (v := .int .i64 a2) ho24) ?_
      have le138 : CH.le F (CH.join F p111) := CH.le_joinL _ _
      have lp139 : CH.le p111 (CH.join F p111) := CH.le_joinR (Ctx.dis_of [p131] [] C137)
      have C140 : Ctx _ _ _ _ (CH.join F p111) [p131] := Ctx.freeze [p131] [] C137
      have le141 : CH.le (CH.join F p111) (CH.join (CH.join F p111) p131) := CH.le_joinL _ _
      have lp142 : CH.le p131 (CH.join (CH.join F p111) p131) := CH.le_joinR (Ctx.dis_of [] [] C140)
      have C143 : Ctx _ _ _ _ (CH.join (CH.join F p111) p131) [] := Ctx.freeze [] [] C140
      obtain ⟨r145, hg144, H⟩ := bindE H
      refine WL.call (args := #[.slice A108 n110 c109, .slice A128 n130 c129, .int .i64 a2]) (Yenter.fn Try.func11 (by kernel_rfl) rfl (argsE (.cons rfl (.cons rfl (.cons rfl .nil))))) (crew_Left.calls k _ (CH.join (CH.join F p111) p131) A108 c109 n110 a0 A128 c129 n130 a1 a2 (Ctx.pre (qs := []) (rest := []) C143) hn113 (Row.len_le hR116).1 (Row.len_le hR116).2.1 (Sl.mono (Row.sl hR116) (CH.le_trans le138 le141) (CH.le_trans lp139 le141)) hn133 (Row.len_le hR136).1 (Row.len_le hR136).2.1 (Sl.mono (Row.sl hR136) (CH.le_trans le138 le141) lp142) r145 hg144) ?_
      rintro e_ w_ ⟨rfl, C146⟩
      refine ⟨_, rfl, ?_⟩
      have C147 : Ctx _ _ _ _ F [p131, p111] := Ctx.callL (qs := []) (rest := [p131, p111]) C137 (CH.le_trans le138 le141) C146
      refine WL.val (Yl.assign (v := .int .i64 r145) rfl) ?_
      refine WL.done ?_
      refine W.seq ?_
      refine W.region rfl ?_
      obtain ⟨A148, c149, n150, p151, w152, hn153, hy154, C155, hR156⟩ := ev_lit0 (P := Try.prog) 3 (Kd.int .i64) C147 Try.underlying22 ti3
      refine WL.val (hy154 _ _) ?_
      refine WL.val (Yl.move (v := .slice A1 n3 c2) ho22) ?_
      obtain ⟨A157, c158, n159, p160, w161, hn162, hy163, C164, hR165⟩ := ev_append' (P := Try.prog) (cb := c2) 3 (Kd.int .i64) [] [p131, p111] C155 hR156 hn4 hS7 C155.fro Try.underlying22 ti3 rfl zo3 (by decide) (by decide) (by simpa using hc107)
      have C166 : Ctx _ _ _ _ F [p160, p131, p111] := C164
      rw [List.nil_append] at hn162 hR165
      refine WL.val (hy163 _ _ _ _ rfl rfl) ?_
      obtain ⟨A167, c168, n169, p170, w171, hn172, hy173, C174, hR175⟩ := ev_lit0 (P := Try.prog) 4 Kd.bool C166 Try.underlying23 ti4
      refine WL.val (hy173 _ _) ?_
      refine WL.val (Yl.move (v := .slice A8 n10 c9) ho23) ?_
      obtain ⟨A176, c177, n178, p179, w180, hn181, hy182, C183, hR184⟩ := ev_append' (P := Try.prog) (cb := c9) 4 Kd.bool [] [p160, p131, p111] C174 hR175 hn11 hS14 C174.fro Try.underlying23 ti4 rfl zo4 (by decide) (by decide) (by simpa using hc127)
      have C185 : Ctx _ _ _ _ F [p179, p160, p131, p111] := C183
      rw [List.nil_append] at hn181 hR184
      refine WL.val (hy182 _ _ _ _ rfl rfl) ?_
      refine WL.val (Yl.move (v := .int .i64 a2) ho24) ?_
      refine WL.val (Yl.move (v := .int .i64 a3) ho25) ?_
      have le186 : CH.le F (CH.join F p160) := CH.le_joinL _ _
      have lp187 : CH.le p160 (CH.join F p160) := CH.le_joinR (Ctx.dis_of [p179] [p131, p111] C185)
      have C188 : Ctx _ _ _ _ (CH.join F p160) [p179, p131, p111] := Ctx.freeze [p179] [p131, p111] C185
      have le189 : CH.le (CH.join F p160) (CH.join (CH.join F p160) p179) := CH.le_joinL _ _
      have lp190 : CH.le p179 (CH.join (CH.join F p160) p179) := CH.le_joinR (Ctx.dis_of [] [p131, p111] C188)
      have C191 : Ctx _ _ _ _ (CH.join (CH.join F p160) p179) [p131, p111] := Ctx.freeze [] [p131, p111] C188
      obtain ⟨⟨r193, r194⟩, hg192, H⟩ := bindE H
      refine WL.call (args := #[.slice A157 n159 c158, .slice A176 n178 c177, .int .i64 a2, .int .i64 a3]) (Yenter.fn Try.func8 (by kernel_rfl) rfl (argsE (.cons rfl (.cons rfl (.cons rfl (.cons rfl .nil)))))) (crew_Pick.calls k _ (CH.join (CH.join F p160) p179) A157 c158 n159 a0 A176 c177 n178 a1 a2 a3 (Ctx.pre (qs := []) (rest := [p131, p111]) C191) hn162 (Row.len_le hR165).1 (Row.len_le hR165).2.1 (Sl.mono (Row.sl hR165) (CH.le_trans le186 le189) (CH.le_trans lp187 le189)) hn181 (Row.len_le hR184).1 (Row.len_le hR184).2.1 (Sl.mono (Row.sl hR184) (CH.le_trans le186 le189) lp190) r193 r194 hg192) ?_
      rintro e_ w_ ⟨A195, c196, n197, p199, rfl, C201, hn198, hR200⟩
      refine ⟨_, rfl, ?_⟩
      have hR202 : Row (Kd.int .i64) F p199 (.slice A195 n197 c196) r193 := hR200
      have C203 : Ctx _ _ _ _ F [p199, p179, p160, p131, p111] := Ctx.callL (qs := []) (rest := [p179, p160, p131, p111]) C185 (CH.le_trans le186 le189) C201
      refine WL.val (Yl.move (v := .tuple #[(.slice A195 n197 c196), (.int .i64 r194)]) rfl) ?_
      refine WL.val (Yl.extract (v := .slice A195 n197 c196) rfl rfl) ?_
      refine WL.val (Yl.extract (v := .int .i64 r194) rfl rfl) ?_
      refine WL.val (Yl.assign (v := .slice A195 n197 c196) rfl) ?_
      refine WL.val (Yl.assign (v := .int .i64 r194) rfl) ?_
      refine WL.done ?_
      refine W.seq ?_
      refine W.seq ?_
      refine W.region rfl ?_
      refine WL.val (Yl.move (v := .int .i64 a3) ho25) ?_
      refine WL.val (Yl.move (v := .int .i64 r145) rfl) ?_
      refine WL.val (Yl.leq (m := a3) (n := r145) (q := decide (a3 ≤ r145)) rfl rfl rfl) ?_
      refine WL.done ?_
      rcases iteE H with ⟨hc204, H⟩ | ⟨hc204, H⟩
      · skip
        refine W.condT (congrArg Value.bool (decide_eq_true hc204)) ?_
        refine W.seq ?_
        refine W.region rfl ?_
        refine WL.val (Yl.move (v := .int .i64 r194) rfl) ?_
        refine WL.val (Yl.eql (m := r194) (n := 0) (q := decide (r194 = 0)) rfl rfl rfl) ?_
        refine WL.val (Yl.move (v := .bool (decide (r194 = 0))) rfl) ?_
        obtain ⟨g205, HE206, H⟩ := bindE H
        refine WL.cut (fun env_ w_ => env_ 8 = .bool g205 ∧ Ctx w F D w_ F [p199, p179, p160, p131, p111]) ?_ ?_
        · skip
          rcases iteE HE206 with ⟨hc207, HE206⟩ | ⟨hc207, HE206⟩
          · skip
            refine WL.on rfl (congrArg Value.bool (decide_eq_true hc207)) ?_
            refine WL.val (Yl.move (v := .slice A195 n197 c196) rfl) ?_
            refine WL.on rfl (congrArg Value.bool (decide_eq_true hc207)) ?_
            refine WL.val (Yl.lenN (A := A195) (l := n197) (q := c196) (n := (r193.length : Int)) rfl Try.underlying22 (by omega)) ?_
            refine WL.on rfl (congrArg Value.bool (decide_eq_true hc207)) ?_
            refine WL.val (Yl.move (v := .int .i64 a3) ho25) ?_
            refine WL.on rfl (congrArg Value.bool (decide_eq_true hc207)) ?_
            refine WL.val (Yl.eql (m := (r193.length : Int)) (n := a3) (q := decide ((r193.length : Int) = a3)) rfl rfl rfl) ?_
            refine WL.val (Yl.pickT (v := .bool (decide ((r193.length : Int) = a3))) (congrArg Value.bool (decide_eq_true hc207)) rfl) ?_
            refine WL.val (Yl.move (v := .bool (decide ((r193.length : Int) = a3))) rfl) ?_
            rcases iteE HE206 with ⟨hc208, HE206⟩ | ⟨hc208, HE206⟩
            · skip
              refine WL.on rfl (congrArg Value.bool (decide_eq_true hc208)) ?_
              obtain ⟨r210, hg209, HE206⟩ := bindE HE206
              refine WL.call (args := #[]) (Yenter.fn Try.func7 (by kernel_rfl) rfl (argsE .nil)) (juratlaw18_awake.calls k _ F  (Ctx.pre (qs := []) (rest := [p199, p179, p160, p131, p111]) C203)  r210 hg209) ?_
              rintro e_ w_ ⟨rfl, C211⟩
              refine ⟨_, rfl, ?_⟩
              have C212 : Ctx _ _ _ _ F [p199, p179, p160, p131, p111] := Ctx.call (qs := []) (rest := [p199, p179, p160, p131, p111]) C203 C211
              refine WL.val (Yl.pickT (v := .bool r210) (congrArg Value.bool (decide_eq_true hc208)) rfl) ?_
              refine WL.val (Yl.assign (v := .bool r210) rfl) ?_
              cases HE206
              exact WL.done ⟨rfl, C212⟩
            · skip
              refine WL.off rfl (congrArg Value.bool (decide_eq_false hc208)) ?_
              refine WL.val (Yl.pickF (v := .bool false) (congrArg Value.bool (decide_eq_false hc208)) rfl) ?_
              refine WL.val (Yl.assign (v := .bool false) rfl) ?_
              cases HE206
              exact WL.done ⟨rfl, C203⟩
          · skip
            refine WL.off rfl (congrArg Value.bool (decide_eq_false hc207)) ?_
            refine WL.off rfl (congrArg Value.bool (decide_eq_false hc207)) ?_
            refine WL.off rfl (congrArg Value.bool (decide_eq_false hc207)) ?_
            refine WL.off rfl (congrArg Value.bool (decide_eq_false hc207)) ?_
            refine WL.val (Yl.pickF (v := .bool false) (congrArg Value.bool (decide_eq_false hc207)) rfl) ?_
            refine WL.val (Yl.move (v := .bool false) rfl) ?_
            refine WL.off rfl rfl ?_
            refine WL.val (Yl.pickF (v := .bool false) rfl rfl) ?_
            refine WL.val (Yl.assign (v := .bool false) rfl) ?_
            cases HE206
            exact WL.done ⟨rfl, C203⟩
        · skip
          rintro env_ w_ ⟨ho213, C214⟩
          refine W.ret ?_
          refine thenE_r ?_
          have C215 : Ctx _ _ _ _ F [p179, p160, p131, p111] := Ctx.drop [] [p179, p160, p131, p111] C214
          have C216 : Ctx _ _ _ _ F [p160, p131, p111] := Ctx.drop [] [p160, p131, p111] C215
          have C217 : Ctx _ _ _ _ F [p131, p111] := Ctx.drop [] [p131, p111] C216
          have C218 : Ctx _ _ _ _ F [p111] := Ctx.drop [] [p111] C217
          have C219 : Ctx _ _ _ _ F [] := Ctx.drop [] [] C218
          cases H
          exact post_r (resE1 rfl ho213) ⟨rfl, C219⟩
      · skip
        refine W.condF (congrArg Value.bool (decide_eq_false hc204)) ?_
        refine W.skip ?_
        refine W.seq ?_
        refine W.region rfl ?_
        refine WL.val (Yl.move (v := .int .i64 r194) rfl) ?_
        refine WL.val (Yl.eql (m := r194) (n := 70) (q := decide (r194 = 70)) rfl rfl rfl) ?_
        refine WL.val (Yl.move (v := .bool (decide (r194 = 70))) rfl) ?_
        obtain ⟨g220, HE221, H⟩ := bindE H
        refine WL.cut (fun env_ w_ => env_ 8 = .bool g220 ∧ Ctx w F D w_ F [p199, p179, p160, p131, p111]) ?_ ?_
        · skip
          rcases iteE HE221 with ⟨hc222, HE221⟩ | ⟨hc222, HE221⟩
          · skip
            refine WL.off rfl (congrArg Value.bool (decide_eq_true hc222)) ?_
            refine WL.off rfl (congrArg Value.bool (decide_eq_true hc222)) ?_
            refine WL.val (Yl.pickT (v := .bool true) (congrArg Value.bool (decide_eq_true hc222)) rfl) ?_
            refine WL.val (Yl.move (v := .bool true) rfl) ?_
            refine WL.on rfl rfl ?_
            refine WL.val (Yl.move (v := .slice A195 n197 c196) rfl) ?_
            refine WL.on rfl rfl ?_
            refine WL.val (Yl.lenN (A := A195) (l := n197) (q := c196) (n := (r193.length : Int)) rfl Try.underlying22 (by omega)) ?_
            refine WL.on rfl rfl ?_
            refine WL.val (Yl.eql (m := (r193.length : Int)) (n := 0) (q := decide ((r193.length : Int) = 0)) rfl rfl rfl) ?_
            refine WL.val (Yl.pickT (v := .bool (decide ((r193.length : Int) = 0))) rfl rfl) ?_
            refine WL.val (Yl.move (v := .bool (decide ((r193.length : Int) = 0))) rfl) ?_
            rcases iteE HE221 with ⟨hc223, HE221⟩ | ⟨hc223, HE221⟩
            · skip
              refine WL.on rfl (congrArg Value.bool (decide_eq_true hc223)) ?_
              obtain ⟨r225, hg224, HE221⟩ := bindE HE221
              refine WL.call (args := #[]) (Yenter.fn Try.func7 (by kernel_rfl) rfl (argsE .nil)) (juratlaw18_awake.calls k _ F  (Ctx.pre (qs := []) (rest := [p199, p179, p160, p131, p111]) C203)  r225 hg224) ?_
              rintro e_ w_ ⟨rfl, C226⟩
              refine ⟨_, rfl, ?_⟩
              have C227 : Ctx _ _ _ _ F [p199, p179, p160, p131, p111] := Ctx.call (qs := []) (rest := [p199, p179, p160, p131, p111]) C203 C226
              refine WL.val (Yl.pickT (v := .bool r225) (congrArg Value.bool (decide_eq_true hc223)) rfl) ?_
              refine WL.val (Yl.assign (v := .bool r225) rfl) ?_
              cases HE221
              exact WL.done ⟨rfl, C227⟩
            · skip
              refine WL.off rfl (congrArg Value.bool (decide_eq_false hc223)) ?_
              refine WL.val (Yl.pickF (v := .bool false) (congrArg Value.bool (decide_eq_false hc223)) rfl) ?_
              refine WL.val (Yl.assign (v := .bool false) rfl) ?_
              cases HE221
              exact WL.done ⟨rfl, C203⟩
          · skip
            refine WL.on rfl (congrArg Value.bool (decide_eq_false hc222)) ?_
            refine WL.val (Yl.move (v := .int .i64 r194) rfl) ?_
            refine WL.on rfl (congrArg Value.bool (decide_eq_false hc222)) ?_
            refine WL.val (Yl.eql (m := r194) (n := 180) (q := decide (r194 = 180)) rfl rfl rfl) ?_
            refine WL.val (Yl.pickF (v := .bool (decide (r194 = 180))) (congrArg Value.bool (decide_eq_false hc222)) rfl) ?_
            refine WL.val (Yl.move (v := .bool (decide (r194 = 180))) rfl) ?_
            rcases iteE HE221 with ⟨hc228, HE221⟩ | ⟨hc228, HE221⟩
            · skip
              refine WL.on rfl (congrArg Value.bool (decide_eq_true hc228)) ?_
              refine WL.val (Yl.move (v := .slice A195 n197 c196) rfl) ?_
              refine WL.on rfl (congrArg Value.bool (decide_eq_true hc228)) ?_
              refine WL.val (Yl.lenN (A := A195) (l := n197) (q := c196) (n := (r193.length : Int)) rfl Try.underlying22 (by omega)) ?_
              refine WL.on rfl (congrArg Value.bool (decide_eq_true hc228)) ?_
              refine WL.val (Yl.eql (m := (r193.length : Int)) (n := 0) (q := decide ((r193.length : Int) = 0)) rfl rfl rfl) ?_
              refine WL.val (Yl.pickT (v := .bool (decide ((r193.length : Int) = 0))) (congrArg Value.bool (decide_eq_true hc228)) rfl) ?_
              refine WL.val (Yl.move (v := .bool (decide ((r193.length : Int) = 0))) rfl) ?_
              rcases iteE HE221 with ⟨hc229, HE221⟩ | ⟨hc229, HE221⟩
              · skip
                refine WL.on rfl (congrArg Value.bool (decide_eq_true hc229)) ?_
                obtain ⟨r231, hg230, HE221⟩ := bindE HE221
                refine WL.call (args := #[]) (Yenter.fn Try.func7 (by kernel_rfl) rfl (argsE .nil)) (juratlaw18_awake.calls k _ F  (Ctx.pre (qs := []) (rest := [p199, p179, p160, p131, p111]) C203)  r231 hg230) ?_
                rintro e_ w_ ⟨rfl, C232⟩
                refine ⟨_, rfl, ?_⟩
                have C233 : Ctx _ _ _ _ F [p199, p179, p160, p131, p111] := Ctx.call (qs := []) (rest := [p199, p179, p160, p131, p111]) C203 C232
                refine WL.val (Yl.pickT (v := .bool r231) (congrArg Value.bool (decide_eq_true hc229)) rfl) ?_
                refine WL.val (Yl.assign (v := .bool r231) rfl) ?_
                cases HE221
                exact WL.done ⟨rfl, C233⟩
              · skip
                refine WL.off rfl (congrArg Value.bool (decide_eq_false hc229)) ?_
                refine WL.val (Yl.pickF (v := .bool false) (congrArg Value.bool (decide_eq_false hc229)) rfl) ?_
                refine WL.val (Yl.assign (v := .bool false) rfl) ?_
                cases HE221
                exact WL.done ⟨rfl, C203⟩
            · skip
              refine WL.off rfl (congrArg Value.bool (decide_eq_false hc228)) ?_
              refine WL.off rfl (congrArg Value.bool (decide_eq_false hc228)) ?_
              refine WL.off rfl (congrArg Value.bool (decide_eq_false hc228)) ?_
              refine WL.val (Yl.pickF (v := .bool false) (congrArg Value.bool (decide_eq_false hc228)) rfl) ?_
              refine WL.val (Yl.move (v := .bool false) rfl) ?_
              refine WL.off rfl rfl ?_
              refine WL.val (Yl.pickF (v := .bool false) rfl rfl) ?_
              refine WL.val (Yl.assign (v := .bool false) rfl) ?_
              cases HE221
              exact WL.done ⟨rfl, C203⟩
        · skip
          rintro env_ w_ ⟨ho234, C235⟩
          refine W.ret ?_
          have C236 : Ctx _ _ _ _ F [p179, p160, p131, p111] := Ctx.drop [] [p179, p160, p131, p111] C235
          have C237 : Ctx _ _ _ _ F [p160, p131, p111] := Ctx.drop [] [p160, p131, p111] C236
          have C238 : Ctx _ _ _ _ F [p131, p111] := Ctx.drop [] [p131, p111] C237
          have C239 : Ctx _ _ _ _ F [p111] := Ctx.drop [] [p111] C238
          have C240 : Ctx _ _ _ _ F [] := Ctx.drop [] [] C239
          cases H
          exact post_r (resE1 rfl ho234) ⟨rfl, C240⟩
end Go.Proofs.Ytcmoclekbifhbaa
