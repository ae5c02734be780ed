/- Functions of the program: each as a plain function of numbers and lists, and the proof that the program's own comes to it. Nothing is assumed but what each theorem says. -/
import Derived.Test.YtcmoclekbifhbaaGb
namespace Go.Proofs.Ytcmoclekbifhbaa
open Go.RowKit Go.WG
set_option linter.unusedVariables false
set_option linter.unusedSimpArgs false

/-! ### jurat/juratlaw18.awake: function 7 -/
def juratlaw18_awake.f (k : Nat)  : Option Bool := if 0 ≤ (4 : Int) ∧ (4 : Int) * 1 ≤ 140737488355328 then ((crew_Pick.f k [1, 0, 0, 2] (List.replicate (4 : Int).toNat (false : Bool)) 4 3).bind fun ⟨r27, r28⟩ => (if r28 = 0 then ((juratref18_Same.f k r27 [1, 2, 0]).bind fun r57 => some (r57)) else (some (false))).bind fun g38 => some g38) else none
set_option maxRecDepth 100000 in
set_option maxHeartbeats 4000000 in
theorem juratlaw18_awake.calls (k : Nat) (w : World) (F : CH)  (hp : Pre w F [])  (r0_ : Bool) (H : juratlaw18_awake.f k  = some r0_) :
    Calls Try.prog 7 #[] w fun e w' => e = .returned (.bool r0_) ∧ Ctx w F (domL []) w' F [] := by
  have C := Ctx.start hp
  generalize hD : domL [] = D at C ⊢
  unfold juratlaw18_awake.f at H
  refine Calls.ofW Try.func7 rfl (by simp [Try.ntmps7]) ?_
  refine W.seq ?_
  refine W.region rfl ?_
  refine WL.val (Yl.assign (v := .bool false) rfl) ?_
  refine WL.done ?_
  refine W.seq ?_
  refine W.region rfl ?_
  obtain ⟨A1, c2, n3, p4, w5, hn6, hy7, C8, hR9⟩ := ev_lit' (P := Try.prog) 3 (Kd.int .i64) C Try.underlying22 ti3 (by decide) [1, 0, 0, 2] [.int .i64 1, .int .i64 0, .int .i64 0, .int .i64 2] (.cons rfl (.cons rfl (.cons rfl (.cons rfl .nil)))) 4 rfl (by decide) (by decide)
  refine WL.val (hy7 _ [(.const (Value.int (IntKind.i64) (1))), (.const (Value.int (IntKind.i64) (0))), (.const (Value.int (IntKind.i64) (0))), (.const (Value.int (IntKind.i64) (2)))] _ (.cons rfl (.cons rfl (.cons rfl (.cons rfl .nil))))) ?_
  obtain ⟨hc10, H⟩ := guardE H
  obtain ⟨A11, c12, n13, p14, w15, hn16, hy17, C18, hR19⟩ := ev_make' (P := Try.prog) 4 Kd.bool C8 Try.underlying23 ti4 false rfl (by decide) 4 hc10
  refine WL.val (hy17 _ _ _ _ _ _ rfl rfl) ?_
  have le20 : CH.le F (CH.join F p4) := CH.le_joinL _ _
  have lp21 : CH.le p4 (CH.join F p4) := CH.le_joinR (Ctx.dis_of [p14] [] C18)
  have C22 : Ctx _ _ _ _ (CH.join F p4) [p14] := Ctx.freeze [p14] [] C18
  have le23 : CH.le (CH.join F p4) (CH.join (CH.join F p4) p14) := CH.le_joinL _ _
  have lp24 : CH.le p14 (CH.join (CH.join F p4) p14) := CH.le_joinR (Ctx.dis_of [] [] C22)
  have C25 : Ctx _ _ _ _ (CH.join (CH.join F p4) p14) [] := Ctx.freeze [] [] C22
  obtain ⟨⟨r27, r28⟩, hg26, H⟩ := bindE H
  refine WL.call (args := #[.slice A1 n3 c2, .slice A11 n13 c12, .int .i64 4, .int .i64 3]) (Yenter.fn Try.func8 (by kernel_rfl) rfl (argsE (.cons rfl (.cons rfl (.cons rfl (.cons rfl .nil)))))) (crew_Pick.calls k _ (CH.join (CH.join F p4) p14) A1 c2 n3 [1, 0, 0, 2] A11 c12 n13 (List.replicate (4 : Int).toNat (false : Bool)) 4 3 (Ctx.pre (qs := []) (rest := []) C25) hn6 (Row.len_le hR9).1 (Row.len_le hR9).2.1 (Sl.mono (Row.sl hR9) (CH.le_trans le20 le23) (CH.le_trans lp21 le23)) hn16 (Row.len_le hR19).1 (Row.len_le hR19).2.1 (Sl.mono (Row.sl hR19) (CH.le_trans le20 le23) lp24) r27 r28 hg26) ?_
  rintro e_ w_ ⟨A29, c30, n31, p33, rfl, C35, hn32, hR34⟩
  refine ⟨_, rfl, ?_⟩
  have hR36 : Row (Kd.int .i64) F p33 (.slice A29 n31 c30) r27 := hR34
  have C37 : Ctx _ _ _ _ F [p33, p14, p4] := Ctx.callL (qs := []) (rest := [p14, p4]) C18 (CH.le_trans le20 le23) C35
  refine WL.val (Yl.move (v := .tuple #[(.slice A29 n31 c30), (.int .i64 r28)]) rfl) ?_
  refine WL.val (Yl.extract (v := .slice A29 n31 c30) rfl rfl) ?_
  refine WL.val (Yl.extract (v := .int .i64 r28) rfl rfl) ?_
  refine WL.val (Yl.assign (v := .slice A29 n31 c30) rfl) ?_
  refine WL.val (Yl.assign (v := .int .i64 r28) rfl) ?_
  refine WL.done ?_
  refine W.seq ?_
  refine W.region rfl ?_
  refine WL.val (Yl.move (v := .int .i64 r28) rfl) ?_
  refine WL.val (Yl.eql (m := r28) (n := 0) (q := decide (r28 = 0)) rfl rfl rfl) ?_
  refine WL.val (Yl.move (v := .bool (decide (r28 = 0))) rfl) ?_
  obtain ⟨g38, HE39, H⟩ := bindE H
  refine WL.cut (fun env_ w_ => env_ 0 = .bool g38 ∧ Ctx w F D w_ F [p33, p14, p4]) ?_ ?_
  · skip
    rcases iteE HE39 with ⟨hc40, HE39⟩ | ⟨hc40, HE39⟩
    · skip
      refine WL.on rfl (congrArg Value.bool (decide_eq_true hc40)) ?_
      refine WL.val (Yl.move (v := .slice A29 n31 c30) rfl) ?_
      refine WL.on rfl (congrArg Value.bool (decide_eq_true hc40)) ?_
      obtain ⟨A41, c42, n43, p44, w45, hn46, hy47, C48, hR49⟩ := ev_lit' (P := Try.prog) 3 (Kd.int .i64) C37 Try.underlying22 ti3 (by decide) [1, 2, 0] [.int .i64 1, .int .i64 2, .int .i64 0] (.cons rfl (.cons rfl (.cons rfl .nil))) 3 rfl (by decide) (by decide)
      refine WL.val (hy47 _ [(.const (Value.int (IntKind.i64) (1))), (.const (Value.int (IntKind.i64) (2))), (.const (Value.int (IntKind.i64) (0)))] _ (.cons rfl (.cons rfl (.cons rfl .nil)))) ?_
      refine WL.on rfl (congrArg Value.bool (decide_eq_true hc40)) ?_
      have le50 : CH.le F (CH.join F p33) := CH.le_joinL _ _
      have lp51 : CH.le p33 (CH.join F p33) := CH.le_joinR (Ctx.dis_of [p44] [p14, p4] C48)
      have C52 : Ctx _ _ _ _ (CH.join F p33) [p44, p14, p4] := Ctx.freeze [p44] [p14, p4] C48
      have le53 : CH.le (CH.join F p33) (CH.join (CH.join F p33) p44) := CH.le_joinL _ _
      have lp54 : CH.le p44 (CH.join (CH.join F p33) p44) := CH.le_joinR (Ctx.dis_of [] [p14, p4] C52)
      have C55 : Ctx _ _ _ _ (CH.join (CH.join F p33) p44) [p14, p4] := Ctx.freeze [] [p14, p4] C52
      obtain ⟨r57, hg56, HE39⟩ := bindE HE39
      refine WL.call (args := #[.slice A29 n31 c30, .slice A41 n43 c42]) (Yenter.fn Try.func10 (by kernel_rfl) rfl (argsE (.cons rfl (.cons rfl .nil)))) (juratref18_Same.calls k _ (CH.join (CH.join F p33) p44) A29 c30 n31 r27 A41 c42 n43 [1, 2, 0] C55.pre0 hn32 (Row.len_le hR36).1 (Row.len_le hR36).2.1 (Sl.mono (Row.sl hR36) (CH.le_trans le50 le53) (CH.le_trans lp51 le53)) hn46 (Row.len_le hR49).1 (Row.len_le hR49).2.1 (Sl.mono (Row.sl hR49) (CH.le_trans le50 le53) lp54) r57 hg56) ?_
      rintro e_ w_ ⟨rfl, ⟨m58, rfl⟩⟩
      refine ⟨_, rfl, ?_⟩
      have C59 := Ctx.drewN C48 m58
      refine WL.val (Yl.pickT (v := .bool r57) (congrArg Value.bool (decide_eq_true hc40)) rfl) ?_
      refine WL.val (Yl.assign (v := .bool r57) rfl) ?_
      cases HE39
      have C60 : Ctx _ _ _ _ F [p33, p14, p4] := Ctx.drop [] [p33, p14, p4] C59
      exact WL.done ⟨rfl, C60⟩
    · skip
      refine WL.off rfl (congrArg Value.bool (decide_eq_false hc40)) ?_
      refine WL.off rfl (congrArg Value.bool (decide_eq_false hc40)) ?_
      refine WL.off rfl (congrArg Value.bool (decide_eq_false hc40)) ?_
      refine WL.val (Yl.pickF (v := .bool false) (congrArg Value.bool (decide_eq_false hc40)) rfl) ?_
      refine WL.val (Yl.assign (v := .bool false) rfl) ?_
      cases HE39
      exact WL.done ⟨rfl, C37⟩
  · skip
    rintro env_ w_ ⟨ho61, C62⟩
    refine W.ret ?_
    have C63 : Ctx _ _ _ _ F [p14, p4] := Ctx.drop [] [p14, p4] C62
    have C64 : Ctx _ _ _ _ F [p4] := Ctx.drop [] [p4] C63
    have C65 : Ctx _ _ _ _ F [] := Ctx.drop [] [] C64
    cases H
    exact post_r (resE1 rfl ho61) ⟨rfl, C65⟩
/-! ### jurat/juratlaw18.CrewRight: function 3 -/
def juratlaw18_CrewRight.l1 : Nat → List Int → List Bool → Int → Int → List Int → Int → List Bool → Int → Option (Sum (Int × (List Bool)) Bool)
  | 0, _, _, _, _, _, _, _, _ => none
  | k + 1, a0, a1, a2, a3, r76, x449, x451, x459 => if x459 < a3 then (if 0 ≤ x459 ∧ x459 < (r76.length : Int) then ((if (r76.getD x459.toNat 0) < 0 then (some (true)) else (if (r76.getD x459.toNat 0) ≥ (a0.length : Int) then (some (true)) else (if 0 ≤ (r76.getD x459.toNat 0) ∧ (r76.getD x459.toNat 0) < (a1.length : Int) then (if (a1.getD (r76.getD x459.toNat 0).toNat false) = true then (some (true)) else (if 0 ≤ (r76.getD x459.toNat 0) ∧ (r76.getD x459.toNat 0) < (a0.length : Int) then (if (a0.getD (r76.getD x459.toNat 0).toNat 0) ≥ a2 then (some (true)) else (if 0 ≤ (r76.getD x459.toNat 0) ∧ (r76.getD x459.toNat 0) < (x451.length : Int) then (some (x451.getD (r76.getD x459.toNat 0).toNat false)) else none)) else none)) else none))).bind fun g543 => if g543 = true then (some (Sum.inr false)) else (if 0 ≤ (r76.getD x459.toNat 0) ∧ (r76.getD x459.toNat 0) < (x451.length : Int) then (if 0 ≤ (r76.getD x459.toNat 0) ∧ (r76.getD x459.toNat 0) < (a0.length : Int) then (juratlaw18_CrewRight.l1 k a0 a1 a2 a3 r76 (if (a0.getD (r76.getD x459.toNat 0).toNat 0) > x449 then a0.getD (r76.getD x459.toNat 0).toNat 0 else x449) (x451.set (r76.getD x459.toNat 0).toNat true) (wi64 (x459 + 1))) else none) else none)) else none) else (some (Sum.inl (x449, x451)))
def juratlaw18_CrewRight.l2 : Nat → List Int → List Bool → Int → List Bool → Int → Option (Sum Unit Bool)
  | 0, _, _, _, _, _ => none
  | k + 1, a0, a1, x348, x350, x700 => if x700 < (a0.length : Int) then (if 0 ≤ x700 ∧ x700 < (a1.length : Int) then ((if (a1.getD x700.toNat false) = true then (some (false)) else (if 0 ≤ x700 ∧ x700 < (x350.length : Int) then (if (x350.getD x700.toNat false) = true then (some (false)) else (if 0 ≤ x700 ∧ x700 < (a0.length : Int) then (some (decide ((a0.getD x700.toNat 0) < x348))) else none)) else none)).bind fun g749 => if g749 = true then (some (Sum.inr false)) else (juratlaw18_CrewRight.l2 k a0 a1 x348 x350 (wi64 (x700 + 1)))) else none) else (some (Sum.inl ()))
def juratlaw18_CrewRight.f (k : Nat) (a0 : List Int) (a1 : List Bool) (a2 : Int) (a3 : Int) : Option Bool := (if (a0.length : Int) > 8 then (some (true)) else (some (decide ((a1.length : Int) > 8)))).bind fun g15 => if g15 = true then ((juratlaw18_awake.f k ).bind fun r26 => some r26) else (if a0.length * 8 ≤ 140737488355328 then (if a1.length * 1 ≤ 140737488355328 then ((crew_Pick.f k a0 a1 a2 a3).bind fun ⟨r76, r77⟩ => if r77 = 0 then (if (r76.length : Int) = a3 then (if 0 ≤ (8 : Int) ∧ (8 : Int) * 1 ≤ 140737488355328 then ((juratlaw18_CrewRight.l1 k a0 a1 a2 a3 r76 0 (List.replicate (8 : Int).toNat (false : Bool)) 0).bind fun o_ => sumE o_ (fun ⟨x348, x350⟩ => (juratlaw18_CrewRight.l2 k a0 a1 x348 x350 0).bind fun o_ => sumE o_ (fun _ => (juratlaw18_awake.f k ).bind fun r782 => some r782) (fun p_ => some p_)) (fun p_ => some p_)) else none) else (some false)) else ((if (r76.length : Int) = 0 then ((juratlaw18_awake.f k ).bind fun r796 => some (r796)) else (some (false))).bind fun g792 => some g792)) else none) else none)
set_option maxRecDepth 100000 in
set_option maxHeartbeats 4000000 in
theorem juratlaw18_CrewRight.calls (k : Nat) (w : World) (F : CH) (A1 : Option Addr) (c2 : Nat) (n3 : Nat) (a0 : List Int) (A8 : Option Addr) (c9 : Nat) (n10 : Nat) (a1 : List Bool) (a2 : Int) (a3 : Int) (hp : Pre w F []) (hn4 : n3 = a0.length) (hl5 : a0.length ≤ c2) (hm6 : c2 ≤ maxLen) (hS7 : Sl (Kd.int .i64) F F A1 a0) (hn11 : n10 = a1.length) (hl12 : a1.length ≤ c9) (hm13 : c9 ≤ maxLen) (hS14 : Sl Kd.bool F F A8 a1) (r0_ : Bool) (H : juratlaw18_CrewRight.f k a0 a1 a2 a3 = some r0_) :
    Calls Try.prog 3 #[.slice A1 n3 c2, .slice A8 n10 c9, .int .i64 a2, .int .i64 a3] w fun e w' => e = .returned (.bool r0_) ∧ Ctx w F (domL []) w' F [] := by
  have C := Ctx.start hp
  generalize hD : domL [] = D at C ⊢
  unfold juratlaw18_CrewRight.f at H
  refine Calls.ofW Try.func3 rfl (by simp [Try.ntmps3]) ?_
  refine W.seq ?_
  refine W.region rfl ?_
  refine WL.val (Yl.assign (v := .bool false) rfl) ?_
  refine WL.done ?_
  refine W.seq ?_
  refine W.seq ?_
  refine W.region rfl ?_
  refine WL.val (Yl.move (v := .slice A1 n3 c2) rfl) ?_
  refine WL.val (Yl.lenN (A := A1) (l := n3) (q := c2) (n := (a0.length : Int)) rfl Try.underlying22 (by omega)) ?_
  refine WL.val (Yl.gtr (m := (a0.length : Int)) (n := 8) (q := decide ((a0.length : Int) > 8)) rfl rfl rfl) ?_
  refine WL.val (Yl.move (v := .bool (decide ((a0.length : Int) > 8))) rfl) ?_
  obtain ⟨g15, HE16, H⟩ := bindE H
  refine WL.cut (fun env_ w_ => env_ 23 = .bool g15 ∧ env_ 0 = .slice A1 n3 c2 ∧ env_ 1 = .slice A8 n10 c9 ∧ env_ 2 = .int .i64 a2 ∧ env_ 3 = .int .i64 a3 ∧ Ctx w F D w_ F []) ?_ ?_
  · skip
    rcases iteE HE16 with ⟨hc17, HE16⟩ | ⟨hc17, HE16⟩
    · skip
      refine WL.off rfl (congrArg Value.bool (decide_eq_true hc17)) ?_
      refine WL.off rfl (congrArg Value.bool (decide_eq_true hc17)) ?_
      refine WL.off rfl (congrArg Value.bool (decide_eq_true hc17)) ?_
      refine WL.val (Yl.pickT (v := .bool true) (congrArg Value.bool (decide_eq_true hc17)) rfl) ?_
      cases HE16
      exact WL.done ⟨rfl, rfl, rfl, rfl, rfl, C⟩
    · skip
      refine WL.on rfl (congrArg Value.bool (decide_eq_false hc17)) ?_
      refine WL.val (Yl.move (v := .slice A8 n10 c9) rfl) ?_
      refine WL.on rfl (congrArg Value.bool (decide_eq_false hc17)) ?_
      refine WL.val (Yl.lenN (A := A8) (l := n10) (q := c9) (n := (a1.length : Int)) rfl Try.underlying23 (by omega)) ?_
      refine WL.on rfl (congrArg Value.bool (decide_eq_false hc17)) ?_
      refine WL.val (Yl.gtr (m := (a1.length : Int)) (n := 8) (q := decide ((a1.length : Int) > 8)) rfl rfl rfl) ?_
      refine WL.val (Yl.pickF (v := .bool (decide ((a1.length : Int) > 8))) (congrArg Value.bool (decide_eq_false hc17)) rfl) ?_
      cases HE16
      exact WL.done ⟨rfl, rfl, rfl, rfl, rfl, C⟩
  · skip
    rintro env_ w_ ⟨ho18, ho19, ho20, ho21, ho22, C23⟩
    rcases iteE H with ⟨hc24, H⟩ | ⟨hc24, H⟩
    · skip
      refine W.condT (ho18.trans (congrArg Value.bool hc24)) ?_
      refine W.seq ?_
      refine W.region rfl ?_
      obtain ⟨r26, hg25, H⟩ := bindE H
      refine WL.call (args := #[]) (Yenter.fn Try.func7 (by kernel_rfl) rfl (argsE .nil)) (juratlaw18_awake.calls k _ F  (Ctx.pre (qs := []) (rest := []) C23)  r26 hg25) ?_
      rintro e_ w_ ⟨rfl, C27⟩
      refine ⟨_, rfl, ?_⟩
      have C28 : Ctx _ _ _ _ F [] := Ctx.call (qs := []) (rest := []) C23 C27
      refine WL.val (Yl.assign (v := .bool r26) rfl) ?_
      refine WL.done ?_
      refine W.ret ?_
      refine thenE_r ?_
      cases H
      exact post_r (resE1 rfl rfl) ⟨rfl, C28⟩
    · skip
      refine W.condF (ho18.trans (congrArg Value.bool (Bool.eq_false_iff.2 hc24))) ?_
      refine W.skip ?_
      refine W.seq ?_
      refine W.region rfl ?_
      obtain ⟨A29, c30, n31, p32, w33, hn34, hy35, C36, hR37⟩ := ev_lit0 (P := Try.prog) 3 (Kd.int .i64) C23 Try.underlying22 ti3
      refine WL.val (hy35 _ _) ?_
      refine WL.val (Yl.move (v := .slice A1 n3 c2) ho19) ?_
      obtain ⟨hc38, H⟩ := guardE H
      obtain ⟨A39, c40, n41, p42, w43, hn44, hy45, C46, hR47⟩ := ev_append' (P := Try.prog) (cb := c2) 3 (Kd.int .i64) [] [] C36 hR37 hn4 hS7 C36.fro Try.underlying22 ti3 rfl zo3 (by decide) (by decide) (by simpa using hc38)
      have C48 : Ctx _ _ _ _ F [p42] := C46
      rw [List.nil_append] at hn44 hR47
      refine WL.val (hy45 _ _ _ _ rfl rfl) ?_
      obtain ⟨A49, c50, n51, p52, w53, hn54, hy55, C56, hR57⟩ := ev_lit0 (P := Try.prog) 4 Kd.bool C48 Try.underlying23 ti4
      refine WL.val (hy55 _ _) ?_
      refine WL.val (Yl.move (v := .slice A8 n10 c9) ho20) ?_
      obtain ⟨hc58, H⟩ := guardE H
      obtain ⟨A59, c60, n61, p62, w63, hn64, hy65, C66, hR67⟩ := ev_append' (P := Try.prog) (cb := c9) 4 Kd.bool [] [p42] C56 hR57 hn11 hS14 C56.fro Try.underlying23 ti4 rfl zo4 (by decide) (by decide) (by simpa using hc58)
      have C68 : Ctx _ _ _ _ F [p62, p42] := C66
      rw [List.nil_append] at hn64 hR67
      refine WL.val (hy65 _ _ _ _ rfl rfl) ?_
      refine WL.val (Yl.move (v := .int .i64 a2) ho21) ?_
      refine WL.val (Yl.move (v := .int .i64 a3) ho22) ?_
      have le69 : CH.le F (CH.join F p42) := CH.le_joinL _ _
      have lp70 : CH.le p42 (CH.join F p42) := CH.le_joinR (Ctx.dis_of [p62] [] C68)
      have C71 : Ctx _ _ _ _ (CH.join F p42) [p62] := Ctx.freeze [p62] [] C68
      have le72 : CH.le (CH.join F p42) (CH.join (CH.join F p42) p62) := CH.le_joinL _ _
      have lp73 : CH.le p62 (CH.join (CH.join F p42) p62) := CH.le_joinR (Ctx.dis_of [] [] C71)
      have C74 : Ctx _ _ _ _ (CH.join (CH.join F p42) p62) [] := Ctx.freeze [] [] C71
      obtain ⟨⟨r76, r77⟩, hg75, H⟩ := bindE H
      refine WL.call (args := #[.slice A39 n41 c40, .slice A59 n61 c60, .int .i64 a2, .int .i64 a3]) (Yenter.fn Try.func8 (by kernel_rfl) rfl (argsE (.cons rfl (.cons rfl (.cons rfl (.cons rfl .nil)))))) (crew_Pick.calls k _ (CH.join (CH.join F p42) p62) A39 c40 n41 a0 A59 c60 n61 a1 a2 a3 (Ctx.pre (qs := []) (rest := []) C74) hn44 (Row.len_le hR47).1 (Row.len_le hR47).2.1 (Sl.mono (Row.sl hR47) (CH.le_trans le69 le72) (CH.le_trans lp70 le72)) hn64 (Row.len_le hR67).1 (Row.len_le hR67).2.1 (Sl.mono (Row.sl hR67) (CH.le_trans le69 le72) lp73) r76 r77 hg75) ?_
      rintro e_ w_ ⟨A78, c79, n80, p82, rfl, C84, hn81, hR83⟩
      refine ⟨_, rfl, ?_⟩
      have hR85 : Row (Kd.int .i64) F p82 (.slice A78 n80 c79) r76 := hR83
      have C86 : Ctx _ _ _ _ F [p82, p62, p42] := Ctx.callL (qs := []) (rest := [p62, p42]) C68 (CH.le_trans le69 le72) C84
      refine WL.val (Yl.move (v := .tuple #[(.slice A78 n80 c79), (.int .i64 r77)]) rfl) ?_
      refine WL.val (Yl.extract (v := .slice A78 n80 c79) rfl rfl) ?_
      refine WL.val (Yl.extract (v := .int .i64 r77) rfl rfl) ?_
      refine WL.val (Yl.assign (v := .slice A78 n80 c79) rfl) ?_
      refine WL.val (Yl.assign (v := .int .i64 r77) rfl) ?_
      refine WL.done ?_
      refine W.seq ?_
      refine W.seq ?_
      refine W.region rfl ?_
      refine WL.val (Yl.move (v := .int .i64 r77) rfl) ?_
      refine WL.val (Yl.neq (m := r77) (n := 0) (q := !decide (r77 = 0)) rfl rfl rfl) ?_
      refine WL.done ?_
      rcases iteE H with ⟨hc87, H⟩ | ⟨hc87, H⟩
      · skip
        refine W.condF (congrArg Value.bool (ndec_t hc87)) ?_
        refine W.skip ?_
        refine W.seq ?_
        refine W.seq ?_
        refine W.region rfl ?_
        refine WL.val (Yl.move (v := .slice A78 n80 c79) rfl) ?_
        refine WL.val (Yl.lenN (A := A78) (l := n80) (q := c79) (n := (r76.length : Int)) rfl Try.underlying22 (by omega)) ?_
        refine WL.val (Yl.move (v := .int .i64 a3) ho22) ?_
        refine WL.val (Yl.neq (m := (r76.length : Int)) (n := a3) (q := !decide ((r76.length : Int) = a3)) rfl rfl rfl) ?_
        refine WL.done ?_
        rcases iteE H with ⟨hc88, H⟩ | ⟨hc88, H⟩
        · skip
          refine W.condF (congrArg Value.bool (ndec_t hc88)) ?_
          refine W.skip ?_
          refine W.seq ?_
          refine W.region rfl ?_
          refine WL.val (Yl.assign (v := .int .i64 0) rfl) ?_
          refine WL.done ?_
          refine W.seq ?_
          refine W.region rfl ?_
          obtain ⟨hc89, H⟩ := guardE H
          obtain ⟨A90, c91, n92, p93, w94, hn95, hy96, C97, hR98⟩ := ev_make' (P := Try.prog) 4 Kd.bool C86 Try.underlying23 ti4 false rfl (by decide) 8 hc89
          refine WL.val (hy96 _ _ _ _ _ _ rfl rfl) ?_
          refine WL.val (Yl.assign (v := .slice A90 n92 c91) rfl) ?_
          refine WL.done ?_
          refine W.seq ?_
          refine W.seq ?_
          refine W.region rfl ?_
          refine WL.val (Yl.assign (v := .int .i64 0) rfl) ?_
          refine WL.done ?_
          obtain ⟨o359, hX358, H⟩ := bindE H
          refine W.cutM (fun env_ w_ => ∃ (x348 : Int) (x350 : List Bool) (A351 : Option Addr) (c352 : Nat) (n353 : Nat) (p355 : CH), env_ 0 = .slice A1 n3 c2 ∧ env_ 1 = .slice A8 n10 c9 ∧ env_ 11 = .int .i64 x348 ∧ env_ 12 = .slice A351 n353 c352 ∧ Ctx w F D w_ F [p355, p82, p62, p42] ∧ n353 = x350.length ∧ Row Kd.bool F p355 (.slice A351 n353 c352) x350 ∧ o359 = Sum.inl (x348, x350)) ?_ ?_
          · skip
            refine W.block ?_
            refine W.loop (fun g_ env_ w_ => ∃ (x449 : Int) (x451 : List Bool) (x459 : Int) (A452 : Option Addr) (c453 : Nat) (n454 : Nat) (p456 : CH), env_ 0 = .slice A1 n3 c2 ∧ env_ 1 = .slice A8 n10 c9 ∧ env_ 2 = .int .i64 a2 ∧ env_ 3 = .int .i64 a3 ∧ env_ 9 = .slice A78 n80 c79 ∧ env_ 11 = .int .i64 x449 ∧ env_ 12 = .slice A452 n454 c453 ∧ env_ 13 = .int .i64 x459 ∧ Ctx w F D w_ F [p456, p82, p62, p42] ∧ n454 = x451.length ∧ Row Kd.bool F p456 (.slice A452 n454 c453) x451 ∧ juratlaw18_CrewRight.l1 g_ a0 a1 a2 a3 r76 x449 x451 x459 = some o359) k ⟨0, (List.replicate (8 : Int).toNat (false : Bool)), 0, A90, c91, n92, p93, ho19, ho20, ho21, ho22, rfl, rfl, rfl, rfl, C97, hn95, hR98, hX358⟩ ?_
            clear hX358
            rintro g_ env_ w_ ⟨x449, x451, x459, A452, c453, n454, p456, ho443, ho444, ho445, ho446, ho447, ho448, ho450, ho458, C460, hn455, hR457, hX358⟩
            rcases g_ with _ | k533
            · exact absurd hX358 (by simp [juratlaw18_CrewRight.l1])
            rw [juratlaw18_CrewRight.l1] at hX358
            refine W.seq ?_
            refine W.seq ?_
            refine W.region rfl ?_
            refine WL.val (Yl.move (v := .int .i64 x459) ho458) ?_
            refine WL.val (Yl.move (v := .int .i64 a3) ho446) ?_
            refine WL.val (Yl.lss (m := x459) (n := a3) (q := decide (x459 < a3)) rfl rfl rfl) ?_
            refine WL.done ?_
            rcases iteE hX358 with ⟨hc534, hX358⟩ | ⟨hc534, hX358⟩
            · skip
              refine W.condT (congrArg Value.bool (decide_eq_true hc534)) ?_
              refine W.skip ?_
              refine W.seq ?_
              refine W.block ?_
              refine W.seq ?_
              refine W.region rfl ?_
              refine WL.val (Yl.move (v := .slice A78 n80 c79) ho447) ?_
              refine WL.val (Yl.move (v := .int .i64 x459) ho458) ?_
              obtain ⟨hc535, hX358⟩ := guardE hX358
              obtain ⟨b536, of537, hA538, he539⟩ := (Row.sl hR85) (by omega)
              refine WL.val (Yl.elemAddr (i := x459) rfl rfl hA538 Try.underlying22 sz3 (by omega)) ?_
              obtain ⟨cs540, hr541, hx542⟩ := he539 x459.toNat _ (getD_some (d := 0) (by omega))
              obtain rfl := hr541
              refine WL.val (Yl.load (v := .int .i64 (r76.getD x459.toNat 0)) rfl Try.underlying3 rfl (((Ctx.sub_of [p456] [p62, p42] C460)).cell (hx542 0 _ rfl))) ?_
              refine WL.val (Yl.assign (v := .int .i64 (r76.getD x459.toNat 0)) rfl) ?_
              refine WL.done ?_
              refine W.seq ?_
              refine W.seq ?_
              refine W.region rfl ?_
              refine WL.val (Yl.move (v := .int .i64 (r76.getD x459.toNat 0)) rfl) ?_
              refine WL.val (Yl.lss (m := r76.getD x459.toNat 0) (n := 0) (q := decide ((r76.getD x459.toNat 0) < 0)) rfl rfl rfl) ?_
              refine WL.val (Yl.move (v := .bool (decide ((r76.getD x459.toNat 0) < 0))) rfl) ?_
              obtain ⟨g543, HE544, hX358⟩ := bindE hX358
              refine WL.cut (fun env_ w_ => env_ 86 = .bool g543 ∧ env_ 0 = .slice A1 n3 c2 ∧ env_ 1 = .slice A8 n10 c9 ∧ env_ 2 = .int .i64 a2 ∧ env_ 3 = .int .i64 a3 ∧ env_ 9 = .slice A78 n80 c79 ∧ env_ 11 = .int .i64 x449 ∧ env_ 12 = .slice A452 n454 c453 ∧ env_ 13 = .int .i64 x459 ∧ env_ 14 = .int .i64 (r76.getD x459.toNat 0) ∧ Ctx w F D w_ F [p456, p82, p62, p42]) ?_ ?_
              · skip
                rcases iteE HE544 with ⟨hc545, HE544⟩ | ⟨hc545, HE544⟩
                · skip
                  refine WL.off rfl (congrArg Value.bool (decide_eq_true hc545)) ?_
                  refine WL.off rfl (congrArg Value.bool (decide_eq_true hc545)) ?_
                  refine WL.off rfl (congrArg Value.bool (decide_eq_true hc545)) ?_
                  refine WL.off rfl (congrArg Value.bool (decide_eq_true hc545)) ?_
                  refine WL.val (Yl.pickT (v := .bool true) (congrArg Value.bool (decide_eq_true hc545)) rfl) ?_
                  refine WL.val (Yl.move (v := .bool true) rfl) ?_
                  refine WL.off rfl rfl ?_
                  refine WL.off rfl rfl ?_
                  refine WL.off rfl rfl ?_
                  refine WL.off rfl rfl ?_
                  refine WL.val (Yl.pickT (v := .bool true) rfl rfl) ?_
                  refine WL.val (Yl.move (v := .bool true) rfl) ?_
                  refine WL.off rfl rfl ?_
                  refine WL.off rfl rfl ?_
                  refine WL.off rfl rfl ?_
                  refine WL.off rfl rfl ?_
                  refine WL.off rfl rfl ?_
                  refine WL.off rfl rfl ?_
                  refine WL.val (Yl.pickT (v := .bool true) rfl rfl) ?_
                  refine WL.val (Yl.move (v := .bool true) rfl) ?_
                  refine WL.off rfl rfl ?_
                  refine WL.off rfl rfl ?_
                  refine WL.off rfl rfl ?_
                  refine WL.off rfl rfl ?_
                  refine WL.val (Yl.pickT (v := .bool true) rfl rfl) ?_
                  cases HE544
                  exact WL.done ⟨rfl, ho443, ho444, ho445, ho446, ho447, ho448, ho450, ho458, rfl, C460⟩
                · skip
                  refine WL.on rfl (congrArg Value.bool (decide_eq_false hc545)) ?_
                  refine WL.val (Yl.move (v := .int .i64 (r76.getD x459.toNat 0)) rfl) ?_
                  refine WL.on rfl (congrArg Value.bool (decide_eq_false hc545)) ?_
                  refine WL.val (Yl.move (v := .slice A1 n3 c2) ho443) ?_
                  refine WL.on rfl (congrArg Value.bool (decide_eq_false hc545)) ?_
                  refine WL.val (Yl.lenN (A := A1) (l := n3) (q := c2) (n := (a0.length : Int)) rfl Try.underlying22 (by omega)) ?_
                  refine WL.on rfl (congrArg Value.bool (decide_eq_false hc545)) ?_
                  refine WL.val (Yl.geq (m := r76.getD x459.toNat 0) (n := (a0.length : Int)) (q := decide ((r76.getD x459.toNat 0) ≥ (a0.length : Int))) rfl rfl rfl) ?_
                  refine WL.val (Yl.pickF (v := .bool (decide ((r76.getD x459.toNat 0) ≥ (a0.length : Int)))) (congrArg Value.bool (decide_eq_false hc545)) rfl) ?_
                  refine WL.val (Yl.move (v := .bool (decide ((r76.getD x459.toNat 0) ≥ (a0.length : Int)))) rfl) ?_
                  rcases iteE HE544 with ⟨hc546, HE544⟩ | ⟨hc546, HE544⟩
                  · skip
                    refine WL.off rfl (congrArg Value.bool (decide_eq_true hc546)) ?_
                    refine WL.off rfl (congrArg Value.bool (decide_eq_true hc546)) ?_
                    refine WL.off rfl (congrArg Value.bool (decide_eq_true hc546)) ?_
                    refine WL.off rfl (congrArg Value.bool (decide_eq_true hc546)) ?_
                    refine WL.val (Yl.pickT (v := .bool true) (congrArg Value.bool (decide_eq_true hc546)) rfl) ?_
                    refine WL.val (Yl.move (v := .bool true) rfl) ?_
                    refine WL.off rfl rfl ?_
                    refine WL.off rfl rfl ?_
                    refine WL.off rfl rfl ?_
                    refine WL.off rfl rfl ?_
                    refine WL.off rfl rfl ?_
                    refine WL.off rfl rfl ?_
                    refine WL.val (Yl.pickT (v := .bool true) rfl rfl) ?_
                    refine WL.val (Yl.move (v := .bool true) rfl) ?_
                    refine WL.off rfl rfl ?_
                    refine WL.off rfl rfl ?_
                    refine WL.off rfl rfl ?_
                    refine WL.off rfl rfl ?_
                    refine WL.val (Yl.pickT (v := .bool true) rfl rfl) ?_
                    cases HE544
                    exact WL.done ⟨rfl, ho443, ho444, ho445, ho446, ho447, ho448, ho450, ho458, rfl, C460⟩
                  · skip
                    refine WL.on rfl (congrArg Value.bool (decide_eq_false hc546)) ?_
                    refine WL.val (Yl.move (v := .slice A8 n10 c9) ho444) ?_
                    refine WL.on rfl (congrArg Value.bool (decide_eq_false hc546)) ?_
                    refine WL.val (Yl.move (v := .int .i64 (r76.getD x459.toNat 0)) rfl) ?_
                    refine WL.on rfl (congrArg Value.bool (decide_eq_false hc546)) ?_
                    obtain ⟨hc547, HE544⟩ := guardE HE544
                    obtain ⟨b548, of549, hA550, he551⟩ := hS14 (by omega)
                    refine WL.val (Yl.elemAddr (i := r76.getD x459.toNat 0) rfl rfl hA550 Try.underlying23 sz4 (by omega)) ?_
                    refine WL.on rfl (congrArg Value.bool (decide_eq_false hc546)) ?_
                    obtain ⟨cs552, hr553, hx554⟩ := he551 (r76.getD x459.toNat 0).toNat _ (getD_some (d := false) (by omega))
                    obtain rfl := hr553
                    refine WL.val (Yl.load (v := .bool (a1.getD (r76.getD x459.toNat 0).toNat false)) rfl Try.underlying4 rfl (((C460.fro)).cell (hx554 0 _ rfl))) ?_
                    refine WL.val (Yl.pickF (v := .bool (a1.getD (r76.getD x459.toNat 0).toNat false)) (congrArg Value.bool (decide_eq_false hc546)) rfl) ?_
                    refine WL.val (Yl.move (v := .bool (a1.getD (r76.getD x459.toNat 0).toNat false)) rfl) ?_
                    rcases iteE HE544 with ⟨hc555, HE544⟩ | ⟨hc555, HE544⟩
                    · skip
                      refine WL.off rfl (congrArg Value.bool hc555) ?_
                      refine WL.off rfl (congrArg Value.bool hc555) ?_
                      refine WL.off rfl (congrArg Value.bool hc555) ?_
                      refine WL.off rfl (congrArg Value.bool hc555) ?_
                      refine WL.off rfl (congrArg Value.bool hc555) ?_
                      refine WL.off rfl (congrArg Value.bool hc555) ?_
                      refine WL.val (Yl.pickT (v := .bool true) (congrArg Value.bool hc555) rfl) ?_
                      refine WL.val (Yl.move (v := .bool true) rfl) ?_
                      refine WL.off rfl rfl ?_
                      refine WL.off rfl rfl ?_
                      refine WL.off rfl rfl ?_
                      refine WL.off rfl rfl ?_
                      refine WL.val (Yl.pickT (v := .bool true) rfl rfl) ?_
                      cases HE544
                      exact WL.done ⟨rfl, ho443, ho444, ho445, ho446, ho447, ho448, ho450, ho458, rfl, C460⟩
                    · skip
                      refine WL.on rfl (congrArg Value.bool (Bool.eq_false_iff.2 hc555)) ?_
                      refine WL.val (Yl.move (v := .slice A1 n3 c2) ho443) ?_
                      refine WL.on rfl (congrArg Value.bool (Bool.eq_false_iff.2 hc555)) ?_
                      refine WL.val (Yl.move (v := .int .i64 (r76.getD x459.toNat 0)) rfl) ?_
                      refine WL.on rfl (congrArg Value.bool (Bool.eq_false_iff.2 hc555)) ?_
                      obtain ⟨hc556, HE544⟩ := guardE HE544
                      obtain ⟨b557, of558, hA559, he560⟩ := hS7 (by omega)
                      refine WL.val (Yl.elemAddr (i := r76.getD x459.toNat 0) rfl rfl hA559 Try.underlying22 sz3 (by omega)) ?_
                      refine WL.on rfl (congrArg Value.bool (Bool.eq_false_iff.2 hc555)) ?_
                      obtain ⟨cs561, hr562, hx563⟩ := he560 (r76.getD x459.toNat 0).toNat _ (getD_some (d := 0) (by omega))
                      obtain rfl := hr562
                      refine WL.val (Yl.load (v := .int .i64 (a0.getD (r76.getD x459.toNat 0).toNat 0)) rfl Try.underlying3 rfl (((C460.fro)).cell (hx563 0 _ rfl))) ?_
                      refine WL.on rfl (congrArg Value.bool (Bool.eq_false_iff.2 hc555)) ?_
                      refine WL.val (Yl.move (v := .int .i64 a2) ho445) ?_
                      refine WL.on rfl (congrArg Value.bool (Bool.eq_false_iff.2 hc555)) ?_
                      refine WL.val (Yl.geq (m := a0.getD (r76.getD x459.toNat 0).toNat 0) (n := a2) (q := decide ((a0.getD (r76.getD x459.toNat 0).toNat 0) ≥ a2)) rfl rfl rfl) ?_
                      refine WL.val (Yl.pickF (v := .bool (decide ((a0.getD (r76.getD x459.toNat 0).toNat 0) ≥ a2))) (congrArg Value.bool (Bool.eq_false_iff.2 hc555)) rfl) ?_
                      refine WL.val (Yl.move (v := .bool (decide ((a0.getD (r76.getD x459.toNat 0).toNat 0) ≥ a2))) rfl) ?_
                      rcases iteE HE544 with ⟨hc564, HE544⟩ | ⟨hc564, HE544⟩
                      · skip
                        refine WL.off rfl (congrArg Value.bool (decide_eq_true hc564)) ?_
                        refine WL.off rfl (congrArg Value.bool (decide_eq_true hc564)) ?_
                        refine WL.off rfl (congrArg Value.bool (decide_eq_true hc564)) ?_
                        refine WL.off rfl (congrArg Value.bool (decide_eq_true hc564)) ?_
                        refine WL.val (Yl.pickT (v := .bool true) (congrArg Value.bool (decide_eq_true hc564)) rfl) ?_
                        cases HE544
                        exact WL.done ⟨rfl, ho443, ho444, ho445, ho446, ho447, ho448, ho450, ho458, rfl, C460⟩
                      · skip
                        refine WL.on rfl (congrArg Value.bool (decide_eq_false hc564)) ?_
                        refine WL.val (Yl.move (v := .slice A452 n454 c453) ho450) ?_
                        refine WL.on rfl (congrArg Value.bool (decide_eq_false hc564)) ?_
                        refine WL.val (Yl.move (v := .int .i64 (r76.getD x459.toNat 0)) rfl) ?_
                        refine WL.on rfl (congrArg Value.bool (decide_eq_false hc564)) ?_
                        obtain ⟨hc565, HE544⟩ := guardE HE544
                        obtain ⟨b566, of567, hA568, he569⟩ := (Row.sl hR457) (by omega)
                        refine WL.val (Yl.elemAddr (i := r76.getD x459.toNat 0) rfl rfl hA568 Try.underlying23 sz4 (by omega)) ?_
                        refine WL.on rfl (congrArg Value.bool (decide_eq_false hc564)) ?_
                        obtain ⟨cs570, hr571, hx572⟩ := he569 (r76.getD x459.toNat 0).toNat _ (getD_some (d := false) (by omega))
                        obtain rfl := hr571
                        refine WL.val (Yl.load (v := .bool (x451.getD (r76.getD x459.toNat 0).toNat false)) rfl Try.underlying4 rfl (((Ctx.sub_of [] [p82, p62, p42] C460)).cell (hx572 0 _ rfl))) ?_
                        refine WL.val (Yl.pickF (v := .bool (x451.getD (r76.getD x459.toNat 0).toNat false)) (congrArg Value.bool (decide_eq_false hc564)) rfl) ?_
                        cases HE544
                        exact WL.done ⟨rfl, ho443, ho444, ho445, ho446, ho447, ho448, ho450, ho458, rfl, C460⟩
              · skip
                rintro env_ w_ ⟨ho573, ho574, ho575, ho576, ho577, ho578, ho579, ho580, ho581, ho582, C583⟩
                rcases iteE hX358 with ⟨hc584, hX358⟩ | ⟨hc584, hX358⟩
                · skip
                  refine W.condT (ho573.trans (congrArg Value.bool hc584)) ?_
                  refine W.seq ?_
                  refine W.region rfl ?_
                  refine WL.val (Yl.assign (v := .bool false) rfl) ?_
                  refine WL.done ?_
                  refine W.ret ?_
                  refine thenE_r ?_
                  refine inB_r ?_
                  refine thenE_r ?_
                  refine thenE_r ?_
                  refine inB_r ?_
                  refine thenE_r ?_
                  refine thenE_r ?_
                  cases hX358
                  replace H := sumE_r H
                  have C585 : Ctx _ _ _ _ F [p82, p62, p42] := Ctx.drop [] [p82, p62, p42] C583
                  have C586 : Ctx _ _ _ _ F [p62, p42] := Ctx.drop [] [p62, p42] C585
                  have C587 : Ctx _ _ _ _ F [p42] := Ctx.drop [] [p42] C586
                  have C588 : Ctx _ _ _ _ F [] := Ctx.drop [] [] C587
                  cases H
                  exact post_r (resE1 rfl rfl) ⟨rfl, C588⟩
                · skip
                  refine W.condF (ho573.trans (congrArg Value.bool (Bool.eq_false_iff.2 hc584))) ?_
                  refine W.skip ?_
                  refine W.seq ?_
                  refine W.region rfl ?_
                  refine WL.val (Yl.move (v := .slice A452 n454 c453) ho580) ?_
                  refine WL.val (Yl.move (v := .int .i64 (r76.getD x459.toNat 0)) ho582) ?_
                  obtain ⟨hc589, hX358⟩ := guardE hX358
                  obtain ⟨b590, of591, hA592, he593⟩ := (Row.sl hR457) (by omega)
                  refine WL.val (Yl.elemAddr (i := r76.getD x459.toNat 0) rfl rfl hA592 Try.underlying23 sz4 (by omega)) ?_
                  have hj599 : (r76.getD x459.toNat 0).toNat < x451.length := by first | omega | (simp only [List.length_set, List.length_replicate] at *; omega)
                  obtain ⟨p594, w595, hy596, C597, hR598⟩ := ev_store (P := Try.prog) (t := 4) Kd.bool [] [p82, p62, p42] C583 hR457 hA592 (r76.getD x459.toNat 0).toNat 0 hj599 false (.bool true) ([.bool true]) rfl (by simp [Value.oneCell']) (Nat.le_of_ble_eq_true rfl) sz4 (true) (fun _ h_ => rep_whole h_ rfl) ⟨b590, of591 + (r76.getD x459.toNat 0).toNat * 1, none⟩ rfl
                  have hn600 : n454 = (x451.set (r76.getD x459.toNat 0).toNat true).length := by rw [List.length_set]; omega
                  have C601 : Ctx _ _ _ _ F [p594, p82, p62, p42] := C597
                  refine WL.skip (hy596 _ _ _ _ rfl rfl) ?_
                  refine WL.done ?_
                  refine W.region rfl ?_
                  refine WL.val (Yl.move (v := .int .i64 x449) ho579) ?_
                  refine WL.val (Yl.move (v := .slice A1 n3 c2) ho574) ?_
                  refine WL.val (Yl.move (v := .int .i64 (r76.getD x459.toNat 0)) ho582) ?_
                  obtain ⟨hc602, hX358⟩ := guardE hX358
                  obtain ⟨b603, of604, hA605, he606⟩ := hS7 (by omega)
                  refine WL.val (Yl.elemAddr (i := r76.getD x459.toNat 0) rfl rfl hA605 Try.underlying22 sz3 (by omega)) ?_
                  obtain ⟨cs607, hr608, hx609⟩ := he606 (r76.getD x459.toNat 0).toNat _ (getD_some (d := 0) (by omega))
                  obtain rfl := hr608
                  refine WL.val (Yl.load (v := .int .i64 (a0.getD (r76.getD x459.toNat 0).toNat 0)) rfl Try.underlying3 rfl (((C601.fro)).cell (hx609 0 _ rfl))) ?_
                  refine WL.val (Yl.max2 (m := x449) (n := a0.getD (r76.getD x459.toNat 0).toNat 0) (r := (if (a0.getD (r76.getD x459.toNat 0).toNat 0) > x449 then a0.getD (r76.getD x459.toNat 0).toNat 0 else x449)) rfl rfl rfl) ?_
                  refine WL.val (Yl.assign (v := .int .i64 (if (a0.getD (r76.getD x459.toNat 0).toNat 0) > x449 then a0.getD (r76.getD x459.toNat 0).toNat 0 else x449)) rfl) ?_
                  refine WL.done ?_
                  refine inB_n ?_
                  refine W.region rfl ?_
                  refine WL.val (Yl.move (v := .int .i64 x459) ho581) ?_
                  refine WL.val (Yl.add (m := x459) (n := 1) (r := wi64 (x459 + 1)) rfl rfl rfl) ?_
                  refine WL.val (Yl.assign (v := .int .i64 (wi64 (x459 + 1))) rfl) ?_
                  refine WL.done ?_
                  exact thenE_n ⟨k533, Nat.lt_succ_self _, (if (a0.getD (r76.getD x459.toNat 0).toNat 0) > x449 then a0.getD (r76.getD x459.toNat 0).toNat 0 else x449), x451.set (r76.getD x459.toNat 0).toNat true, wi64 (x459 + 1), A452, c453, n454, p594, ho574, ho575, ho576, ho577, ho578, rfl, ho580, rfl, C601, hn600, hR598, hX358⟩
            · skip
              refine W.condF (congrArg Value.bool (decide_eq_false hc534)) ?_
              refine W.exit ?_
              refine thenE_x ?_
              refine thenE_x ?_
              refine inB_here ?_
              cases hX358
              refine thenE_n ?_
              exact ⟨x449, x451, A452, c453, n454, p456, ho443, ho444, ho448, ho450, C460, hn455, hR457, rfl⟩
          · skip
            rintro env_ w_ ⟨x348, x350, A351, c352, n353, p355, ho345, ho346, ho347, ho349, C357, hn354, hR356, rfl⟩
            replace H := sumE_l H
            refine W.seq ?_
            refine W.seq ?_
            refine W.region rfl ?_
            refine WL.val (Yl.assign (v := .int .i64 0) rfl) ?_
            refine WL.done ?_
            obtain ⟨o694, hX693, H⟩ := bindE H
            refine W.cutM (fun env_ w_ => Ctx w F D w_ F [p355, p82, p62, p42] ∧ o694 = Sum.inl ()) ?_ ?_
            · skip
              refine W.block ?_
              refine W.loop (fun g_ env_ w_ => ∃ (x700 : Int), env_ 0 = .slice A1 n3 c2 ∧ env_ 1 = .slice A8 n10 c9 ∧ env_ 11 = .int .i64 x348 ∧ env_ 12 = .slice A351 n353 c352 ∧ env_ 15 = .int .i64 x700 ∧ Ctx w F D w_ F [p355, p82, p62, p42] ∧ juratlaw18_CrewRight.l2 g_ a0 a1 x348 x350 x700 = some o694) k ⟨0, ho345, ho346, ho347, ho349, rfl, C357, hX693⟩ ?_
              clear hX693
              rintro g_ env_ w_ ⟨x700, ho695, ho696, ho697, ho698, ho699, C701, hX693⟩
              rcases g_ with _ | k739
              · exact absurd hX693 (by simp [juratlaw18_CrewRight.l2])
              rw [juratlaw18_CrewRight.l2] at hX693
              refine W.seq ?_
              refine W.seq ?_
              refine W.region rfl ?_
              refine WL.val (Yl.move (v := .int .i64 x700) ho699) ?_
              refine WL.val (Yl.move (v := .slice A1 n3 c2) ho695) ?_
              refine WL.val (Yl.lenN (A := A1) (l := n3) (q := c2) (n := (a0.length : Int)) rfl Try.underlying22 (by omega)) ?_
              refine WL.val (Yl.lss (m := x700) (n := (a0.length : Int)) (q := decide (x700 < (a0.length : Int))) rfl rfl rfl) ?_
              refine WL.done ?_
              rcases iteE hX693 with ⟨hc740, hX693⟩ | ⟨hc740, hX693⟩
              · skip
                refine W.condT (congrArg Value.bool (decide_eq_true hc740)) ?_
                refine W.skip ?_
                refine W.seq ?_
                refine W.block ?_
                refine W.seq ?_
                refine W.region rfl ?_
                refine WL.val (Yl.move (v := .slice A8 n10 c9) ho696) ?_
                refine WL.val (Yl.move (v := .int .i64 x700) ho699) ?_
                obtain ⟨hc741, hX693⟩ := guardE hX693
                obtain ⟨b742, of743, hA744, he745⟩ := hS14 (by omega)
                refine WL.val (Yl.elemAddr (i := x700) rfl rfl hA744 Try.underlying23 sz4 (by omega)) ?_
                obtain ⟨cs746, hr747, hx748⟩ := he745 x700.toNat _ (getD_some (d := false) (by omega))
                obtain rfl := hr747
                refine WL.val (Yl.load (v := .bool (a1.getD x700.toNat false)) rfl Try.underlying4 rfl (((C701.fro)).cell (hx748 0 _ rfl))) ?_
                refine WL.val (Yl.not (p := a1.getD x700.toNat false) (q := !(a1.getD x700.toNat false)) rfl rfl) ?_
                refine WL.val (Yl.move (v := .bool (!(a1.getD x700.toNat false))) rfl) ?_
                obtain ⟨g749, HE750, hX693⟩ := bindE hX693
                refine WL.cut (fun env_ w_ => env_ 121 = .bool g749 ∧ env_ 0 = .slice A1 n3 c2 ∧ env_ 1 = .slice A8 n10 c9 ∧ env_ 11 = .int .i64 x348 ∧ env_ 12 = .slice A351 n353 c352 ∧ env_ 15 = .int .i64 x700 ∧ Ctx w F D w_ F [p355, p82, p62, p42]) ?_ ?_
                · skip
                  rcases iteE HE750 with ⟨hc751, HE750⟩ | ⟨hc751, HE750⟩
                  · skip
                    refine WL.off rfl (congrArg Value.bool (nb_t hc751)) ?_
                    refine WL.off rfl (congrArg Value.bool (nb_t hc751)) ?_
                    refine WL.off rfl (congrArg Value.bool (nb_t hc751)) ?_
                    refine WL.off rfl (congrArg Value.bool (nb_t hc751)) ?_
                    refine WL.off rfl (congrArg Value.bool (nb_t hc751)) ?_
                    refine WL.val (Yl.pickF (v := .bool false) (congrArg Value.bool (nb_t hc751)) rfl) ?_
                    refine WL.val (Yl.move (v := .bool false) rfl) ?_
                    refine WL.off rfl rfl ?_
                    refine WL.off rfl rfl ?_
                    refine WL.off rfl rfl ?_
                    refine WL.off rfl rfl ?_
                    refine WL.off rfl rfl ?_
                    refine WL.off rfl rfl ?_
                    refine WL.val (Yl.pickF (v := .bool false) rfl rfl) ?_
                    cases HE750
                    exact WL.done ⟨rfl, ho695, ho696, ho697, ho698, ho699, C701⟩
                  · skip
                    refine WL.on rfl (congrArg Value.bool (nb_f hc751)) ?_
                    refine WL.val (Yl.move (v := .slice A351 n353 c352) ho698) ?_
                    refine WL.on rfl (congrArg Value.bool (nb_f hc751)) ?_
                    refine WL.val (Yl.move (v := .int .i64 x700) ho699) ?_
                    refine WL.on rfl (congrArg Value.bool (nb_f hc751)) ?_
                    obtain ⟨hc752, HE750⟩ := guardE HE750
                    obtain ⟨b753, of754, hA755, he756⟩ := (Row.sl hR356) (by omega)
                    refine WL.val (Yl.elemAddr (i := x700) rfl rfl hA755 Try.underlying23 sz4 (by omega)) ?_
                    refine WL.on rfl (congrArg Value.bool (nb_f hc751)) ?_
                    obtain ⟨cs757, hr758, hx759⟩ := he756 x700.toNat _ (getD_some (d := false) (by omega))
                    obtain rfl := hr758
                    refine WL.val (Yl.load (v := .bool (x350.getD x700.toNat false)) rfl Try.underlying4 rfl (((Ctx.sub_of [] [p82, p62, p42] C701)).cell (hx759 0 _ rfl))) ?_
                    refine WL.on rfl (congrArg Value.bool (nb_f hc751)) ?_
                    refine WL.val (Yl.not (p := x350.getD x700.toNat false) (q := !(x350.getD x700.toNat false)) rfl rfl) ?_
                    refine WL.val (Yl.pickT (v := .bool (!(x350.getD x700.toNat false))) (congrArg Value.bool (nb_f hc751)) rfl) ?_
                    refine WL.val (Yl.move (v := .bool (!(x350.getD x700.toNat false))) rfl) ?_
                    rcases iteE HE750 with ⟨hc760, HE750⟩ | ⟨hc760, HE750⟩
                    · skip
                      refine WL.off rfl (congrArg Value.bool (nb_t hc760)) ?_
                      refine WL.off rfl (congrArg Value.bool (nb_t hc760)) ?_
                      refine WL.off rfl (congrArg Value.bool (nb_t hc760)) ?_
                      refine WL.off rfl (congrArg Value.bool (nb_t hc760)) ?_
                      refine WL.off rfl (congrArg Value.bool (nb_t hc760)) ?_
                      refine WL.off rfl (congrArg Value.bool (nb_t hc760)) ?_
                      refine WL.val (Yl.pickF (v := .bool false) (congrArg Value.bool (nb_t hc760)) rfl) ?_
                      cases HE750
                      exact WL.done ⟨rfl, ho695, ho696, ho697, ho698, ho699, C701⟩
                    · skip
                      refine WL.on rfl (congrArg Value.bool (nb_f hc760)) ?_
                      refine WL.val (Yl.move (v := .slice A1 n3 c2) ho695) ?_
                      refine WL.on rfl (congrArg Value.bool (nb_f hc760)) ?_
                      refine WL.val (Yl.move (v := .int .i64 x700) ho699) ?_
                      refine WL.on rfl (congrArg Value.bool (nb_f hc760)) ?_
                      obtain ⟨hc761, HE750⟩ := guardE HE750
                      obtain ⟨b762, of763, hA764, he765⟩ := hS7 (by omega)
                      refine WL.val (Yl.elemAddr (i := x700) rfl rfl hA764 Try.underlying22 sz3 (by omega)) ?_
                      refine WL.on rfl (congrArg Value.bool (nb_f hc760)) ?_
                      obtain ⟨cs766, hr767, hx768⟩ := he765 x700.toNat _ (getD_some (d := 0) (by omega))
                      obtain rfl := hr767
                      refine WL.val (Yl.load (v := .int .i64 (a0.getD x700.toNat 0)) rfl Try.underlying3 rfl (((C701.fro)).cell (hx768 0 _ rfl))) ?_
                      refine WL.on rfl (congrArg Value.bool (nb_f hc760)) ?_
                      refine WL.val (Yl.move (v := .int .i64 x348) ho697) ?_
                      refine WL.on rfl (congrArg Value.bool (nb_f hc760)) ?_
                      refine WL.val (Yl.lss (m := a0.getD x700.toNat 0) (n := x348) (q := decide ((a0.getD x700.toNat 0) < x348)) rfl rfl rfl) ?_
                      refine WL.val (Yl.pickT (v := .bool (decide ((a0.getD x700.toNat 0) < x348))) (congrArg Value.bool (nb_f hc760)) rfl) ?_
                      cases HE750
                      exact WL.done ⟨rfl, ho695, ho696, ho697, ho698, ho699, C701⟩
                · skip
                  rintro env_ w_ ⟨ho769, ho770, ho771, ho772, ho773, ho774, C775⟩
                  rcases iteE hX693 with ⟨hc776, hX693⟩ | ⟨hc776, hX693⟩
                  · skip
                    refine W.condT (ho769.trans (congrArg Value.bool hc776)) ?_
                    refine W.seq ?_
                    refine W.region rfl ?_
                    refine WL.val (Yl.assign (v := .bool false) rfl) ?_
                    refine WL.done ?_
                    refine W.ret ?_
                    refine inB_r ?_
                    refine thenE_r ?_
                    refine thenE_r ?_
                    refine inB_r ?_
                    refine thenE_r ?_
                    refine thenE_r ?_
                    cases hX693
                    replace H := sumE_r H
                    have C777 : Ctx _ _ _ _ F [p82, p62, p42] := Ctx.drop [] [p82, p62, p42] C775
                    have C778 : Ctx _ _ _ _ F [p62, p42] := Ctx.drop [] [p62, p42] C777
                    have C779 : Ctx _ _ _ _ F [p42] := Ctx.drop [] [p42] C778
                    have C780 : Ctx _ _ _ _ F [] := Ctx.drop [] [] C779
                    cases H
                    exact post_r (resE1 rfl rfl) ⟨rfl, C780⟩
                  · skip
                    refine W.condF (ho769.trans (congrArg Value.bool (Bool.eq_false_iff.2 hc776))) ?_
                    refine W.skip ?_
                    refine inB_n ?_
                    refine W.region rfl ?_
                    refine WL.val (Yl.move (v := .int .i64 x700) ho774) ?_
                    refine WL.val (Yl.add (m := x700) (n := 1) (r := wi64 (x700 + 1)) rfl rfl rfl) ?_
                    refine WL.val (Yl.assign (v := .int .i64 (wi64 (x700 + 1))) rfl) ?_
                    refine WL.done ?_
                    exact thenE_n ⟨k739, Nat.lt_succ_self _, wi64 (x700 + 1), ho770, ho771, ho772, ho773, rfl, C775, hX693⟩
              · skip
                refine W.condF (congrArg Value.bool (decide_eq_false hc740)) ?_
                refine W.exit ?_
                refine thenE_x ?_
                refine thenE_x ?_
                refine inB_here ?_
                cases hX693
                refine thenE_n ?_
                exact ⟨C701, rfl⟩
            · skip
              rintro env_ w_ ⟨C692, rfl⟩
              replace H := sumE_l H
              refine W.seq ?_
              refine W.region rfl ?_
              obtain ⟨r782, hg781, H⟩ := bindE H
              refine WL.call (args := #[]) (Yenter.fn Try.func7 (by kernel_rfl) rfl (argsE .nil)) (juratlaw18_awake.calls k _ F  (Ctx.pre (qs := []) (rest := [p355, p82, p62, p42]) C692)  r782 hg781) ?_
              rintro e_ w_ ⟨rfl, C783⟩
              refine ⟨_, rfl, ?_⟩
              have C784 : Ctx _ _ _ _ F [p355, p82, p62, p42] := Ctx.call (qs := []) (rest := [p355, p82, p62, p42]) C692 C783
              refine WL.val (Yl.assign (v := .bool r782) rfl) ?_
              refine WL.done ?_
              refine W.ret ?_
              have C785 : Ctx _ _ _ _ F [p82, p62, p42] := Ctx.drop [] [p82, p62, p42] C784
              have C786 : Ctx _ _ _ _ F [p62, p42] := Ctx.drop [] [p62, p42] C785
              have C787 : Ctx _ _ _ _ F [p42] := Ctx.drop [] [p42] C786
              have C788 : Ctx _ _ _ _ F [] := Ctx.drop [] [] C787
              cases H
              exact post_r (resE1 rfl rfl) ⟨rfl, C788⟩
        · skip
          refine W.condT (congrArg Value.bool (ndec_f hc88)) ?_
          refine W.seq ?_
          refine W.region rfl ?_
          refine WL.val (Yl.assign (v := .bool false) rfl) ?_
          refine WL.done ?_
          refine W.ret ?_
          refine thenE_r ?_
          have C789 : Ctx _ _ _ _ F [p62, p42] := Ctx.drop [] [p62, p42] C86
          have C790 : Ctx _ _ _ _ F [p42] := Ctx.drop [] [p42] C789
          have C791 : Ctx _ _ _ _ F [] := Ctx.drop [] [] C790
          cases H
          exact post_r (resE1 rfl rfl) ⟨rfl, C791⟩
      · skip
        refine W.condT (congrArg Value.bool (ndec_f hc87)) ?_
        refine W.seq ?_
        refine W.region rfl ?_
        refine WL.val (Yl.move (v := .slice A78 n80 c79) rfl) ?_
        refine WL.val (Yl.lenN (A := A78) (l := n80) (q := c79) (n := (r76.length : Int)) rfl Try.underlying22 (by omega)) ?_
        refine WL.val (Yl.eql (m := (r76.length : Int)) (n := 0) (q := decide ((r76.length : Int) = 0)) rfl rfl rfl) ?_
        refine WL.val (Yl.move (v := .bool (decide ((r76.length : Int) = 0))) rfl) ?_
        obtain ⟨g792, HE793, H⟩ := bindE H
        refine WL.cut (fun env_ w_ => env_ 8 = .bool g792 ∧ Ctx w F D w_ F [p82, p62, p42]) ?_ ?_
        · skip
          rcases iteE HE793 with ⟨hc794, HE793⟩ | ⟨hc794, HE793⟩
          · skip
            refine WL.on rfl (congrArg Value.bool (decide_eq_true hc794)) ?_
            obtain ⟨r796, hg795, HE793⟩ := bindE HE793
            refine WL.call (args := #[]) (Yenter.fn Try.func7 (by kernel_rfl) rfl (argsE .nil)) (juratlaw18_awake.calls k _ F  (Ctx.pre (qs := []) (rest := [p82, p62, p42]) C86)  r796 hg795) ?_
            rintro e_ w_ ⟨rfl, C797⟩
            refine ⟨_, rfl, ?_⟩
            have C798 : Ctx _ _ _ _ F [p82, p62, p42] := Ctx.call (qs := []) (rest := [p82, p62, p42]) C86 C797
            refine WL.val (Yl.pickT (v := .bool r796) (congrArg Value.bool (decide_eq_true hc794)) rfl) ?_
            refine WL.val (Yl.assign (v := .bool r796) rfl) ?_
            cases HE793
            exact WL.done ⟨rfl, C798⟩
          · skip
            refine WL.off rfl (congrArg Value.bool (decide_eq_false hc794)) ?_
            refine WL.val (Yl.pickF (v := .bool false) (congrArg Value.bool (decide_eq_false hc794)) rfl) ?_
            refine WL.val (Yl.assign (v := .bool false) rfl) ?_
            cases HE793
            exact WL.done ⟨rfl, C86⟩
        · skip
          rintro env_ w_ ⟨ho799, C800⟩
          refine W.ret ?_
          refine thenE_r ?_
          have C801 : Ctx _ _ _ _ F [p62, p42] := Ctx.drop [] [p62, p42] C800
          have C802 : Ctx _ _ _ _ F [p42] := Ctx.drop [] [p42] C801
          have C803 : Ctx _ _ _ _ F [] := Ctx.drop [] [] C802
          cases H
          exact post_r (resE1 rfl ho799) ⟨rfl, C803⟩
/-! ### jurat/juratlaw18.CrewPicks: function 5 -/
def juratlaw18_CrewPicks.f (k : Nat) (a0 : List Int) (a1 : List Bool) (a2 : Int) (a3 : Int) : Option Bool := (if (a0.length : Int) > 100 then (some (true)) else (some (decide ((a1.length : Int) > 100)))).bind fun g15 => if g15 = true then ((juratlaw18_awake.f k ).bind fun r26 => some r26) else (if a0.length * 8 ≤ 140737488355328 then (if a1.length * 1 ≤ 140737488355328 then ((crew_Pick.f k a0 a1 a2 a3).bind fun ⟨r76, r77⟩ => (juratref18_Pick.f k a0 a1 a2 a3).bind fun ⟨r88, r89⟩ => (if r77 = r89 then ((juratref18_Same.f k r76 r88).bind fun r108 => if r108 = true then ((crew_Left.f k a0 a1 a2).bind fun r119 => (juratref18_Left.f k a0 a1 a2).bind fun r123 => if r119 = r123 then ((juratlaw18_awake.f k ).bind fun r128 => some (r128)) else (some (false))) else (some (false))) else (some (false))).bind fun g98 => some g98) else none) else none)
set_option maxRecDepth 100000 in
set_option maxHeartbeats 4000000 in
theorem juratlaw18_CrewPicks.calls (k : Nat) (w : World) (F : CH) (A1 : Option Addr) (c2 : Nat) (n3 : Nat) (a0 : List Int) (A8 : Option Addr) (c9 : Nat) (n10 : Nat) (a1 : List Bool) (a2 : Int) (a3 : Int) (hp : Pre w F []) (hn4 : n3 = a0.length) (hl5 : a0.length ≤ c2) (hm6 : c2 ≤ maxLen) (hS7 : Sl (Kd.int .i64) F F A1 a0) (hn11 : n10 = a1.length) (hl12 : a1.length ≤ c9) (hm13 : c9 ≤ maxLen) (hS14 : Sl Kd.bool F F A8 a1) (r0_ : Bool) (H : juratlaw18_CrewPicks.f k a0 a1 a2 a3 = some r0_) :
    Calls Try.prog 5 #[.slice A1 n3 c2, .slice A8 n10 c9, .int .i64 a2, .int .i64 a3] w fun e w' => e = .returned (.bool r0_) ∧ Ctx w F (domL []) w' F [] := by
  have C := Ctx.start hp
  generalize hD : domL [] = D at C ⊢
  unfold juratlaw18_CrewPicks.f at H
  refine Calls.ofW Try.func5 rfl (by simp [Try.ntmps5]) ?_
  refine W.seq ?_
  refine W.region rfl ?_
  refine WL.val (Yl.assign (v := .bool false) rfl) ?_
  refine WL.done ?_
  refine W.seq ?_
  refine W.seq ?_
  refine W.region rfl ?_
  refine WL.val (Yl.move (v := .slice A1 n3 c2) rfl) ?_
  refine WL.val (Yl.lenN (A := A1) (l := n3) (q := c2) (n := (a0.length : Int)) rfl Try.underlying22 (by omega)) ?_
  refine WL.val (Yl.gtr (m := (a0.length : Int)) (n := 100) (q := decide ((a0.length : Int) > 100)) rfl rfl rfl) ?_
  refine WL.val (Yl.move (v := .bool (decide ((a0.length : Int) > 100))) rfl) ?_
  obtain ⟨g15, HE16, H⟩ := bindE H
  refine WL.cut (fun env_ w_ => env_ 22 = .bool g15 ∧ env_ 0 = .slice A1 n3 c2 ∧ env_ 1 = .slice A8 n10 c9 ∧ env_ 2 = .int .i64 a2 ∧ env_ 3 = .int .i64 a3 ∧ Ctx w F D w_ F []) ?_ ?_
  · skip
    rcases iteE HE16 with ⟨hc17, HE16⟩ | ⟨hc17, HE16⟩
    · skip
      refine WL.off rfl (congrArg Value.bool (decide_eq_true hc17)) ?_
      refine WL.off rfl (congrArg Value.bool (decide_eq_true hc17)) ?_
      refine WL.off rfl (congrArg Value.bool (decide_eq_true hc17)) ?_
      refine WL.val (Yl.pickT (v := .bool true) (congrArg Value.bool (decide_eq_true hc17)) rfl) ?_
      cases HE16
      exact WL.done ⟨rfl, rfl, rfl, rfl, rfl, C⟩
    · skip
      refine WL.on rfl (congrArg Value.bool (decide_eq_false hc17)) ?_
      refine WL.val (Yl.move (v := .slice A8 n10 c9) rfl) ?_
      refine WL.on rfl (congrArg Value.bool (decide_eq_false hc17)) ?_
      refine WL.val (Yl.lenN (A := A8) (l := n10) (q := c9) (n := (a1.length : Int)) rfl Try.underlying23 (by omega)) ?_
      refine WL.on rfl (congrArg Value.bool (decide_eq_false hc17)) ?_
      refine WL.val (Yl.gtr (m := (a1.length : Int)) (n := 100) (q := decide ((a1.length : Int) > 100)) rfl rfl rfl) ?_
      refine WL.val (Yl.pickF (v := .bool (decide ((a1.length : Int) > 100))) (congrArg Value.bool (decide_eq_false hc17)) rfl) ?_
      cases HE16
      exact WL.done ⟨rfl, rfl, rfl, rfl, rfl, C⟩
  · skip
    rintro env_ w_ ⟨ho18, ho19, ho20, ho21, ho22, C23⟩
    rcases iteE H with ⟨hc24, H⟩ | ⟨hc24, H⟩
    · skip
      refine W.condT (ho18.trans (congrArg Value.bool hc24)) ?_
      refine W.seq ?_
      refine W.region rfl ?_
      obtain ⟨r26, hg25, H⟩ := bindE H
      refine WL.call (args := #[]) (Yenter.fn Try.func7 (by kernel_rfl) rfl (argsE .nil)) (juratlaw18_awake.calls k _ F  (Ctx.pre (qs := []) (rest := []) C23)  r26 hg25) ?_
      rintro e_ w_ ⟨rfl, C27⟩
      refine ⟨_, rfl, ?_⟩
      have C28 : Ctx _ _ _ _ F [] := Ctx.call (qs := []) (rest := []) C23 C27
      refine WL.val (Yl.assign (v := .bool r26) rfl) ?_
      refine WL.done ?_
      refine W.ret ?_
      refine thenE_r ?_
      cases H
      exact post_r (resE1 rfl rfl) ⟨rfl, C28⟩
    · skip
      refine W.condF (ho18.trans (congrArg Value.bool (Bool.eq_false_iff.2 hc24))) ?_
      refine W.skip ?_
      refine W.seq ?_
      refine W.region rfl ?_
      obtain ⟨A29, c30, n31, p32, w33, hn34, hy35, C36, hR37⟩ := ev_lit0 (P := Try.prog) 3 (Kd.int .i64) C23 Try.underlying22 ti3
      refine WL.val (hy35 _ _) ?_
      refine WL.val (Yl.move (v := .slice A1 n3 c2) ho19) ?_
      obtain ⟨hc38, H⟩ := guardE H
      obtain ⟨A39, c40, n41, p42, w43, hn44, hy45, C46, hR47⟩ := ev_append' (P := Try.prog) (cb := c2) 3 (Kd.int .i64) [] [] C36 hR37 hn4 hS7 C36.fro Try.underlying22 ti3 rfl zo3 (by decide) (by decide) (by simpa using hc38)
      have C48 : Ctx _ _ _ _ F [p42] := C46
      rw [List.nil_append] at hn44 hR47
      refine WL.val (hy45 _ _ _ _ rfl rfl) ?_
      obtain ⟨A49, c50, n51, p52, w53, hn54, hy55, C56, hR57⟩ := ev_lit0 (P := Try.prog) 4 Kd.bool C48 Try.underlying23 ti4
      refine WL.val (hy55 _ _) ?_
      refine WL.val (Yl.move (v := .slice A8 n10 c9) ho20) ?_
      obtain ⟨hc58, H⟩ := guardE H
      obtain ⟨A59, c60, n61, p62, w63, hn64, hy65, C66, hR67⟩ := ev_append' (P := Try.prog) (cb := c9) 4 Kd.bool [] [p42] C56 hR57 hn11 hS14 C56.fro Try.underlying23 ti4 rfl zo4 (by decide) (by decide) (by simpa using hc58)
      have C68 : Ctx _ _ _ _ F [p62, p42] := C66
      rw [List.nil_append] at hn64 hR67
      refine WL.val (hy65 _ _ _ _ rfl rfl) ?_
      refine WL.val (Yl.assign (v := .slice A39 n41 c40) rfl) ?_
      refine WL.val (Yl.assign (v := .slice A59 n61 c60) rfl) ?_
      refine WL.done ?_
      refine W.seq ?_
      refine W.region rfl ?_
      refine WL.val (Yl.move (v := .slice A39 n41 c40) rfl) ?_
      refine WL.val (Yl.move (v := .slice A59 n61 c60) rfl) ?_
      refine WL.val (Yl.move (v := .int .i64 a2) ho21) ?_
      refine WL.val (Yl.move (v := .int .i64 a3) ho22) ?_
      have le69 : CH.le F (CH.join F p42) := CH.le_joinL _ _
      have lp70 : CH.le p42 (CH.join F p42) := CH.le_joinR (Ctx.dis_of [p62] [] C68)
      have C71 : Ctx _ _ _ _ (CH.join F p42) [p62] := Ctx.freeze [p62] [] C68
      have le72 : CH.le (CH.join F p42) (CH.join (CH.join F p42) p62) := CH.le_joinL _ _
      have lp73 : CH.le p62 (CH.join (CH.join F p42) p62) := CH.le_joinR (Ctx.dis_of [] [] C71)
      have C74 : Ctx _ _ _ _ (CH.join (CH.join F p42) p62) [] := Ctx.freeze [] [] C71
      obtain ⟨⟨r76, r77⟩, hg75, H⟩ := bindE H
      refine WL.call (args := #[.slice A39 n41 c40, .slice A59 n61 c60, .int .i64 a2, .int .i64 a3]) (Yenter.fn Try.func8 (by kernel_rfl) rfl (argsE (.cons rfl (.cons rfl (.cons rfl (.cons rfl .nil)))))) (crew_Pick.calls k _ (CH.join (CH.join F p42) p62) A39 c40 n41 a0 A59 c60 n61 a1 a2 a3 (Ctx.pre (qs := []) (rest := []) C74) hn44 (Row.len_le hR47).1 (Row.len_le hR47).2.1 (Sl.mono (Row.sl hR47) (CH.le_trans le69 le72) (CH.le_trans lp70 le72)) hn64 (Row.len_le hR67).1 (Row.len_le hR67).2.1 (Sl.mono (Row.sl hR67) (CH.le_trans le69 le72) lp73) r76 r77 hg75) ?_
      rintro e_ w_ ⟨A78, c79, n80, p82, rfl, C84, hn81, hR83⟩
      refine ⟨_, rfl, ?_⟩
      have hR85 : Row (Kd.int .i64) F p82 (.slice A78 n80 c79) r76 := hR83
      have C86 : Ctx _ _ _ _ F [p82, p62, p42] := Ctx.callL (qs := []) (rest := [p62, p42]) C68 (CH.le_trans le69 le72) C84
      refine WL.val (Yl.move (v := .tuple #[(.slice A78 n80 c79), (.int .i64 r77)]) rfl) ?_
      refine WL.val (Yl.extract (v := .slice A78 n80 c79) rfl rfl) ?_
      refine WL.val (Yl.extract (v := .int .i64 r77) rfl rfl) ?_
      refine WL.val (Yl.assign (v := .slice A78 n80 c79) rfl) ?_
      refine WL.val (Yl.assign (v := .int .i64 r77) rfl) ?_
      refine WL.done ?_
      refine W.seq ?_
      refine W.region rfl ?_
      refine WL.val (Yl.move (v := .slice A1 n3 c2) ho19) ?_
      refine WL.val (Yl.move (v := .slice A8 n10 c9) ho20) ?_
      refine WL.val (Yl.move (v := .int .i64 a2) ho21) ?_
      refine WL.val (Yl.move (v := .int .i64 a3) ho22) ?_
      obtain ⟨⟨r88, r89⟩, hg87, H⟩ := bindE H
      refine WL.call (args := #[.slice A1 n3 c2, .slice A8 n10 c9, .int .i64 a2, .int .i64 a3]) (Yenter.fn Try.func9 (by kernel_rfl) rfl (argsE (.cons rfl (.cons rfl (.cons rfl (.cons rfl .nil)))))) (juratref18_Pick.calls k _ F A1 c2 n3 a0 A8 c9 n10 a1 a2 a3 (Ctx.pre (qs := []) (rest := [p82, p62, p42]) C86) hn4 hl5 hm6 hS7 hn11 hl12 hm13 hS14 r88 r89 hg87) ?_
      rintro e_ w_ ⟨A90, c91, n92, p94, rfl, C96, hn93, hR95⟩
      refine ⟨_, rfl, ?_⟩
      have C97 : Ctx _ _ _ _ F [p94, p82, p62, p42] := Ctx.call (qs := []) (rest := [p82, p62, p42]) C86 C96
      refine WL.val (Yl.move (v := .tuple #[(.slice A90 n92 c91), (.int .i64 r89)]) rfl) ?_
      refine WL.val (Yl.extract (v := .slice A90 n92 c91) rfl rfl) ?_
      refine WL.val (Yl.extract (v := .int .i64 r89) rfl rfl) ?_
      refine WL.val (Yl.assign (v := .slice A90 n92 c91) rfl) ?_
      refine WL.val (Yl.assign (v := .int .i64 r89) rfl) ?_
      refine WL.done ?_
      refine W.seq ?_
      refine W.region rfl ?_
      refine WL.val (Yl.move (v := .int .i64 r77) rfl) ?_
      refine WL.val (Yl.move (v := .int .i64 r89) rfl) ?_
      refine WL.val (Yl.eql (m := r77) (n := r89) (q := decide (r77 = r89)) rfl rfl rfl) ?_
      refine WL.val (Yl.move (v := .bool (decide (r77 = r89))) rfl) ?_
      obtain ⟨g98, HE99, H⟩ := bindE H
      refine WL.cut (fun env_ w_ => env_ 8 = .bool g98 ∧ Ctx w F D w_ F [p94, p82, p62, p42]) ?_ ?_
      · skip
        rcases iteE HE99 with ⟨hc100, HE99⟩ | ⟨hc100, HE99⟩
        · skip
          refine WL.on rfl (congrArg Value.bool (decide_eq_true hc100)) ?_
          refine WL.val (Yl.move (v := .slice A78 n80 c79) rfl) ?_
          refine WL.on rfl (congrArg Value.bool (decide_eq_true hc100)) ?_
          refine WL.val (Yl.move (v := .slice A90 n92 c91) rfl) ?_
          refine WL.on rfl (congrArg Value.bool (decide_eq_true hc100)) ?_
          have le101 : CH.le F (CH.join F p82) := CH.le_joinL _ _
          have lp102 : CH.le p82 (CH.join F p82) := CH.le_joinR (Ctx.dis_of [p94] [p62, p42] C97)
          have C103 : Ctx _ _ _ _ (CH.join F p82) [p94, p62, p42] := Ctx.freeze [p94] [p62, p42] C97
          have le104 : CH.le (CH.join F p82) (CH.join (CH.join F p82) p94) := CH.le_joinL _ _
          have lp105 : CH.le p94 (CH.join (CH.join F p82) p94) := CH.le_joinR (Ctx.dis_of [] [p62, p42] C103)
          have C106 : Ctx _ _ _ _ (CH.join (CH.join F p82) p94) [p62, p42] := Ctx.freeze [] [p62, p42] C103
          obtain ⟨r108, hg107, HE99⟩ := bindE HE99
          refine WL.call (args := #[.slice A78 n80 c79, .slice A90 n92 c91]) (Yenter.fn Try.func10 (by kernel_rfl) rfl (argsE (.cons rfl (.cons rfl .nil)))) (juratref18_Same.calls k _ (CH.join (CH.join F p82) p94) A78 c79 n80 r76 A90 c91 n92 r88 C106.pre0 hn81 (Row.len_le hR85).1 (Row.len_le hR85).2.1 (Sl.mono (Row.sl hR85) (CH.le_trans le101 le104) (CH.le_trans lp102 le104)) hn93 (Row.len_le hR95).1 (Row.len_le hR95).2.1 (Sl.mono (Row.sl hR95) (CH.le_trans le101 le104) lp105) r108 hg107) ?_
          rintro e_ w_ ⟨rfl, ⟨m109, rfl⟩⟩
          refine ⟨_, rfl, ?_⟩
          have C110 := Ctx.drewN C97 m109
          refine WL.val (Yl.pickT (v := .bool r108) (congrArg Value.bool (decide_eq_true hc100)) rfl) ?_
          refine WL.val (Yl.move (v := .bool r108) rfl) ?_
          rcases iteE HE99 with ⟨hc111, HE99⟩ | ⟨hc111, HE99⟩
          · skip
            refine WL.on rfl (congrArg Value.bool hc111) ?_
            refine WL.val (Yl.move (v := .slice A39 n41 c40) rfl) ?_
            refine WL.on rfl (congrArg Value.bool hc111) ?_
            refine WL.val (Yl.move (v := .slice A59 n61 c60) rfl) ?_
            refine WL.on rfl (congrArg Value.bool hc111) ?_
            refine WL.val (Yl.move (v := .int .i64 a2) ho21) ?_
            refine WL.on rfl (congrArg Value.bool hc111) ?_
            have le112 : CH.le F (CH.join F p42) := CH.le_joinL _ _
            have lp113 : CH.le p42 (CH.join F p42) := CH.le_joinR (Ctx.dis_of [p94, p82, p62] [] C110)
            have C114 : Ctx _ _ _ _ (CH.join F p42) [p94, p82, p62] := Ctx.freeze [p94, p82, p62] [] C110
            have le115 : CH.le (CH.join F p42) (CH.join (CH.join F p42) p62) := CH.le_joinL _ _
            have lp116 : CH.le p62 (CH.join (CH.join F p42) p62) := CH.le_joinR (Ctx.dis_of [p94, p82] [] C114)
            have C117 : Ctx _ _ _ _ (CH.join (CH.join F p42) p62) [p94, p82] := Ctx.freeze [p94, p82] [] C114
            obtain ⟨r119, hg118, HE99⟩ := bindE HE99
            refine WL.call (args := #[.slice A39 n41 c40, .slice A59 n61 c60, .int .i64 a2]) (Yenter.fn Try.func11 (by kernel_rfl) rfl (argsE (.cons rfl (.cons rfl (.cons rfl .nil))))) (crew_Left.calls k _ (CH.join (CH.join F p42) p62) A39 c40 n41 a0 A59 c60 n61 a1 a2 (Ctx.pre (qs := []) (rest := [p94, p82]) C117) hn44 (Row.len_le hR47).1 (Row.len_le hR47).2.1 (Sl.mono (Row.sl hR47) (CH.le_trans le112 le115) (CH.le_trans lp113 le115)) hn64 (Row.len_le hR67).1 (Row.len_le hR67).2.1 (Sl.mono (Row.sl hR67) (CH.le_trans le112 le115) lp116) r119 hg118) ?_
            rintro e_ w_ ⟨rfl, C120⟩
            refine ⟨_, rfl, ?_⟩
            have C121 : Ctx _ _ _ _ F [p94, p82, p62, p42] := Ctx.callL (qs := []) (rest := [p94, p82, p62, p42]) C110 (CH.le_trans le112 le115) C120
            refine WL.on rfl (congrArg Value.bool hc111) ?_
            refine WL.val (Yl.move (v := .slice A1 n3 c2) ho19) ?_
            refine WL.on rfl (congrArg Value.bool hc111) ?_
            refine WL.val (Yl.move (v := .slice A8 n10 c9) ho20) ?_
            refine WL.on rfl (congrArg Value.bool hc111) ?_
            refine WL.val (Yl.move (v := .int .i64 a2) ho21) ?_
            refine WL.on rfl (congrArg Value.bool hc111) ?_
            obtain ⟨r123, hg122, HE99⟩ := bindE HE99
            refine WL.call (args := #[.slice A1 n3 c2, .slice A8 n10 c9, .int .i64 a2]) (Yenter.fn Try.func12 (by kernel_rfl) rfl (argsE (.cons rfl (.cons rfl (.cons rfl .nil))))) (juratref18_Left.calls k _ F A1 c2 n3 a0 A8 c9 n10 a1 a2 C121.pre0 hn4 hl5 hm6 hS7 hn11 hl12 hm13 hS14 r123 hg122) ?_
            rintro e_ w_ ⟨rfl, ⟨m124, rfl⟩⟩
            refine ⟨_, rfl, ?_⟩
            have C125 := Ctx.drewN C121 m124
            refine WL.on rfl (congrArg Value.bool hc111) ?_
            refine WL.val (Yl.eql (m := r119) (n := r123) (q := decide (r119 = r123)) rfl rfl rfl) ?_
            refine WL.val (Yl.pickT (v := .bool (decide (r119 = r123))) (congrArg Value.bool hc111) rfl) ?_
            refine WL.val (Yl.move (v := .bool (decide (r119 = r123))) rfl) ?_
            rcases iteE HE99 with ⟨hc126, HE99⟩ | ⟨hc126, HE99⟩
            · skip
              refine WL.on rfl (congrArg Value.bool (decide_eq_true hc126)) ?_
              obtain ⟨r128, hg127, HE99⟩ := bindE HE99
              refine WL.call (args := #[]) (Yenter.fn Try.func7 (by kernel_rfl) rfl (argsE .nil)) (juratlaw18_awake.calls k _ F  (Ctx.pre (qs := []) (rest := [p94, p82, p62, p42]) C125)  r128 hg127) ?_
              rintro e_ w_ ⟨rfl, C129⟩
              refine ⟨_, rfl, ?_⟩
              have C130 : Ctx _ _ _ _ F [p94, p82, p62, p42] := Ctx.call (qs := []) (rest := [p94, p82, p62, p42]) C125 C129
              refine WL.val (Yl.pickT (v := .bool r128) (congrArg Value.bool (decide_eq_true hc126)) rfl) ?_
              refine WL.val (Yl.assign (v := .bool r128) rfl) ?_
              cases HE99
              exact WL.done ⟨rfl, C130⟩
            · skip
              refine WL.off rfl (congrArg Value.bool (decide_eq_false hc126)) ?_
              refine WL.val (Yl.pickF (v := .bool false) (congrArg Value.bool (decide_eq_false hc126)) rfl) ?_
              refine WL.val (Yl.assign (v := .bool false) rfl) ?_
              cases HE99
              exact WL.done ⟨rfl, C125⟩
          · skip
            refine WL.off rfl (congrArg Value.bool (Bool.eq_false_iff.2 hc111)) ?_
            refine WL.off rfl (congrArg Value.bool (Bool.eq_false_iff.2 hc111)) ?_
            refine WL.off rfl (congrArg Value.bool (Bool.eq_false_iff.2 hc111)) ?_
            refine WL.off rfl (congrArg Value.bool (Bool.eq_false_iff.2 hc111)) ?_
            refine WL.off rfl (congrArg Value.bool (Bool.eq_false_iff.2 hc111)) ?_
            refine WL.off rfl (congrArg Value.bool (Bool.eq_false_iff.2 hc111)) ?_
            refine WL.off rfl (congrArg Value.bool (Bool.eq_false_iff.2 hc111)) ?_
            refine WL.off rfl (congrArg Value.bool (Bool.eq_false_iff.2 hc111)) ?_
            refine WL.off rfl (congrArg Value.bool (Bool.eq_false_iff.2 hc111)) ?_
            refine WL.val (Yl.pickF (v := .bool false) (congrArg Value.bool (Bool.eq_false_iff.2 hc111)) rfl) ?_
            refine WL.val (Yl.move (v := .bool false) rfl) ?_
            refine WL.off rfl rfl ?_
            refine WL.val (Yl.pickF (v := .bool false) rfl rfl) ?_
            refine WL.val (Yl.assign (v := .bool false) rfl) ?_
            cases HE99
            exact WL.done ⟨rfl, C110⟩
        · skip
          refine WL.off rfl (congrArg Value.bool (decide_eq_false hc100)) ?_
          refine WL.off rfl (congrArg Value.bool (decide_eq_false hc100)) ?_
          refine WL.off rfl (congrArg Value.bool (decide_eq_false hc100)) ?_
          refine WL.val (Yl.pickF (v := .bool false) (congrArg Value.bool (decide_eq_false hc100)) rfl) ?_
          refine WL.val (Yl.move (v := .bool false) rfl) ?_
          refine WL.off rfl rfl ?_
          refine WL.off rfl rfl ?_
          refine WL.off rfl rfl ?_
          refine WL.off rfl rfl ?_
          refine WL.off rfl rfl ?_
          refine WL.off rfl rfl ?_
          refine WL.off rfl rfl ?_
          refine WL.off rfl rfl ?_
          refine WL.off rfl rfl ?_
          refine WL.val (Yl.pickF (v := .bool false) rfl rfl) ?_
          refine WL.val (Yl.move (v := .bool false) rfl) ?_
          refine WL.off rfl rfl ?_
          refine WL.val (Yl.pickF (v := .bool false) rfl rfl) ?_
          refine WL.val (Yl.assign (v := .bool false) rfl) ?_
          cases HE99
          exact WL.done ⟨rfl, C97⟩
      · skip
        rintro env_ w_ ⟨ho131, C132⟩
        refine W.ret ?_
        have C133 : Ctx _ _ _ _ F [p82, p62, p42] := Ctx.drop [] [p82, p62, p42] C132
        have C134 : Ctx _ _ _ _ F [p62, p42] := Ctx.drop [] [p62, p42] C133
        have C135 : Ctx _ _ _ _ F [p42] := Ctx.drop [] [p42] C134
        have C136 : Ctx _ _ _ _ F [] := Ctx.drop [] [] C135
        cases H
        exact post_r (resE1 rfl ho131) ⟨rfl, C136⟩
/-! ### jurat/juratlaw18.CrewLeft: function 6 -/
def juratlaw18_CrewLeft.f (k : Nat) (a0 : List Int) (a1 : List Bool) (a2 : Int) (a3 : Int) : Option Bool := (juratref18_Right.f k a0 a1).bind fun r16 => if (((!r16) || (decide (a3 < 1))) || (decide (a2 < 0))) = true then (if a0.length * 8 ≤ 140737488355328 then (if a1.length * 1 ≤ 140737488355328 then ((crew_Pick.f k a0 a1 a2 a3).bind fun ⟨r75, r76⟩ => (if r76 = 1 then ((juratlaw18_awake.f k ).bind fun r90 => some (r90)) else (some (false))).bind fun g86 => some g86) else none) else none) else (if a0.length * 8 ≤ 140737488355328 then (if a1.length * 1 ≤ 140737488355328 then ((crew_Left.f k a0 a1 a2).bind fun r145 => (crew_Pick.f k a0 a1 a2 a3).bind fun ⟨r193, r194⟩ => if a3 ≤ r145 then ((if r194 = 0 then (if (r193.length : Int) = a3 then ((juratlaw18_awake.f k ).bind fun r210 => some (r210)) else (some (false))) else (some (false))).bind fun g205 => some g205) else ((if r194 = 70 then (if (r193.length : Int) = 0 then ((juratlaw18_awake.f k ).bind fun r225 => some (r225)) else (some (false))) else (if r194 = 180 then (if (r193.length : Int) = 0 then ((juratlaw18_awake.f k ).bind fun r231 => some (r231)) else (some (false))) else (some (false)))).bind fun g220 => some g220)) else none) else none)
set_option maxRecDepth 100000 in
set_option maxHeartbeats 4000000 in
theorem juratlaw18_CrewLeft.calls (k : Nat) (w : World) (F : CH) (A1 : Option Addr) (c2 : Nat) (n3 : Nat) (a0 : List Int) (A8 : Option Addr) (c9 : Nat) (n10 : Nat) (a1 : List Bool) (a2 : Int) (a3 : Int) (hp : Pre w F []) (hn4 : n3 = a0.length) (hl5 : a0.length ≤ c2) (hm6 : c2 ≤ maxLen) (hS7 : Sl (Kd.int .i64) F F A1 a0) (hn11 : n10 = a1.length) (hl12 : a1.length ≤ c9) (hm13 : c9 ≤ maxLen) (hS14 : Sl Kd.bool F F A8 a1) (r0_ : Bool) (H : juratlaw18_CrewLeft.f k a0 a1 a2 a3 = some r0_) :
    Calls Try.prog 6 #[.slice A1 n3 c2, .slice A8 n10 c9, .int .i64 a2, .int .i64 a3] w fun e w' => e = .returned (.bool r0_) ∧ Ctx w F (domL []) w' F [] := by
  have C := Ctx.start hp
  generalize hD : domL [] = D at C ⊢
  unfold juratlaw18_CrewLeft.f at H
  refine Calls.ofW Try.func6 rfl (by simp [Try.ntmps6]) ?_
  refine W.seq ?_
  refine W.region rfl ?_
  refine WL.val (Yl.assign (v := .bool false) rfl) ?_
  refine WL.done ?_
  refine W.seq ?_
  refine W.seq ?_
  refine W.region rfl ?_
  refine WL.val (Yl.move (v := .slice A1 n3 c2) rfl) ?_
  refine WL.val (Yl.move (v := .slice A8 n10 c9) rfl) ?_
  obtain ⟨r16, hg15, H⟩ := bindE H
  refine WL.call (args := #[.slice A1 n3 c2, .slice A8 n10 c9]) (Yenter.fn Try.func13 (by kernel_rfl) rfl (argsE (.cons rfl (.cons rfl .nil)))) (juratref18_Right.calls k _ F A1 c2 n3 a0 A8 c9 n10 a1 C.pre0 hn4 hl5 hm6 hS7 hn11 hl12 hm13 hS14 r16 hg15) ?_
  rintro e_ w_ ⟨rfl, ⟨m17, rfl⟩⟩
  refine ⟨_, rfl, ?_⟩
  have C18 := Ctx.drewN C m17
  refine WL.val (Yl.not (p := r16) (q := !r16) rfl rfl) ?_
  refine WL.val (Yl.move (v := .bool (!r16)) rfl) ?_
  refine WL.cut (fun env_ w_ => env_ 25 = .bool (((!r16) || (decide (a3 < 1))) || (decide (a2 < 0))) ∧ env_ 0 = .slice A1 n3 c2 ∧ env_ 1 = .slice A8 n10 c9 ∧ env_ 2 = .int .i64 a2 ∧ env_ 3 = .int .i64 a3 ∧ Ctx w F D w_ F []) ?_ ?_
  · skip
    rcases Bool.eq_false_or_eq_true (!r16) with hb19 | hb19
    · skip
      refine WL.off rfl (congrArg Value.bool hb19) ?_
      refine WL.off rfl (congrArg Value.bool hb19) ?_
      refine WL.val (Yl.pickT (v := .bool true) (congrArg Value.bool hb19) rfl) ?_
      refine WL.val (Yl.move (v := .bool true) rfl) ?_
      refine WL.off rfl rfl ?_
      refine WL.off rfl rfl ?_
      refine WL.val (Yl.pickT (v := .bool true) rfl rfl) ?_
      exact WL.done ⟨(congrArg Value.bool (show true = (((!r16) || (decide (a3 < 1))) || (decide (a2 < 0))) from by simp [hb19])), rfl, rfl, rfl, rfl, C18⟩
    · skip
      refine WL.on rfl (congrArg Value.bool hb19) ?_
      refine WL.val (Yl.move (v := .int .i64 a3) rfl) ?_
      refine WL.on rfl (congrArg Value.bool hb19) ?_
      refine WL.val (Yl.lss (m := a3) (n := 1) (q := decide (a3 < 1)) rfl rfl rfl) ?_
      refine WL.val (Yl.pickF (v := .bool (decide (a3 < 1))) (congrArg Value.bool hb19) rfl) ?_
      refine WL.val (Yl.move (v := .bool (decide (a3 < 1))) rfl) ?_
      rcases Bool.eq_false_or_eq_true (decide (a3 < 1)) with hb20 | hb20
      · skip
        refine WL.off rfl (congrArg Value.bool hb20) ?_
        refine WL.off rfl (congrArg Value.bool hb20) ?_
        refine WL.val (Yl.pickT (v := .bool true) (congrArg Value.bool hb20) rfl) ?_
        exact WL.done ⟨(congrArg Value.bool (show true = (((!r16) || (decide (a3 < 1))) || (decide (a2 < 0))) from by simp [hb19, hb20])), rfl, rfl, rfl, rfl, C18⟩
      · skip
        refine WL.on rfl (congrArg Value.bool hb20) ?_
        refine WL.val (Yl.move (v := .int .i64 a2) rfl) ?_
        refine WL.on rfl (congrArg Value.bool hb20) ?_
        refine WL.val (Yl.lss (m := a2) (n := 0) (q := decide (a2 < 0)) rfl rfl rfl) ?_
        refine WL.val (Yl.pickF (v := .bool (decide (a2 < 0))) (congrArg Value.bool hb20) rfl) ?_
        exact WL.done ⟨(congrArg Value.bool (show (decide (a2 < 0)) = (((!r16) || (decide (a3 < 1))) || (decide (a2 < 0))) from by simp [hb19, hb20])), rfl, rfl, rfl, rfl, C18⟩
  · skip
    rintro env_ w_ ⟨ho21, ho22, ho23, ho24, ho25, C26⟩
    rcases iteE H with ⟨hc27, H⟩ | ⟨hc27, H⟩
    · skip
      refine W.condT (ho21.trans (congrArg Value.bool hc27)) ?_
      refine W.seq ?_
      refine W.region rfl ?_
      obtain ⟨A28, c29, n30, p31, w32, hn33, hy34, C35, hR36⟩ := ev_lit0 (P := Try.prog) 3 (Kd.int .i64) C26 Try.underlying22 ti3
      refine WL.val (hy34 _ _) ?_
      refine WL.val (Yl.move (v := .slice A1 n3 c2) ho22) ?_
      obtain ⟨hc37, H⟩ := guardE H
      obtain ⟨A38, c39, n40, p41, w42, hn43, hy44, C45, hR46⟩ := ev_append' (P := Try.prog) (cb := c2) 3 (Kd.int .i64) [] [] C35 hR36 hn4 hS7 C35.fro Try.underlying22 ti3 rfl zo3 (by decide) (by decide) (by simpa using hc37)
      have C47 : Ctx _ _ _ _ F [p41] := C45
      rw [List.nil_append] at hn43 hR46
      refine WL.val (hy44 _ _ _ _ rfl rfl) ?_
      obtain ⟨A48, c49, n50, p51, w52, hn53, hy54, C55, hR56⟩ := ev_lit0 (P := Try.prog) 4 Kd.bool C47 Try.underlying23 ti4
      refine WL.val (hy54 _ _) ?_
      refine WL.val (Yl.move (v := .slice A8 n10 c9) ho23) ?_
      obtain ⟨hc57, H⟩ := guardE H
      obtain ⟨A58, c59, n60, p61, w62, hn63, hy64, C65, hR66⟩ := ev_append' (P := Try.prog) (cb := c9) 4 Kd.bool [] [p41] C55 hR56 hn11 hS14 C55.fro Try.underlying23 ti4 rfl zo4 (by decide) (by decide) (by simpa using hc57)
      have C67 : Ctx _ _ _ _ F [p61, p41] := C65
      rw [List.nil_append] at hn63 hR66
      refine WL.val (hy64 _ _ _ _ rfl rfl) ?_
      refine WL.val (Yl.move (v := .int .i64 a2) ho24) ?_
      refine WL.val (Yl.move (v := .int .i64 a3) ho25) ?_
      have le68 : CH.le F (CH.join F p41) := CH.le_joinL _ _
      have lp69 : CH.le p41 (CH.join F p41) := CH.le_joinR (Ctx.dis_of [p61] [] C67)
      have C70 : Ctx _ _ _ _ (CH.join F p41) [p61] := Ctx.freeze [p61] [] C67
      have le71 : CH.le (CH.join F p41) (CH.join (CH.join F p41) p61) := CH.le_joinL _ _
      have lp72 : CH.le p61 (CH.join (CH.join F p41) p61) := CH.le_joinR (Ctx.dis_of [] [] C70)
      have C73 : Ctx _ _ _ _ (CH.join (CH.join F p41) p61) [] := Ctx.freeze [] [] C70
      obtain ⟨⟨r75, r76⟩, hg74, H⟩ := bindE H
      refine WL.call (args := #[.slice A38 n40 c39, .slice A58 n60 c59, .int .i64 a2, .int .i64 a3]) (Yenter.fn Try.func8 (by kernel_rfl) rfl (argsE (.cons rfl (.cons rfl (.cons rfl (.cons rfl .nil)))))) (crew_Pick.calls k _ (CH.join (CH.join F p41) p61) A38 c39 n40 a0 A58 c59 n60 a1 a2 a3 (Ctx.pre (qs := []) (rest := []) C73) hn43 (Row.len_le hR46).1 (Row.len_le hR46).2.1 (Sl.mono (Row.sl hR46) (CH.le_trans le68 le71) (CH.le_trans lp69 le71)) hn63 (Row.len_le hR66).1 (Row.len_le hR66).2.1 (Sl.mono (Row.sl hR66) (CH.le_trans le68 le71) lp72) r75 r76 hg74) ?_
      rintro e_ w_ ⟨A77, c78, n79, p81, rfl, C83, hn80, hR82⟩
      refine ⟨_, rfl, ?_⟩
      have hR84 : Row (Kd.int .i64) F p81 (.slice A77 n79 c78) r75 := hR82
      have C85 : Ctx _ _ _ _ F [p81, p61, p41] := Ctx.callL (qs := []) (rest := [p61, p41]) C67 (CH.le_trans le68 le71) C83
      refine WL.val (Yl.move (v := .tuple #[(.slice A77 n79 c78), (.int .i64 r76)]) rfl) ?_
      refine WL.val (Yl.extract (v := .slice A77 n79 c78) rfl rfl) ?_
      refine WL.val (Yl.extract (v := .int .i64 r76) rfl rfl) ?_
      refine WL.val (Yl.assign (v := .slice A77 n79 c78) rfl) ?_
      refine WL.val (Yl.assign (v := .int .i64 r76) rfl) ?_
      refine WL.done ?_
      refine W.seq ?_
      refine W.region rfl ?_
      refine WL.val (Yl.move (v := .int .i64 r76) rfl) ?_
      refine WL.val (Yl.eql (m := r76) (n := 1) (q := decide (r76 = 1)) rfl rfl rfl) ?_
      refine WL.val (Yl.move (v := .bool (decide (r76 = 1))) rfl) ?_
      obtain ⟨g86, HE87, H⟩ := bindE H
      refine WL.cut (fun env_ w_ => env_ 8 = .bool g86 ∧ Ctx w F D w_ F [p81, p61, p41]) ?_ ?_
      · skip
        rcases iteE HE87 with ⟨hc88, HE87⟩ | ⟨hc88, HE87⟩
        · skip
          refine WL.on rfl (congrArg Value.bool (decide_eq_true hc88)) ?_
          obtain ⟨r90, hg89, HE87⟩ := bindE HE87
          refine WL.call (args := #[]) (Yenter.fn Try.func7 (by kernel_rfl) rfl (argsE .nil)) (juratlaw18_awake.calls k _ F  (Ctx.pre (qs := []) (rest := [p81, p61, p41]) C85)  r90 hg89) ?_
          rintro e_ w_ ⟨rfl, C91⟩
          refine ⟨_, rfl, ?_⟩
          have C92 : Ctx _ _ _ _ F [p81, p61, p41] := Ctx.call (qs := []) (rest := [p81, p61, p41]) C85 C91
          refine WL.val (Yl.pickT (v := .bool r90) (congrArg Value.bool (decide_eq_true hc88)) rfl) ?_
          refine WL.val (Yl.assign (v := .bool r90) rfl) ?_
          cases HE87
          exact WL.done ⟨rfl, C92⟩
        · skip
          refine WL.off rfl (congrArg Value.bool (decide_eq_false hc88)) ?_
          refine WL.val (Yl.pickF (v := .bool false) (congrArg Value.bool (decide_eq_false hc88)) rfl) ?_
          refine WL.val (Yl.assign (v := .bool false) rfl) ?_
          cases HE87
          exact WL.done ⟨rfl, C85⟩
      · skip
        rintro env_ w_ ⟨ho93, C94⟩
        refine W.ret ?_
        refine thenE_r ?_
        have C95 : Ctx _ _ _ _ F [p61, p41] := Ctx.drop [] [p61, p41] C94
        have C96 : Ctx _ _ _ _ F [p41] := Ctx.drop [] [p41] C95
        have C97 : Ctx _ _ _ _ F [] := Ctx.drop [] [] C96
        cases H
        exact post_r (resE1 rfl ho93) ⟨rfl, C97⟩
    · skip
      refine W.condF (ho21.trans (congrArg Value.bool (Bool.eq_false_iff.2 hc27))) ?_
      refine W.skip ?_
      refine W.seq ?_
      refine W.region rfl ?_
      obtain ⟨A98, c99, n100, p101, w102, hn103, hy104, C105, hR106⟩ := ev_lit0 (P := Try.prog) 3 (Kd.int .i64) C26 Try.underlying22 ti3
      refine WL.val (hy104 _ _) ?_
      refine WL.val (Yl.move (v := .slice A1 n3 c2) ho22) ?_
      obtain ⟨hc107, H⟩ := guardE H
      obtain ⟨A108, c109, n110, p111, w112, hn113, hy114, C115, hR116⟩ := ev_append' (P := Try.prog) (cb := c2) 3 (Kd.int .i64) [] [] C105 hR106 hn4 hS7 C105.fro Try.underlying22 ti3 rfl zo3 (by decide) (by decide) (by simpa using hc107)
      have C117 : Ctx _ _ _ _ F [p111] := C115
      rw [List.nil_append] at hn113 hR116
      refine WL.val (hy114 _ _ _ _ rfl rfl) ?_
      obtain ⟨A118, c119, n120, p121, w122, hn123, hy124, C125, hR126⟩ := ev_lit0 (P := Try.prog) 4 Kd.bool C117 Try.underlying23 ti4
      refine WL.val (hy124 _ _) ?_
      refine WL.val (Yl.move (v := .slice A8 n10 c9) ho23) ?_
      obtain ⟨hc127, H⟩ := guardE H
      obtain ⟨A128, c129, n130, p131, w132, hn133, hy134, C135, hR136⟩ := ev_append' (P := Try.prog) (cb := c9) 4 Kd.bool [] [p111] C125 hR126 hn11 hS14 C125.fro Try.underlying23 ti4 rfl zo4 (by decide) (by decide) (by simpa using hc127)
      have C137 : Ctx _ _ _ _ F [p131, p111] := C135
      rw [List.nil_append] at hn133 hR136
      refine WL.val (hy134 _ _ _ _ rfl rfl) ?_
      refine WL.val (Yl.move (v := .int .i64 a2) ho24) ?_
      have le138 : CH.le F (CH.join F p111) := CH.le_joinL _ _
      have lp139 : CH.le p111 (CH.join F p111) := CH.le_joinR (Ctx.dis_of [p131] [] C137)
      have C140 : Ctx _ _ _ _ (CH.join F p111) [p131] := Ctx.freeze [p131] [] C137
      have le141 : CH.le (CH.join F p111) (CH.join (CH.join F p111) p131) := CH.le_joinL _ _
      have lp142 : CH.le p131 (CH.join (CH.join F p111) p131) := CH.le_joinR (Ctx.dis_of [] [] C140)
      have C143 : Ctx _ _ _ _ (CH.join (CH.join F p111) p131) [] := Ctx.freeze [] [] C140
      obtain ⟨r145, hg144, H⟩ := bindE H
      refine WL.call (args := #[.slice A108 n110 c109, .slice A128 n130 c129, .int .i64 a2]) (Yenter.fn Try.func11 (by kernel_rfl) rfl (argsE (.cons rfl (.cons rfl (.cons rfl .nil))))) (crew_Left.calls k _ (CH.join (CH.join F p111) p131) A108 c109 n110 a0 A128 c129 n130 a1 a2 (Ctx.pre (qs := []) (rest := []) C143) hn113 (Row.len_le hR116).1 (Row.len_le hR116).2.1 (Sl.mono (Row.sl hR116) (CH.le_trans le138 le141) (CH.le_trans lp139 le141)) hn133 (Row.len_le hR136).1 (Row.len_le hR136).2.1 (Sl.mono (Row.sl hR136) (CH.le_trans le138 le141) lp142) r145 hg144) ?_
      rintro e_ w_ ⟨rfl, C146⟩
      refine ⟨_, rfl, ?_⟩
      have C147 : Ctx _ _ _ _ F [p131, p111] := Ctx.callL (qs := []) (rest := [p131, p111]) C137 (CH.le_trans le138 le141) C146
      refine WL.val (Yl.assign (v := .int .i64 r145) rfl) ?_
      refine WL.done ?_
      refine W.seq ?_
      refine W.region rfl ?_
      obtain ⟨A148, c149, n150, p151, w152, hn153, hy154, C155, hR156⟩ := ev_lit0 (P := Try.prog) 3 (Kd.int .i64) C147 Try.underlying22 ti3
      refine WL.val (hy154 _ _) ?_
      refine WL.val (Yl.move (v := .slice A1 n3 c2) ho22) ?_
      obtain ⟨A157, c158, n159, p160, w161, hn162, hy163, C164, hR165⟩ := ev_append' (P := Try.prog) (cb := c2) 3 (Kd.int .i64) [] [p131, p111] C155 hR156 hn4 hS7 C155.fro Try.underlying22 ti3 rfl zo3 (by decide) (by decide) (by simpa using hc107)
      have C166 : Ctx _ _ _ _ F [p160, p131, p111] := C164
      rw [List.nil_append] at hn162 hR165
      refine WL.val (hy163 _ _ _ _ rfl rfl) ?_
      obtain ⟨A167, c168, n169, p170, w171, hn172, hy173, C174, hR175⟩ := ev_lit0 (P := Try.prog) 4 Kd.bool C166 Try.underlying23 ti4
      refine WL.val (hy173 _ _) ?_
      refine WL.val (Yl.move (v := .slice A8 n10 c9) ho23) ?_
      obtain ⟨A176, c177, n178, p179, w180, hn181, hy182, C183, hR184⟩ := ev_append' (P := Try.prog) (cb := c9) 4 Kd.bool [] [p160, p131, p111] C174 hR175 hn11 hS14 C174.fro Try.underlying23 ti4 rfl zo4 (by decide) (by decide) (by simpa using hc127)
      have C185 : Ctx _ _ _ _ F [p179, p160, p131, p111] := C183
      rw [List.nil_append] at hn181 hR184
      refine WL.val (hy182 _ _ _ _ rfl rfl) ?_
      refine WL.val (Yl.move (v := .int .i64 a2) ho24) ?_
      refine WL.val (Yl.move (v := .int .i64 a3) ho25) ?_
      have le186 : CH.le F (CH.join F p160) := CH.le_joinL _ _
      have lp187 : CH.le p160 (CH.join F p160) := CH.le_joinR (Ctx.dis_of [p179] [p131, p111] C185)
      have C188 : Ctx _ _ _ _ (CH.join F p160) [p179, p131, p111] := Ctx.freeze [p179] [p131, p111] C185
      have le189 : CH.le (CH.join F p160) (CH.join (CH.join F p160) p179) := CH.le_joinL _ _
      have lp190 : CH.le p179 (CH.join (CH.join F p160) p179) := CH.le_joinR (Ctx.dis_of [] [p131, p111] C188)
      have C191 : Ctx _ _ _ _ (CH.join (CH.join F p160) p179) [p131, p111] := Ctx.freeze [] [p131, p111] C188
      obtain ⟨⟨r193, r194⟩, hg192, H⟩ := bindE H
      refine WL.call (args := #[.slice A157 n159 c158, .slice A176 n178 c177, .int .i64 a2, .int .i64 a3]) (Yenter.fn Try.func8 (by kernel_rfl) rfl (argsE (.cons rfl (.cons rfl (.cons rfl (.cons rfl .nil)))))) (crew_Pick.calls k _ (CH.join (CH.join F p160) p179) A157 c158 n159 a0 A176 c177 n178 a1 a2 a3 (Ctx.pre (qs := []) (rest := [p131, p111]) C191) hn162 (Row.len_le hR165).1 (Row.len_le hR165).2.1 (Sl.mono (Row.sl hR165) (CH.le_trans le186 le189) (CH.le_trans lp187 le189)) hn181 (Row.len_le hR184).1 (Row.len_le hR184).2.1 (Sl.mono (Row.sl hR184) (CH.le_trans le186 le189) lp190) r193 r194 hg192) ?_
      rintro e_ w_ ⟨A195, c196, n197, p199, rfl, C201, hn198, hR200⟩
      refine ⟨_, rfl, ?_⟩
      have hR202 : Row (Kd.int .i64) F p199 (.slice A195 n197 c196) r193 := hR200
      have C203 : Ctx _ _ _ _ F [p199, p179, p160, p131, p111] := Ctx.callL (qs := []) (rest := [p179, p160, p131, p111]) C185 (CH.le_trans le186 le189) C201
      refine WL.val (Yl.move (v := .tuple #[(.slice A195 n197 c196), (.int .i64 r194)]) rfl) ?_
      refine WL.val (Yl.extract (v := .slice A195 n197 c196) rfl rfl) ?_
      refine WL.val (Yl.extract (v := .int .i64 r194) rfl rfl) ?_
      refine WL.val (Yl.assign (v := .slice A195 n197 c196) rfl) ?_
      refine WL.val (Yl.assign (v := .int .i64 r194) rfl) ?_
      refine WL.done ?_
      refine W.seq ?_
      refine W.seq ?_
      refine W.region rfl ?_
      refine WL.val (Yl.move (v := .int .i64 a3) ho25) ?_
      refine WL.val (Yl.move (v := .int .i64 r145) rfl) ?_
      refine WL.val (Yl.leq (m := a3) (n := r145) (q := decide (a3 ≤ r145)) rfl rfl rfl) ?_
      refine WL.done ?_
      rcases iteE H with ⟨hc204, H⟩ | ⟨hc204, H⟩
      · skip
        refine W.condT (congrArg Value.bool (decide_eq_true hc204)) ?_
        refine W.seq ?_
        refine W.region rfl ?_
        refine WL.val (Yl.move (v := .int .i64 r194) rfl) ?_
        refine WL.val (Yl.eql (m := r194) (n := 0) (q := decide (r194 = 0)) rfl rfl rfl) ?_
        refine WL.val (Yl.move (v := .bool (decide (r194 = 0))) rfl) ?_
        obtain ⟨g205, HE206, H⟩ := bindE H
        refine WL.cut (fun env_ w_ => env_ 8 = .bool g205 ∧ Ctx w F D w_ F [p199, p179, p160, p131, p111]) ?_ ?_
        · skip
          rcases iteE HE206 with ⟨hc207, HE206⟩ | ⟨hc207, HE206⟩
          · skip
            refine WL.on rfl (congrArg Value.bool (decide_eq_true hc207)) ?_
            refine WL.val (Yl.move (v := .slice A195 n197 c196) rfl) ?_
            refine WL.on rfl (congrArg Value.bool (decide_eq_true hc207)) ?_
            refine WL.val (Yl.lenN (A := A195) (l := n197) (q := c196) (n := (r193.length : Int)) rfl Try.underlying22 (by omega)) ?_
            refine WL.on rfl (congrArg Value.bool (decide_eq_true hc207)) ?_
            refine WL.val (Yl.move (v := .int .i64 a3) ho25) ?_
            refine WL.on rfl (congrArg Value.bool (decide_eq_true hc207)) ?_
            refine WL.val (Yl.eql (m := (r193.length : Int)) (n := a3) (q := decide ((r193.length : Int) = a3)) rfl rfl rfl) ?_
            refine WL.val (Yl.pickT (v := .bool (decide ((r193.length : Int) = a3))) (congrArg Value.bool (decide_eq_true hc207)) rfl) ?_
            refine WL.val (Yl.move (v := .bool (decide ((r193.length : Int) = a3))) rfl) ?_
            rcases iteE HE206 with ⟨hc208, HE206⟩ | ⟨hc208, HE206⟩
            · skip
              refine WL.on rfl (congrArg Value.bool (decide_eq_true hc208)) ?_
              obtain ⟨r210, hg209, HE206⟩ := bindE HE206
              refine WL.call (args := #[]) (Yenter.fn Try.func7 (by kernel_rfl) rfl (argsE .nil)) (juratlaw18_awake.calls k _ F  (Ctx.pre (qs := []) (rest := [p199, p179, p160, p131, p111]) C203)  r210 hg209) ?_
              rintro e_ w_ ⟨rfl, C211⟩
              refine ⟨_, rfl, ?_⟩
              have C212 : Ctx _ _ _ _ F [p199, p179, p160, p131, p111] := Ctx.call (qs := []) (rest := [p199, p179, p160, p131, p111]) C203 C211
              refine WL.val (Yl.pickT (v := .bool r210) (congrArg Value.bool (decide_eq_true hc208)) rfl) ?_
              refine WL.val (Yl.assign (v := .bool r210) rfl) ?_
              cases HE206
              exact WL.done ⟨rfl, C212⟩
            · skip
              refine WL.off rfl (congrArg Value.bool (decide_eq_false hc208)) ?_
              refine WL.val (Yl.pickF (v := .bool false) (congrArg Value.bool (decide_eq_false hc208)) rfl) ?_
              refine WL.val (Yl.assign (v := .bool false) rfl) ?_
              cases HE206
              exact WL.done ⟨rfl, C203⟩
          · skip
            refine WL.off rfl (congrArg Value.bool (decide_eq_false hc207)) ?_
            refine WL.off rfl (congrArg Value.bool (decide_eq_false hc207)) ?_
            refine WL.off rfl (congrArg Value.bool (decide_eq_false hc207)) ?_
            refine WL.off rfl (congrArg Value.bool (decide_eq_false hc207)) ?_
            refine WL.val (Yl.pickF (v := .bool false) (congrArg Value.bool (decide_eq_false hc207)) rfl) ?_
            refine WL.val (Yl.move (v := .bool false) rfl) ?_
            refine WL.off rfl rfl ?_
            refine WL.val (Yl.pickF (v := .bool false) rfl rfl) ?_
            refine WL.val (Yl.assign (v := .bool false) rfl) ?_
            cases HE206
            exact WL.done ⟨rfl, C203⟩
        · skip
          rintro env_ w_ ⟨ho213, C214⟩
          refine W.ret ?_
          refine thenE_r ?_
          have C215 : Ctx _ _ _ _ F [p179, p160, p131, p111] := Ctx.drop [] [p179, p160, p131, p111] C214
          have C216 : Ctx _ _ _ _ F [p160, p131, p111] := Ctx.drop [] [p160, p131, p111] C215
          have C217 : Ctx _ _ _ _ F [p131, p111] := Ctx.drop [] [p131, p111] C216
          have C218 : Ctx _ _ _ _ F [p111] := Ctx.drop [] [p111] C217
          have C219 : Ctx _ _ _ _ F [] := Ctx.drop [] [] C218
          cases H
          exact post_r (resE1 rfl ho213) ⟨rfl, C219⟩
      · skip
        refine W.condF (congrArg Value.bool (decide_eq_false hc204)) ?_
        refine W.skip ?_
        refine W.seq ?_
        refine W.region rfl ?_
        refine WL.val (Yl.move (v := .int .i64 r194) rfl) ?_
        refine WL.val (Yl.eql (m := r194) (n := 70) (q := decide (r194 = 70)) rfl rfl rfl) ?_
        refine WL.val (Yl.move (v := .bool (decide (r194 = 70))) rfl) ?_
        obtain ⟨g220, HE221, H⟩ := bindE H
        refine WL.cut (fun env_ w_ => env_ 8 = .bool g220 ∧ Ctx w F D w_ F [p199, p179, p160, p131, p111]) ?_ ?_
        · skip
          rcases iteE HE221 with ⟨hc222, HE221⟩ | ⟨hc222, HE221⟩
          · skip
            refine WL.off rfl (congrArg Value.bool (decide_eq_true hc222)) ?_
            refine WL.off rfl (congrArg Value.bool (decide_eq_true hc222)) ?_
            refine WL.val (Yl.pickT (v := .bool true) (congrArg Value.bool (decide_eq_true hc222)) rfl) ?_
            refine WL.val (Yl.move (v := .bool true) rfl) ?_
            refine WL.on rfl rfl ?_
            refine WL.val (Yl.move (v := .slice A195 n197 c196) rfl) ?_
            refine WL.on rfl rfl ?_
            refine WL.val (Yl.lenN (A := A195) (l := n197) (q := c196) (n := (r193.length : Int)) rfl Try.underlying22 (by omega)) ?_
            refine WL.on rfl rfl ?_
            refine WL.val (Yl.eql (m := (r193.length : Int)) (n := 0) (q := decide ((r193.length : Int) = 0)) rfl rfl rfl) ?_
            refine WL.val (Yl.pickT (v := .bool (decide ((r193.length : Int) = 0))) rfl rfl) ?_
            refine WL.val (Yl.move (v := .bool (decide ((r193.length : Int) = 0))) rfl) ?_
            rcases iteE HE221 with ⟨hc223, HE221⟩ | ⟨hc223, HE221⟩
            · skip
              refine WL.on rfl (congrArg Value.bool (decide_eq_true hc223)) ?_
              obtain ⟨r225, hg224, HE221⟩ := bindE HE221
              refine WL.call (args := #[]) (Yenter.fn Try.func7 (by kernel_rfl) rfl (argsE .nil)) (juratlaw18_awake.calls k _ F  (Ctx.pre (qs := []) (rest := [p199, p179, p160, p131, p111]) C203)  r225 hg224) ?_
              rintro e_ w_ ⟨rfl, C226⟩
              refine ⟨_, rfl, ?_⟩
              have C227 : Ctx _ _ _ _ F [p199, p179, p160, p131, p111] := Ctx.call (qs := []) (rest := [p199, p179, p160, p131, p111]) C203 C226
              refine WL.val (Yl.pickT (v := .bool r225) (congrArg Value.bool (decide_eq_true hc223)) rfl) ?_
              refine WL.val (Yl.assign (v := .bool r225) rfl) ?_
              cases HE221
              exact WL.done ⟨rfl, C227⟩
            · skip
              refine WL.off rfl (congrArg Value.bool (decide_eq_false hc223)) ?_
              refine WL.val (Yl.pickF (v := .bool false) (congrArg Value.bool (decide_eq_false hc223)) rfl) ?_
              refine WL.val (Yl.assign (v := .bool false) rfl) ?_
              cases HE221
              exact WL.done ⟨rfl, C203⟩
          · skip
            refine WL.on rfl (congrArg Value.bool (decide_eq_false hc222)) ?_
            refine WL.val (Yl.move (v := .int .i64 r194) rfl) ?_
            refine WL.on rfl (congrArg Value.bool (decide_eq_false hc222)) ?_
            refine WL.val (Yl.eql (m := r194) (n := 180) (q := decide (r194 = 180)) rfl rfl rfl) ?_
            refine WL.val (Yl.pickF (v := .bool (decide (r194 = 180))) (congrArg Value.bool (decide_eq_false hc222)) rfl) ?_
            refine WL.val (Yl.move (v := .bool (decide (r194 = 180))) rfl) ?_
            rcases iteE HE221 with ⟨hc228, HE221⟩ | ⟨hc228, HE221⟩
            · skip
              refine WL.on rfl (congrArg Value.bool (decide_eq_true hc228)) ?_
              refine WL.val (Yl.move (v := .slice A195 n197 c196) rfl) ?_
              refine WL.on rfl (congrArg Value.bool (decide_eq_true hc228)) ?_
              refine WL.val (Yl.lenN (A := A195) (l := n197) (q := c196) (n := (r193.length : Int)) rfl Try.underlying22 (by omega)) ?_
              refine WL.on rfl (congrArg Value.bool (decide_eq_true hc228)) ?_
              refine WL.val (Yl.eql (m := (r193.length : Int)) (n := 0) (q := decide ((r193.length : Int) = 0)) rfl rfl rfl) ?_
              refine WL.val (Yl.pickT (v := .bool (decide ((r193.length : Int) = 0))) (congrArg Value.bool (decide_eq_true hc228)) rfl) ?_
              refine WL.val (Yl.move (v := .bool (decide ((r193.length : Int) = 0))) rfl) ?_
              rcases iteE HE221 with ⟨hc229, HE221⟩ | ⟨hc229, HE221⟩
              · skip
                refine WL.on rfl (congrArg Value.bool (decide_eq_true hc229)) ?_
                obtain ⟨r231, hg230, HE221⟩ := bindE HE221
                refine WL.call (args := #[]) (Yenter.fn Try.func7 (by kernel_rfl) rfl (argsE .nil)) (juratlaw18_awake.calls k _ F  (Ctx.pre (qs := []) (rest := [p199, p179, p160, p131, p111]) C203)  r231 hg230) ?_
                rintro e_ w_ ⟨rfl, C232⟩
                refine ⟨_, rfl, ?_⟩
                have C233 : Ctx _ _ _ _ F [p199, p179, p160, p131, p111] := Ctx.call (qs := []) (rest := [p199, p179, p160, p131, p111]) C203 C232
                refine WL.val (Yl.pickT (v := .bool r231) (congrArg Value.bool (decide_eq_true hc229)) rfl) ?_
                refine WL.val (Yl.assign (v := .bool r231) rfl) ?_
                cases HE221
                exact WL.done ⟨rfl, C233⟩
              · skip
                refine WL.off rfl (congrArg Value.bool (decide_eq_false hc229)) ?_
                refine WL.val (Yl.pickF (v := .bool false) (congrArg Value.bool (decide_eq_false hc229)) rfl) ?_
                refine WL.val (Yl.assign (v := .bool false) rfl) ?_
                cases HE221
                exact WL.done ⟨rfl, C203⟩
            · skip
              refine WL.off rfl (congrArg Value.bool (decide_eq_false hc228)) ?_
              refine WL.off rfl (congrArg Value.bool (decide_eq_false hc228)) ?_
              refine WL.off rfl (congrArg Value.bool (decide_eq_false hc228)) ?_
              refine WL.val (Yl.pickF (v := .bool false) (congrArg Value.bool (decide_eq_false hc228)) rfl) ?_
              refine WL.val (Yl.move (v := .bool false) rfl) ?_
              refine WL.off rfl rfl ?_
              refine WL.val (Yl.pickF (v := .bool false) rfl rfl) ?_
              refine WL.val (Yl.assign (v := .bool false) rfl) ?_
              cases HE221
              exact WL.done ⟨rfl, C203⟩
        · skip
          rintro env_ w_ ⟨ho234, C235⟩
          refine W.ret ?_
          have C236 : Ctx _ _ _ _ F [p179, p160, p131, p111] := Ctx.drop [] [p179, p160, p131, p111] C235
          have C237 : Ctx _ _ _ _ F [p160, p131, p111] := Ctx.drop [] [p160, p131, p111] C236
          have C238 : Ctx _ _ _ _ F [p131, p111] := Ctx.drop [] [p131, p111] C237
          have C239 : Ctx _ _ _ _ F [p111] := Ctx.drop [] [p111] C238
          have C240 : Ctx _ _ _ _ F [] := Ctx.drop [] [] C239
          cases H
          exact post_r (resE1 rfl ho234) ⟨rfl, C240⟩
end Go.Proofs.Ytcmoclekbifhbaa
