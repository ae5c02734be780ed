/- Functions of the program: each as a plain function of numbers and lists, and the proof that the program's own comes to it. Nothing is assumed but what each theorem says. -/
import Derived.Test.YtnoocbdpkddpbaaGa
namespace Go.Proofs.Ytnoocbdpkddpbaa
open Go.RowKit Go.WG
set_option linter.unusedVariables false
set_option linter.unusedSimpArgs false

/-! ### container/heap.down: function 29 -/
def heap_down.l1 : Nat → Int → Int → Tqueue → Option (Int × Tqueue)
  | 0, _, _, _ => none
  | k + 1, a2, x548, x549 => if ((decide ((wi64 ((wi64 (2 * x548)) + 1)) ≥ a2)) || (decide ((wi64 ((wi64 (2 * x548)) + 1)) < 0))) = true then (some (x548, x549)) else (((if (wi64 ((wi64 ((wi64 (2 * x548)) + 1)) + 1)) < a2 then ((agenda_queue_Less.f k x549 (wi64 ((wi64 ((wi64 (2 * x548)) + 1)) + 1)) (wi64 ((wi64 (2 * x548)) + 1))).bind fun r774 => some r774) else (some false)).bind fun x760 => if x760 = true then (some (wi64 ((wi64 ((wi64 (2 * x548)) + 1)) + 1))) else (some (wi64 ((wi64 (2 * x548)) + 1)))).bind fun x736 => (agenda_queue_Less.f k x549 x736 x548).bind fun r788 => if r788 = true then ((agenda_queue_Swap.f k x549 x548 x736).bind fun r793 => heap_down.l1 k a2 x736 r793) else (some (x548, x549)))
def heap_down.f (k : Nat) (a0 : Tqueue) (a1 : Int) (a2 : Int) : Option (Bool × Tqueue) := (heap_down.l1 k a2 a1 a0).bind fun ⟨x403, x404⟩ => some (decide (x403 > a1), x404)
set_option maxRecDepth 100000 in
set_option maxHeartbeats 4000000 in
theorem heap_down.calls (k : Nat) (w : World) (F : CH) (g1 : Nat) (o2 : Nat) (A3 : Option Addr) (c4 : Nat) (n5 : Nat) (p7 : CH) (g9 : Nat) (p10 : CH) (a0 : Tqueue) (a1 : Int) (a2 : Int) (hp : Pre w F [CH.row g1 o2 [.slice A3 n5 c4, .map (some g9)], p7, p10]) (hn6 : n5 = a0.l.length) (hR8 : Row TEntry.K F p7 (.slice A3 n5 c4) a0.l) (hM11 : MRow (Value.int .i64) (Value.int .i64) p10 g9 a0.place) (r0_ : Bool) (r1_ : Tqueue) (H : heap_down.f k a0 a1 a2 = some (r0_, r1_)) :
    Calls Try.prog 29 #[.iface 55 (.pointer (some ⟨g1, o2, none⟩)), .int .i64 a1, .int .i64 a2] w fun e w' => ∃ (A805 : Option Addr) (c806 : Nat) (n807 : Nat) (p809 : CH) (g811 : Nat) (p812 : CH), e = .returned (.bool r0_) ∧ Ctx w F (domL [CH.row g1 o2 [.slice A3 n5 c4, .map (some g9)], p7, p10]) w' F [CH.row g1 o2 [.slice A805 n807 c806, .map (some g811)], p809, p812] ∧ n807 = r1_.l.length ∧ Row TEntry.K F p809 (.slice A805 n807 c806) r1_.l ∧ MRow (Value.int .i64) (Value.int .i64) p812 g811 r1_.place := by
  have C := Ctx.start hp
  generalize hD : domL [CH.row g1 o2 [.slice A3 n5 c4, .map (some g9)], p7, p10] = D at C ⊢
  unfold heap_down.f at H
  refine Calls.ofW Try.func29 rfl (by simp [Try.ntmps29]) ?_
  refine W.seq ?_
  refine W.region rfl ?_
  refine WL.val (Yl.assign (v := .bool false) rfl) ?_
  refine WL.done ?_
  refine W.seq ?_
  refine W.region rfl ?_
  refine WL.val (Yl.move (v := .int .i64 a1) rfl) ?_
  refine WL.val (Yl.assign (v := .int .i64 a1) rfl) ?_
  refine WL.done ?_
  refine W.seq ?_
  obtain ⟨⟨x403, x404⟩, hX415, H⟩ := bindE H
  refine W.cutM (fun env_ w_ => ∃ (A405 : Option Addr) (c406 : Nat) (n407 : Nat) (p409 : CH) (g411 : Nat) (p412 : CH), env_ 1 = .int .i64 a1 ∧ env_ 7 = .int .i64 x403 ∧ Ctx w F D w_ F [CH.row g1 o2 [.slice A405 n407 c406, .map (some g411)], p409, p412] ∧ n407 = x404.l.length ∧ Row TEntry.K F p409 (.slice A405 n407 c406) x404.l ∧ MRow (Value.int .i64) (Value.int .i64) p412 g411 x404.place) ?_ ?_
  · skip
    refine W.block ?_
    refine W.loop (fun g_ env_ w_ => ∃ (x548 : Int) (x549 : Tqueue) (A550 : Option Addr) (c551 : Nat) (n552 : Nat) (p554 : CH) (g556 : Nat) (p557 : CH), env_ 0 = .iface 55 (.pointer (some ⟨g1, o2, none⟩)) ∧ env_ 1 = .int .i64 a1 ∧ env_ 2 = .int .i64 a2 ∧ env_ 7 = .int .i64 x548 ∧ Ctx w F D w_ F [CH.row g1 o2 [.slice A550 n552 c551, .map (some g556)], p554, p557] ∧ n552 = x549.l.length ∧ Row TEntry.K F p554 (.slice A550 n552 c551) x549.l ∧ MRow (Value.int .i64) (Value.int .i64) p557 g556 x549.place ∧ heap_down.l1 g_ a2 x548 x549 = some (x403, x404)) k ⟨a1, a0, A3, c4, n5, p7, g9, p10, rfl, rfl, rfl, rfl, C, hn6, hR8, hM11, hX415⟩ ?_
    clear hX415
    rintro g_ env_ w_ ⟨x548, x549, A550, c551, n552, p554, g556, p557, ho544, ho545, ho546, ho547, C559, hn553, hR555, hM558, hX415⟩
    rcases g_ with _ | k682
    · exact absurd hX415 (by simp [heap_down.l1])
    rw [heap_down.l1] at hX415
    refine W.block ?_
    refine W.seq ?_
    refine W.region rfl ?_
    refine WL.val (Yl.move (v := .int .i64 x548) ho547) ?_
    refine WL.val (Yl.mul (m := 2) (n := x548) (r := wi64 (2 * x548)) rfl rfl rfl) ?_
    refine WL.val (Yl.add (m := wi64 (2 * x548)) (n := 1) (r := wi64 ((wi64 (2 * x548)) + 1)) rfl rfl rfl) ?_
    refine WL.val (Yl.assign (v := .int .i64 (wi64 ((wi64 (2 * x548)) + 1))) rfl) ?_
    refine WL.done ?_
    refine W.seq ?_
    refine W.seq ?_
    refine W.region rfl ?_
    refine WL.val (Yl.move (v := .int .i64 (wi64 ((wi64 (2 * x548)) + 1))) rfl) ?_
    refine WL.val (Yl.move (v := .int .i64 a2) ho546) ?_
    refine WL.val (Yl.geq (m := wi64 ((wi64 (2 * x548)) + 1)) (n := a2) (q := decide ((wi64 ((wi64 (2 * x548)) + 1)) ≥ a2)) rfl rfl rfl) ?_
    refine WL.val (Yl.move (v := .bool (decide ((wi64 ((wi64 (2 * x548)) + 1)) ≥ a2))) rfl) ?_
    refine WL.cut (fun env_ w_ => env_ 21 = .bool ((decide ((wi64 ((wi64 (2 * x548)) + 1)) ≥ a2)) || (decide ((wi64 ((wi64 (2 * x548)) + 1)) < 0))) ∧ env_ 0 = .iface 55 (.pointer (some ⟨g1, o2, none⟩)) ∧ env_ 1 = .int .i64 a1 ∧ env_ 2 = .int .i64 a2 ∧ env_ 7 = .int .i64 x548 ∧ env_ 8 = .int .i64 (wi64 ((wi64 (2 * x548)) + 1)) ∧ Ctx w F D w_ F [CH.row g1 o2 [.slice A550 n552 c551, .map (some g556)], p554, p557]) ?_ ?_
    · skip
      rcases Bool.eq_false_or_eq_true (decide ((wi64 ((wi64 (2 * x548)) + 1)) ≥ a2)) with hb683 | hb683
      · skip
        refine WL.off rfl (congrArg Value.bool hb683) ?_
        refine WL.off rfl (congrArg Value.bool hb683) ?_
        refine WL.val (Yl.pickT (v := .bool true) (congrArg Value.bool hb683) rfl) ?_
        exact WL.done ⟨(congrArg Value.bool (show true = ((decide ((wi64 ((wi64 (2 * x548)) + 1)) ≥ a2)) || (decide ((wi64 ((wi64 (2 * x548)) + 1)) < 0))) from by simp [hb683])), ho544, ho545, ho546, ho547, rfl, C559⟩
      · skip
        refine WL.on rfl (congrArg Value.bool hb683) ?_
        refine WL.val (Yl.move (v := .int .i64 (wi64 ((wi64 (2 * x548)) + 1))) rfl) ?_
        refine WL.on rfl (congrArg Value.bool hb683) ?_
        refine WL.val (Yl.lss (m := wi64 ((wi64 (2 * x548)) + 1)) (n := 0) (q := decide ((wi64 ((wi64 (2 * x548)) + 1)) < 0)) rfl rfl rfl) ?_
        refine WL.val (Yl.pickF (v := .bool (decide ((wi64 ((wi64 (2 * x548)) + 1)) < 0))) (congrArg Value.bool hb683) rfl) ?_
        exact WL.done ⟨(congrArg Value.bool (show (decide ((wi64 ((wi64 (2 * x548)) + 1)) < 0)) = ((decide ((wi64 ((wi64 (2 * x548)) + 1)) ≥ a2)) || (decide ((wi64 ((wi64 (2 * x548)) + 1)) < 0))) from by simp [hb683])), ho544, ho545, ho546, ho547, rfl, C559⟩
    · skip
      rintro env_ w_ ⟨ho684, ho685, ho686, ho687, ho688, ho689, C690⟩
      rcases iteE hX415 with ⟨hc691, hX415⟩ | ⟨hc691, hX415⟩
      · skip
        refine W.condT (ho684.trans (congrArg Value.bool hc691)) ?_
        refine W.exit ?_
        refine thenE_x ?_
        refine inB_x rfl ?_
        refine thenE_x ?_
        refine inB_here ?_
        cases hX415
        refine thenE_n ?_
        exact ⟨A550, c551, n552, p554, g556, p557, ho686, ho688, C690, hn553, hR555, hM558⟩
      · skip
        refine W.condF (ho684.trans (congrArg Value.bool (Bool.eq_false_iff.2 hc691))) ?_
        refine W.skip ?_
        refine W.seq ?_
        refine W.region rfl ?_
        refine WL.val (Yl.move (v := .int .i64 (wi64 ((wi64 (2 * x548)) + 1))) ho689) ?_
        refine WL.val (Yl.assign (v := .int .i64 (wi64 ((wi64 (2 * x548)) + 1))) rfl) ?_
        refine WL.done ?_
        refine W.seq ?_
        obtain ⟨x736, hX738, hX415⟩ := bindE hX415
        refine W.cutM (fun env_ w_ => env_ 0 = .iface 55 (.pointer (some ⟨g1, o2, none⟩)) ∧ env_ 1 = .int .i64 a1 ∧ env_ 2 = .int .i64 a2 ∧ env_ 7 = .int .i64 x548 ∧ env_ 9 = .int .i64 x736 ∧ Ctx w F D w_ F [CH.row g1 o2 [.slice A550 n552 c551, .map (some g556)], p554, p557]) ?_ ?_
        · skip
          refine W.seq ?_
          refine W.region rfl ?_
          refine WL.val (Yl.move (v := .int .i64 (wi64 ((wi64 (2 * x548)) + 1))) ho689) ?_
          refine WL.val (Yl.add (m := wi64 ((wi64 (2 * x548)) + 1)) (n := 1) (r := wi64 ((wi64 ((wi64 (2 * x548)) + 1)) + 1)) rfl rfl rfl) ?_
          refine WL.val (Yl.assign (v := .int .i64 (wi64 ((wi64 ((wi64 (2 * x548)) + 1)) + 1))) rfl) ?_
          refine WL.done ?_
          refine W.seq ?_
          obtain ⟨x760, hX762, hX738⟩ := bindE hX738
          refine W.cutM (fun env_ w_ => env_ 0 = .iface 55 (.pointer (some ⟨g1, o2, none⟩)) ∧ env_ 1 = .int .i64 a1 ∧ env_ 2 = .int .i64 a2 ∧ env_ 7 = .int .i64 x548 ∧ env_ 9 = .int .i64 (wi64 ((wi64 (2 * x548)) + 1)) ∧ env_ 10 = .int .i64 (wi64 ((wi64 ((wi64 (2 * x548)) + 1)) + 1)) ∧ env_ 33 = .bool x760 ∧ Ctx w F D w_ F [CH.row g1 o2 [.slice A550 n552 c551, .map (some g556)], p554, p557]) ?_ ?_
          · skip
            refine W.region rfl ?_
            refine WL.val (Yl.move (v := .int .i64 (wi64 ((wi64 ((wi64 (2 * x548)) + 1)) + 1))) rfl) ?_
            refine WL.val (Yl.move (v := .int .i64 a2) ho687) ?_
            refine WL.val (Yl.lss (m := wi64 ((wi64 ((wi64 (2 * x548)) + 1)) + 1)) (n := a2) (q := decide ((wi64 ((wi64 ((wi64 (2 * x548)) + 1)) + 1)) < a2)) rfl rfl rfl) ?_
            refine WL.val (Yl.move (v := .bool (decide ((wi64 ((wi64 ((wi64 (2 * x548)) + 1)) + 1)) < a2))) rfl) ?_
            rcases iteE hX762 with ⟨hc763, hX762⟩ | ⟨hc763, hX762⟩
            · skip
              refine WL.on rfl (congrArg Value.bool (decide_eq_true hc763)) ?_
              refine WL.val (Yl.move (v := .iface 55 (.pointer (some ⟨g1, o2, none⟩))) ho685) ?_
              refine WL.on rfl (congrArg Value.bool (decide_eq_true hc763)) ?_
              refine WL.val (Yl.move (v := .int .i64 (wi64 ((wi64 ((wi64 (2 * x548)) + 1)) + 1))) rfl) ?_
              refine WL.on rfl (congrArg Value.bool (decide_eq_true hc763)) ?_
              refine WL.val (Yl.move (v := .int .i64 (wi64 ((wi64 (2 * x548)) + 1))) ho689) ?_
              refine WL.on rfl (congrArg Value.bool (decide_eq_true hc763)) ?_
              have le764 : CH.le F (CH.join F (CH.row g1 o2 [.slice A550 n552 c551, .map (some g556)])) := CH.le_joinL _ _
              have lp765 : CH.le (CH.row g1 o2 [.slice A550 n552 c551, .map (some g556)]) (CH.join F (CH.row g1 o2 [.slice A550 n552 c551, .map (some g556)])) := CH.le_joinR (Ctx.dis_of [] [p554, p557] C690)
              have C766 : Ctx _ _ _ _ (CH.join F (CH.row g1 o2 [.slice A550 n552 c551, .map (some g556)])) [p554, p557] := Ctx.freeze [] [p554, p557] C690
              have le767 : CH.le (CH.join F (CH.row g1 o2 [.slice A550 n552 c551, .map (some g556)])) (CH.join (CH.join F (CH.row g1 o2 [.slice A550 n552 c551, .map (some g556)])) p554) := CH.le_joinL _ _
              have lp768 : CH.le p554 (CH.join (CH.join F (CH.row g1 o2 [.slice A550 n552 c551, .map (some g556)])) p554) := CH.le_joinR (Ctx.dis_of [] [p557] C766)
              have C769 : Ctx _ _ _ _ (CH.join (CH.join F (CH.row g1 o2 [.slice A550 n552 c551, .map (some g556)])) p554) [p557] := Ctx.freeze [] [p557] C766
              have le770 : CH.le (CH.join (CH.join F (CH.row g1 o2 [.slice A550 n552 c551, .map (some g556)])) p554) (CH.join (CH.join (CH.join F (CH.row g1 o2 [.slice A550 n552 c551, .map (some g556)])) p554) p557) := CH.le_joinL _ _
              have lp771 : CH.le p557 (CH.join (CH.join (CH.join F (CH.row g1 o2 [.slice A550 n552 c551, .map (some g556)])) p554) p557) := CH.le_joinR (Ctx.dis_of [] [] C769)
              have C772 : Ctx _ _ _ _ (CH.join (CH.join (CH.join F (CH.row g1 o2 [.slice A550 n552 c551, .map (some g556)])) p554) p557) [] := Ctx.freeze [] [] C769
              obtain ⟨r774, hg773, hX762⟩ := bindE hX762
              refine WL.call (args := #[.pointer (some ⟨g1, o2, none⟩), .int .i64 (wi64 ((wi64 ((wi64 (2 * x548)) + 1)) + 1)), .int .i64 (wi64 ((wi64 (2 * x548)) + 1))]) (Yenter.inv rfl (by kernel_rfl) Try.underlying55 Try.func47 (by kernel_rfl) rfl (argsE (.cons rfl (.cons rfl .nil)))) (agenda_queue_Less.calls k682 _ (CH.join (CH.join (CH.join F (CH.row g1 o2 [.slice A550 n552 c551, .map (some g556)])) p554) p557) g1 o2 A550 c551 n552 g556 p557 x549 (wi64 ((wi64 ((wi64 (2 * x548)) + 1)) + 1)) (wi64 ((wi64 (2 * x548)) + 1)) (Ctx.pre (qs := []) (rest := []) C772) hn553 (Row.len_le hR555).1 (Row.len_le hR555).2.1 (Sl.mono (Row.sl hR555) (CH.le_trans (CH.le_trans le764 le767) le770) (CH.le_trans lp768 le770)) hM558 lp771 (CH.le_trans (CH.le_trans lp765 le767) le770) r774 hg773) ?_
              rintro e_ w_ ⟨rfl, C775⟩
              refine ⟨_, rfl, ?_⟩
              have C776 : Ctx _ _ _ _ F [CH.row g1 o2 [.slice A550 n552 c551, .map (some g556)], p554, p557] := Ctx.callL (qs := []) (rest := [CH.row g1 o2 [.slice A550 n552 c551, .map (some g556)], p554, p557]) C690 (CH.le_trans (CH.le_trans le764 le767) le770) C775
              refine WL.val (Yl.pickT (v := .bool r774) (congrArg Value.bool (decide_eq_true hc763)) rfl) ?_
              refine WL.done ?_
              cases hX762
              refine thenE_n ?_
              exact ⟨ho685, ho686, ho687, ho688, rfl, rfl, rfl, C776⟩
            · skip
              refine WL.off rfl (congrArg Value.bool (decide_eq_false hc763)) ?_
              refine WL.off rfl (congrArg Value.bool (decide_eq_false hc763)) ?_
              refine WL.off rfl (congrArg Value.bool (decide_eq_false hc763)) ?_
              refine WL.off rfl (congrArg Value.bool (decide_eq_false hc763)) ?_
              refine WL.val (Yl.pickF (v := .bool false) (congrArg Value.bool (decide_eq_false hc763)) rfl) ?_
              refine WL.done ?_
              cases hX762
              refine thenE_n ?_
              exact ⟨ho685, ho686, ho687, ho688, rfl, rfl, rfl, C690⟩
          · skip
            rintro env_ w_ ⟨ho753, ho754, ho755, ho756, ho757, ho758, ho759, C761⟩
            rcases iteE hX738 with ⟨hc777, hX738⟩ | ⟨hc777, hX738⟩
            · skip
              refine W.condT (ho759.trans (congrArg Value.bool hc777)) ?_
              refine W.region rfl ?_
              refine WL.val (Yl.move (v := .int .i64 (wi64 ((wi64 ((wi64 (2 * x548)) + 1)) + 1))) ho758) ?_
              refine WL.val (Yl.assign (v := .int .i64 (wi64 ((wi64 ((wi64 (2 * x548)) + 1)) + 1))) rfl) ?_
              refine WL.done ?_
              cases hX738
              refine thenE_n ?_
              exact ⟨ho753, ho754, ho755, ho756, rfl, C761⟩
            · skip
              refine W.condF (ho759.trans (congrArg Value.bool (Bool.eq_false_iff.2 hc777))) ?_
              refine W.skip ?_
              cases hX738
              refine thenE_n ?_
              exact ⟨ho753, ho754, ho755, ho756, ho757, C761⟩
        · skip
          rintro env_ w_ ⟨ho731, ho732, ho733, ho734, ho735, C737⟩
          refine W.seq ?_
          refine W.seq ?_
          refine W.region rfl ?_
          refine WL.val (Yl.move (v := .iface 55 (.pointer (some ⟨g1, o2, none⟩))) ho731) ?_
          refine WL.val (Yl.move (v := .int .i64 x736) ho735) ?_
          refine WL.val (Yl.move (v := .int .i64 x548) ho734) ?_
          have le778 : CH.le F (CH.join F (CH.row g1 o2 [.slice A550 n552 c551, .map (some g556)])) := CH.le_joinL _ _
          have lp779 : CH.le (CH.row g1 o2 [.slice A550 n552 c551, .map (some g556)]) (CH.join F (CH.row g1 o2 [.slice A550 n552 c551, .map (some g556)])) := CH.le_joinR (Ctx.dis_of [] [p554, p557] C737)
          have C780 : Ctx _ _ _ _ (CH.join F (CH.row g1 o2 [.slice A550 n552 c551, .map (some g556)])) [p554, p557] := Ctx.freeze [] [p554, p557] C737
          have le781 : CH.le (CH.join F (CH.row g1 o2 [.slice A550 n552 c551, .map (some g556)])) (CH.join (CH.join F (CH.row g1 o2 [.slice A550 n552 c551, .map (some g556)])) p554) := CH.le_joinL _ _
          have lp782 : CH.le p554 (CH.join (CH.join F (CH.row g1 o2 [.slice A550 n552 c551, .map (some g556)])) p554) := CH.le_joinR (Ctx.dis_of [] [p557] C780)
          have C783 : Ctx _ _ _ _ (CH.join (CH.join F (CH.row g1 o2 [.slice A550 n552 c551, .map (some g556)])) p554) [p557] := Ctx.freeze [] [p557] C780
          have le784 : CH.le (CH.join (CH.join F (CH.row g1 o2 [.slice A550 n552 c551, .map (some g556)])) p554) (CH.join (CH.join (CH.join F (CH.row g1 o2 [.slice A550 n552 c551, .map (some g556)])) p554) p557) := CH.le_joinL _ _
          have lp785 : CH.le p557 (CH.join (CH.join (CH.join F (CH.row g1 o2 [.slice A550 n552 c551, .map (some g556)])) p554) p557) := CH.le_joinR (Ctx.dis_of [] [] C783)
          have C786 : Ctx _ _ _ _ (CH.join (CH.join (CH.join F (CH.row g1 o2 [.slice A550 n552 c551, .map (some g556)])) p554) p557) [] := Ctx.freeze [] [] C783
          obtain ⟨r788, hg787, hX415⟩ := bindE hX415
          refine WL.call (args := #[.pointer (some ⟨g1, o2, none⟩), .int .i64 x736, .int .i64 x548]) (Yenter.inv rfl (by kernel_rfl) Try.underlying55 Try.func47 (by kernel_rfl) rfl (argsE (.cons rfl (.cons rfl .nil)))) (agenda_queue_Less.calls k682 _ (CH.join (CH.join (CH.join F (CH.row g1 o2 [.slice A550 n552 c551, .map (some g556)])) p554) p557) g1 o2 A550 c551 n552 g556 p557 x549 x736 x548 (Ctx.pre (qs := []) (rest := []) C786) hn553 (Row.len_le hR555).1 (Row.len_le hR555).2.1 (Sl.mono (Row.sl hR555) (CH.le_trans (CH.le_trans le778 le781) le784) (CH.le_trans lp782 le784)) hM558 lp785 (CH.le_trans (CH.le_trans lp779 le781) le784) r788 hg787) ?_
          rintro e_ w_ ⟨rfl, C789⟩
          refine ⟨_, rfl, ?_⟩
          have C790 : Ctx _ _ _ _ F [CH.row g1 o2 [.slice A550 n552 c551, .map (some g556)], p554, p557] := Ctx.callL (qs := []) (rest := [CH.row g1 o2 [.slice A550 n552 c551, .map (some g556)], p554, p557]) C737 (CH.le_trans (CH.le_trans le778 le781) le784) C789
          refine WL.val (Yl.not (p := r788) (q := !r788) rfl rfl) ?_
          refine WL.done ?_
          rcases iteE hX415 with ⟨hc791, hX415⟩ | ⟨hc791, hX415⟩
          · skip
            refine W.condF (congrArg Value.bool (nb_t hc791)) ?_
            refine W.skip ?_
            refine W.seq ?_
            refine W.region rfl ?_
            refine WL.val (Yl.move (v := .iface 55 (.pointer (some ⟨g1, o2, none⟩))) ho731) ?_
            refine WL.val (Yl.move (v := .int .i64 x548) ho734) ?_
            refine WL.val (Yl.move (v := .int .i64 x736) ho735) ?_
            obtain ⟨r793, hg792, hX415⟩ := bindE hX415
            refine WL.call (args := #[.pointer (some ⟨g1, o2, none⟩), .int .i64 x548, .int .i64 x736]) (Yenter.inv rfl (by kernel_rfl) Try.underlying55 Try.func50 (by kernel_rfl) rfl (argsE (.cons rfl (.cons rfl .nil)))) (agenda_queue_Swap.calls k682 _ F g1 o2 A550 c551 n552 p554 g556 p557 x549 x548 x736 (Ctx.pre (qs := [CH.row g1 o2 [.slice A550 n552 c551, .map (some g556)], p554, p557]) (rest := []) C790) hn553 hR555 hM558 r793 hg792) ?_
            rintro e_ w_ ⟨A794, c795, n796, p798, g800, p801, rfl, C803, hn797, hR799, hM802⟩
            refine ⟨_, rfl, ?_⟩
            have C804 : Ctx _ _ _ _ F [CH.row g1 o2 [.slice A794 n796 c795, .map (some g800)], p798, p801] := Ctx.call (qs := [CH.row g1 o2 [.slice A550 n552 c551, .map (some g556)], p554, p557]) (rest := []) C790 C803
            refine WL.done ?_
            refine W.region rfl ?_
            refine WL.val (Yl.move (v := .int .i64 x736) ho735) ?_
            refine WL.val (Yl.assign (v := .int .i64 x736) rfl) ?_
            refine WL.done ?_
            refine inB_n ?_
            exact thenE_n ⟨k682, Nat.lt_succ_self _, x736, r793, A794, c795, n796, p798, g800, p801, ho731, ho732, ho733, rfl, C804, hn797, hR799, hM802, hX415⟩
          · skip
            refine W.condT (congrArg Value.bool (nb_f hc791)) ?_
            refine W.exit ?_
            refine thenE_x ?_
            refine inB_x rfl ?_
            refine thenE_x ?_
            refine inB_here ?_
            cases hX415
            refine thenE_n ?_
            exact ⟨A550, c551, n552, p554, g556, p557, ho732, ho734, C790, hn553, hR555, hM558⟩
  · skip
    rintro env_ w_ ⟨A405, c406, n407, p409, g411, p412, ho401, ho402, C414, hn408, hR410, hM413⟩
    refine W.seq ?_
    refine W.region rfl ?_
    refine WL.val (Yl.move (v := .int .i64 x403) ho402) ?_
    refine WL.val (Yl.move (v := .int .i64 a1) ho401) ?_
    refine WL.val (Yl.gtr (m := x403) (n := a1) (q := decide (x403 > a1)) rfl rfl rfl) ?_
    refine WL.val (Yl.assign (v := .bool (decide (x403 > a1))) rfl) ?_
    refine WL.done ?_
    refine W.ret ?_
    cases H
    exact post_r (resE1 rfl rfl) ⟨A405, c406, n407, p409, g411, p412, rfl, C414, hn408, hR410, hM413⟩
/-! ### container/heap.up: function 30 -/
def heap_up.l1 : Nat → Int → Tqueue → Option Tqueue
  | 0, _, _ => none
  | k + 1, x245, x246 => (if (wi64 ((wi64 (x245 - 1)).tdiv 2)) = x245 then (some true) else ((agenda_queue_Less.f k x246 x245 (wi64 ((wi64 (x245 - 1)).tdiv 2))).bind fun r339 => some (!r339))).bind fun x325 => if x325 = true then (some x246) else ((agenda_queue_Swap.f k x246 (wi64 ((wi64 (x245 - 1)).tdiv 2)) x245).bind fun r344 => heap_up.l1 k (wi64 ((wi64 (x245 - 1)).tdiv 2)) r344)
def heap_up.f (k : Nat) (a0 : Tqueue) (a1 : Int) : Option Tqueue := (heap_up.l1 k a1 a0).bind fun x178 => some x178
set_option maxRecDepth 100000 in
set_option maxHeartbeats 4000000 in
theorem heap_up.calls (k : Nat) (w : World) (F : CH) (g1 : Nat) (o2 : Nat) (A3 : Option Addr) (c4 : Nat) (n5 : Nat) (p7 : CH) (g9 : Nat) (p10 : CH) (a0 : Tqueue) (a1 : Int) (hp : Pre w F [CH.row g1 o2 [.slice A3 n5 c4, .map (some g9)], p7, p10]) (hn6 : n5 = a0.l.length) (hR8 : Row TEntry.K F p7 (.slice A3 n5 c4) a0.l) (hM11 : MRow (Value.int .i64) (Value.int .i64) p10 g9 a0.place) (r0_ : Tqueue) (H : heap_up.f k a0 a1 = some r0_) :
    Calls Try.prog 30 #[.iface 55 (.pointer (some ⟨g1, o2, none⟩)), .int .i64 a1] w fun e w' => ∃ (A356 : Option Addr) (c357 : Nat) (n358 : Nat) (p360 : CH) (g362 : Nat) (p363 : CH), e = .returned (.tuple #[]) ∧ Ctx w F (domL [CH.row g1 o2 [.slice A3 n5 c4, .map (some g9)], p7, p10]) w' F [CH.row g1 o2 [.slice A356 n358 c357, .map (some g362)], p360, p363] ∧ n358 = r0_.l.length ∧ Row TEntry.K F p360 (.slice A356 n358 c357) r0_.l ∧ MRow (Value.int .i64) (Value.int .i64) p363 g362 r0_.place := by
  have C := Ctx.start hp
  generalize hD : domL [CH.row g1 o2 [.slice A3 n5 c4, .map (some g9)], p7, p10] = D at C ⊢
  unfold heap_up.f at H
  refine Calls.ofW Try.func30 rfl (by simp [Try.ntmps30]) ?_
  obtain ⟨x178, hX189, H⟩ := bindE H
  refine W.cutM (fun env_ w_ => ∃ (A179 : Option Addr) (c180 : Nat) (n181 : Nat) (p183 : CH) (g185 : Nat) (p186 : CH), Ctx w F D w_ F [CH.row g1 o2 [.slice A179 n181 c180, .map (some g185)], p183, p186] ∧ n181 = x178.l.length ∧ Row TEntry.K F p183 (.slice A179 n181 c180) x178.l ∧ MRow (Value.int .i64) (Value.int .i64) p186 g185 x178.place) ?_ ?_
  · skip
    refine W.block ?_
    refine W.loop (fun g_ env_ w_ => ∃ (x245 : Int) (x246 : Tqueue) (A247 : Option Addr) (c248 : Nat) (n249 : Nat) (p251 : CH) (g253 : Nat) (p254 : CH), env_ 0 = .iface 55 (.pointer (some ⟨g1, o2, none⟩)) ∧ env_ 1 = .int .i64 x245 ∧ Ctx w F D w_ F [CH.row g1 o2 [.slice A247 n249 c248, .map (some g253)], p251, p254] ∧ n249 = x246.l.length ∧ Row TEntry.K F p251 (.slice A247 n249 c248) x246.l ∧ MRow (Value.int .i64) (Value.int .i64) p254 g253 x246.place ∧ heap_up.l1 g_ x245 x246 = some x178) k ⟨a1, a0, A3, c4, n5, p7, g9, p10, rfl, rfl, C, hn6, hR8, hM11, hX189⟩ ?_
    clear hX189
    rintro g_ env_ w_ ⟨x245, x246, A247, c248, n249, p251, g253, p254, ho243, ho244, C256, hn250, hR252, hM255, hX189⟩
    rcases g_ with _ | k306
    · exact absurd hX189 (by simp [heap_up.l1])
    rw [heap_up.l1] at hX189
    refine W.block ?_
    refine W.seq ?_
    refine W.region rfl ?_
    refine WL.val (Yl.move (v := .int .i64 x245) ho244) ?_
    refine WL.val (Yl.sub (m := x245) (n := 1) (r := wi64 (x245 - 1)) rfl rfl rfl) ?_
    refine WL.val (Yl.quo (m := wi64 (x245 - 1)) (n := 2) (r := wi64 ((wi64 (x245 - 1)).tdiv 2)) rfl rfl (by decide) rfl) ?_
    refine WL.val (Yl.assign (v := .int .i64 (wi64 ((wi64 (x245 - 1)).tdiv 2))) rfl) ?_
    refine WL.done ?_
    refine W.seq ?_
    refine W.seq ?_
    obtain ⟨x325, hX327, hX189⟩ := bindE hX189
    refine W.cutM (fun env_ w_ => env_ 0 = .iface 55 (.pointer (some ⟨g1, o2, none⟩)) ∧ env_ 1 = .int .i64 x245 ∧ env_ 4 = .int .i64 (wi64 ((wi64 (x245 - 1)).tdiv 2)) ∧ env_ 17 = .bool x325 ∧ Ctx w F D w_ F [CH.row g1 o2 [.slice A247 n249 c248, .map (some g253)], p251, p254]) ?_ ?_
    · skip
      refine W.region rfl ?_
      refine WL.val (Yl.move (v := .int .i64 (wi64 ((wi64 (x245 - 1)).tdiv 2))) rfl) ?_
      refine WL.val (Yl.move (v := .int .i64 x245) ho244) ?_
      refine WL.val (Yl.eql (m := wi64 ((wi64 (x245 - 1)).tdiv 2)) (n := x245) (q := decide ((wi64 ((wi64 (x245 - 1)).tdiv 2)) = x245)) rfl rfl rfl) ?_
      refine WL.val (Yl.move (v := .bool (decide ((wi64 ((wi64 (x245 - 1)).tdiv 2)) = x245))) rfl) ?_
      rcases iteE hX327 with ⟨hc328, hX327⟩ | ⟨hc328, hX327⟩
      · skip
        refine WL.off rfl (congrArg Value.bool (decide_eq_true hc328)) ?_
        refine WL.off rfl (congrArg Value.bool (decide_eq_true hc328)) ?_
        refine WL.off rfl (congrArg Value.bool (decide_eq_true hc328)) ?_
        refine WL.off rfl (congrArg Value.bool (decide_eq_true hc328)) ?_
        refine WL.off rfl (congrArg Value.bool (decide_eq_true hc328)) ?_
        refine WL.val (Yl.pickT (v := .bool true) (congrArg Value.bool (decide_eq_true hc328)) rfl) ?_
        refine WL.done ?_
        cases hX327
        refine thenE_n ?_
        exact ⟨ho243, ho244, rfl, rfl, C256⟩
      · skip
        refine WL.on rfl (congrArg Value.bool (decide_eq_false hc328)) ?_
        refine WL.val (Yl.move (v := .iface 55 (.pointer (some ⟨g1, o2, none⟩))) ho243) ?_
        refine WL.on rfl (congrArg Value.bool (decide_eq_false hc328)) ?_
        refine WL.val (Yl.move (v := .int .i64 x245) ho244) ?_
        refine WL.on rfl (congrArg Value.bool (decide_eq_false hc328)) ?_
        refine WL.val (Yl.move (v := .int .i64 (wi64 ((wi64 (x245 - 1)).tdiv 2))) rfl) ?_
        refine WL.on rfl (congrArg Value.bool (decide_eq_false hc328)) ?_
        have le329 : CH.le F (CH.join F (CH.row g1 o2 [.slice A247 n249 c248, .map (some g253)])) := CH.le_joinL _ _
        have lp330 : CH.le (CH.row g1 o2 [.slice A247 n249 c248, .map (some g253)]) (CH.join F (CH.row g1 o2 [.slice A247 n249 c248, .map (some g253)])) := CH.le_joinR (Ctx.dis_of [] [p251, p254] C256)
        have C331 : Ctx _ _ _ _ (CH.join F (CH.row g1 o2 [.slice A247 n249 c248, .map (some g253)])) [p251, p254] := Ctx.freeze [] [p251, p254] C256
        have le332 : CH.le (CH.join F (CH.row g1 o2 [.slice A247 n249 c248, .map (some g253)])) (CH.join (CH.join F (CH.row g1 o2 [.slice A247 n249 c248, .map (some g253)])) p251) := CH.le_joinL _ _
        have lp333 : CH.le p251 (CH.join (CH.join F (CH.row g1 o2 [.slice A247 n249 c248, .map (some g253)])) p251) := CH.le_joinR (Ctx.dis_of [] [p254] C331)
        have C334 : Ctx _ _ _ _ (CH.join (CH.join F (CH.row g1 o2 [.slice A247 n249 c248, .map (some g253)])) p251) [p254] := Ctx.freeze [] [p254] C331
        have le335 : CH.le (CH.join (CH.join F (CH.row g1 o2 [.slice A247 n249 c248, .map (some g253)])) p251) (CH.join (CH.join (CH.join F (CH.row g1 o2 [.slice A247 n249 c248, .map (some g253)])) p251) p254) := CH.le_joinL _ _
        have lp336 : CH.le p254 (CH.join (CH.join (CH.join F (CH.row g1 o2 [.slice A247 n249 c248, .map (some g253)])) p251) p254) := CH.le_joinR (Ctx.dis_of [] [] C334)
        have C337 : Ctx _ _ _ _ (CH.join (CH.join (CH.join F (CH.row g1 o2 [.slice A247 n249 c248, .map (some g253)])) p251) p254) [] := Ctx.freeze [] [] C334
        obtain ⟨r339, hg338, hX327⟩ := bindE hX327
        refine WL.call (args := #[.pointer (some ⟨g1, o2, none⟩), .int .i64 x245, .int .i64 (wi64 ((wi64 (x245 - 1)).tdiv 2))]) (Yenter.inv rfl (by kernel_rfl) Try.underlying55 Try.func47 (by kernel_rfl) rfl (argsE (.cons rfl (.cons rfl .nil)))) (agenda_queue_Less.calls k306 _ (CH.join (CH.join (CH.join F (CH.row g1 o2 [.slice A247 n249 c248, .map (some g253)])) p251) p254) g1 o2 A247 c248 n249 g253 p254 x246 x245 (wi64 ((wi64 (x245 - 1)).tdiv 2)) (Ctx.pre (qs := []) (rest := []) C337) hn250 (Row.len_le hR252).1 (Row.len_le hR252).2.1 (Sl.mono (Row.sl hR252) (CH.le_trans (CH.le_trans le329 le332) le335) (CH.le_trans lp333 le335)) hM255 lp336 (CH.le_trans (CH.le_trans lp330 le332) le335) r339 hg338) ?_
        rintro e_ w_ ⟨rfl, C340⟩
        refine ⟨_, rfl, ?_⟩
        have C341 : Ctx _ _ _ _ F [CH.row g1 o2 [.slice A247 n249 c248, .map (some g253)], p251, p254] := Ctx.callL (qs := []) (rest := [CH.row g1 o2 [.slice A247 n249 c248, .map (some g253)], p251, p254]) C256 (CH.le_trans (CH.le_trans le329 le332) le335) C340
        refine WL.on rfl (congrArg Value.bool (decide_eq_false hc328)) ?_
        refine WL.val (Yl.not (p := r339) (q := !r339) rfl rfl) ?_
        refine WL.val (Yl.pickF (v := .bool (!r339)) (congrArg Value.bool (decide_eq_false hc328)) rfl) ?_
        refine WL.done ?_
        cases hX327
        refine thenE_n ?_
        exact ⟨ho243, ho244, rfl, rfl, C341⟩
    · skip
      rintro env_ w_ ⟨ho321, ho322, ho323, ho324, C326⟩
      rcases iteE hX189 with ⟨hc342, hX189⟩ | ⟨hc342, hX189⟩
      · skip
        refine W.condT (ho324.trans (congrArg Value.bool hc342)) ?_
        refine W.exit ?_
        refine thenE_x ?_
        refine inB_x rfl ?_
        refine thenE_x ?_
        refine inB_here ?_
        cases hX189
        refine thenE_n ?_
        exact ⟨A247, c248, n249, p251, g253, p254, C326, hn250, hR252, hM255⟩
      · skip
        refine W.condF (ho324.trans (congrArg Value.bool (Bool.eq_false_iff.2 hc342))) ?_
        refine W.skip ?_
        refine W.seq ?_
        refine W.region rfl ?_
        refine WL.val (Yl.move (v := .iface 55 (.pointer (some ⟨g1, o2, none⟩))) ho321) ?_
        refine WL.val (Yl.move (v := .int .i64 (wi64 ((wi64 (x245 - 1)).tdiv 2))) ho323) ?_
        refine WL.val (Yl.move (v := .int .i64 x245) ho322) ?_
        obtain ⟨r344, hg343, hX189⟩ := bindE hX189
        refine WL.call (args := #[.pointer (some ⟨g1, o2, none⟩), .int .i64 (wi64 ((wi64 (x245 - 1)).tdiv 2)), .int .i64 x245]) (Yenter.inv rfl (by kernel_rfl) Try.underlying55 Try.func50 (by kernel_rfl) rfl (argsE (.cons rfl (.cons rfl .nil)))) (agenda_queue_Swap.calls k306 _ F g1 o2 A247 c248 n249 p251 g253 p254 x246 (wi64 ((wi64 (x245 - 1)).tdiv 2)) x245 (Ctx.pre (qs := [CH.row g1 o2 [.slice A247 n249 c248, .map (some g253)], p251, p254]) (rest := []) C326) hn250 hR252 hM255 r344 hg343) ?_
        rintro e_ w_ ⟨A345, c346, n347, p349, g351, p352, rfl, C354, hn348, hR350, hM353⟩
        refine ⟨_, rfl, ?_⟩
        have C355 : Ctx _ _ _ _ F [CH.row g1 o2 [.slice A345 n347 c346, .map (some g351)], p349, p352] := Ctx.call (qs := [CH.row g1 o2 [.slice A247 n249 c248, .map (some g253)], p251, p254]) (rest := []) C326 C354
        refine WL.done ?_
        refine W.region rfl ?_
        refine WL.val (Yl.move (v := .int .i64 (wi64 ((wi64 (x245 - 1)).tdiv 2))) ho323) ?_
        refine WL.val (Yl.assign (v := .int .i64 (wi64 ((wi64 (x245 - 1)).tdiv 2))) rfl) ?_
        refine WL.done ?_
        refine inB_n ?_
        exact thenE_n ⟨k306, Nat.lt_succ_self _, wi64 ((wi64 (x245 - 1)).tdiv 2), r344, A345, c346, n347, p349, g351, p352, ho321, rfl, C355, hn348, hR350, hM353, hX189⟩
  · skip
    rintro env_ w_ ⟨A179, c180, n181, p183, g185, p186, C188, hn182, hR184, hM187⟩
    cases H
    exact post_n (resE0 rfl ) ⟨A179, c180, n181, p183, g185, p186, rfl, C188, hn182, hR184, hM187⟩
/-! ### container/heap.Fix: function 22 -/
def heap_Fix.f (k : Nat) (a0 : Tqueue) (a1 : Int) : Option Tqueue := (agenda_queue_Len.f k a0).bind fun r22 => (heap_down.f k a0 a1 r22).bind fun ⟨r26, r27⟩ => if r26 = true then (some r27) else ((heap_up.f k r27 a1).bind fun r41 => some r41)
set_option maxRecDepth 100000 in
set_option maxHeartbeats 4000000 in
theorem heap_Fix.calls (k : Nat) (w : World) (F : CH) (g1 : Nat) (o2 : Nat) (A3 : Option Addr) (c4 : Nat) (n5 : Nat) (p7 : CH) (g9 : Nat) (p10 : CH) (a0 : Tqueue) (a1 : Int) (hp : Pre w F [CH.row g1 o2 [.slice A3 n5 c4, .map (some g9)], p7, p10]) (hn6 : n5 = a0.l.length) (hR8 : Row TEntry.K F p7 (.slice A3 n5 c4) a0.l) (hM11 : MRow (Value.int .i64) (Value.int .i64) p10 g9 a0.place) (r0_ : Tqueue) (H : heap_Fix.f k a0 a1 = some r0_) :
    Calls Try.prog 22 #[.iface 55 (.pointer (some ⟨g1, o2, none⟩)), .int .i64 a1] w fun e w' => ∃ (A53 : Option Addr) (c54 : Nat) (n55 : Nat) (p57 : CH) (g59 : Nat) (p60 : CH), e = .returned (.tuple #[]) ∧ Ctx w F (domL [CH.row g1 o2 [.slice A3 n5 c4, .map (some g9)], p7, p10]) w' F [CH.row g1 o2 [.slice A53 n55 c54, .map (some g59)], p57, p60] ∧ n55 = r0_.l.length ∧ Row TEntry.K F p57 (.slice A53 n55 c54) r0_.l ∧ MRow (Value.int .i64) (Value.int .i64) p60 g59 r0_.place := by
  have C := Ctx.start hp
  generalize hD : domL [CH.row g1 o2 [.slice A3 n5 c4, .map (some g9)], p7, p10] = D at C ⊢
  unfold heap_Fix.f at H
  refine Calls.ofW Try.func22 rfl (by simp [Try.ntmps22]) ?_
  refine W.seq ?_
  refine W.region rfl ?_
  refine WL.val (Yl.move (v := .iface 55 (.pointer (some ⟨g1, o2, none⟩))) rfl) ?_
  refine WL.val (Yl.move (v := .int .i64 a1) rfl) ?_
  refine WL.val (Yl.move (v := .iface 55 (.pointer (some ⟨g1, o2, none⟩))) rfl) ?_
  have le12 : CH.le F (CH.join F (CH.row g1 o2 [.slice A3 n5 c4, .map (some g9)])) := CH.le_joinL _ _
  have lp13 : CH.le (CH.row g1 o2 [.slice A3 n5 c4, .map (some g9)]) (CH.join F (CH.row g1 o2 [.slice A3 n5 c4, .map (some g9)])) := CH.le_joinR (Ctx.dis_of [] [p7, p10] C)
  have C14 : Ctx _ _ _ _ (CH.join F (CH.row g1 o2 [.slice A3 n5 c4, .map (some g9)])) [p7, p10] := Ctx.freeze [] [p7, p10] C
  have le15 : CH.le (CH.join F (CH.row g1 o2 [.slice A3 n5 c4, .map (some g9)])) (CH.join (CH.join F (CH.row g1 o2 [.slice A3 n5 c4, .map (some g9)])) p7) := CH.le_joinL _ _
  have lp16 : CH.le p7 (CH.join (CH.join F (CH.row g1 o2 [.slice A3 n5 c4, .map (some g9)])) p7) := CH.le_joinR (Ctx.dis_of [] [p10] C14)
  have C17 : Ctx _ _ _ _ (CH.join (CH.join F (CH.row g1 o2 [.slice A3 n5 c4, .map (some g9)])) p7) [p10] := Ctx.freeze [] [p10] C14
  have le18 : CH.le (CH.join (CH.join F (CH.row g1 o2 [.slice A3 n5 c4, .map (some g9)])) p7) (CH.join (CH.join (CH.join F (CH.row g1 o2 [.slice A3 n5 c4, .map (some g9)])) p7) p10) := CH.le_joinL _ _
  have lp19 : CH.le p10 (CH.join (CH.join (CH.join F (CH.row g1 o2 [.slice A3 n5 c4, .map (some g9)])) p7) p10) := CH.le_joinR (Ctx.dis_of [] [] C17)
  have C20 : Ctx _ _ _ _ (CH.join (CH.join (CH.join F (CH.row g1 o2 [.slice A3 n5 c4, .map (some g9)])) p7) p10) [] := Ctx.freeze [] [] C17
  obtain ⟨r22, hg21, H⟩ := bindE H
  refine WL.call (args := #[.pointer (some ⟨g1, o2, none⟩)]) (Yenter.inv rfl (by kernel_rfl) Try.underlying55 Try.func23 (by kernel_rfl) rfl (argsE .nil)) (agenda_queue_Len.calls k _ (CH.join (CH.join (CH.join F (CH.row g1 o2 [.slice A3 n5 c4, .map (some g9)])) p7) p10) g1 o2 A3 c4 n5 g9 p10 a0 C20.pre0 hn6 (Row.len_le hR8).1 (Row.len_le hR8).2.1 (Sl.mono (Row.sl hR8) (CH.le_trans (CH.le_trans le12 le15) le18) (CH.le_trans lp16 le18)) hM11 lp19 (CH.le_trans (CH.le_trans lp13 le15) le18) r22 hg21) ?_
  rintro e_ w_ ⟨rfl, ⟨m23, rfl⟩⟩
  refine ⟨_, rfl, ?_⟩
  have C24 := Ctx.drewN C m23
  obtain ⟨⟨r26, r27⟩, hg25, H⟩ := bindE H
  refine WL.call (args := #[.iface 55 (.pointer (some ⟨g1, o2, none⟩)), .int .i64 a1, .int .i64 r22]) (Yenter.fn Try.func29 (by kernel_rfl) rfl (argsE (.cons rfl (.cons rfl (.cons rfl .nil))))) (heap_down.calls k _ F g1 o2 A3 c4 n5 p7 g9 p10 a0 a1 r22 (Ctx.pre (qs := [CH.row g1 o2 [.slice A3 n5 c4, .map (some g9)], p7, p10]) (rest := []) C24) hn6 hR8 hM11 r26 r27 hg25) ?_
  rintro e_ w_ ⟨A28, c29, n30, p32, g34, p35, rfl, C37, hn31, hR33, hM36⟩
  refine ⟨_, rfl, ?_⟩
  have C38 : Ctx _ _ _ _ F [CH.row g1 o2 [.slice A28 n30 c29, .map (some g34)], p32, p35] := Ctx.call (qs := [CH.row g1 o2 [.slice A3 n5 c4, .map (some g9)], p7, p10]) (rest := []) C24 C37
  refine WL.val (Yl.not (p := r26) (q := !r26) rfl rfl) ?_
  refine WL.done ?_
  rcases iteE H with ⟨hc39, H⟩ | ⟨hc39, H⟩
  · skip
    refine W.condF (congrArg Value.bool (nb_t hc39)) ?_
    refine W.skip ?_
    cases H
    exact post_n (resE0 rfl ) ⟨A28, c29, n30, p32, g34, p35, rfl, C38, hn31, hR33, hM36⟩
  · skip
    refine W.condT (congrArg Value.bool (nb_f hc39)) ?_
    refine W.region rfl ?_
    refine WL.val (Yl.move (v := .iface 55 (.pointer (some ⟨g1, o2, none⟩))) rfl) ?_
    refine WL.val (Yl.move (v := .int .i64 a1) rfl) ?_
    obtain ⟨r41, hg40, H⟩ := bindE H
    refine WL.call (args := #[.iface 55 (.pointer (some ⟨g1, o2, none⟩)), .int .i64 a1]) (Yenter.fn Try.func30 (by kernel_rfl) rfl (argsE (.cons rfl (.cons rfl .nil)))) (heap_up.calls k _ F g1 o2 A28 c29 n30 p32 g34 p35 r27 a1 (Ctx.pre (qs := [CH.row g1 o2 [.slice A28 n30 c29, .map (some g34)], p32, p35]) (rest := []) C38) hn31 hR33 hM36 r41 hg40) ?_
    rintro e_ w_ ⟨A42, c43, n44, p46, g48, p49, rfl, C51, hn45, hR47, hM50⟩
    refine ⟨_, rfl, ?_⟩
    have C52 : Ctx _ _ _ _ F [CH.row g1 o2 [.slice A42 n44 c43, .map (some g48)], p46, p49] := Ctx.call (qs := [CH.row g1 o2 [.slice A28 n30 c29, .map (some g34)], p32, p35]) (rest := []) C38 C51
    refine WL.done ?_
    cases H
    exact post_n (resE0 rfl ) ⟨A42, c43, n44, p46, g48, p49, rfl, C52, hn45, hR47, hM50⟩
/-! ### container/heap.Push: function 24 -/
def heap_Push.f (k : Nat) (a0 : Tqueue) (a1 : TEntry) : Option Tqueue := (agenda_queue_Push.f k a0 a1).bind fun r13 => (agenda_queue_Len.f k r13).bind fun r35 => (heap_up.f k r13 (wi64 (r35 - 1))).bind fun r39 => some r39
set_option maxRecDepth 100000 in
set_option maxHeartbeats 4000000 in
theorem heap_Push.calls (k : Nat) (w : World) (F : CH) (g1 : Nat) (o2 : Nat) (A3 : Option Addr) (c4 : Nat) (n5 : Nat) (p7 : CH) (g9 : Nat) (p10 : CH) (a0 : Tqueue) (a1 : TEntry) (hp : Pre w F [CH.row g1 o2 [.slice A3 n5 c4, .map (some g9)], p7, p10]) (hn6 : n5 = a0.l.length) (hR8 : Row TEntry.K F p7 (.slice A3 n5 c4) a0.l) (hM11 : MRow (Value.int .i64) (Value.int .i64) p10 g9 a0.place) (r0_ : Tqueue) (H : heap_Push.f k a0 a1 = some r0_) :
    Calls Try.prog 24 #[.iface 55 (.pointer (some ⟨g1, o2, none⟩)), .iface 29 (.agg (List.toArray [.int .i64 a1.At, .int .i64 a1.ID]))] w fun e w' => ∃ (A51 : Option Addr) (c52 : Nat) (n53 : Nat) (p55 : CH) (g57 : Nat) (p58 : CH), e = .returned (.tuple #[]) ∧ Ctx w F (domL [CH.row g1 o2 [.slice A3 n5 c4, .map (some g9)], p7, p10]) w' F [CH.row g1 o2 [.slice A51 n53 c52, .map (some g57)], p55, p58] ∧ n53 = r0_.l.length ∧ Row TEntry.K F p55 (.slice A51 n53 c52) r0_.l ∧ MRow (Value.int .i64) (Value.int .i64) p58 g57 r0_.place := by
  have C := Ctx.start hp
  generalize hD : domL [CH.row g1 o2 [.slice A3 n5 c4, .map (some g9)], p7, p10] = D at C ⊢
  unfold heap_Push.f at H
  refine Calls.ofW Try.func24 rfl (by simp [Try.ntmps24]) ?_
  refine W.seq ?_
  refine W.region rfl ?_
  refine WL.val (Yl.move (v := .iface 55 (.pointer (some ⟨g1, o2, none⟩))) rfl) ?_
  refine WL.val (Yl.move (v := .iface 29 (.agg (List.toArray [.int .i64 a1.At, .int .i64 a1.ID]))) rfl) ?_
  obtain ⟨r13, hg12, H⟩ := bindE H
  refine WL.call (args := #[.pointer (some ⟨g1, o2, none⟩), .iface 29 (.agg (List.toArray [.int .i64 a1.At, .int .i64 a1.ID]))]) (Yenter.inv rfl (by kernel_rfl) Try.underlying55 Try.func49 (by kernel_rfl) rfl (argsE (.cons rfl .nil))) (agenda_queue_Push.calls k _ F g1 o2 A3 c4 n5 p7 g9 p10 a0 a1 (Ctx.pre (qs := [CH.row g1 o2 [.slice A3 n5 c4, .map (some g9)], p7, p10]) (rest := []) C) hn6 hR8 hM11 r13 hg12) ?_
  rintro e_ w_ ⟨A14, c15, n16, p18, g20, p21, rfl, C23, hn17, hR19, hM22⟩
  refine ⟨_, rfl, ?_⟩
  have C24 : Ctx _ _ _ _ F [CH.row g1 o2 [.slice A14 n16 c15, .map (some g20)], p18, p21] := Ctx.call (qs := [CH.row g1 o2 [.slice A3 n5 c4, .map (some g9)], p7, p10]) (rest := []) C C23
  refine WL.done ?_
  refine W.region rfl ?_
  refine WL.val (Yl.move (v := .iface 55 (.pointer (some ⟨g1, o2, none⟩))) rfl) ?_
  refine WL.val (Yl.move (v := .iface 55 (.pointer (some ⟨g1, o2, none⟩))) rfl) ?_
  have le25 : CH.le F (CH.join F (CH.row g1 o2 [.slice A14 n16 c15, .map (some g20)])) := CH.le_joinL _ _
  have lp26 : CH.le (CH.row g1 o2 [.slice A14 n16 c15, .map (some g20)]) (CH.join F (CH.row g1 o2 [.slice A14 n16 c15, .map (some g20)])) := CH.le_joinR (Ctx.dis_of [] [p18, p21] C24)
  have C27 : Ctx _ _ _ _ (CH.join F (CH.row g1 o2 [.slice A14 n16 c15, .map (some g20)])) [p18, p21] := Ctx.freeze [] [p18, p21] C24
  have le28 : CH.le (CH.join F (CH.row g1 o2 [.slice A14 n16 c15, .map (some g20)])) (CH.join (CH.join F (CH.row g1 o2 [.slice A14 n16 c15, .map (some g20)])) p18) := CH.le_joinL _ _
  have lp29 : CH.le p18 (CH.join (CH.join F (CH.row g1 o2 [.slice A14 n16 c15, .map (some g20)])) p18) := CH.le_joinR (Ctx.dis_of [] [p21] C27)
  have C30 : Ctx _ _ _ _ (CH.join (CH.join F (CH.row g1 o2 [.slice A14 n16 c15, .map (some g20)])) p18) [p21] := Ctx.freeze [] [p21] C27
  have le31 : CH.le (CH.join (CH.join F (CH.row g1 o2 [.slice A14 n16 c15, .map (some g20)])) p18) (CH.join (CH.join (CH.join F (CH.row g1 o2 [.slice A14 n16 c15, .map (some g20)])) p18) p21) := CH.le_joinL _ _
  have lp32 : CH.le p21 (CH.join (CH.join (CH.join F (CH.row g1 o2 [.slice A14 n16 c15, .map (some g20)])) p18) p21) := CH.le_joinR (Ctx.dis_of [] [] C30)
  have C33 : Ctx _ _ _ _ (CH.join (CH.join (CH.join F (CH.row g1 o2 [.slice A14 n16 c15, .map (some g20)])) p18) p21) [] := Ctx.freeze [] [] C30
  obtain ⟨r35, hg34, H⟩ := bindE H
  refine WL.call (args := #[.pointer (some ⟨g1, o2, none⟩)]) (Yenter.inv rfl (by kernel_rfl) Try.underlying55 Try.func23 (by kernel_rfl) rfl (argsE .nil)) (agenda_queue_Len.calls k _ (CH.join (CH.join (CH.join F (CH.row g1 o2 [.slice A14 n16 c15, .map (some g20)])) p18) p21) g1 o2 A14 c15 n16 g20 p21 r13 C33.pre0 hn17 (Row.len_le hR19).1 (Row.len_le hR19).2.1 (Sl.mono (Row.sl hR19) (CH.le_trans (CH.le_trans le25 le28) le31) (CH.le_trans lp29 le31)) hM22 lp32 (CH.le_trans (CH.le_trans lp26 le28) le31) r35 hg34) ?_
  rintro e_ w_ ⟨rfl, ⟨m36, rfl⟩⟩
  refine ⟨_, rfl, ?_⟩
  have C37 := Ctx.drewN C24 m36
  refine WL.val (Yl.sub (m := r35) (n := 1) (r := wi64 (r35 - 1)) rfl rfl rfl) ?_
  obtain ⟨r39, hg38, H⟩ := bindE H
  refine WL.call (args := #[.iface 55 (.pointer (some ⟨g1, o2, none⟩)), .int .i64 (wi64 (r35 - 1))]) (Yenter.fn Try.func30 (by kernel_rfl) rfl (argsE (.cons rfl (.cons rfl .nil)))) (heap_up.calls k _ F g1 o2 A14 c15 n16 p18 g20 p21 r13 (wi64 (r35 - 1)) (Ctx.pre (qs := [CH.row g1 o2 [.slice A14 n16 c15, .map (some g20)], p18, p21]) (rest := []) C37) hn17 hR19 hM22 r39 hg38) ?_
  rintro e_ w_ ⟨A40, c41, n42, p44, g46, p47, rfl, C49, hn43, hR45, hM48⟩
  refine ⟨_, rfl, ?_⟩
  have C50 : Ctx _ _ _ _ F [CH.row g1 o2 [.slice A40 n42 c41, .map (some g46)], p44, p47] := Ctx.call (qs := [CH.row g1 o2 [.slice A14 n16 c15, .map (some g20)], p18, p21]) (rest := []) C37 C49
  refine WL.done ?_
  cases H
  exact post_n (resE0 rfl ) ⟨A40, c41, n42, p44, g46, p47, rfl, C50, hn43, hR45, hM48⟩
/-! ### container/heap.Pop: function 25 -/
def heap_Pop.f (k : Nat) (a0 : Tqueue) : Option (TEntry × Tqueue) := (agenda_queue_Len.f k a0).bind fun r22 => (agenda_queue_Swap.f k a0 0 (wi64 (r22 - 1))).bind fun r26 => (heap_down.f k r26 0 (wi64 (r22 - 1))).bind fun ⟨r39, r40⟩ => (agenda_queue_Pop.f k r40).bind fun ⟨r53, r54⟩ => some (r53, r54)
set_option maxRecDepth 100000 in
set_option maxHeartbeats 4000000 in
theorem heap_Pop.calls (k : Nat) (w : World) (F : CH) (g1 : Nat) (o2 : Nat) (A3 : Option Addr) (c4 : Nat) (n5 : Nat) (p7 : CH) (g9 : Nat) (p10 : CH) (a0 : Tqueue) (hp : Pre w F [CH.row g1 o2 [.slice A3 n5 c4, .map (some g9)], p7, p10]) (hn6 : n5 = a0.l.length) (hR8 : Row TEntry.K F p7 (.slice A3 n5 c4) a0.l) (hM11 : MRow (Value.int .i64) (Value.int .i64) p10 g9 a0.place) (r0_ : TEntry) (r1_ : Tqueue) (H : heap_Pop.f k a0 = some (r0_, r1_)) :
    Calls Try.prog 25 #[.iface 55 (.pointer (some ⟨g1, o2, none⟩))] w fun e w' => ∃ (A66 : Option Addr) (c67 : Nat) (n68 : Nat) (p70 : CH) (g72 : Nat) (p73 : CH), e = .returned (.iface 29 (.agg (List.toArray [.int .i64 r0_.At, .int .i64 r0_.ID]))) ∧ Ctx w F (domL [CH.row g1 o2 [.slice A3 n5 c4, .map (some g9)], p7, p10]) w' F [CH.row g1 o2 [.slice A66 n68 c67, .map (some g72)], p70, p73] ∧ n68 = r1_.l.length ∧ Row TEntry.K F p70 (.slice A66 n68 c67) r1_.l ∧ MRow (Value.int .i64) (Value.int .i64) p73 g72 r1_.place := by
  have C := Ctx.start hp
  generalize hD : domL [CH.row g1 o2 [.slice A3 n5 c4, .map (some g9)], p7, p10] = D at C ⊢
  unfold heap_Pop.f at H
  refine Calls.ofW Try.func25 rfl (by simp [Try.ntmps25]) ?_
  refine W.seq ?_
  refine W.region rfl ?_
  refine WL.val (Yl.assign (v := .nilIface) rfl) ?_
  refine WL.done ?_
  refine W.seq ?_
  refine W.region rfl ?_
  refine WL.val (Yl.move (v := .iface 55 (.pointer (some ⟨g1, o2, none⟩))) rfl) ?_
  have le12 : CH.le F (CH.join F (CH.row g1 o2 [.slice A3 n5 c4, .map (some g9)])) := CH.le_joinL _ _
  have lp13 : CH.le (CH.row g1 o2 [.slice A3 n5 c4, .map (some g9)]) (CH.join F (CH.row g1 o2 [.slice A3 n5 c4, .map (some g9)])) := CH.le_joinR (Ctx.dis_of [] [p7, p10] C)
  have C14 : Ctx _ _ _ _ (CH.join F (CH.row g1 o2 [.slice A3 n5 c4, .map (some g9)])) [p7, p10] := Ctx.freeze [] [p7, p10] C
  have le15 : CH.le (CH.join F (CH.row g1 o2 [.slice A3 n5 c4, .map (some g9)])) (CH.join (CH.join F (CH.row g1 o2 [.slice A3 n5 c4, .map (some g9)])) p7) := CH.le_joinL _ _
  have lp16 : CH.le p7 (CH.join (CH.join F (CH.row g1 o2 [.slice A3 n5 c4, .map (some g9)])) p7) := CH.le_joinR (Ctx.dis_of [] [p10] C14)
  have C17 : Ctx _ _ _ _ (CH.join (CH.join F (CH.row g1 o2 [.slice A3 n5 c4, .map (some g9)])) p7) [p10] := Ctx.freeze [] [p10] C14
  have le18 : CH.le (CH.join (CH.join F (CH.row g1 o2 [.slice A3 n5 c4, .map (some g9)])) p7) (CH.join (CH.join (CH.join F (CH.row g1 o2 [.slice A3 n5 c4, .map (some g9)])) p7) p10) := CH.le_joinL _ _
  have lp19 : CH.le p10 (CH.join (CH.join (CH.join F (CH.row g1 o2 [.slice A3 n5 c4, .map (some g9)])) p7) p10) := CH.le_joinR (Ctx.dis_of [] [] C17)
  have C20 : Ctx _ _ _ _ (CH.join (CH.join (CH.join F (CH.row g1 o2 [.slice A3 n5 c4, .map (some g9)])) p7) p10) [] := Ctx.freeze [] [] C17
  obtain ⟨r22, hg21, H⟩ := bindE H
  refine WL.call (args := #[.pointer (some ⟨g1, o2, none⟩)]) (Yenter.inv rfl (by kernel_rfl) Try.underlying55 Try.func23 (by kernel_rfl) rfl (argsE .nil)) (agenda_queue_Len.calls k _ (CH.join (CH.join (CH.join F (CH.row g1 o2 [.slice A3 n5 c4, .map (some g9)])) p7) p10) g1 o2 A3 c4 n5 g9 p10 a0 C20.pre0 hn6 (Row.len_le hR8).1 (Row.len_le hR8).2.1 (Sl.mono (Row.sl hR8) (CH.le_trans (CH.le_trans le12 le15) le18) (CH.le_trans lp16 le18)) hM11 lp19 (CH.le_trans (CH.le_trans lp13 le15) le18) r22 hg21) ?_
  rintro e_ w_ ⟨rfl, ⟨m23, rfl⟩⟩
  refine ⟨_, rfl, ?_⟩
  have C24 := Ctx.drewN C m23
  refine WL.val (Yl.sub (m := r22) (n := 1) (r := wi64 (r22 - 1)) rfl rfl rfl) ?_
  refine WL.val (Yl.assign (v := .int .i64 (wi64 (r22 - 1))) rfl) ?_
  refine WL.done ?_
  refine W.seq ?_
  refine W.region rfl ?_
  refine WL.val (Yl.move (v := .iface 55 (.pointer (some ⟨g1, o2, none⟩))) rfl) ?_
  refine WL.val (Yl.move (v := .int .i64 (wi64 (r22 - 1))) rfl) ?_
  obtain ⟨r26, hg25, H⟩ := bindE H
  refine WL.call (args := #[.pointer (some ⟨g1, o2, none⟩), .int .i64 0, .int .i64 (wi64 (r22 - 1))]) (Yenter.inv rfl (by kernel_rfl) Try.underlying55 Try.func50 (by kernel_rfl) rfl (argsE (.cons rfl (.cons rfl .nil)))) (agenda_queue_Swap.calls k _ F g1 o2 A3 c4 n5 p7 g9 p10 a0 0 (wi64 (r22 - 1)) (Ctx.pre (qs := [CH.row g1 o2 [.slice A3 n5 c4, .map (some g9)], p7, p10]) (rest := []) C24) hn6 hR8 hM11 r26 hg25) ?_
  rintro e_ w_ ⟨A27, c28, n29, p31, g33, p34, rfl, C36, hn30, hR32, hM35⟩
  refine ⟨_, rfl, ?_⟩
  have C37 : Ctx _ _ _ _ F [CH.row g1 o2 [.slice A27 n29 c28, .map (some g33)], p31, p34] := Ctx.call (qs := [CH.row g1 o2 [.slice A3 n5 c4, .map (some g9)], p7, p10]) (rest := []) C24 C36
  refine WL.done ?_
  refine W.seq ?_
  refine W.region rfl ?_
  refine WL.val (Yl.move (v := .iface 55 (.pointer (some ⟨g1, o2, none⟩))) rfl) ?_
  refine WL.val (Yl.move (v := .int .i64 (wi64 (r22 - 1))) rfl) ?_
  obtain ⟨⟨r39, r40⟩, hg38, H⟩ := bindE H
  refine WL.call (args := #[.iface 55 (.pointer (some ⟨g1, o2, none⟩)), .int .i64 0, .int .i64 (wi64 (r22 - 1))]) (Yenter.fn Try.func29 (by kernel_rfl) rfl (argsE (.cons rfl (.cons rfl (.cons rfl .nil))))) (heap_down.calls k _ F g1 o2 A27 c28 n29 p31 g33 p34 r26 0 (wi64 (r22 - 1)) (Ctx.pre (qs := [CH.row g1 o2 [.slice A27 n29 c28, .map (some g33)], p31, p34]) (rest := []) C37) hn30 hR32 hM35 r39 r40 hg38) ?_
  rintro e_ w_ ⟨A41, c42, n43, p45, g47, p48, rfl, C50, hn44, hR46, hM49⟩
  refine ⟨_, rfl, ?_⟩
  have C51 : Ctx _ _ _ _ F [CH.row g1 o2 [.slice A41 n43 c42, .map (some g47)], p45, p48] := Ctx.call (qs := [CH.row g1 o2 [.slice A27 n29 c28, .map (some g33)], p31, p34]) (rest := []) C37 C50
  refine WL.done ?_
  refine W.seq ?_
  refine W.region rfl ?_
  refine WL.val (Yl.move (v := .iface 55 (.pointer (some ⟨g1, o2, none⟩))) rfl) ?_
  obtain ⟨⟨r53, r54⟩, hg52, H⟩ := bindE H
  refine WL.call (args := #[.pointer (some ⟨g1, o2, none⟩)]) (Yenter.inv rfl (by kernel_rfl) Try.underlying55 Try.func48 (by kernel_rfl) rfl (argsE .nil)) (agenda_queue_Pop.calls k _ F g1 o2 A41 c42 n43 p45 g47 p48 r40 (Ctx.pre (qs := [CH.row g1 o2 [.slice A41 n43 c42, .map (some g47)], p45, p48]) (rest := []) C51) hn44 hR46 hM49 r53 r54 hg52) ?_
  rintro e_ w_ ⟨A55, c56, n57, p59, g61, p62, rfl, C64, hn58, hR60, hM63⟩
  refine ⟨_, rfl, ?_⟩
  have C65 : Ctx _ _ _ _ F [CH.row g1 o2 [.slice A55 n57 c56, .map (some g61)], p59, p62] := Ctx.call (qs := [CH.row g1 o2 [.slice A41 n43 c42, .map (some g47)], p45, p48]) (rest := []) C51 C64
  refine WL.val (Yl.assign (v := .iface 29 (.agg (List.toArray [.int .i64 r53.At, .int .i64 r53.ID]))) rfl) ?_
  refine WL.done ?_
  refine W.ret ?_
  cases H
  exact post_r (resE1 rfl rfl) ⟨A55, c56, n57, p59, g61, p62, rfl, C65, hn58, hR60, hM63⟩
/-! ### container/heap.Remove: function 27 -/
def heap_Remove.f (k : Nat) (a0 : Tqueue) (a1 : Int) : Option (TEntry × Tqueue) := (agenda_queue_Len.f k a0).bind fun r22 => if (wi64 (r22 - 1)) = a1 then ((agenda_queue_Pop.f k a0).bind fun ⟨r27, r28⟩ => some (r27, r28)) else ((agenda_queue_Swap.f k a0 a1 (wi64 (r22 - 1))).bind fun r41 => (heap_down.f k r41 a1 (wi64 (r22 - 1))).bind fun ⟨r54, r55⟩ => if r54 = true then ((agenda_queue_Pop.f k r55).bind fun ⟨r69, r70⟩ => some (r69, r70)) else ((heap_up.f k r55 a1).bind fun r83 => (agenda_queue_Pop.f k r83).bind fun ⟨r96, r97⟩ => some (r96, r97)))
set_option maxRecDepth 100000 in
set_option maxHeartbeats 4000000 in
theorem heap_Remove.calls (k : Nat) (w : World) (F : CH) (g1 : Nat) (o2 : Nat) (A3 : Option Addr) (c4 : Nat) (n5 : Nat) (p7 : CH) (g9 : Nat) (p10 : CH) (a0 : Tqueue) (a1 : Int) (hp : Pre w F [CH.row g1 o2 [.slice A3 n5 c4, .map (some g9)], p7, p10]) (hn6 : n5 = a0.l.length) (hR8 : Row TEntry.K F p7 (.slice A3 n5 c4) a0.l) (hM11 : MRow (Value.int .i64) (Value.int .i64) p10 g9 a0.place) (r0_ : TEntry) (r1_ : Tqueue) (H : heap_Remove.f k a0 a1 = some (r0_, r1_)) :
    Calls Try.prog 27 #[.iface 55 (.pointer (some ⟨g1, o2, none⟩)), .int .i64 a1] w fun e w' => ∃ (A109 : Option Addr) (c110 : Nat) (n111 : Nat) (p113 : CH) (g115 : Nat) (p116 : CH), e = .returned (.iface 29 (.agg (List.toArray [.int .i64 r0_.At, .int .i64 r0_.ID]))) ∧ Ctx w F (domL [CH.row g1 o2 [.slice A3 n5 c4, .map (some g9)], p7, p10]) w' F [CH.row g1 o2 [.slice A109 n111 c110, .map (some g115)], p113, p116] ∧ n111 = r1_.l.length ∧ Row TEntry.K F p113 (.slice A109 n111 c110) r1_.l ∧ MRow (Value.int .i64) (Value.int .i64) p116 g115 r1_.place := by
  have C := Ctx.start hp
  generalize hD : domL [CH.row g1 o2 [.slice A3 n5 c4, .map (some g9)], p7, p10] = D at C ⊢
  unfold heap_Remove.f at H
  refine Calls.ofW Try.func27 rfl (by simp [Try.ntmps27]) ?_
  refine W.seq ?_
  refine W.region rfl ?_
  refine WL.val (Yl.assign (v := .nilIface) rfl) ?_
  refine WL.done ?_
  refine W.seq ?_
  refine W.region rfl ?_
  refine WL.val (Yl.move (v := .iface 55 (.pointer (some ⟨g1, o2, none⟩))) rfl) ?_
  have le12 : CH.le F (CH.join F (CH.row g1 o2 [.slice A3 n5 c4, .map (some g9)])) := CH.le_joinL _ _
  have lp13 : CH.le (CH.row g1 o2 [.slice A3 n5 c4, .map (some g9)]) (CH.join F (CH.row g1 o2 [.slice A3 n5 c4, .map (some g9)])) := CH.le_joinR (Ctx.dis_of [] [p7, p10] C)
  have C14 : Ctx _ _ _ _ (CH.join F (CH.row g1 o2 [.slice A3 n5 c4, .map (some g9)])) [p7, p10] := Ctx.freeze [] [p7, p10] C
  have le15 : CH.le (CH.join F (CH.row g1 o2 [.slice A3 n5 c4, .map (some g9)])) (CH.join (CH.join F (CH.row g1 o2 [.slice A3 n5 c4, .map (some g9)])) p7) := CH.le_joinL _ _
  have lp16 : CH.le p7 (CH.join (CH.join F (CH.row g1 o2 [.slice A3 n5 c4, .map (some g9)])) p7) := CH.le_joinR (Ctx.dis_of [] [p10] C14)
  have C17 : Ctx _ _ _ _ (CH.join (CH.join F (CH.row g1 o2 [.slice A3 n5 c4, .map (some g9)])) p7) [p10] := Ctx.freeze [] [p10] C14
  have le18 : CH.le (CH.join (CH.join F (CH.row g1 o2 [.slice A3 n5 c4, .map (some g9)])) p7) (CH.join (CH.join (CH.join F (CH.row g1 o2 [.slice A3 n5 c4, .map (some g9)])) p7) p10) := CH.le_joinL _ _
  have lp19 : CH.le p10 (CH.join (CH.join (CH.join F (CH.row g1 o2 [.slice A3 n5 c4, .map (some g9)])) p7) p10) := CH.le_joinR (Ctx.dis_of [] [] C17)
  have C20 : Ctx _ _ _ _ (CH.join (CH.join (CH.join F (CH.row g1 o2 [.slice A3 n5 c4, .map (some g9)])) p7) p10) [] := Ctx.freeze [] [] C17
  obtain ⟨r22, hg21, H⟩ := bindE H
  refine WL.call (args := #[.pointer (some ⟨g1, o2, none⟩)]) (Yenter.inv rfl (by kernel_rfl) Try.underlying55 Try.func23 (by kernel_rfl) rfl (argsE .nil)) (agenda_queue_Len.calls k _ (CH.join (CH.join (CH.join F (CH.row g1 o2 [.slice A3 n5 c4, .map (some g9)])) p7) p10) g1 o2 A3 c4 n5 g9 p10 a0 C20.pre0 hn6 (Row.len_le hR8).1 (Row.len_le hR8).2.1 (Sl.mono (Row.sl hR8) (CH.le_trans (CH.le_trans le12 le15) le18) (CH.le_trans lp16 le18)) hM11 lp19 (CH.le_trans (CH.le_trans lp13 le15) le18) r22 hg21) ?_
  rintro e_ w_ ⟨rfl, ⟨m23, rfl⟩⟩
  refine ⟨_, rfl, ?_⟩
  have C24 := Ctx.drewN C m23
  refine WL.val (Yl.sub (m := r22) (n := 1) (r := wi64 (r22 - 1)) rfl rfl rfl) ?_
  refine WL.val (Yl.assign (v := .int .i64 (wi64 (r22 - 1))) rfl) ?_
  refine WL.done ?_
  refine W.seq ?_
  refine W.seq ?_
  refine W.region rfl ?_
  refine WL.val (Yl.move (v := .int .i64 (wi64 (r22 - 1))) rfl) ?_
  refine WL.val (Yl.move (v := .int .i64 a1) rfl) ?_
  refine WL.val (Yl.neq (m := wi64 (r22 - 1)) (n := a1) (q := !decide ((wi64 (r22 - 1)) = a1)) rfl rfl rfl) ?_
  refine WL.done ?_
  rcases iteE H with ⟨hc25, H⟩ | ⟨hc25, H⟩
  · skip
    refine W.condF (congrArg Value.bool (ndec_t hc25)) ?_
    refine W.skip ?_
    refine W.seq ?_
    refine W.region rfl ?_
    refine WL.val (Yl.move (v := .iface 55 (.pointer (some ⟨g1, o2, none⟩))) rfl) ?_
    obtain ⟨⟨r27, r28⟩, hg26, H⟩ := bindE H
    refine WL.call (args := #[.pointer (some ⟨g1, o2, none⟩)]) (Yenter.inv rfl (by kernel_rfl) Try.underlying55 Try.func48 (by kernel_rfl) rfl (argsE .nil)) (agenda_queue_Pop.calls k _ F g1 o2 A3 c4 n5 p7 g9 p10 a0 (Ctx.pre (qs := [CH.row g1 o2 [.slice A3 n5 c4, .map (some g9)], p7, p10]) (rest := []) C24) hn6 hR8 hM11 r27 r28 hg26) ?_
    rintro e_ w_ ⟨A29, c30, n31, p33, g35, p36, rfl, C38, hn32, hR34, hM37⟩
    refine ⟨_, rfl, ?_⟩
    have C39 : Ctx _ _ _ _ F [CH.row g1 o2 [.slice A29 n31 c30, .map (some g35)], p33, p36] := Ctx.call (qs := [CH.row g1 o2 [.slice A3 n5 c4, .map (some g9)], p7, p10]) (rest := []) C24 C38
    refine WL.val (Yl.assign (v := .iface 29 (.agg (List.toArray [.int .i64 r27.At, .int .i64 r27.ID]))) rfl) ?_
    refine WL.done ?_
    refine W.ret ?_
    cases H
    exact post_r (resE1 rfl rfl) ⟨A29, c30, n31, p33, g35, p36, rfl, C39, hn32, hR34, hM37⟩
  · skip
    refine W.condT (congrArg Value.bool (ndec_f hc25)) ?_
    refine W.seq ?_
    refine W.region rfl ?_
    refine WL.val (Yl.move (v := .iface 55 (.pointer (some ⟨g1, o2, none⟩))) rfl) ?_
    refine WL.val (Yl.move (v := .int .i64 a1) rfl) ?_
    refine WL.val (Yl.move (v := .int .i64 (wi64 (r22 - 1))) rfl) ?_
    obtain ⟨r41, hg40, H⟩ := bindE H
    refine WL.call (args := #[.pointer (some ⟨g1, o2, none⟩), .int .i64 a1, .int .i64 (wi64 (r22 - 1))]) (Yenter.inv rfl (by kernel_rfl) Try.underlying55 Try.func50 (by kernel_rfl) rfl (argsE (.cons rfl (.cons rfl .nil)))) (agenda_queue_Swap.calls k _ F g1 o2 A3 c4 n5 p7 g9 p10 a0 a1 (wi64 (r22 - 1)) (Ctx.pre (qs := [CH.row g1 o2 [.slice A3 n5 c4, .map (some g9)], p7, p10]) (rest := []) C24) hn6 hR8 hM11 r41 hg40) ?_
    rintro e_ w_ ⟨A42, c43, n44, p46, g48, p49, rfl, C51, hn45, hR47, hM50⟩
    refine ⟨_, rfl, ?_⟩
    have C52 : Ctx _ _ _ _ F [CH.row g1 o2 [.slice A42 n44 c43, .map (some g48)], p46, p49] := Ctx.call (qs := [CH.row g1 o2 [.slice A3 n5 c4, .map (some g9)], p7, p10]) (rest := []) C24 C51
    refine WL.done ?_
    refine W.seq ?_
    refine W.region rfl ?_
    refine WL.val (Yl.move (v := .iface 55 (.pointer (some ⟨g1, o2, none⟩))) rfl) ?_
    refine WL.val (Yl.move (v := .int .i64 a1) rfl) ?_
    refine WL.val (Yl.move (v := .int .i64 (wi64 (r22 - 1))) rfl) ?_
    obtain ⟨⟨r54, r55⟩, hg53, H⟩ := bindE H
    refine WL.call (args := #[.iface 55 (.pointer (some ⟨g1, o2, none⟩)), .int .i64 a1, .int .i64 (wi64 (r22 - 1))]) (Yenter.fn Try.func29 (by kernel_rfl) rfl (argsE (.cons rfl (.cons rfl (.cons rfl .nil))))) (heap_down.calls k _ F g1 o2 A42 c43 n44 p46 g48 p49 r41 a1 (wi64 (r22 - 1)) (Ctx.pre (qs := [CH.row g1 o2 [.slice A42 n44 c43, .map (some g48)], p46, p49]) (rest := []) C52) hn45 hR47 hM50 r54 r55 hg53) ?_
    rintro e_ w_ ⟨A56, c57, n58, p60, g62, p63, rfl, C65, hn59, hR61, hM64⟩
    refine ⟨_, rfl, ?_⟩
    have C66 : Ctx _ _ _ _ F [CH.row g1 o2 [.slice A56 n58 c57, .map (some g62)], p60, p63] := Ctx.call (qs := [CH.row g1 o2 [.slice A42 n44 c43, .map (some g48)], p46, p49]) (rest := []) C52 C65
    refine WL.val (Yl.not (p := r54) (q := !r54) rfl rfl) ?_
    refine WL.done ?_
    rcases iteE H with ⟨hc67, H⟩ | ⟨hc67, H⟩
    · skip
      refine W.condF (congrArg Value.bool (nb_t hc67)) ?_
      refine W.skip ?_
      refine W.seq ?_
      refine W.region rfl ?_
      refine WL.val (Yl.move (v := .iface 55 (.pointer (some ⟨g1, o2, none⟩))) rfl) ?_
      obtain ⟨⟨r69, r70⟩, hg68, H⟩ := bindE H
      refine WL.call (args := #[.pointer (some ⟨g1, o2, none⟩)]) (Yenter.inv rfl (by kernel_rfl) Try.underlying55 Try.func48 (by kernel_rfl) rfl (argsE .nil)) (agenda_queue_Pop.calls k _ F g1 o2 A56 c57 n58 p60 g62 p63 r55 (Ctx.pre (qs := [CH.row g1 o2 [.slice A56 n58 c57, .map (some g62)], p60, p63]) (rest := []) C66) hn59 hR61 hM64 r69 r70 hg68) ?_
      rintro e_ w_ ⟨A71, c72, n73, p75, g77, p78, rfl, C80, hn74, hR76, hM79⟩
      refine ⟨_, rfl, ?_⟩
      have C81 : Ctx _ _ _ _ F [CH.row g1 o2 [.slice A71 n73 c72, .map (some g77)], p75, p78] := Ctx.call (qs := [CH.row g1 o2 [.slice A56 n58 c57, .map (some g62)], p60, p63]) (rest := []) C66 C80
      refine WL.val (Yl.assign (v := .iface 29 (.agg (List.toArray [.int .i64 r69.At, .int .i64 r69.ID]))) rfl) ?_
      refine WL.done ?_
      refine W.ret ?_
      cases H
      exact post_r (resE1 rfl rfl) ⟨A71, c72, n73, p75, g77, p78, rfl, C81, hn74, hR76, hM79⟩
    · skip
      refine W.condT (congrArg Value.bool (nb_f hc67)) ?_
      refine W.region rfl ?_
      refine WL.val (Yl.move (v := .iface 55 (.pointer (some ⟨g1, o2, none⟩))) rfl) ?_
      refine WL.val (Yl.move (v := .int .i64 a1) rfl) ?_
      obtain ⟨r83, hg82, H⟩ := bindE H
      refine WL.call (args := #[.iface 55 (.pointer (some ⟨g1, o2, none⟩)), .int .i64 a1]) (Yenter.fn Try.func30 (by kernel_rfl) rfl (argsE (.cons rfl (.cons rfl .nil)))) (heap_up.calls k _ F g1 o2 A56 c57 n58 p60 g62 p63 r55 a1 (Ctx.pre (qs := [CH.row g1 o2 [.slice A56 n58 c57, .map (some g62)], p60, p63]) (rest := []) C66) hn59 hR61 hM64 r83 hg82) ?_
      rintro e_ w_ ⟨A84, c85, n86, p88, g90, p91, rfl, C93, hn87, hR89, hM92⟩
      refine ⟨_, rfl, ?_⟩
      have C94 : Ctx _ _ _ _ F [CH.row g1 o2 [.slice A84 n86 c85, .map (some g90)], p88, p91] := Ctx.call (qs := [CH.row g1 o2 [.slice A56 n58 c57, .map (some g62)], p60, p63]) (rest := []) C66 C93
      refine WL.done ?_
      refine W.seq ?_
      refine W.region rfl ?_
      refine WL.val (Yl.move (v := .iface 55 (.pointer (some ⟨g1, o2, none⟩))) rfl) ?_
      obtain ⟨⟨r96, r97⟩, hg95, H⟩ := bindE H
      refine WL.call (args := #[.pointer (some ⟨g1, o2, none⟩)]) (Yenter.inv rfl (by kernel_rfl) Try.underlying55 Try.func48 (by kernel_rfl) rfl (argsE .nil)) (agenda_queue_Pop.calls k _ F g1 o2 A84 c85 n86 p88 g90 p91 r83 (Ctx.pre (qs := [CH.row g1 o2 [.slice A84 n86 c85, .map (some g90)], p88, p91]) (rest := []) C94) hn87 hR89 hM92 r96 r97 hg95) ?_
      rintro e_ w_ ⟨A98, c99, n100, p102, g104, p105, rfl, C107, hn101, hR103, hM106⟩
      refine ⟨_, rfl, ?_⟩
      have C108 : Ctx _ _ _ _ F [CH.row g1 o2 [.slice A98 n100 c99, .map (some g104)], p102, p105] := Ctx.call (qs := [CH.row g1 o2 [.slice A84 n86 c85, .map (some g90)], p88, p91]) (rest := []) C94 C107
      refine WL.val (Yl.assign (v := .iface 29 (.agg (List.toArray [.int .i64 r96.At, .int .i64 r96.ID]))) rfl) ?_
      refine WL.done ?_
      refine W.ret ?_
      cases H
      exact post_r (resE1 rfl rfl) ⟨A98, c99, n100, p102, g104, p105, rfl, C108, hn101, hR103, hM106⟩
end Go.Proofs.Ytnoocbdpkddpbaa
