/- Functions of the program: each as a plain function of numbers and lists, and the proof that the program's own comes to it. Nothing is assumed but what each theorem says. -/
import Derived.Test.YtaajcpjhcckecaaTGc
namespace Go.Proofs.Ytaajcpjhcckecaa
open Go.RowKit Go.WG
set_option linter.unusedVariables false
set_option linter.unusedSimpArgs false
def juratlaw19_TallyStays.l1 : Nat → List TCast → Int → List TCast → Bool → List Int → Int → Option (Sum Unit Bool)
  | 0, _, _, _, _, _, _ => none
  | k + 1, a0, a1, x456, x465, x467, x475 => (if x475 < (a0.length : Int) then (some (decide ((x456.length : Int) < (wi64 ((wi64 (2 * a1)) + 1))))) else (some (false))).bind fun g559 => if g559 = true then (if 0 ≤ x475 ∧ x475 < (a0.length : Int) then ((tally_Cast.f k x456 (a0.getD x475.toNat TCast.z)).bind fun ⟨r587, r588⟩ => if r588 = 0 then ((tally_Decide.f k r587 a1).bind fun ⟨r605, r606⟩ => (if x465 = true then (if r606 = true then ((juratref01_Same.f k r605 x467).bind fun r627 => some (!r627)) else (some (true))) else (some (false))).bind fun g616 => if g616 = true then (some (Sum.inr false)) else (juratlaw19_TallyStays.l1 k a0 a1 r587 r606 r605 (wi64 (x475 + 1)))) else (juratlaw19_TallyStays.l1 k a0 a1 x456 x465 x467 (wi64 (x475 + 1)))) else none) else (some (Sum.inl ()))
def juratlaw19_TallyStays.f (k : Nat) (a0 : List TCast) (a1 : Int) : Option Bool := (juratref19_Great.f k a0).bind fun r13 => if ((r13 || (decide (a1 < 0))) || (decide (a1 > 100))) = true then ((juratlaw19_awake.f k ).bind fun r24 => some r24) else ((juratlaw19_TallyStays.l1 k a0 a1 ([] : List TCast) false ([] : List Int) 0).bind fun o_ => sumE o_ (fun _ => (juratlaw19_awake.f k ).bind fun r656 => some r656) (fun p_ => some p_))
set_option maxRecDepth 100000 in
set_option maxHeartbeats 4000000 in
theorem juratlaw19_TallyStays.calls (k : Nat) (w : World) (F : CH) (A1 : Option Addr) (c2 : Nat) (n3 : Nat) (a0 : List TCast) (a1 : Int) (hp : Pre w F []) (hn4 : n3 = a0.length) (hl5 : a0.length ≤ c2) (hm6 : c2 ≤ maxLen) (hS7 : Sl TCast.K F F A1 a0) (r0_ : Bool) (H : juratlaw19_TallyStays.f k a0 a1 = some r0_) :
    Calls Try.prog 8 #[.slice A1 n3 c2, .int .i64 a1] w fun e w' => e = .returned (.bool r0_) ∧ Ctx w F (domL []) w' F [] := by
  have C := Ctx.start hp
  generalize hD : domL [] = D at C ⊢
  unfold juratlaw19_TallyStays.f at H
  refine Calls.ofW Try.func8 rfl (by simp [Try.ntmps8]) ?_
  refine W.seq ?_
  refine W.region rfl ?_
  refine WL.val (Yl.assign (v := .bool false) rfl) ?_
  refine WL.done ?_
  refine W.seq ?_
  refine W.seq ?_
  refine W.region rfl ?_
  refine WL.val (Yl.move (v := .slice A1 n3 c2) rfl) ?_
  obtain ⟨r13, hg12, H⟩ := bindE H
  refine WL.call (args := #[.slice A1 n3 c2]) (Yenter.fn Try.func15 (by kernel_rfl) rfl (argsE (.cons rfl .nil))) (juratref19_Great.calls k _ F A1 c2 n3 a0 C.pre0 hn4 hl5 hm6 hS7 r13 hg12) ?_
  rintro e_ w_ ⟨rfl, ⟨m14, rfl⟩⟩
  refine ⟨_, rfl, ?_⟩
  have C15 := Ctx.drewN C m14
  refine WL.val (Yl.move (v := .bool r13) rfl) ?_
  refine WL.cut (fun env_ w_ => env_ 22 = .bool ((r13 || (decide (a1 < 0))) || (decide (a1 > 100))) ∧ env_ 0 = .slice A1 n3 c2 ∧ env_ 1 = .int .i64 a1 ∧ Ctx w F D w_ F []) ?_ ?_
  · skip
    rcases Bool.eq_false_or_eq_true r13 with hb16 | hb16
    · skip
      refine WL.off rfl (congrArg Value.bool hb16) ?_
      refine WL.off rfl (congrArg Value.bool hb16) ?_
      refine WL.val (Yl.pickT (v := .bool true) (congrArg Value.bool hb16) rfl) ?_
      refine WL.val (Yl.move (v := .bool true) rfl) ?_
      refine WL.off rfl rfl ?_
      refine WL.off rfl rfl ?_
      refine WL.val (Yl.pickT (v := .bool true) rfl rfl) ?_
      exact WL.done ⟨(congrArg Value.bool (show true = ((r13 || (decide (a1 < 0))) || (decide (a1 > 100))) from by simp [hb16])), rfl, rfl, C15⟩
    · skip
      refine WL.on rfl (congrArg Value.bool hb16) ?_
      refine WL.val (Yl.move (v := .int .i64 a1) rfl) ?_
      refine WL.on rfl (congrArg Value.bool hb16) ?_
      refine WL.val (Yl.lss (m := a1) (n := 0) (q := decide (a1 < 0)) rfl rfl rfl) ?_
      refine WL.val (Yl.pickF (v := .bool (decide (a1 < 0))) (congrArg Value.bool hb16) rfl) ?_
      refine WL.val (Yl.move (v := .bool (decide (a1 < 0))) rfl) ?_
      rcases Bool.eq_false_or_eq_true (decide (a1 < 0)) with hb17 | hb17
      · skip
        refine WL.off rfl (congrArg Value.bool hb17) ?_
        refine WL.off rfl (congrArg Value.bool hb17) ?_
        refine WL.val (Yl.pickT (v := .bool true) (congrArg Value.bool hb17) rfl) ?_
        exact WL.done ⟨(congrArg Value.bool (show true = ((r13 || (decide (a1 < 0))) || (decide (a1 > 100))) from by simp [hb16, hb17])), rfl, rfl, C15⟩
      · skip
        refine WL.on rfl (congrArg Value.bool hb17) ?_
        refine WL.val (Yl.move (v := .int .i64 a1) rfl) ?_
        refine WL.on rfl (congrArg Value.bool hb17) ?_
        refine WL.val (Yl.gtr (m := a1) (n := 100) (q := decide (a1 > 100)) rfl rfl rfl) ?_
        refine WL.val (Yl.pickF (v := .bool (decide (a1 > 100))) (congrArg Value.bool hb17) rfl) ?_
        exact WL.done ⟨(congrArg Value.bool (show (decide (a1 > 100)) = ((r13 || (decide (a1 < 0))) || (decide (a1 > 100))) from by simp [hb16, hb17])), rfl, rfl, C15⟩
  · skip
    rintro env_ w_ ⟨ho18, ho19, ho20, C21⟩
    rcases iteE H with ⟨hc22, H⟩ | ⟨hc22, H⟩
    · skip
      refine W.condT (ho18.trans (congrArg Value.bool hc22)) ?_
      refine W.seq ?_
      refine W.region rfl ?_
      obtain ⟨r24, hg23, H⟩ := bindE H
      refine WL.call (args := #[]) (Yenter.fn Try.func10 (by kernel_rfl) rfl (argsE .nil)) (juratlaw19_awake.calls k _ F  (Ctx.pre (qs := []) (rest := []) C21)  r24 hg23) ?_
      rintro e_ w_ ⟨rfl, C25⟩
      refine ⟨_, rfl, ?_⟩
      have C26 : Ctx _ _ _ _ F [] := Ctx.call (qs := []) (rest := []) C21 C25
      refine WL.val (Yl.assign (v := .bool r24) rfl) ?_
      refine WL.done ?_
      refine W.ret ?_
      refine thenE_r ?_
      have e27 := Option.some.inj H
      subst e27
      exact post_r (resE1 rfl rfl) ⟨rfl, C26⟩
    · skip
      refine W.condF (ho18.trans (congrArg Value.bool (Bool.eq_false_iff.2 hc22))) ?_
      refine W.skip ?_
      refine W.seq ?_
      refine W.region rfl ?_
      refine WL.val (Yl.assign (v := .slice none 0 0) rfl) ?_
      refine WL.done ?_
      refine W.seq ?_
      refine W.region rfl ?_
      refine WL.val (Yl.assign (v := .bool false) rfl) ?_
      refine WL.done ?_
      refine W.seq ?_
      refine W.region rfl ?_
      refine WL.val (Yl.assign (v := .slice none 0 0) rfl) ?_
      refine WL.done ?_
      refine W.seq ?_
      refine W.seq ?_
      refine W.region rfl ?_
      refine WL.val (Yl.assign (v := .int .i64 0) rfl) ?_
      refine WL.done ?_
      obtain ⟨o339, hX338, H⟩ := bindE H
      refine W.cutM (fun env_ w_ => Ctx w F D w_ F [] ∧ o339 = Sum.inl ()) ?_ ?_
      · skip
        refine W.block ?_
        have C558 : Ctx _ _ _ _ F [CH.emp] := Ctx.emp C21
        refine W.loop (fun g_ env_ w_ => ∃ (x456 : List TCast) (x465 : Bool) (x467 : List Int) (x475 : Int) (F451 : CH) (A457 : Option Addr) (c458 : Nat) (n459 : Nat) (A468 : Option Addr) (c469 : Nat) (n470 : Nat) (p472 : CH), env_ 0 = .slice A1 n3 c2 ∧ env_ 1 = .int .i64 a1 ∧ env_ 5 = .slice A457 n459 c458 ∧ env_ 6 = .bool x465 ∧ env_ 7 = .slice A468 n470 c469 ∧ env_ 8 = .int .i64 x475 ∧ Ctx w F D w_ F451 [p472] ∧ CH.le F F451 ∧ n459 = x456.length ∧ x456.length ≤ c458 ∧ c458 ≤ maxLen ∧ Sl TCast.K F451 F451 A457 x456 ∧ n470 = x467.length ∧ Row (Kd.int .u8) F451 p472 (.slice A468 n470 c469) x467 ∧ juratlaw19_TallyStays.l1 g_ a0 a1 x456 x465 x467 x475 = some o339) k ⟨([] : List TCast), false, ([] : List Int), 0, F, none, 0, 0, none, 0, 0, CH.emp, ho19, ho20, rfl, rfl, rfl, rfl, C558, (CH.le_refl _), rfl, (Nat.le_refl _), (Nat.zero_le _), (Sl.nil _ _ _ _), rfl, (Row.nil _ _), hX338⟩ ?_
        clear hX338
        rintro g_ env_ w_ ⟨x456, x465, x467, x475, F451, A457, c458, n459, A468, c469, n470, p472, ho453, ho454, ho455, ho464, ho466, ho474, C476, le452, hn460, hl461, hm462, hS463, hn471, hR473, hX338⟩
        rcases g_ with _ | k557
        · exact absurd hX338 (by simp [juratlaw19_TallyStays.l1])
        rw [juratlaw19_TallyStays.l1] at hX338
        refine W.seq ?_
        refine W.seq ?_
        refine W.region rfl ?_
        refine WL.val (Yl.move (v := .int .i64 x475) ho474) ?_
        refine WL.val (Yl.move (v := .slice A1 n3 c2) ho453) ?_
        refine WL.val (Yl.lenN (A := A1) (l := n3) (q := c2) (n := (a0.length : Int)) rfl Try.underlying26 (by omega)) ?_
        refine WL.val (Yl.lss (m := x475) (n := (a0.length : Int)) (q := decide (x475 < (a0.length : Int))) rfl rfl rfl) ?_
        refine WL.val (Yl.move (v := .bool (decide (x475 < (a0.length : Int)))) rfl) ?_
        obtain ⟨g559, HE560, hX338⟩ := bindE hX338
        refine WL.cut (fun env_ w_ => env_ 35 = .bool g559 ∧ env_ 0 = .slice A1 n3 c2 ∧ env_ 1 = .int .i64 a1 ∧ env_ 5 = .slice A457 n459 c458 ∧ env_ 6 = .bool x465 ∧ env_ 7 = .slice A468 n470 c469 ∧ env_ 8 = .int .i64 x475 ∧ Ctx w F D w_ F451 [p472]) ?_ ?_
        · skip
          rcases iteE HE560 with ⟨hc561, HE560⟩ | ⟨hc561, HE560⟩
          · skip
            refine WL.on rfl (congrArg Value.bool (decide_eq_true hc561)) ?_
            refine WL.val (Yl.move (v := .slice A457 n459 c458) ho455) ?_
            refine WL.on rfl (congrArg Value.bool (decide_eq_true hc561)) ?_
            refine WL.val (Yl.lenN (A := A457) (l := n459) (q := c458) (n := (x456.length : Int)) rfl Try.underlying26 (by omega)) ?_
            refine WL.on rfl (congrArg Value.bool (decide_eq_true hc561)) ?_
            refine WL.val (Yl.move (v := .int .i64 a1) ho454) ?_
            refine WL.on rfl (congrArg Value.bool (decide_eq_true hc561)) ?_
            refine WL.val (Yl.mul (m := 2) (n := a1) (r := wi64 (2 * a1)) rfl rfl rfl) ?_
            refine WL.on rfl (congrArg Value.bool (decide_eq_true hc561)) ?_
            refine WL.val (Yl.add (m := wi64 (2 * a1)) (n := 1) (r := wi64 ((wi64 (2 * a1)) + 1)) rfl rfl rfl) ?_
            refine WL.on rfl (congrArg Value.bool (decide_eq_true hc561)) ?_
            refine WL.val (Yl.lss (m := (x456.length : Int)) (n := wi64 ((wi64 (2 * a1)) + 1)) (q := decide ((x456.length : Int) < (wi64 ((wi64 (2 * a1)) + 1)))) rfl rfl rfl) ?_
            refine WL.val (Yl.pickT (v := .bool (decide ((x456.length : Int) < (wi64 ((wi64 (2 * a1)) + 1))))) (congrArg Value.bool (decide_eq_true hc561)) rfl) ?_
            cases HE560
            exact WL.done ⟨rfl, ho453, ho454, ho455, ho464, ho466, ho474, C476⟩
          · skip
            refine WL.off rfl (congrArg Value.bool (decide_eq_false hc561)) ?_
            refine WL.off rfl (congrArg Value.bool (decide_eq_false hc561)) ?_
            refine WL.off rfl (congrArg Value.bool (decide_eq_false hc561)) ?_
            refine WL.off rfl (congrArg Value.bool (decide_eq_false hc561)) ?_
            refine WL.off rfl (congrArg Value.bool (decide_eq_false hc561)) ?_
            refine WL.off rfl (congrArg Value.bool (decide_eq_false hc561)) ?_
            refine WL.val (Yl.pickF (v := .bool false) (congrArg Value.bool (decide_eq_false hc561)) rfl) ?_
            cases HE560
            exact WL.done ⟨rfl, ho453, ho454, ho455, ho464, ho466, ho474, C476⟩
        · skip
          rintro env_ w_ ⟨ho562, ho563, ho564, ho565, ho566, ho567, ho568, C569⟩
          rcases iteE hX338 with ⟨hc570, hX338⟩ | ⟨hc570, hX338⟩
          · skip
            refine W.condT (ho562.trans (congrArg Value.bool hc570)) ?_
            refine W.skip ?_
            refine W.seq ?_
            refine W.block ?_
            refine W.seq ?_
            refine W.region rfl ?_
            refine WL.val (Yl.move (v := .slice A457 n459 c458) ho565) ?_
            refine WL.val (Yl.move (v := .slice A1 n3 c2) ho563) ?_
            refine WL.val (Yl.move (v := .int .i64 x475) ho568) ?_
            obtain ⟨hc571, hX338⟩ := guardE hX338
            obtain ⟨b572, of573, hA574, he575⟩ := hS7 (by omega)
            refine WL.val (Yl.elemAddr (i := x475) rfl rfl hA574 Try.underlying26 sz37 (by omega)) ?_
            obtain ⟨cs576, hr577, hx578⟩ := he575 x475.toNat _ (getD_some (d := TCast.z) (by omega))
            obtain ⟨A579, c580, n581, rfl, hn582, hl583, hm584, hS585⟩ := TCast.open hr577
            refine WL.val (Yl.loadAgg (cs := [.int .i64 ((a0.getD x475.toNat TCast.z).Worker), .slice A579 n581 c580]) rfl Try.underlying37 rfl sz37 (fun j u hu => by rw [add_of]; exact ((C569.fro.mono le452)).cell (hx578 _ _ hu))) ?_
            obtain ⟨⟨r587, r588⟩, hg586, hX338⟩ := bindE hX338
            refine WL.call (args := #[.slice A457 n459 c458, .agg (List.toArray [.int .i64 ((a0.getD x475.toNat TCast.z).Worker), .slice A579 n581 c580])]) (Yenter.fn Try.func22 (by kernel_rfl) rfl (argsE (.cons rfl (.cons rfl .nil)))) (tally_Cast.calls k557 _ F451 A457 c458 n459 x456 A579 c580 n581 (a0.getD x475.toNat TCast.z) (Ctx.pre (qs := []) (rest := [p472]) C569) hn460 hl461 hm462 hS463 hn582 hl583 hm584 (Sl.mono hS585 le452 le452) r587 r588 hg586) ?_
            rintro e_ w_ ⟨F589, A591, c592, n593, p595, rfl, le590, C597, hn594, hR596⟩
            refine ⟨_, rfl, ?_⟩
            have C598 : Ctx _ _ _ _ F589 [p595, p472] := Ctx.call (qs := []) (rest := [p472]) C569 C597
            have hR599 := Row.mono hR473 le590
            refine WL.val (Yl.move (v := .tuple #[(.slice A591 n593 c592), (.int .i64 r588)]) rfl) ?_
            refine WL.val (Yl.extract (v := .slice A591 n593 c592) rfl rfl) ?_
            refine WL.val (Yl.extract (v := .int .i64 r588) rfl rfl) ?_
            refine WL.val (Yl.assign (v := .slice A591 n593 c592) rfl) ?_
            refine WL.val (Yl.assign (v := .int .i64 r588) rfl) ?_
            refine WL.done ?_
            refine W.seq ?_
            refine W.seq ?_
            refine W.region rfl ?_
            refine WL.val (Yl.move (v := .int .i64 r588) rfl) ?_
            refine WL.val (Yl.neq (m := r588) (n := 0) (q := !decide (r588 = 0)) rfl rfl rfl) ?_
            refine WL.done ?_
            rcases iteE hX338 with ⟨hc600, hX338⟩ | ⟨hc600, hX338⟩
            · skip
              refine W.condF (congrArg Value.bool (ndec_t hc600)) ?_
              refine W.skip ?_
              refine W.seq ?_
              refine W.region rfl ?_
              refine WL.val (Yl.move (v := .slice A591 n593 c592) rfl) ?_
              refine WL.val (Yl.assign (v := .slice A591 n593 c592) rfl) ?_
              refine WL.done ?_
              refine W.seq ?_
              refine W.region rfl ?_
              refine WL.val (Yl.move (v := .slice A591 n593 c592) rfl) ?_
              refine WL.val (Yl.move (v := .int .i64 a1) ho564) ?_
              have le601 : CH.le F589 (CH.join F589 p595) := CH.le_joinL _ _
              have lp602 : CH.le p595 (CH.join F589 p595) := CH.le_joinR (Ctx.dis_of [] [p472] C598)
              have C603 : Ctx _ _ _ _ (CH.join F589 p595) [p472] := Ctx.freeze [] [p472] C598
              obtain ⟨⟨r605, r606⟩, hg604, hX338⟩ := bindE hX338
              refine WL.call (args := #[.slice A591 n593 c592, .int .i64 a1]) (Yenter.fn Try.func13 (by kernel_rfl) rfl (argsE (.cons rfl (.cons rfl .nil)))) (tally_Decide.calls k557 _ (CH.join F589 p595) A591 c592 n593 r587 a1 (Ctx.pre (qs := []) (rest := [p472]) C603) hn594 (Row.len_le hR596).1 (Row.len_le hR596).2.1 (Sl.mono (Row.sl hR596) le601 lp602) r605 r606 hg604) ?_
              rintro e_ w_ ⟨A607, c608, n609, p611, rfl, C613, hn610, hR612⟩
              refine ⟨_, rfl, ?_⟩
              have hR614 : Row (Kd.int .u8) F589 p611 (.slice A607 n609 c608) r605 := hR612
              have C615 : Ctx _ _ _ _ F589 [p611, p595, p472] := Ctx.callL (qs := []) (rest := [p595, p472]) C598 le601 C613
              refine WL.val (Yl.move (v := .tuple #[(.slice A607 n609 c608), (.bool r606)]) rfl) ?_
              refine WL.val (Yl.extract (v := .slice A607 n609 c608) rfl rfl) ?_
              refine WL.val (Yl.extract (v := .bool r606) rfl rfl) ?_
              refine WL.val (Yl.assign (v := .slice A607 n609 c608) rfl) ?_
              refine WL.val (Yl.assign (v := .bool r606) rfl) ?_
              refine WL.done ?_
              refine W.seq ?_
              refine W.seq ?_
              refine W.region rfl ?_
              refine WL.val (Yl.move (v := .bool x465) ho566) ?_
              refine WL.val (Yl.move (v := .bool x465) rfl) ?_
              obtain ⟨g616, HE617, hX338⟩ := bindE hX338
              refine WL.cut (fun env_ w_ => env_ 65 = .bool g616 ∧ env_ 0 = .slice A1 n3 c2 ∧ env_ 1 = .int .i64 a1 ∧ env_ 5 = .slice A591 n593 c592 ∧ env_ 8 = .int .i64 x475 ∧ env_ 11 = .slice A607 n609 c608 ∧ env_ 12 = .bool r606 ∧ Ctx w F D w_ F589 [p611, p595, p472]) ?_ ?_
              · skip
                rcases iteE HE617 with ⟨hc618, HE617⟩ | ⟨hc618, HE617⟩
                · skip
                  refine WL.on rfl (congrArg Value.bool hc618) ?_
                  refine WL.val (Yl.move (v := .bool r606) rfl) ?_
                  refine WL.on rfl (congrArg Value.bool hc618) ?_
                  refine WL.val (Yl.move (v := .bool r606) rfl) ?_
                  rcases iteE HE617 with ⟨hc619, HE617⟩ | ⟨hc619, HE617⟩
                  · skip
                    refine WL.on rfl (congrArg Value.bool hc619) ?_
                    refine WL.val (Yl.move (v := .slice A607 n609 c608) rfl) ?_
                    refine WL.on rfl (congrArg Value.bool hc619) ?_
                    refine WL.val (Yl.move (v := .slice A468 n470 c469) ho567) ?_
                    refine WL.on rfl (congrArg Value.bool hc619) ?_
                    have le620 : CH.le F589 (CH.join F589 p611) := CH.le_joinL _ _
                    have lp621 : CH.le p611 (CH.join F589 p611) := CH.le_joinR (Ctx.dis_of [] [p595, p472] C615)
                    have C622 : Ctx _ _ _ _ (CH.join F589 p611) [p595, p472] := Ctx.freeze [] [p595, p472] C615
                    have le623 : CH.le (CH.join F589 p611) (CH.join (CH.join F589 p611) p472) := CH.le_joinL _ _
                    have lp624 : CH.le p472 (CH.join (CH.join F589 p611) p472) := CH.le_joinR (Ctx.dis_of [p595] [] C622)
                    have C625 : Ctx _ _ _ _ (CH.join (CH.join F589 p611) p472) [p595] := Ctx.freeze [p595] [] C622
                    obtain ⟨r627, hg626, HE617⟩ := bindE HE617
                    refine WL.call (args := #[.slice A607 n609 c608, .slice A468 n470 c469]) (Yenter.fn Try.func12 (by kernel_rfl) rfl (argsE (.cons rfl (.cons rfl .nil)))) (juratref01_Same.calls k557 _ (CH.join (CH.join F589 p611) p472) A607 c608 n609 r605 A468 c469 n470 x467 C625.pre0 hn610 (Row.len_le hR614).1 (Row.len_le hR614).2.1 (Sl.mono (Row.sl hR614) (CH.le_trans le620 le623) (CH.le_trans lp621 le623)) hn471 (Row.len_le hR599).1 (Row.len_le hR599).2.1 (Sl.mono (Row.sl hR599) (CH.le_trans le620 le623) lp624) r627 hg626) ?_
                    rintro e_ w_ ⟨rfl, ⟨m628, rfl⟩⟩
                    refine ⟨_, rfl, ?_⟩
                    have C629 := Ctx.drewN C615 m628
                    refine WL.on rfl (congrArg Value.bool hc618) ?_
                    refine WL.val (Yl.pickT (v := .bool r627) (congrArg Value.bool hc619) rfl) ?_
                    refine WL.on rfl (congrArg Value.bool hc618) ?_
                    refine WL.val (Yl.not (p := r627) (q := !r627) rfl rfl) ?_
                    refine WL.val (Yl.pickT (v := .bool (!r627)) (congrArg Value.bool hc618) rfl) ?_
                    cases HE617
                    exact WL.done ⟨rfl, ho563, ho564, rfl, ho568, rfl, rfl, C629⟩
                  · skip
                    refine WL.off rfl (congrArg Value.bool (Bool.eq_false_iff.2 hc619)) ?_
                    refine WL.off rfl (congrArg Value.bool (Bool.eq_false_iff.2 hc619)) ?_
                    refine WL.off rfl (congrArg Value.bool (Bool.eq_false_iff.2 hc619)) ?_
                    refine WL.on rfl (congrArg Value.bool hc618) ?_
                    refine WL.val (Yl.pickF (v := .bool false) (congrArg Value.bool (Bool.eq_false_iff.2 hc619)) rfl) ?_
                    refine WL.on rfl (congrArg Value.bool hc618) ?_
                    refine WL.val (Yl.not (p := false) (q := true) rfl rfl) ?_
                    refine WL.val (Yl.pickT (v := .bool true) (congrArg Value.bool hc618) rfl) ?_
                    cases HE617
                    exact WL.done ⟨rfl, ho563, ho564, rfl, ho568, rfl, rfl, C615⟩
                · skip
                  refine WL.off rfl (congrArg Value.bool (Bool.eq_false_iff.2 hc618)) ?_
                  refine WL.off rfl (congrArg Value.bool (Bool.eq_false_iff.2 hc618)) ?_
                  refine WL.off' rfl rfl ?_
                  refine WL.off' rfl rfl ?_
                  refine WL.off' rfl rfl ?_
                  refine WL.off rfl (congrArg Value.bool (Bool.eq_false_iff.2 hc618)) ?_
                  refine WL.off rfl (congrArg Value.bool (Bool.eq_false_iff.2 hc618)) ?_
                  refine WL.val (Yl.pickF (v := .bool false) (congrArg Value.bool (Bool.eq_false_iff.2 hc618)) rfl) ?_
                  cases HE617
                  exact WL.done ⟨rfl, ho563, ho564, rfl, ho568, rfl, rfl, C615⟩
              · skip
                rintro env_ w_ ⟨ho630, ho631, ho632, ho633, ho634, ho635, ho636, C637⟩
                rcases iteE hX338 with ⟨hc638, hX338⟩ | ⟨hc638, hX338⟩
                · skip
                  refine W.condT (ho630.trans (congrArg Value.bool hc638)) ?_
                  refine W.seq ?_
                  refine W.region rfl ?_
                  refine WL.val (Yl.assign (v := .bool false) rfl) ?_
                  refine WL.done ?_
                  refine W.ret ?_
                  refine thenE_r ?_
                  refine inB_r ?_
                  refine thenE_r ?_
                  refine thenE_r ?_
                  refine inB_r ?_
                  refine thenE_r ?_
                  refine thenE_r ?_
                  cases hX338
                  replace H := sumE_r H
                  have C639 : Ctx _ _ _ _ F589 [p595, p472] := Ctx.drop [] [p595, p472] C637
                  have C640 : Ctx _ _ _ _ F589 [p472] := Ctx.drop [] [p472] C639
                  have C641 : Ctx _ _ _ _ F589 [] := Ctx.drop [] [] C640
                  have e642 := Option.some.inj H
                  subst e642
                  exact post_r (resE1 rfl rfl) ⟨rfl, (Ctx.weak C641 (CH.le_refl _))⟩
                · skip
                  refine W.condF (ho630.trans (congrArg Value.bool (Bool.eq_false_iff.2 hc638))) ?_
                  refine W.skip ?_
                  refine W.seq ?_
                  refine W.region rfl ?_
                  refine WL.val (Yl.move (v := .bool r606) ho636) ?_
                  refine WL.val (Yl.assign (v := .bool r606) rfl) ?_
                  refine WL.done ?_
                  refine W.region rfl ?_
                  refine WL.val (Yl.move (v := .slice A607 n609 c608) ho635) ?_
                  refine WL.val (Yl.assign (v := .slice A607 n609 c608) rfl) ?_
                  refine WL.done ?_
                  refine inB_n ?_
                  refine W.region rfl ?_
                  refine WL.val (Yl.move (v := .int .i64 x475) ho634) ?_
                  refine WL.val (Yl.add (m := x475) (n := 1) (r := wi64 (x475 + 1)) rfl rfl rfl) ?_
                  refine WL.val (Yl.assign (v := .int .i64 (wi64 (x475 + 1))) rfl) ?_
                  refine WL.done ?_
                  have hd643 := Ctx.dis_of [p611] [p472] C637
                  have C646 : Ctx _ _ _ _ (CH.join F589 p595) [p611, p472] := Ctx.freeze [p611] [p472] C637
                  have le645 := CH.le_joinL F589 p595
                  obtain ⟨hl647, hm648, hS649⟩ := Row.freeze' hR596 hd643
                  have hR650 := Row.mono hR614 le645
                  have C651 : Ctx _ _ _ _ (CH.join F589 p595) [p611] := Ctx.drop [p611] [] C646
                  exact thenE_n ⟨k557, Nat.lt_succ_self _, r587, r606, r605, wi64 (x475 + 1), (CH.join F589 p595), A591, c592, n593, A607, c608, n609, p611, ho631, ho632, ho633, rfl, rfl, rfl, C651, (CH.le_trans le452 (CH.le_trans le590 le645)), hn594, hl647, hm648, hS649, hn610, hR650, hX338⟩
            · skip
              refine W.condT (congrArg Value.bool (ndec_f hc600)) ?_
              refine W.exit ?_
              refine thenE_x ?_
              refine inB_here ?_
              refine W.region rfl ?_
              refine WL.val (Yl.move (v := .int .i64 x475) ho568) ?_
              refine WL.val (Yl.add (m := x475) (n := 1) (r := wi64 (x475 + 1)) rfl rfl rfl) ?_
              refine WL.val (Yl.assign (v := .int .i64 (wi64 (x475 + 1))) rfl) ?_
              refine WL.done ?_
              have C652 : Ctx _ _ _ _ F589 [p472] := Ctx.drop [] [p472] C598
              exact thenE_n ⟨k557, Nat.lt_succ_self _, x456, x465, x467, wi64 (x475 + 1), F589, A457, c458, n459, A468, c469, n470, p472, ho563, ho564, ho565, ho566, ho567, rfl, C652, (CH.le_trans le452 le590), hn460, hl461, hm462, (Sl.mono hS463 le590 le590), hn471, hR599, hX338⟩
          · skip
            refine W.condF (ho562.trans (congrArg Value.bool (Bool.eq_false_iff.2 hc570))) ?_
            refine W.exit ?_
            refine thenE_x ?_
            refine thenE_x ?_
            refine inB_here ?_
            have C653 : Ctx _ _ _ _ F451 [] := Ctx.drop [] [] C569
            have C654 := Ctx.lower C653 (CH.le_refl _) le452
            cases hX338
            refine thenE_n ?_
            exact ⟨C654, rfl⟩
      · skip
        rintro env_ w_ ⟨C337, rfl⟩
        replace H := sumE_l H
        refine W.seq ?_
        refine W.region rfl ?_
        obtain ⟨r656, hg655, H⟩ := bindE H
        refine WL.call (args := #[]) (Yenter.fn Try.func10 (by kernel_rfl) rfl (argsE .nil)) (juratlaw19_awake.calls k _ F  (Ctx.pre (qs := []) (rest := []) C337)  r656 hg655) ?_
        rintro e_ w_ ⟨rfl, C657⟩
        refine ⟨_, rfl, ?_⟩
        have C658 : Ctx _ _ _ _ F [] := Ctx.call (qs := []) (rest := []) C337 C657
        refine WL.val (Yl.assign (v := .bool r656) rfl) ?_
        refine WL.done ?_
        refine W.ret ?_
        have e659 := Option.some.inj H
        subst e659
        exact post_r (resE1 rfl rfl) ⟨rfl, C658⟩
end Go.Proofs.Ytaajcpjhcckecaa
