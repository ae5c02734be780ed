/- Functions of the program: each as a plain function of numbers and lists, and the proof that the program's own comes to it. Nothing is assumed but what each theorem says. -/
import Derived.Test.YtaajcpjhcckecaaTGb
import Derived.Test.YtaajcpjhcckecaaTGo
namespace Go.Proofs.Ytaajcpjhcckecaa
open Go.RowKit Go.WG
set_option linter.unusedVariables false
set_option linter.unusedSimpArgs false
def tally_Cast_mut.l1 : Nat → List TCast → TCast → List TCast → Int → Option (Sum (List TCast) ((List TCast) × Int × (List Int)))
  | 0, _, _, _, _ => none
  | k + 1, a0, a1, x515, x525 => if x525 < (a0.length : Int) then (if 0 ≤ x525 ∧ x525 < (a0.length : Int) then (if ((a0.getD x525.toNat TCast.z).Worker) = a1.Worker then (some (Sum.inr (([] : List TCast), 190, a1.Value))) else ((tally_own.f k ((a0.getD x525.toNat TCast.z).Value)).bind fun r708 => if (x515.length + 1 + (x515.length + 1) / 4 + 192) * 32 ≤ 281474976710656 then (tally_Cast_mut.l1 k a0 a1 (x515 ++ [(⟨(a0.getD x525.toNat TCast.z).Worker, r708⟩ : TCast)]) (wi64 (x525 + 1))) else none)) else none) else (some (Sum.inl x515))
def tally_Cast_mut.f (k : Nat) (a0 : List TCast) (a1 : TCast) : Option ((List TCast) × Int × (List Int)) := if a1.Worker < 0 then (some (([] : List TCast), 1, a1.Value)) else (if (a1.Value.length : Int) > 32 then (some (([] : List TCast), 42, a1.Value)) else ((tally_Cast_mut.l1 k a0 a1 ([] : List TCast) 0).bind fun o_ => sumE o_ (fun x383 => (tally_own.f k a1.Value).bind fun r797 => if (x383.length + 1 + (x383.length + 1) / 4 + 192) * 32 ≤ 281474976710656 then (some (x383 ++ [(⟨a1.Worker, r797⟩ : TCast)], 0, a1.Value)) else none) (fun p_ => some p_)))
set_option maxRecDepth 100000 in
set_option maxHeartbeats 4000000 in
theorem tally_Cast_mut.calls (k : Nat) (w : World) (F : CH) (A1 : Option Addr) (c2 : Nat) (n3 : Nat) (a0 : List TCast) (A8 : Option Addr) (c9 : Nat) (n10 : Nat) (p12 : CH) (a1 : TCast) (hp : Pre w F [p12]) (hn4 : n3 = a0.length) (hl5 : a0.length ≤ c2) (hm6 : c2 ≤ maxLen) (hS7 : Sl TCast.K F F A1 a0) (hn11 : n10 = a1.Value.length) (hR13 : Row (Kd.int .u8) F p12 (.slice A8 n10 c9) a1.Value) (r0_ : List TCast) (r1_ : Int) (r2_ : List Int) (H : tally_Cast_mut.f k a0 a1 = some (r0_, r1_, r2_)) :
    Calls Try.prog 22 #[.slice A1 n3 c2, .agg (List.toArray [.int .i64 a1.Worker, .slice A8 n10 c9])] w fun e w' => ∃ (F' : CH) (A842 : Option Addr) (c843 : Nat) (n844 : Nat) (p846 : CH) (p848 : CH), e = .returned (.tuple #[(.slice A842 n844 c843), (.int .i64 r1_)]) ∧ CH.le F F' ∧ Ctx w F (domL [p12]) w' F' [p848, p846] ∧ n844 = r0_.length ∧ Row TCast.K F' p846 (.slice A842 n844 c843) r0_ ∧ n10 = r2_.length ∧ Row (Kd.int .u8) F' p848 (.slice A8 n10 c9) r2_ := by
  have C := Ctx.start hp
  generalize hD : domL [p12] = D at C ⊢
  unfold tally_Cast_mut.f at H
  refine Calls.ofW Try.func22 rfl (by simp [Try.ntmps22]) ?_
  refine W.seq ?_
  refine W.region rfl ?_
  obtain ⟨g14, w15, hy16, C17⟩ := ev_box (P := Try.prog) 37 (.agg (List.toArray [.int .i64 a1.Worker, .slice A8 n10 c9])) [.int .i64 a1.Worker, .slice A8 n10 c9] C rfl
  refine WL.val (hy16 _ _ _ rfl) ?_
  refine WL.val (Yl.assign (v := .slice none 0 0) rfl) ?_
  refine WL.val (Yl.assign (v := .int .i64 0) rfl) ?_
  refine WL.done ?_
  refine W.seq ?_
  refine W.block ?_
  refine W.seq ?_
  refine W.region rfl ?_
  refine WL.val (Yl.fieldAddr (i := 0) rfl Try.underlying37 rfl sz3) ?_
  refine WL.val (Yl.loadV (g := g14) (off := 0) (o := 0) (cs := [.int .i64 a1.Worker, .slice A8 n10 c9]) (v := .int .i64 a1.Worker) rfl Try.underlying3 rfl (Ctx.sub_of [] [p12] C17) rfl) ?_
  refine WL.val (Yl.lss (m := a1.Worker) (n := 0) (q := decide (a1.Worker < 0)) rfl rfl rfl) ?_
  refine WL.val (Yl.assign (v := .bool (decide (a1.Worker < 0))) rfl) ?_
  refine WL.done ?_
  rcases iteE H with ⟨hc18, H⟩ | ⟨hc18, H⟩
  · skip
    refine W.condT (congrArg Value.bool (decide_eq_true hc18)) ?_
    refine W.seq ?_
    refine W.region rfl ?_
    refine WL.val (Yl.assign (v := .slice none 0 0) rfl) ?_
    refine WL.val (Yl.assign (v := .int .i64 1) rfl) ?_
    refine WL.done ?_
    refine W.ret ?_
    refine inB_r ?_
    refine thenE_r ?_
    have C19 : Ctx _ _ _ _ F [p12] := Ctx.drop [] [p12] C17
    have C20 : Ctx _ _ _ _ F [CH.emp, p12] := Ctx.emp C19
    have C21 : Ctx _ _ _ _ F [p12, CH.emp] := Ctx.swap [] [] C20
    simp only [Option.some.injEq, Prod.mk.injEq] at H
    obtain ⟨e22, e23, e24⟩ := H
    subst e22 e23 e24
    exact post_r (resE2 rfl rfl rfl) ⟨F, none, 0, 0, CH.emp, p12, rfl, (CH.le_refl _), C21, rfl, (Row.nil _ _), hn11, hR13⟩
  · skip
    refine W.condF (congrArg Value.bool (decide_eq_false hc18)) ?_
    refine W.seq ?_
    refine W.region rfl ?_
    refine WL.val (Yl.fieldAddr (i := 1) rfl Try.underlying37 rfl sz23) ?_
    refine WL.val (Yl.loadV (g := g14) (off := 0) (o := 1) (cs := [.int .i64 a1.Worker, .slice A8 n10 c9]) (v := .slice A8 n10 c9) rfl Try.underlying23 rfl (Ctx.sub_of [] [p12] C17) rfl) ?_
    refine WL.val (Yl.lenN (A := A8) (l := n10) (q := c9) (n := (a1.Value.length : Int)) rfl Try.underlying23 (by omega)) ?_
    refine WL.val (Yl.gtr (m := (a1.Value.length : Int)) (n := 32) (q := decide ((a1.Value.length : Int) > 32)) rfl rfl rfl) ?_
    refine WL.val (Yl.assign (v := .bool (decide ((a1.Value.length : Int) > 32))) rfl) ?_
    refine WL.done ?_
    rcases iteE H with ⟨hc25, H⟩ | ⟨hc25, H⟩
    · skip
      refine W.condT (congrArg Value.bool (decide_eq_true hc25)) ?_
      refine W.seq ?_
      refine W.region rfl ?_
      refine WL.val (Yl.assign (v := .slice none 0 0) rfl) ?_
      refine WL.val (Yl.assign (v := .int .i64 42) rfl) ?_
      refine WL.done ?_
      refine W.ret ?_
      refine inB_r ?_
      refine thenE_r ?_
      have C26 : Ctx _ _ _ _ F [p12] := Ctx.drop [] [p12] C17
      have C27 : Ctx _ _ _ _ F [CH.emp, p12] := Ctx.emp C26
      have C28 : Ctx _ _ _ _ F [p12, CH.emp] := Ctx.swap [] [] C27
      simp only [Option.some.injEq, Prod.mk.injEq] at H
      obtain ⟨e29, e30, e31⟩ := H
      subst e29 e30 e31
      exact post_r (resE2 rfl rfl rfl) ⟨F, none, 0, 0, CH.emp, p12, rfl, (CH.le_refl _), C28, rfl, (Row.nil _ _), hn11, hR13⟩
    · skip
      refine W.condF (congrArg Value.bool (decide_eq_false hc25)) ?_
      refine W.skip ?_
      refine inB_n ?_
      refine W.seq ?_
      refine W.region rfl ?_
      refine WL.val (Yl.assign (v := .slice none 0 0) rfl) ?_
      refine WL.done ?_
      refine W.seq ?_
      refine W.seq ?_
      refine W.region rfl ?_
      refine WL.val (Yl.move (v := .slice A1 n3 c2) rfl) ?_
      refine WL.val (Yl.lenN (A := A1) (l := n3) (q := c2) (n := (a0.length : Int)) rfl Try.underlying26 (by omega)) ?_
      refine WL.val (Yl.move (v := .int .i64 0) rfl) ?_
      refine WL.done ?_
      obtain ⟨o392, hX391, H⟩ := bindE H
      refine W.cutM (fun env_ w_ => ∃ (x383 : List TCast) (F379 : CH) (A384 : Option Addr) (c385 : Nat) (n386 : Nat) (p388 : CH), env_ 3 = .pointer (some ⟨g14, 0, none⟩) ∧ env_ 6 = .slice A384 n386 c385 ∧ Ctx w F D w_ F379 [p388, CH.row g14 0 [.int .i64 a1.Worker, .slice A8 n10 c9], p12] ∧ CH.le F F379 ∧ n386 = x383.length ∧ Row TCast.K F379 p388 (.slice A384 n386 c385) x383 ∧ o392 = Sum.inl x383) ?_ ?_
      · skip
        refine W.block ?_
        have C632 : Ctx _ _ _ _ F [CH.emp, CH.row g14 0 [.int .i64 a1.Worker, .slice A8 n10 c9], p12] := Ctx.emp C17
        refine W.loop (fun g_ env_ w_ => ∃ (x515 : List TCast) (x525 : Int) (F511 : CH) (A516 : Option Addr) (c517 : Nat) (n518 : Nat) (p520 : CH), env_ 3 = .pointer (some ⟨g14, 0, none⟩) ∧ env_ 6 = .slice A516 n518 c517 ∧ env_ 18 = .slice A1 n3 c2 ∧ env_ 19 = .int .i64 (a0.length : Int) ∧ env_ 20 = .int .i64 x525 ∧ Ctx w F D w_ F511 [p520, CH.row g14 0 [.int .i64 a1.Worker, .slice A8 n10 c9], p12] ∧ CH.le F F511 ∧ n518 = x515.length ∧ Row TCast.K F511 p520 (.slice A516 n518 c517) x515 ∧ tally_Cast_mut.l1 g_ a0 a1 x515 x525 = some o392) k ⟨([] : List TCast), 0, F, none, 0, 0, CH.emp, rfl, rfl, rfl, rfl, rfl, C632, (CH.le_refl _), rfl, (Row.nil _ _), hX391⟩ ?_
        clear hX391
        rintro g_ env_ w_ ⟨x515, x525, F511, A516, c517, n518, p520, ho513, ho514, ho522, ho523, ho524, C526, le512, hn519, hR521, hX391⟩
        rcases g_ with _ | k631
        · exact absurd hX391 (by simp [tally_Cast_mut.l1])
        rw [tally_Cast_mut.l1] at hX391
        have hR633 := Row.mono hR13 le512
        refine W.seq ?_
        refine W.region rfl ?_
        refine WL.val (Yl.lss (m := x525) (n := (a0.length : Int)) (q := decide (x525 < (a0.length : Int))) ho524 ho523 rfl) ?_
        refine WL.done ?_
        refine W.seq ?_
        rcases iteE hX391 with ⟨hc634, hX391⟩ | ⟨hc634, hX391⟩
        · skip
          refine W.condT (congrArg Value.bool (decide_eq_true hc634)) ?_
          refine W.skip ?_
          refine W.seq ?_
          refine W.block ?_
          refine W.seq ?_
          refine W.region rfl ?_
          obtain ⟨hc635, hX391⟩ := guardE hX391
          obtain ⟨b636, of637, hA638, he639⟩ := hS7 (by omega)
          refine WL.val (Yl.elemAddr (i := x525) ho522 ho524 hA638 Try.underlying26 sz37 (by omega)) ?_
          obtain ⟨cs640, hr641, hx642⟩ := he639 x525.toNat _ (getD_some (d := TCast.z) (by omega))
          obtain ⟨A643, c644, n645, rfl, hn646, hl647, hm648, hS649⟩ := TCast.open hr641
          refine WL.val (Yl.loadAgg (cs := [.int .i64 ((a0.getD x525.toNat TCast.z).Worker), .slice A643 n645 c644]) rfl Try.underlying37 rfl sz37 (fun j u hu => by rw [add_of]; exact ((C526.fro.mono le512)).cell (hx642 _ _ hu))) ?_
          obtain ⟨g650, w651, hy652, C653⟩ := ev_alloc (P := Try.prog) (e := 37) [.int .i64 0, .slice none 0 0] C526 zr37 rfl
          refine WL.val (hy652 _ _) ?_
          obtain ⟨w654, hy655, C656⟩ := ev_set (P := Try.prog) (ps1 := []) (ps2 := [p520, CH.row g14 0 [.int .i64 a1.Worker, .slice A8 n10 c9], p12]) (t := 37) (o := 0) [.int .i64 0, .slice none 0 0] [] [.int .i64 0, .slice none 0 0] [] [.int .i64 ((a0.getD x525.toNat TCast.z).Worker), .slice A643 n645 c644] (.agg (List.toArray [.int .i64 ((a0.getD x525.toNat TCast.z).Worker), .slice A643 n645 c644])) C653 rfl rfl rfl rfl (by simp [Value.oneCell']) sz37
          have C657 : Ctx _ _ _ _ F511 [CH.row g650 0 [.int .i64 ((a0.getD x525.toNat TCast.z).Worker), .slice A643 n645 c644], p520, CH.row g14 0 [.int .i64 a1.Worker, .slice A8 n10 c9], p12] := C656
          refine WL.skip (hy655 _ _ _ _ rfl rfl) ?_
          refine WL.done ?_
          refine W.seq ?_
          refine W.seq ?_
          refine W.region rfl ?_
          refine WL.val (Yl.fieldAddr (i := 0) rfl Try.underlying37 rfl sz3) ?_
          refine WL.val (Yl.loadV (g := g650) (off := 0) (o := 0) (cs := [.int .i64 ((a0.getD x525.toNat TCast.z).Worker), .slice A643 n645 c644]) (v := .int .i64 ((a0.getD x525.toNat TCast.z).Worker)) rfl Try.underlying3 rfl (Ctx.sub_of [] [p520, CH.row g14 0 [.int .i64 a1.Worker, .slice A8 n10 c9], p12] C657) rfl) ?_
          refine WL.val (Yl.fieldAddr (i := 0) ho513 Try.underlying37 rfl sz3) ?_
          refine WL.val (Yl.loadV (g := g14) (off := 0) (o := 0) (cs := [.int .i64 a1.Worker, .slice A8 n10 c9]) (v := .int .i64 a1.Worker) rfl Try.underlying3 rfl (Ctx.sub_of [CH.row g650 0 [.int .i64 ((a0.getD x525.toNat TCast.z).Worker), .slice A643 n645 c644], p520] [p12] C657) rfl) ?_
          refine WL.val (Yl.eql (m := (a0.getD x525.toNat TCast.z).Worker) (n := a1.Worker) (q := decide (((a0.getD x525.toNat TCast.z).Worker) = a1.Worker)) rfl rfl rfl) ?_
          refine WL.done ?_
          rcases iteE hX391 with ⟨hc658, hX391⟩ | ⟨hc658, hX391⟩
          · skip
            refine W.condT (congrArg Value.bool (decide_eq_true hc658)) ?_
            refine W.seq ?_
            refine W.region rfl ?_
            refine WL.val (Yl.assign (v := .slice none 0 0) rfl) ?_
            refine WL.val (Yl.assign (v := .int .i64 190) rfl) ?_
            refine WL.done ?_
            refine W.ret ?_
            refine thenE_r ?_
            refine inB_r ?_
            refine thenE_r ?_
            refine thenE_r ?_
            refine inB_r ?_
            refine thenE_r ?_
            refine thenE_r ?_
            cases hX391
            replace H := sumE_r H
            have C659 : Ctx _ _ _ _ F511 [p520, CH.row g14 0 [.int .i64 a1.Worker, .slice A8 n10 c9], p12] := Ctx.drop [] [p520, CH.row g14 0 [.int .i64 a1.Worker, .slice A8 n10 c9], p12] C657
            have C660 : Ctx _ _ _ _ F511 [CH.row g14 0 [.int .i64 a1.Worker, .slice A8 n10 c9], p12] := Ctx.drop [] [CH.row g14 0 [.int .i64 a1.Worker, .slice A8 n10 c9], p12] C659
            have C661 : Ctx _ _ _ _ F511 [p12] := Ctx.drop [] [p12] C660
            have C662 : Ctx _ _ _ _ F511 [CH.emp, p12] := Ctx.emp C661
            have C663 : Ctx _ _ _ _ F511 [p12, CH.emp] := Ctx.swap [] [] C662
            simp only [Option.some.injEq, Prod.mk.injEq] at H
            obtain ⟨e664, e665, e666⟩ := H
            subst e664 e665 e666
            exact post_r (resE2 rfl rfl rfl) ⟨F511, none, 0, 0, CH.emp, p12, rfl, le512, C663, rfl, (Row.nil _ _), hn11, hR633⟩
          · skip
            refine W.condF (congrArg Value.bool (decide_eq_false hc658)) ?_
            refine W.skip ?_
            refine W.regionA [([7, 8], CH.row g650 0 [.int .i64 ((a0.getD x525.toNat TCast.z).Worker), .slice A643 n645 c644])] (by kernel_rfl) ?_
            have C706 := Ctx.drewN C657 1
            refine WA.take none [] 0 rfl (by kernel_rfl) (by kernel_rfl) (show _ = #[true, false, false, false, false, false, false, false, false, false] from rfl) trivial ⟨(Ctx.sub_of [] [p520, CH.row g14 0 [.int .i64 a1.Worker, .slice A8 n10 c9], p12] C706), trivial⟩ (fun _ hC_ => Yl.move (v := .slice A516 n518 c517) ho514) ?_
            refine WA.take none [] 1 rfl (by kernel_rfl) (by kernel_rfl) (show _ = #[true, true, false, false, false, false, false, false, false, false] from rfl) trivial ⟨(Ctx.sub_of [] [p520, CH.row g14 0 [.int .i64 a1.Worker, .slice A8 n10 c9], p12] C706), trivial⟩ (fun _ hC_ => Yl.fieldAddr (i := 0) rfl Try.underlying37 rfl sz3) ?_
            refine WA.take (some 0) [6, 7, 8, 9] 2 rfl (by kernel_rfl) (by kernel_rfl) (show _ = #[true, true, true, false, false, false, false, false, false, false] from rfl) (Ctx.sub_of [] [p520, CH.row g14 0 [.int .i64 a1.Worker, .slice A8 n10 c9], p12] C706) ⟨(Ctx.sub_of [] [p520, CH.row g14 0 [.int .i64 a1.Worker, .slice A8 n10 c9], p12] C706), trivial⟩ (fun _ hC_ => Yl.loadV (g := g650) (off := 0) (o := 0) (cs := [.int .i64 ((a0.getD x525.toNat TCast.z).Worker), .slice A643 n645 c644]) (v := .int .i64 ((a0.getD x525.toNat TCast.z).Worker)) rfl Try.underlying3 rfl (show Sub (CH.row g650 0 [.int .i64 ((a0.getD x525.toNat TCast.z).Worker), .slice A643 n645 c644]) _ from hC_) rfl) ?_
            refine WA.take none [] 3 rfl (by kernel_rfl) (by kernel_rfl) (show _ = #[true, true, true, true, false, false, false, false, false, false] from rfl) trivial ⟨(Ctx.sub_of [] [p520, CH.row g14 0 [.int .i64 a1.Worker, .slice A8 n10 c9], p12] C706), trivial⟩ (fun _ hC_ => Yl.fieldAddr (i := 1) rfl Try.underlying37 rfl sz23) ?_
            refine WA.take (some 0) [5, 6, 7, 8, 9] 4 rfl (by kernel_rfl) (by kernel_rfl) (show _ = #[true, true, true, true, true, false, false, false, false, false] from rfl) (Ctx.sub_of [] [p520, CH.row g14 0 [.int .i64 a1.Worker, .slice A8 n10 c9], p12] C706) ⟨(Ctx.sub_of [] [p520, CH.row g14 0 [.int .i64 a1.Worker, .slice A8 n10 c9], p12] C706), trivial⟩ (fun _ hC_ => Yl.loadV (g := g650) (off := 0) (o := 1) (cs := [.int .i64 ((a0.getD x525.toNat TCast.z).Worker), .slice A643 n645 c644]) (v := .slice A643 n645 c644) rfl Try.underlying23 rfl (show Sub (CH.row g650 0 [.int .i64 ((a0.getD x525.toNat TCast.z).Worker), .slice A643 n645 c644]) _ from hC_) rfl) ?_
            obtain ⟨r708, hg707, hX391⟩ := bindE hX391
            refine WA.up1 5 (by kernel_rfl) (Up.call (args := #[.slice A643 n645 c644]) rfl (by kernel_rfl) (show _ = #[true, true, true, true, true, true, false, false, false, false] from rfl) (Yenter.fn Try.func26 (by kernel_rfl) rfl (argsE (.cons rfl .nil))) (tally_own.calls k631 _ F511 A643 c644 n645 ((a0.getD x525.toNat TCast.z).Value) (Ctx.pre (qs := []) (rest := [CH.row g650 0 [.int .i64 ((a0.getD x525.toNat TCast.z).Worker), .slice A643 n645 c644], p520, CH.row g14 0 [.int .i64 a1.Worker, .slice A8 n10 c9], p12]) C706) hn646 hl647 hm648 (Sl.mono hS649 le512 le512) r708 hg707) ?_)
            rintro e_ w_ ⟨A709, c710, n711, p713, rfl, C715, hn712, hR714⟩
            have C716 : Ctx _ _ _ _ F511 [p713, CH.row g650 0 [.int .i64 ((a0.getD x525.toNat TCast.z).Worker), .slice A643 n645 c644], p520, CH.row g14 0 [.int .i64 a1.Worker, .slice A8 n10 c9], p12] := Ctx.call (qs := []) (rest := [CH.row g650 0 [.int .i64 ((a0.getD x525.toNat TCast.z).Worker), .slice A643 n645 c644], p520, CH.row g14 0 [.int .i64 a1.Worker, .slice A8 n10 c9], p12]) C706 C715
            refine ⟨_, rfl, ⟨(Ctx.sub_of [p713] [p520, CH.row g14 0 [.int .i64 a1.Worker, .slice A8 n10 c9], p12] C716), trivial⟩, ?_⟩
            refine WA.take none [] 6 rfl (by kernel_rfl) (by kernel_rfl) (show _ = #[true, true, true, true, true, true, true, false, false, false] from rfl) trivial ⟨(Ctx.sub_of [p713] [p520, CH.row g14 0 [.int .i64 a1.Worker, .slice A8 n10 c9], p12] C716), trivial⟩ (fun _ hC_ => Yl.build (places := [(0, 1), (1, 1)]) (cs := List.toArray [.int .i64 ((a0.getD x525.toNat TCast.z).Worker), .slice A709 n711 c710]) Try.underlying37 zr37 (pl37 _ Try.underlying37) (partsB (.cons rfl (.cons rfl .nil))) rfl) ?_
            have hd717 := Ctx.dis_of [] [CH.row g650 0 [.int .i64 ((a0.getD x525.toNat TCast.z).Worker), .slice A643 n645 c644], p520, CH.row g14 0 [.int .i64 a1.Worker, .slice A8 n10 c9], p12] C716
            have C720 : Ctx _ _ _ _ (CH.join F511 p713) [CH.row g650 0 [.int .i64 ((a0.getD x525.toNat TCast.z).Worker), .slice A643 n645 c644], p520, CH.row g14 0 [.int .i64 a1.Worker, .slice A8 n10 c9], p12] := Ctx.freeze [] [CH.row g650 0 [.int .i64 ((a0.getD x525.toNat TCast.z).Worker), .slice A643 n645 c644], p520, CH.row g14 0 [.int .i64 a1.Worker, .slice A8 n10 c9], p12] C716
            have le719 := CH.le_joinL F511 p713
            obtain ⟨hl721, hm722, hS723⟩ := Row.freeze' hR714 hd717
            have hR724 := Row.mono hR521 le719
            have hR725 := Row.mono hR633 le719
            obtain ⟨A726, c727, n728, p729, w730, hn731, hy732, C733, hR734⟩ := ev_lit1' (P := Try.prog) 37 TCast.K C720 Try.underlying26 ti37 ⟨by decide, by decide⟩ (⟨(a0.getD x525.toNat TCast.z).Worker, r708⟩ : TCast) (.agg (List.toArray [.int .i64 ((a0.getD x525.toNat TCast.z).Worker), .slice A709 n711 c710])) (TCast.mk' _ (⟨(a0.getD x525.toNat TCast.z).Worker, r708⟩ : TCast) A709 c710 n711 hn712 hl721 hm722 hS723)
            refine WA.up1 7 (by kernel_rfl) (Up.val rfl rfl (show _ = #[true, true, true, true, true, true, true, true, false, false] from rfl) (hy732 _ _ _ rfl) ⟨trivial, trivial⟩ ?_)
            obtain ⟨hc735, hX391⟩ := guardE hX391
            obtain ⟨A736, c737, n738, p739, w740, hn741, hy742, C743, hR744⟩ := ev_append' (P := Try.prog) (cb := c727) 37 TCast.K [p729, CH.row g650 0 [.int .i64 ((a0.getD x525.toNat TCast.z).Worker), .slice A643 n645 c644]] [CH.row g14 0 [.int .i64 a1.Worker, .slice A8 n10 c9], p12] C733 hR724 hn731 (Row.sl hR734) (Ctx.sub_of [] [CH.row g650 0 [.int .i64 ((a0.getD x525.toNat TCast.z).Worker), .slice A643 n645 c644], p520, CH.row g14 0 [.int .i64 a1.Worker, .slice A8 n10 c9], p12] C733) Try.underlying26 ti37 rfl zo37 (by decide) (by decide) (by simpa using hc735)
            have C745 : Ctx _ _ _ _ (CH.join F511 p713) [p729, CH.row g650 0 [.int .i64 ((a0.getD x525.toNat TCast.z).Worker), .slice A643 n645 c644], p739, CH.row g14 0 [.int .i64 a1.Worker, .slice A8 n10 c9], p12] := C743
            refine WA.up1 8 (by kernel_rfl) (Up.val rfl rfl (show _ = #[true, true, true, true, true, true, true, true, true, false] from rfl) (hy742 _ _ _ _ rfl rfl) ⟨trivial, trivial⟩ ?_)
            refine WA.take none [] 9 rfl (by kernel_rfl) (by kernel_rfl) (show _ = #[true, true, true, true, true, true, true, true, true, true] from rfl) trivial ⟨trivial, trivial⟩ (fun _ hC_ => Yl.assign (v := .slice A736 n738 c737) rfl) ?_
            refine WA.done (by kernel_rfl) ?_
            refine inB_n ?_
            refine W.region rfl ?_
            refine WL.val (Yl.add (m := x525) (n := 1) (r := wi64 (x525 + 1)) ho524 rfl rfl) ?_
            refine WL.val (Yl.move (v := .int .i64 (wi64 (x525 + 1))) rfl) ?_
            refine WL.done ?_
            have C746 : Ctx _ _ _ _ (CH.join F511 p713) [CH.row g650 0 [.int .i64 ((a0.getD x525.toNat TCast.z).Worker), .slice A643 n645 c644], p739, CH.row g14 0 [.int .i64 a1.Worker, .slice A8 n10 c9], p12] := Ctx.drop [] [CH.row g650 0 [.int .i64 ((a0.getD x525.toNat TCast.z).Worker), .slice A643 n645 c644], p739, CH.row g14 0 [.int .i64 a1.Worker, .slice A8 n10 c9], p12] C745
            have C747 : Ctx _ _ _ _ (CH.join F511 p713) [p739, CH.row g14 0 [.int .i64 a1.Worker, .slice A8 n10 c9], p12] := Ctx.drop [] [p739, CH.row g14 0 [.int .i64 a1.Worker, .slice A8 n10 c9], p12] C746
            exact thenE_n ⟨k631, Nat.lt_succ_self _, x515 ++ [(⟨(a0.getD x525.toNat TCast.z).Worker, r708⟩ : TCast)], wi64 (x525 + 1), (CH.join F511 p713), A736, c737, n738, p739, ho513, rfl, ho522, ho523, rfl, C747, (CH.le_trans le512 le719), hn741, hR744, hX391⟩
        · skip
          refine W.condF (congrArg Value.bool (decide_eq_false hc634)) ?_
          refine W.exit ?_
          refine thenE_x ?_
          refine thenE_x ?_
          refine inB_here ?_
          cases hX391
          refine thenE_n ?_
          exact ⟨x515, F511, A516, c517, n518, p520, ho513, ho514, C526, le512, hn519, hR521, rfl⟩
      · skip
        rintro env_ w_ ⟨x383, F379, A384, c385, n386, p388, ho381, ho382, C390, le380, hn387, hR389, rfl⟩
        have hR748 := Row.mono hR13 le380
        replace H := sumE_l H
        refine W.seq ?_
        refine W.regionA [([7, 8], CH.row g14 0 [.int .i64 a1.Worker, .slice A8 n10 c9])] (by kernel_rfl) ?_
        have C792 := Ctx.drewN C390 1
        refine WA.take none [] 0 rfl (by kernel_rfl) (by kernel_rfl) (show _ = #[true, false, false, false, false, false, false, false, false, false, false] from rfl) trivial ⟨(Ctx.sub_of [p388] [p12] C792), trivial⟩ (fun _ hC_ => Yl.move (v := .slice A384 n386 c385) ho382) ?_
        refine WA.take none [] 1 rfl (by kernel_rfl) (by kernel_rfl) (show _ = #[true, true, false, false, false, false, false, false, false, false, false] from rfl) trivial ⟨(Ctx.sub_of [p388] [p12] C792), trivial⟩ (fun _ hC_ => Yl.fieldAddr (i := 0) ho381 Try.underlying37 rfl sz3) ?_
        refine WA.take (some 0) [6, 7, 8, 9, 10] 2 rfl (by kernel_rfl) (by kernel_rfl) (show _ = #[true, true, true, false, false, false, false, false, false, false, false] from rfl) (Ctx.sub_of [p388] [p12] C792) ⟨(Ctx.sub_of [p388] [p12] C792), trivial⟩ (fun _ hC_ => Yl.loadV (g := g14) (off := 0) (o := 0) (cs := [.int .i64 a1.Worker, .slice A8 n10 c9]) (v := .int .i64 a1.Worker) rfl Try.underlying3 rfl (show Sub (CH.row g14 0 [.int .i64 a1.Worker, .slice A8 n10 c9]) _ from hC_) rfl) ?_
        refine WA.take none [] 3 rfl (by kernel_rfl) (by kernel_rfl) (show _ = #[true, true, true, true, false, false, false, false, false, false, false] from rfl) trivial ⟨(Ctx.sub_of [p388] [p12] C792), trivial⟩ (fun _ hC_ => Yl.fieldAddr (i := 1) ho381 Try.underlying37 rfl sz23) ?_
        refine WA.take (some 0) [5, 6, 7, 8, 9, 10] 4 rfl (by kernel_rfl) (by kernel_rfl) (show _ = #[true, true, true, true, true, false, false, false, false, false, false] from rfl) (Ctx.sub_of [p388] [p12] C792) ⟨(Ctx.sub_of [p388] [p12] C792), trivial⟩ (fun _ hC_ => Yl.loadV (g := g14) (off := 0) (o := 1) (cs := [.int .i64 a1.Worker, .slice A8 n10 c9]) (v := .slice A8 n10 c9) rfl Try.underlying23 rfl (show Sub (CH.row g14 0 [.int .i64 a1.Worker, .slice A8 n10 c9]) _ from hC_) rfl) ?_
        have le793 : CH.le F379 (CH.join F379 p12) := CH.le_joinL _ _
        have lp794 : CH.le p12 (CH.join F379 p12) := CH.le_joinR (Ctx.dis_of [p388, CH.row g14 0 [.int .i64 a1.Worker, .slice A8 n10 c9]] [] C792)
        have C795 : Ctx _ _ _ _ (CH.join F379 p12) [p388, CH.row g14 0 [.int .i64 a1.Worker, .slice A8 n10 c9]] := Ctx.freeze [p388, CH.row g14 0 [.int .i64 a1.Worker, .slice A8 n10 c9]] [] C792
        obtain ⟨r797, hg796, H⟩ := bindE H
        refine WA.up1 5 (by kernel_rfl) (Up.call (args := #[.slice A8 n10 c9]) rfl (by kernel_rfl) (show _ = #[true, true, true, true, true, true, false, false, false, false, false] from rfl) (Yenter.fn Try.func26 (by kernel_rfl) rfl (argsE (.cons rfl .nil))) (tally_own.calls k _ (CH.join F379 p12) A8 c9 n10 a1.Value (Ctx.pre (qs := []) (rest := [p388, CH.row g14 0 [.int .i64 a1.Worker, .slice A8 n10 c9]]) C795) hn11 (Row.len_le hR748).1 (Row.len_le hR748).2.1 (Sl.mono (Row.sl hR748) le793 lp794) r797 hg796) ?_)
        rintro e_ w_ ⟨A798, c799, n800, p802, rfl, C804, hn801, hR803⟩
        have hR805 : Row (Kd.int .u8) F379 p802 (.slice A798 n800 c799) r797 := hR803
        have C806 : Ctx _ _ _ _ F379 [p802, p388, CH.row g14 0 [.int .i64 a1.Worker, .slice A8 n10 c9], p12] := Ctx.callL (qs := []) (rest := [p388, CH.row g14 0 [.int .i64 a1.Worker, .slice A8 n10 c9], p12]) C792 le793 C804
        refine ⟨_, rfl, ⟨(Ctx.sub_of [p802, p388] [p12] C806), trivial⟩, ?_⟩
        refine WA.take none [] 6 rfl (by kernel_rfl) (by kernel_rfl) (show _ = #[true, true, true, true, true, true, true, false, false, false, false] from rfl) trivial ⟨(Ctx.sub_of [p802, p388] [p12] C806), trivial⟩ (fun _ hC_ => Yl.build (places := [(0, 1), (1, 1)]) (cs := List.toArray [.int .i64 a1.Worker, .slice A798 n800 c799]) Try.underlying37 zr37 (pl37 _ Try.underlying37) (partsB (.cons rfl (.cons rfl .nil))) rfl) ?_
        have hd807 := Ctx.dis_of [] [p388, CH.row g14 0 [.int .i64 a1.Worker, .slice A8 n10 c9], p12] C806
        have C810 : Ctx _ _ _ _ (CH.join F379 p802) [p388, CH.row g14 0 [.int .i64 a1.Worker, .slice A8 n10 c9], p12] := Ctx.freeze [] [p388, CH.row g14 0 [.int .i64 a1.Worker, .slice A8 n10 c9], p12] C806
        have le809 := CH.le_joinL F379 p802
        obtain ⟨hl811, hm812, hS813⟩ := Row.freeze' hR805 hd807
        have hR814 := Row.mono hR389 le809
        have hR815 := Row.mono hR748 le809
        obtain ⟨A816, c817, n818, p819, w820, hn821, hy822, C823, hR824⟩ := ev_lit1' (P := Try.prog) 37 TCast.K C810 Try.underlying26 ti37 ⟨by decide, by decide⟩ (⟨a1.Worker, r797⟩ : TCast) (.agg (List.toArray [.int .i64 a1.Worker, .slice A798 n800 c799])) (TCast.mk' _ (⟨a1.Worker, r797⟩ : TCast) A798 c799 n800 hn801 hl811 hm812 hS813)
        refine WA.up1 7 (by kernel_rfl) (Up.val rfl rfl (show _ = #[true, true, true, true, true, true, true, true, false, false, false] from rfl) (hy822 _ _ _ rfl) ⟨trivial, trivial⟩ ?_)
        obtain ⟨hc825, H⟩ := guardE H
        obtain ⟨A826, c827, n828, p829, w830, hn831, hy832, C833, hR834⟩ := ev_append' (P := Try.prog) (cb := c817) 37 TCast.K [p819] [CH.row g14 0 [.int .i64 a1.Worker, .slice A8 n10 c9], p12] C823 hR814 hn821 (Row.sl hR824) (Ctx.sub_of [] [p388, CH.row g14 0 [.int .i64 a1.Worker, .slice A8 n10 c9], p12] C823) Try.underlying26 ti37 rfl zo37 (by decide) (by decide) (by simpa using hc825)
        have C835 : Ctx _ _ _ _ (CH.join F379 p802) [p819, p829, CH.row g14 0 [.int .i64 a1.Worker, .slice A8 n10 c9], p12] := C833
        refine WA.up1 8 (by kernel_rfl) (Up.val rfl rfl (show _ = #[true, true, true, true, true, true, true, true, true, false, false] from rfl) (hy832 _ _ _ _ rfl rfl) ⟨trivial, trivial⟩ ?_)
        refine WA.take none [] 9 rfl (by kernel_rfl) (by kernel_rfl) (show _ = #[true, true, true, true, true, true, true, true, true, true, false] from rfl) trivial ⟨trivial, trivial⟩ (fun _ hC_ => Yl.assign (v := .slice A826 n828 c827) rfl) ?_
        refine WA.take none [] 10 rfl (by kernel_rfl) (by kernel_rfl) (show _ = #[true, true, true, true, true, true, true, true, true, true, true] from rfl) trivial ⟨trivial, trivial⟩ (fun _ hC_ => Yl.assign (v := .int .i64 0) rfl) ?_
        refine WA.done (by kernel_rfl) ?_
        refine W.ret ?_
        have C836 : Ctx _ _ _ _ (CH.join F379 p802) [p829, CH.row g14 0 [.int .i64 a1.Worker, .slice A8 n10 c9], p12] := Ctx.drop [] [p829, CH.row g14 0 [.int .i64 a1.Worker, .slice A8 n10 c9], p12] C835
        have C837 : Ctx _ _ _ _ (CH.join F379 p802) [p829, p12] := Ctx.drop [p829] [p12] C836
        have C838 : Ctx _ _ _ _ (CH.join F379 p802) [p12, p829] := Ctx.swap [] [] C837
        simp only [Option.some.injEq, Prod.mk.injEq] at H
        obtain ⟨e839, e840, e841⟩ := H
        subst e839 e840 e841
        exact post_r (resE2 rfl rfl rfl) ⟨(CH.join F379 p802), A826, c827, n828, p829, p12, rfl, (CH.le_trans le380 le809), C838, hn831, hR834, hn11, hR815⟩
end Go.Proofs.Ytaajcpjhcckecaa
