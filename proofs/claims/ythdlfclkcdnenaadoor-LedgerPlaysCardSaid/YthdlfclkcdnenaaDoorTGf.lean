/- Functions of the program: each as a plain function of numbers and lists, and the proof that the program's own comes to it. Nothing is assumed but what each theorem says. -/
import Derived.Test.YthdlfclkcdnenaaDoorTGd
namespace Go.Proofs.YthdlfclkcdnenaaDoor
open Go.RowKit Go.WG
set_option linter.unusedVariables false
set_option linter.unusedSimpArgs false
def juratref09_Ledger_Append.f (k : Nat) (a0 : TLedger_) (a1 : List Int) : Option (Int × Int × TLedger_) := if (a1.length : Int) > 4096 then (some (0, 42, a0)) else (if (a0.L.length : Int) ≥ 4096 then (some (0, 90, a0)) else (if a1.length * 1 ≤ 140737488355328 then (if (a0.L.length + 1) * 24 ≤ 140737488355328 then ((juratref08_Leaf.f k a1).bind fun r168 => if (a0.D.length + 1) * 32 ≤ 140737488355328 then (some (wi64 (((a0.L ++ [a1]).length : Int) - 1), 0, (⟨a0.L ++ [a1], a0.D ++ [r168]⟩ : TLedger_))) else none) else none) else none))
set_option maxRecDepth 100000 in
set_option maxHeartbeats 4000000 in
theorem juratref09_Ledger_Append.calls (k : Nat) (w : World) (F : CH) (g1 : Nat) (o2 : Nat) (A3 : Option Addr) (c4 : Nat) (n5 : Nat) (p7 : CH) (A9 : Option Addr) (c10 : Nat) (n11 : Nat) (p13 : CH) (a0 : TLedger_) (A15 : Option Addr) (c16 : Nat) (n17 : Nat) (a1 : List Int) (hp : Pre w F [CH.row g1 o2 [.slice A3 n5 c4, .slice A9 n11 c10], p7, p13]) (hn6 : n5 = a0.L.length) (hR8 : Row (Kd.slice (Kd.int .u8)) F p7 (.slice A3 n5 c4) a0.L) (hn12 : n11 = a0.D.length) (hR14 : Row (Kd.arrI 32 .u8) F p13 (.slice A9 n11 c10) a0.D) (hn18 : n17 = a1.length) (hl19 : a1.length ≤ c16) (hm20 : c16 ≤ maxLen) (hS21 : Sl (Kd.int .u8) F F A15 a1) (hG0 : CH.le (CH.row 0 0 (glob0.map (Value.int .u32))) F) (hG2 : CH.le (CH.row 2 0 (glob2.map (Value.int .u32))) F) (r0_ : Int) (r1_ : Int) (r2_ : TLedger_) (H : juratref09_Ledger_Append.f k a0 a1 = some (r0_, r1_, r2_)) :
    Calls Tryd.prog 44 #[.pointer (some ⟨g1, o2, none⟩), .slice A15 n17 c16] w fun e w' => ∃ (F' : CH) (A201 : Option Addr) (c202 : Nat) (n203 : Nat) (p205 : CH) (A207 : Option Addr) (c208 : Nat) (n209 : Nat) (p211 : CH), e = .returned (.tuple #[(.int .i64 r0_), (.int .i64 r1_)]) ∧ CH.le F F' ∧ Ctx w F (domL [CH.row g1 o2 [.slice A3 n5 c4, .slice A9 n11 c10], p7, p13]) w' F' [CH.row g1 o2 [.slice A201 n203 c202, .slice A207 n209 c208], p205, p211] ∧ n203 = r2_.L.length ∧ Row (Kd.slice (Kd.int .u8)) F' p205 (.slice A201 n203 c202) r2_.L ∧ n209 = r2_.D.length ∧ Row (Kd.arrI 32 .u8) F' p211 (.slice A207 n209 c208) r2_.D := by
  have C := Ctx.start hp
  generalize hD : domL [CH.row g1 o2 [.slice A3 n5 c4, .slice A9 n11 c10], p7, p13] = D at C ⊢
  unfold juratref09_Ledger_Append.f at H
  refine Calls.ofW Tryd.func44 rfl (by simp [Tryd.ntmps44]) ?_
  refine W.seq ?_
  refine W.region rfl ?_
  refine WL.val (Yl.assign (v := .int .i64 0) rfl) ?_
  refine WL.val (Yl.assign (v := .int .i64 0) rfl) ?_
  refine WL.done ?_
  refine W.seq ?_
  refine W.seq ?_
  refine W.region rfl ?_
  refine WL.val (Yl.move (v := .slice A15 n17 c16) rfl) ?_
  refine WL.val (Yl.lenN (A := A15) (l := n17) (q := c16) (n := (a1.length : Int)) rfl Tryd.underlying28 (by omega)) ?_
  refine WL.val (Yl.gtr (m := (a1.length : Int)) (n := 4096) (q := decide ((a1.length : Int) > 4096)) rfl rfl rfl) ?_
  refine WL.done ?_
  rcases iteE H with ⟨hc22, H⟩ | ⟨hc22, H⟩
  · skip
    refine W.condT (congrArg Value.bool (decide_eq_true hc22)) ?_
    refine W.seq ?_
    refine W.region rfl ?_
    refine WL.val (Yl.assign (v := .int .i64 0) rfl) ?_
    refine WL.val (Yl.assign (v := .int .i64 42) rfl) ?_
    refine WL.done ?_
    refine W.ret ?_
    refine thenE_r ?_
    simp only [Option.some.injEq, Prod.mk.injEq] at H
    obtain ⟨e23, e24, e25⟩ := H
    subst e23 e24 e25
    exact post_r (resE2 rfl rfl rfl) ⟨F, A3, c4, n5, p7, A9, c10, n11, p13, rfl, (CH.le_refl _), C, hn6, hR8, hn12, hR14⟩
  · skip
    refine W.condF (congrArg Value.bool (decide_eq_false hc22)) ?_
    refine W.skip ?_
    refine W.seq ?_
    refine W.seq ?_
    refine W.region rfl ?_
    refine WL.val (Yl.move (v := .pointer (some ⟨g1, o2, none⟩)) rfl) ?_
    refine WL.val (Yl.nilCheck rfl) ?_
    refine WL.val (Yl.fieldAddr (i := 0) rfl Tryd.underlying66 rfl sz49) ?_
    refine WL.val (Yl.loadV (g := g1) (off := o2) (o := 0) (cs := [.slice A3 n5 c4, .slice A9 n11 c10]) (v := .slice A3 n5 c4) rfl Tryd.underlying49 rfl (Ctx.sub_of [] [p7, p13] C) rfl) ?_
    refine WL.val (Yl.lenN (A := A3) (l := n5) (q := c4) (n := (a0.L.length : Int)) rfl Tryd.underlying49 (by omega)) ?_
    refine WL.val (Yl.geq (m := (a0.L.length : Int)) (n := 4096) (q := decide ((a0.L.length : Int) ≥ 4096)) rfl rfl rfl) ?_
    refine WL.done ?_
    rcases iteE H with ⟨hc26, H⟩ | ⟨hc26, H⟩
    · skip
      refine W.condT (congrArg Value.bool (decide_eq_true hc26)) ?_
      refine W.seq ?_
      refine W.region rfl ?_
      refine WL.val (Yl.assign (v := .int .i64 0) rfl) ?_
      refine WL.val (Yl.assign (v := .int .i64 90) rfl) ?_
      refine WL.done ?_
      refine W.ret ?_
      refine thenE_r ?_
      simp only [Option.some.injEq, Prod.mk.injEq] at H
      obtain ⟨e27, e28, e29⟩ := H
      subst e27 e28 e29
      exact post_r (resE2 rfl rfl rfl) ⟨F, A3, c4, n5, p7, A9, c10, n11, p13, rfl, (CH.le_refl _), C, hn6, hR8, hn12, hR14⟩
    · skip
      refine W.condF (congrArg Value.bool (decide_eq_false hc26)) ?_
      refine W.skip ?_
      refine W.seq ?_
      refine W.regionA [([9, 12], CH.row g1 o2 [.slice A3 n5 c4, .slice A9 n11 c10])] (by kernel_rfl) ?_
      have C83 := Ctx.drewN C 1
      refine WA.take none [] 0 rfl (by kernel_rfl) (by kernel_rfl) (show _ = #[true, false, false, false, false, false, false, false, false, false, false, false, false] from rfl) trivial ⟨(Ctx.sub_of [] [p7, p13] C83), trivial⟩ (fun _ hC_ => Yl.move (v := .pointer (some ⟨g1, o2, none⟩)) rfl) ?_
      refine WA.take none [] 1 rfl (by kernel_rfl) (by kernel_rfl) (show _ = #[true, true, false, false, false, false, false, false, false, false, false, false, false] from rfl) trivial ⟨(Ctx.sub_of [] [p7, p13] C83), trivial⟩ (fun _ hC_ => Yl.move (v := .pointer (some ⟨g1, o2, none⟩)) rfl) ?_
      refine WA.take none [] 2 rfl (by kernel_rfl) (by kernel_rfl) (show _ = #[true, true, true, false, false, false, false, false, false, false, false, false, false] from rfl) trivial ⟨(Ctx.sub_of [] [p7, p13] C83), trivial⟩ (fun _ hC_ => Yl.nilCheck rfl) ?_
      refine WA.take none [] 3 rfl (by kernel_rfl) (by kernel_rfl) (show _ = #[true, true, true, true, false, false, false, false, false, false, false, false, false] from rfl) trivial ⟨(Ctx.sub_of [] [p7, p13] C83), trivial⟩ (fun _ hC_ => Yl.fieldAddr (i := 0) rfl Tryd.underlying66 rfl sz49) ?_
      refine WA.take (some 0) [9, 10, 11, 12] 4 rfl (by kernel_rfl) (by kernel_rfl) (show _ = #[true, true, true, true, true, false, false, false, false, false, false, false, false] from rfl) (Ctx.sub_of [] [p7, p13] C83) ⟨(Ctx.sub_of [] [p7, p13] C83), trivial⟩ (fun _ hC_ => Yl.loadV (g := g1) (off := o2) (o := 0) (cs := [.slice A3 n5 c4, .slice A9 n11 c10]) (v := .slice A3 n5 c4) rfl Tryd.underlying49 rfl (show Sub (CH.row g1 o2 [.slice A3 n5 c4, .slice A9 n11 c10]) _ from hC_) rfl) ?_
      refine WA.take none [] 6 rfl (by kernel_rfl) (by kernel_rfl) (show _ = #[true, true, true, true, true, false, true, false, false, false, false, false, false] from rfl) trivial ⟨(Ctx.sub_of [] [p7, p13] C83), trivial⟩ (fun _ hC_ => Yl.move (v := .slice A15 n17 c16) rfl) ?_
      obtain ⟨A84, c85, n86, p87, w88, hn89, hy90, C91, hR92⟩ := ev_lit0 (P := Tryd.prog) 5 (Kd.int .u8) C83 Tryd.underlying28 ti5
      refine WA.up1 5 (by kernel_rfl) (Up.val rfl rfl (show _ = #[true, true, true, true, true, true, true, false, false, false, false, false, false] from rfl) (hy90 _ _) ⟨(Ctx.sub_of [p87] [p7, p13] C91), trivial⟩ ?_)
      obtain ⟨hc93, H⟩ := guardE H
      obtain ⟨A94, c95, n96, p97, w98, hn99, hy100, C101, hR102⟩ := ev_append' (P := Tryd.prog) (cb := c16) 5 (Kd.int .u8) [] [CH.row g1 o2 [.slice A3 n5 c4, .slice A9 n11 c10], p7, p13] C91 hR92 hn18 hS21 C91.fro Tryd.underlying28 ti5 rfl zo5 (by decide) (by decide) (by simpa using hc93)
      have C103 : Ctx _ _ _ _ F [p97, CH.row g1 o2 [.slice A3 n5 c4, .slice A9 n11 c10], p7, p13] := C101
      rw [List.nil_append] at hn99 hR102
      refine WA.up1 7 (by kernel_rfl) (Up.val rfl rfl (show _ = #[true, true, true, true, true, true, true, true, false, false, false, false, false] from rfl) (hy100 _ _ _ _ rfl rfl) ⟨(Ctx.sub_of [p97] [p7, p13] C103), trivial⟩ ?_)
      have hd104 := Ctx.dis_of [] [CH.row g1 o2 [.slice A3 n5 c4, .slice A9 n11 c10], p7, p13] C103
      have C107 : Ctx _ _ _ _ (CH.join F p97) [CH.row g1 o2 [.slice A3 n5 c4, .slice A9 n11 c10], p7, p13] := Ctx.freeze [] [CH.row g1 o2 [.slice A3 n5 c4, .slice A9 n11 c10], p7, p13] C103
      have le106 := CH.le_joinL F p97
      obtain ⟨hl108, hm109, hS110⟩ := Row.freeze' hR102 hd104
      have hR111 := Row.mono hR8 le106
      have hR112 := Row.mono hR14 le106
      obtain ⟨A113, c114, n115, p116, w117, hn118, hy119, C120, hR121⟩ := ev_lit1' (P := Tryd.prog) 28 (Kd.slice (Kd.int .u8)) C107 Tryd.underlying49 ti28 ⟨by decide, by decide⟩ a1 (.slice A94 n96 c95) (slice_rep' A94 c95 n96 hn99 hl108 hm109 hS110)
      refine WA.up1 8 (by kernel_rfl) (Up.val rfl rfl (show _ = #[true, true, true, true, true, true, true, true, true, false, false, false, false] from rfl) (hy119 _ _ _ rfl) ⟨(Ctx.sub_of [p116] [p7, p13] C120), trivial⟩ ?_)
      obtain ⟨hc122, H⟩ := guardE H
      obtain ⟨A123, c124, n125, p126, w127, hn128, hy129, C130, hR131⟩ := ev_append' (P := Tryd.prog) (cb := c114) 28 (Kd.slice (Kd.int .u8)) [p116, CH.row g1 o2 [.slice A3 n5 c4, .slice A9 n11 c10]] [p13] C120 hR111 hn118 (Row.sl hR121) (Ctx.sub_of [] [CH.row g1 o2 [.slice A3 n5 c4, .slice A9 n11 c10], p7, p13] C120) Tryd.underlying49 ti28 rfl zo28 (by decide) (by decide) (by simpa using hc122)
      have C132 : Ctx _ _ _ _ (CH.join F p97) [p116, CH.row g1 o2 [.slice A3 n5 c4, .slice A9 n11 c10], p126, p13] := C130
      refine WA.up1 9 (by kernel_rfl) (Up.val rfl rfl (show _ = #[true, true, true, true, true, true, true, true, true, true, false, false, false] from rfl) (hy129 _ _ _ _ rfl rfl) ⟨trivial, trivial⟩ ?_)
      refine WA.take none [] 10 rfl (by kernel_rfl) (by kernel_rfl) (show _ = #[true, true, true, true, true, true, true, true, true, true, true, false, false] from rfl) trivial ⟨trivial, trivial⟩ (fun _ hC_ => Yl.nilCheck rfl) ?_
      refine WA.take none [] 11 rfl (by kernel_rfl) (by kernel_rfl) (show _ = #[true, true, true, true, true, true, true, true, true, true, true, true, false] from rfl) trivial ⟨trivial, trivial⟩ (fun _ hC_ => Yl.fieldAddr (i := 0) rfl Tryd.underlying66 rfl sz49) ?_
      obtain ⟨w133, hy134, C135⟩ := ev_set (P := Tryd.prog) (ps1 := [p116]) (ps2 := [p126, p13]) (t := 49) (o := 0) [.slice A3 n5 c4, .slice A9 n11 c10] [] [.slice A3 n5 c4] [.slice A9 n11 c10] [.slice A123 n125 c124] (.slice A123 n125 c124) C132 rfl rfl rfl rfl (by simp [Value.oneCell']) sz49
      have C136 : Ctx _ _ _ _ (CH.join F p97) [p116, CH.row g1 o2 [.slice A123 n125 c124, .slice A9 n11 c10], p126, p13] := C135
      refine WA.up1 12 (by kernel_rfl) (Up.skip rfl (show _ = #[true, true, true, true, true, true, true, true, true, true, true, true, true] from rfl) (hy134 _ _ _ _ rfl rfl) ⟨trivial, trivial⟩ ?_)
      refine WA.done (by kernel_rfl) ?_
      refine W.seq ?_
      refine W.regionA [([8, 11], CH.row g1 o2 [.slice A123 n125 c124, .slice A9 n11 c10])] (by kernel_rfl) ?_
      have C166 := Ctx.drewN C136 1
      refine WA.take none [] 0 rfl (by kernel_rfl) (by kernel_rfl) (show _ = #[true, false, false, false, false, false, false, false, false, false, false, false] from rfl) trivial ⟨(Ctx.sub_of [p116] [p126, p13] C166), trivial⟩ (fun _ hC_ => Yl.move (v := .pointer (some ⟨g1, o2, none⟩)) rfl) ?_
      refine WA.take none [] 1 rfl (by kernel_rfl) (by kernel_rfl) (show _ = #[true, true, false, false, false, false, false, false, false, false, false, false] from rfl) trivial ⟨(Ctx.sub_of [p116] [p126, p13] C166), trivial⟩ (fun _ hC_ => Yl.move (v := .pointer (some ⟨g1, o2, none⟩)) rfl) ?_
      refine WA.take none [] 2 rfl (by kernel_rfl) (by kernel_rfl) (show _ = #[true, true, true, false, false, false, false, false, false, false, false, false] from rfl) trivial ⟨(Ctx.sub_of [p116] [p126, p13] C166), trivial⟩ (fun _ hC_ => Yl.nilCheck rfl) ?_
      refine WA.take none [] 3 rfl (by kernel_rfl) (by kernel_rfl) (show _ = #[true, true, true, true, false, false, false, false, false, false, false, false] from rfl) trivial ⟨(Ctx.sub_of [p116] [p126, p13] C166), trivial⟩ (fun _ hC_ => Yl.fieldAddr (i := 1) rfl Tryd.underlying66 rfl sz31) ?_
      refine WA.take (some 0) [8, 9, 10, 11] 4 rfl (by kernel_rfl) (by kernel_rfl) (show _ = #[true, true, true, true, true, false, false, false, false, false, false, false] from rfl) (Ctx.sub_of [p116] [p126, p13] C166) ⟨(Ctx.sub_of [p116] [p126, p13] C166), trivial⟩ (fun _ hC_ => Yl.loadV (g := g1) (off := o2) (o := 1) (cs := [.slice A123 n125 c124, .slice A9 n11 c10]) (v := .slice A9 n11 c10) rfl Tryd.underlying31 rfl (show Sub (CH.row g1 o2 [.slice A123 n125 c124, .slice A9 n11 c10]) _ from hC_) rfl) ?_
      refine WA.take none [] 5 rfl (by kernel_rfl) (by kernel_rfl) (show _ = #[true, true, true, true, true, true, false, false, false, false, false, false] from rfl) trivial ⟨(Ctx.sub_of [p116] [p126, p13] C166), trivial⟩ (fun _ hC_ => Yl.move (v := .slice A15 n17 c16) rfl) ?_
      obtain ⟨r168, hg167, H⟩ := bindE H
      refine WA.up1 6 (by kernel_rfl) (Up.call (args := #[.slice A15 n17 c16]) rfl (by kernel_rfl) (show _ = #[true, true, true, true, true, true, true, false, false, false, false, false] from rfl) (Yenter.fn Tryd.func28 (by kernel_rfl) rfl (argsE (.cons rfl .nil))) (juratref08_Leaf.calls k _ (CH.join F p97) A15 c16 n17 a1 (Ctx.pre (qs := []) (rest := [p116, CH.row g1 o2 [.slice A123 n125 c124, .slice A9 n11 c10], p126, p13]) C166) hn18 hl19 hm20 (Sl.mono hS21 le106 le106) (CH.le_trans hG0 (CH.le_trans le106 (CH.le_refl _))) (CH.le_trans hG2 (CH.le_trans le106 (CH.le_refl _))) r168 hg167) ?_)
      rintro e_ w_ ⟨rfl, C170, ha169⟩
      have C171 : Ctx _ _ _ _ (CH.join F p97) [p116, CH.row g1 o2 [.slice A123 n125 c124, .slice A9 n11 c10], p126, p13] := Ctx.call (qs := []) (rest := [p116, CH.row g1 o2 [.slice A123 n125 c124, .slice A9 n11 c10], p126, p13]) C166 C170
      refine ⟨_, rfl, ⟨(Ctx.sub_of [p116] [p126, p13] C171), trivial⟩, ?_⟩
      obtain ⟨A172, c173, n174, p175, w176, hn177, hy178, C179, hR180⟩ := ev_lit1' (P := Tryd.prog) 33 (Kd.arrI 32 .u8) C171 Tryd.underlying31 ti33 ⟨by decide, by decide⟩ r168 (.agg (List.toArray (r168.map (Value.int .u8)))) ⟨rfl, ha169⟩
      refine WA.up1 7 (by kernel_rfl) (Up.val rfl rfl (show _ = #[true, true, true, true, true, true, true, true, false, false, false, false] from rfl) (hy178 _ _ _ rfl) ⟨(Ctx.sub_of [p175, p116] [p126, p13] C179), trivial⟩ ?_)
      obtain ⟨hc181, H⟩ := guardE H
      obtain ⟨A182, c183, n184, p185, w186, hn187, hy188, C189, hR190⟩ := ev_append' (P := Tryd.prog) (cb := c173) 33 (Kd.arrI 32 .u8) [p175, p116, CH.row g1 o2 [.slice A123 n125 c124, .slice A9 n11 c10], p126] [] C179 hR112 hn177 (Row.sl hR180) (Ctx.sub_of [] [p116, CH.row g1 o2 [.slice A123 n125 c124, .slice A9 n11 c10], p126, p13] C179) Tryd.underlying31 ti33 rfl zo33 (by decide) (by decide) (by simpa using hc181)
      have C191 : Ctx _ _ _ _ (CH.join F p97) [p175, p116, CH.row g1 o2 [.slice A123 n125 c124, .slice A9 n11 c10], p126, p185] := C189
      refine WA.up1 8 (by kernel_rfl) (Up.val rfl rfl (show _ = #[true, true, true, true, true, true, true, true, true, false, false, false] from rfl) (hy188 _ _ _ _ rfl rfl) ⟨trivial, trivial⟩ ?_)
      refine WA.take none [] 9 rfl (by kernel_rfl) (by kernel_rfl) (show _ = #[true, true, true, true, true, true, true, true, true, true, false, false] from rfl) trivial ⟨trivial, trivial⟩ (fun _ hC_ => Yl.nilCheck rfl) ?_
      refine WA.take none [] 10 rfl (by kernel_rfl) (by kernel_rfl) (show _ = #[true, true, true, true, true, true, true, true, true, true, true, false] from rfl) trivial ⟨trivial, trivial⟩ (fun _ hC_ => Yl.fieldAddr (i := 1) rfl Tryd.underlying66 rfl sz31) ?_
      obtain ⟨w192, hy193, C194⟩ := ev_set (P := Tryd.prog) (ps1 := [p175, p116]) (ps2 := [p126, p185]) (t := 31) (o := 1) [.slice A123 n125 c124, .slice A9 n11 c10] [.slice A123 n125 c124] [.slice A9 n11 c10] [] [.slice A182 n184 c183] (.slice A182 n184 c183) C191 rfl rfl rfl rfl (by simp [Value.oneCell']) sz31
      have C195 : Ctx _ _ _ _ (CH.join F p97) [p175, p116, CH.row g1 o2 [.slice A123 n125 c124, .slice A182 n184 c183], p126, p185] := C194
      refine WA.up1 11 (by kernel_rfl) (Up.skip rfl (show _ = #[true, true, true, true, true, true, true, true, true, true, true, true] from rfl) (hy193 _ _ _ _ rfl rfl) ⟨trivial, trivial⟩ ?_)
      refine WA.done (by kernel_rfl) ?_
      refine W.seq ?_
      refine W.region rfl ?_
      refine WL.val (Yl.move (v := .pointer (some ⟨g1, o2, none⟩)) rfl) ?_
      refine WL.val (Yl.nilCheck rfl) ?_
      refine WL.val (Yl.fieldAddr (i := 0) rfl Tryd.underlying66 rfl sz49) ?_
      refine WL.val (Yl.loadV (g := g1) (off := o2) (o := 0) (cs := [.slice A123 n125 c124, .slice A182 n184 c183]) (v := .slice A123 n125 c124) rfl Tryd.underlying49 rfl (Ctx.sub_of [p175, p116] [p126, p185] C195) rfl) ?_
      refine WL.val (Yl.lenN (A := A123) (l := n125) (q := c124) (n := ((a0.L ++ [a1]).length : Int)) rfl Tryd.underlying49 (by omega)) ?_
      refine WL.val (Yl.sub (m := ((a0.L ++ [a1]).length : Int)) (n := 1) (r := wi64 (((a0.L ++ [a1]).length : Int) - 1)) rfl rfl rfl) ?_
      refine WL.val (Yl.assign (v := .int .i64 (wi64 (((a0.L ++ [a1]).length : Int) - 1))) rfl) ?_
      refine WL.val (Yl.assign (v := .int .i64 0) rfl) ?_
      refine WL.done ?_
      refine W.ret ?_
      have C196 : Ctx _ _ _ _ (CH.join F p97) [p116, CH.row g1 o2 [.slice A123 n125 c124, .slice A182 n184 c183], p126, p185] := Ctx.drop [] [p116, CH.row g1 o2 [.slice A123 n125 c124, .slice A182 n184 c183], p126, p185] C195
      have C197 : Ctx _ _ _ _ (CH.join F p97) [CH.row g1 o2 [.slice A123 n125 c124, .slice A182 n184 c183], p126, p185] := Ctx.drop [] [CH.row g1 o2 [.slice A123 n125 c124, .slice A182 n184 c183], p126, p185] C196
      simp only [Option.some.injEq, Prod.mk.injEq] at H
      obtain ⟨e198, e199, e200⟩ := H
      subst e198 e199 e200
      exact post_r (resE2 rfl rfl rfl) ⟨(CH.join F p97), A123, c124, n125, p126, A182, c183, n184, p185, rfl, le106, C197, hn128, hR131, hn187, hR190⟩
def juratref09_Ledger_Leaf.f (k : Nat) (a0 : TLedger_) (a1 : Int) : Option ((List Int) × Int × TLedger_) := (if a1 < 0 then (some (true)) else (some (decide (a1 ≥ (a0.L.length : Int))))).bind fun g15 => if g15 = true then (some (([] : List Int), 1, a0)) else (if 0 ≤ a1 ∧ a1 < (a0.L.length : Int) then (some (a0.L.getD a1.toNat [], 0, a0)) else none)
set_option maxRecDepth 100000 in
set_option maxHeartbeats 4000000 in
theorem juratref09_Ledger_Leaf.calls (k : Nat) (w : World) (F : CH) (g1 : Nat) (o2 : Nat) (A3 : Option Addr) (c4 : Nat) (n5 : Nat) (p7 : CH) (A9 : Option Addr) (c10 : Nat) (n11 : Nat) (p13 : CH) (a0 : TLedger_) (a1 : Int) (hp : Pre w F [CH.row g1 o2 [.slice A3 n5 c4, .slice A9 n11 c10], p7, p13]) (hn6 : n5 = a0.L.length) (hR8 : Row (Kd.slice (Kd.int .u8)) F p7 (.slice A3 n5 c4) a0.L) (hn12 : n11 = a0.D.length) (hR14 : Row (Kd.arrI 32 .u8) F p13 (.slice A9 n11 c10) a0.D) (r0_ : List Int) (r1_ : Int) (r2_ : TLedger_) (H : juratref09_Ledger_Leaf.f k a0 a1 = some (r0_, r1_, r2_)) :
    Calls Tryd.prog 45 #[.pointer (some ⟨g1, o2, none⟩), .int .i64 a1] w fun e w' => ∃ (A44 : Option Addr) (c45 : Nat) (n46 : Nat) (A51 : Option Addr) (c52 : Nat) (n53 : Nat) (p55 : CH) (A57 : Option Addr) (c58 : Nat) (n59 : Nat) (p61 : CH), e = .returned (.tuple #[(.slice A44 n46 c45), (.int .i64 r1_)]) ∧ Ctx w F (domL [CH.row g1 o2 [.slice A3 n5 c4, .slice A9 n11 c10], p7, p13]) w' F [CH.row g1 o2 [.slice A51 n53 c52, .slice A57 n59 c58], p55, p61] ∧ n46 = r0_.length ∧ r0_.length ≤ c45 ∧ c45 ≤ maxLen ∧ Sl (Kd.int .u8) F F A44 r0_ ∧ n53 = r2_.L.length ∧ Row (Kd.slice (Kd.int .u8)) F p55 (.slice A51 n53 c52) r2_.L ∧ n59 = r2_.D.length ∧ Row (Kd.arrI 32 .u8) F p61 (.slice A57 n59 c58) r2_.D := by
  have C := Ctx.start hp
  generalize hD : domL [CH.row g1 o2 [.slice A3 n5 c4, .slice A9 n11 c10], p7, p13] = D at C ⊢
  unfold juratref09_Ledger_Leaf.f at H
  refine Calls.ofW Tryd.func45 rfl (by simp [Tryd.ntmps45]) ?_
  refine W.seq ?_
  refine W.region rfl ?_
  refine WL.val (Yl.assign (v := .slice none 0 0) rfl) ?_
  refine WL.val (Yl.assign (v := .int .i64 0) rfl) ?_
  refine WL.done ?_
  refine W.seq ?_
  refine W.seq ?_
  refine W.region rfl ?_
  refine WL.val (Yl.move (v := .int .i64 a1) rfl) ?_
  refine WL.val (Yl.lss (m := a1) (n := 0) (q := decide (a1 < 0)) rfl rfl rfl) ?_
  refine WL.val (Yl.move (v := .bool (decide (a1 < 0))) rfl) ?_
  obtain ⟨g15, HE16, H⟩ := bindE H
  refine WL.cut (fun env_ w_ => env_ 16 = .bool g15 ∧ env_ 0 = .pointer (some ⟨g1, o2, none⟩) ∧ env_ 1 = .int .i64 a1 ∧ Ctx w F D w_ F [CH.row g1 o2 [.slice A3 n5 c4, .slice A9 n11 c10], p7, p13]) ?_ ?_
  · skip
    rcases iteE HE16 with ⟨hc17, HE16⟩ | ⟨hc17, HE16⟩
    · skip
      refine WL.off rfl (congrArg Value.bool (decide_eq_true hc17)) ?_
      refine WL.off rfl (congrArg Value.bool (decide_eq_true hc17)) ?_
      refine WL.off rfl (congrArg Value.bool (decide_eq_true hc17)) ?_
      refine WL.off rfl (congrArg Value.bool (decide_eq_true hc17)) ?_
      refine WL.off rfl (congrArg Value.bool (decide_eq_true hc17)) ?_
      refine WL.off rfl (congrArg Value.bool (decide_eq_true hc17)) ?_
      refine WL.off rfl (congrArg Value.bool (decide_eq_true hc17)) ?_
      refine WL.val (Yl.pickT (v := .bool true) (congrArg Value.bool (decide_eq_true hc17)) rfl) ?_
      cases HE16
      exact WL.done ⟨rfl, rfl, rfl, C⟩
    · skip
      refine WL.on rfl (congrArg Value.bool (decide_eq_false hc17)) ?_
      refine WL.val (Yl.move (v := .int .i64 a1) rfl) ?_
      refine WL.on rfl (congrArg Value.bool (decide_eq_false hc17)) ?_
      refine WL.val (Yl.move (v := .pointer (some ⟨g1, o2, none⟩)) rfl) ?_
      refine WL.on rfl (congrArg Value.bool (decide_eq_false hc17)) ?_
      refine WL.val (Yl.nilCheck rfl) ?_
      refine WL.on rfl (congrArg Value.bool (decide_eq_false hc17)) ?_
      refine WL.val (Yl.fieldAddr (i := 0) rfl Tryd.underlying66 rfl sz49) ?_
      refine WL.on rfl (congrArg Value.bool (decide_eq_false hc17)) ?_
      refine WL.val (Yl.loadV (g := g1) (off := o2) (o := 0) (cs := [.slice A3 n5 c4, .slice A9 n11 c10]) (v := .slice A3 n5 c4) rfl Tryd.underlying49 rfl (Ctx.sub_of [] [p7, p13] C) rfl) ?_
      refine WL.on rfl (congrArg Value.bool (decide_eq_false hc17)) ?_
      refine WL.val (Yl.lenN (A := A3) (l := n5) (q := c4) (n := (a0.L.length : Int)) rfl Tryd.underlying49 (by omega)) ?_
      refine WL.on rfl (congrArg Value.bool (decide_eq_false hc17)) ?_
      refine WL.val (Yl.geq (m := a1) (n := (a0.L.length : Int)) (q := decide (a1 ≥ (a0.L.length : Int))) rfl rfl rfl) ?_
      refine WL.val (Yl.pickF (v := .bool (decide (a1 ≥ (a0.L.length : Int)))) (congrArg Value.bool (decide_eq_false hc17)) rfl) ?_
      cases HE16
      exact WL.done ⟨rfl, rfl, rfl, C⟩
  · skip
    rintro env_ w_ ⟨ho18, ho19, ho20, C21⟩
    rcases iteE H with ⟨hc22, H⟩ | ⟨hc22, H⟩
    · skip
      refine W.condT (ho18.trans (congrArg Value.bool hc22)) ?_
      refine W.seq ?_
      refine W.region rfl ?_
      refine WL.val (Yl.assign (v := .slice none 0 0) rfl) ?_
      refine WL.val (Yl.assign (v := .int .i64 1) rfl) ?_
      refine WL.done ?_
      refine W.ret ?_
      refine thenE_r ?_
      simp only [Option.some.injEq, Prod.mk.injEq] at H
      obtain ⟨e23, e24, e25⟩ := H
      subst e23 e24 e25
      exact post_r (resE2 rfl rfl rfl) ⟨none, 0, 0, A3, c4, n5, p7, A9, c10, n11, p13, rfl, C21, rfl, (Nat.le_refl _), (Nat.zero_le _), (Sl.nil _ _ _ _), hn6, hR8, hn12, hR14⟩
    · skip
      refine W.condF (ho18.trans (congrArg Value.bool (Bool.eq_false_iff.2 hc22))) ?_
      refine W.skip ?_
      refine W.seq ?_
      refine W.region rfl ?_
      refine WL.val (Yl.move (v := .pointer (some ⟨g1, o2, none⟩)) ho19) ?_
      refine WL.val (Yl.nilCheck rfl) ?_
      refine WL.val (Yl.fieldAddr (i := 0) rfl Tryd.underlying66 rfl sz49) ?_
      refine WL.val (Yl.loadV (g := g1) (off := o2) (o := 0) (cs := [.slice A3 n5 c4, .slice A9 n11 c10]) (v := .slice A3 n5 c4) rfl Tryd.underlying49 rfl (Ctx.sub_of [] [p7, p13] C21) rfl) ?_
      refine WL.val (Yl.move (v := .int .i64 a1) ho20) ?_
      obtain ⟨hc26, H⟩ := guardE H
      obtain ⟨b27, of28, hA29, he30⟩ := (Row.sl hR8) (by omega)
      refine WL.val (Yl.elemAddr (i := a1) rfl rfl hA29 Tryd.underlying49 sz28 (by omega)) ?_
      obtain ⟨cs31, hr32, hx33⟩ := he30 a1.toNat _ (getD_some (d := []) (by omega))
      obtain ⟨A34, c35, rfl, hl38, hm39, hS40⟩ := hr32
      refine WL.val (Yl.load (v := .slice A34 ((a0.L.getD a1.toNat []).length) c35) rfl Tryd.underlying28 rfl (((Ctx.sub_of [CH.row g1 o2 [.slice A3 n5 c4, .slice A9 n11 c10]] [p13] C21)).cell (hx33 0 _ rfl))) ?_
      refine WL.val (Yl.assign (v := .slice A34 ((a0.L.getD a1.toNat []).length) c35) rfl) ?_
      refine WL.val (Yl.assign (v := .int .i64 0) rfl) ?_
      refine WL.done ?_
      refine W.ret ?_
      simp only [Option.some.injEq, Prod.mk.injEq] at H
      obtain ⟨e41, e42, e43⟩ := H
      subst e41 e42 e43
      exact post_r (resE2 rfl rfl rfl) ⟨A34, c35, ((a0.L.getD a1.toNat []).length), A3, c4, n5, p7, A9, c10, n11, p13, rfl, C21, rfl, hl38, hm39, hS40, hn6, hR8, hn12, hR14⟩
def juratref09_Ledger_Head.f (k : Nat) (a0 : TLedger_) (a1 : Int) : Option (THead × Int) := (if a1 < 0 then (some (true)) else (some (decide (a1 > (a0.L.length : Int))))).bind fun g22 => if g22 = true then (some ((⟨0, (List.replicate 32 (0 : Int))⟩ : THead), 1)) else (if 0 ≤ a1 ∧ a1 ≤ (a0.D.length : Int) then ((juratref08_Root.f k (a0.D.take a1.toNat)).bind fun r42 => some ((⟨a1, r42⟩ : THead), 0)) else none)
set_option maxRecDepth 100000 in
set_option maxHeartbeats 4000000 in
theorem juratref09_Ledger_Head.calls (k : Nat) (w : World) (F : CH) (g1 : Nat) (o2 : Nat) (A3 : Option Addr) (c4 : Nat) (n5 : Nat) (A10 : Option Addr) (c11 : Nat) (n12 : Nat) (a0 : TLedger_) (a1 : Int) (hp : Pre w F []) (hn6 : n5 = a0.L.length) (hl7 : a0.L.length ≤ c4) (hm8 : c4 ≤ maxLen) (hS9 : Sl (Kd.slice (Kd.int .u8)) F F A3 a0.L) (hn13 : n12 = a0.D.length) (hl14 : a0.D.length ≤ c11) (hm15 : c11 ≤ maxLen) (hS16 : Sl (Kd.arrI 32 .u8) F F A10 a0.D) (hg17 : CH.le (CH.row g1 o2 [.slice A3 n5 c4, .slice A10 n12 c11]) F) (hG0 : CH.le (CH.row 0 0 (glob0.map (Value.int .u32))) F) (hG2 : CH.le (CH.row 2 0 (glob2.map (Value.int .u32))) F) (r0_ : THead) (r1_ : Int) (H : juratref09_Ledger_Head.f k a0 a1 = some (r0_, r1_)) :
    Calls Tryd.prog 46 #[.pointer (some ⟨g1, o2, none⟩), .int .i64 a1] w fun e w' => e = .returned (.tuple #[(.agg (List.toArray ([.int .i64 r0_.Size] ++ (r0_.Root.map (Value.int .u8))))), (.int .i64 r1_)]) ∧ Ctx w F (domL []) w' F [] ∧ r0_.Root.length = 32 := by
  have C := Ctx.start hp
  generalize hD : domL [] = D at C ⊢
  unfold juratref09_Ledger_Head.f at H
  refine Calls.ofW Tryd.func46 rfl (by simp [Tryd.ntmps46]) ?_
  refine W.seq ?_
  refine W.region rfl ?_
  obtain ⟨g18, w19, hy20, C21⟩ := ev_alloc (P := Tryd.prog) (e := 53) ([.int .i64 0] ++ ((List.replicate 32 (0 : Int)).map (Value.int .u8))) C zr53 rfl
  refine WL.val (hy20 _ _) ?_
  refine WL.val (Yl.assign (v := .int .i64 0) rfl) ?_
  refine WL.done ?_
  refine W.seq ?_
  refine W.seq ?_
  refine W.region rfl ?_
  refine WL.val (Yl.move (v := .int .i64 a1) rfl) ?_
  refine WL.val (Yl.lss (m := a1) (n := 0) (q := decide (a1 < 0)) rfl rfl rfl) ?_
  refine WL.val (Yl.move (v := .bool (decide (a1 < 0))) rfl) ?_
  obtain ⟨g22, HE23, H⟩ := bindE H
  refine WL.cut (fun env_ w_ => env_ 16 = .bool g22 ∧ env_ 0 = .pointer (some ⟨g1, o2, none⟩) ∧ env_ 1 = .int .i64 a1 ∧ env_ 4 = .pointer (some ⟨g18, 0, none⟩) ∧ Ctx w F D w_ F [CH.row g18 0 ([.int .i64 0] ++ ((List.replicate 32 (0 : Int)).map (Value.int .u8)))]) ?_ ?_
  · skip
    rcases iteE HE23 with ⟨hc24, HE23⟩ | ⟨hc24, HE23⟩
    · skip
      refine WL.off rfl (congrArg Value.bool (decide_eq_true hc24)) ?_
      refine WL.off rfl (congrArg Value.bool (decide_eq_true hc24)) ?_
      refine WL.off rfl (congrArg Value.bool (decide_eq_true hc24)) ?_
      refine WL.off rfl (congrArg Value.bool (decide_eq_true hc24)) ?_
      refine WL.off rfl (congrArg Value.bool (decide_eq_true hc24)) ?_
      refine WL.off rfl (congrArg Value.bool (decide_eq_true hc24)) ?_
      refine WL.off rfl (congrArg Value.bool (decide_eq_true hc24)) ?_
      refine WL.val (Yl.pickT (v := .bool true) (congrArg Value.bool (decide_eq_true hc24)) rfl) ?_
      cases HE23
      exact WL.done ⟨rfl, rfl, rfl, rfl, C21⟩
    · skip
      refine WL.on rfl (congrArg Value.bool (decide_eq_false hc24)) ?_
      refine WL.val (Yl.move (v := .int .i64 a1) rfl) ?_
      refine WL.on rfl (congrArg Value.bool (decide_eq_false hc24)) ?_
      refine WL.val (Yl.move (v := .pointer (some ⟨g1, o2, none⟩)) rfl) ?_
      refine WL.on rfl (congrArg Value.bool (decide_eq_false hc24)) ?_
      refine WL.val (Yl.nilCheck rfl) ?_
      refine WL.on rfl (congrArg Value.bool (decide_eq_false hc24)) ?_
      refine WL.val (Yl.fieldAddr (i := 0) rfl Tryd.underlying66 rfl sz49) ?_
      refine WL.on rfl (congrArg Value.bool (decide_eq_false hc24)) ?_
      refine WL.val (Yl.loadV (g := g1) (off := o2) (o := 0) (cs := [.slice A3 n5 c4, .slice A10 n12 c11]) (v := .slice A3 n5 c4) rfl Tryd.underlying49 rfl (Sub.mono (C21.fro) hg17) rfl) ?_
      refine WL.on rfl (congrArg Value.bool (decide_eq_false hc24)) ?_
      refine WL.val (Yl.lenN (A := A3) (l := n5) (q := c4) (n := (a0.L.length : Int)) rfl Tryd.underlying49 (by omega)) ?_
      refine WL.on rfl (congrArg Value.bool (decide_eq_false hc24)) ?_
      refine WL.val (Yl.gtr (m := a1) (n := (a0.L.length : Int)) (q := decide (a1 > (a0.L.length : Int))) rfl rfl rfl) ?_
      refine WL.val (Yl.pickF (v := .bool (decide (a1 > (a0.L.length : Int)))) (congrArg Value.bool (decide_eq_false hc24)) rfl) ?_
      cases HE23
      exact WL.done ⟨rfl, rfl, rfl, rfl, C21⟩
  · skip
    rintro env_ w_ ⟨ho25, ho26, ho27, ho28, C29⟩
    rcases iteE H with ⟨hc30, H⟩ | ⟨hc30, H⟩
    · skip
      refine W.condT (ho25.trans (congrArg Value.bool hc30)) ?_
      refine W.seq ?_
      refine W.region rfl ?_
      refine WL.val (Yl.build (places := [(0, 1), (1, 32)]) (cs := List.toArray ([.int .i64 0] ++ ((List.replicate 32 (0 : Int)).map (Value.int .u8)))) Tryd.underlying53 zr53 (pl53 _ Tryd.underlying53) (partsB .nil) (Fills.run (a := [.int .i64 0] ++ ((List.replicate 32 (0 : Int)).map (Value.int .u8))) (c := [.int .i64 0] ++ ((List.replicate 32 (0 : Int)).map (Value.int .u8))) .nil)) ?_
      obtain ⟨w31, hy32, C33⟩ := ev_set (P := Tryd.prog) (ps1 := []) (ps2 := []) (t := 53) (o := 0) ([.int .i64 0] ++ ((List.replicate 32 (0 : Int)).map (Value.int .u8))) [] ([.int .i64 0] ++ ((List.replicate 32 (0 : Int)).map (Value.int .u8))) [] ([.int .i64 0] ++ ((List.replicate 32 (0 : Int)).map (Value.int .u8))) (.agg (List.toArray ([.int .i64 0] ++ ((List.replicate 32 (0 : Int)).map (Value.int .u8))))) C29 (by first | (simp only [List.length_append, List.length_map, List.length_cons, List.length_nil, (List.length_replicate ..)]; done) | simp [(List.length_replicate ..)]) (by first | (simp only [List.length_append, List.length_map, List.length_cons, List.length_nil, (List.length_replicate ..)]; done) | simp [(List.length_replicate ..)]) (by first | (simp only [List.length_append, List.length_map, List.length_cons, List.length_nil, (List.length_replicate ..)]; done) | simp [(List.length_replicate ..)]) rfl (ones_append (by simp [Value.oneCell']) (one_ints _ _)) (sz_of sz53 (by first | (simp only [List.length_append, List.length_map, List.length_cons, List.length_nil, (List.length_replicate ..)]; done) | simp [(List.length_replicate ..)]))
      have C34 : Ctx _ _ _ _ F [CH.row g18 0 ([.int .i64 0] ++ ((List.replicate 32 (0 : Int)).map (Value.int .u8)))] := (by simpa using C33)
      refine WL.skip (hy32 _ _ _ _ ho28 rfl) ?_
      refine WL.val (Yl.assign (v := .int .i64 1) rfl) ?_
      refine WL.done ?_
      refine W.ret ?_
      refine thenE_r ?_
      have C35 : Ctx _ _ _ _ F [] := Ctx.drop [] [] C34
      simp only [Option.some.injEq, Prod.mk.injEq] at H
      obtain ⟨e36, e37⟩ := H
      subst e36 e37
      exact post_r (resET rfl ((.cell ho28 (run_loadVA2 (g := g18) (off := 0) (o := 0) (cs := [.int .i64 0] ++ ((List.replicate 32 (0 : Int)).map (Value.int .u8))) (us := [.int .i64 0] ++ ((List.replicate 32 (0 : Int)).map (Value.int .u8))) Tryd.underlying53 rfl (sz_of sz53 (by first | (simp only [List.length_append, List.length_map, List.length_cons, List.length_nil, (List.length_replicate ..)]; done) | simp [(List.length_replicate ..)])) (Ctx.sub_of [] [] C34) (take_all _)) (.tmp rfl .nil))) rfl) ⟨rfl, C35, (List.length_replicate ..)⟩
    · skip
      refine W.condF (ho25.trans (congrArg Value.bool (Bool.eq_false_iff.2 hc30))) ?_
      refine W.skip ?_
      refine W.seq ?_
      refine W.region rfl ?_
      refine WL.val (Yl.move (v := .int .i64 a1) ho27) ?_
      refine WL.val (Yl.move (v := .pointer (some ⟨g1, o2, none⟩)) ho26) ?_
      refine WL.val (Yl.nilCheck rfl) ?_
      refine WL.val (Yl.fieldAddr (i := 1) rfl Tryd.underlying66 rfl sz31) ?_
      refine WL.val (Yl.loadV (g := g1) (off := o2) (o := 1) (cs := [.slice A3 n5 c4, .slice A10 n12 c11]) (v := .slice A10 n12 c11) rfl Tryd.underlying31 rfl (Sub.mono (C29.fro) hg17) rfl) ?_
      refine WL.val (Yl.move (v := .int .i64 a1) ho27) ?_
      obtain ⟨hc38, H⟩ := guardE H
      have hn39 : a1.toNat = (a0.D.take a1.toNat).length := by rw [List.length_take]; omega
      refine WL.val (Yl.sliceHi rfl Tryd.underlying31 sz33 rfl ⟨hc38.1, by omega⟩) ?_
      obtain ⟨r42, hg41, H⟩ := bindE H
      refine WL.call (args := #[.slice A10 a1.toNat c11]) (Yenter.fn Tryd.func24 (by kernel_rfl) rfl (argsE (.cons rfl .nil))) (juratref08_Root.calls k _ F A10 c11 a1.toNat (a0.D.take a1.toNat) (Ctx.pre (qs := []) (rest := [CH.row g18 0 ([.int .i64 0] ++ ((List.replicate 32 (0 : Int)).map (Value.int .u8)))]) C29) hn39 (by rw [List.length_take]; omega) hm15 (Sl.take hS16 _) (CH.le_trans hG0 (CH.le_trans (CH.le_refl _) (CH.le_refl _))) (CH.le_trans hG2 (CH.le_trans (CH.le_refl _) (CH.le_refl _))) r42 hg41) ?_
      rintro e_ w_ ⟨rfl, C44, ha43⟩
      refine ⟨_, rfl, ?_⟩
      have C45 : Ctx _ _ _ _ F [CH.row g18 0 ([.int .i64 0] ++ ((List.replicate 32 (0 : Int)).map (Value.int .u8)))] := Ctx.call (qs := []) (rest := [CH.row g18 0 ([.int .i64 0] ++ ((List.replicate 32 (0 : Int)).map (Value.int .u8)))]) C29 C44
      refine WL.val (Yl.build (places := [(0, 1), (1, 32)]) (cs := List.toArray ([.int .i64 a1] ++ (r42.map (Value.int .u8)))) Tryd.underlying53 zr53 (pl53 _ Tryd.underlying53) (partsB (.cons rfl (.cons rfl .nil))) (Fills.run (a := [.int .i64 0] ++ ((List.replicate 32 (0 : Int)).map (Value.int .u8))) (c := [.int .i64 a1] ++ (r42.map (Value.int .u8))) (.seg (off := 0) (n := 1) (us := [.int .i64 a1]) (b := [.int .i64 a1] ++ ((List.replicate 32 (0 : Int)).map (Value.int .u8))) (pre := []) (z := [.int .i64 0]) (post := (List.replicate 32 (0 : Int)).map (Value.int .u8)) rfl rfl (by simp [(List.length_replicate ..), ha43]) (by simp) (by simp) (by simp [(List.length_replicate ..), ha43]) (by simp [(List.length_replicate ..), ha43]) (.seg (off := 1) (n := 32) (us := r42.map (Value.int .u8)) (b := [.int .i64 a1] ++ (r42.map (Value.int .u8))) (pre := [.int .i64 a1]) (z := (List.replicate 32 (0 : Int)).map (Value.int .u8)) (post := []) rfl rfl (by simp [(List.length_replicate ..), ha43]) (by simp) (by simp) (by simp [(List.length_replicate ..), ha43]) (by simp [(List.length_replicate ..), ha43]) .nil)))) ?_
      obtain ⟨w46, hy47, C48⟩ := ev_set (P := Tryd.prog) (ps1 := []) (ps2 := []) (t := 53) (o := 0) ([.int .i64 0] ++ ((List.replicate 32 (0 : Int)).map (Value.int .u8))) [] ([.int .i64 0] ++ ((List.replicate 32 (0 : Int)).map (Value.int .u8))) [] ([.int .i64 a1] ++ (r42.map (Value.int .u8))) (.agg (List.toArray ([.int .i64 a1] ++ (r42.map (Value.int .u8))))) C45 (by first | (simp only [List.length_append, List.length_map, List.length_cons, List.length_nil, (List.length_replicate ..), ha43]; done) | simp [(List.length_replicate ..), ha43]) (by first | (simp only [List.length_append, List.length_map, List.length_cons, List.length_nil, (List.length_replicate ..), ha43]; done) | simp [(List.length_replicate ..), ha43]) (by first | (simp only [List.length_append, List.length_map, List.length_cons, List.length_nil, (List.length_replicate ..), ha43]; done) | simp [(List.length_replicate ..), ha43]) rfl (ones_append (by simp [Value.oneCell']) (one_ints _ _)) (sz_of sz53 (by first | (simp only [List.length_append, List.length_map, List.length_cons, List.length_nil, ha43]; done) | simp [ha43]))
      have C49 : Ctx _ _ _ _ F [CH.row g18 0 ([.int .i64 a1] ++ (r42.map (Value.int .u8)))] := (by simpa using C48)
      refine WL.skip (hy47 _ _ _ _ ho28 rfl) ?_
      refine WL.val (Yl.assign (v := .int .i64 0) rfl) ?_
      refine WL.done ?_
      refine W.ret ?_
      have C50 : Ctx _ _ _ _ F [] := Ctx.drop [] [] C49
      simp only [Option.some.injEq, Prod.mk.injEq] at H
      obtain ⟨e51, e52⟩ := H
      subst e51 e52
      exact post_r (resET rfl ((.cell ho28 (run_loadVA2 (g := g18) (off := 0) (o := 0) (cs := [.int .i64 a1] ++ (r42.map (Value.int .u8))) (us := [.int .i64 a1] ++ (r42.map (Value.int .u8))) Tryd.underlying53 rfl (sz_of sz53 (by first | (simp only [List.length_append, List.length_map, List.length_cons, List.length_nil, ha43]; done) | simp [ha43])) (Ctx.sub_of [] [] C49) (take_all _)) (.tmp rfl .nil))) rfl) ⟨rfl, C50, ha43⟩
def juratref09_Ledger_Include.f (k : Nat) (a0 : TLedger_) (a1 : Int) (a2 : Int) : Option ((List (List Int)) × Int) := (if a2 < 0 then (some (true)) else (some (decide (a2 > (a0.L.length : Int))))).bind fun g18 => if g18 = true then (some (([] : List (List Int)), 1)) else (if 0 ≤ a2 ∧ a2 ≤ (a0.D.length : Int) then ((juratref08_Include.f k (a0.D.take a2.toNat) a1).bind fun ⟨r34, r35⟩ => some (r34, r35)) else none)
set_option maxRecDepth 100000 in
set_option maxHeartbeats 4000000 in
theorem juratref09_Ledger_Include.calls (k : Nat) (w : World) (F : CH) (g1 : Nat) (o2 : Nat) (A3 : Option Addr) (c4 : Nat) (n5 : Nat) (A10 : Option Addr) (c11 : Nat) (n12 : Nat) (a0 : TLedger_) (a1 : Int) (a2 : Int) (hp : Pre w F []) (hn6 : n5 = a0.L.length) (hl7 : a0.L.length ≤ c4) (hm8 : c4 ≤ maxLen) (hS9 : Sl (Kd.slice (Kd.int .u8)) F F A3 a0.L) (hn13 : n12 = a0.D.length) (hl14 : a0.D.length ≤ c11) (hm15 : c11 ≤ maxLen) (hS16 : Sl (Kd.arrI 32 .u8) F F A10 a0.D) (hg17 : CH.le (CH.row g1 o2 [.slice A3 n5 c4, .slice A10 n12 c11]) F) (hG0 : CH.le (CH.row 0 0 (glob0.map (Value.int .u32))) F) (hG2 : CH.le (CH.row 2 0 (glob2.map (Value.int .u32))) F) (r0_ : List (List Int)) (r1_ : Int) (H : juratref09_Ledger_Include.f k a0 a1 a2 = some (r0_, r1_)) :
    Calls Tryd.prog 47 #[.pointer (some ⟨g1, o2, none⟩), .int .i64 a1, .int .i64 a2] w fun e w' => ∃ (A46 : Option Addr) (c47 : Nat) (n48 : Nat) (p50 : CH), e = .returned (.tuple #[(.slice A46 n48 c47), (.int .i64 r1_)]) ∧ Ctx w F (domL []) w' F [p50] ∧ n48 = r0_.length ∧ Row (Kd.arrI 32 .u8) F p50 (.slice A46 n48 c47) r0_ := by
  have C := Ctx.start hp
  generalize hD : domL [] = D at C ⊢
  unfold juratref09_Ledger_Include.f at H
  refine Calls.ofW Tryd.func47 rfl (by simp [Tryd.ntmps47]) ?_
  refine W.seq ?_
  refine W.region rfl ?_
  refine WL.val (Yl.assign (v := .slice none 0 0) rfl) ?_
  refine WL.val (Yl.assign (v := .int .i64 0) rfl) ?_
  refine WL.done ?_
  refine W.seq ?_
  refine W.seq ?_
  refine W.region rfl ?_
  refine WL.val (Yl.move (v := .int .i64 a2) rfl) ?_
  refine WL.val (Yl.lss (m := a2) (n := 0) (q := decide (a2 < 0)) rfl rfl rfl) ?_
  refine WL.val (Yl.move (v := .bool (decide (a2 < 0))) rfl) ?_
  obtain ⟨g18, HE19, H⟩ := bindE H
  refine WL.cut (fun env_ w_ => env_ 18 = .bool g18 ∧ env_ 0 = .pointer (some ⟨g1, o2, none⟩) ∧ env_ 1 = .int .i64 a1 ∧ env_ 2 = .int .i64 a2 ∧ Ctx w F D w_ F []) ?_ ?_
  · skip
    rcases iteE HE19 with ⟨hc20, HE19⟩ | ⟨hc20, HE19⟩
    · skip
      refine WL.off rfl (congrArg Value.bool (decide_eq_true hc20)) ?_
      refine WL.off rfl (congrArg Value.bool (decide_eq_true hc20)) ?_
      refine WL.off rfl (congrArg Value.bool (decide_eq_true hc20)) ?_
      refine WL.off rfl (congrArg Value.bool (decide_eq_true hc20)) ?_
      refine WL.off rfl (congrArg Value.bool (decide_eq_true hc20)) ?_
      refine WL.off rfl (congrArg Value.bool (decide_eq_true hc20)) ?_
      refine WL.off rfl (congrArg Value.bool (decide_eq_true hc20)) ?_
      refine WL.val (Yl.pickT (v := .bool true) (congrArg Value.bool (decide_eq_true hc20)) rfl) ?_
      cases HE19
      exact WL.done ⟨rfl, rfl, rfl, rfl, C⟩
    · skip
      refine WL.on rfl (congrArg Value.bool (decide_eq_false hc20)) ?_
      refine WL.val (Yl.move (v := .int .i64 a2) rfl) ?_
      refine WL.on rfl (congrArg Value.bool (decide_eq_false hc20)) ?_
      refine WL.val (Yl.move (v := .pointer (some ⟨g1, o2, none⟩)) rfl) ?_
      refine WL.on rfl (congrArg Value.bool (decide_eq_false hc20)) ?_
      refine WL.val (Yl.nilCheck rfl) ?_
      refine WL.on rfl (congrArg Value.bool (decide_eq_false hc20)) ?_
      refine WL.val (Yl.fieldAddr (i := 0) rfl Tryd.underlying66 rfl sz49) ?_
      refine WL.on rfl (congrArg Value.bool (decide_eq_false hc20)) ?_
      refine WL.val (Yl.loadV (g := g1) (off := o2) (o := 0) (cs := [.slice A3 n5 c4, .slice A10 n12 c11]) (v := .slice A3 n5 c4) rfl Tryd.underlying49 rfl (Sub.mono (C.fro) hg17) rfl) ?_
      refine WL.on rfl (congrArg Value.bool (decide_eq_false hc20)) ?_
      refine WL.val (Yl.lenN (A := A3) (l := n5) (q := c4) (n := (a0.L.length : Int)) rfl Tryd.underlying49 (by omega)) ?_
      refine WL.on rfl (congrArg Value.bool (decide_eq_false hc20)) ?_
      refine WL.val (Yl.gtr (m := a2) (n := (a0.L.length : Int)) (q := decide (a2 > (a0.L.length : Int))) rfl rfl rfl) ?_
      refine WL.val (Yl.pickF (v := .bool (decide (a2 > (a0.L.length : Int)))) (congrArg Value.bool (decide_eq_false hc20)) rfl) ?_
      cases HE19
      exact WL.done ⟨rfl, rfl, rfl, rfl, C⟩
  · skip
    rintro env_ w_ ⟨ho21, ho22, ho23, ho24, C25⟩
    rcases iteE H with ⟨hc26, H⟩ | ⟨hc26, H⟩
    · skip
      refine W.condT (ho21.trans (congrArg Value.bool hc26)) ?_
      refine W.seq ?_
      refine W.region rfl ?_
      refine WL.val (Yl.assign (v := .slice none 0 0) rfl) ?_
      refine WL.val (Yl.assign (v := .int .i64 1) rfl) ?_
      refine WL.done ?_
      refine W.ret ?_
      refine thenE_r ?_
      have C27 : Ctx _ _ _ _ F [CH.emp] := Ctx.emp C25
      simp only [Option.some.injEq, Prod.mk.injEq] at H
      obtain ⟨e28, e29⟩ := H
      subst e28 e29
      exact post_r (resE2 rfl rfl rfl) ⟨none, 0, 0, CH.emp, rfl, C27, rfl, (Row.nil _ _)⟩
    · skip
      refine W.condF (ho21.trans (congrArg Value.bool (Bool.eq_false_iff.2 hc26))) ?_
      refine W.skip ?_
      refine W.seq ?_
      refine W.region rfl ?_
      refine WL.val (Yl.move (v := .pointer (some ⟨g1, o2, none⟩)) ho22) ?_
      refine WL.val (Yl.nilCheck rfl) ?_
      refine WL.val (Yl.fieldAddr (i := 1) rfl Tryd.underlying66 rfl sz31) ?_
      refine WL.val (Yl.loadV (g := g1) (off := o2) (o := 1) (cs := [.slice A3 n5 c4, .slice A10 n12 c11]) (v := .slice A10 n12 c11) rfl Tryd.underlying31 rfl (Sub.mono (C25.fro) hg17) rfl) ?_
      refine WL.val (Yl.move (v := .int .i64 a2) ho24) ?_
      obtain ⟨hc30, H⟩ := guardE H
      have hn31 : a2.toNat = (a0.D.take a2.toNat).length := by rw [List.length_take]; omega
      refine WL.val (Yl.sliceHi rfl Tryd.underlying31 sz33 rfl ⟨hc30.1, by omega⟩) ?_
      refine WL.val (Yl.move (v := .int .i64 a1) ho23) ?_
      obtain ⟨⟨r34, r35⟩, hg33, H⟩ := bindE H
      refine WL.call (args := #[.slice A10 a2.toNat c11, .int .i64 a1]) (Yenter.fn Tryd.func30 (by kernel_rfl) rfl (argsE (.cons rfl (.cons rfl .nil)))) (juratref08_Include.calls k _ F A10 c11 a2.toNat (a0.D.take a2.toNat) a1 (Ctx.pre (qs := []) (rest := []) C25) hn31 (by rw [List.length_take]; omega) hm15 (Sl.take hS16 _) (CH.le_trans hG0 (CH.le_trans (CH.le_refl _) (CH.le_refl _))) (CH.le_trans hG2 (CH.le_trans (CH.le_refl _) (CH.le_refl _))) r34 r35 hg33) ?_
      rintro e_ w_ ⟨A36, c37, n38, p40, rfl, C42, hn39, hR41⟩
      refine ⟨_, rfl, ?_⟩
      have C43 : Ctx _ _ _ _ F [p40] := Ctx.call (qs := []) (rest := []) C25 C42
      refine WL.val (Yl.extract (v := .slice A36 n38 c37) rfl rfl) ?_
      refine WL.val (Yl.extract (v := .int .i64 r35) rfl rfl) ?_
      refine WL.val (Yl.assign (v := .slice A36 n38 c37) rfl) ?_
      refine WL.val (Yl.assign (v := .int .i64 r35) rfl) ?_
      refine WL.done ?_
      refine W.ret ?_
      simp only [Option.some.injEq, Prod.mk.injEq] at H
      obtain ⟨e44, e45⟩ := H
      subst e44 e45
      exact post_r (resE2 rfl rfl rfl) ⟨A36, c37, n38, p40, rfl, C43, hn39, hR41⟩
def juratref09_Ledger_Consist.f (k : Nat) (a0 : TLedger_) (a1 : Int) (a2 : Int) : Option ((List (List Int)) × Int) := (if a2 < 0 then (some (true)) else (some (decide (a2 > (a0.L.length : Int))))).bind fun g18 => if g18 = true then (some (([] : List (List Int)), 1)) else (if 0 ≤ a2 ∧ a2 ≤ (a0.D.length : Int) then ((juratref08_Consist.f k (a0.D.take a2.toNat) a1).bind fun ⟨r34, r35⟩ => some (r34, r35)) else none)
set_option maxRecDepth 100000 in
set_option maxHeartbeats 4000000 in
theorem juratref09_Ledger_Consist.calls (k : Nat) (w : World) (F : CH) (g1 : Nat) (o2 : Nat) (A3 : Option Addr) (c4 : Nat) (n5 : Nat) (A10 : Option Addr) (c11 : Nat) (n12 : Nat) (a0 : TLedger_) (a1 : Int) (a2 : Int) (hp : Pre w F []) (hn6 : n5 = a0.L.length) (hl7 : a0.L.length ≤ c4) (hm8 : c4 ≤ maxLen) (hS9 : Sl (Kd.slice (Kd.int .u8)) F F A3 a0.L) (hn13 : n12 = a0.D.length) (hl14 : a0.D.length ≤ c11) (hm15 : c11 ≤ maxLen) (hS16 : Sl (Kd.arrI 32 .u8) F F A10 a0.D) (hg17 : CH.le (CH.row g1 o2 [.slice A3 n5 c4, .slice A10 n12 c11]) F) (hG0 : CH.le (CH.row 0 0 (glob0.map (Value.int .u32))) F) (hG2 : CH.le (CH.row 2 0 (glob2.map (Value.int .u32))) F) (r0_ : List (List Int)) (r1_ : Int) (H : juratref09_Ledger_Consist.f k a0 a1 a2 = some (r0_, r1_)) :
    Calls Tryd.prog 49 #[.pointer (some ⟨g1, o2, none⟩), .int .i64 a1, .int .i64 a2] w fun e w' => ∃ (A46 : Option Addr) (c47 : Nat) (n48 : Nat) (p50 : CH), e = .returned (.tuple #[(.slice A46 n48 c47), (.int .i64 r1_)]) ∧ Ctx w F (domL []) w' F [p50] ∧ n48 = r0_.length ∧ Row (Kd.arrI 32 .u8) F p50 (.slice A46 n48 c47) r0_ := by
  have C := Ctx.start hp
  generalize hD : domL [] = D at C ⊢
  unfold juratref09_Ledger_Consist.f at H
  refine Calls.ofW Tryd.func49 rfl (by simp [Tryd.ntmps49]) ?_
  refine W.seq ?_
  refine W.region rfl ?_
  refine WL.val (Yl.assign (v := .slice none 0 0) rfl) ?_
  refine WL.val (Yl.assign (v := .int .i64 0) rfl) ?_
  refine WL.done ?_
  refine W.seq ?_
  refine W.seq ?_
  refine W.region rfl ?_
  refine WL.val (Yl.move (v := .int .i64 a2) rfl) ?_
  refine WL.val (Yl.lss (m := a2) (n := 0) (q := decide (a2 < 0)) rfl rfl rfl) ?_
  refine WL.val (Yl.move (v := .bool (decide (a2 < 0))) rfl) ?_
  obtain ⟨g18, HE19, H⟩ := bindE H
  refine WL.cut (fun env_ w_ => env_ 18 = .bool g18 ∧ env_ 0 = .pointer (some ⟨g1, o2, none⟩) ∧ env_ 1 = .int .i64 a1 ∧ env_ 2 = .int .i64 a2 ∧ Ctx w F D w_ F []) ?_ ?_
  · skip
    rcases iteE HE19 with ⟨hc20, HE19⟩ | ⟨hc20, HE19⟩
    · skip
      refine WL.off rfl (congrArg Value.bool (decide_eq_true hc20)) ?_
      refine WL.off rfl (congrArg Value.bool (decide_eq_true hc20)) ?_
      refine WL.off rfl (congrArg Value.bool (decide_eq_true hc20)) ?_
      refine WL.off rfl (congrArg Value.bool (decide_eq_true hc20)) ?_
      refine WL.off rfl (congrArg Value.bool (decide_eq_true hc20)) ?_
      refine WL.off rfl (congrArg Value.bool (decide_eq_true hc20)) ?_
      refine WL.off rfl (congrArg Value.bool (decide_eq_true hc20)) ?_
      refine WL.val (Yl.pickT (v := .bool true) (congrArg Value.bool (decide_eq_true hc20)) rfl) ?_
      cases HE19
      exact WL.done ⟨rfl, rfl, rfl, rfl, C⟩
    · skip
      refine WL.on rfl (congrArg Value.bool (decide_eq_false hc20)) ?_
      refine WL.val (Yl.move (v := .int .i64 a2) rfl) ?_
      refine WL.on rfl (congrArg Value.bool (decide_eq_false hc20)) ?_
      refine WL.val (Yl.move (v := .pointer (some ⟨g1, o2, none⟩)) rfl) ?_
      refine WL.on rfl (congrArg Value.bool (decide_eq_false hc20)) ?_
      refine WL.val (Yl.nilCheck rfl) ?_
      refine WL.on rfl (congrArg Value.bool (decide_eq_false hc20)) ?_
      refine WL.val (Yl.fieldAddr (i := 0) rfl Tryd.underlying66 rfl sz49) ?_
      refine WL.on rfl (congrArg Value.bool (decide_eq_false hc20)) ?_
      refine WL.val (Yl.loadV (g := g1) (off := o2) (o := 0) (cs := [.slice A3 n5 c4, .slice A10 n12 c11]) (v := .slice A3 n5 c4) rfl Tryd.underlying49 rfl (Sub.mono (C.fro) hg17) rfl) ?_
      refine WL.on rfl (congrArg Value.bool (decide_eq_false hc20)) ?_
      refine WL.val (Yl.lenN (A := A3) (l := n5) (q := c4) (n := (a0.L.length : Int)) rfl Tryd.underlying49 (by omega)) ?_
      refine WL.on rfl (congrArg Value.bool (decide_eq_false hc20)) ?_
      refine WL.val (Yl.gtr (m := a2) (n := (a0.L.length : Int)) (q := decide (a2 > (a0.L.length : Int))) rfl rfl rfl) ?_
      refine WL.val (Yl.pickF (v := .bool (decide (a2 > (a0.L.length : Int)))) (congrArg Value.bool (decide_eq_false hc20)) rfl) ?_
      cases HE19
      exact WL.done ⟨rfl, rfl, rfl, rfl, C⟩
  · skip
    rintro env_ w_ ⟨ho21, ho22, ho23, ho24, C25⟩
    rcases iteE H with ⟨hc26, H⟩ | ⟨hc26, H⟩
    · skip
      refine W.condT (ho21.trans (congrArg Value.bool hc26)) ?_
      refine W.seq ?_
      refine W.region rfl ?_
      refine WL.val (Yl.assign (v := .slice none 0 0) rfl) ?_
      refine WL.val (Yl.assign (v := .int .i64 1) rfl) ?_
      refine WL.done ?_
      refine W.ret ?_
      refine thenE_r ?_
      have C27 : Ctx _ _ _ _ F [CH.emp] := Ctx.emp C25
      simp only [Option.some.injEq, Prod.mk.injEq] at H
      obtain ⟨e28, e29⟩ := H
      subst e28 e29
      exact post_r (resE2 rfl rfl rfl) ⟨none, 0, 0, CH.emp, rfl, C27, rfl, (Row.nil _ _)⟩
    · skip
      refine W.condF (ho21.trans (congrArg Value.bool (Bool.eq_false_iff.2 hc26))) ?_
      refine W.skip ?_
      refine W.seq ?_
      refine W.region rfl ?_
      refine WL.val (Yl.move (v := .pointer (some ⟨g1, o2, none⟩)) ho22) ?_
      refine WL.val (Yl.nilCheck rfl) ?_
      refine WL.val (Yl.fieldAddr (i := 1) rfl Tryd.underlying66 rfl sz31) ?_
      refine WL.val (Yl.loadV (g := g1) (off := o2) (o := 1) (cs := [.slice A3 n5 c4, .slice A10 n12 c11]) (v := .slice A10 n12 c11) rfl Tryd.underlying31 rfl (Sub.mono (C25.fro) hg17) rfl) ?_
      refine WL.val (Yl.move (v := .int .i64 a2) ho24) ?_
      obtain ⟨hc30, H⟩ := guardE H
      have hn31 : a2.toNat = (a0.D.take a2.toNat).length := by rw [List.length_take]; omega
      refine WL.val (Yl.sliceHi rfl Tryd.underlying31 sz33 rfl ⟨hc30.1, by omega⟩) ?_
      refine WL.val (Yl.move (v := .int .i64 a1) ho23) ?_
      obtain ⟨⟨r34, r35⟩, hg33, H⟩ := bindE H
      refine WL.call (args := #[.slice A10 a2.toNat c11, .int .i64 a1]) (Yenter.fn Tryd.func32 (by kernel_rfl) rfl (argsE (.cons rfl (.cons rfl .nil)))) (juratref08_Consist.calls k _ F A10 c11 a2.toNat (a0.D.take a2.toNat) a1 (Ctx.pre (qs := []) (rest := []) C25) hn31 (by rw [List.length_take]; omega) hm15 (Sl.take hS16 _) (CH.le_trans hG0 (CH.le_trans (CH.le_refl _) (CH.le_refl _))) (CH.le_trans hG2 (CH.le_trans (CH.le_refl _) (CH.le_refl _))) r34 r35 hg33) ?_
      rintro e_ w_ ⟨A36, c37, n38, p40, rfl, C42, hn39, hR41⟩
      refine ⟨_, rfl, ?_⟩
      have C43 : Ctx _ _ _ _ F [p40] := Ctx.call (qs := []) (rest := []) C25 C42
      refine WL.val (Yl.extract (v := .slice A36 n38 c37) rfl rfl) ?_
      refine WL.val (Yl.extract (v := .int .i64 r35) rfl rfl) ?_
      refine WL.val (Yl.assign (v := .slice A36 n38 c37) rfl) ?_
      refine WL.val (Yl.assign (v := .int .i64 r35) rfl) ?_
      refine WL.done ?_
      refine W.ret ?_
      simp only [Option.some.injEq, Prod.mk.injEq] at H
      obtain ⟨e44, e45⟩ := H
      subst e44 e45
      exact post_r (resE2 rfl rfl rfl) ⟨A36, c37, n38, p40, rfl, C43, hn39, hR41⟩
end Go.Proofs.YthdlfclkcdnenaaDoor
