/- Functions of the program: each as a plain function of numbers and lists, and the proof that the program's own comes to it. Nothing is assumed but what each theorem says. -/
import Derived.Test.YtobdpbnadjkhiaaGreatTGd
namespace Go.Proofs.YtobdpbnadjkhiaaGreat
open Go.RowKit Go.WG
set_option linter.unusedVariables false
set_option linter.unusedSimpArgs false
def docket_clone.l2 : Nat → TState → Int → Int → TJob → Option TJob
  | 0, _, _, _, _ => none
  | k + 1, a0, x7496, x10572, x10573 => if x10572 < (((a0.Jobs.getD x7496.toNat TJob.z).Votes).length : Int) then (if 0 ≤ x10572 ∧ x10572 < (((a0.Jobs.getD x7496.toNat TJob.z).Votes).length : Int) then (if (((((a0.Jobs.getD x7496.toNat TJob.z).Votes).getD x10572.toNat TCast.z).Value).length + ((((a0.Jobs.getD x7496.toNat TJob.z).Votes).getD x10572.toNat TCast.z).Value).length / 4 + 192) * 1 ≤ 281474976710656 then (if (x10573.Votes.length + 1 + (x10573.Votes.length + 1) / 4 + 192) * 32 ≤ 281474976710656 then (docket_clone.l2 k a0 x7496 (wi64 (x10572 + 1)) (⟨x10573.Payload, x10573.State, x10573.Attempt, x10573.Epoch, x10573.Until, x10573.Workers, x10573.Indexes, x10573.Votes ++ [(⟨(((a0.Jobs.getD x7496.toNat TJob.z).Votes).getD x10572.toNat TCast.z).Worker, (((a0.Jobs.getD x7496.toNat TJob.z).Votes).getD x10572.toNat TCast.z).Value⟩ : TCast)], x10573.Value⟩ : TJob)) else none) else none) else none) else (some x10573)
def docket_clone.l1 : Nat → TState → Int → TState → Option TState
  | 0, _, _, _ => none
  | k + 1, a0, x7496, x7497 => if x7496 < (a0.Jobs.length : Int) then (if 0 ≤ x7496 ∧ x7496 < (a0.Jobs.length : Int) then (if (((a0.Jobs.getD x7496.toNat TJob.z).Payload).length + ((a0.Jobs.getD x7496.toNat TJob.z).Payload).length / 4 + 192) * 1 ≤ 281474976710656 then (if (((a0.Jobs.getD x7496.toNat TJob.z).Workers).length + ((a0.Jobs.getD x7496.toNat TJob.z).Workers).length / 4 + 192) * 8 ≤ 281474976710656 then (if (((a0.Jobs.getD x7496.toNat TJob.z).Indexes).length + ((a0.Jobs.getD x7496.toNat TJob.z).Indexes).length / 4 + 192) * 8 ≤ 281474976710656 then (if (((a0.Jobs.getD x7496.toNat TJob.z).Value).length + ((a0.Jobs.getD x7496.toNat TJob.z).Value).length / 4 + 192) * 1 ≤ 281474976710656 then ((docket_clone.l2 k a0 x7496 0 (⟨(a0.Jobs.getD x7496.toNat TJob.z).Payload, (a0.Jobs.getD x7496.toNat TJob.z).State, (a0.Jobs.getD x7496.toNat TJob.z).Attempt, (a0.Jobs.getD x7496.toNat TJob.z).Epoch, (a0.Jobs.getD x7496.toNat TJob.z).Until, (a0.Jobs.getD x7496.toNat TJob.z).Workers, (a0.Jobs.getD x7496.toNat TJob.z).Indexes, ([] : List TCast), (a0.Jobs.getD x7496.toNat TJob.z).Value⟩ : TJob)).bind fun x10372 => if (x7497.Jobs.length + 1 + (x7497.Jobs.length + 1) / 4 + 192) * 152 ≤ 281474976710656 then (docket_clone.l1 k a0 (wi64 (x7496 + 1)) (⟨x7497.Eras, x7497.Jobs ++ [x10372], x7497.Used, x7497.Barred, x7497.Heads⟩ : TState)) else none) else none) else none) else none) else none) else none) else (some x7497)
def docket_clone.f (k : Nat) (a0 : TState) : Option TState := if (a0.Eras.length + a0.Eras.length / 4 + 192) * 40 ≤ 281474976710656 then (if (a0.Used.length + a0.Used.length / 4 + 192) * 8 ≤ 281474976710656 then (if (a0.Barred.length + a0.Barred.length / 4 + 192) * 1 ≤ 281474976710656 then ((docket_clone.l1 k a0 0 (⟨a0.Eras, ([] : List TJob), a0.Used, a0.Barred, a0.Heads⟩ : TState)).bind fun x5739 => some x5739) else none) else none) else none
set_option maxRecDepth 100000 in
set_option maxHeartbeats 4000000 in
theorem docket_clone.calls (k : Nat) (w : World) (F : CH) (A1 : Option Addr) (c2 : Nat) (n3 : Nat) (A8 : Option Addr) (c9 : Nat) (n10 : Nat) (A15 : Option Addr) (c16 : Nat) (n17 : Nat) (A22 : Option Addr) (c23 : Nat) (n24 : Nat) (a0 : TState) (hp : Pre w F []) (hn4 : n3 = a0.Eras.length) (hl5 : a0.Eras.length ≤ c2) (hm6 : c2 ≤ maxLen) (hS7 : Sl TEra.K F F A1 a0.Eras) (hn11 : n10 = a0.Jobs.length) (hl12 : a0.Jobs.length ≤ c9) (hm13 : c9 ≤ maxLen) (hS14 : Sl TJob.K F F A8 a0.Jobs) (hn18 : n17 = a0.Used.length) (hl19 : a0.Used.length ≤ c16) (hm20 : c16 ≤ maxLen) (hS21 : Sl (Kd.int .i64) F F A15 a0.Used) (hn25 : n24 = a0.Barred.length) (hl26 : a0.Barred.length ≤ c23) (hm27 : c23 ≤ maxLen) (hS28 : Sl Kd.bool F F A22 a0.Barred) (r0_ : TState) (H : docket_clone.f k a0 = some r0_) :
    Calls Tryz.prog 41 #[.agg (List.toArray [.slice A1 n3 c2, .slice A8 n10 c9, .slice A15 n17 c16, .slice A22 n24 c23, .int .i64 a0.Heads])] w fun e w' => ∃ (F' : CH) (A11002 : Option Addr) (c11003 : Nat) (n11004 : Nat) (p11006 : CH) (A11008 : Option Addr) (c11009 : Nat) (n11010 : Nat) (p11012 : CH) (A11014 : Option Addr) (c11015 : Nat) (n11016 : Nat) (p11018 : CH) (A11020 : Option Addr) (c11021 : Nat) (n11022 : Nat) (p11024 : CH), e = .returned (.agg (List.toArray [.slice A11002 n11004 c11003, .slice A11008 n11010 c11009, .slice A11014 n11016 c11015, .slice A11020 n11022 c11021, .int .i64 r0_.Heads])) ∧ CH.le F F' ∧ Ctx w F (domL []) w' F' [p11006, p11012, p11018, p11024] ∧ n11004 = r0_.Eras.length ∧ Row TEra.K F' p11006 (.slice A11002 n11004 c11003) r0_.Eras ∧ n11010 = r0_.Jobs.length ∧ Row TJob.K F' p11012 (.slice A11008 n11010 c11009) r0_.Jobs ∧ n11016 = r0_.Used.length ∧ Row (Kd.int .i64) F' p11018 (.slice A11014 n11016 c11015) r0_.Used ∧ n11022 = r0_.Barred.length ∧ Row Kd.bool F' p11024 (.slice A11020 n11022 c11021) r0_.Barred := by
 have C := Ctx.start hp
 generalize hD : domL [] = D at C ⊢
 unfold docket_clone.f at H
 refine Calls.ofW Tryz.func41 rfl (by simp [Tryz.ntmps41]) ?_
 refine W.seq ?_
 refine W.region rfl ?_
 let q1 : List Go.Value := [.slice A1 n3 c2, .slice A8 n10 c9, .slice A15 n17 c16, .slice A22 n24 c23, .int .i64 a0.Heads]
 obtain ⟨g29, w30, hy31, C32⟩ := ev_box (P := Tryz.prog) 50 (.agg (List.toArray q1)) q1 C rfl
 refine WL.val (hy31 _ _ _ rfl) ?_
 let q2 : List Go.Value := [.slice none 0 0, .slice none 0 0, .slice none 0 0, .slice none 0 0, .int .i64 0]
 obtain ⟨g33, w34, hy35, C36⟩ := ev_alloc (P := Tryz.prog) (e := 50) q2 C32 zr50 rfl
 refine WL.val (hy35 _ _) ?_
 refine WL.done ?_
 refine W.seq ?_
 refine W.regionA [([16], CH.row g29 0 q1)] (by kernel_rfl) ?_
 have C105 := Ctx.drewN C36 1
 refine WA.takes [(1, none), (2, some 0), (5, none), (6, some 0), (9, none), (10, some 0), (12, none), (13, some 0)] ⟨(Ctx.subI 1 C105 rfl), trivial⟩ (by kernel_rfl) ?_
 refine WT.run to 1 rfl ?_
 refine WT.val rfl (fun _ hC_ => Yl.loadV (g := g29) (off := 0) (o := 0) (cs := q1) (v := .slice A1 n3 c2) rfl Tryz.underlying45 rfl (show Sub (CH.row g29 0 q1) _ from hC_) rfl) ?_
 refine WT.run to 1 rfl ?_
 refine WT.val rfl (fun _ hC_ => Yl.loadV (g := g29) (off := 0) (o := 2) (cs := q1) (v := .slice A15 n17 c16) rfl Tryz.underlying47 rfl (show Sub (CH.row g29 0 q1) _ from hC_) rfl) ?_
 refine WT.run to 1 rfl ?_
 refine WT.val rfl (fun _ hC_ => Yl.loadV (g := g29) (off := 0) (o := 3) (cs := q1) (v := .slice A22 n24 c23) rfl Tryz.underlying48 rfl (show Sub (CH.row g29 0 q1) _ from hC_) rfl) ?_
 refine WT.run to 1 rfl ?_
 refine WT.val rfl (fun _ hC_ => Yl.loadV (g := g29) (off := 0) (o := 4) (cs := q1) (v := .int .i64 a0.Heads) rfl Tryz.underlying3 rfl (show Sub (CH.row g29 0 q1) _ from hC_) rfl) ?_
 refine WT.done ?_
 obtain ⟨hc171, H⟩ := guardE H
 obtain ⟨hc172, H⟩ := guardE H
 obtain ⟨hc173, H⟩ := guardE H
 refine WA.par (fun L_ env_ w_ => ∃ (A242 : Option Addr) (c243 : Nat) (n244 : Nat) (p248 : CH) (A255 : Option Addr) (c256 : Nat) (n257 : Nat) (p261 : CH) (A268 : Option Addr) (c269 : Nat) (n270 : Nat) (p274 : CH) (g275 : Nat) (p276 : CH), Ctx w F D w_ F [p248, p261, p274, p276, CH.row g33 0 q2, CH.row g29 0 q1] ∧ env_ 1 = .pointer (some ⟨g29, 0, none⟩) ∧ env_ 2 = .pointer (some ⟨g33, 0, none⟩) ∧ env_ 11 = .slice A1 n3 c2 ∧ env_ 15 = .slice A15 n17 c16 ∧ env_ 19 = .slice A22 n24 c23 ∧ env_ 22 = .int .i64 a0.Heads ∧ cond (L_ 3) (env_ 12 = .slice A242 n244 c243 ∧ n244 = a0.Eras.length ∧ Row TEra.K F p248 (.slice A242 n244 c243) a0.Eras) (cond (L_ 0) (∃ (A236 : Option Addr) (c237 : Nat) (n238 : Nat), env_ 9 = .slice A236 n238 c237 ∧ n238 = ([] : List TEra).length ∧ Row TEra.K F p248 (.slice A236 n238 c237) ([] : List TEra)) (True)) ∧ cond (L_ 7) (env_ 16 = .slice A255 n257 c256 ∧ n257 = a0.Used.length ∧ Row (Kd.int .i64) F p261 (.slice A255 n257 c256) a0.Used) (cond (L_ 4) (∃ (A249 : Option Addr) (c250 : Nat) (n251 : Nat), env_ 13 = .slice A249 n251 c250 ∧ n251 = ([] : List Int).length ∧ Row (Kd.int .i64) F p261 (.slice A249 n251 c250) ([] : List Int)) (True)) ∧ cond (L_ 11) (env_ 20 = .slice A268 n270 c269 ∧ n270 = a0.Barred.length ∧ Row Kd.bool F p274 (.slice A268 n270 c269) a0.Barred) (cond (L_ 8) (∃ (A262 : Option Addr) (c263 : Nat) (n264 : Nat), env_ 17 = .slice A262 n264 c263 ∧ n264 = ([] : List Bool).length ∧ Row Kd.bool F p274 (.slice A262 n264 c263) ([] : List Bool)) (True)) ∧ cond (L_ 15) (env_ 3 = .pointer (some ⟨g275, 0, none⟩) ∧ p276 = CH.row g275 0 q2) (True) ∧ cond (L_ 14) (env_ 23 = .agg (List.toArray [.slice A242 n244 c243, .slice none 0 0, .slice A255 n257 c256, .slice A268 n270 c269, .int .i64 a0.Heads])) True) [(0, [], [3, 14]), (3, [0], [14]), (4, [], [7, 14]), (7, [3, 4], [14]), (8, [], [11, 14]), (11, [7, 8], [14]), (14, [3, 7, 11], []), (15, [], [])] [1, 2, 5, 6, 9, 10, 12, 13] [0, 1, 2, 3, 4, 5, 6, 7, 8, 9, 10, 11, 12, 13, 14, 15] #[true, true, true, true, true, true, true, true, true, true, true, true, true, true, true, true, false] 1 8 (by kernel_rfl) ?_ (.cons ?_ (.cons ?_ (.cons ?_ (.cons ?_ (.cons ?_ (.cons ?_ (.cons ?_ (.cons ?_ .nil)))))))) ?_
 ·have C277 := Ctx.emp C105
  have C278 := Ctx.emp C277
  have C279 := Ctx.emp C278
  have C280 := Ctx.emp C279
  exact ⟨none, 0, 0, CH.emp, none, 0, 0, CH.emp, none, 0, 0, CH.emp, 0, CH.emp, C280, rfl, rfl, rfl, rfl, rfl, rfl, (iF rfl (iF rfl trivial)), (iF rfl (iF rfl trivial)), (iF rfl (iF rfl trivial)), (iF rfl trivial), (iF rfl trivial)⟩
 ·intro L_ env_ w_ hk_ hI_
  obtain ⟨k294, k295, k296, _⟩ := hk_
  obtain ⟨A242, c243, n244, p248, A255, c256, n257, p261, A268, c269, n270, p274, g275, p276, C281, ho283, ho284, ho285, ho286, ho287, ho288, hT289, hT290, hT291, hT292, hQ293⟩ := hI_
  obtain ⟨A297, c298, n299, p300, w301, hn302, hy303, C304, hR305⟩ := ev_lit0 (P := Tryz.prog) 94 TEra.K C281 Tryz.underlying45 ti94
  refine UpI.val rfl rfl (hy303 _ _) ⟨(Ctx.subI 6 C304 rfl), trivial⟩ ?_
  have C306 : Ctx _ _ _ _ _ [p300, p261, p274, p276, CH.row g33 0 q2, CH.row g29 0 q1] := Ctx.pick [0, 2, 3, 4, 5, 6] C304 rfl
  exact ⟨A242, c243, n244, p300, A255, c256, n257, p261, A268, c269, n270, p274, g275, p276, C306, ho283, ho284, ho285, ho286, ho287, ho288, (iF k295 (iT rfl ⟨A297, c298, n299, rfl, hn302, hR305⟩)), hT290, hT291, hT292, (iF k296 trivial)⟩
 ·intro L_ env_ w_ hk_ hI_
  obtain ⟨k320, k321, k322, _⟩ := hk_
  obtain ⟨A242, c243, n244, p248, A255, c256, n257, p261, A268, c269, n270, p274, g275, p276, C307, ho309, ho310, ho311, ho312, ho313, ho314, hT315, hT316, hT317, hT318, hQ319⟩ := hI_
  obtain ⟨A236, c237, n238, e323, hn239, hR241⟩ := cT k320 (cF k321 hT315)
  obtain ⟨A324, c325, n326, p327, w328, hn329, hy330, C331, hR332⟩ := ev_append' (P := Tryz.prog) (cb := c2) 94 TEra.K [] [p261, p274, p276, CH.row g33 0 q2, CH.row g29 0 q1] C307 hR241 hn4 hS7 C307.fro Tryz.underlying45 ti94 rfl zo94 (by decide) (by decide) (by simpa using hc171)
  have C333 : Ctx _ _ _ _ _ [p327, p261, p274, p276, CH.row g33 0 q2, CH.row g29 0 q1] := C331
  rw [List.nil_append] at hn329 hR332
  refine UpI.val rfl rfl (hy330 _ _ _ _ e323 ho311) ⟨(Ctx.subI 5 C333 rfl), trivial⟩ ?_
  exact ⟨A324, c325, n326, p327, A255, c256, n257, p261, A268, c269, n270, p274, g275, p276, C333, ho309, ho310, ho311, ho312, ho313, ho314, (iT rfl ⟨rfl, hn329, hR332⟩), hT316, hT317, hT318, (iF k322 trivial)⟩
 ·intro L_ env_ w_ hk_ hI_
  obtain ⟨k347, k348, k349, _⟩ := hk_
  obtain ⟨A242, c243, n244, p248, A255, c256, n257, p261, A268, c269, n270, p274, g275, p276, C334, ho336, ho337, ho338, ho339, ho340, ho341, hT342, hT343, hT344, hT345, hQ346⟩ := hI_
  obtain ⟨A350, c351, n352, p353, w354, hn355, hy356, C357, hR358⟩ := ev_lit0 (P := Tryz.prog) 3 (Kd.int .i64) C334 Tryz.underlying47 ti3
  refine UpI.val rfl rfl (hy356 _ _) ⟨(Ctx.subI 6 C357 rfl), trivial⟩ ?_
  have C359 : Ctx _ _ _ _ _ [p248, p353, p274, p276, CH.row g33 0 q2, CH.row g29 0 q1] := Ctx.pick [1, 0, 3, 4, 5, 6] C357 rfl
  exact ⟨A242, c243, n244, p248, A255, c256, n257, p353, A268, c269, n270, p274, g275, p276, C359, ho336, ho337, ho338, ho339, ho340, ho341, hT342, (iF k348 (iT rfl ⟨A350, c351, n352, rfl, hn355, hR358⟩)), hT344, hT345, (iF k349 trivial)⟩
 ·intro L_ env_ w_ hk_ hI_
  obtain ⟨k373, k374, k375, k376, _⟩ := hk_
  obtain ⟨A242, c243, n244, p248, A255, c256, n257, p261, A268, c269, n270, p274, g275, p276, C360, ho362, ho363, ho364, ho365, ho366, ho367, hT368, hT369, hT370, hT371, hQ372⟩ := hI_
  obtain ⟨e377, hn245, hR247⟩ := cT k373 hT368
  obtain ⟨A249, c250, n251, e378, hn252, hR254⟩ := cT k374 (cF k375 hT369)
  obtain ⟨A379, c380, n381, p382, w383, hn384, hy385, C386, hR387⟩ := ev_append' (P := Tryz.prog) (cb := c16) 3 (Kd.int .i64) [p248] [p274, p276, CH.row g33 0 q2, CH.row g29 0 q1] C360 hR254 hn18 hS21 C360.fro Tryz.underlying47 ti3 rfl zo3 (by decide) (by decide) (by simpa using hc172)
  have C388 : Ctx _ _ _ _ _ [p248, p382, p274, p276, CH.row g33 0 q2, CH.row g29 0 q1] := C386
  rw [List.nil_append] at hn384 hR387
  refine UpI.val rfl rfl (hy385 _ _ _ _ e378 ho365) ⟨(Ctx.subI 5 C388 rfl), trivial⟩ ?_
  exact ⟨A242, c243, n244, p248, A379, c380, n381, p382, A268, c269, n270, p274, g275, p276, C388, ho362, ho363, ho364, ho365, ho366, ho367, hT368, (iT rfl ⟨rfl, hn384, hR387⟩), hT370, hT371, (iF k376 trivial)⟩
 ·intro L_ env_ w_ hk_ hI_
  obtain ⟨k402, k403, k404, _⟩ := hk_
  obtain ⟨A242, c243, n244, p248, A255, c256, n257, p261, A268, c269, n270, p274, g275, p276, C389, ho391, ho392, ho393, ho394, ho395, ho396, hT397, hT398, hT399, hT400, hQ401⟩ := hI_
  obtain ⟨A405, c406, n407, p408, w409, hn410, hy411, C412, hR413⟩ := ev_lit0 (P := Tryz.prog) 4 Kd.bool C389 Tryz.underlying48 ti4
  refine UpI.val rfl rfl (hy411 _ _) ⟨(Ctx.subI 6 C412 rfl), trivial⟩ ?_
  have C414 : Ctx _ _ _ _ _ [p248, p261, p408, p276, CH.row g33 0 q2, CH.row g29 0 q1] := Ctx.pick [1, 2, 0, 4, 5, 6] C412 rfl
  exact ⟨A242, c243, n244, p248, A255, c256, n257, p261, A268, c269, n270, p408, g275, p276, C414, ho391, ho392, ho393, ho394, ho395, ho396, hT397, hT398, (iF k403 (iT rfl ⟨A405, c406, n407, rfl, hn410, hR413⟩)), hT400, (iF k404 trivial)⟩
 ·intro L_ env_ w_ hk_ hI_
  obtain ⟨k428, k429, k430, k431, _⟩ := hk_
  obtain ⟨A242, c243, n244, p248, A255, c256, n257, p261, A268, c269, n270, p274, g275, p276, C415, ho417, ho418, ho419, ho420, ho421, ho422, hT423, hT424, hT425, hT426, hQ427⟩ := hI_
  obtain ⟨e432, hn258, hR260⟩ := cT k428 hT424
  obtain ⟨A262, c263, n264, e433, hn265, hR267⟩ := cT k429 (cF k430 hT425)
  obtain ⟨A434, c435, n436, p437, w438, hn439, hy440, C441, hR442⟩ := ev_append' (P := Tryz.prog) (cb := c23) 4 Kd.bool [p248, p261] [p276, CH.row g33 0 q2, CH.row g29 0 q1] C415 hR267 hn25 hS28 C415.fro Tryz.underlying48 ti4 rfl zo4 (by decide) (by decide) (by simpa using hc173)
  have C443 : Ctx _ _ _ _ _ [p248, p261, p437, p276, CH.row g33 0 q2, CH.row g29 0 q1] := C441
  rw [List.nil_append] at hn439 hR442
  refine UpI.val rfl rfl (hy440 _ _ _ _ e433 ho421) ⟨(Ctx.subI 5 C443 rfl), trivial⟩ ?_
  exact ⟨A242, c243, n244, p248, A255, c256, n257, p261, A434, c435, n436, p437, g275, p276, C443, ho417, ho418, ho419, ho420, ho421, ho422, hT423, hT424, (iT rfl ⟨rfl, hn439, hR442⟩), hT426, (iF k431 trivial)⟩
 ·intro L_ env_ w_ hk_ hI_
  obtain ⟨k457, k458, k459, k460, _⟩ := hk_
  obtain ⟨A242, c243, n244, p248, A255, c256, n257, p261, A268, c269, n270, p274, g275, p276, C444, ho446, ho447, ho448, ho449, ho450, ho451, hT452, hT453, hT454, hT455, hQ456⟩ := hI_
  obtain ⟨e461, hn245, hR247⟩ := cT k457 hT452
  obtain ⟨e462, hn258, hR260⟩ := cT k458 hT453
  obtain ⟨e463, hn271, hR273⟩ := cT k459 hT454
  let q3 : List Go.Value := [.slice A242 n244 c243, .slice none 0 0, .slice A255 n257 c256, .slice A268 n270 c269, .int .i64 a0.Heads]
  refine UpI.val rfl rfl (Yl.build (places := [(0, 1), (1, 1), (2, 1), (3, 1), (4, 1)]) (cs := List.toArray q3) Tryz.underlying50 zr50 (pl50 _ Tryz.underlying50) (partsB (.cons e461 (.cons e462 (.cons e463 (.cons ho451 .nil))))) rfl) ⟨(Ctx.subI 5 C444 rfl), trivial⟩ ?_
  exact ⟨A242, c243, n244, p248, A255, c256, n257, p261, A268, c269, n270, p274, g275, p276, C444, ho446, ho447, ho448, ho449, ho450, ho451, hT452, hT453, hT454, hT455, (iT rfl rfl)⟩
 ·intro L_ env_ w_ hk_ hI_
  obtain ⟨k477, _⟩ := hk_
  obtain ⟨A242, c243, n244, p248, A255, c256, n257, p261, A268, c269, n270, p274, g275, p276, C464, ho466, ho467, ho468, ho469, ho470, ho471, hT472, hT473, hT474, hT475, hQ476⟩ := hI_
  obtain ⟨g478, w479, hy480, C481⟩ := ev_alloc (P := Tryz.prog) (e := 50) q2 C464 zr50 rfl
  refine UpI.val rfl rfl (hy480 _ _) ⟨(Ctx.subI 6 C481 rfl), trivial⟩ ?_
  have C482 : Ctx _ _ _ _ _ [p248, p261, p274, CH.row g478 0 q2, CH.row g33 0 q2, CH.row g29 0 q1] := Ctx.pick [1, 2, 3, 0, 5, 6] C481 rfl
  exact ⟨A242, c243, n244, p248, A255, c256, n257, p261, A268, c269, n270, p274, g478, (CH.row g478 0 q2), C482, ho466, ho467, ho468, ho469, ho470, ho471, hT472, hT473, hT474, (iT rfl ⟨rfl, rfl⟩), hQ476⟩
 ·rintro env_ w_ ⟨A242, c243, n244, p248, A255, c256, n257, p261, A268, c269, n270, p274, g275, p276, C483, ho485, ho486, ho487, ho488, ho489, ho490, hT491, hT492, hT493, hT494, hQ495⟩
  obtain ⟨e496, hn245, hR247⟩ := cT rfl hT491
  obtain ⟨e497, hn258, hR260⟩ := cT rfl hT492
  obtain ⟨e498, hn271, hR273⟩ := cT rfl hT493
  obtain ⟨e499, rfl⟩ := cT rfl hT494
  have e500 := cT rfl hQ495
  let q4 : List Go.Value := [.slice A242 n244 c243, .slice none 0 0, .slice A255 n257 c256, .slice A268 n270 c269, .int .i64 a0.Heads]
  obtain ⟨w501, hy502, C503⟩ := ev_setI (P := Tryz.prog) (ps1 := [p248, p261, p274]) (ps2 := [CH.row g33 0 q2, CH.row g29 0 q1]) (t := 50) 0 q4 (.agg (List.toArray q4)) C483 rfl rfl (ones_of rfl) sz50
  have C504 : Ctx _ _ _ _ _ [p248, p261, p274, CH.row g275 0 q4, CH.row g33 0 q2, CH.row g29 0 q1] := C503
  refine WA.up1 16 (by kernel_rfl) (Up.skip rfl rfl (hy502 _ _ _ _ e499 e500) ⟨trivial, trivial⟩ ?_)
  refine WA.done (by kernel_rfl) ?_
  refine W.seq ?_
  refine W.seq ?_
  refine W.region rfl ?_
  refine WL.val (Yl.fieldAddr (i := 1) ho485 Tryz.underlying50 rfl sz46) ?_
  refine WL.val (Yl.loadV (g := g29) (off := 0) (o := 1) (cs := q1) (v := .slice A8 n10 c9) rfl Tryz.underlying46 rfl (Ctx.subI 5 C504 rfl) rfl) ?_
  refine WL.val (Yl.lenN (A := A8) (l := n10) (q := c9) (n := (a0.Jobs.length : Int)) rfl Tryz.underlying46 (by omega)) ?_
  refine WL.run to 1 rfl ?_
  refine WL.done ?_
  obtain ⟨x5739, hX5765, H⟩ := bindE H
  refine W.cutM (fun env_ w_ => ∃ (F5735 : CH) (A5740 : Option Addr) (c5741 : Nat) (n5742 : Nat) (p5744 : CH) (A5746 : Option Addr) (c5747 : Nat) (n5748 : Nat) (p5750 : CH) (A5752 : Option Addr) (c5753 : Nat) (n5754 : Nat) (p5756 : CH) (A5758 : Option Addr) (c5759 : Nat) (n5760 : Nat) (p5762 : CH), env_ 2 = .pointer (some ⟨g33, 0, none⟩) ∧ env_ 3 = .pointer (some ⟨g275, 0, none⟩) ∧ Ctx w F D w_ F5735 [CH.row g275 0 [.slice A5740 n5742 c5741, .slice A5746 n5748 c5747, .slice A5752 n5754 c5753, .slice A5758 n5760 c5759, .int .i64 x5739.Heads], p5744, p5750, p5756, p5762, CH.row g33 0 q2, CH.row g29 0 q1] ∧ CH.le F F5735 ∧ n5742 = x5739.Eras.length ∧ Row TEra.K F5735 p5744 (.slice A5740 n5742 c5741) x5739.Eras ∧ n5748 = x5739.Jobs.length ∧ Row TJob.K F5735 p5750 (.slice A5746 n5748 c5747) x5739.Jobs ∧ n5754 = x5739.Used.length ∧ Row (Kd.int .i64) F5735 p5756 (.slice A5752 n5754 c5753) x5739.Used ∧ n5760 = x5739.Barred.length ∧ Row Kd.bool F5735 p5762 (.slice A5758 n5760 c5759) x5739.Barred) ?_ ?_
  ·refine W.block ?_
   have C9259 : Ctx _ _ _ _ _ [CH.row g275 0 q4, p248, CH.emp, p261, p274, CH.row g33 0 q2, CH.row g29 0 q1] := Ctx.pick [3, 0, 6, 1, 2, 4, 5] C504 rfl
   refine W.loop (fun g_ env_ w_ => ∃ (x7496 : Int) (x7497 : TState) (F7489 : CH) (A7498 : Option Addr) (c7499 : Nat) (n7500 : Nat) (p7502 : CH) (A7504 : Option Addr) (c7505 : Nat) (n7506 : Nat) (p7508 : CH) (A7510 : Option Addr) (c7511 : Nat) (n7512 : Nat) (p7514 : CH) (A7516 : Option Addr) (c7517 : Nat) (n7518 : Nat) (p7520 : CH), env_ 2 = .pointer (some ⟨g33, 0, none⟩) ∧ env_ 3 = .pointer (some ⟨g275, 0, none⟩) ∧ env_ 25 = .slice A8 n10 c9 ∧ env_ 26 = .int .i64 (a0.Jobs.length : Int) ∧ env_ 27 = .int .i64 x7496 ∧ Ctx w F D w_ F7489 [CH.row g275 0 [.slice A7498 n7500 c7499, .slice A7504 n7506 c7505, .slice A7510 n7512 c7511, .slice A7516 n7518 c7517, .int .i64 x7497.Heads], p7502, p7508, p7514, p7520, CH.row g33 0 q2, CH.row g29 0 q1] ∧ CH.le F F7489 ∧ n7500 = x7497.Eras.length ∧ Row TEra.K F7489 p7502 (.slice A7498 n7500 c7499) x7497.Eras ∧ n7506 = x7497.Jobs.length ∧ Row TJob.K F7489 p7508 (.slice A7504 n7506 c7505) x7497.Jobs ∧ n7512 = x7497.Used.length ∧ Row (Kd.int .i64) F7489 p7514 (.slice A7510 n7512 c7511) x7497.Used ∧ n7518 = x7497.Barred.length ∧ Row Kd.bool F7489 p7520 (.slice A7516 n7518 c7517) x7497.Barred ∧ docket_clone.l1 g_ a0 x7496 x7497 = some x5739) k ⟨0, (⟨a0.Eras, ([] : List TJob), a0.Used, a0.Barred, a0.Heads⟩ : TState), F, A242, c243, n244, p248, none, 0, 0, CH.emp, A255, c256, n257, p261, A268, c269, n270, p274, ho486, e499, rfl, rfl, rfl, C9259, (CH.le_refl _), hn245, hR247, rfl, (Row.nil _ _), hn258, hR260, hn271, hR273, hX5765⟩ ?_
   clear hX5765
   rintro g_ env_ w_ ⟨x7496, x7497, F7489, A7498, c7499, n7500, p7502, A7504, c7505, n7506, p7508, A7510, c7511, n7512, p7514, A7516, c7517, n7518, p7520, ho7491, ho7492, ho7493, ho7494, ho7495, C7522, le7490, hn7501, hR7503, hn7507, hR7509, hn7513, hR7515, hn7519, hR7521, hX5765⟩
   rcases g_ with _ | k9258
   · exact absurd hX5765 (by simp [docket_clone.l1])
   rw [docket_clone.l1] at hX5765
   apply kn env_ (.c ho7491 (.c ho7492 (.c ho7493 (.c ho7494 (.c ho7495 .n)))))
   refine W.seq ?_
   refine W.region rfl ?_
   refine WL.run to 1 rfl ?_
   refine WL.done ?_
   refine W.seq ?_
   rcases iteE hX5765 with ⟨hc9260, hX5765⟩ | ⟨hc9260, hX5765⟩
   ·refine W.condT (congrArg Value.bool (decide_eq_true hc9260)) ?_
    refine W.skip ?_
    refine W.seq ?_
    refine W.block ?_
    refine W.seq ?_
    refine W.region rfl ?_
    obtain ⟨hc9261, hX5765⟩ := guardE hX5765
    obtain ⟨b9262, of9263, hA9264, he9265⟩ := hS14 (by omega)
    refine WL.val (Yl.elemAddr (i := x7496) rfl rfl hA9264 Tryz.underlying46 sz63 (by omega)) ?_
    obtain ⟨cs9266, hr9267, hx9268⟩ := he9265 x7496.toNat _ (getD_some (d := TJob.z) (by omega))
    obtain ⟨A9269, c9270, n9271, A9276, c9277, n9278, A9283, c9284, n9285, A9290, c9291, n9292, A9297, c9298, n9299, rfl, hn9272, hl9273, hm9274, hS9275, hn9279, hl9280, hm9281, hS9282, hn9286, hl9287, hm9288, hS9289, hn9293, hl9294, hm9295, hS9296, hn9300, hl9301, hm9302, hS9303⟩ := TJob.open hr9267
    let q5 : List Go.Value := [.slice A9269 n9271 c9270, .int .i64 ((a0.Jobs.getD x7496.toNat TJob.z).State), .int .i64 ((a0.Jobs.getD x7496.toNat TJob.z).Attempt), .int .i64 ((a0.Jobs.getD x7496.toNat TJob.z).Epoch), .int .i64 ((a0.Jobs.getD x7496.toNat TJob.z).Until), .slice A9276 n9278 c9277, .slice A9283 n9285 c9284, .slice A9290 n9292 c9291, .slice A9297 n9299 c9298]
    refine WL.val (Yl.loadAgg (cs := q5) rfl Tryz.underlying63 rfl sz63 (fun j u hu => by rw [add_of]; exact ((C7522.fro.mono le7490)).cell (hx9268 _ _ hu))) ?_
    let q6 : List Go.Value := [.slice none 0 0, .int .i64 0, .int .i64 0, .int .i64 0, .int .i64 0, .slice none 0 0, .slice none 0 0, .slice none 0 0, .slice none 0 0]
    obtain ⟨g9304, w9305, hy9306, C9307⟩ := ev_alloc (P := Tryz.prog) (e := 63) q6 C7522 zr63 rfl
    refine WL.val (hy9306 _ _) ?_
    let q7 : List Go.Value := [.slice A7498 n7500 c7499, .slice A7504 n7506 c7505, .slice A7510 n7512 c7511, .slice A7516 n7518 c7517, .int .i64 x7497.Heads]
    obtain ⟨w9308, hy9309, C9310⟩ := ev_setI (P := Tryz.prog) (ps1 := []) (ps2 := [CH.row g275 0 q7, p7502, p7508, p7514, p7520, CH.row g33 0 q2, CH.row g29 0 q1]) (t := 63) 0 q5 (.agg (List.toArray q5)) C9307 rfl rfl (ones_of rfl) sz63
    have C9311 : Ctx _ _ _ _ _ [CH.row g9304 0 q5, CH.row g275 0 q7, p7502, p7508, p7514, p7520, CH.row g33 0 q2, CH.row g29 0 q1] := C9310
    refine WL.skip (hy9309 _ _ _ _ rfl rfl) ?_
    refine WL.done ?_
    refine W.seq ?_
    refine W.regionA [([14], CH.row g9304 0 q5)] (by kernel_rfl) ?_
    have C9340 := Ctx.drewN C9311 1
    refine WA.takes [(1, none), (2, some 0), (4, none), (5, some 0), (6, none), (7, some 0), (8, none), (9, some 0), (10, none), (11, some 0)] ⟨(Ctx.subI 0 C9340 rfl), trivial⟩ (by kernel_rfl) ?_
    refine WT.run to 1 rfl ?_
    refine WT.val rfl (fun _ hC_ => Yl.loadV (g := g9304) (off := 0) (o := 0) (cs := q5) (v := .slice A9269 n9271 c9270) rfl Tryz.underlying24 rfl (show Sub (CH.row g9304 0 q5) _ from hC_) rfl) ?_
    refine WT.run to 1 rfl ?_
    refine WT.val rfl (fun _ hC_ => Yl.loadV (g := g9304) (off := 0) (o := 1) (cs := q5) (v := .int .i64 ((a0.Jobs.getD x7496.toNat TJob.z).State)) rfl Tryz.underlying3 rfl (show Sub (CH.row g9304 0 q5) _ from hC_) rfl) ?_
    refine WT.run to 1 rfl ?_
    refine WT.val rfl (fun _ hC_ => Yl.loadV (g := g9304) (off := 0) (o := 2) (cs := q5) (v := .int .i64 ((a0.Jobs.getD x7496.toNat TJob.z).Attempt)) rfl Tryz.underlying3 rfl (show Sub (CH.row g9304 0 q5) _ from hC_) rfl) ?_
    refine WT.run to 1 rfl ?_
    refine WT.val rfl (fun _ hC_ => Yl.loadV (g := g9304) (off := 0) (o := 3) (cs := q5) (v := .int .i64 ((a0.Jobs.getD x7496.toNat TJob.z).Epoch)) rfl Tryz.underlying3 rfl (show Sub (CH.row g9304 0 q5) _ from hC_) rfl) ?_
    refine WT.run to 1 rfl ?_
    refine WT.val rfl (fun _ hC_ => Yl.loadV (g := g9304) (off := 0) (o := 4) (cs := q5) (v := .int .i64 ((a0.Jobs.getD x7496.toNat TJob.z).Until)) rfl Tryz.underlying3 rfl (show Sub (CH.row g9304 0 q5) _ from hC_) rfl) ?_
    refine WT.done ?_
    obtain ⟨hc9366, hX5765⟩ := guardE hX5765
    refine WA.par (fun L_ env_ w_ => ∃ (A9397 : Option Addr) (c9398 : Nat) (n9399 : Nat) (p9403 : CH) (g9404 : Nat) (p9405 : CH), Ctx w F D w_ F7489 [p9403, p9405, CH.row g9304 0 q5, CH.row g275 0 q7, p7502, p7508, p7514, p7520, CH.row g33 0 q2, CH.row g29 0 q1] ∧ env_ 2 = .pointer (some ⟨g33, 0, none⟩) ∧ env_ 3 = .pointer (some ⟨g275, 0, none⟩) ∧ env_ 5 = .pointer (some ⟨g9304, 0, none⟩) ∧ env_ 25 = .slice A8 n10 c9 ∧ env_ 26 = .int .i64 (a0.Jobs.length : Int) ∧ env_ 27 = .int .i64 x7496 ∧ env_ 33 = .slice A9269 n9271 c9270 ∧ env_ 36 = .int .i64 ((a0.Jobs.getD x7496.toNat TJob.z).State) ∧ env_ 38 = .int .i64 ((a0.Jobs.getD x7496.toNat TJob.z).Attempt) ∧ env_ 40 = .int .i64 ((a0.Jobs.getD x7496.toNat TJob.z).Epoch) ∧ env_ 42 = .int .i64 ((a0.Jobs.getD x7496.toNat TJob.z).Until) ∧ cond (L_ 3) (env_ 34 = .slice A9397 n9399 c9398 ∧ n9399 = ((a0.Jobs.getD x7496.toNat TJob.z).Payload).length ∧ Row (Kd.int .u8) F7489 p9403 (.slice A9397 n9399 c9398) ((a0.Jobs.getD x7496.toNat TJob.z).Payload)) (cond (L_ 0) (∃ (A9391 : Option Addr) (c9392 : Nat) (n9393 : Nat), env_ 31 = .slice A9391 n9393 c9392 ∧ n9393 = ([] : List Int).length ∧ Row (Kd.int .u8) F7489 p9403 (.slice A9391 n9393 c9392) ([] : List Int)) (True)) ∧ cond (L_ 13) (env_ 6 = .pointer (some ⟨g9404, 0, none⟩) ∧ p9405 = CH.row g9404 0 q6) (True) ∧ cond (L_ 12) (env_ 43 = .agg (List.toArray [.slice A9397 n9399 c9398, .int .i64 ((a0.Jobs.getD x7496.toNat TJob.z).State), .int .i64 ((a0.Jobs.getD x7496.toNat TJob.z).Attempt), .int .i64 ((a0.Jobs.getD x7496.toNat TJob.z).Epoch), .int .i64 ((a0.Jobs.getD x7496.toNat TJob.z).Until), .slice none 0 0, .slice none 0 0, .slice none 0 0, .slice none 0 0])) True) [(0, [], [3, 12]), (3, [0], [12]), (12, [3], []), (13, [], [])] [1, 2, 4, 5, 6, 7, 8, 9, 10, 11] [0, 1, 2, 3, 4, 5, 6, 7, 8, 9, 10, 11, 12, 13] #[true, true, true, true, true, true, true, true, true, true, true, true, true, true, false] 1 4 (by kernel_rfl) ?_ (.cons ?_ (.cons ?_ (.cons ?_ (.cons ?_ .nil)))) ?_
    ·have C9406 := Ctx.emp C9340
     have C9407 := Ctx.emp C9406
     exact ⟨none, 0, 0, CH.emp, 0, CH.emp, C9407, rfl, rfl, rfl, rfl, rfl, rfl, rfl, rfl, rfl, rfl, rfl, (iF rfl (iF rfl trivial)), (iF rfl trivial), (iF rfl trivial)⟩
    ·intro L_ env_ w_ hk_ hI_
     obtain ⟨k9424, k9425, k9426, _⟩ := hk_
     obtain ⟨A9397, c9398, n9399, p9403, g9404, p9405, C9408, ho9410, ho9411, ho9412, ho9413, ho9414, ho9415, ho9416, ho9417, ho9418, ho9419, ho9420, hT9421, hT9422, hQ9423⟩ := hI_
     obtain ⟨A9427, c9428, n9429, p9430, w9431, hn9432, hy9433, C9434, hR9435⟩ := ev_lit0 (P := Tryz.prog) 5 (Kd.int .u8) C9408 Tryz.underlying24 ti5
     refine UpI.val rfl rfl (hy9433 _ _) ⟨(Ctx.subI 3 C9434 rfl), trivial⟩ ?_
     have C9436 : Ctx _ _ _ _ _ [p9430, p9405, CH.row g9304 0 q5, CH.row g275 0 q7, p7502, p7508, p7514, p7520, CH.row g33 0 q2, CH.row g29 0 q1] := Ctx.pick [0, 2, 3, 4, 5, 6, 7, 8, 9, 10] C9434 rfl
     exact ⟨A9397, c9398, n9399, p9430, g9404, p9405, C9436, ho9410, ho9411, ho9412, ho9413, ho9414, ho9415, ho9416, ho9417, ho9418, ho9419, ho9420, (iF k9425 (iT rfl ⟨A9427, c9428, n9429, rfl, hn9432, hR9435⟩)), hT9422, (iF k9426 trivial)⟩
    ·intro L_ env_ w_ hk_ hI_
     obtain ⟨k9453, k9454, k9455, _⟩ := hk_
     obtain ⟨A9397, c9398, n9399, p9403, g9404, p9405, C9437, ho9439, ho9440, ho9441, ho9442, ho9443, ho9444, ho9445, ho9446, ho9447, ho9448, ho9449, hT9450, hT9451, hQ9452⟩ := hI_
     obtain ⟨A9391, c9392, n9393, e9456, hn9394, hR9396⟩ := cT k9453 (cF k9454 hT9450)
     obtain ⟨A9457, c9458, n9459, p9460, w9461, hn9462, hy9463, C9464, hR9465⟩ := ev_append' (P := Tryz.prog) (cb := c9270) 5 (Kd.int .u8) [] [p9405, CH.row g9304 0 q5, CH.row g275 0 q7, p7502, p7508, p7514, p7520, CH.row g33 0 q2, CH.row g29 0 q1] C9437 hR9396 hn9272 (Sl.mono hS9275 le7490 le7490) C9437.fro Tryz.underlying24 ti5 rfl zo5 (by decide) (by decide) (by simpa using hc9366)
     have C9466 : Ctx _ _ _ _ _ [p9460, p9405, CH.row g9304 0 q5, CH.row g275 0 q7, p7502, p7508, p7514, p7520, CH.row g33 0 q2, CH.row g29 0 q1] := C9464
     rw [List.nil_append] at hn9462 hR9465
     refine UpI.val rfl rfl (hy9463 _ _ _ _ e9456 ho9445) ⟨(Ctx.subI 2 C9466 rfl), trivial⟩ ?_
     exact ⟨A9457, c9458, n9459, p9460, g9404, p9405, C9466, ho9439, ho9440, ho9441, ho9442, ho9443, ho9444, ho9445, ho9446, ho9447, ho9448, ho9449, (iT rfl ⟨rfl, hn9462, hR9465⟩), hT9451, (iF k9455 trivial)⟩
    ·intro L_ env_ w_ hk_ hI_
     obtain ⟨k9483, k9484, _⟩ := hk_
     obtain ⟨A9397, c9398, n9399, p9403, g9404, p9405, C9467, ho9469, ho9470, ho9471, ho9472, ho9473, ho9474, ho9475, ho9476, ho9477, ho9478, ho9479, hT9480, hT9481, hQ9482⟩ := hI_
     obtain ⟨e9485, hn9400, hR9402⟩ := cT k9483 hT9480
     let q8 : List Go.Value := [.slice A9397 n9399 c9398, .int .i64 ((a0.Jobs.getD x7496.toNat TJob.z).State), .int .i64 ((a0.Jobs.getD x7496.toNat TJob.z).Attempt), .int .i64 ((a0.Jobs.getD x7496.toNat TJob.z).Epoch), .int .i64 ((a0.Jobs.getD x7496.toNat TJob.z).Until), .slice none 0 0, .slice none 0 0, .slice none 0 0, .slice none 0 0]
     refine UpI.val rfl rfl (Yl.build (places := [(0, 1), (1, 1), (2, 1), (3, 1), (4, 1), (5, 1), (6, 1), (7, 1), (8, 1)]) (cs := List.toArray q8) Tryz.underlying63 zr63 (pl63 _ Tryz.underlying63) (partsB (.cons e9485 (.cons ho9476 (.cons ho9477 (.cons ho9478 (.cons ho9479 .nil)))))) rfl) ⟨(Ctx.subI 2 C9467 rfl), trivial⟩ ?_
     exact ⟨A9397, c9398, n9399, p9403, g9404, p9405, C9467, ho9469, ho9470, ho9471, ho9472, ho9473, ho9474, ho9475, ho9476, ho9477, ho9478, ho9479, hT9480, hT9481, (iT rfl rfl)⟩
    ·intro L_ env_ w_ hk_ hI_
     obtain ⟨k9502, _⟩ := hk_
     obtain ⟨A9397, c9398, n9399, p9403, g9404, p9405, C9486, ho9488, ho9489, ho9490, ho9491, ho9492, ho9493, ho9494, ho9495, ho9496, ho9497, ho9498, hT9499, hT9500, hQ9501⟩ := hI_
     obtain ⟨g9503, w9504, hy9505, C9506⟩ := ev_alloc (P := Tryz.prog) (e := 63) q6 C9486 zr63 rfl
     refine UpI.val rfl rfl (hy9505 _ _) ⟨(Ctx.subI 3 C9506 rfl), trivial⟩ ?_
     have C9507 : Ctx _ _ _ _ _ [p9403, CH.row g9503 0 q6, CH.row g9304 0 q5, CH.row g275 0 q7, p7502, p7508, p7514, p7520, CH.row g33 0 q2, CH.row g29 0 q1] := Ctx.pick [1, 0, 3, 4, 5, 6, 7, 8, 9, 10] C9506 rfl
     exact ⟨A9397, c9398, n9399, p9403, g9503, (CH.row g9503 0 q6), C9507, ho9488, ho9489, ho9490, ho9491, ho9492, ho9493, ho9494, ho9495, ho9496, ho9497, ho9498, hT9499, (iT rfl ⟨rfl, rfl⟩), hQ9501⟩
    ·rintro env_ w_ ⟨A9397, c9398, n9399, p9403, g9404, p9405, C9508, ho9510, ho9511, ho9512, ho9513, ho9514, ho9515, ho9516, ho9517, ho9518, ho9519, ho9520, hT9521, hT9522, hQ9523⟩
     obtain ⟨e9524, hn9400, hR9402⟩ := cT rfl hT9521
     obtain ⟨e9525, rfl⟩ := cT rfl hT9522
     have e9526 := cT rfl hQ9523
     let q9 : List Go.Value := [.slice A9397 n9399 c9398, .int .i64 ((a0.Jobs.getD x7496.toNat TJob.z).State), .int .i64 ((a0.Jobs.getD x7496.toNat TJob.z).Attempt), .int .i64 ((a0.Jobs.getD x7496.toNat TJob.z).Epoch), .int .i64 ((a0.Jobs.getD x7496.toNat TJob.z).Until), .slice none 0 0, .slice none 0 0, .slice none 0 0, .slice none 0 0]
     obtain ⟨w9527, hy9528, C9529⟩ := ev_setI (P := Tryz.prog) (ps1 := [p9403]) (ps2 := [CH.row g9304 0 q5, CH.row g275 0 q7, p7502, p7508, p7514, p7520, CH.row g33 0 q2, CH.row g29 0 q1]) (t := 63) 0 q9 (.agg (List.toArray q9)) C9508 rfl rfl (ones_of rfl) sz63
     have C9530 : Ctx _ _ _ _ _ [p9403, CH.row g9404 0 q9, CH.row g9304 0 q5, CH.row g275 0 q7, p7502, p7508, p7514, p7520, CH.row g33 0 q2, CH.row g29 0 q1] := C9529
     refine WA.up1 14 (by kernel_rfl) (Up.skip rfl rfl (hy9528 _ _ _ _ e9525 e9526) ⟨trivial, trivial⟩ ?_)
     refine WA.done (by kernel_rfl) ?_
     refine W.seq ?_
     refine W.regionA [([7, 9, 11], CH.row g9304 0 q5)] (by kernel_rfl) ?_
     have C9579 := Ctx.drewN C9530 1
     refine WA.takes [(1, none), (2, some 0), (5, none), (6, some 0)] ⟨(Ctx.subI 2 C9579 rfl), trivial⟩ (by kernel_rfl) ?_
     refine WT.val rfl (fun _ hC_ => Yl.fieldAddr (i := 5) (by exact ho9512) Tryz.underlying63 rfl sz47) ?_
     refine WT.val rfl (fun _ hC_ => Yl.loadV (g := g9304) (off := 0) (o := 5) (cs := q5) (v := .slice A9276 n9278 c9277) rfl Tryz.underlying47 rfl (show Sub (CH.row g9304 0 q5) _ from hC_) rfl) ?_
     refine WT.val rfl (fun _ hC_ => Yl.fieldAddr (i := 6) (by exact ho9512) Tryz.underlying63 rfl sz47) ?_
     refine WT.val rfl (fun _ hC_ => Yl.loadV (g := g9304) (off := 0) (o := 6) (cs := q5) (v := .slice A9283 n9285 c9284) rfl Tryz.underlying47 rfl (show Sub (CH.row g9304 0 q5) _ from hC_) rfl) ?_
     refine WT.done ?_
     obtain ⟨hc9621, hX5765⟩ := guardE hX5765
     obtain ⟨hc9622, hX5765⟩ := guardE hX5765
     refine WA.par (fun L_ env_ w_ => ∃ (A9668 : Option Addr) (c9669 : Nat) (n9670 : Nat) (p9674 : CH) (A9681 : Option Addr) (c9682 : Nat) (n9683 : Nat) (p9687 : CH), Ctx w F D w_ F7489 [p9674, p9687, p9403, CH.row g9404 0 q9, CH.row g9304 0 q5, CH.row g275 0 q7, p7502, p7508, p7514, p7520, CH.row g33 0 q2, CH.row g29 0 q1] ∧ env_ 2 = .pointer (some ⟨g33, 0, none⟩) ∧ env_ 3 = .pointer (some ⟨g275, 0, none⟩) ∧ env_ 5 = .pointer (some ⟨g9304, 0, none⟩) ∧ env_ 6 = .pointer (some ⟨g9404, 0, none⟩) ∧ env_ 25 = .slice A8 n10 c9 ∧ env_ 26 = .int .i64 (a0.Jobs.length : Int) ∧ env_ 27 = .int .i64 x7496 ∧ env_ 46 = .slice A9276 n9278 c9277 ∧ env_ 50 = .slice A9283 n9285 c9284 ∧ cond (L_ 3) (env_ 47 = .slice A9668 n9670 c9669 ∧ n9670 = ((a0.Jobs.getD x7496.toNat TJob.z).Workers).length ∧ Row (Kd.int .i64) F7489 p9674 (.slice A9668 n9670 c9669) ((a0.Jobs.getD x7496.toNat TJob.z).Workers)) (cond (L_ 0) (∃ (A9662 : Option Addr) (c9663 : Nat) (n9664 : Nat), env_ 44 = .slice A9662 n9664 c9663 ∧ n9664 = ([] : List Int).length ∧ Row (Kd.int .i64) F7489 p9674 (.slice A9662 n9664 c9663) ([] : List Int)) (True)) ∧ cond (L_ 7) (env_ 51 = .slice A9681 n9683 c9682 ∧ n9683 = ((a0.Jobs.getD x7496.toNat TJob.z).Indexes).length ∧ Row (Kd.int .i64) F7489 p9687 (.slice A9681 n9683 c9682) ((a0.Jobs.getD x7496.toNat TJob.z).Indexes)) (cond (L_ 4) (∃ (A9675 : Option Addr) (c9676 : Nat) (n9677 : Nat), env_ 48 = .slice A9675 n9677 c9676 ∧ n9677 = ([] : List Int).length ∧ Row (Kd.int .i64) F7489 p9687 (.slice A9675 n9677 c9676) ([] : List Int)) (True)) ∧ cond (L_ 8) (env_ 52 = .pointer (some ⟨g9404, 0 + 5, none⟩)) True) [(0, [], [3, 8]), (3, [0], [8]), (4, [], [7]), (7, [3, 4], []), (8, [0, 3], [])] [1, 2, 5, 6] [0, 1, 2, 3, 4, 5, 6, 7, 8] #[true, true, true, true, true, true, true, true, true, false, false, false] 3 5 (by kernel_rfl) ?_ (.cons ?_ (.cons ?_ (.cons ?_ (.cons ?_ (.cons ?_ .nil))))) ?_
     ·have C9688 := Ctx.emp C9579
      have C9689 := Ctx.emp C9688
      exact ⟨none, 0, 0, CH.emp, none, 0, 0, CH.emp, C9689, ho9510, ho9511, ho9512, e9525, ho9513, ho9514, ho9515, rfl, rfl, (iF rfl (iF rfl trivial)), (iF rfl (iF rfl trivial)), (iF rfl trivial)⟩
     ·intro L_ env_ w_ hk_ hI_
      obtain ⟨k9704, k9705, k9706, _⟩ := hk_
      obtain ⟨A9668, c9669, n9670, p9674, A9681, c9682, n9683, p9687, C9690, ho9692, ho9693, ho9694, ho9695, ho9696, ho9697, ho9698, ho9699, ho9700, hT9701, hT9702, hQ9703⟩ := hI_
      obtain ⟨A9707, c9708, n9709, p9710, w9711, hn9712, hy9713, C9714, hR9715⟩ := ev_lit0 (P := Tryz.prog) 3 (Kd.int .i64) C9690 Tryz.underlying47 ti3
      refine UpI.val rfl rfl (hy9713 _ _) ⟨(Ctx.subI 5 C9714 rfl), trivial⟩ ?_
      have C9716 : Ctx _ _ _ _ _ [p9710, p9687, p9403, CH.row g9404 0 q9, CH.row g9304 0 q5, CH.row g275 0 q7, p7502, p7508, p7514, p7520, CH.row g33 0 q2, CH.row g29 0 q1] := Ctx.pick [0, 2, 3, 4, 5, 6, 7, 8, 9, 10, 11, 12] C9714 rfl
      exact ⟨A9668, c9669, n9670, p9710, A9681, c9682, n9683, p9687, C9716, ho9692, ho9693, ho9694, ho9695, ho9696, ho9697, ho9698, ho9699, ho9700, (iF k9705 (iT rfl ⟨A9707, c9708, n9709, rfl, hn9712, hR9715⟩)), hT9702, (iF k9706 trivial)⟩
     ·intro L_ env_ w_ hk_ hI_
      obtain ⟨k9731, k9732, k9733, _⟩ := hk_
      obtain ⟨A9668, c9669, n9670, p9674, A9681, c9682, n9683, p9687, C9717, ho9719, ho9720, ho9721, ho9722, ho9723, ho9724, ho9725, ho9726, ho9727, hT9728, hT9729, hQ9730⟩ := hI_
      obtain ⟨A9662, c9663, n9664, e9734, hn9665, hR9667⟩ := cT k9731 (cF k9732 hT9728)
      obtain ⟨A9735, c9736, n9737, p9738, w9739, hn9740, hy9741, C9742, hR9743⟩ := ev_append' (P := Tryz.prog) (cb := c9277) 3 (Kd.int .i64) [] [p9687, p9403, CH.row g9404 0 q9, CH.row g9304 0 q5, CH.row g275 0 q7, p7502, p7508, p7514, p7520, CH.row g33 0 q2, CH.row g29 0 q1] C9717 hR9667 hn9279 (Sl.mono hS9282 le7490 le7490) C9717.fro Tryz.underlying47 ti3 rfl zo3 (by decide) (by decide) (by simpa using hc9621)
      have C9744 : Ctx _ _ _ _ _ [p9738, p9687, p9403, CH.row g9404 0 q9, CH.row g9304 0 q5, CH.row g275 0 q7, p7502, p7508, p7514, p7520, CH.row g33 0 q2, CH.row g29 0 q1] := C9742
      rw [List.nil_append] at hn9740 hR9743
      refine UpI.val rfl rfl (hy9741 _ _ _ _ e9734 ho9726) ⟨(Ctx.subI 4 C9744 rfl), trivial⟩ ?_
      exact ⟨A9735, c9736, n9737, p9738, A9681, c9682, n9683, p9687, C9744, ho9719, ho9720, ho9721, ho9722, ho9723, ho9724, ho9725, ho9726, ho9727, (iT rfl ⟨rfl, hn9740, hR9743⟩), hT9729, (iF k9733 trivial)⟩
     ·intro L_ env_ w_ hk_ hI_
      obtain ⟨k9759, k9760, _⟩ := hk_
      obtain ⟨A9668, c9669, n9670, p9674, A9681, c9682, n9683, p9687, C9745, ho9747, ho9748, ho9749, ho9750, ho9751, ho9752, ho9753, ho9754, ho9755, hT9756, hT9757, hQ9758⟩ := hI_
      obtain ⟨A9761, c9762, n9763, p9764, w9765, hn9766, hy9767, C9768, hR9769⟩ := ev_lit0 (P := Tryz.prog) 3 (Kd.int .i64) C9745 Tryz.underlying47 ti3
      refine UpI.val rfl rfl (hy9767 _ _) ⟨(Ctx.subI 5 C9768 rfl), trivial⟩ ?_
      have C9770 : Ctx _ _ _ _ _ [p9674, p9764, p9403, CH.row g9404 0 q9, CH.row g9304 0 q5, CH.row g275 0 q7, p7502, p7508, p7514, p7520, CH.row g33 0 q2, CH.row g29 0 q1] := Ctx.pick [1, 0, 3, 4, 5, 6, 7, 8, 9, 10, 11, 12] C9768 rfl
      exact ⟨A9668, c9669, n9670, p9674, A9681, c9682, n9683, p9764, C9770, ho9747, ho9748, ho9749, ho9750, ho9751, ho9752, ho9753, ho9754, ho9755, hT9756, (iF k9760 (iT rfl ⟨A9761, c9762, n9763, rfl, hn9766, hR9769⟩)), hQ9758⟩
     ·intro L_ env_ w_ hk_ hI_
      obtain ⟨k9785, k9786, k9787, _⟩ := hk_
      obtain ⟨A9668, c9669, n9670, p9674, A9681, c9682, n9683, p9687, C9771, ho9773, ho9774, ho9775, ho9776, ho9777, ho9778, ho9779, ho9780, ho9781, hT9782, hT9783, hQ9784⟩ := hI_
      obtain ⟨e9788, hn9671, hR9673⟩ := cT k9785 hT9782
      obtain ⟨A9675, c9676, n9677, e9789, hn9678, hR9680⟩ := cT k9786 (cF k9787 hT9783)
      obtain ⟨A9790, c9791, n9792, p9793, w9794, hn9795, hy9796, C9797, hR9798⟩ := ev_append' (P := Tryz.prog) (cb := c9284) 3 (Kd.int .i64) [p9674] [p9403, CH.row g9404 0 q9, CH.row g9304 0 q5, CH.row g275 0 q7, p7502, p7508, p7514, p7520, CH.row g33 0 q2, CH.row g29 0 q1] C9771 hR9680 hn9286 (Sl.mono hS9289 le7490 le7490) C9771.fro Tryz.underlying47 ti3 rfl zo3 (by decide) (by decide) (by simpa using hc9622)
      have C9799 : Ctx _ _ _ _ _ [p9674, p9793, p9403, CH.row g9404 0 q9, CH.row g9304 0 q5, CH.row g275 0 q7, p7502, p7508, p7514, p7520, CH.row g33 0 q2, CH.row g29 0 q1] := C9797
      rw [List.nil_append] at hn9795 hR9798
      refine UpI.val rfl rfl (hy9796 _ _ _ _ e9789 ho9781) ⟨(Ctx.subI 4 C9799 rfl), trivial⟩ ?_
      exact ⟨A9668, c9669, n9670, p9674, A9790, c9791, n9792, p9793, C9799, ho9773, ho9774, ho9775, ho9776, ho9777, ho9778, ho9779, ho9780, ho9781, hT9782, (iT rfl ⟨rfl, hn9795, hR9798⟩), hQ9784⟩
     ·intro L_ env_ w_ hk_ hI_
      obtain ⟨k9814, k9815, k9816, _⟩ := hk_
      obtain ⟨A9668, c9669, n9670, p9674, A9681, c9682, n9683, p9687, C9800, ho9802, ho9803, ho9804, ho9805, ho9806, ho9807, ho9808, ho9809, ho9810, hT9811, hT9812, hQ9813⟩ := hI_
      obtain ⟨e9817, hn9671, hR9673⟩ := cT k9815 hT9811
      refine UpI.val rfl rfl (Yl.fieldAddr (i := 5) ho9805 Tryz.underlying63 rfl sz47) ⟨(Ctx.subI 4 C9800 rfl), trivial⟩ ?_
      exact ⟨A9668, c9669, n9670, p9674, A9681, c9682, n9683, p9687, C9800, ho9802, ho9803, ho9804, ho9805, ho9806, ho9807, ho9808, ho9809, ho9810, hT9811, hT9812, (iT rfl rfl)⟩
     ·rintro env_ w_ ⟨A9668, c9669, n9670, p9674, A9681, c9682, n9683, p9687, C9818, ho9820, ho9821, ho9822, ho9823, ho9824, ho9825, ho9826, ho9827, ho9828, hT9829, hT9830, hQ9831⟩
      obtain ⟨e9832, hn9671, hR9673⟩ := cT rfl hT9829
      obtain ⟨e9833, hn9684, hR9686⟩ := cT rfl hT9830
      have e9834 := cT rfl hQ9831
      obtain ⟨w9835, hy9836, C9837⟩ := ev_setI (P := Tryz.prog) (ps1 := [p9674, p9687, p9403]) (ps2 := [CH.row g9304 0 q5, CH.row g275 0 q7, p7502, p7508, p7514, p7520, CH.row g33 0 q2, CH.row g29 0 q1]) (t := 47) 5 [.slice A9668 n9670 c9669] (.slice A9668 n9670 c9669) C9818 rfl rfl (ones_of rfl) sz47
      let q10 : List Go.Value := [.slice A9397 n9399 c9398, .int .i64 ((a0.Jobs.getD x7496.toNat TJob.z).State), .int .i64 ((a0.Jobs.getD x7496.toNat TJob.z).Attempt), .int .i64 ((a0.Jobs.getD x7496.toNat TJob.z).Epoch), .int .i64 ((a0.Jobs.getD x7496.toNat TJob.z).Until), .slice A9668 n9670 c9669, .slice none 0 0, .slice none 0 0, .slice none 0 0]
      have C9838 : Ctx _ _ _ _ _ [p9674, p9687, p9403, CH.row g9404 0 q10, CH.row g9304 0 q5, CH.row g275 0 q7, p7502, p7508, p7514, p7520, CH.row g33 0 q2, CH.row g29 0 q1] := C9837
      refine WA.up1 9 (by kernel_rfl) (Up.skip rfl rfl (hy9836 _ _ _ _ e9834 e9832) ⟨trivial, trivial⟩ ?_)
      refine WA.takes [(10, none)] ⟨(Ctx.subI 4 C9838 rfl), trivial⟩ (by kernel_rfl) ?_
      refine WT.val rfl (fun _ hC_ => Yl.fieldAddr (i := 6) (by exact ho9823) Tryz.underlying63 rfl sz47) ?_
      refine WT.done ?_
      obtain ⟨w9839, hy9840, C9841⟩ := ev_setI (P := Tryz.prog) (ps1 := [p9674, p9687, p9403]) (ps2 := [CH.row g9304 0 q5, CH.row g275 0 q7, p7502, p7508, p7514, p7520, CH.row g33 0 q2, CH.row g29 0 q1]) (t := 47) 6 [.slice A9681 n9683 c9682] (.slice A9681 n9683 c9682) C9838 rfl rfl (ones_of rfl) sz47
      let q11 : List Go.Value := [.slice A9397 n9399 c9398, .int .i64 ((a0.Jobs.getD x7496.toNat TJob.z).State), .int .i64 ((a0.Jobs.getD x7496.toNat TJob.z).Attempt), .int .i64 ((a0.Jobs.getD x7496.toNat TJob.z).Epoch), .int .i64 ((a0.Jobs.getD x7496.toNat TJob.z).Until), .slice A9668 n9670 c9669, .slice A9681 n9683 c9682, .slice none 0 0, .slice none 0 0]
      have C9842 : Ctx _ _ _ _ _ [p9674, p9687, p9403, CH.row g9404 0 q11, CH.row g9304 0 q5, CH.row g275 0 q7, p7502, p7508, p7514, p7520, CH.row g33 0 q2, CH.row g29 0 q1] := C9841
      refine WA.up1 11 (by kernel_rfl) (Up.skip rfl rfl (hy9840 _ _ _ _ rfl e9833) ⟨trivial, trivial⟩ ?_)
      refine WA.done (by kernel_rfl) ?_
      refine W.seq ?_
      refine W.region rfl ?_
      obtain ⟨A9843, c9844, n9845, p9846, w9847, hn9848, hy9849, C9850, hR9851⟩ := ev_lit0 (P := Tryz.prog) 5 (Kd.int .u8) C9842 Tryz.underlying24 ti5
      refine WL.val (hy9849 _ _) ?_
      refine WL.val (Yl.fieldAddr (i := 8) ho9822 Tryz.underlying63 rfl sz24) ?_
      refine WL.val (Yl.loadV (g := g9304) (off := 0) (o := 8) (cs := q5) (v := .slice A9297 n9299 c9298) rfl Tryz.underlying24 rfl (Ctx.subI 5 C9850 rfl) rfl) ?_
      obtain ⟨hc9852, hX5765⟩ := guardE hX5765
      obtain ⟨A9853, c9854, n9855, p9856, w9857, hn9858, hy9859, C9860, hR9861⟩ := ev_append' (P := Tryz.prog) (cb := c9298) 5 (Kd.int .u8) [] [p9674, p9687, p9403, CH.row g9404 0 q11, CH.row g9304 0 q5, CH.row g275 0 q7, p7502, p7508, p7514, p7520, CH.row g33 0 q2, CH.row g29 0 q1] C9850 hR9851 hn9300 (Sl.mono hS9303 le7490 le7490) C9850.fro Tryz.underlying24 ti5 rfl zo5 (by decide) (by decide) (by simpa using hc9852)
      have C9862 : Ctx _ _ _ _ _ [p9856, p9674, p9687, p9403, CH.row g9404 0 q11, CH.row g9304 0 q5, CH.row g275 0 q7, p7502, p7508, p7514, p7520, CH.row g33 0 q2, CH.row g29 0 q1] := C9860
      rw [List.nil_append] at hn9858 hR9861
      refine WL.val (hy9859 _ _ _ _ rfl rfl) ?_
      refine WL.val (Yl.fieldAddr (i := 8) ho9823 Tryz.underlying63 rfl sz24) ?_
      obtain ⟨w9863, hy9864, C9865⟩ := ev_setI (P := Tryz.prog) (ps1 := [p9856, p9674, p9687, p9403]) (ps2 := [CH.row g9304 0 q5, CH.row g275 0 q7, p7502, p7508, p7514, p7520, CH.row g33 0 q2, CH.row g29 0 q1]) (t := 24) 8 [.slice A9853 n9855 c9854] (.slice A9853 n9855 c9854) C9862 rfl rfl (ones_of rfl) sz24
      let q12 : List Go.Value := [.slice A9397 n9399 c9398, .int .i64 ((a0.Jobs.getD x7496.toNat TJob.z).State), .int .i64 ((a0.Jobs.getD x7496.toNat TJob.z).Attempt), .int .i64 ((a0.Jobs.getD x7496.toNat TJob.z).Epoch), .int .i64 ((a0.Jobs.getD x7496.toNat TJob.z).Until), .slice A9668 n9670 c9669, .slice A9681 n9683 c9682, .slice none 0 0, .slice A9853 n9855 c9854]
      have C9866 : Ctx _ _ _ _ _ [p9856, p9674, p9687, p9403, CH.row g9404 0 q12, CH.row g9304 0 q5, CH.row g275 0 q7, p7502, p7508, p7514, p7520, CH.row g33 0 q2, CH.row g29 0 q1] := C9865
      refine WL.skip (hy9864 _ _ _ _ rfl rfl) ?_
      refine WL.done ?_
      refine W.seq ?_
      refine W.seq ?_
      refine W.region rfl ?_
      refine WL.val (Yl.fieldAddr (i := 7) ho9822 Tryz.underlying63 rfl sz61) ?_
      refine WL.val (Yl.loadV (g := g9304) (off := 0) (o := 7) (cs := q5) (v := .slice A9290 n9292 c9291) rfl Tryz.underlying61 rfl (Ctx.subI 5 C9866 rfl) rfl) ?_
      refine WL.val (Yl.lenN (A := A9290) (l := n9292) (q := c9291) (n := (((a0.Jobs.getD x7496.toNat TJob.z).Votes).length : Int)) rfl Tryz.underlying61 (by omega)) ?_
      refine WL.run to 1 rfl ?_
      refine WL.done ?_
      obtain ⟨x10372, hX10404, hX5765⟩ := bindE hX5765
      refine W.cutM (fun env_ w_ => ∃ (F10364 : CH) (A10373 : Option Addr) (c10374 : Nat) (n10375 : Nat) (p10377 : CH) (A10379 : Option Addr) (c10380 : Nat) (n10381 : Nat) (p10383 : CH) (A10385 : Option Addr) (c10386 : Nat) (n10387 : Nat) (p10389 : CH) (A10391 : Option Addr) (c10392 : Nat) (n10393 : Nat) (p10395 : CH) (A10397 : Option Addr) (c10398 : Nat) (n10399 : Nat) (p10401 : CH), env_ 2 = .pointer (some ⟨g33, 0, none⟩) ∧ env_ 3 = .pointer (some ⟨g275, 0, none⟩) ∧ env_ 6 = .pointer (some ⟨g9404, 0, none⟩) ∧ env_ 25 = .slice A8 n10 c9 ∧ env_ 26 = .int .i64 (a0.Jobs.length : Int) ∧ env_ 27 = .int .i64 x7496 ∧ Ctx w F D w_ F10364 [CH.row g9404 0 [.slice A10373 n10375 c10374, .int .i64 x10372.State, .int .i64 x10372.Attempt, .int .i64 x10372.Epoch, .int .i64 x10372.Until, .slice A10379 n10381 c10380, .slice A10385 n10387 c10386, .slice A10391 n10393 c10392, .slice A10397 n10399 c10398], p10377, p10383, p10389, p10395, p10401, CH.row g9304 0 q5, CH.row g275 0 q7, p7502, p7508, p7514, p7520, CH.row g33 0 q2, CH.row g29 0 q1] ∧ CH.le F7489 F10364 ∧ n10375 = x10372.Payload.length ∧ Row (Kd.int .u8) F10364 p10377 (.slice A10373 n10375 c10374) x10372.Payload ∧ n10381 = x10372.Workers.length ∧ Row (Kd.int .i64) F10364 p10383 (.slice A10379 n10381 c10380) x10372.Workers ∧ n10387 = x10372.Indexes.length ∧ Row (Kd.int .i64) F10364 p10389 (.slice A10385 n10387 c10386) x10372.Indexes ∧ n10393 = x10372.Votes.length ∧ Row TCast.K F10364 p10395 (.slice A10391 n10393 c10392) x10372.Votes ∧ n10399 = x10372.Value.length ∧ Row (Kd.int .u8) F10364 p10401 (.slice A10397 n10399 c10398) x10372.Value) ?_ ?_
      ·refine W.block ?_
       have C10751 : Ctx _ _ _ _ _ [CH.row g9404 0 q12, p9403, p9674, p9687, CH.emp, p9856, CH.row g9304 0 q5, CH.row g275 0 q7, p7502, p7508, p7514, p7520, CH.row g33 0 q2, CH.row g29 0 q1] := Ctx.pick [4, 3, 1, 2, 13, 0, 5, 6, 7, 8, 9, 10, 11, 12] C9866 rfl
       refine W.loop (fun g_ env_ w_ => ∃ (x10572 : Int) (x10573 : TJob) (F10561 : CH) (A10574 : Option Addr) (c10575 : Nat) (n10576 : Nat) (p10578 : CH) (A10580 : Option Addr) (c10581 : Nat) (n10582 : Nat) (p10584 : CH) (A10586 : Option Addr) (c10587 : Nat) (n10588 : Nat) (p10590 : CH) (A10592 : Option Addr) (c10593 : Nat) (n10594 : Nat) (p10596 : CH) (A10598 : Option Addr) (c10599 : Nat) (n10600 : Nat) (p10602 : CH), env_ 2 = .pointer (some ⟨g33, 0, none⟩) ∧ env_ 3 = .pointer (some ⟨g275, 0, none⟩) ∧ env_ 6 = .pointer (some ⟨g9404, 0, none⟩) ∧ env_ 25 = .slice A8 n10 c9 ∧ env_ 26 = .int .i64 (a0.Jobs.length : Int) ∧ env_ 27 = .int .i64 x7496 ∧ env_ 60 = .slice A9290 n9292 c9291 ∧ env_ 61 = .int .i64 (((a0.Jobs.getD x7496.toNat TJob.z).Votes).length : Int) ∧ env_ 62 = .int .i64 x10572 ∧ Ctx w F D w_ F10561 [CH.row g9404 0 [.slice A10574 n10576 c10575, .int .i64 x10573.State, .int .i64 x10573.Attempt, .int .i64 x10573.Epoch, .int .i64 x10573.Until, .slice A10580 n10582 c10581, .slice A10586 n10588 c10587, .slice A10592 n10594 c10593, .slice A10598 n10600 c10599], p10578, p10584, p10590, p10596, p10602, CH.row g9304 0 q5, CH.row g275 0 q7, p7502, p7508, p7514, p7520, CH.row g33 0 q2, CH.row g29 0 q1] ∧ CH.le F7489 F10561 ∧ n10576 = x10573.Payload.length ∧ Row (Kd.int .u8) F10561 p10578 (.slice A10574 n10576 c10575) x10573.Payload ∧ n10582 = x10573.Workers.length ∧ Row (Kd.int .i64) F10561 p10584 (.slice A10580 n10582 c10581) x10573.Workers ∧ n10588 = x10573.Indexes.length ∧ Row (Kd.int .i64) F10561 p10590 (.slice A10586 n10588 c10587) x10573.Indexes ∧ n10594 = x10573.Votes.length ∧ Row TCast.K F10561 p10596 (.slice A10592 n10594 c10593) x10573.Votes ∧ n10600 = x10573.Value.length ∧ Row (Kd.int .u8) F10561 p10602 (.slice A10598 n10600 c10599) x10573.Value ∧ docket_clone.l2 g_ a0 x7496 x10572 x10573 = some x10372) k9258 ⟨0, (⟨(a0.Jobs.getD x7496.toNat TJob.z).Payload, (a0.Jobs.getD x7496.toNat TJob.z).State, (a0.Jobs.getD x7496.toNat TJob.z).Attempt, (a0.Jobs.getD x7496.toNat TJob.z).Epoch, (a0.Jobs.getD x7496.toNat TJob.z).Until, (a0.Jobs.getD x7496.toNat TJob.z).Workers, (a0.Jobs.getD x7496.toNat TJob.z).Indexes, ([] : List TCast), (a0.Jobs.getD x7496.toNat TJob.z).Value⟩ : TJob), F7489, A9397, c9398, n9399, p9403, A9668, c9669, n9670, p9674, A9681, c9682, n9683, p9687, none, 0, 0, CH.emp, A9853, c9854, n9855, p9856, ho9820, ho9821, ho9823, ho9824, ho9825, ho9826, rfl, rfl, rfl, C10751, (CH.le_refl _), hn9400, hR9402, hn9671, hR9673, hn9684, hR9686, rfl, (Row.nil _ _), hn9858, hR9861, hX10404⟩ ?_
       clear hX10404
       rintro g_ env_ w_ ⟨x10572, x10573, F10561, A10574, c10575, n10576, p10578, A10580, c10581, n10582, p10584, A10586, c10587, n10588, p10590, A10592, c10593, n10594, p10596, A10598, c10599, n10600, p10602, ho10563, ho10564, ho10565, ho10566, ho10567, ho10568, ho10569, ho10570, ho10571, C10604, le10562, hn10577, hR10579, hn10583, hR10585, hn10589, hR10591, hn10595, hR10597, hn10601, hR10603, hX10404⟩
       rcases g_ with _ | k10750
       · exact absurd hX10404 (by simp [docket_clone.l2])
       rw [docket_clone.l2] at hX10404
       have hR10752 := Row.mono hR7503 le10562
       have hR10753 := Row.mono hR7509 le10562
       have hR10754 := Row.mono hR7515 le10562
       have hR10755 := Row.mono hR7521 le10562
       apply kn env_ (.c ho10563 (.c ho10564 (.c ho10565 (.c ho10566 (.c ho10567 (.c ho10568 (.c ho10569 (.c ho10570 (.c ho10571 .n)))))))))
       refine W.seq ?_
       refine W.region rfl ?_
       refine WL.run to 1 rfl ?_
       refine WL.done ?_
       refine W.seq ?_
       rcases iteE hX10404 with ⟨hc10756, hX10404⟩ | ⟨hc10756, hX10404⟩
       ·refine W.condT (congrArg Value.bool (decide_eq_true hc10756)) ?_
        refine W.skip ?_
        refine W.seq ?_
        refine W.block ?_
        refine W.seq ?_
        refine W.region rfl ?_
        obtain ⟨hc10757, hX10404⟩ := guardE hX10404
        obtain ⟨b10758, of10759, hA10760, he10761⟩ := hS9296 (by omega)
        refine WL.val (Yl.elemAddr (i := x10572) rfl rfl hA10760 Tryz.underlying61 sz96 (by omega)) ?_
        obtain ⟨cs10762, hr10763, hx10764⟩ := he10761 x10572.toNat _ (getD_some (d := TCast.z) (by omega))
        obtain ⟨A10765, c10766, n10767, rfl, hn10768, hl10769, hm10770, hS10771⟩ := TCast.open hr10763
        let q13 : List Go.Value := [.int .i64 ((((a0.Jobs.getD x7496.toNat TJob.z).Votes).getD x10572.toNat TCast.z).Worker), .slice A10765 n10767 c10766]
        refine WL.val (Yl.loadAgg (cs := q13) rfl Tryz.underlying96 rfl sz96 (fun j u hu => by rw [add_of]; exact ((C10604.fro.mono (CH.le_trans le7490 le10562))).cell (hx10764 _ _ hu))) ?_
        obtain ⟨g10772, w10773, hy10774, C10775⟩ := ev_alloc (P := Tryz.prog) (e := 96) [.int .i64 0, .slice none 0 0] C10604 zr96 rfl
        refine WL.val (hy10774 _ _) ?_
        let q14 : List Go.Value := [.slice A10574 n10576 c10575, .int .i64 x10573.State, .int .i64 x10573.Attempt, .int .i64 x10573.Epoch, .int .i64 x10573.Until, .slice A10580 n10582 c10581, .slice A10586 n10588 c10587, .slice A10592 n10594 c10593, .slice A10598 n10600 c10599]
        obtain ⟨w10776, hy10777, C10778⟩ := ev_setI (P := Tryz.prog) (ps1 := []) (ps2 := [CH.row g9404 0 q14, p10578, p10584, p10590, p10596, p10602, CH.row g9304 0 q5, CH.row g275 0 q7, p7502, p7508, p7514, p7520, CH.row g33 0 q2, CH.row g29 0 q1]) (t := 96) 0 q13 (.agg (List.toArray q13)) C10775 rfl rfl (ones_of rfl) sz96
        let v15 : CH := CH.row g10772 0 q13
        have C10779 : Ctx _ _ _ _ _ [v15, CH.row g9404 0 q14, p10578, p10584, p10590, p10596, p10602, CH.row g9304 0 q5, CH.row g275 0 q7, p7502, p7508, p7514, p7520, CH.row g33 0 q2, CH.row g29 0 q1] := C10778
        refine WL.skip (hy10777 _ _ _ _ rfl rfl) ?_
        refine WL.done ?_
        refine W.regionA [([10, 12], CH.row g9404 0 q14), ([9, 10, 12], v15)] (by kernel_rfl) ?_
        have C10840 := Ctx.drewN C10779 1
        refine WA.takes [(0, none), (1, some 0), (2, none), (3, some 1), (5, none), (6, some 1)] ⟨(Ctx.subI 1 C10840 rfl), (Ctx.subI 0 C10840 rfl), trivial⟩ (by kernel_rfl) ?_
        refine WT.run to 1 rfl ?_
        refine WT.val rfl (fun _ hC_ => Yl.loadV (g := g9404) (off := 0) (o := 7) (cs := q14) (v := .slice A10592 n10594 c10593) rfl Tryz.underlying61 rfl (show Sub (CH.row g9404 0 q14) _ from hC_) rfl) ?_
        refine WT.run to 1 rfl ?_
        refine WT.val rfl (fun _ hC_ => Yl.loadV (g := g10772) (off := 0) (o := 0) (cs := q13) (v := .int .i64 ((((a0.Jobs.getD x7496.toNat TJob.z).Votes).getD x10572.toNat TCast.z).Worker)) rfl Tryz.underlying3 rfl (show Sub (v15) _ from hC_) rfl) ?_
        refine WT.run to 1 rfl ?_
        refine WT.val rfl (fun _ hC_ => Yl.loadV (g := g10772) (off := 0) (o := 1) (cs := q13) (v := .slice A10765 n10767 c10766) rfl Tryz.underlying24 rfl (show Sub (v15) _ from hC_) rfl) ?_
        refine WT.done ?_
        obtain ⟨A10841, c10842, n10843, p10844, w10845, hn10846, hy10847, C10848, hR10849⟩ := ev_lit0 (P := Tryz.prog) 5 (Kd.int .u8) C10840 Tryz.underlying24 ti5
        refine WA.up1 4 (by kernel_rfl) (Up.val rfl rfl rfl (hy10847 _ _) ⟨(Ctx.subI 2 C10848 rfl), (Ctx.subI 1 C10848 rfl), trivial⟩ ?_)
        obtain ⟨hc10850, hX10404⟩ := guardE hX10404
        obtain ⟨A10851, c10852, n10853, p10854, w10855, hn10856, hy10857, C10858, hR10859⟩ := ev_append' (P := Tryz.prog) (cb := c10766) 5 (Kd.int .u8) [] [v15, CH.row g9404 0 q14, p10578, p10584, p10590, p10596, p10602, CH.row g9304 0 q5, CH.row g275 0 q7, p7502, p7508, p7514, p7520, CH.row g33 0 q2, CH.row g29 0 q1] C10848 hR10849 hn10768 (Sl.mono hS10771 (CH.le_trans le7490 le10562) (CH.le_trans le7490 le10562)) C10848.fro Tryz.underlying24 ti5 rfl zo5 (by decide) (by decide) (by simpa using hc10850)
        have C10860 : Ctx _ _ _ _ _ [p10854, v15, CH.row g9404 0 q14, p10578, p10584, p10590, p10596, p10602, CH.row g9304 0 q5, CH.row g275 0 q7, p7502, p7508, p7514, p7520, CH.row g33 0 q2, CH.row g29 0 q1] := C10858
        rw [List.nil_append] at hn10856 hR10859
        refine WA.up1 7 (by kernel_rfl) (Up.val rfl rfl rfl (hy10857 _ _ _ _ rfl rfl) ⟨(Ctx.subI 2 C10860 rfl), (Ctx.subI 1 C10860 rfl), trivial⟩ ?_)
        refine WA.takes [(8, none)] ⟨(Ctx.subI 2 C10860 rfl), (Ctx.subI 1 C10860 rfl), trivial⟩ (by kernel_rfl) ?_
        let q16 : List Go.Value := [.int .i64 ((((a0.Jobs.getD x7496.toNat TJob.z).Votes).getD x10572.toNat TCast.z).Worker), .slice A10851 n10853 c10852]
        refine WT.val rfl (fun _ hC_ => Yl.build (places := [(0, 1), (1, 1)]) (cs := List.toArray q16) Tryz.underlying96 zr96 (pl96 _ Tryz.underlying96) (partsB (.cons rfl (.cons rfl .nil))) rfl) ?_
        refine WT.done ?_
        obtain ⟨F10861, le10862, lp10863, (C10864 : Ctx _ _ _ _ _ [v15, CH.row g9404 0 q14, p10578, p10584, p10590, p10596, p10602, CH.row g9304 0 q5, CH.row g275 0 q7, p7502, p7508, p7514, p7520, CH.row g33 0 q2, CH.row g29 0 q1])⟩ := Ctx.fzI 0 C10860 rfl
        obtain ⟨hl10865, hm10866, hS10867⟩ := Row.fz hR10859 le10862 lp10863
        have hR10868 := Row.mono hR10597 le10862
        have hR10869 := Row.mono hR10752 le10862
        have hR10870 := Row.mono hR10753 le10862
        have hR10871 := Row.mono hR10754 le10862
        have hR10872 := Row.mono hR10755 le10862
        have hR10873 := Row.mono hR10579 le10862
        have hR10874 := Row.mono hR10585 le10862
        have hR10875 := Row.mono hR10591 le10862
        have hR10876 := Row.mono hR10603 le10862
        obtain ⟨A10877, c10878, n10879, p10880, w10881, hn10882, hy10883, C10884, hR10885⟩ := ev_lit1' (P := Tryz.prog) 96 TCast.K C10864 Tryz.underlying61 ti96 ⟨by decide, by decide⟩ (⟨(((a0.Jobs.getD x7496.toNat TJob.z).Votes).getD x10572.toNat TCast.z).Worker, (((a0.Jobs.getD x7496.toNat TJob.z).Votes).getD x10572.toNat TCast.z).Value⟩ : TCast) (.agg (List.toArray q16)) (TCast.mk' _ (⟨(((a0.Jobs.getD x7496.toNat TJob.z).Votes).getD x10572.toNat TCast.z).Worker, (((a0.Jobs.getD x7496.toNat TJob.z).Votes).getD x10572.toNat TCast.z).Value⟩ : TCast) A10851 c10852 n10853 hn10856 hl10865 hm10866 hS10867)
        refine WA.up1 9 (by kernel_rfl) (Up.val rfl rfl rfl (hy10883 _ _ _ rfl) ⟨(Ctx.subI 2 C10884 rfl), trivial, trivial⟩ ?_)
        obtain ⟨hc10886, hX10404⟩ := guardE hX10404
        obtain ⟨A10887, c10888, n10889, p10890, w10891, hn10892, hy10893, C10894, hR10895⟩ := ev_append' (P := Tryz.prog) (cb := c10878) 96 TCast.K [p10880, v15, CH.row g9404 0 q14, p10578, p10584, p10590] [p10602, CH.row g9304 0 q5, CH.row g275 0 q7, p7502, p7508, p7514, p7520, CH.row g33 0 q2, CH.row g29 0 q1] C10884 hR10868 hn10882 (Row.sl hR10885) (Ctx.subI 0 C10884 rfl) Tryz.underlying61 ti96 rfl zo96 (by decide) (by decide) (by simpa using hc10886)
        have C10896 : Ctx _ _ _ _ _ [p10880, v15, CH.row g9404 0 q14, p10578, p10584, p10590, p10890, p10602, CH.row g9304 0 q5, CH.row g275 0 q7, p7502, p7508, p7514, p7520, CH.row g33 0 q2, CH.row g29 0 q1] := C10894
        refine WA.up1 10 (by kernel_rfl) (Up.val rfl rfl rfl (hy10893 _ _ _ _ rfl rfl) ⟨trivial, trivial, trivial⟩ ?_)
        refine WA.takes [(11, none)] ⟨(Ctx.subI 2 C10896 rfl), (Ctx.subI 1 C10896 rfl), trivial⟩ (by kernel_rfl) ?_
        refine WT.run to 1 rfl ?_
        refine WT.done ?_
        obtain ⟨w10897, hy10898, C10899⟩ := ev_setI (P := Tryz.prog) (ps1 := [p10880, v15]) (ps2 := [p10578, p10584, p10590, p10890, p10602, CH.row g9304 0 q5, CH.row g275 0 q7, p7502, p7508, p7514, p7520, CH.row g33 0 q2, CH.row g29 0 q1]) (t := 61) 7 [.slice A10887 n10889 c10888] (.slice A10887 n10889 c10888) C10896 rfl rfl (ones_of rfl) sz61
        let q17 : List Go.Value := [.slice A10574 n10576 c10575, .int .i64 x10573.State, .int .i64 x10573.Attempt, .int .i64 x10573.Epoch, .int .i64 x10573.Until, .slice A10580 n10582 c10581, .slice A10586 n10588 c10587, .slice A10887 n10889 c10888, .slice A10598 n10600 c10599]
        have C10900 : Ctx _ _ _ _ _ [p10880, v15, CH.row g9404 0 q17, p10578, p10584, p10590, p10890, p10602, CH.row g9304 0 q5, CH.row g275 0 q7, p7502, p7508, p7514, p7520, CH.row g33 0 q2, CH.row g29 0 q1] := C10899
        refine WA.up1 12 (by kernel_rfl) (Up.skip rfl rfl (hy10898 _ _ _ _ rfl rfl) ⟨trivial, trivial, trivial⟩ ?_)
        refine WA.done (by kernel_rfl) ?_
        refine inB_n ?_
        refine W.region rfl ?_
        refine WL.run to 2 rfl ?_
        refine WL.done ?_
        have C10901 : Ctx _ _ _ _ _ [CH.row g9404 0 q17, p10578, p10584, p10590, p10890, p10602, CH.row g9304 0 q5, CH.row g275 0 q7, p7502, p7508, p7514, p7520, CH.row g33 0 q2, CH.row g29 0 q1] := Ctx.pick [2, 3, 4, 5, 6, 7, 8, 9, 10, 11, 12, 13, 14, 15] C10900 rfl
        exact thenE_n ⟨k10750, Nat.lt_succ_self _, wi64 (x10572 + 1), (⟨x10573.Payload, x10573.State, x10573.Attempt, x10573.Epoch, x10573.Until, x10573.Workers, x10573.Indexes, x10573.Votes ++ [(⟨(((a0.Jobs.getD x7496.toNat TJob.z).Votes).getD x10572.toNat TCast.z).Worker, (((a0.Jobs.getD x7496.toNat TJob.z).Votes).getD x10572.toNat TCast.z).Value⟩ : TCast)], x10573.Value⟩ : TJob), F10861, A10574, c10575, n10576, p10578, A10580, c10581, n10582, p10584, A10586, c10587, n10588, p10590, A10887, c10888, n10889, p10890, A10598, c10599, n10600, p10602, rfl, rfl, rfl, rfl, rfl, rfl, rfl, rfl, rfl, C10901, (CH.le_trans le10562 le10862), hn10577, hR10873, hn10583, hR10874, hn10589, hR10875, hn10892, hR10895, hn10601, hR10876, hX10404⟩
       ·refine W.condF (congrArg Value.bool (decide_eq_false hc10756)) ?_
        refine W.exit ?_
        refine thenE_x ?_
        refine thenE_x ?_
        refine inB_here ?_
        cases hX10404
        refine thenE_n ?_
        exact ⟨F10561, A10574, c10575, n10576, p10578, A10580, c10581, n10582, p10584, A10586, c10587, n10588, p10590, A10592, c10593, n10594, p10596, A10598, c10599, n10600, p10602, rfl, rfl, rfl, rfl, rfl, rfl, C10604, le10562, hn10577, hR10579, hn10583, hR10585, hn10589, hR10591, hn10595, hR10597, hn10601, hR10603⟩
      ·rintro env_ w_ ⟨F10364, A10373, c10374, n10375, p10377, A10379, c10380, n10381, p10383, A10385, c10386, n10387, p10389, A10391, c10392, n10393, p10395, A10397, c10398, n10399, p10401, ho10366, ho10367, ho10368, ho10369, ho10370, ho10371, C10403, le10365, hn10376, hR10378, hn10382, hR10384, hn10388, hR10390, hn10394, hR10396, hn10400, hR10402⟩
       have hR10902 := Row.mono hR7503 le10365
       have hR10903 := Row.mono hR7509 le10365
       have hR10904 := Row.mono hR7515 le10365
       have hR10905 := Row.mono hR7521 le10365
       apply kn env_ (.c ho10366 (.c ho10367 (.c ho10368 (.c ho10369 (.c ho10370 (.c ho10371 .n))))))
       refine W.region rfl ?_
       refine WL.run to 1 rfl ?_
       refine WL.val (Yl.loadV (g := g275) (off := 0) (o := 1) (cs := q7) (v := .slice A7504 n7506 c7505) rfl Tryz.underlying46 rfl (Ctx.subI 7 C10403 rfl) rfl) ?_
       let q18 : List Go.Value := [.slice A10373 n10375 c10374, .int .i64 x10372.State, .int .i64 x10372.Attempt, .int .i64 x10372.Epoch, .int .i64 x10372.Until, .slice A10379 n10381 c10380, .slice A10385 n10387 c10386, .slice A10391 n10393 c10392, .slice A10397 n10399 c10398]
       refine WL.val (Yl.loadVA (g := g9404) (off := 0) (o := 0) (cs := q18) (us := q18) rfl Tryz.underlying63 rfl sz63 (Ctx.subI 0 C10403 rfl) rfl) ?_
       obtain ⟨F10906, le10907, lp10908, (C10909 : Ctx _ _ _ _ _ [CH.row g9404 0 q18, p10383, p10389, p10395, p10401, CH.row g9304 0 q5, CH.row g275 0 q7, p7502, p7508, p7514, p7520, CH.row g33 0 q2, CH.row g29 0 q1])⟩ := Ctx.fzI 1 C10403 rfl
       obtain ⟨hl10910, hm10911, hS10912⟩ := Row.fz hR10378 le10907 lp10908
       have hR10913 := Row.mono hR10903 le10907
       have hR10914 := Row.mono hR10384 le10907
       have hR10915 := Row.mono hR10390 le10907
       have hR10916 := Row.mono hR10396 le10907
       have hR10917 := Row.mono hR10402 le10907
       have hR10918 := Row.mono hR10902 le10907
       have hR10919 := Row.mono hR10904 le10907
       have hR10920 := Row.mono hR10905 le10907
       obtain ⟨F10921, le10922, lp10923, (C10924 : Ctx _ _ _ _ _ [CH.row g9404 0 q18, p10389, p10395, p10401, CH.row g9304 0 q5, CH.row g275 0 q7, p7502, p7508, p7514, p7520, CH.row g33 0 q2, CH.row g29 0 q1])⟩ := Ctx.fzI 1 C10909 rfl
       obtain ⟨hl10925, hm10926, hS10927⟩ := Row.fz hR10914 le10922 lp10923
       have hR10928 := Row.mono hR10913 le10922
       have hR10929 := Row.mono hR10915 le10922
       have hR10930 := Row.mono hR10916 le10922
       have hR10931 := Row.mono hR10917 le10922
       have hR10932 := Row.mono hR10918 le10922
       have hR10933 := Row.mono hR10919 le10922
       have hR10934 := Row.mono hR10920 le10922
       obtain ⟨F10935, le10936, lp10937, (C10938 : Ctx _ _ _ _ _ [CH.row g9404 0 q18, p10395, p10401, CH.row g9304 0 q5, CH.row g275 0 q7, p7502, p7508, p7514, p7520, CH.row g33 0 q2, CH.row g29 0 q1])⟩ := Ctx.fzI 1 C10924 rfl
       obtain ⟨hl10939, hm10940, hS10941⟩ := Row.fz hR10929 le10936 lp10937
       have hR10942 := Row.mono hR10928 le10936
       have hR10943 := Row.mono hR10930 le10936
       have hR10944 := Row.mono hR10931 le10936
       have hR10945 := Row.mono hR10932 le10936
       have hR10946 := Row.mono hR10933 le10936
       have hR10947 := Row.mono hR10934 le10936
       obtain ⟨F10948, le10949, lp10950, (C10951 : Ctx _ _ _ _ _ [CH.row g9404 0 q18, p10401, CH.row g9304 0 q5, CH.row g275 0 q7, p7502, p7508, p7514, p7520, CH.row g33 0 q2, CH.row g29 0 q1])⟩ := Ctx.fzI 1 C10938 rfl
       obtain ⟨hl10952, hm10953, hS10954⟩ := Row.fz hR10943 le10949 lp10950
       have hR10955 := Row.mono hR10942 le10949
       have hR10956 := Row.mono hR10944 le10949
       have hR10957 := Row.mono hR10945 le10949
       have hR10958 := Row.mono hR10946 le10949
       have hR10959 := Row.mono hR10947 le10949
       obtain ⟨F10960, le10961, lp10962, (C10963 : Ctx _ _ _ _ _ [CH.row g9404 0 q18, CH.row g9304 0 q5, CH.row g275 0 q7, p7502, p7508, p7514, p7520, CH.row g33 0 q2, CH.row g29 0 q1])⟩ := Ctx.fzI 1 C10951 rfl
       obtain ⟨hl10964, hm10965, hS10966⟩ := Row.fz hR10956 le10961 lp10962
       have hR10967 := Row.mono hR10955 le10961
       have hR10968 := Row.mono hR10957 le10961
       have hR10969 := Row.mono hR10958 le10961
       have hR10970 := Row.mono hR10959 le10961
       obtain ⟨A10971, c10972, n10973, p10974, w10975, hn10976, hy10977, C10978, hR10979⟩ := ev_lit1' (P := Tryz.prog) 63 TJob.K C10963 Tryz.underlying46 ti63 ⟨by decide, by decide⟩ x10372 (.agg (List.toArray q18)) (TJob.mk' _ x10372 A10373 c10374 n10375 A10379 c10380 n10381 A10385 c10386 n10387 A10391 c10392 n10393 A10397 c10398 n10399 hn10376 hl10910 hm10911 (Sl.mono hS10912 (CH.le_trans le10922 (CH.le_trans le10936 (CH.le_trans le10949 le10961))) (CH.le_trans le10922 (CH.le_trans le10936 (CH.le_trans le10949 le10961)))) hn10382 hl10925 hm10926 (Sl.mono hS10927 (CH.le_trans le10936 (CH.le_trans le10949 le10961)) (CH.le_trans le10936 (CH.le_trans le10949 le10961))) hn10388 hl10939 hm10940 (Sl.mono hS10941 (CH.le_trans le10949 le10961) (CH.le_trans le10949 le10961)) hn10394 hl10952 hm10953 (Sl.mono hS10954 le10961 le10961) hn10400 hl10964 hm10965 hS10966)
       refine WL.val (hy10977 _ _ _ rfl) ?_
       obtain ⟨hc10980, hX5765⟩ := guardE hX5765
       obtain ⟨A10981, c10982, n10983, p10984, w10985, hn10986, hy10987, C10988, hR10989⟩ := ev_append' (P := Tryz.prog) (cb := c10972) 63 TJob.K [p10974, CH.row g9404 0 q18, CH.row g9304 0 q5, CH.row g275 0 q7, p7502] [p7514, p7520, CH.row g33 0 q2, CH.row g29 0 q1] C10978 hR10967 hn10976 (Row.sl hR10979) (Ctx.subI 0 C10978 rfl) Tryz.underlying46 ti63 rfl zo63 (by decide) (by decide) (by simpa using hc10980)
       have C10990 : Ctx _ _ _ _ _ [p10974, CH.row g9404 0 q18, CH.row g9304 0 q5, CH.row g275 0 q7, p7502, p10984, p7514, p7520, CH.row g33 0 q2, CH.row g29 0 q1] := C10988
       refine WL.val (hy10987 _ _ _ _ rfl rfl) ?_
       refine WL.run to 1 rfl ?_
       obtain ⟨w10991, hy10992, C10993⟩ := ev_setI (P := Tryz.prog) (ps1 := [p10974, CH.row g9404 0 q18, CH.row g9304 0 q5]) (ps2 := [p7502, p10984, p7514, p7520, CH.row g33 0 q2, CH.row g29 0 q1]) (t := 46) 1 [.slice A10981 n10983 c10982] (.slice A10981 n10983 c10982) C10990 rfl rfl (ones_of rfl) sz46
       let q19 : List Go.Value := [.slice A7498 n7500 c7499, .slice A10981 n10983 c10982, .slice A7510 n7512 c7511, .slice A7516 n7518 c7517, .int .i64 x7497.Heads]
       have C10994 : Ctx _ _ _ _ _ [p10974, CH.row g9404 0 q18, CH.row g9304 0 q5, CH.row g275 0 q19, p7502, p10984, p7514, p7520, CH.row g33 0 q2, CH.row g29 0 q1] := C10993
       refine WL.skip (hy10992 _ _ _ _ rfl rfl) ?_
       refine WL.done ?_
       refine inB_n ?_
       refine W.region rfl ?_
       refine WL.run to 2 rfl ?_
       refine WL.done ?_
       have C10995 : Ctx _ _ _ _ _ [CH.row g275 0 q19, p7502, p10984, p7514, p7520, CH.row g33 0 q2, CH.row g29 0 q1] := Ctx.pick [3, 4, 5, 6, 7, 8, 9] C10994 rfl
       exact thenE_n ⟨k9258, Nat.lt_succ_self _, wi64 (x7496 + 1), (⟨x7497.Eras, x7497.Jobs ++ [x10372], x7497.Used, x7497.Barred, x7497.Heads⟩ : TState), F10960, A7498, c7499, n7500, p7502, A10981, c10982, n10983, p10984, A7510, c7511, n7512, p7514, A7516, c7517, n7518, p7520, rfl, rfl, rfl, rfl, rfl, C10995, (CH.le_trans le7490 (CH.le_trans le10365 (CH.le_trans le10907 (CH.le_trans le10922 (CH.le_trans le10936 (CH.le_trans le10949 le10961)))))), hn7501, hR10968, hn10986, hR10989, hn7513, hR10969, hn7519, hR10970, hX5765⟩
   ·refine W.condF (congrArg Value.bool (decide_eq_false hc9260)) ?_
    refine W.exit ?_
    refine thenE_x ?_
    refine thenE_x ?_
    refine inB_here ?_
    cases hX5765
    refine thenE_n ?_
    exact ⟨F7489, A7498, c7499, n7500, p7502, A7504, c7505, n7506, p7508, A7510, c7511, n7512, p7514, A7516, c7517, n7518, p7520, rfl, rfl, C7522, le7490, hn7501, hR7503, hn7507, hR7509, hn7513, hR7515, hn7519, hR7521⟩
  ·rintro env_ w_ ⟨F5735, A5740, c5741, n5742, p5744, A5746, c5747, n5748, p5750, A5752, c5753, n5754, p5756, A5758, c5759, n5760, p5762, ho5737, ho5738, C5764, le5736, hn5743, hR5745, hn5749, hR5751, hn5755, hR5757, hn5761, hR5763⟩
   apply kn env_ (.c ho5737 (.c ho5738 .n))
   refine W.seq ?_
   refine W.region rfl ?_
   let q20 : List Go.Value := [.slice A5740 n5742 c5741, .slice A5746 n5748 c5747, .slice A5752 n5754 c5753, .slice A5758 n5760 c5759, .int .i64 x5739.Heads]
   refine WL.val (Yl.loadVA (g := g275) (off := 0) (o := 0) (cs := q20) (us := q20) rfl Tryz.underlying50 rfl sz50 (Ctx.subI 0 C5764 rfl) rfl) ?_
   obtain ⟨w10996, hy10997, C10998⟩ := ev_setI (P := Tryz.prog) (ps1 := [CH.row g275 0 q20, p5744, p5750, p5756, p5762]) (ps2 := [CH.row g29 0 q1]) (t := 50) 0 q20 (.agg (List.toArray q20)) C5764 rfl rfl (ones_of rfl) sz50
   have C10999 : Ctx _ _ _ _ _ [CH.row g275 0 q20, p5744, p5750, p5756, p5762, CH.row g33 0 q20, CH.row g29 0 q1] := C10998
   refine WL.skip (hy10997 _ _ _ _ rfl rfl) ?_
   refine WL.done ?_
   refine W.ret ?_
   have C11000 : Ctx _ _ _ _ _ [p5744, p5750, p5756, p5762] := Ctx.pick [1, 2, 3, 4] C10999 rfl
   have e11001 := Option.some.inj H
   subst e11001
   exact post_r (resEC rfl ((.cell rfl (run_loadVA2 (g := g33) (off := 0) (o := 0) (cs := q20) (us := q20) Tryz.underlying50 rfl sz50 (Ctx.subI 5 C10999 rfl) rfl) .nil))) ⟨F5735, A5740, c5741, n5742, p5744, A5746, c5747, n5748, p5750, A5752, c5753, n5754, p5756, A5758, c5759, n5760, p5762, rfl, le5736, C11000, hn5743, hR5745, hn5749, hR5751, hn5755, hR5757, hn5761, hR5763⟩
def docket_again.f (k : Nat) (a0 : (List TJob × Int)) : Option (List TJob) := (some (a0.1.set a0.2.toNat (⟨(a0.1.getD a0.2.toNat TJob.z).Payload, 1, (a0.1.getD a0.2.toNat TJob.z).Attempt, 0, 0, ([] : List Int), ([] : List Int), ([] : List TCast), ([] : List Int)⟩ : TJob))).bind fun xs145 => some xs145
set_option maxRecDepth 100000 in
set_option maxHeartbeats 4000000 in
theorem docket_again.calls (k : Nat) (w : World) (F : CH) (A1 : Option Addr) (c2 : Nat) (n3 : Nat) (p5 : CH) (a0 : (List TJob × Int)) (hp : Pre w F [p5]) (hn4 : n3 = a0.1.length) (hR6 : Row TJob.K F p5 (.slice A1 n3 c2) a0.1) (hb7 : 0 ≤ a0.2 ∧ a0.2 < (a0.1.length : Int)) (r0_ : List TJob) (H : docket_again.f k a0 = some r0_) :
    Calls Tryz.prog 77 #[elp A1 n3 9 a0.2] w fun e w' => ∃ (F' : CH) (p149 : CH), e = .returned (.tuple #[]) ∧ CH.le F F' ∧ Ctx w F (domL [p5]) w' F' [p149] ∧ n3 = r0_.length ∧ Row TJob.K F' p149 (.slice A1 n3 c2) r0_ := by
 have C := Ctx.start hp
 generalize hD : domL [p5] = D at C ⊢
 unfold docket_again.f at H
 refine Calls.ofW Tryz.func77 rfl (by simp [Tryz.ntmps77]) ?_
 obtain ⟨b8, of9, hA10, he11⟩ := (Row.sl hR6) (by omega)
 have e12 : elp A1 n3 9 a0.2 = .pointer (some ⟨b8, of9 + a0.2.toNat * 9, none⟩) := elp_eq hA10 hb7 hn4
 refine W.regionA [([11], p5)] (by kernel_rfl) ?_
 have C61 := Ctx.drewN C 1
 refine WA.takes [(0, none), (1, none), (2, none), (3, none), (4, some 0), (5, none), (6, none), (7, none), (8, some 0), (9, none), (10, none)] ⟨(Ctx.subI 0 C61 rfl), trivial⟩ (by kernel_rfl) ?_
 refine WT.val rfl (fun _ hC_ => Yl.move (v := .pointer (some ⟨b8, of9 + a0.2.toNat * 9, none⟩)) (by exact e12)) ?_
 refine WT.val rfl (fun _ hC_ => Yl.move (v := .pointer (some ⟨b8, of9 + a0.2.toNat * 9, none⟩)) (by exact e12)) ?_
 refine WT.run to 2 rfl ?_
 obtain ⟨cs100, hr101, hx102⟩ := he11 a0.2.toNat _ (getD_some (d := TJob.z) (by omega))
 obtain ⟨A103, c104, n105, A110, c111, n112, A117, c118, n119, A124, c125, n126, A131, c132, n133, rfl, hn106, hl107, hm108, hS109, hn113, hl114, hm115, hS116, hn120, hl121, hm122, hS123, hn127, hl128, hm129, hS130, hn134, hl135, hm136, hS137⟩ := TJob.open hr101
 refine WT.val rfl (fun _ hC_ => Yl.load (v := .slice A103 n105 c104) rfl Tryz.underlying24 rfl (((show Sub p5 _ from hC_)).cell (hx102 0 _ rfl))) ?_
 refine WT.val rfl (fun _ hC_ => Yl.move (v := .pointer (some ⟨b8, of9 + a0.2.toNat * 9, none⟩)) (by exact e12)) ?_
 refine WT.run to 2 rfl ?_
 refine WT.val rfl (fun _ hC_ => Yl.load (v := .int .i64 ((a0.1.getD a0.2.toNat TJob.z).Attempt)) rfl Tryz.underlying3 rfl (((show Sub p5 _ from hC_)).cell (hx102 2 _ rfl))) ?_
 let q1 : List Go.Value := [.slice A103 n105 c104, .int .i64 1, .int .i64 ((a0.1.getD a0.2.toNat TJob.z).Attempt), .int .i64 0, .int .i64 0, .slice none 0 0, .slice none 0 0, .slice none 0 0, .slice none 0 0]
 refine WT.val rfl (fun _ hC_ => Yl.build (places := [(0, 1), (1, 1), (2, 1), (3, 1), (4, 1), (5, 1), (6, 1), (7, 1), (8, 1)]) (cs := List.toArray q1) Tryz.underlying63 zr63 (pl63 _ Tryz.underlying63) (partsB (.cons rfl (.cons rfl (.cons rfl .nil)))) rfl) ?_
 refine WT.run to 1 rfl ?_
 refine WT.done ?_
 have hj143 : a0.2.toNat < a0.1.length := by first | omega | (simp only [List.length_set, List.length_replicate] at *; omega)
 obtain ⟨p138, w139, hy140, C141, hR142⟩ := ev_store (P := Tryz.prog) (t := 63) TJob.K [] [] C61 hR6 hA10 a0.2.toNat 0 hj143 TJob.z (.agg (List.toArray q1)) (q1) rfl (ones_of rfl) (Nat.le_of_ble_eq_true rfl) sz63 ((⟨(a0.1.getD a0.2.toNat TJob.z).Payload, 1, (a0.1.getD a0.2.toNat TJob.z).Attempt, 0, 0, ([] : List Int), ([] : List Int), ([] : List TCast), ([] : List Int)⟩ : TJob)) (fun _ h_ => rep_whole h_ (TJob.mk' _ (⟨(a0.1.getD a0.2.toNat TJob.z).Payload, 1, (a0.1.getD a0.2.toNat TJob.z).Attempt, 0, 0, ([] : List Int), ([] : List Int), ([] : List TCast), ([] : List Int)⟩ : TJob) A103 c104 n105 none 0 0 none 0 0 none 0 0 none 0 0 hn106 hl107 hm108 hS109 rfl (Nat.le_refl _) (Nat.zero_le _) (Sl.nil _ _ _ _) rfl (Nat.le_refl _) (Nat.zero_le _) (Sl.nil _ _ _ _) rfl (Nat.le_refl _) (Nat.zero_le _) (Sl.nil _ _ _ _) rfl (Nat.le_refl _) (Nat.zero_le _) (Sl.nil _ _ _ _))) ⟨b8, of9 + a0.2.toNat * 9, none⟩ rfl
 have hn144 : n3 = (a0.1.set a0.2.toNat (⟨(a0.1.getD a0.2.toNat TJob.z).Payload, 1, (a0.1.getD a0.2.toNat TJob.z).Attempt, 0, 0, ([] : List Int), ([] : List Int), ([] : List TCast), ([] : List Int)⟩ : TJob)).length := by rw [List.length_set]; omega
 obtain ⟨xs145, hx146, H⟩ := bindE H
 replace hx146 := Option.some.inj hx146
 rw [hx146] at hR142 hn144
 have C147 : Ctx _ _ _ _ _ [p138] := C141
 refine WA.up1 11 (by kernel_rfl) (Up.skip rfl rfl (hy140 _ _ _ _ rfl rfl) ⟨trivial, trivial⟩ ?_)
 refine WA.done (by kernel_rfl) ?_
 have e148 := Option.some.inj H
 subst e148
 exact post_n (resE0 rfl ) ⟨F, p138, rfl, (CH.le_refl _), C147, hn144, hR142⟩
def docket_work_job.f (k : Nat) (a0 : Twork) (a1 : TRecord) : Option (Int × Int) := (docket_between.f k a1.Job 1 (a0.State.Jobs.length : Int)).bind fun r45 => if r45 = true then (if 0 ≤ (wi64 (a1.Job - 1)) ∧ (wi64 (a1.Job - 1)) < (a0.State.Jobs.length : Int) then (some (wi64 (a1.Job - 1), 0)) else none) else (some ((-1), 211))
set_option maxRecDepth 100000 in
set_option maxHeartbeats 4000000 in
theorem docket_work_job.calls (k : Nat) (w : World) (F : CH) (g1 : Nat) (o2 : Nat) (A3 : Option Addr) (c4 : Nat) (n5 : Nat) (A10 : Option Addr) (c11 : Nat) (n12 : Nat) (A17 : Option Addr) (c18 : Nat) (n19 : Nat) (A24 : Option Addr) (c25 : Nat) (n26 : Nat) (a0 : Twork) (A33 : Option Addr) (c34 : Nat) (n35 : Nat) (a1 : TRecord) (hp : Pre w F []) (hn6 : n5 = a0.State.Eras.length) (hl7 : a0.State.Eras.length ≤ c4) (hm8 : c4 ≤ maxLen) (hS9 : Sl TEra.K F F A3 a0.State.Eras) (hn13 : n12 = a0.State.Jobs.length) (hl14 : a0.State.Jobs.length ≤ c11) (hm15 : c11 ≤ maxLen) (hS16 : Sl TJob.K F F A10 a0.State.Jobs) (hn20 : n19 = a0.State.Used.length) (hl21 : a0.State.Used.length ≤ c18) (hm22 : c18 ≤ maxLen) (hS23 : Sl (Kd.int .i64) F F A17 a0.State.Used) (hn27 : n26 = a0.State.Barred.length) (hl28 : a0.State.Barred.length ≤ c25) (hm29 : c25 ≤ maxLen) (hS30 : Sl Kd.bool F F A24 a0.State.Barred) (hg31 : CH.le (CH.row g1 o2 [.int .i64 a0.c.Faulty, .int .i64 a0.c.Workers, .int .i64 a0.c.Height, .int .i64 a0.c.Bits, .int .i64 a0.c.Jobs, .int .i64 a0.c.Term, .int .i64 a0.c.Heads, .slice A3 n5 c4, .slice A10 n12 c11, .slice A17 n19 c18, .slice A24 n26 c25, .int .i64 a0.State.Heads]) F) (ha32 : a1.Nonce.length = 32) (hn36 : n35 = a1.Data.length) (hl37 : a1.Data.length ≤ c34) (hm38 : c34 ≤ maxLen) (hS39 : Sl (Kd.int .u8) F F A33 a1.Data) (r0_ : Int) (r1_ : Int) (H : docket_work_job.f k a0 a1 = some (r0_, r1_)) :
    Calls Tryz.prog 79 #[.pointer (some ⟨g1, o2, none⟩), .agg (List.toArray ([.int .i64 a1.Kind, .int .i64 a1.Epoch] ++ (a1.Nonce.map (Value.int .u8) ++ [.slice A33 n35 c34, .int .i64 a1.Job, .int .i64 a1.Time, .int .i64 a1.By])))] w fun e w' => e = .returned (.tuple #[(elp A10 n12 9 r0_), (.int .i64 r1_)]) ∧ Ctx w F (domL []) w' F [] := by
 have C := Ctx.start hp
 generalize hD : domL [] = D at C ⊢
 unfold docket_work_job.f at H
 refine Calls.ofW Tryz.func79 rfl (by simp [Tryz.ntmps79]) ?_
 refine W.seq ?_
 refine W.region rfl ?_
 let q1 : List Go.Value := [.int .i64 a1.Kind, .int .i64 a1.Epoch] ++ (a1.Nonce.map (Value.int .u8) ++ [.slice A33 n35 c34, .int .i64 a1.Job, .int .i64 a1.Time, .int .i64 a1.By])
 obtain ⟨g40, w41, hy42, C43⟩ := ev_box (P := Tryz.prog) 26 (.agg (List.toArray q1)) q1 C rfl
 refine WL.val (hy42 _ _ _ rfl) ?_
 refine WL.run to 2 rfl ?_
 refine WL.done ?_
 refine W.seq ?_
 refine W.seq ?_
 refine W.region_quiet (by kernel_rfl) (by kernel_rfl) rfl ?_
 refine WQ.run to 1 rfl ?_
 refine WQ.vl (fun _ => Yl.loadV (g := g40) (off := 0) (o := 35) (cs := q1) (v := .int .i64 a1.Job) rfl Tryz.underlying3 rfl (Ctx.subI 0 (C43.drewN _) rfl) (at_skip 2 33 rfl (at_skip 32 1 (len_map ha32) rfl))) ?_
 refine WQ.run to 4 rfl ?_
 let q2 : List Go.Value := [.int .i64 a0.c.Faulty, .int .i64 a0.c.Workers, .int .i64 a0.c.Height, .int .i64 a0.c.Bits, .int .i64 a0.c.Jobs, .int .i64 a0.c.Term, .int .i64 a0.c.Heads, .slice A3 n5 c4, .slice A10 n12 c11, .slice A17 n19 c18, .slice A24 n26 c25, .int .i64 a0.State.Heads]
 refine WQ.vl (fun _ => Yl.loadV (g := g1) (off := o2) (o := 8) (cs := q2) (v := .slice A10 n12 c11) rfl Tryz.underlying46 rfl (Sub.mono ((C43.drewN _).fro) hg31) rfl) ?_
 refine WQ.vl (fun _ => Yl.lenN (A := A10) (l := n12) (q := c11) (n := (a0.State.Jobs.length : Int)) rfl Tryz.underlying46 (by omega)) ?_
 obtain ⟨r45, hg44, H⟩ := bindE H
 refine WQ.call (v := .bool r45) (f := 50) (args := #[.int .i64 a1.Job, .int .i64 1, .int .i64 (a0.State.Jobs.length : Int)]) (fun _ hw => by obtain ⟨_, rfl⟩ := hw; exact (Yenter.fn Tryz.func50 (by kernel_rfl) rfl (argsE (.cons rfl (.cons rfl (.cons rfl .nil)))))) (fun _ hw => by obtain ⟨n_, rfl⟩ := hw; exact (docket_between.calls k _ F a1.Job 1 (a0.State.Jobs.length : Int) (C43.drewN n_).pre0  r45 hg44).mono (fun _ _ ⟨he, m_, hm_⟩ => ⟨he, n_ + m_, by rw [hm_, World.drewN_drewN]⟩)) ?_
 refine WQ.run to 1 rfl ?_
 refine WQ.done (fun nq46 => ?_)
 have C47 := Ctx.drewN C43 nq46
 rcases iteE H with ⟨hc48, H⟩ | ⟨hc48, H⟩
 ·refine W.condF (congrArg Value.bool (nb_t hc48)) ?_
  refine W.skip ?_
  refine W.seq ?_
  refine W.region_quiet (by kernel_rfl) (by kernel_rfl) rfl ?_
  refine WQ.run to 4 rfl ?_
  refine WQ.vl (fun _ => Yl.loadV (g := g1) (off := o2) (o := 8) (cs := q2) (v := .slice A10 n12 c11) rfl Tryz.underlying46 rfl (Sub.mono ((C47.drewN _).fro) hg31) rfl) ?_
  refine WQ.run to 1 rfl ?_
  refine WQ.vl (fun _ => Yl.loadV (g := g40) (off := 0) (o := 35) (cs := q1) (v := .int .i64 a1.Job) rfl Tryz.underlying3 rfl (Ctx.subI 0 (C47.drewN _) rfl) (at_skip 2 33 rfl (at_skip 32 1 (len_map ha32) rfl))) ?_
  refine WQ.run to 1 rfl ?_
  obtain ⟨hc49, H⟩ := guardE H
  obtain ⟨b50, of51, hA52, he53⟩ := hS16 (by omega)
  refine WQ.vl (fun _ => Yl.elemAddr (i := wi64 (a1.Job - 1)) rfl rfl hA52 Tryz.underlying46 sz63 (by omega)) ?_
  refine WQ.run to 2 rfl ?_
  refine WQ.done (fun nq54 => ?_)
  have C55 := Ctx.drewN C47 nq54
  refine W.ret ?_
  have C56 : Ctx _ _ _ _ _ [] := Ctx.pick [] C55 rfl
  simp only [Option.some.injEq, Prod.mk.injEq] at H
  obtain ⟨e57, e58⟩ := H
  subst e57 e58
  exact post_r (resE2 (t := 4) (u := 5) rfl ((show _ = Value.pointer (some ⟨b50, of51 + (wi64 (a1.Job - 1)).toNat * 9, none⟩) from rfl).trans (elp_eq (z := 9) hA52 hc49 hn13).symm) rfl) ⟨rfl, C56⟩
 ·refine W.condT (congrArg Value.bool (nb_f hc48)) ?_
  refine W.seq ?_
  refine W.region rfl ?_
  refine WL.run to 2 rfl ?_
  refine WL.done ?_
  refine W.ret ?_
  refine thenE_r ?_
  have C59 : Ctx _ _ _ _ _ [] := Ctx.pick [] C47 rfl
  simp only [Option.some.injEq, Prod.mk.injEq] at H
  obtain ⟨e60, e61⟩ := H
  subst e60 e61
  exact post_r (resE2 (t := 4) (u := 5) rfl ((show _ = Value.pointer none from rfl).trans elp_nil.symm) rfl) ⟨rfl, C59⟩
def docket_work_era.f (k : Nat) (a0 : Twork) : Option Int := if (a0.State.Eras.length : Int) = 0 then (some 210) else (some 0)
set_option maxRecDepth 100000 in
set_option maxHeartbeats 4000000 in
theorem docket_work_era.calls (k : Nat) (w : World) (F : CH) (g1 : Nat) (o2 : Nat) (A3 : Option Addr) (c4 : Nat) (n5 : Nat) (A10 : Option Addr) (c11 : Nat) (n12 : Nat) (A17 : Option Addr) (c18 : Nat) (n19 : Nat) (A24 : Option Addr) (c25 : Nat) (n26 : Nat) (a0 : Twork) (hp : Pre w F []) (hn6 : n5 = a0.State.Eras.length) (hl7 : a0.State.Eras.length ≤ c4) (hm8 : c4 ≤ maxLen) (hS9 : Sl TEra.K F F A3 a0.State.Eras) (hn13 : n12 = a0.State.Jobs.length) (hl14 : a0.State.Jobs.length ≤ c11) (hm15 : c11 ≤ maxLen) (hS16 : Sl TJob.K F F A10 a0.State.Jobs) (hn20 : n19 = a0.State.Used.length) (hl21 : a0.State.Used.length ≤ c18) (hm22 : c18 ≤ maxLen) (hS23 : Sl (Kd.int .i64) F F A17 a0.State.Used) (hn27 : n26 = a0.State.Barred.length) (hl28 : a0.State.Barred.length ≤ c25) (hm29 : c25 ≤ maxLen) (hS30 : Sl Kd.bool F F A24 a0.State.Barred) (hg31 : CH.le (CH.row g1 o2 [.int .i64 a0.c.Faulty, .int .i64 a0.c.Workers, .int .i64 a0.c.Height, .int .i64 a0.c.Bits, .int .i64 a0.c.Jobs, .int .i64 a0.c.Term, .int .i64 a0.c.Heads, .slice A3 n5 c4, .slice A10 n12 c11, .slice A17 n19 c18, .slice A24 n26 c25, .int .i64 a0.State.Heads]) F) (r0_ : Int) (H : docket_work_era.f k a0 = some r0_) :
    Calls Tryz.prog 78 #[.pointer (some ⟨g1, o2, none⟩)] w fun e w' => e = .returned (.int .i64 r0_) ∧ (∃ n_, w' = w.drewN n_) := by
 have C := Ctx.start hp
 generalize domL [] = D at C
 have W0 : ∃ n_, w = w.drewN n_ := ⟨0, rfl⟩
 unfold docket_work_era.f at H
 refine Calls.ofW Tryz.func78 rfl (by simp [Tryz.ntmps78]) ?_
 refine W.seq ?_
 refine W.region rfl ?_
 refine WL.run to 1 rfl ?_
 refine WL.done ?_
 refine W.seq ?_
 refine W.seq ?_
 refine W.region rfl ?_
 refine WL.run to 4 rfl ?_
 let q1 : List Go.Value := [.int .i64 a0.c.Faulty, .int .i64 a0.c.Workers, .int .i64 a0.c.Height, .int .i64 a0.c.Bits, .int .i64 a0.c.Jobs, .int .i64 a0.c.Term, .int .i64 a0.c.Heads, .slice A3 n5 c4, .slice A10 n12 c11, .slice A17 n19 c18, .slice A24 n26 c25, .int .i64 a0.State.Heads]
 refine WL.val (Yl.loadV (g := g1) (off := o2) (o := 7) (cs := q1) (v := .slice A3 n5 c4) rfl Tryz.underlying45 rfl (Sub.mono (C.fro) hg31) rfl) ?_
 refine WL.val (Yl.lenN (A := A3) (l := n5) (q := c4) (n := (a0.State.Eras.length : Int)) rfl Tryz.underlying45 (by omega)) ?_
 refine WL.run to 1 rfl ?_
 refine WL.done ?_
 rcases iteE H with ⟨hc32, H⟩ | ⟨hc32, H⟩
 ·refine W.condT (congrArg Value.bool (decide_eq_true hc32)) ?_
  refine W.seq ?_
  refine W.region rfl ?_
  refine WL.run to 1 rfl ?_
  refine WL.done ?_
  refine W.ret ?_
  refine thenE_r ?_
  have e33 := Option.some.inj H
  subst e33
  exact post_r (resE1 rfl rfl) ⟨rfl, W0⟩
 ·refine W.condF (congrArg Value.bool (decide_eq_false hc32)) ?_
  refine W.skip ?_
  refine W.seq ?_
  refine W.region rfl ?_
  refine WL.run to 1 rfl ?_
  refine WL.done ?_
  refine W.ret ?_
  have e34 := Option.some.inj H
  subst e34
  exact post_r (resE1 rfl rfl) ⟨rfl, W0⟩
def docket_work_epoch.l1 : Nat → Twork → Int → Twork → Option Twork
  | 0, _, _, _ => none
  | k + 1, a0, x430, x431 => if x430 < (a0.State.Jobs.length : Int) then (if 0 ≤ x430 ∧ x430 < (x431.State.Jobs.length : Int) then (if ((x431.State.Jobs.getD x430.toNat TJob.z).State) = 2 then ((docket_again.f k (x431.State.Jobs, x430)).bind fun r564 => docket_work_epoch.l1 k a0 (wi64 (x430 + 1)) (⟨x431.c, (⟨x431.State.Eras, r564, x431.State.Used, x431.State.Barred, x431.State.Heads⟩ : TState)⟩ : Twork)) else (docket_work_epoch.l1 k a0 (wi64 (x430 + 1)) x431)) else none) else (some x431)
def docket_work_epoch.f (k : Nat) (a0 : Twork) (a1 : TRecord) : Option (Int × Twork) := (docket_Epoch.f k a0.State).bind fun r59 => if a1.Epoch ≤ r59 then (some (210, a0)) else (if (a0.State.Eras.length : Int) ≥ 256 then (some (90, a0)) else (if (a0.State.Eras.length + 1 + (a0.State.Eras.length + 1) / 4 + 192) * 40 ≤ 281474976710656 then ((docket_work_epoch.l1 k a0 0 (⟨a0.c, (⟨a0.State.Eras ++ [(⟨a1.Epoch, a1.Nonce⟩ : TEra)], a0.State.Jobs, a0.State.Used, a0.State.Barred, a0.State.Heads⟩ : TState)⟩ : Twork)).bind fun x335 => some (0, x335)) else none))
set_option maxRecDepth 100000 in
set_option maxHeartbeats 4000000 in
theorem docket_work_epoch.calls (k : Nat) (w : World) (F : CH) (g1 : Nat) (o2 : Nat) (A3 : Option Addr) (c4 : Nat) (n5 : Nat) (p7 : CH) (A9 : Option Addr) (c10 : Nat) (n11 : Nat) (p13 : CH) (A15 : Option Addr) (c16 : Nat) (n17 : Nat) (p19 : CH) (A21 : Option Addr) (c22 : Nat) (n23 : Nat) (p25 : CH) (a0 : Twork) (A28 : Option Addr) (c29 : Nat) (n30 : Nat) (a1 : TRecord) (hp : Pre w F [CH.row g1 o2 [.int .i64 a0.c.Faulty, .int .i64 a0.c.Workers, .int .i64 a0.c.Height, .int .i64 a0.c.Bits, .int .i64 a0.c.Jobs, .int .i64 a0.c.Term, .int .i64 a0.c.Heads, .slice A3 n5 c4, .slice A9 n11 c10, .slice A15 n17 c16, .slice A21 n23 c22, .int .i64 a0.State.Heads], p7, p13, p19, p25]) (hn6 : n5 = a0.State.Eras.length) (hR8 : Row TEra.K F p7 (.slice A3 n5 c4) a0.State.Eras) (hn12 : n11 = a0.State.Jobs.length) (hR14 : Row TJob.K F p13 (.slice A9 n11 c10) a0.State.Jobs) (hn18 : n17 = a0.State.Used.length) (hR20 : Row (Kd.int .i64) F p19 (.slice A15 n17 c16) a0.State.Used) (hn24 : n23 = a0.State.Barred.length) (hR26 : Row Kd.bool F p25 (.slice A21 n23 c22) a0.State.Barred) (ha27 : a1.Nonce.length = 32) (hn31 : n30 = a1.Data.length) (hl32 : a1.Data.length ≤ c29) (hm33 : c29 ≤ maxLen) (hS34 : Sl (Kd.int .u8) F F A28 a1.Data) (r0_ : Int) (r1_ : Twork) (H : docket_work_epoch.f k a0 a1 = some (r0_, r1_)) :
    Calls Tryz.prog 64 #[.pointer (some ⟨g1, o2, none⟩), .agg (List.toArray ([.int .i64 a1.Kind, .int .i64 a1.Epoch] ++ (a1.Nonce.map (Value.int .u8) ++ [.slice A28 n30 c29, .int .i64 a1.Job, .int .i64 a1.Time, .int .i64 a1.By])))] w fun e w' => ∃ (F' : CH) (A579 : Option Addr) (c580 : Nat) (n581 : Nat) (p583 : CH) (A585 : Option Addr) (c586 : Nat) (n587 : Nat) (p589 : CH) (A591 : Option Addr) (c592 : Nat) (n593 : Nat) (p595 : CH) (A597 : Option Addr) (c598 : Nat) (n599 : Nat) (p601 : CH), e = .returned (.int .i64 r0_) ∧ CH.le F F' ∧ Ctx w F (domL [CH.row g1 o2 [.int .i64 a0.c.Faulty, .int .i64 a0.c.Workers, .int .i64 a0.c.Height, .int .i64 a0.c.Bits, .int .i64 a0.c.Jobs, .int .i64 a0.c.Term, .int .i64 a0.c.Heads, .slice A3 n5 c4, .slice A9 n11 c10, .slice A15 n17 c16, .slice A21 n23 c22, .int .i64 a0.State.Heads], p7, p13, p19, p25]) w' F' [CH.row g1 o2 [.int .i64 r1_.c.Faulty, .int .i64 r1_.c.Workers, .int .i64 r1_.c.Height, .int .i64 r1_.c.Bits, .int .i64 r1_.c.Jobs, .int .i64 r1_.c.Term, .int .i64 r1_.c.Heads, .slice A579 n581 c580, .slice A585 n587 c586, .slice A591 n593 c592, .slice A597 n599 c598, .int .i64 r1_.State.Heads], p583, p589, p595, p601] ∧ n581 = r1_.State.Eras.length ∧ Row TEra.K F' p583 (.slice A579 n581 c580) r1_.State.Eras ∧ n587 = r1_.State.Jobs.length ∧ Row TJob.K F' p589 (.slice A585 n587 c586) r1_.State.Jobs ∧ n593 = r1_.State.Used.length ∧ Row (Kd.int .i64) F' p595 (.slice A591 n593 c592) r1_.State.Used ∧ n599 = r1_.State.Barred.length ∧ Row Kd.bool F' p601 (.slice A597 n599 c598) r1_.State.Barred := by
 have C := Ctx.start hp
 generalize hD : domL [CH.row g1 o2 [.int .i64 a0.c.Faulty, .int .i64 a0.c.Workers, .int .i64 a0.c.Height, .int .i64 a0.c.Bits, .int .i64 a0.c.Jobs, .int .i64 a0.c.Term, .int .i64 a0.c.Heads, .slice A3 n5 c4, .slice A9 n11 c10, .slice A15 n17 c16, .slice A21 n23 c22, .int .i64 a0.State.Heads], p7, p13, p19, p25] = D at C ⊢
 unfold docket_work_epoch.f at H
 refine Calls.ofW Tryz.func64 rfl (by simp [Tryz.ntmps64]) ?_
 refine W.seq ?_
 refine W.region rfl ?_
 let q1 : List Go.Value := [.int .i64 a1.Kind, .int .i64 a1.Epoch] ++ (a1.Nonce.map (Value.int .u8) ++ [.slice A28 n30 c29, .int .i64 a1.Job, .int .i64 a1.Time, .int .i64 a1.By])
 obtain ⟨g35, w36, hy37, C38⟩ := ev_box (P := Tryz.prog) 26 (.agg (List.toArray q1)) q1 C rfl
 refine WL.val (hy37 _ _ _ rfl) ?_
 refine WL.run to 1 rfl ?_
 refine WL.done ?_
 refine W.seq ?_
 refine W.block ?_
 refine W.seq ?_
 let q2 : List Go.Value := [.int .i64 a0.c.Faulty, .int .i64 a0.c.Workers, .int .i64 a0.c.Height, .int .i64 a0.c.Bits, .int .i64 a0.c.Jobs, .int .i64 a0.c.Term, .int .i64 a0.c.Heads, .slice A3 n5 c4, .slice A9 n11 c10, .slice A15 n17 c16, .slice A21 n23 c22, .int .i64 a0.State.Heads]
 refine W.regionA [([], CH.row g35 0 q1), ([6], CH.row g1 o2 q2)] (by kernel_rfl) ?_
 have C50 := Ctx.drewN C38 1
 refine WA.takes [(0, none), (1, some 0), (2, none), (3, none), (4, none), (5, some 1)] ⟨(Ctx.subI 0 C50 rfl), (Ctx.subI 1 C50 rfl), trivial⟩ (by kernel_rfl) ?_
 refine WT.run to 1 rfl ?_
 refine WT.val rfl (fun _ hC_ => Yl.loadV (g := g35) (off := 0) (o := 1) (cs := q1) (v := .int .i64 a1.Epoch) rfl Tryz.underlying3 rfl (show Sub (CH.row g35 0 q1) _ from hC_) rfl) ?_
 refine WT.run to 3 rfl ?_
 let q3 : List Go.Value := [.slice A3 n5 c4, .slice A9 n11 c10, .slice A15 n17 c16, .slice A21 n23 c22, .int .i64 a0.State.Heads]
 refine WT.val rfl (fun _ hC_ => Yl.loadVA (g := g1) (off := o2) (o := 7) (cs := q2) (us := q3) rfl Tryz.underlying50 rfl sz50 (show Sub (CH.row g1 o2 q2) _ from hC_) rfl) ?_
 refine WT.done ?_
 obtain ⟨F51, le52, ⟨lp54, lp55, lp56, lp57, _⟩, C53⟩ := Ctx.lend [p7, p13, p19, p25] (ps := [CH.row g35 0 q1, CH.row g1 o2 q2]) (Ctx.pick [2, 3, 4, 5, 0, 1] C50 rfl)
 obtain ⟨r59, hg58, H⟩ := bindE H
 refine WA.up1 6 (by kernel_rfl) (Up.callH rfl (by kernel_rfl) rfl (docket_Epoch.calls k _ F51 A3 c4 n5 A9 c10 n11 A15 c16 n17 A21 c22 n23 a0.State (Ctx.pre (qs := []) (rest := [CH.row g35 0 q1, CH.row g1 o2 q2]) C53) hn6 (Row.len_le hR8).1 (Row.len_le hR8).2.1 (Sl.mono (Row.sl hR8) le52 lp54) hn12 (Row.len_le hR14).1 (Row.len_le hR14).2.1 (Sl.mono (Row.sl hR14) le52 lp55) hn18 (Row.len_le hR20).1 (Row.len_le hR20).2.1 (Sl.mono (Row.sl hR20) le52 lp56) hn24 (Row.len_le hR26).1 (Row.len_le hR26).2.1 (Sl.mono (Row.sl hR26) le52 lp57) r59 hg58) (Yenter.fn Tryz.func21 (by kernel_rfl) rfl (argsE (.cons rfl .nil))) ?_)
 rintro e_ w_ ⟨rfl, C60⟩
 have C61 : Ctx _ _ _ _ _ [CH.row g35 0 q1, CH.row g1 o2 q2, p7, p13, p19, p25] := Ctx.callL (qs := []) (rest := [CH.row g35 0 q1, CH.row g1 o2 q2, p7, p13, p19, p25]) C50 le52 C60
 refine ⟨_, rfl, ⟨(Ctx.subI 0 C61 rfl), trivial, trivial⟩, ?_⟩
 refine WA.takes [(7, none), (8, none)] ⟨(Ctx.subI 0 C61 rfl), (Ctx.subI 1 C61 rfl), trivial⟩ (by kernel_rfl) ?_
 refine WT.run to 2 rfl ?_
 refine WT.done ?_
 refine WA.done (by kernel_rfl) ?_
 rcases iteE H with ⟨hc62, H⟩ | ⟨hc62, H⟩
 ·refine W.condT (congrArg Value.bool (decide_eq_true hc62)) ?_
  refine W.seq ?_
  refine W.region rfl ?_
  refine WL.run to 1 rfl ?_
  refine WL.done ?_
  refine W.ret ?_
  refine inB_r ?_
  refine thenE_r ?_
  have C63 : Ctx _ _ _ _ _ [CH.row g1 o2 q2, p7, p13, p19, p25] := Ctx.pick [1, 2, 3, 4, 5] C61 rfl
  simp only [Option.some.injEq, Prod.mk.injEq] at H
  obtain ⟨e64, e65⟩ := H
  subst e64 e65
  exact post_r (resE1 rfl rfl) ⟨F, A3, c4, n5, p7, A9, c10, n11, p13, A15, c16, n17, p19, A21, c22, n23, p25, rfl, (CH.le_refl _), C63, hn6, hR8, hn12, hR14, hn18, hR20, hn24, hR26⟩
 ·refine W.condF (congrArg Value.bool (decide_eq_false hc62)) ?_
  refine W.seq ?_
  refine W.region rfl ?_
  refine WL.run to 4 rfl ?_
  refine WL.val (Yl.loadV (g := g1) (off := o2) (o := 7) (cs := q2) (v := .slice A3 n5 c4) rfl Tryz.underlying45 rfl (Ctx.subI 1 C61 rfl) rfl) ?_
  refine WL.val (Yl.lenN (A := A3) (l := n5) (q := c4) (n := (a0.State.Eras.length : Int)) rfl Tryz.underlying45 (by omega)) ?_
  refine WL.run to 2 rfl ?_
  refine WL.done ?_
  rcases iteE H with ⟨hc66, H⟩ | ⟨hc66, H⟩
  ·refine W.condT (congrArg Value.bool (decide_eq_true hc66)) ?_
   refine W.seq ?_
   refine W.region rfl ?_
   refine WL.run to 1 rfl ?_
   refine WL.done ?_
   refine W.ret ?_
   refine inB_r ?_
   refine thenE_r ?_
   have C67 : Ctx _ _ _ _ _ [CH.row g1 o2 q2, p7, p13, p19, p25] := Ctx.pick [1, 2, 3, 4, 5] C61 rfl
   simp only [Option.some.injEq, Prod.mk.injEq] at H
   obtain ⟨e68, e69⟩ := H
   subst e68 e69
   exact post_r (resE1 rfl rfl) ⟨F, A3, c4, n5, p7, A9, c10, n11, p13, A15, c16, n17, p19, A21, c22, n23, p25, rfl, (CH.le_refl _), C67, hn6, hR8, hn12, hR14, hn18, hR20, hn24, hR26⟩
  ·refine W.condF (congrArg Value.bool (decide_eq_false hc66)) ?_
   refine W.skip ?_
   refine inB_n ?_
   refine W.seq ?_
   refine W.regionA [([12, 16], CH.row g1 o2 q2), ([11, 12, 16], CH.row g35 0 q1)] (by kernel_rfl) ?_
   have C94 := Ctx.drewN C61 1
   refine WA.takes [(0, none), (1, none), (2, none), (3, none), (4, none), (5, some 0), (6, none), (7, some 1), (8, none), (9, some 1), (10, none)] ⟨(Ctx.subI 1 C94 rfl), (Ctx.subI 0 C94 rfl), trivial⟩ (by kernel_rfl) ?_
   refine WT.run to 5 rfl ?_
   refine WT.val rfl (fun _ hC_ => Yl.loadV (g := g1) (off := o2) (o := 7) (cs := q2) (v := .slice A3 n5 c4) rfl Tryz.underlying45 rfl (show Sub (CH.row g1 o2 q2) _ from hC_) rfl) ?_
   refine WT.run to 1 rfl ?_
   refine WT.val rfl (fun _ hC_ => Yl.loadV (g := g35) (off := 0) (o := 1) (cs := q1) (v := .int .i64 a1.Epoch) rfl Tryz.underlying3 rfl (show Sub (CH.row g35 0 q1) _ from hC_) rfl) ?_
   refine WT.run to 1 rfl ?_
   refine WT.val rfl (fun _ hC_ => Yl.loadVA (g := g35) (off := 0) (o := 2) (cs := q1) (us := a1.Nonce.map (Value.int .u8)) rfl Tryz.underlying23 rfl (sz_of sz23 (len_map ha27)) (show Sub (CH.row g35 0 q1) _ from hC_) (mid_skip 2 0 rfl (mid_here rfl))) ?_
   let q4 : List Go.Value := [.int .i64 a1.Epoch] ++ (a1.Nonce.map (Value.int .u8))
   refine WT.val rfl (fun _ hC_ => Yl.build (places := [(0, 1), (1, 32)]) (cs := List.toArray q4) Tryz.underlying94 zr94 (pl94 _ Tryz.underlying94) (partsB (.cons rfl (.cons rfl .nil))) (Fills.run (a := [.int .i64 0] ++ ((List.replicate 32 (0 : Int)).map (Value.int .u8))) (c := [.int .i64 a1.Epoch] ++ (a1.Nonce.map (Value.int .u8))) (.put (us := [.int .i64 a1.Epoch]) rfl rfl rfl (Put.left (Put.lit 0 rfl)) (.put (us := a1.Nonce.map (Value.int .u8)) rfl rfl (len_map ha27) (Put.skip 1 0 rfl (Put.all 32 (len_map (List.length_replicate ..)) (len_map ha27))) .nil)))) ?_
   refine WT.done ?_
   obtain ⟨A95, c96, n97, p98, w99, hn100, hy101, C102, hR103⟩ := ev_lit1' (P := Tryz.prog) 94 TEra.K C94 Tryz.underlying45 ti94 ⟨by decide, by decide⟩ (⟨a1.Epoch, a1.Nonce⟩ : TEra) (.agg (List.toArray q4)) (TEra.mk' _ (⟨a1.Epoch, a1.Nonce⟩ : TEra)  ha27)
   refine WA.up1 11 (by kernel_rfl) (Up.val rfl rfl rfl (hy101 _ _ _ rfl) ⟨(Ctx.subI 2 C102 rfl), trivial, trivial⟩ ?_)
   obtain ⟨hc104, H⟩ := guardE H
   obtain ⟨A105, c106, n107, p108, w109, hn110, hy111, C112, hR113⟩ := ev_append' (P := Tryz.prog) (cb := c96) 94 TEra.K [p98, CH.row g35 0 q1, CH.row g1 o2 q2] [p13, p19, p25] C102 hR8 hn100 (Row.sl hR103) (Ctx.subI 0 C102 rfl) Tryz.underlying45 ti94 rfl zo94 (by decide) (by decide) (by simpa using hc104)
   have C114 : Ctx _ _ _ _ _ [p98, CH.row g35 0 q1, CH.row g1 o2 q2, p108, p13, p19, p25] := C112
   refine WA.up1 12 (by kernel_rfl) (Up.val rfl rfl rfl (hy111 _ _ _ _ rfl rfl) ⟨trivial, trivial, trivial⟩ ?_)
   refine WA.takes [(13, none), (14, none), (15, none)] ⟨(Ctx.subI 2 C114 rfl), (Ctx.subI 1 C114 rfl), trivial⟩ (by kernel_rfl) ?_
   refine WT.run to 3 rfl ?_
   refine WT.done ?_
   obtain ⟨w115, hy116, C117⟩ := ev_setI (P := Tryz.prog) (ps1 := [p98, CH.row g35 0 q1]) (ps2 := [p108, p13, p19, p25]) (t := 45) 7 [.slice A105 n107 c106] (.slice A105 n107 c106) C114 rfl rfl (ones_of rfl) sz45
   let q5 : List Go.Value := [.int .i64 a0.c.Faulty, .int .i64 a0.c.Workers, .int .i64 a0.c.Height, .int .i64 a0.c.Bits, .int .i64 a0.c.Jobs, .int .i64 a0.c.Term, .int .i64 a0.c.Heads, .slice A105 n107 c106, .slice A9 n11 c10, .slice A15 n17 c16, .slice A21 n23 c22, .int .i64 a0.State.Heads]
   have C118 : Ctx _ _ _ _ _ [p98, CH.row g35 0 q1, CH.row g1 o2 q5, p108, p13, p19, p25] := C117
   refine WA.up1 16 (by kernel_rfl) (Up.skip rfl rfl (hy116 _ _ _ _ rfl rfl) ⟨trivial, trivial, trivial⟩ ?_)
   refine WA.done (by kernel_rfl) ?_
   refine W.seq ?_
   refine W.seq ?_
   refine W.region rfl ?_
   refine WL.run to 4 rfl ?_
   refine WL.val (Yl.loadV (g := g1) (off := o2) (o := 8) (cs := q5) (v := .slice A9 n11 c10) rfl Tryz.underlying46 rfl (Ctx.subI 2 C118 rfl) rfl) ?_
   refine WL.val (Yl.lenN (A := A9) (l := n11) (q := c10) (n := (a0.State.Jobs.length : Int)) rfl Tryz.underlying46 (by omega)) ?_
   refine WL.run to 1 rfl ?_
   refine WL.done ?_
   obtain ⟨x335, hX361, H⟩ := bindE H
   refine W.cutM (fun env_ w_ => ∃ (F333 : CH) (A336 : Option Addr) (c337 : Nat) (n338 : Nat) (p340 : CH) (A342 : Option Addr) (c343 : Nat) (n344 : Nat) (p346 : CH) (A348 : Option Addr) (c349 : Nat) (n350 : Nat) (p352 : CH) (A354 : Option Addr) (c355 : Nat) (n356 : Nat) (p358 : CH), Ctx w F D w_ F333 [CH.row g1 o2 [.int .i64 x335.c.Faulty, .int .i64 x335.c.Workers, .int .i64 x335.c.Height, .int .i64 x335.c.Bits, .int .i64 x335.c.Jobs, .int .i64 x335.c.Term, .int .i64 x335.c.Heads, .slice A336 n338 c337, .slice A342 n344 c343, .slice A348 n350 c349, .slice A354 n356 c355, .int .i64 x335.State.Heads], p340, p346, p352, p358, p98, CH.row g35 0 q1] ∧ CH.le F F333 ∧ n338 = x335.State.Eras.length ∧ Row TEra.K F333 p340 (.slice A336 n338 c337) x335.State.Eras ∧ n344 = x335.State.Jobs.length ∧ Row TJob.K F333 p346 (.slice A342 n344 c343) x335.State.Jobs ∧ n350 = x335.State.Used.length ∧ Row (Kd.int .i64) F333 p352 (.slice A348 n350 c349) x335.State.Used ∧ n356 = x335.State.Barred.length ∧ Row Kd.bool F333 p358 (.slice A354 n356 c355) x335.State.Barred) ?_ ?_
   ·refine W.block ?_
    have C516 : Ctx _ _ _ _ _ [CH.row g1 o2 q5, p108, p13, p19, p25, p98, CH.row g35 0 q1] := Ctx.pick [2, 3, 4, 5, 6, 0, 1] C118 rfl
    refine W.loop (fun g_ env_ w_ => ∃ (x430 : Int) (x431 : Twork) (F425 : CH) (A432 : Option Addr) (c433 : Nat) (n434 : Nat) (p436 : CH) (A438 : Option Addr) (c439 : Nat) (n440 : Nat) (p442 : CH) (A444 : Option Addr) (c445 : Nat) (n446 : Nat) (p448 : CH) (A450 : Option Addr) (c451 : Nat) (n452 : Nat) (p454 : CH), env_ 0 = .pointer (some ⟨g1, o2, none⟩) ∧ env_ 45 = .int .i64 (a0.State.Jobs.length : Int) ∧ env_ 46 = .int .i64 x430 ∧ Ctx w F D w_ F425 [CH.row g1 o2 [.int .i64 x431.c.Faulty, .int .i64 x431.c.Workers, .int .i64 x431.c.Height, .int .i64 x431.c.Bits, .int .i64 x431.c.Jobs, .int .i64 x431.c.Term, .int .i64 x431.c.Heads, .slice A432 n434 c433, .slice A438 n440 c439, .slice A444 n446 c445, .slice A450 n452 c451, .int .i64 x431.State.Heads], p436, p442, p448, p454, p98, CH.row g35 0 q1] ∧ CH.le F F425 ∧ n434 = x431.State.Eras.length ∧ Row TEra.K F425 p436 (.slice A432 n434 c433) x431.State.Eras ∧ n440 = x431.State.Jobs.length ∧ Row TJob.K F425 p442 (.slice A438 n440 c439) x431.State.Jobs ∧ n446 = x431.State.Used.length ∧ Row (Kd.int .i64) F425 p448 (.slice A444 n446 c445) x431.State.Used ∧ n452 = x431.State.Barred.length ∧ Row Kd.bool F425 p454 (.slice A450 n452 c451) x431.State.Barred ∧ docket_work_epoch.l1 g_ a0 x430 x431 = some x335) k ⟨0, (⟨a0.c, (⟨a0.State.Eras ++ [(⟨a1.Epoch, a1.Nonce⟩ : TEra)], a0.State.Jobs, a0.State.Used, a0.State.Barred, a0.State.Heads⟩ : TState)⟩ : Twork), F, A105, c106, n107, p108, A9, c10, n11, p13, A15, c16, n17, p19, A21, c22, n23, p25, rfl, rfl, rfl, C516, (CH.le_refl _), hn110, hR113, hn12, hR14, hn18, hR20, hn24, hR26, hX361⟩ ?_
    clear hX361
    rintro g_ env_ w_ ⟨x430, x431, F425, A432, c433, n434, p436, A438, c439, n440, p442, A444, c445, n446, p448, A450, c451, n452, p454, ho427, ho428, ho429, C456, le426, hn435, hR437, hn441, hR443, hn447, hR449, hn453, hR455, hX361⟩
    rcases g_ with _ | k515
    · exact absurd hX361 (by simp [docket_work_epoch.l1])
    rw [docket_work_epoch.l1] at hX361
    apply kn env_ (.c ho427 (.c ho428 (.c ho429 .n)))
    refine W.seq ?_
    refine W.region rfl ?_
    refine WL.run to 1 rfl ?_
    refine WL.done ?_
    refine W.seq ?_
    rcases iteE hX361 with ⟨hc517, hX361⟩ | ⟨hc517, hX361⟩
    ·refine W.condT (congrArg Value.bool (decide_eq_true hc517)) ?_
     refine W.skip ?_
     refine W.seq ?_
     refine W.block ?_
     refine W.seq ?_
     refine W.region rfl ?_
     refine WL.run to 2 rfl ?_
     refine WL.done ?_
     refine W.seq ?_
     refine W.region rfl ?_
     refine WL.run to 4 rfl ?_
     let q6 : List Go.Value := [.int .i64 x431.c.Faulty, .int .i64 x431.c.Workers, .int .i64 x431.c.Height, .int .i64 x431.c.Bits, .int .i64 x431.c.Jobs, .int .i64 x431.c.Term, .int .i64 x431.c.Heads, .slice A432 n434 c433, .slice A438 n440 c439, .slice A444 n446 c445, .slice A450 n452 c451, .int .i64 x431.State.Heads]
     refine WL.val (Yl.loadV (g := g1) (off := o2) (o := 8) (cs := q6) (v := .slice A438 n440 c439) rfl Tryz.underlying46 rfl (Ctx.subI 0 C456 rfl) rfl) ?_
     refine WL.run to 1 rfl ?_
     obtain ⟨hc518, hX361⟩ := guardE hX361
     obtain ⟨b519, of520, hA521, he522⟩ := (Row.sl hR443) (by omega)
     refine WL.val (Yl.elemAddr (i := x430) rfl rfl hA521 Tryz.underlying46 sz63 (by omega)) ?_
     refine WL.run to 1 rfl ?_
     refine WL.done ?_
     refine W.seq ?_
     refine W.region rfl ?_
     refine WL.run to 3 rfl ?_
     obtain ⟨cs523, hr524, hx525⟩ := he522 x430.toNat _ (getD_some (d := TJob.z) (by omega))
     obtain ⟨A526, c527, n528, A533, c534, n535, A540, c541, n542, A547, c548, n549, A554, c555, n556, rfl, hn529, hl530, hm531, hS532, hn536, hl537, hm538, hS539, hn543, hl544, hm545, hS546, hn550, hl551, hm552, hS553, hn557, hl558, hm559, hS560⟩ := TJob.open hr524
     refine WL.val (Yl.load (v := .int .i64 ((x431.State.Jobs.getD x430.toNat TJob.z).State)) rfl Tryz.underlying3 rfl (((Ctx.subI 2 C456 rfl)).cell (hx525 1 _ rfl))) ?_
     refine WL.run to 1 rfl ?_
     refine WL.done ?_
     rcases iteE hX361 with ⟨hc561, hX361⟩ | ⟨hc561, hX361⟩
     ·refine W.condT (congrArg Value.bool (decide_eq_true hc561)) ?_
      refine W.region rfl ?_
      refine WL.run to 1 rfl ?_
      have C562 : Ctx _ _ _ _ _ [p442, CH.row g1 o2 q6, p436, p448, p454, p98, CH.row g35 0 q1] := Ctx.pick [2, 0, 1, 3, 4, 5, 6] C456 rfl
      obtain ⟨r564, hg563, hX361⟩ := bindE hX361
      refine WL.callH (docket_again.calls k515 _ F425 A438 c439 n440 p442 (x431.State.Jobs, x430) (Ctx.pre (qs := [p442]) (rest := [CH.row g1 o2 q6, p436, p448, p454, p98, CH.row g35 0 q1]) C562) hn441 hR443 (show 0 ≤ x430 ∧ x430 < (x431.State.Jobs.length : Int) from by omega) r564 hg563) (Yenter.fn Tryz.func77 (by kernel_rfl) rfl (argsE (.cons ((show _ = Value.pointer (some ⟨b519, of520 + x430.toNat * 9, none⟩) from rfl).trans (elp_eq (z := 9) hA521 (show 0 ≤ x430 ∧ x430 < (x431.State.Jobs.length : Int) from by omega) hn441).symm) .nil))) ?_
      rintro e_ w_ ⟨F565, p567, rfl, le566, C570, hn569, hR568⟩
      refine ⟨_, rfl, ?_⟩
      have C571 : Ctx _ _ _ _ _ [p567, CH.row g1 o2 q6, p436, p448, p454, p98, CH.row g35 0 q1] := Ctx.call (qs := [p442]) (rest := [CH.row g1 o2 q6, p436, p448, p454, p98, CH.row g35 0 q1]) C562 C570
      have hR572 := Row.mono hR437 le566
      have hR573 := Row.mono hR449 le566
      have hR574 := Row.mono hR455 le566
      refine WL.done ?_
      refine inB_n ?_
      refine W.region rfl ?_
      refine WL.run to 2 rfl ?_
      refine WL.done ?_
      have C575 : Ctx _ _ _ _ _ [CH.row g1 o2 q6, p436, p567, p448, p454, p98, CH.row g35 0 q1] := Ctx.pick [1, 2, 0, 3, 4, 5, 6] C571 rfl
      exact thenE_n ⟨k515, Nat.lt_succ_self _, wi64 (x430 + 1), (⟨x431.c, (⟨x431.State.Eras, r564, x431.State.Used, x431.State.Barred, x431.State.Heads⟩ : TState)⟩ : Twork), F565, A432, c433, n434, p436, A438, c439, n440, p567, A444, c445, n446, p448, A450, c451, n452, p454, rfl, rfl, rfl, C575, (CH.le_trans le426 le566), hn435, hR572, hn569, hR568, hn447, hR573, hn453, hR574, hX361⟩
     ·refine W.condF (congrArg Value.bool (decide_eq_false hc561)) ?_
      refine W.skip ?_
      refine inB_n ?_
      refine W.region rfl ?_
      refine WL.run to 2 rfl ?_
      refine WL.done ?_
      exact thenE_n ⟨k515, Nat.lt_succ_self _, wi64 (x430 + 1), x431, F425, A432, c433, n434, p436, A438, c439, n440, p442, A444, c445, n446, p448, A450, c451, n452, p454, rfl, rfl, rfl, C456, le426, hn435, hR437, hn441, hR443, hn447, hR449, hn453, hR455, hX361⟩
    ·refine W.condF (congrArg Value.bool (decide_eq_false hc517)) ?_
     refine W.exit ?_
     refine thenE_x ?_
     refine thenE_x ?_
     refine inB_here ?_
     cases hX361
     refine thenE_n ?_
     exact ⟨F425, A432, c433, n434, p436, A438, c439, n440, p442, A444, c445, n446, p448, A450, c451, n452, p454, C456, le426, hn435, hR437, hn441, hR443, hn447, hR449, hn453, hR455⟩
   ·rintro env_ w_ ⟨F333, A336, c337, n338, p340, A342, c343, n344, p346, A348, c349, n350, p352, A354, c355, n356, p358, C360, le334, hn339, hR341, hn345, hR347, hn351, hR353, hn357, hR359⟩
    refine W.seq ?_
    refine W.region rfl ?_
    refine WL.run to 1 rfl ?_
    refine WL.done ?_
    refine W.ret ?_
    let q7 : List Go.Value := [.int .i64 x335.c.Faulty, .int .i64 x335.c.Workers, .int .i64 x335.c.Height, .int .i64 x335.c.Bits, .int .i64 x335.c.Jobs, .int .i64 x335.c.Term, .int .i64 x335.c.Heads, .slice A336 n338 c337, .slice A342 n344 c343, .slice A348 n350 c349, .slice A354 n356 c355, .int .i64 x335.State.Heads]
    have C576 : Ctx _ _ _ _ _ [CH.row g1 o2 q7, p340, p346, p352, p358] := Ctx.pick [0, 1, 2, 3, 4] C360 rfl
    simp only [Option.some.injEq, Prod.mk.injEq] at H
    obtain ⟨e577, e578⟩ := H
    subst e577 e578
    exact post_r (resE1 rfl rfl) ⟨F333, A336, c337, n338, p340, A342, c343, n344, p346, A348, c349, n350, p352, A354, c355, n356, p358, rfl, le334, C576, hn339, hR341, hn345, hR347, hn351, hR353, hn357, hR359⟩
def docket_work_submit.f (k : Nat) (a0 : Twork) (a1 : TRecord) : Option (Int × Twork) := (docket_work_era.f k a0).bind fun r48 => if r48 = 0 then (if (a0.State.Jobs.length : Int) ≥ a0.c.Jobs then (some (90, a0)) else (if (a1.Data.length + a1.Data.length / 4 + 192) * 1 ≤ 281474976710656 then (if (a0.State.Jobs.length + 1 + (a0.State.Jobs.length + 1) / 4 + 192) * 152 ≤ 281474976710656 then (some (0, (⟨a0.c, (⟨a0.State.Eras, a0.State.Jobs ++ [(⟨a1.Data, 1, 0, 0, 0, ([] : List Int), ([] : List Int), ([] : List TCast), ([] : List Int)⟩ : TJob)], a0.State.Used, a0.State.Barred, a0.State.Heads⟩ : TState)⟩ : Twork))) else none) else none)) else (some (r48, a0))
set_option maxRecDepth 100000 in
set_option maxHeartbeats 4000000 in
theorem docket_work_submit.calls (k : Nat) (w : World) (F : CH) (g1 : Nat) (o2 : Nat) (A3 : Option Addr) (c4 : Nat) (n5 : Nat) (p7 : CH) (A9 : Option Addr) (c10 : Nat) (n11 : Nat) (p13 : CH) (A15 : Option Addr) (c16 : Nat) (n17 : Nat) (p19 : CH) (A21 : Option Addr) (c22 : Nat) (n23 : Nat) (p25 : CH) (a0 : Twork) (A28 : Option Addr) (c29 : Nat) (n30 : Nat) (a1 : TRecord) (hp : Pre w F [CH.row g1 o2 [.int .i64 a0.c.Faulty, .int .i64 a0.c.Workers, .int .i64 a0.c.Height, .int .i64 a0.c.Bits, .int .i64 a0.c.Jobs, .int .i64 a0.c.Term, .int .i64 a0.c.Heads, .slice A3 n5 c4, .slice A9 n11 c10, .slice A15 n17 c16, .slice A21 n23 c22, .int .i64 a0.State.Heads], p7, p13, p19, p25]) (hn6 : n5 = a0.State.Eras.length) (hR8 : Row TEra.K F p7 (.slice A3 n5 c4) a0.State.Eras) (hn12 : n11 = a0.State.Jobs.length) (hR14 : Row TJob.K F p13 (.slice A9 n11 c10) a0.State.Jobs) (hn18 : n17 = a0.State.Used.length) (hR20 : Row (Kd.int .i64) F p19 (.slice A15 n17 c16) a0.State.Used) (hn24 : n23 = a0.State.Barred.length) (hR26 : Row Kd.bool F p25 (.slice A21 n23 c22) a0.State.Barred) (ha27 : a1.Nonce.length = 32) (hn31 : n30 = a1.Data.length) (hl32 : a1.Data.length ≤ c29) (hm33 : c29 ≤ maxLen) (hS34 : Sl (Kd.int .u8) F F A28 a1.Data) (r0_ : Int) (r1_ : Twork) (H : docket_work_submit.f k a0 a1 = some (r0_, r1_)) :
    Calls Tryz.prog 65 #[.pointer (some ⟨g1, o2, none⟩), .agg (List.toArray ([.int .i64 a1.Kind, .int .i64 a1.Epoch] ++ (a1.Nonce.map (Value.int .u8) ++ [.slice A28 n30 c29, .int .i64 a1.Job, .int .i64 a1.Time, .int .i64 a1.By])))] w fun e w' => ∃ (F' : CH) (A175 : Option Addr) (c176 : Nat) (n177 : Nat) (p179 : CH) (A181 : Option Addr) (c182 : Nat) (n183 : Nat) (p185 : CH) (A187 : Option Addr) (c188 : Nat) (n189 : Nat) (p191 : CH) (A193 : Option Addr) (c194 : Nat) (n195 : Nat) (p197 : CH), e = .returned (.int .i64 r0_) ∧ CH.le F F' ∧ Ctx w F (domL [CH.row g1 o2 [.int .i64 a0.c.Faulty, .int .i64 a0.c.Workers, .int .i64 a0.c.Height, .int .i64 a0.c.Bits, .int .i64 a0.c.Jobs, .int .i64 a0.c.Term, .int .i64 a0.c.Heads, .slice A3 n5 c4, .slice A9 n11 c10, .slice A15 n17 c16, .slice A21 n23 c22, .int .i64 a0.State.Heads], p7, p13, p19, p25]) w' F' [CH.row g1 o2 [.int .i64 r1_.c.Faulty, .int .i64 r1_.c.Workers, .int .i64 r1_.c.Height, .int .i64 r1_.c.Bits, .int .i64 r1_.c.Jobs, .int .i64 r1_.c.Term, .int .i64 r1_.c.Heads, .slice A175 n177 c176, .slice A181 n183 c182, .slice A187 n189 c188, .slice A193 n195 c194, .int .i64 r1_.State.Heads], p179, p185, p191, p197] ∧ n177 = r1_.State.Eras.length ∧ Row TEra.K F' p179 (.slice A175 n177 c176) r1_.State.Eras ∧ n183 = r1_.State.Jobs.length ∧ Row TJob.K F' p185 (.slice A181 n183 c182) r1_.State.Jobs ∧ n189 = r1_.State.Used.length ∧ Row (Kd.int .i64) F' p191 (.slice A187 n189 c188) r1_.State.Used ∧ n195 = r1_.State.Barred.length ∧ Row Kd.bool F' p197 (.slice A193 n195 c194) r1_.State.Barred := by
 have C := Ctx.start hp
 generalize hD : domL [CH.row g1 o2 [.int .i64 a0.c.Faulty, .int .i64 a0.c.Workers, .int .i64 a0.c.Height, .int .i64 a0.c.Bits, .int .i64 a0.c.Jobs, .int .i64 a0.c.Term, .int .i64 a0.c.Heads, .slice A3 n5 c4, .slice A9 n11 c10, .slice A15 n17 c16, .slice A21 n23 c22, .int .i64 a0.State.Heads], p7, p13, p19, p25] = D at C ⊢
 unfold docket_work_submit.f at H
 refine Calls.ofW Tryz.func65 rfl (by simp [Tryz.ntmps65]) ?_
 refine W.seq ?_
 refine W.region rfl ?_
 let q1 : List Go.Value := [.int .i64 a1.Kind, .int .i64 a1.Epoch] ++ (a1.Nonce.map (Value.int .u8) ++ [.slice A28 n30 c29, .int .i64 a1.Job, .int .i64 a1.Time, .int .i64 a1.By])
 obtain ⟨g35, w36, hy37, C38⟩ := ev_box (P := Tryz.prog) 26 (.agg (List.toArray q1)) q1 C rfl
 refine WL.val (hy37 _ _ _ rfl) ?_
 refine WL.run to 1 rfl ?_
 refine WL.done ?_
 refine W.seq ?_
 refine W.seq ?_
 refine W.region rfl ?_
 refine WL.run to 1 rfl ?_
 let q2 : List Go.Value := [.int .i64 a0.c.Faulty, .int .i64 a0.c.Workers, .int .i64 a0.c.Height, .int .i64 a0.c.Bits, .int .i64 a0.c.Jobs, .int .i64 a0.c.Term, .int .i64 a0.c.Heads, .slice A3 n5 c4, .slice A9 n11 c10, .slice A15 n17 c16, .slice A21 n23 c22, .int .i64 a0.State.Heads]
 obtain ⟨F39, le40, ⟨lp42, lp43, lp44, lp45, lp46, _⟩, C41⟩ := Ctx.lend [CH.row g1 o2 q2, p7, p13, p19, p25] (ps := [CH.row g35 0 q1]) (Ctx.pick [1, 2, 3, 4, 5, 0] C38 rfl)
 obtain ⟨r48, hg47, H⟩ := bindE H
 refine WL.callH (docket_work_era.calls k _ F39 g1 o2 A3 c4 n5 A9 c10 n11 A15 c16 n17 A21 c22 n23 a0 C41.pre0 hn6 (Row.len_le hR8).1 (Row.len_le hR8).2.1 (Sl.mono (Row.sl hR8) le40 lp43) hn12 (Row.len_le hR14).1 (Row.len_le hR14).2.1 (Sl.mono (Row.sl hR14) le40 lp44) hn18 (Row.len_le hR20).1 (Row.len_le hR20).2.1 (Sl.mono (Row.sl hR20) le40 lp45) hn24 (Row.len_le hR26).1 (Row.len_le hR26).2.1 (Sl.mono (Row.sl hR26) le40 lp46) lp42 r48 hg47) (Yenter.fn Tryz.func78 (by kernel_rfl) rfl (argsE (.cons rfl .nil))) ?_
 rintro e_ w_ ⟨rfl, ⟨m49, rfl⟩⟩
 refine ⟨_, rfl, ?_⟩
 have C50 := Ctx.drewN C38 m49
 refine WL.run to 1 rfl ?_
 refine WL.done ?_
 refine W.seq ?_
 refine W.region rfl ?_
 refine WL.run to 2 rfl ?_
 refine WL.done ?_
 rcases iteE H with ⟨hc51, H⟩ | ⟨hc51, H⟩
 ·refine W.condF (congrArg Value.bool (ndec_t hc51)) ?_
  refine W.skip ?_
  refine W.seq ?_
  refine W.seq ?_
  refine W.region_quiet (by kernel_rfl) (by kernel_rfl) rfl ?_
  refine WQ.run to 4 rfl ?_
  refine WQ.vl (fun _ => Yl.loadV (g := g1) (off := o2) (o := 8) (cs := q2) (v := .slice A9 n11 c10) rfl Tryz.underlying46 rfl (Ctx.subI 1 (C50.drewN _) rfl) rfl) ?_
  refine WQ.vl (fun _ => Yl.lenN (A := A9) (l := n11) (q := c10) (n := (a0.State.Jobs.length : Int)) rfl Tryz.underlying46 (by omega)) ?_
  refine WQ.run to 4 rfl ?_
  refine WQ.vl (fun _ => Yl.loadV (g := g1) (off := o2) (o := 4) (cs := q2) (v := .int .i64 a0.c.Jobs) rfl Tryz.underlying3 rfl (Ctx.subI 1 (C50.drewN _) rfl) rfl) ?_
  refine WQ.run to 1 rfl ?_
  refine WQ.done (fun nq52 => ?_)
  have C53 := Ctx.drewN C50 nq52
  rcases iteE H with ⟨hc54, H⟩ | ⟨hc54, H⟩
  ·refine W.condT (congrArg Value.bool (decide_eq_true hc54)) ?_
   refine W.seq ?_
   refine W.region rfl ?_
   refine WL.run to 1 rfl ?_
   refine WL.done ?_
   refine W.ret ?_
   refine thenE_r ?_
   have C55 : Ctx _ _ _ _ _ [CH.row g1 o2 q2, p7, p13, p19, p25] := Ctx.pick [1, 2, 3, 4, 5] C53 rfl
   simp only [Option.some.injEq, Prod.mk.injEq] at H
   obtain ⟨e56, e57⟩ := H
   subst e56 e57
   exact post_r (resE1 rfl rfl) ⟨F, A3, c4, n5, p7, A9, c10, n11, p13, A15, c16, n17, p19, A21, c22, n23, p25, rfl, (CH.le_refl _), C55, hn6, hR8, hn12, hR14, hn18, hR20, hn24, hR26⟩
  ·refine W.condF (congrArg Value.bool (decide_eq_false hc54)) ?_
   refine W.skip ?_
   refine W.seq ?_
   refine W.regionA [([12, 16], CH.row g1 o2 q2), ([9, 11, 12, 16], CH.row g35 0 q1)] (by kernel_rfl) ?_
   have C113 := Ctx.drewN C53 1
   refine WA.takes [(0, none), (1, none), (2, none), (3, none), (4, none), (5, some 0), (7, none), (8, some 1)] ⟨(Ctx.subI 1 C113 rfl), (Ctx.subI 0 C113 rfl), trivial⟩ (by kernel_rfl) ?_
   refine WT.run to 5 rfl ?_
   refine WT.val rfl (fun _ hC_ => Yl.loadV (g := g1) (off := o2) (o := 8) (cs := q2) (v := .slice A9 n11 c10) rfl Tryz.underlying46 rfl (show Sub (CH.row g1 o2 q2) _ from hC_) rfl) ?_
   refine WT.run to 1 rfl ?_
   refine WT.val rfl (fun _ hC_ => Yl.loadV (g := g35) (off := 0) (o := 34) (cs := q1) (v := .slice A28 n30 c29) rfl Tryz.underlying24 rfl (show Sub (CH.row g35 0 q1) _ from hC_) (at_skip 2 32 rfl (at_skip 32 0 (len_map ha27) rfl))) ?_
   refine WT.done ?_
   obtain ⟨A114, c115, n116, p117, w118, hn119, hy120, C121, hR122⟩ := ev_lit0 (P := Tryz.prog) 5 (Kd.int .u8) C113 Tryz.underlying24 ti5
   refine WA.up1 6 (by kernel_rfl) (Up.val rfl rfl rfl (hy120 _ _) ⟨(Ctx.subI 2 C121 rfl), (Ctx.subI 1 C121 rfl), trivial⟩ ?_)
   obtain ⟨hc123, H⟩ := guardE H
   obtain ⟨A124, c125, n126, p127, w128, hn129, hy130, C131, hR132⟩ := ev_append' (P := Tryz.prog) (cb := c29) 5 (Kd.int .u8) [] [CH.row g35 0 q1, CH.row g1 o2 q2, p7, p13, p19, p25] C121 hR122 hn31 hS34 C121.fro Tryz.underlying24 ti5 rfl zo5 (by decide) (by decide) (by simpa using hc123)
   have C133 : Ctx _ _ _ _ _ [p127, CH.row g35 0 q1, CH.row g1 o2 q2, p7, p13, p19, p25] := C131
   rw [List.nil_append] at hn129 hR132
   refine WA.up1 9 (by kernel_rfl) (Up.val rfl rfl rfl (hy130 _ _ _ _ rfl rfl) ⟨(Ctx.subI 2 C133 rfl), trivial, trivial⟩ ?_)
   refine WA.takes [(10, none)] ⟨(Ctx.subI 2 C133 rfl), (Ctx.subI 1 C133 rfl), trivial⟩ (by kernel_rfl) ?_
   let q3 : List Go.Value := [.slice A124 n126 c125, .int .i64 1, .int .i64 0, .int .i64 0, .int .i64 0, .slice none 0 0, .slice none 0 0, .slice none 0 0, .slice none 0 0]
   refine WT.val rfl (fun _ hC_ => Yl.build (places := [(0, 1), (1, 1), (2, 1), (3, 1), (4, 1), (5, 1), (6, 1), (7, 1), (8, 1)]) (cs := List.toArray q3) Tryz.underlying63 zr63 (pl63 _ Tryz.underlying63) (partsB (.cons rfl (.cons rfl .nil))) rfl) ?_
   refine WT.done ?_
   obtain ⟨F134, le135, lp136, C137⟩ := Ctx.fzI 0 C133 rfl
   replace C137 : Ctx _ _ _ _ _ [CH.row g35 0 q1, CH.row g1 o2 q2, p7, p13, p19, p25] := C137
   obtain ⟨hl138, hm139, hS140⟩ := Row.fz hR132 le135 lp136
   have hR141 := Row.mono hR14 le135
   have hR142 := Row.mono hR8 le135
   have hR143 := Row.mono hR20 le135
   have hR144 := Row.mono hR26 le135
   obtain ⟨A145, c146, n147, p148, w149, hn150, hy151, C152, hR153⟩ := ev_lit1' (P := Tryz.prog) 63 TJob.K C137 Tryz.underlying46 ti63 ⟨by decide, by decide⟩ (⟨a1.Data, 1, 0, 0, 0, ([] : List Int), ([] : List Int), ([] : List TCast), ([] : List Int)⟩ : TJob) (.agg (List.toArray q3)) (TJob.mk' _ (⟨a1.Data, 1, 0, 0, 0, ([] : List Int), ([] : List Int), ([] : List TCast), ([] : List Int)⟩ : TJob) A124 c125 n126 none 0 0 none 0 0 none 0 0 none 0 0 hn129 hl138 hm139 hS140 rfl (Nat.le_refl _) (Nat.zero_le _) (Sl.nil _ _ _ _) rfl (Nat.le_refl _) (Nat.zero_le _) (Sl.nil _ _ _ _) rfl (Nat.le_refl _) (Nat.zero_le _) (Sl.nil _ _ _ _) rfl (Nat.le_refl _) (Nat.zero_le _) (Sl.nil _ _ _ _))
   refine WA.up1 11 (by kernel_rfl) (Up.val rfl rfl rfl (hy151 _ _ _ rfl) ⟨(Ctx.subI 2 C152 rfl), trivial, trivial⟩ ?_)
   obtain ⟨hc154, H⟩ := guardE H
   obtain ⟨A155, c156, n157, p158, w159, hn160, hy161, C162, hR163⟩ := ev_append' (P := Tryz.prog) (cb := c146) 63 TJob.K [p148, CH.row g35 0 q1, CH.row g1 o2 q2, p7] [p19, p25] C152 hR141 hn150 (Row.sl hR153) (Ctx.subI 0 C152 rfl) Tryz.underlying46 ti63 rfl zo63 (by decide) (by decide) (by simpa using hc154)
   have C164 : Ctx _ _ _ _ _ [p148, CH.row g35 0 q1, CH.row g1 o2 q2, p7, p158, p19, p25] := C162
   refine WA.up1 12 (by kernel_rfl) (Up.val rfl rfl rfl (hy161 _ _ _ _ rfl rfl) ⟨trivial, trivial, trivial⟩ ?_)
   refine WA.takes [(13, none), (14, none), (15, none)] ⟨(Ctx.subI 2 C164 rfl), (Ctx.subI 1 C164 rfl), trivial⟩ (by kernel_rfl) ?_
   refine WT.run to 3 rfl ?_
   refine WT.done ?_
   obtain ⟨w165, hy166, C167⟩ := ev_setI (P := Tryz.prog) (ps1 := [p148, CH.row g35 0 q1]) (ps2 := [p7, p158, p19, p25]) (t := 46) 8 [.slice A155 n157 c156] (.slice A155 n157 c156) C164 rfl rfl (ones_of rfl) sz46
   let q4 : List Go.Value := [.int .i64 a0.c.Faulty, .int .i64 a0.c.Workers, .int .i64 a0.c.Height, .int .i64 a0.c.Bits, .int .i64 a0.c.Jobs, .int .i64 a0.c.Term, .int .i64 a0.c.Heads, .slice A3 n5 c4, .slice A155 n157 c156, .slice A15 n17 c16, .slice A21 n23 c22, .int .i64 a0.State.Heads]
   have C168 : Ctx _ _ _ _ _ [p148, CH.row g35 0 q1, CH.row g1 o2 q4, p7, p158, p19, p25] := C167
   refine WA.up1 16 (by kernel_rfl) (Up.skip rfl rfl (hy166 _ _ _ _ rfl rfl) ⟨trivial, trivial, trivial⟩ ?_)
   refine WA.done (by kernel_rfl) ?_
   refine W.seq ?_
   refine W.region rfl ?_
   refine WL.run to 1 rfl ?_
   refine WL.done ?_
   refine W.ret ?_
   have C169 : Ctx _ _ _ _ _ [CH.row g1 o2 q4, p7, p158, p19, p25] := Ctx.pick [2, 3, 4, 5, 6] C168 rfl
   simp only [Option.some.injEq, Prod.mk.injEq] at H
   obtain ⟨e170, e171⟩ := H
   subst e170 e171
   exact post_r (resE1 rfl rfl) ⟨F134, A3, c4, n5, p7, A155, c156, n157, p158, A15, c16, n17, p19, A21, c22, n23, p25, rfl, le135, C169, hn6, hR142, hn160, hR163, hn18, hR143, hn24, hR144⟩
 ·refine W.condT (congrArg Value.bool (ndec_f hc51)) ?_
  refine W.seq ?_
  refine W.region rfl ?_
  refine WL.run to 2 rfl ?_
  refine WL.done ?_
  refine W.ret ?_
  refine thenE_r ?_
  have C172 : Ctx _ _ _ _ _ [CH.row g1 o2 q2, p7, p13, p19, p25] := Ctx.pick [1, 2, 3, 4, 5] C50 rfl
  simp only [Option.some.injEq, Prod.mk.injEq] at H
  obtain ⟨e173, e174⟩ := H
  subst e173 e174
  exact post_r (resE1 rfl rfl) ⟨F, A3, c4, n5, p7, A9, c10, n11, p13, A15, c16, n17, p19, A21, c22, n23, p25, rfl, (CH.le_refl _), C172, hn6, hR8, hn12, hR14, hn18, hR20, hn24, hR26⟩
def docket_work_head.f (k : Nat) (a0 : Twork) (a1 : TRecord) : Option (Int × Twork) := (docket_work_era.f k a0).bind fun r48 => if r48 = 0 then (if 0 ≤ a0.c.Heads then (if a0.State.Heads = (shlOp .i64 1 a0.c.Heads) then (some (70, a0)) else (some (0, (⟨a0.c, (⟨a0.State.Eras, a0.State.Jobs, a0.State.Used, a0.State.Barred, wi64 (a0.State.Heads + 1)⟩ : TState)⟩ : Twork)))) else none) else (some (r48, a0))
set_option maxRecDepth 100000 in
set_option maxHeartbeats 4000000 in
theorem docket_work_head.calls (k : Nat) (w : World) (F : CH) (g1 : Nat) (o2 : Nat) (A3 : Option Addr) (c4 : Nat) (n5 : Nat) (p7 : CH) (A9 : Option Addr) (c10 : Nat) (n11 : Nat) (p13 : CH) (A15 : Option Addr) (c16 : Nat) (n17 : Nat) (p19 : CH) (A21 : Option Addr) (c22 : Nat) (n23 : Nat) (p25 : CH) (a0 : Twork) (A28 : Option Addr) (c29 : Nat) (n30 : Nat) (a1 : TRecord) (hp : Pre w F [CH.row g1 o2 [.int .i64 a0.c.Faulty, .int .i64 a0.c.Workers, .int .i64 a0.c.Height, .int .i64 a0.c.Bits, .int .i64 a0.c.Jobs, .int .i64 a0.c.Term, .int .i64 a0.c.Heads, .slice A3 n5 c4, .slice A9 n11 c10, .slice A15 n17 c16, .slice A21 n23 c22, .int .i64 a0.State.Heads], p7, p13, p19, p25]) (hn6 : n5 = a0.State.Eras.length) (hR8 : Row TEra.K F p7 (.slice A3 n5 c4) a0.State.Eras) (hn12 : n11 = a0.State.Jobs.length) (hR14 : Row TJob.K F p13 (.slice A9 n11 c10) a0.State.Jobs) (hn18 : n17 = a0.State.Used.length) (hR20 : Row (Kd.int .i64) F p19 (.slice A15 n17 c16) a0.State.Used) (hn24 : n23 = a0.State.Barred.length) (hR26 : Row Kd.bool F p25 (.slice A21 n23 c22) a0.State.Barred) (ha27 : a1.Nonce.length = 32) (hn31 : n30 = a1.Data.length) (hl32 : a1.Data.length ≤ c29) (hm33 : c29 ≤ maxLen) (hS34 : Sl (Kd.int .u8) F F A28 a1.Data) (r0_ : Int) (r1_ : Twork) (H : docket_work_head.f k a0 a1 = some (r0_, r1_)) :
    Calls Tryz.prog 69 #[.pointer (some ⟨g1, o2, none⟩), .agg (List.toArray ([.int .i64 a1.Kind, .int .i64 a1.Epoch] ++ (a1.Nonce.map (Value.int .u8) ++ [.slice A28 n30 c29, .int .i64 a1.Job, .int .i64 a1.Time, .int .i64 a1.By])))] w fun e w' => ∃ (F' : CH) (A69 : Option Addr) (c70 : Nat) (n71 : Nat) (p73 : CH) (A75 : Option Addr) (c76 : Nat) (n77 : Nat) (p79 : CH) (A81 : Option Addr) (c82 : Nat) (n83 : Nat) (p85 : CH) (A87 : Option Addr) (c88 : Nat) (n89 : Nat) (p91 : CH), e = .returned (.int .i64 r0_) ∧ CH.le F F' ∧ Ctx w F (domL [CH.row g1 o2 [.int .i64 a0.c.Faulty, .int .i64 a0.c.Workers, .int .i64 a0.c.Height, .int .i64 a0.c.Bits, .int .i64 a0.c.Jobs, .int .i64 a0.c.Term, .int .i64 a0.c.Heads, .slice A3 n5 c4, .slice A9 n11 c10, .slice A15 n17 c16, .slice A21 n23 c22, .int .i64 a0.State.Heads], p7, p13, p19, p25]) w' F' [CH.row g1 o2 [.int .i64 r1_.c.Faulty, .int .i64 r1_.c.Workers, .int .i64 r1_.c.Height, .int .i64 r1_.c.Bits, .int .i64 r1_.c.Jobs, .int .i64 r1_.c.Term, .int .i64 r1_.c.Heads, .slice A69 n71 c70, .slice A75 n77 c76, .slice A81 n83 c82, .slice A87 n89 c88, .int .i64 r1_.State.Heads], p73, p79, p85, p91] ∧ n71 = r1_.State.Eras.length ∧ Row TEra.K F' p73 (.slice A69 n71 c70) r1_.State.Eras ∧ n77 = r1_.State.Jobs.length ∧ Row TJob.K F' p79 (.slice A75 n77 c76) r1_.State.Jobs ∧ n83 = r1_.State.Used.length ∧ Row (Kd.int .i64) F' p85 (.slice A81 n83 c82) r1_.State.Used ∧ n89 = r1_.State.Barred.length ∧ Row Kd.bool F' p91 (.slice A87 n89 c88) r1_.State.Barred := by
 have C := Ctx.start hp
 generalize hD : domL [CH.row g1 o2 [.int .i64 a0.c.Faulty, .int .i64 a0.c.Workers, .int .i64 a0.c.Height, .int .i64 a0.c.Bits, .int .i64 a0.c.Jobs, .int .i64 a0.c.Term, .int .i64 a0.c.Heads, .slice A3 n5 c4, .slice A9 n11 c10, .slice A15 n17 c16, .slice A21 n23 c22, .int .i64 a0.State.Heads], p7, p13, p19, p25] = D at C ⊢
 unfold docket_work_head.f at H
 refine Calls.ofW Tryz.func69 rfl (by simp [Tryz.ntmps69]) ?_
 refine W.seq ?_
 refine W.region rfl ?_
 let q1 : List Go.Value := [.int .i64 a1.Kind, .int .i64 a1.Epoch] ++ (a1.Nonce.map (Value.int .u8) ++ [.slice A28 n30 c29, .int .i64 a1.Job, .int .i64 a1.Time, .int .i64 a1.By])
 obtain ⟨g35, w36, hy37, C38⟩ := ev_box (P := Tryz.prog) 26 (.agg (List.toArray q1)) q1 C rfl
 refine WL.val (hy37 _ _ _ rfl) ?_
 refine WL.run to 1 rfl ?_
 refine WL.done ?_
 refine W.seq ?_
 refine W.region rfl ?_
 refine WL.run to 1 rfl ?_
 let q2 : List Go.Value := [.int .i64 a0.c.Faulty, .int .i64 a0.c.Workers, .int .i64 a0.c.Height, .int .i64 a0.c.Bits, .int .i64 a0.c.Jobs, .int .i64 a0.c.Term, .int .i64 a0.c.Heads, .slice A3 n5 c4, .slice A9 n11 c10, .slice A15 n17 c16, .slice A21 n23 c22, .int .i64 a0.State.Heads]
 obtain ⟨F39, le40, ⟨lp42, lp43, lp44, lp45, lp46, _⟩, C41⟩ := Ctx.lend [CH.row g1 o2 q2, p7, p13, p19, p25] (ps := [CH.row g35 0 q1]) (Ctx.pick [1, 2, 3, 4, 5, 0] C38 rfl)
 obtain ⟨r48, hg47, H⟩ := bindE H
 refine WL.callH (docket_work_era.calls k _ F39 g1 o2 A3 c4 n5 A9 c10 n11 A15 c16 n17 A21 c22 n23 a0 C41.pre0 hn6 (Row.len_le hR8).1 (Row.len_le hR8).2.1 (Sl.mono (Row.sl hR8) le40 lp43) hn12 (Row.len_le hR14).1 (Row.len_le hR14).2.1 (Sl.mono (Row.sl hR14) le40 lp44) hn18 (Row.len_le hR20).1 (Row.len_le hR20).2.1 (Sl.mono (Row.sl hR20) le40 lp45) hn24 (Row.len_le hR26).1 (Row.len_le hR26).2.1 (Sl.mono (Row.sl hR26) le40 lp46) lp42 r48 hg47) (Yenter.fn Tryz.func78 (by kernel_rfl) rfl (argsE (.cons rfl .nil))) ?_
 rintro e_ w_ ⟨rfl, ⟨m49, rfl⟩⟩
 refine ⟨_, rfl, ?_⟩
 have C50 := Ctx.drewN C38 m49
 refine WL.run to 1 rfl ?_
 refine WL.done ?_
 refine W.seq ?_
 refine W.block ?_
 refine W.seq ?_
 refine W.region rfl ?_
 refine WL.run to 3 rfl ?_
 refine WL.done ?_
 rcases iteE H with ⟨hc51, H⟩ | ⟨hc51, H⟩
 ·refine W.condF (congrArg Value.bool (ndec_t hc51)) ?_
  refine W.seq ?_
  refine W.region_quiet (by kernel_rfl) (by kernel_rfl) rfl ?_
  refine WQ.run to 4 rfl ?_
  refine WQ.vl (fun _ => Yl.loadV (g := g1) (off := o2) (o := 11) (cs := q2) (v := .int .i64 a0.State.Heads) rfl Tryz.underlying3 rfl (Ctx.subI 1 (C50.drewN _) rfl) rfl) ?_
  refine WQ.run to 4 rfl ?_
  refine WQ.vl (fun _ => Yl.loadV (g := g1) (off := o2) (o := 6) (cs := q2) (v := .int .i64 a0.c.Heads) rfl Tryz.underlying3 rfl (Ctx.subI 1 (C50.drewN _) rfl) rfl) ?_
  obtain ⟨hc52, H⟩ := guardE H
  refine WQ.vl (fun _ => Yl.shl (m := 1) (n := a0.c.Heads) (r := shlOp .i64 1 a0.c.Heads) rfl rfl hc52 rfl) ?_
  refine WQ.run to 2 rfl ?_
  refine WQ.done (fun nq53 => ?_)
  have C54 := Ctx.drewN C50 nq53
  rcases iteE H with ⟨hc55, H⟩ | ⟨hc55, H⟩
  ·refine W.condT (congrArg Value.bool (decide_eq_true hc55)) ?_
   refine W.seq ?_
   refine W.region rfl ?_
   refine WL.run to 1 rfl ?_
   refine WL.done ?_
   refine W.ret ?_
   refine inB_r ?_
   refine thenE_r ?_
   have C56 : Ctx _ _ _ _ _ [CH.row g1 o2 q2, p7, p13, p19, p25] := Ctx.pick [1, 2, 3, 4, 5] C54 rfl
   simp only [Option.some.injEq, Prod.mk.injEq] at H
   obtain ⟨e57, e58⟩ := H
   subst e57 e58
   exact post_r (resE1 rfl rfl) ⟨F, A3, c4, n5, p7, A9, c10, n11, p13, A15, c16, n17, p19, A21, c22, n23, p25, rfl, (CH.le_refl _), C56, hn6, hR8, hn12, hR14, hn18, hR20, hn24, hR26⟩
  ·refine W.condF (congrArg Value.bool (decide_eq_false hc55)) ?_
   refine W.skip ?_
   refine inB_n ?_
   refine W.seq ?_
   refine W.region rfl ?_
   refine WL.run to 4 rfl ?_
   refine WL.val (Yl.loadV (g := g1) (off := o2) (o := 11) (cs := q2) (v := .int .i64 a0.State.Heads) rfl Tryz.underlying3 rfl (Ctx.subI 1 C54 rfl) rfl) ?_
   refine WL.run to 4 rfl ?_
   obtain ⟨w59, hy60, C61⟩ := ev_setI (P := Tryz.prog) (ps1 := [CH.row g35 0 q1]) (ps2 := [p7, p13, p19, p25]) (t := 3) 11 [.int .i64 (wi64 (a0.State.Heads + 1))] (.int .i64 (wi64 (a0.State.Heads + 1))) C54 rfl rfl (ones_of rfl) sz3
   let q3 : List Go.Value := [.int .i64 a0.c.Faulty, .int .i64 a0.c.Workers, .int .i64 a0.c.Height, .int .i64 a0.c.Bits, .int .i64 a0.c.Jobs, .int .i64 a0.c.Term, .int .i64 a0.c.Heads, .slice A3 n5 c4, .slice A9 n11 c10, .slice A15 n17 c16, .slice A21 n23 c22, .int .i64 (wi64 (a0.State.Heads + 1))]
   have C62 : Ctx _ _ _ _ _ [CH.row g35 0 q1, CH.row g1 o2 q3, p7, p13, p19, p25] := C61
   refine WL.skip (hy60 _ _ _ _ rfl rfl) ?_
   refine WL.done ?_
   refine W.seq ?_
   refine W.region rfl ?_
   refine WL.run to 1 rfl ?_
   refine WL.done ?_
   refine W.ret ?_
   have C63 : Ctx _ _ _ _ _ [CH.row g1 o2 q3, p7, p13, p19, p25] := Ctx.pick [1, 2, 3, 4, 5] C62 rfl
   simp only [Option.some.injEq, Prod.mk.injEq] at H
   obtain ⟨e64, e65⟩ := H
   subst e64 e65
   exact post_r (resE1 rfl rfl) ⟨F, A3, c4, n5, p7, A9, c10, n11, p13, A15, c16, n17, p19, A21, c22, n23, p25, rfl, (CH.le_refl _), C63, hn6, hR8, hn12, hR14, hn18, hR20, hn24, hR26⟩
 ·refine W.condT (congrArg Value.bool (ndec_f hc51)) ?_
  refine W.seq ?_
  refine W.region rfl ?_
  refine WL.run to 2 rfl ?_
  refine WL.done ?_
  refine W.ret ?_
  refine inB_r ?_
  refine thenE_r ?_
  have C66 : Ctx _ _ _ _ _ [CH.row g1 o2 q2, p7, p13, p19, p25] := Ctx.pick [1, 2, 3, 4, 5] C50 rfl
  simp only [Option.some.injEq, Prod.mk.injEq] at H
  obtain ⟨e67, e68⟩ := H
  subst e67 e68
  exact post_r (resE1 rfl rfl) ⟨F, A3, c4, n5, p7, A9, c10, n11, p13, A15, c16, n17, p19, A21, c22, n23, p25, rfl, (CH.le_refl _), C66, hn6, hR8, hn12, hR14, hn18, hR20, hn24, hR26⟩
def docket_work_expire.f (k : Nat) (a0 : Twork) (a1 : TRecord) : Option (Int × Twork) := (docket_work_job.f k a0 a1).bind fun ⟨r48, r49⟩ => if 0 ≤ r48 ∧ r48 < (a0.State.Jobs.length : Int) then (if r49 = 0 then (if ((a0.State.Jobs.getD r48.toNat TJob.z).State) = 2 then (if a1.Time < ((a0.State.Jobs.getD r48.toNat TJob.z).Until) then (some (213, a0)) else ((docket_again.f k (a0.State.Jobs, r48)).bind fun r105 => some (0, (⟨a0.c, (⟨a0.State.Eras, r105, a0.State.Used, a0.State.Barred, a0.State.Heads⟩ : TState)⟩ : Twork)))) else (some (212, a0))) else (some (r49, a0))) else (if r49 = 0 then (if False then (none) else none) else (some (r49, a0)))
set_option maxRecDepth 100000 in
set_option maxHeartbeats 4000000 in
theorem docket_work_expire.calls (k : Nat) (w : World) (F : CH) (g1 : Nat) (o2 : Nat) (A3 : Option Addr) (c4 : Nat) (n5 : Nat) (p7 : CH) (A9 : Option Addr) (c10 : Nat) (n11 : Nat) (p13 : CH) (A15 : Option Addr) (c16 : Nat) (n17 : Nat) (p19 : CH) (A21 : Option Addr) (c22 : Nat) (n23 : Nat) (p25 : CH) (a0 : Twork) (A28 : Option Addr) (c29 : Nat) (n30 : Nat) (a1 : TRecord) (hp : Pre w F [CH.row g1 o2 [.int .i64 a0.c.Faulty, .int .i64 a0.c.Workers, .int .i64 a0.c.Height, .int .i64 a0.c.Bits, .int .i64 a0.c.Jobs, .int .i64 a0.c.Term, .int .i64 a0.c.Heads, .slice A3 n5 c4, .slice A9 n11 c10, .slice A15 n17 c16, .slice A21 n23 c22, .int .i64 a0.State.Heads], p7, p13, p19, p25]) (hn6 : n5 = a0.State.Eras.length) (hR8 : Row TEra.K F p7 (.slice A3 n5 c4) a0.State.Eras) (hn12 : n11 = a0.State.Jobs.length) (hR14 : Row TJob.K F p13 (.slice A9 n11 c10) a0.State.Jobs) (hn18 : n17 = a0.State.Used.length) (hR20 : Row (Kd.int .i64) F p19 (.slice A15 n17 c16) a0.State.Used) (hn24 : n23 = a0.State.Barred.length) (hR26 : Row Kd.bool F p25 (.slice A21 n23 c22) a0.State.Barred) (ha27 : a1.Nonce.length = 32) (hn31 : n30 = a1.Data.length) (hl32 : a1.Data.length ≤ c29) (hm33 : c29 ≤ maxLen) (hS34 : Sl (Kd.int .u8) F F A28 a1.Data) (r0_ : Int) (r1_ : Twork) (H : docket_work_expire.f k a0 a1 = some (r0_, r1_)) :
    Calls Tryz.prog 68 #[.pointer (some ⟨g1, o2, none⟩), .agg (List.toArray ([.int .i64 a1.Kind, .int .i64 a1.Epoch] ++ (a1.Nonce.map (Value.int .u8) ++ [.slice A28 n30 c29, .int .i64 a1.Job, .int .i64 a1.Time, .int .i64 a1.By])))] w fun e w' => ∃ (F' : CH) (A130 : Option Addr) (c131 : Nat) (n132 : Nat) (p134 : CH) (A136 : Option Addr) (c137 : Nat) (n138 : Nat) (p140 : CH) (A142 : Option Addr) (c143 : Nat) (n144 : Nat) (p146 : CH) (A148 : Option Addr) (c149 : Nat) (n150 : Nat) (p152 : CH), e = .returned (.int .i64 r0_) ∧ CH.le F F' ∧ Ctx w F (domL [CH.row g1 o2 [.int .i64 a0.c.Faulty, .int .i64 a0.c.Workers, .int .i64 a0.c.Height, .int .i64 a0.c.Bits, .int .i64 a0.c.Jobs, .int .i64 a0.c.Term, .int .i64 a0.c.Heads, .slice A3 n5 c4, .slice A9 n11 c10, .slice A15 n17 c16, .slice A21 n23 c22, .int .i64 a0.State.Heads], p7, p13, p19, p25]) w' F' [CH.row g1 o2 [.int .i64 r1_.c.Faulty, .int .i64 r1_.c.Workers, .int .i64 r1_.c.Height, .int .i64 r1_.c.Bits, .int .i64 r1_.c.Jobs, .int .i64 r1_.c.Term, .int .i64 r1_.c.Heads, .slice A130 n132 c131, .slice A136 n138 c137, .slice A142 n144 c143, .slice A148 n150 c149, .int .i64 r1_.State.Heads], p134, p140, p146, p152] ∧ n132 = r1_.State.Eras.length ∧ Row TEra.K F' p134 (.slice A130 n132 c131) r1_.State.Eras ∧ n138 = r1_.State.Jobs.length ∧ Row TJob.K F' p140 (.slice A136 n138 c137) r1_.State.Jobs ∧ n144 = r1_.State.Used.length ∧ Row (Kd.int .i64) F' p146 (.slice A142 n144 c143) r1_.State.Used ∧ n150 = r1_.State.Barred.length ∧ Row Kd.bool F' p152 (.slice A148 n150 c149) r1_.State.Barred := by
 have C := Ctx.start hp
 generalize hD : domL [CH.row g1 o2 [.int .i64 a0.c.Faulty, .int .i64 a0.c.Workers, .int .i64 a0.c.Height, .int .i64 a0.c.Bits, .int .i64 a0.c.Jobs, .int .i64 a0.c.Term, .int .i64 a0.c.Heads, .slice A3 n5 c4, .slice A9 n11 c10, .slice A15 n17 c16, .slice A21 n23 c22, .int .i64 a0.State.Heads], p7, p13, p19, p25] = D at C ⊢
 unfold docket_work_expire.f at H
 refine Calls.ofW Tryz.func68 rfl (by simp [Tryz.ntmps68]) ?_
 refine W.seq ?_
 refine W.region rfl ?_
 let q1 : List Go.Value := [.int .i64 a1.Kind, .int .i64 a1.Epoch] ++ (a1.Nonce.map (Value.int .u8) ++ [.slice A28 n30 c29, .int .i64 a1.Job, .int .i64 a1.Time, .int .i64 a1.By])
 obtain ⟨g35, w36, hy37, C38⟩ := ev_box (P := Tryz.prog) 26 (.agg (List.toArray q1)) q1 C rfl
 refine WL.val (hy37 _ _ _ rfl) ?_
 refine WL.run to 1 rfl ?_
 refine WL.done ?_
 refine W.seq ?_
 refine W.region rfl ?_
 refine WL.run to 1 rfl ?_
 refine WL.val (Yl.loadVA (g := g35) (off := 0) (o := 0) (cs := q1) (us := q1) rfl Tryz.underlying26 rfl (sz_of sz26 (len_app rfl (len_app (len_map ha27) rfl))) (Ctx.subI 0 C38 rfl) (take_all _)) ?_
 let q2 : List Go.Value := [.int .i64 a0.c.Faulty, .int .i64 a0.c.Workers, .int .i64 a0.c.Height, .int .i64 a0.c.Bits, .int .i64 a0.c.Jobs, .int .i64 a0.c.Term, .int .i64 a0.c.Heads, .slice A3 n5 c4, .slice A9 n11 c10, .slice A15 n17 c16, .slice A21 n23 c22, .int .i64 a0.State.Heads]
 obtain ⟨F39, le40, ⟨lp42, lp43, lp44, lp45, lp46, _⟩, C41⟩ := Ctx.lend [CH.row g1 o2 q2, p7, p13, p19, p25] (ps := [CH.row g35 0 q1]) (Ctx.pick [1, 2, 3, 4, 5, 0] C38 rfl)
 obtain ⟨⟨r48, r49⟩, hg47, H⟩ := bindE H
 refine WL.callH (docket_work_job.calls k _ F39 g1 o2 A3 c4 n5 A9 c10 n11 A15 c16 n17 A21 c22 n23 a0 A28 c29 n30 a1 (Ctx.pre (qs := []) (rest := [CH.row g35 0 q1]) C41) hn6 (Row.len_le hR8).1 (Row.len_le hR8).2.1 (Sl.mono (Row.sl hR8) le40 lp43) hn12 (Row.len_le hR14).1 (Row.len_le hR14).2.1 (Sl.mono (Row.sl hR14) le40 lp44) hn18 (Row.len_le hR20).1 (Row.len_le hR20).2.1 (Sl.mono (Row.sl hR20) le40 lp45) hn24 (Row.len_le hR26).1 (Row.len_le hR26).2.1 (Sl.mono (Row.sl hR26) le40 lp46) lp42 ha27 hn31 hl32 hm33 (Sl.mono hS34 le40 le40) r48 r49 hg47) (Yenter.fn Tryz.func79 (by kernel_rfl) rfl (argsE (.cons rfl (.cons rfl .nil)))) ?_
 rintro e_ w_ ⟨rfl, C50⟩
 refine ⟨_, rfl, ?_⟩
 have C51 : Ctx _ _ _ _ _ [CH.row g35 0 q1, CH.row g1 o2 q2, p7, p13, p19, p25] := Ctx.callL (qs := []) (rest := [CH.row g35 0 q1, CH.row g1 o2 q2, p7, p13, p19, p25]) C38 le40 C50
 refine WL.run to 1 rfl ?_
 refine WL.val (Yl.extract (v := elp A9 n11 9 r48) rfl rfl) ?_
 refine WL.run to 1 rfl ?_
 rcases iteE H with ⟨hc52, H⟩ | ⟨hc52, H⟩
 ·obtain ⟨b53, of54, hA55, he56⟩ := (Row.sl hR14) (by omega)
  refine WL.val (Yl.assign (v := .pointer (some ⟨b53, of54 + r48.toNat * 9, none⟩)) (elp_eq hA55 hc52 hn12)) ?_
  refine WL.run to 1 rfl ?_
  refine WL.done ?_
  refine W.seq ?_
  refine W.block ?_
  refine W.seq ?_
  refine W.region rfl ?_
  refine WL.run to 3 rfl ?_
  refine WL.done ?_
  rcases iteE H with ⟨hc57, H⟩ | ⟨hc57, H⟩
  ·refine W.condF (congrArg Value.bool (ndec_t hc57)) ?_
   refine W.seq ?_
   refine W.region rfl ?_
   refine WL.run to 3 rfl ?_
   obtain ⟨cs58, hr59, hx60⟩ := he56 r48.toNat _ (getD_some (d := TJob.z) (by omega))
   obtain ⟨A61, c62, n63, A68, c69, n70, A75, c76, n77, A82, c83, n84, A89, c90, n91, rfl, hn64, hl65, hm66, hS67, hn71, hl72, hm73, hS74, hn78, hl79, hm80, hS81, hn85, hl86, hm87, hS88, hn92, hl93, hm94, hS95⟩ := TJob.open hr59
   refine WL.val (Yl.load (v := .int .i64 ((a0.State.Jobs.getD r48.toNat TJob.z).State)) rfl Tryz.underlying3 rfl (((Ctx.subI 3 C51 rfl)).cell (hx60 1 _ rfl))) ?_
   refine WL.run to 2 rfl ?_
   refine WL.done ?_
   rcases iteE H with ⟨hc96, H⟩ | ⟨hc96, H⟩
   ·refine W.condF (congrArg Value.bool (ndec_t hc96)) ?_
    refine W.seq ?_
    refine W.region_quiet (by kernel_rfl) (by kernel_rfl) rfl ?_
    refine WQ.run to 1 rfl ?_
    refine WQ.vl (fun _ => Yl.loadV (g := g35) (off := 0) (o := 36) (cs := q1) (v := .int .i64 a1.Time) rfl Tryz.underlying3 rfl (Ctx.subI 0 (C51.drewN _) rfl) (at_skip 2 34 rfl (at_skip 32 2 (len_map ha27) rfl))) ?_
    refine WQ.run to 3 rfl ?_
    refine WQ.vl (fun _ => Yl.load (v := .int .i64 ((a0.State.Jobs.getD r48.toNat TJob.z).Until)) rfl Tryz.underlying3 rfl (((Ctx.subI 3 (C51.drewN _) rfl)).cell (hx60 4 _ rfl))) ?_
    refine WQ.run to 2 rfl ?_
    refine WQ.done (fun nq97 => ?_)
    have C98 := Ctx.drewN C51 nq97
    rcases iteE H with ⟨hc99, H⟩ | ⟨hc99, H⟩
    ·refine W.condT (congrArg Value.bool (decide_eq_true hc99)) ?_
     refine W.seq ?_
     refine W.region rfl ?_
     refine WL.run to 1 rfl ?_
     refine WL.done ?_
     refine W.ret ?_
     refine inB_r ?_
     refine thenE_r ?_
     have C100 : Ctx _ _ _ _ _ [CH.row g1 o2 q2, p7, p13, p19, p25] := Ctx.pick [1, 2, 3, 4, 5] C98 rfl
     simp only [Option.some.injEq, Prod.mk.injEq] at H
     obtain ⟨e101, e102⟩ := H
     subst e101 e102
     exact post_r (resE1 rfl rfl) ⟨F, A3, c4, n5, p7, A9, c10, n11, p13, A15, c16, n17, p19, A21, c22, n23, p25, rfl, (CH.le_refl _), C100, hn6, hR8, hn12, hR14, hn18, hR20, hn24, hR26⟩
    ·refine W.condF (congrArg Value.bool (decide_eq_false hc99)) ?_
     refine W.skip ?_
     refine inB_n ?_
     refine W.seq ?_
     refine W.region rfl ?_
     refine WL.run to 1 rfl ?_
     have C103 : Ctx _ _ _ _ _ [p13, CH.row g35 0 q1, CH.row g1 o2 q2, p7, p19, p25] := Ctx.pick [3, 0, 1, 2, 4, 5] C98 rfl
     obtain ⟨r105, hg104, H⟩ := bindE H
     refine WL.callH (docket_again.calls k _ F A9 c10 n11 p13 (a0.State.Jobs, r48) (Ctx.pre (qs := [p13]) (rest := [CH.row g35 0 q1, CH.row g1 o2 q2, p7, p19, p25]) C103) hn12 hR14 (show 0 ≤ r48 ∧ r48 < (a0.State.Jobs.length : Int) from by omega) r105 hg104) (Yenter.fn Tryz.func77 (by kernel_rfl) rfl (argsE (.cons ((show _ = Value.pointer (some ⟨b53, of54 + r48.toNat * 9, none⟩) from rfl).trans (elp_eq (z := 9) hA55 (show 0 ≤ r48 ∧ r48 < (a0.State.Jobs.length : Int) from by omega) hn12).symm) .nil))) ?_
     rintro e_ w_ ⟨F106, p108, rfl, le107, C111, hn110, hR109⟩
     refine ⟨_, rfl, ?_⟩
     have C112 : Ctx _ _ _ _ _ [p108, CH.row g35 0 q1, CH.row g1 o2 q2, p7, p19, p25] := Ctx.call (qs := [p13]) (rest := [CH.row g35 0 q1, CH.row g1 o2 q2, p7, p19, p25]) C103 C111
     have hR113 := Row.mono hR8 le107
     have hR114 := Row.mono hR20 le107
     have hR115 := Row.mono hR26 le107
     refine WL.done ?_
     refine W.seq ?_
     refine W.region rfl ?_
     refine WL.run to 1 rfl ?_
     refine WL.done ?_
     refine W.ret ?_
     have C116 : Ctx _ _ _ _ _ [CH.row g1 o2 q2, p7, p108, p19, p25] := Ctx.pick [2, 3, 0, 4, 5] C112 rfl
     simp only [Option.some.injEq, Prod.mk.injEq] at H
     obtain ⟨e117, e118⟩ := H
     subst e117 e118
     exact post_r (resE1 rfl rfl) ⟨F106, A3, c4, n5, p7, A9, c10, n11, p108, A15, c16, n17, p19, A21, c22, n23, p25, rfl, le107, C116, hn6, hR113, hn110, hR109, hn18, hR114, hn24, hR115⟩
   ·refine W.condT (congrArg Value.bool (ndec_f hc96)) ?_
    refine W.seq ?_
    refine W.region rfl ?_
    refine WL.run to 1 rfl ?_
    refine WL.done ?_
    refine W.ret ?_
    refine inB_r ?_
    refine thenE_r ?_
    have C119 : Ctx _ _ _ _ _ [CH.row g1 o2 q2, p7, p13, p19, p25] := Ctx.pick [1, 2, 3, 4, 5] C51 rfl
    simp only [Option.some.injEq, Prod.mk.injEq] at H
    obtain ⟨e120, e121⟩ := H
    subst e120 e121
    exact post_r (resE1 rfl rfl) ⟨F, A3, c4, n5, p7, A9, c10, n11, p13, A15, c16, n17, p19, A21, c22, n23, p25, rfl, (CH.le_refl _), C119, hn6, hR8, hn12, hR14, hn18, hR20, hn24, hR26⟩
  ·refine W.condT (congrArg Value.bool (ndec_f hc57)) ?_
   refine W.seq ?_
   refine W.region rfl ?_
   refine WL.run to 2 rfl ?_
   refine WL.done ?_
   refine W.ret ?_
   refine inB_r ?_
   refine thenE_r ?_
   have C122 : Ctx _ _ _ _ _ [CH.row g1 o2 q2, p7, p13, p19, p25] := Ctx.pick [1, 2, 3, 4, 5] C51 rfl
   simp only [Option.some.injEq, Prod.mk.injEq] at H
   obtain ⟨e123, e124⟩ := H
   subst e123 e124
   exact post_r (resE1 rfl rfl) ⟨F, A3, c4, n5, p7, A9, c10, n11, p13, A15, c16, n17, p19, A21, c22, n23, p25, rfl, (CH.le_refl _), C122, hn6, hR8, hn12, hR14, hn18, hR20, hn24, hR26⟩
 ·refine WL.val (Yl.assign (v := .pointer none) (elp_no hc52 hn12)) ?_
  refine WL.run to 1 rfl ?_
  refine WL.done ?_
  refine W.seq ?_
  refine W.block ?_
  refine W.seq ?_
  refine W.region rfl ?_
  refine WL.run to 3 rfl ?_
  refine WL.done ?_
  rcases iteE H with ⟨hc125, H⟩ | ⟨hc125, H⟩
  ·refine W.condF (congrArg Value.bool (ndec_t hc125)) ?_
   refine W.seq ?_
   refine W.region rfl ?_
   refine WL.run to 1 rfl ?_
   obtain ⟨hc126, H⟩ := guardE H
   exact hc126.elim
  ·refine W.condT (congrArg Value.bool (ndec_f hc125)) ?_
   refine W.seq ?_
   refine W.region rfl ?_
   refine WL.run to 2 rfl ?_
   refine WL.done ?_
   refine W.ret ?_
   refine inB_r ?_
   refine thenE_r ?_
   have C127 : Ctx _ _ _ _ _ [CH.row g1 o2 q2, p7, p13, p19, p25] := Ctx.pick [1, 2, 3, 4, 5] C51 rfl
   simp only [Option.some.injEq, Prod.mk.injEq] at H
   obtain ⟨e128, e129⟩ := H
   subst e128 e129
   exact post_r (resE1 rfl rfl) ⟨F, A3, c4, n5, p7, A9, c10, n11, p13, A15, c16, n17, p19, A21, c22, n23, p25, rfl, (CH.le_refl _), C127, hn6, hR8, hn12, hR14, hn18, hR20, hn24, hR26⟩
end Go.Proofs.YtobdpbnadjkhiaaGreat
