/- Functions of the program: each as a plain function of numbers and lists, and the proof that the program's own comes to it. Nothing is assumed but what each theorem says. -/
import Derived.Test.YthdlfclkcdnenaaDoorSGl
namespace Go.Proofs.YthdlfclkcdnenaaDoor
open Go.RowKit Go.WG
set_option linter.unusedVariables false
set_option linter.unusedSimpArgs false
def juratref08_Leaf.f (k : Nat) (a0 : List Int) : Option (List Int) := (juratref02_Join.f k [0] a0).bind fun r25 => (juratref02_Sum.f k r25).bind fun r39 => some r39
set_option maxRecDepth 100000 in
set_option maxHeartbeats 4000000 in
theorem juratref08_Leaf.calls (k : Nat) (w : World) (F : CH) (A1 : Option Addr) (c2 : Nat) (n3 : Nat) (a0 : List Int) (hp : Pre w F []) (hn4 : n3 = a0.length) (hl5 : a0.length ≤ c2) (hm6 : c2 ≤ maxLen) (hS7 : Sl (Kd.int .u8) F F A1 a0) (hG0 : CH.le (CH.row 0 0 (glob0.map (Value.int .u32))) F) (hG2 : CH.le (CH.row 2 0 (glob2.map (Value.int .u32))) F) (r0_ : List Int) (H : juratref08_Leaf.f k a0 = some r0_) :
    Calls Tryd.prog 28 #[.slice A1 n3 c2] w fun e w' => e = .returned (.agg (List.toArray (r0_.map (Value.int .u8)))) ∧ Ctx w F (domL []) w' F [] ∧ r0_.length = 32 := by
  have C := Ctx.start hp
  generalize hD : domL [] = D at C ⊢
  unfold juratref08_Leaf.f at H
  refine Calls.ofW Tryd.func28 rfl (by simp [Tryd.ntmps28]) ?_
  refine W.seq ?_
  refine W.region rfl ?_
  obtain ⟨g8, w9, hy10, C11⟩ := ev_alloc (P := Tryd.prog) (e := 33) ((List.replicate 32 (0 : Int)).map (Value.int .u8)) C zr33 rfl
  refine WL.val (hy10 _ _) ?_
  refine WL.done ?_
  refine W.seq ?_
  refine W.region rfl ?_
  obtain ⟨A12, c13, n14, p15, w16, hn17, hy18, C19, hR20⟩ := ev_lit1' (P := Tryd.prog) 5 (Kd.int .u8) C11 Tryd.underlying28 ti5 ⟨by decide, by decide⟩ 0 (.int .u8 0) rfl
  refine WL.val (hy18 _ _ _ rfl) ?_
  refine WL.val (Yl.move (v := .slice A1 n3 c2) rfl) ?_
  have le21 : CH.le F (CH.join F p15) := CH.le_joinL _ _
  have lp22 : CH.le p15 (CH.join F p15) := CH.le_joinR (Ctx.dis_of [] [CH.row g8 0 ((List.replicate 32 (0 : Int)).map (Value.int .u8))] C19)
  have C23 : Ctx _ _ _ _ (CH.join F p15) [CH.row g8 0 ((List.replicate 32 (0 : Int)).map (Value.int .u8))] := Ctx.freeze [] [CH.row g8 0 ((List.replicate 32 (0 : Int)).map (Value.int .u8))] C19
  obtain ⟨r25, hg24, H⟩ := bindE H
  refine WL.call (args := #[.slice A12 n14 c13, .slice A1 n3 c2]) (Yenter.fn Tryd.func55 (by kernel_rfl) rfl (argsE (.cons rfl (.cons rfl .nil)))) (juratref02_Join.calls k _ (CH.join F p15) A12 c13 n14 [0] A1 c2 n3 a0 (Ctx.pre (qs := []) (rest := [CH.row g8 0 ((List.replicate 32 (0 : Int)).map (Value.int .u8))]) C23) hn17 (Row.len_le hR20).1 (Row.len_le hR20).2.1 (Sl.mono (Row.sl hR20) le21 lp22) hn4 hl5 hm6 (Sl.mono hS7 le21 le21) r25 hg24) ?_
  rintro e_ w_ ⟨A26, c27, n28, p30, rfl, C32, hn29, hR31⟩
  refine ⟨_, rfl, ?_⟩
  have hR33 : Row (Kd.int .u8) F p30 (.slice A26 n28 c27) r25 := hR31
  have C34 : Ctx _ _ _ _ F [p30, p15, CH.row g8 0 ((List.replicate 32 (0 : Int)).map (Value.int .u8))] := Ctx.callL (qs := []) (rest := [p15, CH.row g8 0 ((List.replicate 32 (0 : Int)).map (Value.int .u8))]) C19 le21 C32
  have le35 : CH.le F (CH.join F p30) := CH.le_joinL _ _
  have lp36 : CH.le p30 (CH.join F p30) := CH.le_joinR (Ctx.dis_of [] [p15, CH.row g8 0 ((List.replicate 32 (0 : Int)).map (Value.int .u8))] C34)
  have C37 : Ctx _ _ _ _ (CH.join F p30) [p15, CH.row g8 0 ((List.replicate 32 (0 : Int)).map (Value.int .u8))] := Ctx.freeze [] [p15, CH.row g8 0 ((List.replicate 32 (0 : Int)).map (Value.int .u8))] C34
  obtain ⟨r39, hg38, H⟩ := bindE H
  refine WL.call (args := #[.slice A26 n28 c27]) (Yenter.fn Tryd.func51 (by kernel_rfl) rfl (argsE (.cons rfl .nil))) (juratref02_Sum.calls k _ (CH.join F p30) A26 c27 n28 r25 (Ctx.pre (qs := []) (rest := [p15, CH.row g8 0 ((List.replicate 32 (0 : Int)).map (Value.int .u8))]) C37) hn29 (Row.len_le hR33).1 (Row.len_le hR33).2.1 (Sl.mono (Row.sl hR33) le35 lp36) (CH.le_trans hG0 (CH.le_trans (CH.le_refl _) le35)) (CH.le_trans hG2 (CH.le_trans (CH.le_refl _) le35)) r39 hg38) ?_
  rintro e_ w_ ⟨rfl, C41, ha40⟩
  refine ⟨_, rfl, ?_⟩
  have C42 : Ctx _ _ _ _ F [p30, p15, CH.row g8 0 ((List.replicate 32 (0 : Int)).map (Value.int .u8))] := Ctx.callL (qs := []) (rest := [p30, p15, CH.row g8 0 ((List.replicate 32 (0 : Int)).map (Value.int .u8))]) C34 le35 C41
  obtain ⟨w43, hy44, C45⟩ := ev_set (P := Tryd.prog) (ps1 := [p30, p15]) (ps2 := []) (t := 33) (o := 0) ((List.replicate 32 (0 : Int)).map (Value.int .u8)) [] ((List.replicate 32 (0 : Int)).map (Value.int .u8)) [] (r39.map (Value.int .u8)) (.agg (List.toArray (r39.map (Value.int .u8)))) C42 (by first | (simp only [List.length_append, List.length_map, List.length_cons, List.length_nil, (List.length_replicate ..), ha40]; done) | simp [(List.length_replicate ..), ha40]) (by first | (simp only [List.length_append, List.length_map, List.length_cons, List.length_nil, (List.length_replicate ..), ha40]; done) | simp [(List.length_replicate ..), ha40]) (by first | (simp only [List.length_append, List.length_map, List.length_cons, List.length_nil, (List.length_replicate ..), ha40]; done) | simp [(List.length_replicate ..), ha40]) rfl (one_ints _ _) (sz_of sz33 (by first | (simp only [List.length_append, List.length_map, List.length_cons, List.length_nil, ha40]; done) | simp [ha40]))
  have C46 : Ctx _ _ _ _ F [p30, p15, CH.row g8 0 (r39.map (Value.int .u8))] := (by simpa using C45)
  refine WL.skip (hy44 _ _ _ _ rfl rfl) ?_
  refine WL.done ?_
  refine W.ret ?_
  have C47 : Ctx _ _ _ _ F [p15, CH.row g8 0 (r39.map (Value.int .u8))] := Ctx.drop [] [p15, CH.row g8 0 (r39.map (Value.int .u8))] C46
  have C48 : Ctx _ _ _ _ F [CH.row g8 0 (r39.map (Value.int .u8))] := Ctx.drop [] [CH.row g8 0 (r39.map (Value.int .u8))] C47
  have C49 : Ctx _ _ _ _ F [] := Ctx.drop [] [] C48
  have e50 := Option.some.inj H
  subst e50
  exact post_r (resEC rfl ((.cell rfl (run_loadVA2 (g := g8) (off := 0) (o := 0) (cs := r39.map (Value.int .u8)) (us := r39.map (Value.int .u8)) Tryd.underlying33 rfl (sz_of sz33 (by first | (simp only [List.length_append, List.length_map, List.length_cons, List.length_nil, ha40]; done) | simp [ha40])) (Ctx.sub_of [p30, p15] [] C46) (take_all _)) .nil))) ⟨rfl, C49, ha40⟩
def juratref08_Node.f (k : Nat) (a0 : List Int) (a1 : List Int) : Option (List Int) := (juratref03_Bytes.f k a0).bind fun r25 => if ([1].length + r25.length) * 1 ≤ 140737488355328 then ((juratref03_Bytes.f k a1).bind fun r46 => if (([1] ++ r25).length + r46.length) * 1 ≤ 140737488355328 then ((juratref02_Sum.f k (([1] ++ r25) ++ r46)).bind fun r70 => some r70) else none) else none
set_option maxRecDepth 100000 in
set_option maxHeartbeats 4000000 in
theorem juratref08_Node.calls (k : Nat) (w : World) (F : CH) (a0 : List Int) (a1 : List Int) (hp : Pre w F []) (ha1 : a0.length = 32) (ha2 : a1.length = 32) (hG0 : CH.le (CH.row 0 0 (glob0.map (Value.int .u32))) F) (hG2 : CH.le (CH.row 2 0 (glob2.map (Value.int .u32))) F) (r0_ : List Int) (H : juratref08_Node.f k a0 a1 = some r0_) :
    Calls Tryd.prog 26 #[.agg (List.toArray (a0.map (Value.int .u8))), .agg (List.toArray (a1.map (Value.int .u8)))] w fun e w' => e = .returned (.agg (List.toArray (r0_.map (Value.int .u8)))) ∧ Ctx w F (domL []) w' F [] ∧ r0_.length = 32 := by
  have C := Ctx.start hp
  generalize hD : domL [] = D at C ⊢
  unfold juratref08_Node.f at H
  refine Calls.ofW Tryd.func26 rfl (by simp [Tryd.ntmps26]) ?_
  refine W.seq ?_
  refine W.region rfl ?_
  obtain ⟨g3, w4, hy5, C6⟩ := ev_box (P := Tryd.prog) 33 (.agg (List.toArray (a0.map (Value.int .u8)))) (a0.map (Value.int .u8)) C rfl
  refine WL.val (hy5 _ _ _ rfl) ?_
  obtain ⟨g7, w8, hy9, C10⟩ := ev_box (P := Tryd.prog) 33 (.agg (List.toArray (a1.map (Value.int .u8)))) (a1.map (Value.int .u8)) C6 rfl
  refine WL.val (hy9 _ _ _ rfl) ?_
  obtain ⟨g11, w12, hy13, C14⟩ := ev_alloc (P := Tryd.prog) (e := 33) ((List.replicate 32 (0 : Int)).map (Value.int .u8)) C10 zr33 rfl
  refine WL.val (hy13 _ _) ?_
  refine WL.done ?_
  refine W.seq ?_
  refine W.region rfl ?_
  obtain ⟨A15, c16, n17, p18, w19, hn20, hy21, C22, hR23⟩ := ev_lit1' (P := Tryd.prog) 5 (Kd.int .u8) C14 Tryd.underlying28 ti5 ⟨by decide, by decide⟩ 1 (.int .u8 1) rfl
  refine WL.val (hy21 _ _ _ rfl) ?_
  refine WL.val (Yl.assign (v := .slice A15 n17 c16) rfl) ?_
  refine WL.done ?_
  refine W.seq ?_
  refine W.region rfl ?_
  refine WL.val (Yl.move (v := .slice A15 n17 c16) rfl) ?_
  refine WL.val (Yl.loadVA (g := g3) (off := 0) (o := 0) (cs := a0.map (Value.int .u8)) (us := a0.map (Value.int .u8)) rfl Tryd.underlying33 rfl (sz_of sz33 (by first | (simp only [List.length_append, List.length_map, List.length_cons, List.length_nil, ha1]; done) | simp [ha1])) (Ctx.sub_of [p18, CH.row g11 0 ((List.replicate 32 (0 : Int)).map (Value.int .u8)), CH.row g7 0 (a1.map (Value.int .u8))] [] C22) (take_all _)) ?_
  obtain ⟨r25, hg24, H⟩ := bindE H
  refine WL.call (args := #[.agg (List.toArray (a0.map (Value.int .u8)))]) (Yenter.fn Tryd.func54 (by kernel_rfl) rfl (argsE (.cons rfl .nil))) (juratref03_Bytes.calls k _ F a0 (Ctx.pre (qs := []) (rest := [p18, CH.row g11 0 ((List.replicate 32 (0 : Int)).map (Value.int .u8)), CH.row g7 0 (a1.map (Value.int .u8)), CH.row g3 0 (a0.map (Value.int .u8))]) C22) ha1 r25 hg24) ?_
  rintro e_ w_ ⟨A26, c27, n28, p30, rfl, C32, hn29, hR31⟩
  refine ⟨_, rfl, ?_⟩
  have C33 : Ctx _ _ _ _ F [p30, p18, CH.row g11 0 ((List.replicate 32 (0 : Int)).map (Value.int .u8)), CH.row g7 0 (a1.map (Value.int .u8)), CH.row g3 0 (a0.map (Value.int .u8))] := Ctx.call (qs := []) (rest := [p18, CH.row g11 0 ((List.replicate 32 (0 : Int)).map (Value.int .u8)), CH.row g7 0 (a1.map (Value.int .u8)), CH.row g3 0 (a0.map (Value.int .u8))]) C22 C32
  obtain ⟨hc34, H⟩ := guardE H
  obtain ⟨A35, c36, n37, p38, w39, hn40, hy41, C42, hR43⟩ := ev_append' (P := Tryd.prog) (cb := c27) 5 (Kd.int .u8) [p30] [CH.row g11 0 ((List.replicate 32 (0 : Int)).map (Value.int .u8)), CH.row g7 0 (a1.map (Value.int .u8)), CH.row g3 0 (a0.map (Value.int .u8))] C33 hR23 hn29 (Row.sl hR31) (Ctx.sub_of [] [p18, CH.row g11 0 ((List.replicate 32 (0 : Int)).map (Value.int .u8)), CH.row g7 0 (a1.map (Value.int .u8)), CH.row g3 0 (a0.map (Value.int .u8))] C33) Tryd.underlying28 ti5 rfl zo5 (by decide) (by decide) (by simpa using hc34)
  have C44 : Ctx _ _ _ _ F [p30, p38, CH.row g11 0 ((List.replicate 32 (0 : Int)).map (Value.int .u8)), CH.row g7 0 (a1.map (Value.int .u8)), CH.row g3 0 (a0.map (Value.int .u8))] := C42
  refine WL.val (hy41 _ _ _ _ rfl rfl) ?_
  refine WL.val (Yl.assign (v := .slice A35 n37 c36) rfl) ?_
  refine WL.done ?_
  refine W.seq ?_
  refine W.region rfl ?_
  refine WL.val (Yl.move (v := .slice A35 n37 c36) rfl) ?_
  refine WL.val (Yl.loadVA (g := g7) (off := 0) (o := 0) (cs := a1.map (Value.int .u8)) (us := a1.map (Value.int .u8)) rfl Tryd.underlying33 rfl (sz_of sz33 (by first | (simp only [List.length_append, List.length_map, List.length_cons, List.length_nil, ha2]; done) | simp [ha2])) (Ctx.sub_of [p30, p38, CH.row g11 0 ((List.replicate 32 (0 : Int)).map (Value.int .u8))] [CH.row g3 0 (a0.map (Value.int .u8))] C44) (take_all _)) ?_
  obtain ⟨r46, hg45, H⟩ := bindE H
  refine WL.call (args := #[.agg (List.toArray (a1.map (Value.int .u8)))]) (Yenter.fn Tryd.func54 (by kernel_rfl) rfl (argsE (.cons rfl .nil))) (juratref03_Bytes.calls k _ F a1 (Ctx.pre (qs := []) (rest := [p30, p38, CH.row g11 0 ((List.replicate 32 (0 : Int)).map (Value.int .u8)), CH.row g7 0 (a1.map (Value.int .u8)), CH.row g3 0 (a0.map (Value.int .u8))]) C44) ha2 r46 hg45) ?_
  rintro e_ w_ ⟨A47, c48, n49, p51, rfl, C53, hn50, hR52⟩
  refine ⟨_, rfl, ?_⟩
  have C54 : Ctx _ _ _ _ F [p51, p30, p38, CH.row g11 0 ((List.replicate 32 (0 : Int)).map (Value.int .u8)), CH.row g7 0 (a1.map (Value.int .u8)), CH.row g3 0 (a0.map (Value.int .u8))] := Ctx.call (qs := []) (rest := [p30, p38, CH.row g11 0 ((List.replicate 32 (0 : Int)).map (Value.int .u8)), CH.row g7 0 (a1.map (Value.int .u8)), CH.row g3 0 (a0.map (Value.int .u8))]) C44 C53
  obtain ⟨hc55, H⟩ := guardE H
  obtain ⟨A56, c57, n58, p59, w60, hn61, hy62, C63, hR64⟩ := ev_append' (P := Tryd.prog) (cb := c48) 5 (Kd.int .u8) [p51, p30] [CH.row g11 0 ((List.replicate 32 (0 : Int)).map (Value.int .u8)), CH.row g7 0 (a1.map (Value.int .u8)), CH.row g3 0 (a0.map (Value.int .u8))] C54 hR43 hn50 (Row.sl hR52) (Ctx.sub_of [] [p30, p38, CH.row g11 0 ((List.replicate 32 (0 : Int)).map (Value.int .u8)), CH.row g7 0 (a1.map (Value.int .u8)), CH.row g3 0 (a0.map (Value.int .u8))] C54) Tryd.underlying28 ti5 rfl zo5 (by decide) (by decide) (by simpa using hc55)
  have C65 : Ctx _ _ _ _ F [p51, p30, p59, CH.row g11 0 ((List.replicate 32 (0 : Int)).map (Value.int .u8)), CH.row g7 0 (a1.map (Value.int .u8)), CH.row g3 0 (a0.map (Value.int .u8))] := C63
  refine WL.val (hy62 _ _ _ _ rfl rfl) ?_
  refine WL.val (Yl.assign (v := .slice A56 n58 c57) rfl) ?_
  refine WL.done ?_
  refine W.seq ?_
  refine W.region rfl ?_
  refine WL.val (Yl.move (v := .slice A56 n58 c57) rfl) ?_
  have le66 : CH.le F (CH.join F p59) := CH.le_joinL _ _
  have lp67 : CH.le p59 (CH.join F p59) := CH.le_joinR (Ctx.dis_of [p51, p30] [CH.row g11 0 ((List.replicate 32 (0 : Int)).map (Value.int .u8)), CH.row g7 0 (a1.map (Value.int .u8)), CH.row g3 0 (a0.map (Value.int .u8))] C65)
  have C68 : Ctx _ _ _ _ (CH.join F p59) [p51, p30, CH.row g11 0 ((List.replicate 32 (0 : Int)).map (Value.int .u8)), CH.row g7 0 (a1.map (Value.int .u8)), CH.row g3 0 (a0.map (Value.int .u8))] := Ctx.freeze [p51, p30] [CH.row g11 0 ((List.replicate 32 (0 : Int)).map (Value.int .u8)), CH.row g7 0 (a1.map (Value.int .u8)), CH.row g3 0 (a0.map (Value.int .u8))] C65
  obtain ⟨r70, hg69, H⟩ := bindE H
  refine WL.call (args := #[.slice A56 n58 c57]) (Yenter.fn Tryd.func51 (by kernel_rfl) rfl (argsE (.cons rfl .nil))) (juratref02_Sum.calls k _ (CH.join F p59) A56 c57 n58 (([1] ++ r25) ++ r46) (Ctx.pre (qs := []) (rest := [p51, p30, CH.row g11 0 ((List.replicate 32 (0 : Int)).map (Value.int .u8)), CH.row g7 0 (a1.map (Value.int .u8)), CH.row g3 0 (a0.map (Value.int .u8))]) C68) hn61 (Row.len_le hR64).1 (Row.len_le hR64).2.1 (Sl.mono (Row.sl hR64) le66 lp67) (CH.le_trans hG0 (CH.le_trans (CH.le_refl _) le66)) (CH.le_trans hG2 (CH.le_trans (CH.le_refl _) le66)) r70 hg69) ?_
  rintro e_ w_ ⟨rfl, C72, ha71⟩
  refine ⟨_, rfl, ?_⟩
  have C73 : Ctx _ _ _ _ F [p51, p30, p59, CH.row g11 0 ((List.replicate 32 (0 : Int)).map (Value.int .u8)), CH.row g7 0 (a1.map (Value.int .u8)), CH.row g3 0 (a0.map (Value.int .u8))] := Ctx.callL (qs := []) (rest := [p51, p30, p59, CH.row g11 0 ((List.replicate 32 (0 : Int)).map (Value.int .u8)), CH.row g7 0 (a1.map (Value.int .u8)), CH.row g3 0 (a0.map (Value.int .u8))]) C65 le66 C72
  obtain ⟨w74, hy75, C76⟩ := ev_set (P := Tryd.prog) (ps1 := [p51, p30, p59]) (ps2 := [CH.row g7 0 (a1.map (Value.int .u8)), CH.row g3 0 (a0.map (Value.int .u8))]) (t := 33) (o := 0) ((List.replicate 32 (0 : Int)).map (Value.int .u8)) [] ((List.replicate 32 (0 : Int)).map (Value.int .u8)) [] (r70.map (Value.int .u8)) (.agg (List.toArray (r70.map (Value.int .u8)))) C73 (by first | (simp only [List.length_append, List.length_map, List.length_cons, List.length_nil, (List.length_replicate ..), ha71]; done) | simp [(List.length_replicate ..), ha71]) (by first | (simp only [List.length_append, List.length_map, List.length_cons, List.length_nil, (List.length_replicate ..), ha71]; done) | simp [(List.length_replicate ..), ha71]) (by first | (simp only [List.length_append, List.length_map, List.length_cons, List.length_nil, (List.length_replicate ..), ha71]; done) | simp [(List.length_replicate ..), ha71]) rfl (one_ints _ _) (sz_of sz33 (by first | (simp only [List.length_append, List.length_map, List.length_cons, List.length_nil, ha71]; done) | simp [ha71]))
  have C77 : Ctx _ _ _ _ F [p51, p30, p59, CH.row g11 0 (r70.map (Value.int .u8)), CH.row g7 0 (a1.map (Value.int .u8)), CH.row g3 0 (a0.map (Value.int .u8))] := (by simpa using C76)
  refine WL.skip (hy75 _ _ _ _ rfl rfl) ?_
  refine WL.done ?_
  refine W.ret ?_
  have C78 : Ctx _ _ _ _ F [p30, p59, CH.row g11 0 (r70.map (Value.int .u8)), CH.row g7 0 (a1.map (Value.int .u8)), CH.row g3 0 (a0.map (Value.int .u8))] := Ctx.drop [] [p30, p59, CH.row g11 0 (r70.map (Value.int .u8)), CH.row g7 0 (a1.map (Value.int .u8)), CH.row g3 0 (a0.map (Value.int .u8))] C77
  have C79 : Ctx _ _ _ _ F [p59, CH.row g11 0 (r70.map (Value.int .u8)), CH.row g7 0 (a1.map (Value.int .u8)), CH.row g3 0 (a0.map (Value.int .u8))] := Ctx.drop [] [p59, CH.row g11 0 (r70.map (Value.int .u8)), CH.row g7 0 (a1.map (Value.int .u8)), CH.row g3 0 (a0.map (Value.int .u8))] C78
  have C80 : Ctx _ _ _ _ F [CH.row g11 0 (r70.map (Value.int .u8)), CH.row g7 0 (a1.map (Value.int .u8)), CH.row g3 0 (a0.map (Value.int .u8))] := Ctx.drop [] [CH.row g11 0 (r70.map (Value.int .u8)), CH.row g7 0 (a1.map (Value.int .u8)), CH.row g3 0 (a0.map (Value.int .u8))] C79
  have C81 : Ctx _ _ _ _ F [CH.row g7 0 (a1.map (Value.int .u8)), CH.row g3 0 (a0.map (Value.int .u8))] := Ctx.drop [] [CH.row g7 0 (a1.map (Value.int .u8)), CH.row g3 0 (a0.map (Value.int .u8))] C80
  have C82 : Ctx _ _ _ _ F [CH.row g3 0 (a0.map (Value.int .u8))] := Ctx.drop [] [CH.row g3 0 (a0.map (Value.int .u8))] C81
  have C83 : Ctx _ _ _ _ F [] := Ctx.drop [] [] C82
  have e84 := Option.some.inj H
  subst e84
  exact post_r (resEC rfl ((.cell rfl (run_loadVA2 (g := g11) (off := 0) (o := 0) (cs := r70.map (Value.int .u8)) (us := r70.map (Value.int .u8)) Tryd.underlying33 rfl (sz_of sz33 (by first | (simp only [List.length_append, List.length_map, List.length_cons, List.length_nil, ha71]; done) | simp [ha71])) (Ctx.sub_of [p51, p30, p59] [CH.row g7 0 (a1.map (Value.int .u8)), CH.row g3 0 (a0.map (Value.int .u8))] C77) (take_all _)) .nil))) ⟨rfl, C83, ha71⟩
def juratref08_split.l1 : Nat → Int → Int → Option Int
  | 0, _, _ => none
  | k + 1, a0, x16 => if x16 ≤ (wi64 ((wi64 (a0 - 1)).tdiv 2)) then (juratref08_split.l1 k a0 (wi64 (2 * x16))) else (some x16)
def juratref08_split.f (k : Nat) (a0 : Int) : Option Int := (juratref08_split.l1 k a0 1).bind fun x10 => some x10
set_option maxRecDepth 100000 in
set_option maxHeartbeats 4000000 in
theorem juratref08_split.calls (k : Nat) (w : World) (F : CH) (a0 : Int) (hp : Pre w F [])  (r0_ : Int) (H : juratref08_split.f k a0 = some r0_) :
    Calls Tryd.prog 52 #[.int .i64 a0] w fun e w' => e = .returned (.int .i64 r0_) ∧ (∃ n_, w' = w.drewN n_) := by
  have C := Ctx.start hp
  generalize domL [] = D at C
  have W0 : ∃ n_, w = w.drewN n_ := ⟨0, rfl⟩
  unfold juratref08_split.f at H
  refine Calls.ofW Tryd.func52 rfl (by simp [Tryd.ntmps52]) ?_
  refine W.seq ?_
  refine W.region rfl ?_
  refine WL.val (Yl.assign (v := .int .i64 0) rfl) ?_
  refine WL.done ?_
  refine W.seq ?_
  refine W.region rfl ?_
  refine WL.val (Yl.assign (v := .int .i64 1) rfl) ?_
  refine WL.done ?_
  refine W.seq ?_
  obtain ⟨x10, hX13, H⟩ := bindE H
  refine W.cutM (fun env_ w_ => env_ 3 = .int .i64 x10 ∧ Ctx w F D w_ F [] ∧ (∃ n_, w_ = w.drewN n_)) ?_ ?_
  · skip
    refine W.block ?_
    refine W.loop (fun g_ env_ w_ => ∃ (x16 : Int), env_ 0 = .int .i64 a0 ∧ env_ 3 = .int .i64 x16 ∧ Ctx w F D w_ F [] ∧ (∃ n_, w_ = w.drewN n_) ∧ juratref08_split.l1 g_ a0 x16 = some x10) k ⟨1, rfl, rfl, C, W0, hX13⟩ ?_
    clear hX13
    rintro g_ env_ w_ ⟨x16, ho14, ho15, C17, Wq18, hX13⟩
    rcases g_ with _ | k20
    · exact absurd hX13 (by simp [juratref08_split.l1])
    rw [juratref08_split.l1] at hX13
    refine W.seq ?_
    refine W.seq ?_
    refine W.region rfl ?_
    refine WL.val (Yl.move (v := .int .i64 x16) ho15) ?_
    refine WL.val (Yl.move (v := .int .i64 a0) ho14) ?_
    refine WL.val (Yl.sub (m := a0) (n := 1) (r := wi64 (a0 - 1)) rfl rfl rfl) ?_
    refine WL.val (Yl.quo (m := wi64 (a0 - 1)) (n := 2) (r := wi64 ((wi64 (a0 - 1)).tdiv 2)) rfl rfl (by decide) rfl) ?_
    refine WL.val (Yl.leq (m := x16) (n := wi64 ((wi64 (a0 - 1)).tdiv 2)) (q := decide (x16 ≤ (wi64 ((wi64 (a0 - 1)).tdiv 2)))) rfl rfl rfl) ?_
    refine WL.done ?_
    rcases iteE hX13 with ⟨hc21, hX13⟩ | ⟨hc21, hX13⟩
    · skip
      refine W.condT (congrArg Value.bool (decide_eq_true hc21)) ?_
      refine W.skip ?_
      refine W.block ?_
      refine W.region rfl ?_
      refine WL.val (Yl.move (v := .int .i64 x16) ho15) ?_
      refine WL.val (Yl.mul (m := 2) (n := x16) (r := wi64 (2 * x16)) rfl rfl rfl) ?_
      refine WL.val (Yl.assign (v := .int .i64 (wi64 (2 * x16))) rfl) ?_
      refine WL.done ?_
      refine inB_n ?_
      exact thenE_n ⟨k20, Nat.lt_succ_self _, wi64 (2 * x16), ho14, rfl, C17, Wq18, hX13⟩
    · skip
      refine W.condF (congrArg Value.bool (decide_eq_false hc21)) ?_
      refine W.exit ?_
      refine thenE_x ?_
      refine thenE_x ?_
      refine inB_here ?_
      cases hX13
      refine thenE_n ?_
      exact ⟨ho15, C17, Wq18⟩
  · skip
    rintro env_ w_ ⟨ho9, C11, Wq12⟩
    refine W.seq ?_
    refine W.region rfl ?_
    refine WL.val (Yl.move (v := .int .i64 x10) ho9) ?_
    refine WL.val (Yl.assign (v := .int .i64 x10) rfl) ?_
    refine WL.done ?_
    refine W.ret ?_
    have e22 := Option.some.inj H
    subst e22
    exact post_r (resE1 rfl rfl) ⟨rfl, Wq12⟩
def juratref08_Root.f : Nat → List (List Int) → Option (List Int)
  | 0, _ => none
  | k + 1, a0 => if (a0.length : Int) = 0 then ((juratref02_Sum.f k ([] : List Int)).bind fun r14 => some r14) else (if (a0.length : Int) = 1 then (if 0 ≤ (0 : Int) ∧ (0 : Int) < (a0.length : Int) then (some (a0.getD (0 : Int).toNat [])) else none) else ((juratref08_split.f k (a0.length : Int)).bind fun r41 => if 0 ≤ r41 ∧ r41 ≤ (a0.length : Int) then (if 0 ≤ r41 ∧ r41 ≤ (a0.length : Int) ∧ (a0.length : Int) ≤ (a0.length : Int) then ((juratref08_Root.f k (a0.take r41.toNat)).bind fun r91 => (juratref08_Root.f k (a0.drop r41.toNat)).bind fun r96 => (juratref08_Node.f k r91 r96).bind fun r101 => some r101) else none) else none))
set_option maxRecDepth 100000 in
set_option maxHeartbeats 4000000 in
theorem juratref08_Root.calls : ∀ (k : Nat) (w : World) (F : CH) (A1 : Option Addr) (c2 : Nat) (n3 : Nat) (a0 : List (List Int)) (hp : Pre w F []) (hn4 : n3 = a0.length) (hl5 : a0.length ≤ c2) (hm6 : c2 ≤ maxLen) (hS7 : Sl (Kd.arrI 32 .u8) F F A1 a0) (hG0 : CH.le (CH.row 0 0 (glob0.map (Value.int .u32))) F) (hG2 : CH.le (CH.row 2 0 (glob2.map (Value.int .u32))) F) (r0_ : List Int) (H : juratref08_Root.f k a0 = some r0_),
    Calls Tryd.prog 24 #[.slice A1 n3 c2] w fun e w' => e = .returned (.agg (List.toArray (r0_.map (Value.int .u8)))) ∧ Ctx w F (domL []) w' F [] ∧ r0_.length = 32 := by
  intro k
  induction k with
  | zero => intro w F A1 c2 n3 a0 hp hn4 hl5 hm6 hS7 hG0 hG2 r0_ H; exact absurd H (by simp [juratref08_Root.f])
  | succ k ih =>
    intro w F A1 c2 n3 a0 hp hn4 hl5 hm6 hS7 hG0 hG2 r0_ H
    have C := Ctx.start hp
    generalize hD : domL [] = D at C ⊢
    rw [juratref08_Root.f] at H
    refine Calls.ofW Tryd.func24 rfl (by simp [Tryd.ntmps24]) ?_
    refine W.seq ?_
    refine W.region rfl ?_
    obtain ⟨g8, w9, hy10, C11⟩ := ev_alloc (P := Tryd.prog) (e := 33) ((List.replicate 32 (0 : Int)).map (Value.int .u8)) C zr33 rfl
    refine WL.val (hy10 _ _) ?_
    refine WL.done ?_
    refine W.seq ?_
    refine W.seq ?_
    refine W.region rfl ?_
    refine WL.val (Yl.move (v := .slice A1 n3 c2) rfl) ?_
    refine WL.val (Yl.lenN (A := A1) (l := n3) (q := c2) (n := (a0.length : Int)) rfl Tryd.underlying31 (by omega)) ?_
    refine WL.val (Yl.eql (m := (a0.length : Int)) (n := 0) (q := decide ((a0.length : Int) = 0)) rfl rfl rfl) ?_
    refine WL.done ?_
    rcases iteE H with ⟨hc12, H⟩ | ⟨hc12, H⟩
    · skip
      refine W.condT (congrArg Value.bool (decide_eq_true hc12)) ?_
      refine W.seq ?_
      refine W.region rfl ?_
      obtain ⟨r14, hg13, H⟩ := bindE H
      refine WL.call (args := #[.slice none 0 0]) (Yenter.fn Tryd.func51 (by kernel_rfl) rfl (argsE (.cons rfl .nil))) (juratref02_Sum.calls k _ F none 0 0 ([] : List Int) (Ctx.pre (qs := []) (rest := [CH.row g8 0 ((List.replicate 32 (0 : Int)).map (Value.int .u8))]) C11) rfl (Nat.le_refl _) (Nat.zero_le _) (Sl.nil _ _ _ _) (CH.le_trans hG0 (CH.le_trans (CH.le_refl _) (CH.le_refl _))) (CH.le_trans hG2 (CH.le_trans (CH.le_refl _) (CH.le_refl _))) r14 hg13) ?_
      rintro e_ w_ ⟨rfl, C16, ha15⟩
      refine ⟨_, rfl, ?_⟩
      have C17 : Ctx _ _ _ _ F [CH.row g8 0 ((List.replicate 32 (0 : Int)).map (Value.int .u8))] := Ctx.call (qs := []) (rest := [CH.row g8 0 ((List.replicate 32 (0 : Int)).map (Value.int .u8))]) C11 C16
      obtain ⟨w18, hy19, C20⟩ := ev_set (P := Tryd.prog) (ps1 := []) (ps2 := []) (t := 33) (o := 0) ((List.replicate 32 (0 : Int)).map (Value.int .u8)) [] ((List.replicate 32 (0 : Int)).map (Value.int .u8)) [] (r14.map (Value.int .u8)) (.agg (List.toArray (r14.map (Value.int .u8)))) C17 (by first | (simp only [List.length_append, List.length_map, List.length_cons, List.length_nil, (List.length_replicate ..), ha15]; done) | simp [(List.length_replicate ..), ha15]) (by first | (simp only [List.length_append, List.length_map, List.length_cons, List.length_nil, (List.length_replicate ..), ha15]; done) | simp [(List.length_replicate ..), ha15]) (by first | (simp only [List.length_append, List.length_map, List.length_cons, List.length_nil, (List.length_replicate ..), ha15]; done) | simp [(List.length_replicate ..), ha15]) rfl (one_ints _ _) (sz_of sz33 (by first | (simp only [List.length_append, List.length_map, List.length_cons, List.length_nil, ha15]; done) | simp [ha15]))
      have C21 : Ctx _ _ _ _ F [CH.row g8 0 (r14.map (Value.int .u8))] := (by simpa using C20)
      refine WL.skip (hy19 _ _ _ _ rfl rfl) ?_
      refine WL.done ?_
      refine W.ret ?_
      refine thenE_r ?_
      have C22 : Ctx _ _ _ _ F [] := Ctx.drop [] [] C21
      have e23 := Option.some.inj H
      subst e23
      exact post_r (resEC rfl ((.cell rfl (run_loadVA2 (g := g8) (off := 0) (o := 0) (cs := r14.map (Value.int .u8)) (us := r14.map (Value.int .u8)) Tryd.underlying33 rfl (sz_of sz33 (by first | (simp only [List.length_append, List.length_map, List.length_cons, List.length_nil, ha15]; done) | simp [ha15])) (Ctx.sub_of [] [] C21) (take_all _)) .nil))) ⟨rfl, C22, ha15⟩
    · skip
      refine W.condF (congrArg Value.bool (decide_eq_false hc12)) ?_
      refine W.skip ?_
      refine W.seq ?_
      refine W.seq ?_
      refine W.region rfl ?_
      refine WL.val (Yl.move (v := .slice A1 n3 c2) rfl) ?_
      refine WL.val (Yl.lenN (A := A1) (l := n3) (q := c2) (n := (a0.length : Int)) rfl Tryd.underlying31 (by omega)) ?_
      refine WL.val (Yl.eql (m := (a0.length : Int)) (n := 1) (q := decide ((a0.length : Int) = 1)) rfl rfl rfl) ?_
      refine WL.done ?_
      rcases iteE H with ⟨hc24, H⟩ | ⟨hc24, H⟩
      · skip
        refine W.condT (congrArg Value.bool (decide_eq_true hc24)) ?_
        refine W.seq ?_
        refine W.region rfl ?_
        refine WL.val (Yl.move (v := .slice A1 n3 c2) rfl) ?_
        obtain ⟨hc25, H⟩ := guardE H
        obtain ⟨b26, of27, hA28, he29⟩ := hS7 (by omega)
        refine WL.val (Yl.elemAddr (i := 0) rfl rfl hA28 Tryd.underlying31 sz33 (by omega)) ?_
        obtain ⟨cs30, hr31, hx32⟩ := he29 (0 : Int).toNat _ (getD_some (d := []) (by omega))
        obtain ⟨rfl, ha33⟩ := hr31
        refine WL.val (Yl.loadAgg (cs := (a0.getD (0 : Int).toNat []).map (Value.int .u8)) rfl Tryd.underlying33 rfl (sz_of sz33 (by first | (simp only [List.length_append, List.length_map, List.length_cons, List.length_nil, ha33]; done) | simp [ha33])) (fun j u hu => by rw [add_of]; exact ((C11.fro)).cell (hx32 _ _ hu))) ?_
        obtain ⟨w34, hy35, C36⟩ := ev_set (P := Tryd.prog) (ps1 := []) (ps2 := []) (t := 33) (o := 0) ((List.replicate 32 (0 : Int)).map (Value.int .u8)) [] ((List.replicate 32 (0 : Int)).map (Value.int .u8)) [] ((a0.getD (0 : Int).toNat []).map (Value.int .u8)) (.agg (List.toArray ((a0.getD (0 : Int).toNat []).map (Value.int .u8)))) C11 (by first | (simp only [List.length_append, List.length_map, List.length_cons, List.length_nil, (List.length_replicate ..), ha33]; done) | simp [(List.length_replicate ..), ha33]) (by first | (simp only [List.length_append, List.length_map, List.length_cons, List.length_nil, (List.length_replicate ..), ha33]; done) | simp [(List.length_replicate ..), ha33]) (by first | (simp only [List.length_append, List.length_map, List.length_cons, List.length_nil, (List.length_replicate ..), ha33]; done) | simp [(List.length_replicate ..), ha33]) rfl (one_ints _ _) (sz_of sz33 (by first | (simp only [List.length_append, List.length_map, List.length_cons, List.length_nil, ha33]; done) | simp [ha33]))
        have C37 : Ctx _ _ _ _ F [CH.row g8 0 ((a0.getD (0 : Int).toNat []).map (Value.int .u8))] := (by simpa using C36)
        refine WL.skip (hy35 _ _ _ _ rfl rfl) ?_
        refine WL.done ?_
        refine W.ret ?_
        refine thenE_r ?_
        have C38 : Ctx _ _ _ _ F [] := Ctx.drop [] [] C37
        have e39 := Option.some.inj H
        subst e39
        exact post_r (resEC rfl ((.cell rfl (run_loadVA2 (g := g8) (off := 0) (o := 0) (cs := (a0.getD (0 : Int).toNat []).map (Value.int .u8)) (us := (a0.getD (0 : Int).toNat []).map (Value.int .u8)) Tryd.underlying33 rfl (sz_of sz33 (by first | (simp only [List.length_append, List.length_map, List.length_cons, List.length_nil, ha33]; done) | simp [ha33])) (Ctx.sub_of [] [] C37) (take_all _)) .nil))) ⟨rfl, C38, ha33⟩
      · skip
        refine W.condF (congrArg Value.bool (decide_eq_false hc24)) ?_
        refine W.skip ?_
        refine W.seq ?_
        refine W.region rfl ?_
        refine WL.val (Yl.move (v := .slice A1 n3 c2) rfl) ?_
        refine WL.val (Yl.lenN (A := A1) (l := n3) (q := c2) (n := (a0.length : Int)) rfl Tryd.underlying31 (by omega)) ?_
        obtain ⟨r41, hg40, H⟩ := bindE H
        refine WL.call (args := #[.int .i64 (a0.length : Int)]) (Yenter.fn Tryd.func52 (by kernel_rfl) rfl (argsE (.cons rfl .nil))) (juratref08_split.calls k _ F (a0.length : Int) C11.pre0  r41 hg40) ?_
        rintro e_ w_ ⟨rfl, ⟨m42, rfl⟩⟩
        refine ⟨_, rfl, ?_⟩
        have C43 := Ctx.drewN C11 m42
        refine WL.val (Yl.assign (v := .int .i64 r41) rfl) ?_
        refine WL.done ?_
        refine W.seq ?_
        refine W.regionA [] (by kernel_rfl) ?_
        have C76 := Ctx.drewN C43 1
        refine WA.take none [] 0 rfl (by kernel_rfl) (by kernel_rfl) (show _ = #[true, false, false, false, false, false, false, false, false, false] from rfl) trivial trivial (fun _ hC_ => Yl.move (v := .slice A1 n3 c2) rfl) ?_
        refine WA.take none [] 1 rfl (by kernel_rfl) (by kernel_rfl) (show _ = #[true, true, false, false, false, false, false, false, false, false] from rfl) trivial trivial (fun _ hC_ => Yl.move (v := .int .i64 r41) rfl) ?_
        obtain ⟨hc77, H⟩ := guardE H
        have hn78 : r41.toNat = (a0.take r41.toNat).length := by rw [List.length_take]; omega
        refine WA.take none [] 2 rfl (by kernel_rfl) (by kernel_rfl) (show _ = #[true, true, true, false, false, false, false, false, false, false] from rfl) trivial trivial (fun _ hC_ => Yl.sliceHi rfl Tryd.underlying31 sz33 rfl ⟨hc77.1, by omega⟩) ?_
        refine WA.take none [] 4 rfl (by kernel_rfl) (by kernel_rfl) (show _ = #[true, true, true, false, true, false, false, false, false, false] from rfl) trivial trivial (fun _ hC_ => Yl.move (v := .slice A1 n3 c2) rfl) ?_
        refine WA.take none [] 5 rfl (by kernel_rfl) (by kernel_rfl) (show _ = #[true, true, true, false, true, true, false, false, false, false] from rfl) trivial trivial (fun _ hC_ => Yl.move (v := .int .i64 r41) rfl) ?_
        obtain ⟨hc80, H⟩ := guardE H
        have hl89 : a0.length ≤ c2 ∧ c2 ≤ maxLen := ⟨hl5, hm6⟩
        obtain ⟨A81, c82, n83, hv84, hn85, hl86, hm87, hS88⟩ := Sl.cut hS7 (c := c2) hl89.2 r41.toNat a0.length c2 (by omega) (by omega) (by omega) (by omega)
        rw [List.take_length] at hn85 hl86 hS88
        refine WA.take none [] 6 rfl (by kernel_rfl) (by kernel_rfl) (show _ = #[true, true, true, false, true, true, true, false, false, false] from rfl) trivial trivial (fun _ hC_ => Yl.slice r41.toNat a0.length c2 rfl Tryd.underlying31 sz33 rfl (hn4).symm (OB.mk rfl (by omega)) (by simp) (by omega) (by omega) (by omega) hv84) ?_
        obtain ⟨r91, hg90, H⟩ := bindE H
        refine WA.up1 3 (by kernel_rfl) (Up.call (args := #[.slice A1 r41.toNat c2]) rfl (by kernel_rfl) (show _ = #[true, true, true, true, true, true, true, false, false, false] from rfl) (Yenter.fn Tryd.func24 (by kernel_rfl) rfl (argsE (.cons rfl .nil))) (ih _ F A1 c2 r41.toNat (a0.take r41.toNat) (Ctx.pre (qs := []) (rest := [CH.row g8 0 ((List.replicate 32 (0 : Int)).map (Value.int .u8))]) C76) hn78 (by rw [List.length_take]; omega) hm6 (Sl.take hS7 _) (CH.le_trans hG0 (CH.le_trans (CH.le_refl _) (CH.le_refl _))) (CH.le_trans hG2 (CH.le_trans (CH.le_refl _) (CH.le_refl _))) r91 hg90) ?_)
        rintro e_ w_ ⟨rfl, C93, ha92⟩
        have C94 : Ctx _ _ _ _ F [CH.row g8 0 ((List.replicate 32 (0 : Int)).map (Value.int .u8))] := Ctx.call (qs := []) (rest := [CH.row g8 0 ((List.replicate 32 (0 : Int)).map (Value.int .u8))]) C76 C93
        refine ⟨_, rfl, trivial, ?_⟩
        obtain ⟨r96, hg95, H⟩ := bindE H
        refine WA.up1 7 (by kernel_rfl) (Up.call (args := #[.slice A81 n83 c82]) rfl (by kernel_rfl) (show _ = #[true, true, true, true, true, true, true, true, false, false] from rfl) (Yenter.fn Tryd.func24 (by kernel_rfl) rfl (argsE (.cons rfl .nil))) (ih _ F A81 c82 n83 (a0.drop r41.toNat) (Ctx.pre (qs := []) (rest := [CH.row g8 0 ((List.replicate 32 (0 : Int)).map (Value.int .u8))]) C94) hn85 hl86 hm87 hS88 (CH.le_trans hG0 (CH.le_trans (CH.le_refl _) (CH.le_refl _))) (CH.le_trans hG2 (CH.le_trans (CH.le_refl _) (CH.le_refl _))) r96 hg95) ?_)
        rintro e_ w_ ⟨rfl, C98, ha97⟩
        have C99 : Ctx _ _ _ _ F [CH.row g8 0 ((List.replicate 32 (0 : Int)).map (Value.int .u8))] := Ctx.call (qs := []) (rest := [CH.row g8 0 ((List.replicate 32 (0 : Int)).map (Value.int .u8))]) C94 C98
        refine ⟨_, rfl, trivial, ?_⟩
        obtain ⟨r101, hg100, H⟩ := bindE H
        refine WA.up1 8 (by kernel_rfl) (Up.call (args := #[.agg (List.toArray (r91.map (Value.int .u8))), .agg (List.toArray (r96.map (Value.int .u8)))]) rfl (by kernel_rfl) (show _ = #[true, true, true, true, true, true, true, true, true, false] from rfl) (Yenter.fn Tryd.func26 (by kernel_rfl) rfl (argsE (.cons rfl (.cons rfl .nil)))) (juratref08_Node.calls k _ F r91 r96 (Ctx.pre (qs := []) (rest := [CH.row g8 0 ((List.replicate 32 (0 : Int)).map (Value.int .u8))]) C99) ha92 ha97 (CH.le_trans hG0 (CH.le_trans (CH.le_refl _) (CH.le_refl _))) (CH.le_trans hG2 (CH.le_trans (CH.le_refl _) (CH.le_refl _))) r101 hg100) ?_)
        rintro e_ w_ ⟨rfl, C103, ha102⟩
        have C104 : Ctx _ _ _ _ F [CH.row g8 0 ((List.replicate 32 (0 : Int)).map (Value.int .u8))] := Ctx.call (qs := []) (rest := [CH.row g8 0 ((List.replicate 32 (0 : Int)).map (Value.int .u8))]) C99 C103
        refine ⟨_, rfl, trivial, ?_⟩
        obtain ⟨w105, hy106, C107⟩ := ev_set (P := Tryd.prog) (ps1 := []) (ps2 := []) (t := 33) (o := 0) ((List.replicate 32 (0 : Int)).map (Value.int .u8)) [] ((List.replicate 32 (0 : Int)).map (Value.int .u8)) [] (r101.map (Value.int .u8)) (.agg (List.toArray (r101.map (Value.int .u8)))) C104 (by first | (simp only [List.length_append, List.length_map, List.length_cons, List.length_nil, (List.length_replicate ..), ha102]; done) | simp [(List.length_replicate ..), ha102]) (by first | (simp only [List.length_append, List.length_map, List.length_cons, List.length_nil, (List.length_replicate ..), ha102]; done) | simp [(List.length_replicate ..), ha102]) (by first | (simp only [List.length_append, List.length_map, List.length_cons, List.length_nil, (List.length_replicate ..), ha102]; done) | simp [(List.length_replicate ..), ha102]) rfl (one_ints _ _) (sz_of sz33 (by first | (simp only [List.length_append, List.length_map, List.length_cons, List.length_nil, ha102]; done) | simp [ha102]))
        have C108 : Ctx _ _ _ _ F [CH.row g8 0 (r101.map (Value.int .u8))] := (by simpa using C107)
        refine WA.up1 9 (by kernel_rfl) (Up.skip rfl (show _ = #[true, true, true, true, true, true, true, true, true, true] from rfl) (hy106 _ _ _ _ rfl rfl) trivial ?_)
        refine WA.done (by kernel_rfl) ?_
        refine W.ret ?_
        have C109 : Ctx _ _ _ _ F [] := Ctx.drop [] [] C108
        have e110 := Option.some.inj H
        subst e110
        exact post_r (resEC rfl ((.cell rfl (run_loadVA2 (g := g8) (off := 0) (o := 0) (cs := r101.map (Value.int .u8)) (us := r101.map (Value.int .u8)) Tryd.underlying33 rfl (sz_of sz33 (by first | (simp only [List.length_append, List.length_map, List.length_cons, List.length_nil, ha102]; done) | simp [ha102])) (Ctx.sub_of [] [] C108) (take_all _)) .nil))) ⟨rfl, C109, ha102⟩
def juratref08_include.f : Nat → List (List Int) → Int → Option (List (List Int))
  | 0, _, _ => none
  | k + 1, a0, a1 => if (a0.length : Int) = 1 then (some ([] : List (List Int))) else ((juratref08_split.f k (a0.length : Int)).bind fun r12 => if a1 < r12 then (if 0 ≤ r12 ∧ r12 ≤ (a0.length : Int) then ((juratref08_include.f k (a0.take r12.toNat) a1).bind fun r20 => if 0 ≤ r12 ∧ r12 ≤ (a0.length : Int) ∧ (a0.length : Int) ≤ (a0.length : Int) then ((juratref08_Root.f k (a0.drop r12.toNat)).bind fun r40 => if (r20.length + 1) * 32 ≤ 140737488355328 then (some (r20 ++ [r40])) else none) else none) else none) else (if 0 ≤ r12 ∧ r12 ≤ (a0.length : Int) ∧ (a0.length : Int) ≤ (a0.length : Int) then ((juratref08_include.f k (a0.drop r12.toNat) (wi64 (a1 - r12))).bind fun r77 => if 0 ≤ r12 ∧ r12 ≤ (a0.length : Int) then ((juratref08_Root.f k (a0.take r12.toNat)).bind fun r90 => if (r77.length + 1) * 32 ≤ 140737488355328 then (some (r77 ++ [r90])) else none) else none) else none))
set_option maxRecDepth 100000 in
set_option maxHeartbeats 4000000 in
theorem juratref08_include.calls : ∀ (k : Nat) (w : World) (F : CH) (A1 : Option Addr) (c2 : Nat) (n3 : Nat) (a0 : List (List Int)) (a1 : Int) (hp : Pre w F []) (hn4 : n3 = a0.length) (hl5 : a0.length ≤ c2) (hm6 : c2 ≤ maxLen) (hS7 : Sl (Kd.arrI 32 .u8) F F A1 a0) (hG0 : CH.le (CH.row 0 0 (glob0.map (Value.int .u32))) F) (hG2 : CH.le (CH.row 2 0 (glob2.map (Value.int .u32))) F) (r0_ : List (List Int)) (H : juratref08_include.f k a0 a1 = some r0_),
    Calls Tryd.prog 58 #[.slice A1 n3 c2, .int .i64 a1] w fun e w' => ∃ (A116 : Option Addr) (c117 : Nat) (n118 : Nat) (p120 : CH), e = .returned (.slice A116 n118 c117) ∧ Ctx w F (domL []) w' F [p120] ∧ n118 = r0_.length ∧ Row (Kd.arrI 32 .u8) F p120 (.slice A116 n118 c117) r0_ := by
  intro k
  induction k with
  | zero => intro w F A1 c2 n3 a0 a1 hp hn4 hl5 hm6 hS7 hG0 hG2 r0_ H; exact absurd H (by simp [juratref08_include.f])
  | succ k ih =>
    intro w F A1 c2 n3 a0 a1 hp hn4 hl5 hm6 hS7 hG0 hG2 r0_ H
    have C := Ctx.start hp
    generalize hD : domL [] = D at C ⊢
    rw [juratref08_include.f] at H
    refine Calls.ofW Tryd.func58 rfl (by simp [Tryd.ntmps58]) ?_
    refine W.seq ?_
    refine W.region rfl ?_
    refine WL.val (Yl.assign (v := .slice none 0 0) rfl) ?_
    refine WL.done ?_
    refine W.seq ?_
    refine W.seq ?_
    refine W.region rfl ?_
    refine WL.val (Yl.move (v := .slice A1 n3 c2) rfl) ?_
    refine WL.val (Yl.lenN (A := A1) (l := n3) (q := c2) (n := (a0.length : Int)) rfl Tryd.underlying31 (by omega)) ?_
    refine WL.val (Yl.eql (m := (a0.length : Int)) (n := 1) (q := decide ((a0.length : Int) = 1)) rfl rfl rfl) ?_
    refine WL.done ?_
    rcases iteE H with ⟨hc8, H⟩ | ⟨hc8, H⟩
    · skip
      refine W.condT (congrArg Value.bool (decide_eq_true hc8)) ?_
      refine W.seq ?_
      refine W.region rfl ?_
      refine WL.val (Yl.assign (v := .slice none 0 0) rfl) ?_
      refine WL.done ?_
      refine W.ret ?_
      refine thenE_r ?_
      have C9 : Ctx _ _ _ _ F [CH.emp] := Ctx.emp C
      have e10 := Option.some.inj H
      subst e10
      exact post_r (resE1 rfl rfl) ⟨none, 0, 0, CH.emp, rfl, C9, rfl, (Row.nil _ _)⟩
    · skip
      refine W.condF (congrArg Value.bool (decide_eq_false hc8)) ?_
      refine W.skip ?_
      refine W.seq ?_
      refine W.region rfl ?_
      refine WL.val (Yl.move (v := .slice A1 n3 c2) rfl) ?_
      refine WL.val (Yl.lenN (A := A1) (l := n3) (q := c2) (n := (a0.length : Int)) rfl Tryd.underlying31 (by omega)) ?_
      obtain ⟨r12, hg11, H⟩ := bindE H
      refine WL.call (args := #[.int .i64 (a0.length : Int)]) (Yenter.fn Tryd.func52 (by kernel_rfl) rfl (argsE (.cons rfl .nil))) (juratref08_split.calls k _ F (a0.length : Int) C.pre0  r12 hg11) ?_
      rintro e_ w_ ⟨rfl, ⟨m13, rfl⟩⟩
      refine ⟨_, rfl, ?_⟩
      have C14 := Ctx.drewN C m13
      refine WL.val (Yl.assign (v := .int .i64 r12) rfl) ?_
      refine WL.done ?_
      refine W.seq ?_
      refine W.seq ?_
      refine W.region rfl ?_
      refine WL.val (Yl.move (v := .int .i64 a1) rfl) ?_
      refine WL.val (Yl.move (v := .int .i64 r12) rfl) ?_
      refine WL.val (Yl.lss (m := a1) (n := r12) (q := decide (a1 < r12)) rfl rfl rfl) ?_
      refine WL.done ?_
      rcases iteE H with ⟨hc15, H⟩ | ⟨hc15, H⟩
      · skip
        refine W.condT (congrArg Value.bool (decide_eq_true hc15)) ?_
        refine W.seq ?_
        refine W.region rfl ?_
        refine WL.val (Yl.move (v := .slice A1 n3 c2) rfl) ?_
        refine WL.val (Yl.move (v := .int .i64 r12) rfl) ?_
        obtain ⟨hc16, H⟩ := guardE H
        have hn17 : r12.toNat = (a0.take r12.toNat).length := by rw [List.length_take]; omega
        refine WL.val (Yl.sliceHi rfl Tryd.underlying31 sz33 rfl ⟨hc16.1, by omega⟩) ?_
        refine WL.val (Yl.move (v := .int .i64 a1) rfl) ?_
        obtain ⟨r20, hg19, H⟩ := bindE H
        refine WL.call (args := #[.slice A1 r12.toNat c2, .int .i64 a1]) (Yenter.fn Tryd.func58 (by kernel_rfl) rfl (argsE (.cons rfl (.cons rfl .nil)))) (ih _ F A1 c2 r12.toNat (a0.take r12.toNat) a1 (Ctx.pre (qs := []) (rest := []) C14) hn17 (by rw [List.length_take]; omega) hm6 (Sl.take hS7 _) (CH.le_trans hG0 (CH.le_trans (CH.le_refl _) (CH.le_refl _))) (CH.le_trans hG2 (CH.le_trans (CH.le_refl _) (CH.le_refl _))) r20 hg19) ?_
        rintro e_ w_ ⟨A21, c22, n23, p25, rfl, C27, hn24, hR26⟩
        refine ⟨_, rfl, ?_⟩
        have C28 : Ctx _ _ _ _ F [p25] := Ctx.call (qs := []) (rest := []) C14 C27
        refine WL.val (Yl.assign (v := .slice A21 n23 c22) rfl) ?_
        refine WL.done ?_
        refine W.seq ?_
        refine W.region rfl ?_
        refine WL.val (Yl.move (v := .slice A21 n23 c22) rfl) ?_
        refine WL.val (Yl.move (v := .slice A1 n3 c2) rfl) ?_
        refine WL.val (Yl.move (v := .int .i64 r12) rfl) ?_
        obtain ⟨hc29, H⟩ := guardE H
        have hl38 : a0.length ≤ c2 ∧ c2 ≤ maxLen := ⟨hl5, hm6⟩
        obtain ⟨A30, c31, n32, hv33, hn34, hl35, hm36, hS37⟩ := Sl.cut hS7 (c := c2) hl38.2 r12.toNat a0.length c2 (by omega) (by omega) (by omega) (by omega)
        rw [List.take_length] at hn34 hl35 hS37
        refine WL.val (Yl.slice r12.toNat a0.length c2 rfl Tryd.underlying31 sz33 rfl (hn4).symm (OB.mk rfl (by omega)) (by simp) (by omega) (by omega) (by omega) hv33) ?_
        obtain ⟨r40, hg39, H⟩ := bindE H
        refine WL.call (args := #[.slice A30 n32 c31]) (Yenter.fn Tryd.func24 (by kernel_rfl) rfl (argsE (.cons rfl .nil))) (juratref08_Root.calls k _ F A30 c31 n32 (a0.drop r12.toNat) (Ctx.pre (qs := []) (rest := [p25]) C28) hn34 hl35 hm36 hS37 (CH.le_trans hG0 (CH.le_trans (CH.le_refl _) (CH.le_refl _))) (CH.le_trans hG2 (CH.le_trans (CH.le_refl _) (CH.le_refl _))) r40 hg39) ?_
        rintro e_ w_ ⟨rfl, C42, ha41⟩
        refine ⟨_, rfl, ?_⟩
        have C43 : Ctx _ _ _ _ F [p25] := Ctx.call (qs := []) (rest := [p25]) C28 C42
        obtain ⟨A44, c45, n46, p47, w48, hn49, hy50, C51, hR52⟩ := ev_lit1' (P := Tryd.prog) 33 (Kd.arrI 32 .u8) C43 Tryd.underlying31 ti33 ⟨by decide, by decide⟩ r40 (.agg (List.toArray (r40.map (Value.int .u8)))) ⟨rfl, ha41⟩
        refine WL.val (hy50 _ _ _ rfl) ?_
        obtain ⟨hc53, H⟩ := guardE H
        obtain ⟨A54, c55, n56, p57, w58, hn59, hy60, C61, hR62⟩ := ev_append' (P := Tryd.prog) (cb := c45) 33 (Kd.arrI 32 .u8) [p47] [] C51 hR26 hn49 (Row.sl hR52) (Ctx.sub_of [] [p25] C51) Tryd.underlying31 ti33 rfl zo33 (by decide) (by decide) (by simpa using hc53)
        have C63 : Ctx _ _ _ _ F [p47, p57] := C61
        refine WL.val (hy60 _ _ _ _ rfl rfl) ?_
        refine WL.val (Yl.assign (v := .slice A54 n56 c55) rfl) ?_
        refine WL.done ?_
        refine W.ret ?_
        refine thenE_r ?_
        have C64 : Ctx _ _ _ _ F [p57] := Ctx.drop [] [p57] C63
        have e65 := Option.some.inj H
        subst e65
        exact post_r (resE1 rfl rfl) ⟨A54, c55, n56, p57, rfl, C64, hn59, hR62⟩
      · skip
        refine W.condF (congrArg Value.bool (decide_eq_false hc15)) ?_
        refine W.skip ?_
        refine W.seq ?_
        refine W.region rfl ?_
        refine WL.val (Yl.move (v := .slice A1 n3 c2) rfl) ?_
        refine WL.val (Yl.move (v := .int .i64 r12) rfl) ?_
        obtain ⟨hc66, H⟩ := guardE H
        have hl75 : a0.length ≤ c2 ∧ c2 ≤ maxLen := ⟨hl5, hm6⟩
        obtain ⟨A67, c68, n69, hv70, hn71, hl72, hm73, hS74⟩ := Sl.cut hS7 (c := c2) hl75.2 r12.toNat a0.length c2 (by omega) (by omega) (by omega) (by omega)
        rw [List.take_length] at hn71 hl72 hS74
        refine WL.val (Yl.slice r12.toNat a0.length c2 rfl Tryd.underlying31 sz33 rfl (hn4).symm (OB.mk rfl (by omega)) (by simp) (by omega) (by omega) (by omega) hv70) ?_
        refine WL.val (Yl.move (v := .int .i64 a1) rfl) ?_
        refine WL.val (Yl.move (v := .int .i64 r12) rfl) ?_
        refine WL.val (Yl.sub (m := a1) (n := r12) (r := wi64 (a1 - r12)) rfl rfl rfl) ?_
        obtain ⟨r77, hg76, H⟩ := bindE H
        refine WL.call (args := #[.slice A67 n69 c68, .int .i64 (wi64 (a1 - r12))]) (Yenter.fn Tryd.func58 (by kernel_rfl) rfl (argsE (.cons rfl (.cons rfl .nil)))) (ih _ F A67 c68 n69 (a0.drop r12.toNat) (wi64 (a1 - r12)) (Ctx.pre (qs := []) (rest := []) C14) hn71 hl72 hm73 hS74 (CH.le_trans hG0 (CH.le_trans (CH.le_refl _) (CH.le_refl _))) (CH.le_trans hG2 (CH.le_trans (CH.le_refl _) (CH.le_refl _))) r77 hg76) ?_
        rintro e_ w_ ⟨A78, c79, n80, p82, rfl, C84, hn81, hR83⟩
        refine ⟨_, rfl, ?_⟩
        have C85 : Ctx _ _ _ _ F [p82] := Ctx.call (qs := []) (rest := []) C14 C84
        refine WL.val (Yl.assign (v := .slice A78 n80 c79) rfl) ?_
        refine WL.done ?_
        refine W.seq ?_
        refine W.region rfl ?_
        refine WL.val (Yl.move (v := .slice A78 n80 c79) rfl) ?_
        refine WL.val (Yl.move (v := .slice A1 n3 c2) rfl) ?_
        refine WL.val (Yl.move (v := .int .i64 r12) rfl) ?_
        obtain ⟨hc86, H⟩ := guardE H
        have hn87 : r12.toNat = (a0.take r12.toNat).length := by rw [List.length_take]; omega
        refine WL.val (Yl.sliceHi rfl Tryd.underlying31 sz33 rfl ⟨hc86.1, by omega⟩) ?_
        obtain ⟨r90, hg89, H⟩ := bindE H
        refine WL.call (args := #[.slice A1 r12.toNat c2]) (Yenter.fn Tryd.func24 (by kernel_rfl) rfl (argsE (.cons rfl .nil))) (juratref08_Root.calls k _ F A1 c2 r12.toNat (a0.take r12.toNat) (Ctx.pre (qs := []) (rest := [p82]) C85) hn87 (by rw [List.length_take]; omega) hm6 (Sl.take hS7 _) (CH.le_trans hG0 (CH.le_trans (CH.le_refl _) (CH.le_refl _))) (CH.le_trans hG2 (CH.le_trans (CH.le_refl _) (CH.le_refl _))) r90 hg89) ?_
        rintro e_ w_ ⟨rfl, C92, ha91⟩
        refine ⟨_, rfl, ?_⟩
        have C93 : Ctx _ _ _ _ F [p82] := Ctx.call (qs := []) (rest := [p82]) C85 C92
        obtain ⟨A94, c95, n96, p97, w98, hn99, hy100, C101, hR102⟩ := ev_lit1' (P := Tryd.prog) 33 (Kd.arrI 32 .u8) C93 Tryd.underlying31 ti33 ⟨by decide, by decide⟩ r90 (.agg (List.toArray (r90.map (Value.int .u8)))) ⟨rfl, ha91⟩
        refine WL.val (hy100 _ _ _ rfl) ?_
        obtain ⟨hc103, H⟩ := guardE H
        obtain ⟨A104, c105, n106, p107, w108, hn109, hy110, C111, hR112⟩ := ev_append' (P := Tryd.prog) (cb := c95) 33 (Kd.arrI 32 .u8) [p97] [] C101 hR83 hn99 (Row.sl hR102) (Ctx.sub_of [] [p82] C101) Tryd.underlying31 ti33 rfl zo33 (by decide) (by decide) (by simpa using hc103)
        have C113 : Ctx _ _ _ _ F [p97, p107] := C111
        refine WL.val (hy110 _ _ _ _ rfl rfl) ?_
        refine WL.val (Yl.assign (v := .slice A104 n106 c105) rfl) ?_
        refine WL.done ?_
        refine W.ret ?_
        have C114 : Ctx _ _ _ _ F [p107] := Ctx.drop [] [p107] C113
        have e115 := Option.some.inj H
        subst e115
        exact post_r (resE1 rfl rfl) ⟨A104, c105, n106, p107, rfl, C114, hn109, hR112⟩
def juratref08_Include.f (k : Nat) (a0 : List (List Int)) (a1 : Int) : Option ((List (List Int)) × Int) := (if a1 < 0 then (some (true)) else (some (decide (a1 ≥ (a0.length : Int))))).bind fun g8 => if g8 = true then (some (([] : List (List Int)), 1)) else ((juratref08_include.f k a0 a1).bind fun r20 => some (r20, 0))
set_option maxRecDepth 100000 in
set_option maxHeartbeats 4000000 in
theorem juratref08_Include.calls (k : Nat) (w : World) (F : CH) (A1 : Option Addr) (c2 : Nat) (n3 : Nat) (a0 : List (List Int)) (a1 : Int) (hp : Pre w F []) (hn4 : n3 = a0.length) (hl5 : a0.length ≤ c2) (hm6 : c2 ≤ maxLen) (hS7 : Sl (Kd.arrI 32 .u8) F F A1 a0) (hG0 : CH.le (CH.row 0 0 (glob0.map (Value.int .u32))) F) (hG2 : CH.le (CH.row 2 0 (glob2.map (Value.int .u32))) F) (r0_ : List (List Int)) (r1_ : Int) (H : juratref08_Include.f k a0 a1 = some (r0_, r1_)) :
    Calls Tryd.prog 30 #[.slice A1 n3 c2, .int .i64 a1] w fun e w' => ∃ (A31 : Option Addr) (c32 : Nat) (n33 : Nat) (p35 : CH), e = .returned (.tuple #[(.slice A31 n33 c32), (.int .i64 r1_)]) ∧ Ctx w F (domL []) w' F [p35] ∧ n33 = r0_.length ∧ Row (Kd.arrI 32 .u8) F p35 (.slice A31 n33 c32) r0_ := by
  have C := Ctx.start hp
  generalize hD : domL [] = D at C ⊢
  unfold juratref08_Include.f at H
  refine Calls.ofW Tryd.func30 rfl (by simp [Tryd.ntmps30]) ?_
  refine W.seq ?_
  refine W.region rfl ?_
  refine WL.val (Yl.assign (v := .slice none 0 0) rfl) ?_
  refine WL.val (Yl.assign (v := .int .i64 0) rfl) ?_
  refine WL.done ?_
  refine W.seq ?_
  refine W.seq ?_
  refine W.region rfl ?_
  refine WL.val (Yl.move (v := .int .i64 a1) rfl) ?_
  refine WL.val (Yl.lss (m := a1) (n := 0) (q := decide (a1 < 0)) rfl rfl rfl) ?_
  refine WL.val (Yl.move (v := .bool (decide (a1 < 0))) rfl) ?_
  obtain ⟨g8, HE9, H⟩ := bindE H
  refine WL.cut (fun env_ w_ => env_ 13 = .bool g8 ∧ env_ 0 = .slice A1 n3 c2 ∧ env_ 1 = .int .i64 a1 ∧ Ctx w F D w_ F []) ?_ ?_
  · skip
    rcases iteE HE9 with ⟨hc10, HE9⟩ | ⟨hc10, HE9⟩
    · skip
      refine WL.off rfl (congrArg Value.bool (decide_eq_true hc10)) ?_
      refine WL.off rfl (congrArg Value.bool (decide_eq_true hc10)) ?_
      refine WL.off rfl (congrArg Value.bool (decide_eq_true hc10)) ?_
      refine WL.off rfl (congrArg Value.bool (decide_eq_true hc10)) ?_
      refine WL.val (Yl.pickT (v := .bool true) (congrArg Value.bool (decide_eq_true hc10)) rfl) ?_
      cases HE9
      exact WL.done ⟨rfl, rfl, rfl, C⟩
    · skip
      refine WL.on rfl (congrArg Value.bool (decide_eq_false hc10)) ?_
      refine WL.val (Yl.move (v := .int .i64 a1) rfl) ?_
      refine WL.on rfl (congrArg Value.bool (decide_eq_false hc10)) ?_
      refine WL.val (Yl.move (v := .slice A1 n3 c2) rfl) ?_
      refine WL.on rfl (congrArg Value.bool (decide_eq_false hc10)) ?_
      refine WL.val (Yl.lenN (A := A1) (l := n3) (q := c2) (n := (a0.length : Int)) rfl Tryd.underlying31 (by omega)) ?_
      refine WL.on rfl (congrArg Value.bool (decide_eq_false hc10)) ?_
      refine WL.val (Yl.geq (m := a1) (n := (a0.length : Int)) (q := decide (a1 ≥ (a0.length : Int))) rfl rfl rfl) ?_
      refine WL.val (Yl.pickF (v := .bool (decide (a1 ≥ (a0.length : Int)))) (congrArg Value.bool (decide_eq_false hc10)) rfl) ?_
      cases HE9
      exact WL.done ⟨rfl, rfl, rfl, C⟩
  · skip
    rintro env_ w_ ⟨ho11, ho12, ho13, C14⟩
    rcases iteE H with ⟨hc15, H⟩ | ⟨hc15, H⟩
    · skip
      refine W.condT (ho11.trans (congrArg Value.bool hc15)) ?_
      refine W.seq ?_
      refine W.region rfl ?_
      refine WL.val (Yl.assign (v := .slice none 0 0) rfl) ?_
      refine WL.val (Yl.assign (v := .int .i64 1) rfl) ?_
      refine WL.done ?_
      refine W.ret ?_
      refine thenE_r ?_
      have C16 : Ctx _ _ _ _ F [CH.emp] := Ctx.emp C14
      simp only [Option.some.injEq, Prod.mk.injEq] at H
      obtain ⟨e17, e18⟩ := H
      subst e17 e18
      exact post_r (resE2 rfl rfl rfl) ⟨none, 0, 0, CH.emp, rfl, C16, rfl, (Row.nil _ _)⟩
    · skip
      refine W.condF (ho11.trans (congrArg Value.bool (Bool.eq_false_iff.2 hc15))) ?_
      refine W.skip ?_
      refine W.seq ?_
      refine W.region rfl ?_
      refine WL.val (Yl.move (v := .slice A1 n3 c2) ho12) ?_
      refine WL.val (Yl.move (v := .int .i64 a1) ho13) ?_
      obtain ⟨r20, hg19, H⟩ := bindE H
      refine WL.call (args := #[.slice A1 n3 c2, .int .i64 a1]) (Yenter.fn Tryd.func58 (by kernel_rfl) rfl (argsE (.cons rfl (.cons rfl .nil)))) (juratref08_include.calls k _ F A1 c2 n3 a0 a1 (Ctx.pre (qs := []) (rest := []) C14) hn4 hl5 hm6 hS7 (CH.le_trans hG0 (CH.le_trans (CH.le_refl _) (CH.le_refl _))) (CH.le_trans hG2 (CH.le_trans (CH.le_refl _) (CH.le_refl _))) r20 hg19) ?_
      rintro e_ w_ ⟨A21, c22, n23, p25, rfl, C27, hn24, hR26⟩
      refine ⟨_, rfl, ?_⟩
      have C28 : Ctx _ _ _ _ F [p25] := Ctx.call (qs := []) (rest := []) C14 C27
      refine WL.val (Yl.assign (v := .slice A21 n23 c22) rfl) ?_
      refine WL.val (Yl.assign (v := .int .i64 0) rfl) ?_
      refine WL.done ?_
      refine W.ret ?_
      simp only [Option.some.injEq, Prod.mk.injEq] at H
      obtain ⟨e29, e30⟩ := H
      subst e29 e30
      exact post_r (resE2 rfl rfl rfl) ⟨A21, c22, n23, p25, rfl, C28, hn24, hR26⟩
def juratref08_part.f : Nat → List (List Int) → Int → Bool → Option (List (List Int))
  | 0, _, _, _ => none
  | k + 1, a0, a1, a2 => if a1 = (a0.length : Int) then (if a2 = true then (some ([] : List (List Int))) else ((juratref08_Root.f k a0).bind fun r13 => some [r13])) else ((juratref08_split.f k (a0.length : Int)).bind fun r28 => if a1 ≤ r28 then (if 0 ≤ r28 ∧ r28 ≤ (a0.length : Int) then ((juratref08_part.f k (a0.take r28.toNat) a1 a2).bind fun r36 => if 0 ≤ r28 ∧ r28 ≤ (a0.length : Int) ∧ (a0.length : Int) ≤ (a0.length : Int) then ((juratref08_Root.f k (a0.drop r28.toNat)).bind fun r56 => if (r36.length + 1) * 32 ≤ 140737488355328 then (some (r36 ++ [r56])) else none) else none) else none) else (if 0 ≤ r28 ∧ r28 ≤ (a0.length : Int) ∧ (a0.length : Int) ≤ (a0.length : Int) then ((juratref08_part.f k (a0.drop r28.toNat) (wi64 (a1 - r28)) false).bind fun r93 => if 0 ≤ r28 ∧ r28 ≤ (a0.length : Int) then ((juratref08_Root.f k (a0.take r28.toNat)).bind fun r106 => if (r93.length + 1) * 32 ≤ 140737488355328 then (some (r93 ++ [r106])) else none) else none) else none))
set_option maxRecDepth 100000 in
set_option maxHeartbeats 4000000 in
theorem juratref08_part.calls : ∀ (k : Nat) (w : World) (F : CH) (A1 : Option Addr) (c2 : Nat) (n3 : Nat) (a0 : List (List Int)) (a1 : Int) (a2 : Bool) (hp : Pre w F []) (hn4 : n3 = a0.length) (hl5 : a0.length ≤ c2) (hm6 : c2 ≤ maxLen) (hS7 : Sl (Kd.arrI 32 .u8) F F A1 a0) (hG0 : CH.le (CH.row 0 0 (glob0.map (Value.int .u32))) F) (hG2 : CH.le (CH.row 2 0 (glob2.map (Value.int .u32))) F) (r0_ : List (List Int)) (H : juratref08_part.f k a0 a1 a2 = some r0_),
    Calls Tryd.prog 59 #[.slice A1 n3 c2, .int .i64 a1, .bool a2] w fun e w' => ∃ (A132 : Option Addr) (c133 : Nat) (n134 : Nat) (p136 : CH), e = .returned (.slice A132 n134 c133) ∧ Ctx w F (domL []) w' F [p136] ∧ n134 = r0_.length ∧ Row (Kd.arrI 32 .u8) F p136 (.slice A132 n134 c133) r0_ := by
  intro k
  induction k with
  | zero => intro w F A1 c2 n3 a0 a1 a2 hp hn4 hl5 hm6 hS7 hG0 hG2 r0_ H; exact absurd H (by simp [juratref08_part.f])
  | succ k ih =>
    intro w F A1 c2 n3 a0 a1 a2 hp hn4 hl5 hm6 hS7 hG0 hG2 r0_ H
    have C := Ctx.start hp
    generalize hD : domL [] = D at C ⊢
    rw [juratref08_part.f] at H
    refine Calls.ofW Tryd.func59 rfl (by simp [Tryd.ntmps59]) ?_
    refine W.seq ?_
    refine W.region rfl ?_
    refine WL.val (Yl.assign (v := .slice none 0 0) rfl) ?_
    refine WL.done ?_
    refine W.seq ?_
    refine W.seq ?_
    refine W.region rfl ?_
    refine WL.val (Yl.move (v := .int .i64 a1) rfl) ?_
    refine WL.val (Yl.move (v := .slice A1 n3 c2) rfl) ?_
    refine WL.val (Yl.lenN (A := A1) (l := n3) (q := c2) (n := (a0.length : Int)) rfl Tryd.underlying31 (by omega)) ?_
    refine WL.val (Yl.eql (m := a1) (n := (a0.length : Int)) (q := decide (a1 = (a0.length : Int))) rfl rfl rfl) ?_
    refine WL.done ?_
    rcases iteE H with ⟨hc8, H⟩ | ⟨hc8, H⟩
    · skip
      refine W.condT (congrArg Value.bool (decide_eq_true hc8)) ?_
      refine W.seq ?_
      refine W.seq ?_
      refine W.region rfl ?_
      refine WL.val (Yl.move (v := .bool a2) rfl) ?_
      refine WL.done ?_
      rcases iteE H with ⟨hc9, H⟩ | ⟨hc9, H⟩
      · skip
        refine W.condT (congrArg Value.bool hc9) ?_
        refine W.seq ?_
        refine W.region rfl ?_
        refine WL.val (Yl.assign (v := .slice none 0 0) rfl) ?_
        refine WL.done ?_
        refine W.ret ?_
        refine thenE_r ?_
        refine thenE_r ?_
        have C10 : Ctx _ _ _ _ F [CH.emp] := Ctx.emp C
        have e11 := Option.some.inj H
        subst e11
        exact post_r (resE1 rfl rfl) ⟨none, 0, 0, CH.emp, rfl, C10, rfl, (Row.nil _ _)⟩
      · skip
        refine W.condF (congrArg Value.bool (Bool.eq_false_iff.2 hc9)) ?_
        refine W.skip ?_
        refine W.seq ?_
        refine W.region rfl ?_
        refine WL.val (Yl.move (v := .slice A1 n3 c2) rfl) ?_
        obtain ⟨r13, hg12, H⟩ := bindE H
        refine WL.call (args := #[.slice A1 n3 c2]) (Yenter.fn Tryd.func24 (by kernel_rfl) rfl (argsE (.cons rfl .nil))) (juratref08_Root.calls k _ F A1 c2 n3 a0 (Ctx.pre (qs := []) (rest := []) C) hn4 hl5 hm6 hS7 (CH.le_trans hG0 (CH.le_trans (CH.le_refl _) (CH.le_refl _))) (CH.le_trans hG2 (CH.le_trans (CH.le_refl _) (CH.le_refl _))) r13 hg12) ?_
        rintro e_ w_ ⟨rfl, C15, ha14⟩
        refine ⟨_, rfl, ?_⟩
        have C16 : Ctx _ _ _ _ F [] := Ctx.call (qs := []) (rest := []) C C15
        obtain ⟨A17, c18, n19, p20, w21, hn22, hy23, C24, hR25⟩ := ev_lit1' (P := Tryd.prog) 33 (Kd.arrI 32 .u8) C16 Tryd.underlying31 ti33 ⟨by decide, by decide⟩ r13 (.agg (List.toArray (r13.map (Value.int .u8)))) ⟨rfl, ha14⟩
        refine WL.val (hy23 _ _ _ rfl) ?_
        refine WL.val (Yl.assign (v := .slice A17 n19 c18) rfl) ?_
        refine WL.done ?_
        refine W.ret ?_
        refine thenE_r ?_
        have e26 := Option.some.inj H
        subst e26
        exact post_r (resE1 rfl rfl) ⟨A17, c18, n19, p20, rfl, C24, hn22, hR25⟩
    · skip
      refine W.condF (congrArg Value.bool (decide_eq_false hc8)) ?_
      refine W.skip ?_
      refine W.seq ?_
      refine W.region rfl ?_
      refine WL.val (Yl.move (v := .slice A1 n3 c2) rfl) ?_
      refine WL.val (Yl.lenN (A := A1) (l := n3) (q := c2) (n := (a0.length : Int)) rfl Tryd.underlying31 (by omega)) ?_
      obtain ⟨r28, hg27, H⟩ := bindE H
      refine WL.call (args := #[.int .i64 (a0.length : Int)]) (Yenter.fn Tryd.func52 (by kernel_rfl) rfl (argsE (.cons rfl .nil))) (juratref08_split.calls k _ F (a0.length : Int) C.pre0  r28 hg27) ?_
      rintro e_ w_ ⟨rfl, ⟨m29, rfl⟩⟩
      refine ⟨_, rfl, ?_⟩
      have C30 := Ctx.drewN C m29
      refine WL.val (Yl.assign (v := .int .i64 r28) rfl) ?_
      refine WL.done ?_
      refine W.seq ?_
      refine W.seq ?_
      refine W.region rfl ?_
      refine WL.val (Yl.move (v := .int .i64 a1) rfl) ?_
      refine WL.val (Yl.move (v := .int .i64 r28) rfl) ?_
      refine WL.val (Yl.leq (m := a1) (n := r28) (q := decide (a1 ≤ r28)) rfl rfl rfl) ?_
      refine WL.done ?_
      rcases iteE H with ⟨hc31, H⟩ | ⟨hc31, H⟩
      · skip
        refine W.condT (congrArg Value.bool (decide_eq_true hc31)) ?_
        refine W.seq ?_
        refine W.region rfl ?_
        refine WL.val (Yl.move (v := .slice A1 n3 c2) rfl) ?_
        refine WL.val (Yl.move (v := .int .i64 r28) rfl) ?_
        obtain ⟨hc32, H⟩ := guardE H
        have hn33 : r28.toNat = (a0.take r28.toNat).length := by rw [List.length_take]; omega
        refine WL.val (Yl.sliceHi rfl Tryd.underlying31 sz33 rfl ⟨hc32.1, by omega⟩) ?_
        refine WL.val (Yl.move (v := .int .i64 a1) rfl) ?_
        refine WL.val (Yl.move (v := .bool a2) rfl) ?_
        obtain ⟨r36, hg35, H⟩ := bindE H
        refine WL.call (args := #[.slice A1 r28.toNat c2, .int .i64 a1, .bool a2]) (Yenter.fn Tryd.func59 (by kernel_rfl) rfl (argsE (.cons rfl (.cons rfl (.cons rfl .nil))))) (ih _ F A1 c2 r28.toNat (a0.take r28.toNat) a1 a2 (Ctx.pre (qs := []) (rest := []) C30) hn33 (by rw [List.length_take]; omega) hm6 (Sl.take hS7 _) (CH.le_trans hG0 (CH.le_trans (CH.le_refl _) (CH.le_refl _))) (CH.le_trans hG2 (CH.le_trans (CH.le_refl _) (CH.le_refl _))) r36 hg35) ?_
        rintro e_ w_ ⟨A37, c38, n39, p41, rfl, C43, hn40, hR42⟩
        refine ⟨_, rfl, ?_⟩
        have C44 : Ctx _ _ _ _ F [p41] := Ctx.call (qs := []) (rest := []) C30 C43
        refine WL.val (Yl.assign (v := .slice A37 n39 c38) rfl) ?_
        refine WL.done ?_
        refine W.seq ?_
        refine W.region rfl ?_
        refine WL.val (Yl.move (v := .slice A37 n39 c38) rfl) ?_
        refine WL.val (Yl.move (v := .slice A1 n3 c2) rfl) ?_
        refine WL.val (Yl.move (v := .int .i64 r28) rfl) ?_
        obtain ⟨hc45, H⟩ := guardE H
        have hl54 : a0.length ≤ c2 ∧ c2 ≤ maxLen := ⟨hl5, hm6⟩
        obtain ⟨A46, c47, n48, hv49, hn50, hl51, hm52, hS53⟩ := Sl.cut hS7 (c := c2) hl54.2 r28.toNat a0.length c2 (by omega) (by omega) (by omega) (by omega)
        rw [List.take_length] at hn50 hl51 hS53
        refine WL.val (Yl.slice r28.toNat a0.length c2 rfl Tryd.underlying31 sz33 rfl (hn4).symm (OB.mk rfl (by omega)) (by simp) (by omega) (by omega) (by omega) hv49) ?_
        obtain ⟨r56, hg55, H⟩ := bindE H
        refine WL.call (args := #[.slice A46 n48 c47]) (Yenter.fn Tryd.func24 (by kernel_rfl) rfl (argsE (.cons rfl .nil))) (juratref08_Root.calls k _ F A46 c47 n48 (a0.drop r28.toNat) (Ctx.pre (qs := []) (rest := [p41]) C44) hn50 hl51 hm52 hS53 (CH.le_trans hG0 (CH.le_trans (CH.le_refl _) (CH.le_refl _))) (CH.le_trans hG2 (CH.le_trans (CH.le_refl _) (CH.le_refl _))) r56 hg55) ?_
        rintro e_ w_ ⟨rfl, C58, ha57⟩
        refine ⟨_, rfl, ?_⟩
        have C59 : Ctx _ _ _ _ F [p41] := Ctx.call (qs := []) (rest := [p41]) C44 C58
        obtain ⟨A60, c61, n62, p63, w64, hn65, hy66, C67, hR68⟩ := ev_lit1' (P := Tryd.prog) 33 (Kd.arrI 32 .u8) C59 Tryd.underlying31 ti33 ⟨by decide, by decide⟩ r56 (.agg (List.toArray (r56.map (Value.int .u8)))) ⟨rfl, ha57⟩
        refine WL.val (hy66 _ _ _ rfl) ?_
        obtain ⟨hc69, H⟩ := guardE H
        obtain ⟨A70, c71, n72, p73, w74, hn75, hy76, C77, hR78⟩ := ev_append' (P := Tryd.prog) (cb := c61) 33 (Kd.arrI 32 .u8) [p63] [] C67 hR42 hn65 (Row.sl hR68) (Ctx.sub_of [] [p41] C67) Tryd.underlying31 ti33 rfl zo33 (by decide) (by decide) (by simpa using hc69)
        have C79 : Ctx _ _ _ _ F [p63, p73] := C77
        refine WL.val (hy76 _ _ _ _ rfl rfl) ?_
        refine WL.val (Yl.assign (v := .slice A70 n72 c71) rfl) ?_
        refine WL.done ?_
        refine W.ret ?_
        refine thenE_r ?_
        have C80 : Ctx _ _ _ _ F [p73] := Ctx.drop [] [p73] C79
        have e81 := Option.some.inj H
        subst e81
        exact post_r (resE1 rfl rfl) ⟨A70, c71, n72, p73, rfl, C80, hn75, hR78⟩
      · skip
        refine W.condF (congrArg Value.bool (decide_eq_false hc31)) ?_
        refine W.skip ?_
        refine W.seq ?_
        refine W.region rfl ?_
        refine WL.val (Yl.move (v := .slice A1 n3 c2) rfl) ?_
        refine WL.val (Yl.move (v := .int .i64 r28) rfl) ?_
        obtain ⟨hc82, H⟩ := guardE H
        have hl91 : a0.length ≤ c2 ∧ c2 ≤ maxLen := ⟨hl5, hm6⟩
        obtain ⟨A83, c84, n85, hv86, hn87, hl88, hm89, hS90⟩ := Sl.cut hS7 (c := c2) hl91.2 r28.toNat a0.length c2 (by omega) (by omega) (by omega) (by omega)
        rw [List.take_length] at hn87 hl88 hS90
        refine WL.val (Yl.slice r28.toNat a0.length c2 rfl Tryd.underlying31 sz33 rfl (hn4).symm (OB.mk rfl (by omega)) (by simp) (by omega) (by omega) (by omega) hv86) ?_
        refine WL.val (Yl.move (v := .int .i64 a1) rfl) ?_
        refine WL.val (Yl.move (v := .int .i64 r28) rfl) ?_
        refine WL.val (Yl.sub (m := a1) (n := r28) (r := wi64 (a1 - r28)) rfl rfl rfl) ?_
        obtain ⟨r93, hg92, H⟩ := bindE H
        refine WL.call (args := #[.slice A83 n85 c84, .int .i64 (wi64 (a1 - r28)), .bool false]) (Yenter.fn Tryd.func59 (by kernel_rfl) rfl (argsE (.cons rfl (.cons rfl (.cons rfl .nil))))) (ih _ F A83 c84 n85 (a0.drop r28.toNat) (wi64 (a1 - r28)) false (Ctx.pre (qs := []) (rest := []) C30) hn87 hl88 hm89 hS90 (CH.le_trans hG0 (CH.le_trans (CH.le_refl _) (CH.le_refl _))) (CH.le_trans hG2 (CH.le_trans (CH.le_refl _) (CH.le_refl _))) r93 hg92) ?_
        rintro e_ w_ ⟨A94, c95, n96, p98, rfl, C100, hn97, hR99⟩
        refine ⟨_, rfl, ?_⟩
        have C101 : Ctx _ _ _ _ F [p98] := Ctx.call (qs := []) (rest := []) C30 C100
        refine WL.val (Yl.assign (v := .slice A94 n96 c95) rfl) ?_
        refine WL.done ?_
        refine W.seq ?_
        refine W.region rfl ?_
        refine WL.val (Yl.move (v := .slice A94 n96 c95) rfl) ?_
        refine WL.val (Yl.move (v := .slice A1 n3 c2) rfl) ?_
        refine WL.val (Yl.move (v := .int .i64 r28) rfl) ?_
        obtain ⟨hc102, H⟩ := guardE H
        have hn103 : r28.toNat = (a0.take r28.toNat).length := by rw [List.length_take]; omega
        refine WL.val (Yl.sliceHi rfl Tryd.underlying31 sz33 rfl ⟨hc102.1, by omega⟩) ?_
        obtain ⟨r106, hg105, H⟩ := bindE H
        refine WL.call (args := #[.slice A1 r28.toNat c2]) (Yenter.fn Tryd.func24 (by kernel_rfl) rfl (argsE (.cons rfl .nil))) (juratref08_Root.calls k _ F A1 c2 r28.toNat (a0.take r28.toNat) (Ctx.pre (qs := []) (rest := [p98]) C101) hn103 (by rw [List.length_take]; omega) hm6 (Sl.take hS7 _) (CH.le_trans hG0 (CH.le_trans (CH.le_refl _) (CH.le_refl _))) (CH.le_trans hG2 (CH.le_trans (CH.le_refl _) (CH.le_refl _))) r106 hg105) ?_
        rintro e_ w_ ⟨rfl, C108, ha107⟩
        refine ⟨_, rfl, ?_⟩
        have C109 : Ctx _ _ _ _ F [p98] := Ctx.call (qs := []) (rest := [p98]) C101 C108
        obtain ⟨A110, c111, n112, p113, w114, hn115, hy116, C117, hR118⟩ := ev_lit1' (P := Tryd.prog) 33 (Kd.arrI 32 .u8) C109 Tryd.underlying31 ti33 ⟨by decide, by decide⟩ r106 (.agg (List.toArray (r106.map (Value.int .u8)))) ⟨rfl, ha107⟩
        refine WL.val (hy116 _ _ _ rfl) ?_
        obtain ⟨hc119, H⟩ := guardE H
        obtain ⟨A120, c121, n122, p123, w124, hn125, hy126, C127, hR128⟩ := ev_append' (P := Tryd.prog) (cb := c111) 33 (Kd.arrI 32 .u8) [p113] [] C117 hR99 hn115 (Row.sl hR118) (Ctx.sub_of [] [p98] C117) Tryd.underlying31 ti33 rfl zo33 (by decide) (by decide) (by simpa using hc119)
        have C129 : Ctx _ _ _ _ F [p113, p123] := C127
        refine WL.val (hy126 _ _ _ _ rfl rfl) ?_
        refine WL.val (Yl.assign (v := .slice A120 n122 c121) rfl) ?_
        refine WL.done ?_
        refine W.ret ?_
        have C130 : Ctx _ _ _ _ F [p123] := Ctx.drop [] [p123] C129
        have e131 := Option.some.inj H
        subst e131
        exact post_r (resE1 rfl rfl) ⟨A120, c121, n122, p123, rfl, C130, hn125, hR128⟩
def juratref08_Consist.f (k : Nat) (a0 : List (List Int)) (a1 : Int) : Option ((List (List Int)) × Int) := (if a1 < 0 then (some (true)) else (some (decide (a1 > (a0.length : Int))))).bind fun g8 => if g8 = true then (some (([] : List (List Int)), 1)) else ((if a1 = 0 then (some (true)) else (some (decide (a1 = (a0.length : Int))))).bind fun g19 => if g19 = true then (some (([] : List (List Int)), 0)) else ((juratref08_part.f k a0 a1 true).bind fun r31 => some (r31, 0)))
set_option maxRecDepth 100000 in
set_option maxHeartbeats 4000000 in
theorem juratref08_Consist.calls (k : Nat) (w : World) (F : CH) (A1 : Option Addr) (c2 : Nat) (n3 : Nat) (a0 : List (List Int)) (a1 : Int) (hp : Pre w F []) (hn4 : n3 = a0.length) (hl5 : a0.length ≤ c2) (hm6 : c2 ≤ maxLen) (hS7 : Sl (Kd.arrI 32 .u8) F F A1 a0) (hG0 : CH.le (CH.row 0 0 (glob0.map (Value.int .u32))) F) (hG2 : CH.le (CH.row 2 0 (glob2.map (Value.int .u32))) F) (r0_ : List (List Int)) (r1_ : Int) (H : juratref08_Consist.f k a0 a1 = some (r0_, r1_)) :
    Calls Tryd.prog 32 #[.slice A1 n3 c2, .int .i64 a1] w fun e w' => ∃ (A42 : Option Addr) (c43 : Nat) (n44 : Nat) (p46 : CH), e = .returned (.tuple #[(.slice A42 n44 c43), (.int .i64 r1_)]) ∧ Ctx w F (domL []) w' F [p46] ∧ n44 = r0_.length ∧ Row (Kd.arrI 32 .u8) F p46 (.slice A42 n44 c43) r0_ := by
  have C := Ctx.start hp
  generalize hD : domL [] = D at C ⊢
  unfold juratref08_Consist.f at H
  refine Calls.ofW Tryd.func32 rfl (by simp [Tryd.ntmps32]) ?_
  refine W.seq ?_
  refine W.region rfl ?_
  refine WL.val (Yl.assign (v := .slice none 0 0) rfl) ?_
  refine WL.val (Yl.assign (v := .int .i64 0) rfl) ?_
  refine WL.done ?_
  refine W.seq ?_
  refine W.seq ?_
  refine W.region rfl ?_
  refine WL.val (Yl.move (v := .int .i64 a1) rfl) ?_
  refine WL.val (Yl.lss (m := a1) (n := 0) (q := decide (a1 < 0)) rfl rfl rfl) ?_
  refine WL.val (Yl.move (v := .bool (decide (a1 < 0))) rfl) ?_
  obtain ⟨g8, HE9, H⟩ := bindE H
  refine WL.cut (fun env_ w_ => env_ 13 = .bool g8 ∧ env_ 0 = .slice A1 n3 c2 ∧ env_ 1 = .int .i64 a1 ∧ Ctx w F D w_ F []) ?_ ?_
  · skip
    rcases iteE HE9 with ⟨hc10, HE9⟩ | ⟨hc10, HE9⟩
    · skip
      refine WL.off rfl (congrArg Value.bool (decide_eq_true hc10)) ?_
      refine WL.off rfl (congrArg Value.bool (decide_eq_true hc10)) ?_
      refine WL.off rfl (congrArg Value.bool (decide_eq_true hc10)) ?_
      refine WL.off rfl (congrArg Value.bool (decide_eq_true hc10)) ?_
      refine WL.val (Yl.pickT (v := .bool true) (congrArg Value.bool (decide_eq_true hc10)) rfl) ?_
      cases HE9
      exact WL.done ⟨rfl, rfl, rfl, C⟩
    · skip
      refine WL.on rfl (congrArg Value.bool (decide_eq_false hc10)) ?_
      refine WL.val (Yl.move (v := .int .i64 a1) rfl) ?_
      refine WL.on rfl (congrArg Value.bool (decide_eq_false hc10)) ?_
      refine WL.val (Yl.move (v := .slice A1 n3 c2) rfl) ?_
      refine WL.on rfl (congrArg Value.bool (decide_eq_false hc10)) ?_
      refine WL.val (Yl.lenN (A := A1) (l := n3) (q := c2) (n := (a0.length : Int)) rfl Tryd.underlying31 (by omega)) ?_
      refine WL.on rfl (congrArg Value.bool (decide_eq_false hc10)) ?_
      refine WL.val (Yl.gtr (m := a1) (n := (a0.length : Int)) (q := decide (a1 > (a0.length : Int))) rfl rfl rfl) ?_
      refine WL.val (Yl.pickF (v := .bool (decide (a1 > (a0.length : Int)))) (congrArg Value.bool (decide_eq_false hc10)) rfl) ?_
      cases HE9
      exact WL.done ⟨rfl, rfl, rfl, C⟩
  · skip
    rintro env_ w_ ⟨ho11, ho12, ho13, C14⟩
    rcases iteE H with ⟨hc15, H⟩ | ⟨hc15, H⟩
    · skip
      refine W.condT (ho11.trans (congrArg Value.bool hc15)) ?_
      refine W.seq ?_
      refine W.region rfl ?_
      refine WL.val (Yl.assign (v := .slice none 0 0) rfl) ?_
      refine WL.val (Yl.assign (v := .int .i64 1) rfl) ?_
      refine WL.done ?_
      refine W.ret ?_
      refine thenE_r ?_
      have C16 : Ctx _ _ _ _ F [CH.emp] := Ctx.emp C14
      simp only [Option.some.injEq, Prod.mk.injEq] at H
      obtain ⟨e17, e18⟩ := H
      subst e17 e18
      exact post_r (resE2 rfl rfl rfl) ⟨none, 0, 0, CH.emp, rfl, C16, rfl, (Row.nil _ _)⟩
    · skip
      refine W.condF (ho11.trans (congrArg Value.bool (Bool.eq_false_iff.2 hc15))) ?_
      refine W.skip ?_
      refine W.seq ?_
      refine W.seq ?_
      refine W.region rfl ?_
      refine WL.val (Yl.move (v := .int .i64 a1) ho13) ?_
      refine WL.val (Yl.eql (m := a1) (n := 0) (q := decide (a1 = 0)) rfl rfl rfl) ?_
      refine WL.val (Yl.move (v := .bool (decide (a1 = 0))) rfl) ?_
      obtain ⟨g19, HE20, H⟩ := bindE H
      refine WL.cut (fun env_ w_ => env_ 21 = .bool g19 ∧ env_ 0 = .slice A1 n3 c2 ∧ env_ 1 = .int .i64 a1 ∧ Ctx w F D w_ F []) ?_ ?_
      · skip
        rcases iteE HE20 with ⟨hc21, HE20⟩ | ⟨hc21, HE20⟩
        · skip
          refine WL.off rfl (congrArg Value.bool (decide_eq_true hc21)) ?_
          refine WL.off rfl (congrArg Value.bool (decide_eq_true hc21)) ?_
          refine WL.off rfl (congrArg Value.bool (decide_eq_true hc21)) ?_
          refine WL.off rfl (congrArg Value.bool (decide_eq_true hc21)) ?_
          refine WL.val (Yl.pickT (v := .bool true) (congrArg Value.bool (decide_eq_true hc21)) rfl) ?_
          cases HE20
          exact WL.done ⟨rfl, ho12, ho13, C14⟩
        · skip
          refine WL.on rfl (congrArg Value.bool (decide_eq_false hc21)) ?_
          refine WL.val (Yl.move (v := .int .i64 a1) ho13) ?_
          refine WL.on rfl (congrArg Value.bool (decide_eq_false hc21)) ?_
          refine WL.val (Yl.move (v := .slice A1 n3 c2) ho12) ?_
          refine WL.on rfl (congrArg Value.bool (decide_eq_false hc21)) ?_
          refine WL.val (Yl.lenN (A := A1) (l := n3) (q := c2) (n := (a0.length : Int)) rfl Tryd.underlying31 (by omega)) ?_
          refine WL.on rfl (congrArg Value.bool (decide_eq_false hc21)) ?_
          refine WL.val (Yl.eql (m := a1) (n := (a0.length : Int)) (q := decide (a1 = (a0.length : Int))) rfl rfl rfl) ?_
          refine WL.val (Yl.pickF (v := .bool (decide (a1 = (a0.length : Int)))) (congrArg Value.bool (decide_eq_false hc21)) rfl) ?_
          cases HE20
          exact WL.done ⟨rfl, ho12, ho13, C14⟩
      · skip
        rintro env_ w_ ⟨ho22, ho23, ho24, C25⟩
        rcases iteE H with ⟨hc26, H⟩ | ⟨hc26, H⟩
        · skip
          refine W.condT (ho22.trans (congrArg Value.bool hc26)) ?_
          refine W.seq ?_
          refine W.region rfl ?_
          refine WL.val (Yl.assign (v := .slice none 0 0) rfl) ?_
          refine WL.val (Yl.assign (v := .int .i64 0) rfl) ?_
          refine WL.done ?_
          refine W.ret ?_
          refine thenE_r ?_
          have C27 : Ctx _ _ _ _ F [CH.emp] := Ctx.emp C25
          simp only [Option.some.injEq, Prod.mk.injEq] at H
          obtain ⟨e28, e29⟩ := H
          subst e28 e29
          exact post_r (resE2 rfl rfl rfl) ⟨none, 0, 0, CH.emp, rfl, C27, rfl, (Row.nil _ _)⟩
        · skip
          refine W.condF (ho22.trans (congrArg Value.bool (Bool.eq_false_iff.2 hc26))) ?_
          refine W.skip ?_
          refine W.seq ?_
          refine W.region rfl ?_
          refine WL.val (Yl.move (v := .slice A1 n3 c2) ho23) ?_
          refine WL.val (Yl.move (v := .int .i64 a1) ho24) ?_
          obtain ⟨r31, hg30, H⟩ := bindE H
          refine WL.call (args := #[.slice A1 n3 c2, .int .i64 a1, .bool true]) (Yenter.fn Tryd.func59 (by kernel_rfl) rfl (argsE (.cons rfl (.cons rfl (.cons rfl .nil))))) (juratref08_part.calls k _ F A1 c2 n3 a0 a1 true (Ctx.pre (qs := []) (rest := []) C25) hn4 hl5 hm6 hS7 (CH.le_trans hG0 (CH.le_trans (CH.le_refl _) (CH.le_refl _))) (CH.le_trans hG2 (CH.le_trans (CH.le_refl _) (CH.le_refl _))) r31 hg30) ?_
          rintro e_ w_ ⟨A32, c33, n34, p36, rfl, C38, hn35, hR37⟩
          refine ⟨_, rfl, ?_⟩
          have C39 : Ctx _ _ _ _ F [p36] := Ctx.call (qs := []) (rest := []) C25 C38
          refine WL.val (Yl.assign (v := .slice A32 n34 c33) rfl) ?_
          refine WL.val (Yl.assign (v := .int .i64 0) rfl) ?_
          refine WL.done ?_
          refine W.ret ?_
          simp only [Option.some.injEq, Prod.mk.injEq] at H
          obtain ⟨e40, e41⟩ := H
          subst e40 e41
          exact post_r (resE2 rfl rfl rfl) ⟨A32, c33, n34, p36, rfl, C39, hn35, hR37⟩
def juratref08_lead.f : Nat → List Int → Int → Int → List (List Int) → Option ((List Int) × Bool)
  | 0, _, _, _, _ => none
  | k + 1, a0, a1, a2, a3 => if a2 = 1 then (some (a0, decide ((a3.length : Int) = 0))) else (if (a3.length : Int) = 0 then (some ((List.replicate 32 (0 : Int)), false)) else ((juratref08_split.f k a2).bind fun r36 => if 0 ≤ (wi64 ((a3.length : Int) - 1)) ∧ (wi64 ((a3.length : Int) - 1)) < (a3.length : Int) then (if 0 ≤ (wi64 ((a3.length : Int) - 1)) ∧ (wi64 ((a3.length : Int) - 1)) ≤ (a3.length : Int) then (if a1 < r36 then ((juratref08_lead.f k a0 a1 r36 (a3.take (wi64 ((a3.length : Int) - 1)).toNat)).bind fun ⟨r61, r62⟩ => (juratref08_Node.f k r61 (a3.getD (wi64 ((a3.length : Int) - 1)).toNat [])).bind fun r75 => some (r75, r62)) else ((juratref08_lead.f k a0 (wi64 (a1 - r36)) (wi64 (a2 - r36)) (a3.take (wi64 ((a3.length : Int) - 1)).toNat)).bind fun ⟨r90, r91⟩ => (juratref08_Node.f k (a3.getD (wi64 ((a3.length : Int) - 1)).toNat []) r90).bind fun r104 => some (r104, r91))) else none) else none))
set_option maxRecDepth 100000 in
set_option maxHeartbeats 4000000 in
theorem juratref08_lead.calls : ∀ (k : Nat) (w : World) (F : CH) (a0 : List Int) (a1 : Int) (a2 : Int) (A2 : Option Addr) (c3 : Nat) (n4 : Nat) (a3 : List (List Int)) (hp : Pre w F []) (ha1 : a0.length = 32) (hn5 : n4 = a3.length) (hl6 : a3.length ≤ c3) (hm7 : c3 ≤ maxLen) (hS8 : Sl (Kd.arrI 32 .u8) F F A2 a3) (hG0 : CH.le (CH.row 0 0 (glob0.map (Value.int .u32))) F) (hG2 : CH.le (CH.row 2 0 (glob2.map (Value.int .u32))) F) (r0_ : List Int) (r1_ : Bool) (H : juratref08_lead.f k a0 a1 a2 a3 = some (r0_, r1_)),
    Calls Tryd.prog 62 #[.agg (List.toArray (a0.map (Value.int .u8))), .int .i64 a1, .int .i64 a2, .slice A2 n4 c3] w fun e w' => e = .returned (.tuple #[(.agg (List.toArray (r0_.map (Value.int .u8)))), (.bool r1_)]) ∧ Ctx w F (domL []) w' F [] ∧ r0_.length = 32 := by
  intro k
  induction k with
  | zero => intro w F a0 a1 a2 A2 c3 n4 a3 hp ha1 hn5 hl6 hm7 hS8 hG0 hG2 r0_ r1_ H; exact absurd H (by simp [juratref08_lead.f])
  | succ k ih =>
    intro w F a0 a1 a2 A2 c3 n4 a3 hp ha1 hn5 hl6 hm7 hS8 hG0 hG2 r0_ r1_ H
    have C := Ctx.start hp
    generalize hD : domL [] = D at C ⊢
    rw [juratref08_lead.f] at H
    refine Calls.ofW Tryd.func62 rfl (by simp [Tryd.ntmps62]) ?_
    refine W.seq ?_
    refine W.region rfl ?_
    obtain ⟨g9, w10, hy11, C12⟩ := ev_box (P := Tryd.prog) 33 (.agg (List.toArray (a0.map (Value.int .u8)))) (a0.map (Value.int .u8)) C rfl
    refine WL.val (hy11 _ _ _ rfl) ?_
    obtain ⟨g13, w14, hy15, C16⟩ := ev_alloc (P := Tryd.prog) (e := 33) ((List.replicate 32 (0 : Int)).map (Value.int .u8)) C12 zr33 rfl
    refine WL.val (hy15 _ _) ?_
    refine WL.val (Yl.assign (v := .bool false) rfl) ?_
    refine WL.done ?_
    refine W.seq ?_
    refine W.seq ?_
    refine W.region rfl ?_
    refine WL.val (Yl.move (v := .int .i64 a2) rfl) ?_
    refine WL.val (Yl.eql (m := a2) (n := 1) (q := decide (a2 = 1)) rfl rfl rfl) ?_
    refine WL.done ?_
    rcases iteE H with ⟨hc17, H⟩ | ⟨hc17, H⟩
    · skip
      refine W.condT (congrArg Value.bool (decide_eq_true hc17)) ?_
      refine W.seq ?_
      refine W.region rfl ?_
      refine WL.val (Yl.loadVA (g := g9) (off := 0) (o := 0) (cs := a0.map (Value.int .u8)) (us := a0.map (Value.int .u8)) rfl Tryd.underlying33 rfl (sz_of sz33 (by first | (simp only [List.length_append, List.length_map, List.length_cons, List.length_nil, ha1]; done) | simp [ha1])) (Ctx.sub_of [CH.row g13 0 ((List.replicate 32 (0 : Int)).map (Value.int .u8))] [] C16) (take_all _)) ?_
      refine WL.val (Yl.move (v := .slice A2 n4 c3) rfl) ?_
      refine WL.val (Yl.lenN (A := A2) (l := n4) (q := c3) (n := (a3.length : Int)) rfl Tryd.underlying31 (by omega)) ?_
      refine WL.val (Yl.eql (m := (a3.length : Int)) (n := 0) (q := decide ((a3.length : Int) = 0)) rfl rfl rfl) ?_
      obtain ⟨w18, hy19, C20⟩ := ev_set (P := Tryd.prog) (ps1 := []) (ps2 := [CH.row g9 0 (a0.map (Value.int .u8))]) (t := 33) (o := 0) ((List.replicate 32 (0 : Int)).map (Value.int .u8)) [] ((List.replicate 32 (0 : Int)).map (Value.int .u8)) [] (a0.map (Value.int .u8)) (.agg (List.toArray (a0.map (Value.int .u8)))) C16 (by first | (simp only [List.length_append, List.length_map, List.length_cons, List.length_nil, (List.length_replicate ..), ha1]; done) | simp [(List.length_replicate ..), ha1]) (by first | (simp only [List.length_append, List.length_map, List.length_cons, List.length_nil, (List.length_replicate ..), ha1]; done) | simp [(List.length_replicate ..), ha1]) (by first | (simp only [List.length_append, List.length_map, List.length_cons, List.length_nil, (List.length_replicate ..), ha1]; done) | simp [(List.length_replicate ..), ha1]) rfl (one_ints _ _) (sz_of sz33 (by first | (simp only [List.length_append, List.length_map, List.length_cons, List.length_nil, ha1]; done) | simp [ha1]))
      have C21 : Ctx _ _ _ _ F [CH.row g13 0 (a0.map (Value.int .u8)), CH.row g9 0 (a0.map (Value.int .u8))] := (by simpa using C20)
      refine WL.skip (hy19 _ _ _ _ rfl rfl) ?_
      refine WL.val (Yl.assign (v := .bool (decide ((a3.length : Int) = 0))) rfl) ?_
      refine WL.done ?_
      refine W.ret ?_
      refine thenE_r ?_
      have C22 : Ctx _ _ _ _ F [CH.row g9 0 (a0.map (Value.int .u8))] := Ctx.drop [] [CH.row g9 0 (a0.map (Value.int .u8))] C21
      have C23 : Ctx _ _ _ _ F [] := Ctx.drop [] [] C22
      simp only [Option.some.injEq, Prod.mk.injEq] at H
      obtain ⟨e24, e25⟩ := H
      subst e24 e25
      exact post_r (resET rfl ((.cell rfl (run_loadVA2 (g := g13) (off := 0) (o := 0) (cs := a0.map (Value.int .u8)) (us := a0.map (Value.int .u8)) Tryd.underlying33 rfl (sz_of sz33 (by first | (simp only [List.length_append, List.length_map, List.length_cons, List.length_nil, ha1]; done) | simp [ha1])) (Ctx.sub_of [] [CH.row g9 0 (a0.map (Value.int .u8))] C21) (take_all _)) (.tmp rfl .nil))) rfl) ⟨rfl, C23, ha1⟩
    · skip
      refine W.condF (congrArg Value.bool (decide_eq_false hc17)) ?_
      refine W.skip ?_
      refine W.seq ?_
      refine W.seq ?_
      refine W.region rfl ?_
      refine WL.val (Yl.move (v := .slice A2 n4 c3) rfl) ?_
      refine WL.val (Yl.lenN (A := A2) (l := n4) (q := c3) (n := (a3.length : Int)) rfl Tryd.underlying31 (by omega)) ?_
      refine WL.val (Yl.eql (m := (a3.length : Int)) (n := 0) (q := decide ((a3.length : Int) = 0)) rfl rfl rfl) ?_
      refine WL.done ?_
      rcases iteE H with ⟨hc26, H⟩ | ⟨hc26, H⟩
      · skip
        refine W.condT (congrArg Value.bool (decide_eq_true hc26)) ?_
        refine W.seq ?_
        refine W.region rfl ?_
        refine WL.val (Yl.buildArr (cs := List.toArray ((List.replicate 32 (0 : Int)).map (Value.int .u8))) Tryd.underlying33 sz5 zr33 (partsB .nil) rfl) ?_
        obtain ⟨w27, hy28, C29⟩ := ev_set (P := Tryd.prog) (ps1 := []) (ps2 := [CH.row g9 0 (a0.map (Value.int .u8))]) (t := 33) (o := 0) ((List.replicate 32 (0 : Int)).map (Value.int .u8)) [] ((List.replicate 32 (0 : Int)).map (Value.int .u8)) [] ((List.replicate 32 (0 : Int)).map (Value.int .u8)) (.agg (List.toArray ((List.replicate 32 (0 : Int)).map (Value.int .u8)))) C16 (by first | (simp only [List.length_append, List.length_map, List.length_cons, List.length_nil, (List.length_replicate ..)]; done) | simp [(List.length_replicate ..)]) (by first | (simp only [List.length_append, List.length_map, List.length_cons, List.length_nil, (List.length_replicate ..)]; done) | simp [(List.length_replicate ..)]) (by first | (simp only [List.length_append, List.length_map, List.length_cons, List.length_nil, (List.length_replicate ..)]; done) | simp [(List.length_replicate ..)]) rfl (one_ints _ _) (sz_of sz33 (by first | (simp only [List.length_append, List.length_map, List.length_cons, List.length_nil, (List.length_replicate ..)]; done) | simp [(List.length_replicate ..)]))
        have C30 : Ctx _ _ _ _ F [CH.row g13 0 ((List.replicate 32 (0 : Int)).map (Value.int .u8)), CH.row g9 0 (a0.map (Value.int .u8))] := (by simpa using C29)
        refine WL.skip (hy28 _ _ _ _ rfl rfl) ?_
        refine WL.val (Yl.assign (v := .bool false) rfl) ?_
        refine WL.done ?_
        refine W.ret ?_
        refine thenE_r ?_
        have C31 : Ctx _ _ _ _ F [CH.row g9 0 (a0.map (Value.int .u8))] := Ctx.drop [] [CH.row g9 0 (a0.map (Value.int .u8))] C30
        have C32 : Ctx _ _ _ _ F [] := Ctx.drop [] [] C31
        simp only [Option.some.injEq, Prod.mk.injEq] at H
        obtain ⟨e33, e34⟩ := H
        subst e33 e34
        exact post_r (resET rfl ((.cell rfl (run_loadVA2 (g := g13) (off := 0) (o := 0) (cs := (List.replicate 32 (0 : Int)).map (Value.int .u8)) (us := (List.replicate 32 (0 : Int)).map (Value.int .u8)) Tryd.underlying33 rfl (sz_of sz33 (by first | (simp only [List.length_append, List.length_map, List.length_cons, List.length_nil, (List.length_replicate ..)]; done) | simp [(List.length_replicate ..)])) (Ctx.sub_of [] [CH.row g9 0 (a0.map (Value.int .u8))] C30) (take_all _)) (.tmp rfl .nil))) rfl) ⟨rfl, C32, (List.length_replicate ..)⟩
      · skip
        refine W.condF (congrArg Value.bool (decide_eq_false hc26)) ?_
        refine W.skip ?_
        refine W.seq ?_
        refine W.region rfl ?_
        refine WL.val (Yl.move (v := .int .i64 a2) rfl) ?_
        obtain ⟨r36, hg35, H⟩ := bindE H
        refine WL.call (args := #[.int .i64 a2]) (Yenter.fn Tryd.func52 (by kernel_rfl) rfl (argsE (.cons rfl .nil))) (juratref08_split.calls k _ F a2 C16.pre0  r36 hg35) ?_
        rintro e_ w_ ⟨rfl, ⟨m37, rfl⟩⟩
        refine ⟨_, rfl, ?_⟩
        have C38 := Ctx.drewN C16 m37
        refine WL.val (Yl.assign (v := .int .i64 r36) rfl) ?_
        refine WL.done ?_
        refine W.seq ?_
        refine W.region rfl ?_
        refine WL.val (Yl.move (v := .slice A2 n4 c3) rfl) ?_
        refine WL.val (Yl.move (v := .slice A2 n4 c3) rfl) ?_
        refine WL.val (Yl.lenN (A := A2) (l := n4) (q := c3) (n := (a3.length : Int)) rfl Tryd.underlying31 (by omega)) ?_
        refine WL.val (Yl.sub (m := (a3.length : Int)) (n := 1) (r := wi64 ((a3.length : Int) - 1)) rfl rfl rfl) ?_
        obtain ⟨hc39, H⟩ := guardE H
        obtain ⟨b40, of41, hA42, he43⟩ := hS8 (by omega)
        refine WL.val (Yl.elemAddr (i := wi64 ((a3.length : Int) - 1)) rfl rfl hA42 Tryd.underlying31 sz33 (by omega)) ?_
        obtain ⟨cs44, hr45, hx46⟩ := he43 (wi64 ((a3.length : Int) - 1)).toNat _ (getD_some (d := []) (by omega))
        obtain ⟨rfl, ha47⟩ := hr45
        refine WL.val (Yl.loadAgg (cs := (a3.getD (wi64 ((a3.length : Int) - 1)).toNat []).map (Value.int .u8)) rfl Tryd.underlying33 rfl (sz_of sz33 (by first | (simp only [List.length_append, List.length_map, List.length_cons, List.length_nil, ha47]; done) | simp [ha47])) (fun j u hu => by rw [add_of]; exact ((C38.fro)).cell (hx46 _ _ hu))) ?_
        obtain ⟨g48, w49, hy50, C51⟩ := ev_alloc (P := Tryd.prog) (e := 33) ((List.replicate 32 (0 : Int)).map (Value.int .u8)) C38 zr33 rfl
        refine WL.val (hy50 _ _) ?_
        obtain ⟨w52, hy53, C54⟩ := ev_set (P := Tryd.prog) (ps1 := []) (ps2 := [CH.row g13 0 ((List.replicate 32 (0 : Int)).map (Value.int .u8)), CH.row g9 0 (a0.map (Value.int .u8))]) (t := 33) (o := 0) ((List.replicate 32 (0 : Int)).map (Value.int .u8)) [] ((List.replicate 32 (0 : Int)).map (Value.int .u8)) [] ((a3.getD (wi64 ((a3.length : Int) - 1)).toNat []).map (Value.int .u8)) (.agg (List.toArray ((a3.getD (wi64 ((a3.length : Int) - 1)).toNat []).map (Value.int .u8)))) C51 (by first | (simp only [List.length_append, List.length_map, List.length_cons, List.length_nil, (List.length_replicate ..), ha47]; done) | simp [(List.length_replicate ..), ha47]) (by first | (simp only [List.length_append, List.length_map, List.length_cons, List.length_nil, (List.length_replicate ..), ha47]; done) | simp [(List.length_replicate ..), ha47]) (by first | (simp only [List.length_append, List.length_map, List.length_cons, List.length_nil, (List.length_replicate ..), ha47]; done) | simp [(List.length_replicate ..), ha47]) rfl (one_ints _ _) (sz_of sz33 (by first | (simp only [List.length_append, List.length_map, List.length_cons, List.length_nil, ha47]; done) | simp [ha47]))
        have C55 : Ctx _ _ _ _ F [CH.row g48 0 ((a3.getD (wi64 ((a3.length : Int) - 1)).toNat []).map (Value.int .u8)), CH.row g13 0 ((List.replicate 32 (0 : Int)).map (Value.int .u8)), CH.row g9 0 (a0.map (Value.int .u8))] := (by simpa using C54)
        refine WL.skip (hy53 _ _ _ _ rfl rfl) ?_
        refine WL.done ?_
        refine W.seq ?_
        refine W.region rfl ?_
        refine WL.val (Yl.move (v := .slice A2 n4 c3) rfl) ?_
        refine WL.val (Yl.move (v := .slice A2 n4 c3) rfl) ?_
        refine WL.val (Yl.lenN (A := A2) (l := n4) (q := c3) (n := (a3.length : Int)) rfl Tryd.underlying31 (by omega)) ?_
        refine WL.val (Yl.sub (m := (a3.length : Int)) (n := 1) (r := wi64 ((a3.length : Int) - 1)) rfl rfl rfl) ?_
        obtain ⟨hc56, H⟩ := guardE H
        have hn57 : (wi64 ((a3.length : Int) - 1)).toNat = (a3.take (wi64 ((a3.length : Int) - 1)).toNat).length := by rw [List.length_take]; omega
        refine WL.val (Yl.sliceHi rfl Tryd.underlying31 sz33 rfl ⟨hc56.1, by omega⟩) ?_
        refine WL.val (Yl.assign (v := .slice A2 ((wi64 ((a3.length : Int) - 1)).toNat) c3) rfl) ?_
        refine WL.done ?_
        refine W.seq ?_
        refine W.seq ?_
        refine W.region rfl ?_
        refine WL.val (Yl.move (v := .int .i64 a1) rfl) ?_
        refine WL.val (Yl.move (v := .int .i64 r36) rfl) ?_
        refine WL.val (Yl.lss (m := a1) (n := r36) (q := decide (a1 < r36)) rfl rfl rfl) ?_
        refine WL.done ?_
        rcases iteE H with ⟨hc59, H⟩ | ⟨hc59, H⟩
        · skip
          refine W.condT (congrArg Value.bool (decide_eq_true hc59)) ?_
          refine W.seq ?_
          refine W.region rfl ?_
          refine WL.val (Yl.loadVA (g := g9) (off := 0) (o := 0) (cs := a0.map (Value.int .u8)) (us := a0.map (Value.int .u8)) rfl Tryd.underlying33 rfl (sz_of sz33 (by first | (simp only [List.length_append, List.length_map, List.length_cons, List.length_nil, ha1]; done) | simp [ha1])) (Ctx.sub_of [CH.row g48 0 ((a3.getD (wi64 ((a3.length : Int) - 1)).toNat []).map (Value.int .u8)), CH.row g13 0 ((List.replicate 32 (0 : Int)).map (Value.int .u8))] [] C55) (take_all _)) ?_
          refine WL.val (Yl.move (v := .int .i64 a1) rfl) ?_
          refine WL.val (Yl.move (v := .int .i64 r36) rfl) ?_
          refine WL.val (Yl.move (v := .slice A2 ((wi64 ((a3.length : Int) - 1)).toNat) c3) rfl) ?_
          obtain ⟨⟨r61, r62⟩, hg60, H⟩ := bindE H
          refine WL.call (args := #[.agg (List.toArray (a0.map (Value.int .u8))), .int .i64 a1, .int .i64 r36, .slice A2 ((wi64 ((a3.length : Int) - 1)).toNat) c3]) (Yenter.fn Tryd.func62 (by kernel_rfl) rfl (argsE (.cons rfl (.cons rfl (.cons rfl (.cons rfl .nil)))))) (ih _ F a0 a1 r36 A2 c3 ((wi64 ((a3.length : Int) - 1)).toNat) (a3.take (wi64 ((a3.length : Int) - 1)).toNat) (Ctx.pre (qs := []) (rest := [CH.row g48 0 ((a3.getD (wi64 ((a3.length : Int) - 1)).toNat []).map (Value.int .u8)), CH.row g13 0 ((List.replicate 32 (0 : Int)).map (Value.int .u8)), CH.row g9 0 (a0.map (Value.int .u8))]) C55) ha1 hn57 (by rw [List.length_take]; omega) hm7 (Sl.take hS8 _) (CH.le_trans hG0 (CH.le_trans (CH.le_refl _) (CH.le_refl _))) (CH.le_trans hG2 (CH.le_trans (CH.le_refl _) (CH.le_refl _))) r61 r62 hg60) ?_
          rintro e_ w_ ⟨rfl, C64, ha63⟩
          refine ⟨_, rfl, ?_⟩
          have C65 : Ctx _ _ _ _ F [CH.row g48 0 ((a3.getD (wi64 ((a3.length : Int) - 1)).toNat []).map (Value.int .u8)), CH.row g13 0 ((List.replicate 32 (0 : Int)).map (Value.int .u8)), CH.row g9 0 (a0.map (Value.int .u8))] := Ctx.call (qs := []) (rest := [CH.row g48 0 ((a3.getD (wi64 ((a3.length : Int) - 1)).toNat []).map (Value.int .u8)), CH.row g13 0 ((List.replicate 32 (0 : Int)).map (Value.int .u8)), CH.row g9 0 (a0.map (Value.int .u8))]) C55 C64
          refine WL.val (Yl.move (v := .tuple #[(.agg (List.toArray (r61.map (Value.int .u8)))), (.bool r62)]) rfl) ?_
          refine WL.val (Yl.extract (v := .agg (List.toArray (r61.map (Value.int .u8)))) rfl rfl) ?_
          refine WL.val (Yl.extract (v := .bool r62) rfl rfl) ?_
          obtain ⟨g66, w67, hy68, C69⟩ := ev_alloc (P := Tryd.prog) (e := 33) ((List.replicate 32 (0 : Int)).map (Value.int .u8)) C65 zr33 rfl
          refine WL.val (hy68 _ _) ?_
          obtain ⟨w70, hy71, C72⟩ := ev_set (P := Tryd.prog) (ps1 := []) (ps2 := [CH.row g48 0 ((a3.getD (wi64 ((a3.length : Int) - 1)).toNat []).map (Value.int .u8)), CH.row g13 0 ((List.replicate 32 (0 : Int)).map (Value.int .u8)), CH.row g9 0 (a0.map (Value.int .u8))]) (t := 33) (o := 0) ((List.replicate 32 (0 : Int)).map (Value.int .u8)) [] ((List.replicate 32 (0 : Int)).map (Value.int .u8)) [] (r61.map (Value.int .u8)) (.agg (List.toArray (r61.map (Value.int .u8)))) C69 (by first | (simp only [List.length_append, List.length_map, List.length_cons, List.length_nil, (List.length_replicate ..), ha63]; done) | simp [(List.length_replicate ..), ha63]) (by first | (simp only [List.length_append, List.length_map, List.length_cons, List.length_nil, (List.length_replicate ..), ha63]; done) | simp [(List.length_replicate ..), ha63]) (by first | (simp only [List.length_append, List.length_map, List.length_cons, List.length_nil, (List.length_replicate ..), ha63]; done) | simp [(List.length_replicate ..), ha63]) rfl (one_ints _ _) (sz_of sz33 (by first | (simp only [List.length_append, List.length_map, List.length_cons, List.length_nil, ha63]; done) | simp [ha63]))
          have C73 : Ctx _ _ _ _ F [CH.row g66 0 (r61.map (Value.int .u8)), CH.row g48 0 ((a3.getD (wi64 ((a3.length : Int) - 1)).toNat []).map (Value.int .u8)), CH.row g13 0 ((List.replicate 32 (0 : Int)).map (Value.int .u8)), CH.row g9 0 (a0.map (Value.int .u8))] := (by simpa using C72)
          refine WL.skip (hy71 _ _ _ _ rfl rfl) ?_
          refine WL.val (Yl.assign (v := .bool r62) rfl) ?_
          refine WL.done ?_
          refine W.seq ?_
          refine W.region rfl ?_
          refine WL.val (Yl.loadVA (g := g66) (off := 0) (o := 0) (cs := r61.map (Value.int .u8)) (us := r61.map (Value.int .u8)) rfl Tryd.underlying33 rfl (sz_of sz33 (by first | (simp only [List.length_append, List.length_map, List.length_cons, List.length_nil, ha63]; done) | simp [ha63])) (Ctx.sub_of [] [CH.row g48 0 ((a3.getD (wi64 ((a3.length : Int) - 1)).toNat []).map (Value.int .u8)), CH.row g13 0 ((List.replicate 32 (0 : Int)).map (Value.int .u8)), CH.row g9 0 (a0.map (Value.int .u8))] C73) (take_all _)) ?_
          refine WL.val (Yl.loadVA (g := g48) (off := 0) (o := 0) (cs := (a3.getD (wi64 ((a3.length : Int) - 1)).toNat []).map (Value.int .u8)) (us := (a3.getD (wi64 ((a3.length : Int) - 1)).toNat []).map (Value.int .u8)) rfl Tryd.underlying33 rfl (sz_of sz33 (by first | (simp only [List.length_append, List.length_map, List.length_cons, List.length_nil, ha47]; done) | simp [ha47])) (Ctx.sub_of [CH.row g66 0 (r61.map (Value.int .u8))] [CH.row g13 0 ((List.replicate 32 (0 : Int)).map (Value.int .u8)), CH.row g9 0 (a0.map (Value.int .u8))] C73) (take_all _)) ?_
          obtain ⟨r75, hg74, H⟩ := bindE H
          refine WL.call (args := #[.agg (List.toArray (r61.map (Value.int .u8))), .agg (List.toArray ((a3.getD (wi64 ((a3.length : Int) - 1)).toNat []).map (Value.int .u8)))]) (Yenter.fn Tryd.func26 (by kernel_rfl) rfl (argsE (.cons rfl (.cons rfl .nil)))) (juratref08_Node.calls k _ F r61 (a3.getD (wi64 ((a3.length : Int) - 1)).toNat []) (Ctx.pre (qs := []) (rest := [CH.row g66 0 (r61.map (Value.int .u8)), CH.row g48 0 ((a3.getD (wi64 ((a3.length : Int) - 1)).toNat []).map (Value.int .u8)), CH.row g13 0 ((List.replicate 32 (0 : Int)).map (Value.int .u8)), CH.row g9 0 (a0.map (Value.int .u8))]) C73) ha63 ha47 (CH.le_trans hG0 (CH.le_trans (CH.le_refl _) (CH.le_refl _))) (CH.le_trans hG2 (CH.le_trans (CH.le_refl _) (CH.le_refl _))) r75 hg74) ?_
          rintro e_ w_ ⟨rfl, C77, ha76⟩
          refine ⟨_, rfl, ?_⟩
          have C78 : Ctx _ _ _ _ F [CH.row g66 0 (r61.map (Value.int .u8)), CH.row g48 0 ((a3.getD (wi64 ((a3.length : Int) - 1)).toNat []).map (Value.int .u8)), CH.row g13 0 ((List.replicate 32 (0 : Int)).map (Value.int .u8)), CH.row g9 0 (a0.map (Value.int .u8))] := Ctx.call (qs := []) (rest := [CH.row g66 0 (r61.map (Value.int .u8)), CH.row g48 0 ((a3.getD (wi64 ((a3.length : Int) - 1)).toNat []).map (Value.int .u8)), CH.row g13 0 ((List.replicate 32 (0 : Int)).map (Value.int .u8)), CH.row g9 0 (a0.map (Value.int .u8))]) C73 C77
          refine WL.val (Yl.move (v := .bool r62) rfl) ?_
          obtain ⟨w79, hy80, C81⟩ := ev_set (P := Tryd.prog) (ps1 := [CH.row g66 0 (r61.map (Value.int .u8)), CH.row g48 0 ((a3.getD (wi64 ((a3.length : Int) - 1)).toNat []).map (Value.int .u8))]) (ps2 := [CH.row g9 0 (a0.map (Value.int .u8))]) (t := 33) (o := 0) ((List.replicate 32 (0 : Int)).map (Value.int .u8)) [] ((List.replicate 32 (0 : Int)).map (Value.int .u8)) [] (r75.map (Value.int .u8)) (.agg (List.toArray (r75.map (Value.int .u8)))) C78 (by first | (simp only [List.length_append, List.length_map, List.length_cons, List.length_nil, (List.length_replicate ..), ha76]; done) | simp [(List.length_replicate ..), ha76]) (by first | (simp only [List.length_append, List.length_map, List.length_cons, List.length_nil, (List.length_replicate ..), ha76]; done) | simp [(List.length_replicate ..), ha76]) (by first | (simp only [List.length_append, List.length_map, List.length_cons, List.length_nil, (List.length_replicate ..), ha76]; done) | simp [(List.length_replicate ..), ha76]) rfl (one_ints _ _) (sz_of sz33 (by first | (simp only [List.length_append, List.length_map, List.length_cons, List.length_nil, ha76]; done) | simp [ha76]))
          have C82 : Ctx _ _ _ _ F [CH.row g66 0 (r61.map (Value.int .u8)), CH.row g48 0 ((a3.getD (wi64 ((a3.length : Int) - 1)).toNat []).map (Value.int .u8)), CH.row g13 0 (r75.map (Value.int .u8)), CH.row g9 0 (a0.map (Value.int .u8))] := (by simpa using C81)
          refine WL.skip (hy80 _ _ _ _ rfl rfl) ?_
          refine WL.val (Yl.assign (v := .bool r62) rfl) ?_
          refine WL.done ?_
          refine W.ret ?_
          refine thenE_r ?_
          have C83 : Ctx _ _ _ _ F [CH.row g48 0 ((a3.getD (wi64 ((a3.length : Int) - 1)).toNat []).map (Value.int .u8)), CH.row g13 0 (r75.map (Value.int .u8)), CH.row g9 0 (a0.map (Value.int .u8))] := Ctx.drop [] [CH.row g48 0 ((a3.getD (wi64 ((a3.length : Int) - 1)).toNat []).map (Value.int .u8)), CH.row g13 0 (r75.map (Value.int .u8)), CH.row g9 0 (a0.map (Value.int .u8))] C82
          have C84 : Ctx _ _ _ _ F [CH.row g13 0 (r75.map (Value.int .u8)), CH.row g9 0 (a0.map (Value.int .u8))] := Ctx.drop [] [CH.row g13 0 (r75.map (Value.int .u8)), CH.row g9 0 (a0.map (Value.int .u8))] C83
          have C85 : Ctx _ _ _ _ F [CH.row g9 0 (a0.map (Value.int .u8))] := Ctx.drop [] [CH.row g9 0 (a0.map (Value.int .u8))] C84
          have C86 : Ctx _ _ _ _ F [] := Ctx.drop [] [] C85
          simp only [Option.some.injEq, Prod.mk.injEq] at H
          obtain ⟨e87, e88⟩ := H
          subst e87 e88
          exact post_r (resET rfl ((.cell rfl (run_loadVA2 (g := g13) (off := 0) (o := 0) (cs := r75.map (Value.int .u8)) (us := r75.map (Value.int .u8)) Tryd.underlying33 rfl (sz_of sz33 (by first | (simp only [List.length_append, List.length_map, List.length_cons, List.length_nil, ha76]; done) | simp [ha76])) (Ctx.sub_of [CH.row g66 0 (r61.map (Value.int .u8)), CH.row g48 0 ((a3.getD (wi64 ((a3.length : Int) - 1)).toNat []).map (Value.int .u8))] [CH.row g9 0 (a0.map (Value.int .u8))] C82) (take_all _)) (.tmp rfl .nil))) rfl) ⟨rfl, C86, ha76⟩
        · skip
          refine W.condF (congrArg Value.bool (decide_eq_false hc59)) ?_
          refine W.skip ?_
          refine W.seq ?_
          refine W.region rfl ?_
          refine WL.val (Yl.loadVA (g := g9) (off := 0) (o := 0) (cs := a0.map (Value.int .u8)) (us := a0.map (Value.int .u8)) rfl Tryd.underlying33 rfl (sz_of sz33 (by first | (simp only [List.length_append, List.length_map, List.length_cons, List.length_nil, ha1]; done) | simp [ha1])) (Ctx.sub_of [CH.row g48 0 ((a3.getD (wi64 ((a3.length : Int) - 1)).toNat []).map (Value.int .u8)), CH.row g13 0 ((List.replicate 32 (0 : Int)).map (Value.int .u8))] [] C55) (take_all _)) ?_
          refine WL.val (Yl.move (v := .int .i64 a1) rfl) ?_
          refine WL.val (Yl.move (v := .int .i64 r36) rfl) ?_
          refine WL.val (Yl.sub (m := a1) (n := r36) (r := wi64 (a1 - r36)) rfl rfl rfl) ?_
          refine WL.val (Yl.move (v := .int .i64 a2) rfl) ?_
          refine WL.val (Yl.move (v := .int .i64 r36) rfl) ?_
          refine WL.val (Yl.sub (m := a2) (n := r36) (r := wi64 (a2 - r36)) rfl rfl rfl) ?_
          refine WL.val (Yl.move (v := .slice A2 ((wi64 ((a3.length : Int) - 1)).toNat) c3) rfl) ?_
          obtain ⟨⟨r90, r91⟩, hg89, H⟩ := bindE H
          refine WL.call (args := #[.agg (List.toArray (a0.map (Value.int .u8))), .int .i64 (wi64 (a1 - r36)), .int .i64 (wi64 (a2 - r36)), .slice A2 ((wi64 ((a3.length : Int) - 1)).toNat) c3]) (Yenter.fn Tryd.func62 (by kernel_rfl) rfl (argsE (.cons rfl (.cons rfl (.cons rfl (.cons rfl .nil)))))) (ih _ F a0 (wi64 (a1 - r36)) (wi64 (a2 - r36)) A2 c3 ((wi64 ((a3.length : Int) - 1)).toNat) (a3.take (wi64 ((a3.length : Int) - 1)).toNat) (Ctx.pre (qs := []) (rest := [CH.row g48 0 ((a3.getD (wi64 ((a3.length : Int) - 1)).toNat []).map (Value.int .u8)), CH.row g13 0 ((List.replicate 32 (0 : Int)).map (Value.int .u8)), CH.row g9 0 (a0.map (Value.int .u8))]) C55) ha1 hn57 (by rw [List.length_take]; omega) hm7 (Sl.take hS8 _) (CH.le_trans hG0 (CH.le_trans (CH.le_refl _) (CH.le_refl _))) (CH.le_trans hG2 (CH.le_trans (CH.le_refl _) (CH.le_refl _))) r90 r91 hg89) ?_
          rintro e_ w_ ⟨rfl, C93, ha92⟩
          refine ⟨_, rfl, ?_⟩
          have C94 : Ctx _ _ _ _ F [CH.row g48 0 ((a3.getD (wi64 ((a3.length : Int) - 1)).toNat []).map (Value.int .u8)), CH.row g13 0 ((List.replicate 32 (0 : Int)).map (Value.int .u8)), CH.row g9 0 (a0.map (Value.int .u8))] := Ctx.call (qs := []) (rest := [CH.row g48 0 ((a3.getD (wi64 ((a3.length : Int) - 1)).toNat []).map (Value.int .u8)), CH.row g13 0 ((List.replicate 32 (0 : Int)).map (Value.int .u8)), CH.row g9 0 (a0.map (Value.int .u8))]) C55 C93
          refine WL.val (Yl.move (v := .tuple #[(.agg (List.toArray (r90.map (Value.int .u8)))), (.bool r91)]) rfl) ?_
          refine WL.val (Yl.extract (v := .agg (List.toArray (r90.map (Value.int .u8)))) rfl rfl) ?_
          refine WL.val (Yl.extract (v := .bool r91) rfl rfl) ?_
          obtain ⟨g95, w96, hy97, C98⟩ := ev_alloc (P := Tryd.prog) (e := 33) ((List.replicate 32 (0 : Int)).map (Value.int .u8)) C94 zr33 rfl
          refine WL.val (hy97 _ _) ?_
          obtain ⟨w99, hy100, C101⟩ := ev_set (P := Tryd.prog) (ps1 := []) (ps2 := [CH.row g48 0 ((a3.getD (wi64 ((a3.length : Int) - 1)).toNat []).map (Value.int .u8)), CH.row g13 0 ((List.replicate 32 (0 : Int)).map (Value.int .u8)), CH.row g9 0 (a0.map (Value.int .u8))]) (t := 33) (o := 0) ((List.replicate 32 (0 : Int)).map (Value.int .u8)) [] ((List.replicate 32 (0 : Int)).map (Value.int .u8)) [] (r90.map (Value.int .u8)) (.agg (List.toArray (r90.map (Value.int .u8)))) C98 (by first | (simp only [List.length_append, List.length_map, List.length_cons, List.length_nil, (List.length_replicate ..), ha92]; done) | simp [(List.length_replicate ..), ha92]) (by first | (simp only [List.length_append, List.length_map, List.length_cons, List.length_nil, (List.length_replicate ..), ha92]; done) | simp [(List.length_replicate ..), ha92]) (by first | (simp only [List.length_append, List.length_map, List.length_cons, List.length_nil, (List.length_replicate ..), ha92]; done) | simp [(List.length_replicate ..), ha92]) rfl (one_ints _ _) (sz_of sz33 (by first | (simp only [List.length_append, List.length_map, List.length_cons, List.length_nil, ha92]; done) | simp [ha92]))
          have C102 : Ctx _ _ _ _ F [CH.row g95 0 (r90.map (Value.int .u8)), CH.row g48 0 ((a3.getD (wi64 ((a3.length : Int) - 1)).toNat []).map (Value.int .u8)), CH.row g13 0 ((List.replicate 32 (0 : Int)).map (Value.int .u8)), CH.row g9 0 (a0.map (Value.int .u8))] := (by simpa using C101)
          refine WL.skip (hy100 _ _ _ _ rfl rfl) ?_
          refine WL.val (Yl.assign (v := .bool r91) rfl) ?_
          refine WL.done ?_
          refine W.seq ?_
          refine W.region rfl ?_
          refine WL.val (Yl.loadVA (g := g48) (off := 0) (o := 0) (cs := (a3.getD (wi64 ((a3.length : Int) - 1)).toNat []).map (Value.int .u8)) (us := (a3.getD (wi64 ((a3.length : Int) - 1)).toNat []).map (Value.int .u8)) rfl Tryd.underlying33 rfl (sz_of sz33 (by first | (simp only [List.length_append, List.length_map, List.length_cons, List.length_nil, ha47]; done) | simp [ha47])) (Ctx.sub_of [CH.row g95 0 (r90.map (Value.int .u8))] [CH.row g13 0 ((List.replicate 32 (0 : Int)).map (Value.int .u8)), CH.row g9 0 (a0.map (Value.int .u8))] C102) (take_all _)) ?_
          refine WL.val (Yl.loadVA (g := g95) (off := 0) (o := 0) (cs := r90.map (Value.int .u8)) (us := r90.map (Value.int .u8)) rfl Tryd.underlying33 rfl (sz_of sz33 (by first | (simp only [List.length_append, List.length_map, List.length_cons, List.length_nil, ha92]; done) | simp [ha92])) (Ctx.sub_of [] [CH.row g48 0 ((a3.getD (wi64 ((a3.length : Int) - 1)).toNat []).map (Value.int .u8)), CH.row g13 0 ((List.replicate 32 (0 : Int)).map (Value.int .u8)), CH.row g9 0 (a0.map (Value.int .u8))] C102) (take_all _)) ?_
          obtain ⟨r104, hg103, H⟩ := bindE H
          refine WL.call (args := #[.agg (List.toArray ((a3.getD (wi64 ((a3.length : Int) - 1)).toNat []).map (Value.int .u8))), .agg (List.toArray (r90.map (Value.int .u8)))]) (Yenter.fn Tryd.func26 (by kernel_rfl) rfl (argsE (.cons rfl (.cons rfl .nil)))) (juratref08_Node.calls k _ F (a3.getD (wi64 ((a3.length : Int) - 1)).toNat []) r90 (Ctx.pre (qs := []) (rest := [CH.row g95 0 (r90.map (Value.int .u8)), CH.row g48 0 ((a3.getD (wi64 ((a3.length : Int) - 1)).toNat []).map (Value.int .u8)), CH.row g13 0 ((List.replicate 32 (0 : Int)).map (Value.int .u8)), CH.row g9 0 (a0.map (Value.int .u8))]) C102) ha47 ha92 (CH.le_trans hG0 (CH.le_trans (CH.le_refl _) (CH.le_refl _))) (CH.le_trans hG2 (CH.le_trans (CH.le_refl _) (CH.le_refl _))) r104 hg103) ?_
          rintro e_ w_ ⟨rfl, C106, ha105⟩
          refine ⟨_, rfl, ?_⟩
          have C107 : Ctx _ _ _ _ F [CH.row g95 0 (r90.map (Value.int .u8)), CH.row g48 0 ((a3.getD (wi64 ((a3.length : Int) - 1)).toNat []).map (Value.int .u8)), CH.row g13 0 ((List.replicate 32 (0 : Int)).map (Value.int .u8)), CH.row g9 0 (a0.map (Value.int .u8))] := Ctx.call (qs := []) (rest := [CH.row g95 0 (r90.map (Value.int .u8)), CH.row g48 0 ((a3.getD (wi64 ((a3.length : Int) - 1)).toNat []).map (Value.int .u8)), CH.row g13 0 ((List.replicate 32 (0 : Int)).map (Value.int .u8)), CH.row g9 0 (a0.map (Value.int .u8))]) C102 C106
          refine WL.val (Yl.move (v := .bool r91) rfl) ?_
          obtain ⟨w108, hy109, C110⟩ := ev_set (P := Tryd.prog) (ps1 := [CH.row g95 0 (r90.map (Value.int .u8)), CH.row g48 0 ((a3.getD (wi64 ((a3.length : Int) - 1)).toNat []).map (Value.int .u8))]) (ps2 := [CH.row g9 0 (a0.map (Value.int .u8))]) (t := 33) (o := 0) ((List.replicate 32 (0 : Int)).map (Value.int .u8)) [] ((List.replicate 32 (0 : Int)).map (Value.int .u8)) [] (r104.map (Value.int .u8)) (.agg (List.toArray (r104.map (Value.int .u8)))) C107 (by first | (simp only [List.length_append, List.length_map, List.length_cons, List.length_nil, (List.length_replicate ..), ha105]; done) | simp [(List.length_replicate ..), ha105]) (by first | (simp only [List.length_append, List.length_map, List.length_cons, List.length_nil, (List.length_replicate ..), ha105]; done) | simp [(List.length_replicate ..), ha105]) (by first | (simp only [List.length_append, List.length_map, List.length_cons, List.length_nil, (List.length_replicate ..), ha105]; done) | simp [(List.length_replicate ..), ha105]) rfl (one_ints _ _) (sz_of sz33 (by first | (simp only [List.length_append, List.length_map, List.length_cons, List.length_nil, ha105]; done) | simp [ha105]))
          have C111 : Ctx _ _ _ _ F [CH.row g95 0 (r90.map (Value.int .u8)), CH.row g48 0 ((a3.getD (wi64 ((a3.length : Int) - 1)).toNat []).map (Value.int .u8)), CH.row g13 0 (r104.map (Value.int .u8)), CH.row g9 0 (a0.map (Value.int .u8))] := (by simpa using C110)
          refine WL.skip (hy109 _ _ _ _ rfl rfl) ?_
          refine WL.val (Yl.assign (v := .bool r91) rfl) ?_
          refine WL.done ?_
          refine W.ret ?_
          have C112 : Ctx _ _ _ _ F [CH.row g48 0 ((a3.getD (wi64 ((a3.length : Int) - 1)).toNat []).map (Value.int .u8)), CH.row g13 0 (r104.map (Value.int .u8)), CH.row g9 0 (a0.map (Value.int .u8))] := Ctx.drop [] [CH.row g48 0 ((a3.getD (wi64 ((a3.length : Int) - 1)).toNat []).map (Value.int .u8)), CH.row g13 0 (r104.map (Value.int .u8)), CH.row g9 0 (a0.map (Value.int .u8))] C111
          have C113 : Ctx _ _ _ _ F [CH.row g13 0 (r104.map (Value.int .u8)), CH.row g9 0 (a0.map (Value.int .u8))] := Ctx.drop [] [CH.row g13 0 (r104.map (Value.int .u8)), CH.row g9 0 (a0.map (Value.int .u8))] C112
          have C114 : Ctx _ _ _ _ F [CH.row g9 0 (a0.map (Value.int .u8))] := Ctx.drop [] [CH.row g9 0 (a0.map (Value.int .u8))] C113
          have C115 : Ctx _ _ _ _ F [] := Ctx.drop [] [] C114
          simp only [Option.some.injEq, Prod.mk.injEq] at H
          obtain ⟨e116, e117⟩ := H
          subst e116 e117
          exact post_r (resET rfl ((.cell rfl (run_loadVA2 (g := g13) (off := 0) (o := 0) (cs := r104.map (Value.int .u8)) (us := r104.map (Value.int .u8)) Tryd.underlying33 rfl (sz_of sz33 (by first | (simp only [List.length_append, List.length_map, List.length_cons, List.length_nil, ha105]; done) | simp [ha105])) (Ctx.sub_of [CH.row g95 0 (r90.map (Value.int .u8)), CH.row g48 0 ((a3.getD (wi64 ((a3.length : Int) - 1)).toNat []).map (Value.int .u8))] [CH.row g9 0 (a0.map (Value.int .u8))] C111) (take_all _)) (.tmp rfl .nil))) rfl) ⟨rfl, C115, ha105⟩
def juratref08_Included.f (k : Nat) (a0 : List Int) (a1 : Int) (a2 : Int) (a3 : List (List Int)) (a4 : List Int) : Option Bool := if ((decide (a1 < 0)) || (decide (a1 ≥ a2))) = true then (some false) else ((juratref08_lead.f k a0 a1 a2 a3).bind fun ⟨r31, r32⟩ => (if r32 = true then (some (decide (r31 = a4))) else (some (false))).bind fun g44 => some g44)
set_option maxRecDepth 100000 in
set_option maxHeartbeats 4000000 in
theorem juratref08_Included.calls (k : Nat) (w : World) (F : CH) (a0 : List Int) (a1 : Int) (a2 : Int) (A2 : Option Addr) (c3 : Nat) (n4 : Nat) (a3 : List (List Int)) (a4 : List Int) (hp : Pre w F []) (ha1 : a0.length = 32) (hn5 : n4 = a3.length) (hl6 : a3.length ≤ c3) (hm7 : c3 ≤ maxLen) (hS8 : Sl (Kd.arrI 32 .u8) F F A2 a3) (ha9 : a4.length = 32) (hG0 : CH.le (CH.row 0 0 (glob0.map (Value.int .u32))) F) (hG2 : CH.le (CH.row 2 0 (glob2.map (Value.int .u32))) F) (r0_ : Bool) (H : juratref08_Included.f k a0 a1 a2 a3 a4 = some r0_) :
    Calls Tryd.prog 35 #[.agg (List.toArray (a0.map (Value.int .u8))), .int .i64 a1, .int .i64 a2, .slice A2 n4 c3, .agg (List.toArray (a4.map (Value.int .u8)))] w fun e w' => e = .returned (.bool r0_) ∧ Ctx w F (domL []) w' F [] := by
  have C := Ctx.start hp
  generalize hD : domL [] = D at C ⊢
  unfold juratref08_Included.f at H
  refine Calls.ofW Tryd.func35 rfl (by simp [Tryd.ntmps35]) ?_
  refine W.seq ?_
  refine W.region rfl ?_
  obtain ⟨g10, w11, hy12, C13⟩ := ev_box (P := Tryd.prog) 33 (.agg (List.toArray (a0.map (Value.int .u8)))) (a0.map (Value.int .u8)) C rfl
  refine WL.val (hy12 _ _ _ rfl) ?_
  obtain ⟨g14, w15, hy16, C17⟩ := ev_box (P := Tryd.prog) 33 (.agg (List.toArray (a4.map (Value.int .u8)))) (a4.map (Value.int .u8)) C13 rfl
  refine WL.val (hy16 _ _ _ rfl) ?_
  refine WL.val (Yl.assign (v := .bool false) rfl) ?_
  refine WL.done ?_
  refine W.seq ?_
  refine W.seq ?_
  refine W.region rfl ?_
  refine WL.val (Yl.move (v := .int .i64 a1) rfl) ?_
  refine WL.val (Yl.lss (m := a1) (n := 0) (q := decide (a1 < 0)) rfl rfl rfl) ?_
  refine WL.val (Yl.move (v := .bool (decide (a1 < 0))) rfl) ?_
  refine WL.cut (fun env_ w_ => env_ 19 = .bool ((decide (a1 < 0)) || (decide (a1 ≥ a2))) ∧ env_ 1 = .int .i64 a1 ∧ env_ 2 = .int .i64 a2 ∧ env_ 3 = .slice A2 n4 c3 ∧ env_ 5 = .pointer (some ⟨g10, 0, none⟩) ∧ env_ 9 = .pointer (some ⟨g14, 0, none⟩) ∧ Ctx w F D w_ F [CH.row g14 0 (a4.map (Value.int .u8)), CH.row g10 0 (a0.map (Value.int .u8))]) ?_ ?_
  · skip
    rcases Bool.eq_false_or_eq_true (decide (a1 < 0)) with hb18 | hb18
    · skip
      refine WL.off rfl (congrArg Value.bool hb18) ?_
      refine WL.off rfl (congrArg Value.bool hb18) ?_
      refine WL.off rfl (congrArg Value.bool hb18) ?_
      refine WL.val (Yl.pickT (v := .bool true) (congrArg Value.bool hb18) rfl) ?_
      exact WL.done ⟨(congrArg Value.bool (show true = ((decide (a1 < 0)) || (decide (a1 ≥ a2))) from by simp [hb18])), rfl, rfl, rfl, rfl, rfl, C17⟩
    · skip
      refine WL.on rfl (congrArg Value.bool hb18) ?_
      refine WL.val (Yl.move (v := .int .i64 a1) rfl) ?_
      refine WL.on rfl (congrArg Value.bool hb18) ?_
      refine WL.val (Yl.move (v := .int .i64 a2) rfl) ?_
      refine WL.on rfl (congrArg Value.bool hb18) ?_
      refine WL.val (Yl.geq (m := a1) (n := a2) (q := decide (a1 ≥ a2)) rfl rfl rfl) ?_
      refine WL.val (Yl.pickF (v := .bool (decide (a1 ≥ a2))) (congrArg Value.bool hb18) rfl) ?_
      exact WL.done ⟨(congrArg Value.bool (show (decide (a1 ≥ a2)) = ((decide (a1 < 0)) || (decide (a1 ≥ a2))) from by simp [hb18])), rfl, rfl, rfl, rfl, rfl, C17⟩
  · skip
    rintro env_ w_ ⟨ho19, ho20, ho21, ho22, ho23, ho24, C25⟩
    rcases iteE H with ⟨hc26, H⟩ | ⟨hc26, H⟩
    · skip
      refine W.condT (ho19.trans (congrArg Value.bool hc26)) ?_
      refine W.seq ?_
      refine W.region rfl ?_
      refine WL.val (Yl.assign (v := .bool false) rfl) ?_
      refine WL.done ?_
      refine W.ret ?_
      refine thenE_r ?_
      have C27 : Ctx _ _ _ _ F [CH.row g10 0 (a0.map (Value.int .u8))] := Ctx.drop [] [CH.row g10 0 (a0.map (Value.int .u8))] C25
      have C28 : Ctx _ _ _ _ F [] := Ctx.drop [] [] C27
      have e29 := Option.some.inj H
      subst e29
      exact post_r (resE1 rfl rfl) ⟨rfl, C28⟩
    · skip
      refine W.condF (ho19.trans (congrArg Value.bool (Bool.eq_false_iff.2 hc26))) ?_
      refine W.skip ?_
      refine W.seq ?_
      refine W.region rfl ?_
      refine WL.val (Yl.loadVA (g := g10) (off := 0) (o := 0) (cs := a0.map (Value.int .u8)) (us := a0.map (Value.int .u8)) ho23 Tryd.underlying33 rfl (sz_of sz33 (by first | (simp only [List.length_append, List.length_map, List.length_cons, List.length_nil, ha1]; done) | simp [ha1])) (Ctx.sub_of [CH.row g14 0 (a4.map (Value.int .u8))] [] C25) (take_all _)) ?_
      refine WL.val (Yl.move (v := .int .i64 a1) ho20) ?_
      refine WL.val (Yl.move (v := .int .i64 a2) ho21) ?_
      refine WL.val (Yl.move (v := .slice A2 n4 c3) ho22) ?_
      obtain ⟨⟨r31, r32⟩, hg30, H⟩ := bindE H
      refine WL.call (args := #[.agg (List.toArray (a0.map (Value.int .u8))), .int .i64 a1, .int .i64 a2, .slice A2 n4 c3]) (Yenter.fn Tryd.func62 (by kernel_rfl) rfl (argsE (.cons rfl (.cons rfl (.cons rfl (.cons rfl .nil)))))) (juratref08_lead.calls k _ F a0 a1 a2 A2 c3 n4 a3 (Ctx.pre (qs := []) (rest := [CH.row g14 0 (a4.map (Value.int .u8)), CH.row g10 0 (a0.map (Value.int .u8))]) C25) ha1 hn5 hl6 hm7 hS8 (CH.le_trans hG0 (CH.le_trans (CH.le_refl _) (CH.le_refl _))) (CH.le_trans hG2 (CH.le_trans (CH.le_refl _) (CH.le_refl _))) r31 r32 hg30) ?_
      rintro e_ w_ ⟨rfl, C34, ha33⟩
      refine ⟨_, rfl, ?_⟩
      have C35 : Ctx _ _ _ _ F [CH.row g14 0 (a4.map (Value.int .u8)), CH.row g10 0 (a0.map (Value.int .u8))] := Ctx.call (qs := []) (rest := [CH.row g14 0 (a4.map (Value.int .u8)), CH.row g10 0 (a0.map (Value.int .u8))]) C25 C34
      refine WL.val (Yl.move (v := .tuple #[(.agg (List.toArray (r31.map (Value.int .u8)))), (.bool r32)]) rfl) ?_
      refine WL.val (Yl.extract (v := .agg (List.toArray (r31.map (Value.int .u8)))) rfl rfl) ?_
      refine WL.val (Yl.extract (v := .bool r32) rfl rfl) ?_
      obtain ⟨g36, w37, hy38, C39⟩ := ev_alloc (P := Tryd.prog) (e := 33) ((List.replicate 32 (0 : Int)).map (Value.int .u8)) C35 zr33 rfl
      refine WL.val (hy38 _ _) ?_
      obtain ⟨w40, hy41, C42⟩ := ev_set (P := Tryd.prog) (ps1 := []) (ps2 := [CH.row g14 0 (a4.map (Value.int .u8)), CH.row g10 0 (a0.map (Value.int .u8))]) (t := 33) (o := 0) ((List.replicate 32 (0 : Int)).map (Value.int .u8)) [] ((List.replicate 32 (0 : Int)).map (Value.int .u8)) [] (r31.map (Value.int .u8)) (.agg (List.toArray (r31.map (Value.int .u8)))) C39 (by first | (simp only [List.length_append, List.length_map, List.length_cons, List.length_nil, (List.length_replicate ..), ha33]; done) | simp [(List.length_replicate ..), ha33]) (by first | (simp only [List.length_append, List.length_map, List.length_cons, List.length_nil, (List.length_replicate ..), ha33]; done) | simp [(List.length_replicate ..), ha33]) (by first | (simp only [List.length_append, List.length_map, List.length_cons, List.length_nil, (List.length_replicate ..), ha33]; done) | simp [(List.length_replicate ..), ha33]) rfl (one_ints _ _) (sz_of sz33 (by first | (simp only [List.length_append, List.length_map, List.length_cons, List.length_nil, ha33]; done) | simp [ha33]))
      have C43 : Ctx _ _ _ _ F [CH.row g36 0 (r31.map (Value.int .u8)), CH.row g14 0 (a4.map (Value.int .u8)), CH.row g10 0 (a0.map (Value.int .u8))] := (by simpa using C42)
      refine WL.skip (hy41 _ _ _ _ rfl rfl) ?_
      refine WL.val (Yl.assign (v := .bool r32) rfl) ?_
      refine WL.done ?_
      refine W.seq ?_
      refine W.region rfl ?_
      refine WL.val (Yl.move (v := .bool r32) rfl) ?_
      refine WL.val (Yl.move (v := .bool r32) rfl) ?_
      obtain ⟨g44, HE45, H⟩ := bindE H
      refine WL.cut (fun env_ w_ => env_ 10 = .bool g44 ∧ Ctx w F D w_ F [CH.row g36 0 (r31.map (Value.int .u8)), CH.row g14 0 (a4.map (Value.int .u8)), CH.row g10 0 (a0.map (Value.int .u8))]) ?_ ?_
      · skip
        rcases iteE HE45 with ⟨hc46, HE45⟩ | ⟨hc46, HE45⟩
        · skip
          refine WL.on rfl (congrArg Value.bool hc46) ?_
          refine WL.val (Yl.loadVA (g := g36) (off := 0) (o := 0) (cs := r31.map (Value.int .u8)) (us := r31.map (Value.int .u8)) rfl Tryd.underlying33 rfl (sz_of sz33 (by first | (simp only [List.length_append, List.length_map, List.length_cons, List.length_nil, ha33]; done) | simp [ha33])) (Ctx.sub_of [] [CH.row g14 0 (a4.map (Value.int .u8)), CH.row g10 0 (a0.map (Value.int .u8))] C43) (take_all _)) ?_
          refine WL.on rfl (congrArg Value.bool hc46) ?_
          refine WL.val (Yl.loadVA (g := g14) (off := 0) (o := 0) (cs := a4.map (Value.int .u8)) (us := a4.map (Value.int .u8)) ho24 Tryd.underlying33 rfl (sz_of sz33 (by first | (simp only [List.length_append, List.length_map, List.length_cons, List.length_nil, ha9]; done) | simp [ha9])) (Ctx.sub_of [CH.row g36 0 (r31.map (Value.int .u8))] [CH.row g10 0 (a0.map (Value.int .u8))] C43) (take_all _)) ?_
          refine WL.on rfl (congrArg Value.bool hc46) ?_
          refine WL.val (Yl.aeql (n := 2) (xs := r31.map (Value.int .u8)) (ys := a4.map (Value.int .u8)) rfl rfl eg33 (EqV.arrI Tryd.underlying33 Tryd.underlying5 sz5 ha33 ha9) (by decide)) ?_
          refine WL.val (Yl.pickT (v := .bool (decide (r31 = a4))) (congrArg Value.bool hc46) rfl) ?_
          refine WL.val (Yl.assign (v := .bool (decide (r31 = a4))) rfl) ?_
          cases HE45
          exact WL.done ⟨rfl, C43⟩
        · skip
          refine WL.off rfl (congrArg Value.bool (Bool.eq_false_iff.2 hc46)) ?_
          refine WL.off rfl (congrArg Value.bool (Bool.eq_false_iff.2 hc46)) ?_
          refine WL.off rfl (congrArg Value.bool (Bool.eq_false_iff.2 hc46)) ?_
          refine WL.val (Yl.pickF (v := .bool false) (congrArg Value.bool (Bool.eq_false_iff.2 hc46)) rfl) ?_
          refine WL.val (Yl.assign (v := .bool false) rfl) ?_
          cases HE45
          exact WL.done ⟨rfl, C43⟩
      · skip
        rintro env_ w_ ⟨ho47, C48⟩
        refine W.ret ?_
        have C49 : Ctx _ _ _ _ F [CH.row g14 0 (a4.map (Value.int .u8)), CH.row g10 0 (a0.map (Value.int .u8))] := Ctx.drop [] [CH.row g14 0 (a4.map (Value.int .u8)), CH.row g10 0 (a0.map (Value.int .u8))] C48
        have C50 : Ctx _ _ _ _ F [CH.row g10 0 (a0.map (Value.int .u8))] := Ctx.drop [] [CH.row g10 0 (a0.map (Value.int .u8))] C49
        have C51 : Ctx _ _ _ _ F [] := Ctx.drop [] [] C50
        have e52 := Option.some.inj H
        subst e52
        exact post_r (resE1 rfl ho47) ⟨rfl, C51⟩
def juratref08_leads.f : Nat → Int → Int → Bool → List (List Int) → List Int → Option ((List Int) × (List Int) × Bool)
  | 0, _, _, _, _, _ => none
  | k + 1, a0, a1, a2, a3, a4 => if ((decide (a0 = a1)) && a2) = true then (some (a4, a4, decide ((a3.length : Int) = 0))) else (if (a3.length : Int) = 0 then (some ((List.replicate 32 (0 : Int)), (List.replicate 32 (0 : Int)), false)) else (if 0 ≤ (wi64 ((a3.length : Int) - 1)) ∧ (wi64 ((a3.length : Int) - 1)) < (a3.length : Int) then (if a0 = a1 then (some (a3.getD (wi64 ((a3.length : Int) - 1)).toNat [], a3.getD (wi64 ((a3.length : Int) - 1)).toNat [], decide ((a3.length : Int) = 1))) else (if 0 ≤ (wi64 ((a3.length : Int) - 1)) ∧ (wi64 ((a3.length : Int) - 1)) ≤ (a3.length : Int) then ((juratref08_split.f k a1).bind fun r116 => if a0 ≤ r116 then ((juratref08_leads.f k a0 r116 a2 (a3.take (wi64 ((a3.length : Int) - 1)).toNat) a4).bind fun ⟨r121, r122, r123⟩ => (juratref08_Node.f k r122 (a3.getD (wi64 ((a3.length : Int) - 1)).toNat [])).bind fun r159 => some (r121, r159, r123)) else ((juratref08_leads.f k (wi64 (a0 - r116)) (wi64 (a1 - r116)) false (a3.take (wi64 ((a3.length : Int) - 1)).toNat) a4).bind fun ⟨r181, r182, r183⟩ => (juratref08_Node.f k (a3.getD (wi64 ((a3.length : Int) - 1)).toNat []) r181).bind fun r224 => (juratref08_Node.f k (a3.getD (wi64 ((a3.length : Int) - 1)).toNat []) r182).bind fun r229 => some (r224, r229, r183))) else none)) else none))
set_option maxRecDepth 100000 in
set_option maxHeartbeats 4000000 in
theorem juratref08_leads.calls : ∀ (k : Nat) (w : World) (F : CH) (a0 : Int) (a1 : Int) (a2 : Bool) (A1 : Option Addr) (c2 : Nat) (n3 : Nat) (a3 : List (List Int)) (a4 : List Int) (hp : Pre w F []) (hn4 : n3 = a3.length) (hl5 : a3.length ≤ c2) (hm6 : c2 ≤ maxLen) (hS7 : Sl (Kd.arrI 32 .u8) F F A1 a3) (ha8 : a4.length = 32) (hG0 : CH.le (CH.row 0 0 (glob0.map (Value.int .u32))) F) (hG2 : CH.le (CH.row 2 0 (glob2.map (Value.int .u32))) F) (r0_ : List Int) (r1_ : List Int) (r2_ : Bool) (H : juratref08_leads.f k a0 a1 a2 a3 a4 = some (r0_, r1_, r2_)),
    Calls Tryd.prog 63 #[.int .i64 a0, .int .i64 a1, .bool a2, .slice A1 n3 c2, .agg (List.toArray (a4.map (Value.int .u8)))] w fun e w' => e = .returned (.tuple #[(.agg (List.toArray (r0_.map (Value.int .u8)))), (.agg (List.toArray (r1_.map (Value.int .u8)))), (.bool r2_)]) ∧ Ctx w F (domL []) w' F [] ∧ r0_.length = 32 ∧ r1_.length = 32 := by
  intro k
  induction k with
  | zero => intro w F a0 a1 a2 A1 c2 n3 a3 a4 hp hn4 hl5 hm6 hS7 ha8 hG0 hG2 r0_ r1_ r2_ H; exact absurd H (by simp [juratref08_leads.f])
  | succ k ih =>
    intro w F a0 a1 a2 A1 c2 n3 a3 a4 hp hn4 hl5 hm6 hS7 ha8 hG0 hG2 r0_ r1_ r2_ H
    have C := Ctx.start hp
    generalize hD : domL [] = D at C ⊢
    rw [juratref08_leads.f] at H
    refine Calls.ofW Tryd.func63 rfl (by simp [Tryd.ntmps63]) ?_
    refine W.seq ?_
    refine W.region rfl ?_
    obtain ⟨g9, w10, hy11, C12⟩ := ev_box (P := Tryd.prog) 33 (.agg (List.toArray (a4.map (Value.int .u8)))) (a4.map (Value.int .u8)) C rfl
    refine WL.val (hy11 _ _ _ rfl) ?_
    obtain ⟨g13, w14, hy15, C16⟩ := ev_alloc (P := Tryd.prog) (e := 33) ((List.replicate 32 (0 : Int)).map (Value.int .u8)) C12 zr33 rfl
    refine WL.val (hy15 _ _) ?_
    obtain ⟨g17, w18, hy19, C20⟩ := ev_alloc (P := Tryd.prog) (e := 33) ((List.replicate 32 (0 : Int)).map (Value.int .u8)) C16 zr33 rfl
    refine WL.val (hy19 _ _) ?_
    refine WL.val (Yl.assign (v := .bool false) rfl) ?_
    refine WL.done ?_
    refine W.seq ?_
    refine W.seq ?_
    refine W.region rfl ?_
    refine WL.val (Yl.move (v := .int .i64 a0) rfl) ?_
    refine WL.val (Yl.move (v := .int .i64 a1) rfl) ?_
    refine WL.val (Yl.eql (m := a0) (n := a1) (q := decide (a0 = a1)) rfl rfl rfl) ?_
    refine WL.val (Yl.move (v := .bool (decide (a0 = a1))) rfl) ?_
    refine WL.cut (fun env_ w_ => env_ 27 = .bool ((decide (a0 = a1)) && a2) ∧ env_ 0 = .int .i64 a0 ∧ env_ 1 = .int .i64 a1 ∧ env_ 2 = .bool a2 ∧ env_ 3 = .slice A1 n3 c2 ∧ env_ 9 = .pointer (some ⟨g9, 0, none⟩) ∧ env_ 10 = .pointer (some ⟨g13, 0, none⟩) ∧ env_ 11 = .pointer (some ⟨g17, 0, none⟩) ∧ Ctx w F D w_ F [CH.row g17 0 ((List.replicate 32 (0 : Int)).map (Value.int .u8)), CH.row g13 0 ((List.replicate 32 (0 : Int)).map (Value.int .u8)), CH.row g9 0 (a4.map (Value.int .u8))]) ?_ ?_
    · skip
      rcases Bool.eq_false_or_eq_true (decide (a0 = a1)) with hb21 | hb21
      · skip
        refine WL.on rfl (congrArg Value.bool hb21) ?_
        refine WL.val (Yl.move (v := .bool a2) rfl) ?_
        refine WL.val (Yl.pickT (v := .bool a2) (congrArg Value.bool hb21) rfl) ?_
        exact WL.done ⟨(congrArg Value.bool (show a2 = ((decide (a0 = a1)) && a2) from by simp [hb21])), rfl, rfl, rfl, rfl, rfl, rfl, rfl, C20⟩
      · skip
        refine WL.off rfl (congrArg Value.bool hb21) ?_
        refine WL.val (Yl.pickF (v := .bool false) (congrArg Value.bool hb21) rfl) ?_
        exact WL.done ⟨(congrArg Value.bool (show false = ((decide (a0 = a1)) && a2) from by simp [hb21])), rfl, rfl, rfl, rfl, rfl, rfl, rfl, C20⟩
    · skip
      rintro env_ w_ ⟨ho22, ho23, ho24, ho25, ho26, ho27, ho28, ho29, C30⟩
      rcases iteE H with ⟨hc31, H⟩ | ⟨hc31, H⟩
      · skip
        refine W.condT (ho22.trans (congrArg Value.bool hc31)) ?_
        refine W.seq ?_
        refine W.regionA [([6], CH.row g9 0 (a4.map (Value.int .u8)))] (by kernel_rfl) ?_
        have C40 := Ctx.drewN C30 1
        refine WA.take (some 0) [5, 6, 7] 0 rfl (by kernel_rfl) (by kernel_rfl) (show _ = #[true, false, false, false, false, false, false, false] from rfl) (Ctx.sub_of [CH.row g17 0 ((List.replicate 32 (0 : Int)).map (Value.int .u8)), CH.row g13 0 ((List.replicate 32 (0 : Int)).map (Value.int .u8))] [] C40) ⟨(Ctx.sub_of [CH.row g17 0 ((List.replicate 32 (0 : Int)).map (Value.int .u8)), CH.row g13 0 ((List.replicate 32 (0 : Int)).map (Value.int .u8))] [] C40), trivial⟩ (fun _ hC_ => Yl.loadVA (g := g9) (off := 0) (o := 0) (cs := a4.map (Value.int .u8)) (us := a4.map (Value.int .u8)) ho27 Tryd.underlying33 rfl (sz_of sz33 (by first | (simp only [List.length_append, List.length_map, List.length_cons, List.length_nil, ha8]; done) | simp [ha8])) (show Sub (CH.row g9 0 (a4.map (Value.int .u8))) _ from hC_) (take_all _)) ?_
        refine WA.take (some 0) [6, 7] 1 rfl (by kernel_rfl) (by kernel_rfl) (show _ = #[true, true, false, false, false, false, false, false] from rfl) (Ctx.sub_of [CH.row g17 0 ((List.replicate 32 (0 : Int)).map (Value.int .u8)), CH.row g13 0 ((List.replicate 32 (0 : Int)).map (Value.int .u8))] [] C40) ⟨(Ctx.sub_of [CH.row g17 0 ((List.replicate 32 (0 : Int)).map (Value.int .u8)), CH.row g13 0 ((List.replicate 32 (0 : Int)).map (Value.int .u8))] [] C40), trivial⟩ (fun _ hC_ => Yl.loadVA (g := g9) (off := 0) (o := 0) (cs := a4.map (Value.int .u8)) (us := a4.map (Value.int .u8)) ho27 Tryd.underlying33 rfl (sz_of sz33 (by first | (simp only [List.length_append, List.length_map, List.length_cons, List.length_nil, ha8]; done) | simp [ha8])) (show Sub (CH.row g9 0 (a4.map (Value.int .u8))) _ from hC_) (take_all _)) ?_
        refine WA.take none [] 2 rfl (by kernel_rfl) (by kernel_rfl) (show _ = #[true, true, true, false, false, false, false, false] from rfl) trivial ⟨(Ctx.sub_of [CH.row g17 0 ((List.replicate 32 (0 : Int)).map (Value.int .u8)), CH.row g13 0 ((List.replicate 32 (0 : Int)).map (Value.int .u8))] [] C40), trivial⟩ (fun _ hC_ => Yl.move (v := .slice A1 n3 c2) ho26) ?_
        refine WA.take none [] 3 rfl (by kernel_rfl) (by kernel_rfl) (show _ = #[true, true, true, true, false, false, false, false] from rfl) trivial ⟨(Ctx.sub_of [CH.row g17 0 ((List.replicate 32 (0 : Int)).map (Value.int .u8)), CH.row g13 0 ((List.replicate 32 (0 : Int)).map (Value.int .u8))] [] C40), trivial⟩ (fun _ hC_ => Yl.lenN (A := A1) (l := n3) (q := c2) (n := (a3.length : Int)) rfl Tryd.underlying31 (by omega)) ?_
        refine WA.take none [] 4 rfl (by kernel_rfl) (by kernel_rfl) (show _ = #[true, true, true, true, true, false, false, false] from rfl) trivial ⟨(Ctx.sub_of [CH.row g17 0 ((List.replicate 32 (0 : Int)).map (Value.int .u8)), CH.row g13 0 ((List.replicate 32 (0 : Int)).map (Value.int .u8))] [] C40), trivial⟩ (fun _ hC_ => Yl.eql (m := (a3.length : Int)) (n := 0) (q := decide ((a3.length : Int) = 0)) rfl rfl rfl) ?_
        obtain ⟨w41, hy42, C43⟩ := ev_set (P := Tryd.prog) (ps1 := [CH.row g17 0 ((List.replicate 32 (0 : Int)).map (Value.int .u8))]) (ps2 := [CH.row g9 0 (a4.map (Value.int .u8))]) (t := 33) (o := 0) ((List.replicate 32 (0 : Int)).map (Value.int .u8)) [] ((List.replicate 32 (0 : Int)).map (Value.int .u8)) [] (a4.map (Value.int .u8)) (.agg (List.toArray (a4.map (Value.int .u8)))) C40 (by first | (simp only [List.length_append, List.length_map, List.length_cons, List.length_nil, (List.length_replicate ..), ha8]; done) | simp [(List.length_replicate ..), ha8]) (by first | (simp only [List.length_append, List.length_map, List.length_cons, List.length_nil, (List.length_replicate ..), ha8]; done) | simp [(List.length_replicate ..), ha8]) (by first | (simp only [List.length_append, List.length_map, List.length_cons, List.length_nil, (List.length_replicate ..), ha8]; done) | simp [(List.length_replicate ..), ha8]) rfl (one_ints _ _) (sz_of sz33 (by first | (simp only [List.length_append, List.length_map, List.length_cons, List.length_nil, ha8]; done) | simp [ha8]))
        have C44 : Ctx _ _ _ _ F [CH.row g17 0 ((List.replicate 32 (0 : Int)).map (Value.int .u8)), CH.row g13 0 (a4.map (Value.int .u8)), CH.row g9 0 (a4.map (Value.int .u8))] := (by simpa using C43)
        refine WA.up1 5 (by kernel_rfl) (Up.skip rfl (show _ = #[true, true, true, true, true, true, false, false] from rfl) (hy42 _ _ _ _ ho28 rfl) ⟨(Ctx.sub_of [CH.row g17 0 ((List.replicate 32 (0 : Int)).map (Value.int .u8)), CH.row g13 0 (a4.map (Value.int .u8))] [] C44), trivial⟩ ?_)
        obtain ⟨w45, hy46, C47⟩ := ev_set (P := Tryd.prog) (ps1 := []) (ps2 := [CH.row g13 0 (a4.map (Value.int .u8)), CH.row g9 0 (a4.map (Value.int .u8))]) (t := 33) (o := 0) ((List.replicate 32 (0 : Int)).map (Value.int .u8)) [] ((List.replicate 32 (0 : Int)).map (Value.int .u8)) [] (a4.map (Value.int .u8)) (.agg (List.toArray (a4.map (Value.int .u8)))) C44 (by first | (simp only [List.length_append, List.length_map, List.length_cons, List.length_nil, (List.length_replicate ..), ha8]; done) | simp [(List.length_replicate ..), ha8]) (by first | (simp only [List.length_append, List.length_map, List.length_cons, List.length_nil, (List.length_replicate ..), ha8]; done) | simp [(List.length_replicate ..), ha8]) (by first | (simp only [List.length_append, List.length_map, List.length_cons, List.length_nil, (List.length_replicate ..), ha8]; done) | simp [(List.length_replicate ..), ha8]) rfl (one_ints _ _) (sz_of sz33 (by first | (simp only [List.length_append, List.length_map, List.length_cons, List.length_nil, ha8]; done) | simp [ha8]))
        have C48 : Ctx _ _ _ _ F [CH.row g17 0 (a4.map (Value.int .u8)), CH.row g13 0 (a4.map (Value.int .u8)), CH.row g9 0 (a4.map (Value.int .u8))] := (by simpa using C47)
        refine WA.up1 6 (by kernel_rfl) (Up.skip rfl (show _ = #[true, true, true, true, true, true, true, false] from rfl) (hy46 _ _ _ _ ho29 rfl) ⟨trivial, trivial⟩ ?_)
        refine WA.take none [] 7 rfl (by kernel_rfl) (by kernel_rfl) (show _ = #[true, true, true, true, true, true, true, true] from rfl) trivial ⟨trivial, trivial⟩ (fun _ hC_ => Yl.assign (v := .bool (decide ((a3.length : Int) = 0))) rfl) ?_
        refine WA.done (by kernel_rfl) ?_
        refine W.ret ?_
        refine thenE_r ?_
        have C49 : Ctx _ _ _ _ F [CH.row g13 0 (a4.map (Value.int .u8)), CH.row g9 0 (a4.map (Value.int .u8))] := Ctx.drop [] [CH.row g13 0 (a4.map (Value.int .u8)), CH.row g9 0 (a4.map (Value.int .u8))] C48
        have C50 : Ctx _ _ _ _ F [CH.row g9 0 (a4.map (Value.int .u8))] := Ctx.drop [] [CH.row g9 0 (a4.map (Value.int .u8))] C49
        have C51 : Ctx _ _ _ _ F [] := Ctx.drop [] [] C50
        simp only [Option.some.injEq, Prod.mk.injEq] at H
        obtain ⟨e52, e53, e54⟩ := H
        subst e52 e53 e54
        exact post_r (resET rfl ((.cell ho28 (run_loadVA2 (g := g13) (off := 0) (o := 0) (cs := a4.map (Value.int .u8)) (us := a4.map (Value.int .u8)) Tryd.underlying33 rfl (sz_of sz33 (by first | (simp only [List.length_append, List.length_map, List.length_cons, List.length_nil, ha8]; done) | simp [ha8])) (Ctx.sub_of [CH.row g17 0 (a4.map (Value.int .u8))] [CH.row g9 0 (a4.map (Value.int .u8))] C48) (take_all _)) (.cell ho29 (run_loadVA2 (g := g17) (off := 0) (o := 0) (cs := a4.map (Value.int .u8)) (us := a4.map (Value.int .u8)) Tryd.underlying33 rfl (sz_of sz33 (by first | (simp only [List.length_append, List.length_map, List.length_cons, List.length_nil, ha8]; done) | simp [ha8])) (Ctx.sub_of [] [CH.row g13 0 (a4.map (Value.int .u8)), CH.row g9 0 (a4.map (Value.int .u8))] C48) (take_all _)) (.tmp rfl .nil)))) rfl) ⟨rfl, C51, ha8, ha8⟩
      · skip
        refine W.condF (ho22.trans (congrArg Value.bool (Bool.eq_false_iff.2 hc31))) ?_
        refine W.skip ?_
        refine W.seq ?_
        refine W.seq ?_
        refine W.region rfl ?_
        refine WL.val (Yl.move (v := .slice A1 n3 c2) ho26) ?_
        refine WL.val (Yl.lenN (A := A1) (l := n3) (q := c2) (n := (a3.length : Int)) rfl Tryd.underlying31 (by omega)) ?_
        refine WL.val (Yl.eql (m := (a3.length : Int)) (n := 0) (q := decide ((a3.length : Int) = 0)) rfl rfl rfl) ?_
        refine WL.done ?_
        rcases iteE H with ⟨hc55, H⟩ | ⟨hc55, H⟩
        · skip
          refine W.condT (congrArg Value.bool (decide_eq_true hc55)) ?_
          refine W.seq ?_
          refine W.region rfl ?_
          refine WL.val (Yl.buildArr (cs := List.toArray ((List.replicate 32 (0 : Int)).map (Value.int .u8))) Tryd.underlying33 sz5 zr33 (partsB .nil) rfl) ?_
          refine WL.val (Yl.buildArr (cs := List.toArray ((List.replicate 32 (0 : Int)).map (Value.int .u8))) Tryd.underlying33 sz5 zr33 (partsB .nil) rfl) ?_
          obtain ⟨w56, hy57, C58⟩ := ev_set (P := Tryd.prog) (ps1 := [CH.row g17 0 ((List.replicate 32 (0 : Int)).map (Value.int .u8))]) (ps2 := [CH.row g9 0 (a4.map (Value.int .u8))]) (t := 33) (o := 0) ((List.replicate 32 (0 : Int)).map (Value.int .u8)) [] ((List.replicate 32 (0 : Int)).map (Value.int .u8)) [] ((List.replicate 32 (0 : Int)).map (Value.int .u8)) (.agg (List.toArray ((List.replicate 32 (0 : Int)).map (Value.int .u8)))) C30 (by first | (simp only [List.length_append, List.length_map, List.length_cons, List.length_nil, (List.length_replicate ..)]; done) | simp [(List.length_replicate ..)]) (by first | (simp only [List.length_append, List.length_map, List.length_cons, List.length_nil, (List.length_replicate ..)]; done) | simp [(List.length_replicate ..)]) (by first | (simp only [List.length_append, List.length_map, List.length_cons, List.length_nil, (List.length_replicate ..)]; done) | simp [(List.length_replicate ..)]) rfl (one_ints _ _) (sz_of sz33 (by first | (simp only [List.length_append, List.length_map, List.length_cons, List.length_nil, (List.length_replicate ..)]; done) | simp [(List.length_replicate ..)]))
          have C59 : Ctx _ _ _ _ F [CH.row g17 0 ((List.replicate 32 (0 : Int)).map (Value.int .u8)), CH.row g13 0 ((List.replicate 32 (0 : Int)).map (Value.int .u8)), CH.row g9 0 (a4.map (Value.int .u8))] := (by simpa using C58)
          refine WL.skip (hy57 _ _ _ _ ho28 rfl) ?_
          obtain ⟨w60, hy61, C62⟩ := ev_set (P := Tryd.prog) (ps1 := []) (ps2 := [CH.row g13 0 ((List.replicate 32 (0 : Int)).map (Value.int .u8)), CH.row g9 0 (a4.map (Value.int .u8))]) (t := 33) (o := 0) ((List.replicate 32 (0 : Int)).map (Value.int .u8)) [] ((List.replicate 32 (0 : Int)).map (Value.int .u8)) [] ((List.replicate 32 (0 : Int)).map (Value.int .u8)) (.agg (List.toArray ((List.replicate 32 (0 : Int)).map (Value.int .u8)))) C59 (by first | (simp only [List.length_append, List.length_map, List.length_cons, List.length_nil, (List.length_replicate ..)]; done) | simp [(List.length_replicate ..)]) (by first | (simp only [List.length_append, List.length_map, List.length_cons, List.length_nil, (List.length_replicate ..)]; done) | simp [(List.length_replicate ..)]) (by first | (simp only [List.length_append, List.length_map, List.length_cons, List.length_nil, (List.length_replicate ..)]; done) | simp [(List.length_replicate ..)]) rfl (one_ints _ _) (sz_of sz33 (by first | (simp only [List.length_append, List.length_map, List.length_cons, List.length_nil, (List.length_replicate ..)]; done) | simp [(List.length_replicate ..)]))
          have C63 : Ctx _ _ _ _ F [CH.row g17 0 ((List.replicate 32 (0 : Int)).map (Value.int .u8)), CH.row g13 0 ((List.replicate 32 (0 : Int)).map (Value.int .u8)), CH.row g9 0 (a4.map (Value.int .u8))] := (by simpa using C62)
          refine WL.skip (hy61 _ _ _ _ ho29 rfl) ?_
          refine WL.val (Yl.assign (v := .bool false) rfl) ?_
          refine WL.done ?_
          refine W.ret ?_
          refine thenE_r ?_
          have C64 : Ctx _ _ _ _ F [CH.row g13 0 ((List.replicate 32 (0 : Int)).map (Value.int .u8)), CH.row g9 0 (a4.map (Value.int .u8))] := Ctx.drop [] [CH.row g13 0 ((List.replicate 32 (0 : Int)).map (Value.int .u8)), CH.row g9 0 (a4.map (Value.int .u8))] C63
          have C65 : Ctx _ _ _ _ F [CH.row g9 0 (a4.map (Value.int .u8))] := Ctx.drop [] [CH.row g9 0 (a4.map (Value.int .u8))] C64
          have C66 : Ctx _ _ _ _ F [] := Ctx.drop [] [] C65
          simp only [Option.some.injEq, Prod.mk.injEq] at H
          obtain ⟨e67, e68, e69⟩ := H
          subst e67 e68 e69
          exact post_r (resET rfl ((.cell ho28 (run_loadVA2 (g := g13) (off := 0) (o := 0) (cs := (List.replicate 32 (0 : Int)).map (Value.int .u8)) (us := (List.replicate 32 (0 : Int)).map (Value.int .u8)) Tryd.underlying33 rfl (sz_of sz33 (by first | (simp only [List.length_append, List.length_map, List.length_cons, List.length_nil, (List.length_replicate ..)]; done) | simp [(List.length_replicate ..)])) (Ctx.sub_of [CH.row g17 0 ((List.replicate 32 (0 : Int)).map (Value.int .u8))] [CH.row g9 0 (a4.map (Value.int .u8))] C63) (take_all _)) (.cell ho29 (run_loadVA2 (g := g17) (off := 0) (o := 0) (cs := (List.replicate 32 (0 : Int)).map (Value.int .u8)) (us := (List.replicate 32 (0 : Int)).map (Value.int .u8)) Tryd.underlying33 rfl (sz_of sz33 (by first | (simp only [List.length_append, List.length_map, List.length_cons, List.length_nil, (List.length_replicate ..)]; done) | simp [(List.length_replicate ..)])) (Ctx.sub_of [] [CH.row g13 0 ((List.replicate 32 (0 : Int)).map (Value.int .u8)), CH.row g9 0 (a4.map (Value.int .u8))] C63) (take_all _)) (.tmp rfl .nil)))) rfl) ⟨rfl, C66, (List.length_replicate ..), (List.length_replicate ..)⟩
        · skip
          refine W.condF (congrArg Value.bool (decide_eq_false hc55)) ?_
          refine W.skip ?_
          refine W.seq ?_
          refine W.region rfl ?_
          refine WL.val (Yl.move (v := .slice A1 n3 c2) ho26) ?_
          refine WL.val (Yl.move (v := .slice A1 n3 c2) ho26) ?_
          refine WL.val (Yl.lenN (A := A1) (l := n3) (q := c2) (n := (a3.length : Int)) rfl Tryd.underlying31 (by omega)) ?_
          refine WL.val (Yl.sub (m := (a3.length : Int)) (n := 1) (r := wi64 ((a3.length : Int) - 1)) rfl rfl rfl) ?_
          obtain ⟨hc70, H⟩ := guardE H
          obtain ⟨b71, of72, hA73, he74⟩ := hS7 (by omega)
          refine WL.val (Yl.elemAddr (i := wi64 ((a3.length : Int) - 1)) rfl rfl hA73 Tryd.underlying31 sz33 (by omega)) ?_
          obtain ⟨cs75, hr76, hx77⟩ := he74 (wi64 ((a3.length : Int) - 1)).toNat _ (getD_some (d := []) (by omega))
          obtain ⟨rfl, ha78⟩ := hr76
          refine WL.val (Yl.loadAgg (cs := (a3.getD (wi64 ((a3.length : Int) - 1)).toNat []).map (Value.int .u8)) rfl Tryd.underlying33 rfl (sz_of sz33 (by first | (simp only [List.length_append, List.length_map, List.length_cons, List.length_nil, ha78]; done) | simp [ha78])) (fun j u hu => by rw [add_of]; exact ((C30.fro)).cell (hx77 _ _ hu))) ?_
          obtain ⟨g79, w80, hy81, C82⟩ := ev_alloc (P := Tryd.prog) (e := 33) ((List.replicate 32 (0 : Int)).map (Value.int .u8)) C30 zr33 rfl
          refine WL.val (hy81 _ _) ?_
          obtain ⟨w83, hy84, C85⟩ := ev_set (P := Tryd.prog) (ps1 := []) (ps2 := [CH.row g17 0 ((List.replicate 32 (0 : Int)).map (Value.int .u8)), CH.row g13 0 ((List.replicate 32 (0 : Int)).map (Value.int .u8)), CH.row g9 0 (a4.map (Value.int .u8))]) (t := 33) (o := 0) ((List.replicate 32 (0 : Int)).map (Value.int .u8)) [] ((List.replicate 32 (0 : Int)).map (Value.int .u8)) [] ((a3.getD (wi64 ((a3.length : Int) - 1)).toNat []).map (Value.int .u8)) (.agg (List.toArray ((a3.getD (wi64 ((a3.length : Int) - 1)).toNat []).map (Value.int .u8)))) C82 (by first | (simp only [List.length_append, List.length_map, List.length_cons, List.length_nil, (List.length_replicate ..), ha78]; done) | simp [(List.length_replicate ..), ha78]) (by first | (simp only [List.length_append, List.length_map, List.length_cons, List.length_nil, (List.length_replicate ..), ha78]; done) | simp [(List.length_replicate ..), ha78]) (by first | (simp only [List.length_append, List.length_map, List.length_cons, List.length_nil, (List.length_replicate ..), ha78]; done) | simp [(List.length_replicate ..), ha78]) rfl (one_ints _ _) (sz_of sz33 (by first | (simp only [List.length_append, List.length_map, List.length_cons, List.length_nil, ha78]; done) | simp [ha78]))
          have C86 : Ctx _ _ _ _ F [CH.row g79 0 ((a3.getD (wi64 ((a3.length : Int) - 1)).toNat []).map (Value.int .u8)), CH.row g17 0 ((List.replicate 32 (0 : Int)).map (Value.int .u8)), CH.row g13 0 ((List.replicate 32 (0 : Int)).map (Value.int .u8)), CH.row g9 0 (a4.map (Value.int .u8))] := (by simpa using C85)
          refine WL.skip (hy84 _ _ _ _ rfl rfl) ?_
          refine WL.done ?_
          refine W.seq ?_
          refine W.seq ?_
          refine W.region rfl ?_
          refine WL.val (Yl.move (v := .int .i64 a0) ho23) ?_
          refine WL.val (Yl.move (v := .int .i64 a1) ho24) ?_
          refine WL.val (Yl.eql (m := a0) (n := a1) (q := decide (a0 = a1)) rfl rfl rfl) ?_
          refine WL.done ?_
          rcases iteE H with ⟨hc87, H⟩ | ⟨hc87, H⟩
          · skip
            refine W.condT (congrArg Value.bool (decide_eq_true hc87)) ?_
            refine W.seq ?_
            refine W.regionA [([6], CH.row g79 0 ((a3.getD (wi64 ((a3.length : Int) - 1)).toNat []).map (Value.int .u8)))] (by kernel_rfl) ?_
            have C96 := Ctx.drewN C86 1
            refine WA.take (some 0) [5, 6, 7] 0 rfl (by kernel_rfl) (by kernel_rfl) (show _ = #[true, false, false, false, false, false, false, false] from rfl) (Ctx.sub_of [] [CH.row g17 0 ((List.replicate 32 (0 : Int)).map (Value.int .u8)), CH.row g13 0 ((List.replicate 32 (0 : Int)).map (Value.int .u8)), CH.row g9 0 (a4.map (Value.int .u8))] C96) ⟨(Ctx.sub_of [] [CH.row g17 0 ((List.replicate 32 (0 : Int)).map (Value.int .u8)), CH.row g13 0 ((List.replicate 32 (0 : Int)).map (Value.int .u8)), CH.row g9 0 (a4.map (Value.int .u8))] C96), trivial⟩ (fun _ hC_ => Yl.loadVA (g := g79) (off := 0) (o := 0) (cs := (a3.getD (wi64 ((a3.length : Int) - 1)).toNat []).map (Value.int .u8)) (us := (a3.getD (wi64 ((a3.length : Int) - 1)).toNat []).map (Value.int .u8)) rfl Tryd.underlying33 rfl (sz_of sz33 (by first | (simp only [List.length_append, List.length_map, List.length_cons, List.length_nil, ha78]; done) | simp [ha78])) (show Sub (CH.row g79 0 ((a3.getD (wi64 ((a3.length : Int) - 1)).toNat []).map (Value.int .u8))) _ from hC_) (take_all _)) ?_
            refine WA.take (some 0) [6, 7] 1 rfl (by kernel_rfl) (by kernel_rfl) (show _ = #[true, true, false, false, false, false, false, false] from rfl) (Ctx.sub_of [] [CH.row g17 0 ((List.replicate 32 (0 : Int)).map (Value.int .u8)), CH.row g13 0 ((List.replicate 32 (0 : Int)).map (Value.int .u8)), CH.row g9 0 (a4.map (Value.int .u8))] C96) ⟨(Ctx.sub_of [] [CH.row g17 0 ((List.replicate 32 (0 : Int)).map (Value.int .u8)), CH.row g13 0 ((List.replicate 32 (0 : Int)).map (Value.int .u8)), CH.row g9 0 (a4.map (Value.int .u8))] C96), trivial⟩ (fun _ hC_ => Yl.loadVA (g := g79) (off := 0) (o := 0) (cs := (a3.getD (wi64 ((a3.length : Int) - 1)).toNat []).map (Value.int .u8)) (us := (a3.getD (wi64 ((a3.length : Int) - 1)).toNat []).map (Value.int .u8)) rfl Tryd.underlying33 rfl (sz_of sz33 (by first | (simp only [List.length_append, List.length_map, List.length_cons, List.length_nil, ha78]; done) | simp [ha78])) (show Sub (CH.row g79 0 ((a3.getD (wi64 ((a3.length : Int) - 1)).toNat []).map (Value.int .u8))) _ from hC_) (take_all _)) ?_
            refine WA.take none [] 2 rfl (by kernel_rfl) (by kernel_rfl) (show _ = #[true, true, true, false, false, false, false, false] from rfl) trivial ⟨(Ctx.sub_of [] [CH.row g17 0 ((List.replicate 32 (0 : Int)).map (Value.int .u8)), CH.row g13 0 ((List.replicate 32 (0 : Int)).map (Value.int .u8)), CH.row g9 0 (a4.map (Value.int .u8))] C96), trivial⟩ (fun _ hC_ => Yl.move (v := .slice A1 n3 c2) ho26) ?_
            refine WA.take none [] 3 rfl (by kernel_rfl) (by kernel_rfl) (show _ = #[true, true, true, true, false, false, false, false] from rfl) trivial ⟨(Ctx.sub_of [] [CH.row g17 0 ((List.replicate 32 (0 : Int)).map (Value.int .u8)), CH.row g13 0 ((List.replicate 32 (0 : Int)).map (Value.int .u8)), CH.row g9 0 (a4.map (Value.int .u8))] C96), trivial⟩ (fun _ hC_ => Yl.lenN (A := A1) (l := n3) (q := c2) (n := (a3.length : Int)) rfl Tryd.underlying31 (by omega)) ?_
            refine WA.take none [] 4 rfl (by kernel_rfl) (by kernel_rfl) (show _ = #[true, true, true, true, true, false, false, false] from rfl) trivial ⟨(Ctx.sub_of [] [CH.row g17 0 ((List.replicate 32 (0 : Int)).map (Value.int .u8)), CH.row g13 0 ((List.replicate 32 (0 : Int)).map (Value.int .u8)), CH.row g9 0 (a4.map (Value.int .u8))] C96), trivial⟩ (fun _ hC_ => Yl.eql (m := (a3.length : Int)) (n := 1) (q := decide ((a3.length : Int) = 1)) rfl rfl rfl) ?_
            obtain ⟨w97, hy98, C99⟩ := ev_set (P := Tryd.prog) (ps1 := [CH.row g79 0 ((a3.getD (wi64 ((a3.length : Int) - 1)).toNat []).map (Value.int .u8)), CH.row g17 0 ((List.replicate 32 (0 : Int)).map (Value.int .u8))]) (ps2 := [CH.row g9 0 (a4.map (Value.int .u8))]) (t := 33) (o := 0) ((List.replicate 32 (0 : Int)).map (Value.int .u8)) [] ((List.replicate 32 (0 : Int)).map (Value.int .u8)) [] ((a3.getD (wi64 ((a3.length : Int) - 1)).toNat []).map (Value.int .u8)) (.agg (List.toArray ((a3.getD (wi64 ((a3.length : Int) - 1)).toNat []).map (Value.int .u8)))) C96 (by first | (simp only [List.length_append, List.length_map, List.length_cons, List.length_nil, (List.length_replicate ..), ha78]; done) | simp [(List.length_replicate ..), ha78]) (by first | (simp only [List.length_append, List.length_map, List.length_cons, List.length_nil, (List.length_replicate ..), ha78]; done) | simp [(List.length_replicate ..), ha78]) (by first | (simp only [List.length_append, List.length_map, List.length_cons, List.length_nil, (List.length_replicate ..), ha78]; done) | simp [(List.length_replicate ..), ha78]) rfl (one_ints _ _) (sz_of sz33 (by first | (simp only [List.length_append, List.length_map, List.length_cons, List.length_nil, ha78]; done) | simp [ha78]))
            have C100 : Ctx _ _ _ _ F [CH.row g79 0 ((a3.getD (wi64 ((a3.length : Int) - 1)).toNat []).map (Value.int .u8)), CH.row g17 0 ((List.replicate 32 (0 : Int)).map (Value.int .u8)), CH.row g13 0 ((a3.getD (wi64 ((a3.length : Int) - 1)).toNat []).map (Value.int .u8)), CH.row g9 0 (a4.map (Value.int .u8))] := (by simpa using C99)
            refine WA.up1 5 (by kernel_rfl) (Up.skip rfl (show _ = #[true, true, true, true, true, true, false, false] from rfl) (hy98 _ _ _ _ ho28 rfl) ⟨(Ctx.sub_of [] [CH.row g17 0 ((List.replicate 32 (0 : Int)).map (Value.int .u8)), CH.row g13 0 ((a3.getD (wi64 ((a3.length : Int) - 1)).toNat []).map (Value.int .u8)), CH.row g9 0 (a4.map (Value.int .u8))] C100), trivial⟩ ?_)
            obtain ⟨w101, hy102, C103⟩ := ev_set (P := Tryd.prog) (ps1 := [CH.row g79 0 ((a3.getD (wi64 ((a3.length : Int) - 1)).toNat []).map (Value.int .u8))]) (ps2 := [CH.row g13 0 ((a3.getD (wi64 ((a3.length : Int) - 1)).toNat []).map (Value.int .u8)), CH.row g9 0 (a4.map (Value.int .u8))]) (t := 33) (o := 0) ((List.replicate 32 (0 : Int)).map (Value.int .u8)) [] ((List.replicate 32 (0 : Int)).map (Value.int .u8)) [] ((a3.getD (wi64 ((a3.length : Int) - 1)).toNat []).map (Value.int .u8)) (.agg (List.toArray ((a3.getD (wi64 ((a3.length : Int) - 1)).toNat []).map (Value.int .u8)))) C100 (by first | (simp only [List.length_append, List.length_map, List.length_cons, List.length_nil, (List.length_replicate ..), ha78]; done) | simp [(List.length_replicate ..), ha78]) (by first | (simp only [List.length_append, List.length_map, List.length_cons, List.length_nil, (List.length_replicate ..), ha78]; done) | simp [(List.length_replicate ..), ha78]) (by first | (simp only [List.length_append, List.length_map, List.length_cons, List.length_nil, (List.length_replicate ..), ha78]; done) | simp [(List.length_replicate ..), ha78]) rfl (one_ints _ _) (sz_of sz33 (by first | (simp only [List.length_append, List.length_map, List.length_cons, List.length_nil, ha78]; done) | simp [ha78]))
            have C104 : Ctx _ _ _ _ F [CH.row g79 0 ((a3.getD (wi64 ((a3.length : Int) - 1)).toNat []).map (Value.int .u8)), CH.row g17 0 ((a3.getD (wi64 ((a3.length : Int) - 1)).toNat []).map (Value.int .u8)), CH.row g13 0 ((a3.getD (wi64 ((a3.length : Int) - 1)).toNat []).map (Value.int .u8)), CH.row g9 0 (a4.map (Value.int .u8))] := (by simpa using C103)
            refine WA.up1 6 (by kernel_rfl) (Up.skip rfl (show _ = #[true, true, true, true, true, true, true, false] from rfl) (hy102 _ _ _ _ ho29 rfl) ⟨trivial, trivial⟩ ?_)
            refine WA.take none [] 7 rfl (by kernel_rfl) (by kernel_rfl) (show _ = #[true, true, true, true, true, true, true, true] from rfl) trivial ⟨trivial, trivial⟩ (fun _ hC_ => Yl.assign (v := .bool (decide ((a3.length : Int) = 1))) rfl) ?_
            refine WA.done (by kernel_rfl) ?_
            refine W.ret ?_
            refine thenE_r ?_
            have C105 : Ctx _ _ _ _ F [CH.row g17 0 ((a3.getD (wi64 ((a3.length : Int) - 1)).toNat []).map (Value.int .u8)), CH.row g13 0 ((a3.getD (wi64 ((a3.length : Int) - 1)).toNat []).map (Value.int .u8)), CH.row g9 0 (a4.map (Value.int .u8))] := Ctx.drop [] [CH.row g17 0 ((a3.getD (wi64 ((a3.length : Int) - 1)).toNat []).map (Value.int .u8)), CH.row g13 0 ((a3.getD (wi64 ((a3.length : Int) - 1)).toNat []).map (Value.int .u8)), CH.row g9 0 (a4.map (Value.int .u8))] C104
            have C106 : Ctx _ _ _ _ F [CH.row g13 0 ((a3.getD (wi64 ((a3.length : Int) - 1)).toNat []).map (Value.int .u8)), CH.row g9 0 (a4.map (Value.int .u8))] := Ctx.drop [] [CH.row g13 0 ((a3.getD (wi64 ((a3.length : Int) - 1)).toNat []).map (Value.int .u8)), CH.row g9 0 (a4.map (Value.int .u8))] C105
            have C107 : Ctx _ _ _ _ F [CH.row g9 0 (a4.map (Value.int .u8))] := Ctx.drop [] [CH.row g9 0 (a4.map (Value.int .u8))] C106
            have C108 : Ctx _ _ _ _ F [] := Ctx.drop [] [] C107
            simp only [Option.some.injEq, Prod.mk.injEq] at H
            obtain ⟨e109, e110, e111⟩ := H
            subst e109 e110 e111
            exact post_r (resET rfl ((.cell ho28 (run_loadVA2 (g := g13) (off := 0) (o := 0) (cs := (a3.getD (wi64 ((a3.length : Int) - 1)).toNat []).map (Value.int .u8)) (us := (a3.getD (wi64 ((a3.length : Int) - 1)).toNat []).map (Value.int .u8)) Tryd.underlying33 rfl (sz_of sz33 (by first | (simp only [List.length_append, List.length_map, List.length_cons, List.length_nil, ha78]; done) | simp [ha78])) (Ctx.sub_of [CH.row g79 0 ((a3.getD (wi64 ((a3.length : Int) - 1)).toNat []).map (Value.int .u8)), CH.row g17 0 ((a3.getD (wi64 ((a3.length : Int) - 1)).toNat []).map (Value.int .u8))] [CH.row g9 0 (a4.map (Value.int .u8))] C104) (take_all _)) (.cell ho29 (run_loadVA2 (g := g17) (off := 0) (o := 0) (cs := (a3.getD (wi64 ((a3.length : Int) - 1)).toNat []).map (Value.int .u8)) (us := (a3.getD (wi64 ((a3.length : Int) - 1)).toNat []).map (Value.int .u8)) Tryd.underlying33 rfl (sz_of sz33 (by first | (simp only [List.length_append, List.length_map, List.length_cons, List.length_nil, ha78]; done) | simp [ha78])) (Ctx.sub_of [CH.row g79 0 ((a3.getD (wi64 ((a3.length : Int) - 1)).toNat []).map (Value.int .u8))] [CH.row g13 0 ((a3.getD (wi64 ((a3.length : Int) - 1)).toNat []).map (Value.int .u8)), CH.row g9 0 (a4.map (Value.int .u8))] C104) (take_all _)) (.tmp rfl .nil)))) rfl) ⟨rfl, C108, ha78, ha78⟩
          · skip
            refine W.condF (congrArg Value.bool (decide_eq_false hc87)) ?_
            refine W.skip ?_
            refine W.seq ?_
            refine W.region rfl ?_
            refine WL.val (Yl.move (v := .slice A1 n3 c2) ho26) ?_
            refine WL.val (Yl.move (v := .slice A1 n3 c2) ho26) ?_
            refine WL.val (Yl.lenN (A := A1) (l := n3) (q := c2) (n := (a3.length : Int)) rfl Tryd.underlying31 (by omega)) ?_
            refine WL.val (Yl.sub (m := (a3.length : Int)) (n := 1) (r := wi64 ((a3.length : Int) - 1)) rfl rfl rfl) ?_
            obtain ⟨hc112, H⟩ := guardE H
            have hn113 : (wi64 ((a3.length : Int) - 1)).toNat = (a3.take (wi64 ((a3.length : Int) - 1)).toNat).length := by rw [List.length_take]; omega
            refine WL.val (Yl.sliceHi rfl Tryd.underlying31 sz33 rfl ⟨hc112.1, by omega⟩) ?_
            refine WL.val (Yl.assign (v := .slice A1 ((wi64 ((a3.length : Int) - 1)).toNat) c2) rfl) ?_
            refine WL.done ?_
            refine W.seq ?_
            refine W.region rfl ?_
            refine WL.val (Yl.move (v := .int .i64 a1) ho24) ?_
            obtain ⟨r116, hg115, H⟩ := bindE H
            refine WL.call (args := #[.int .i64 a1]) (Yenter.fn Tryd.func52 (by kernel_rfl) rfl (argsE (.cons rfl .nil))) (juratref08_split.calls k _ F a1 C86.pre0  r116 hg115) ?_
            rintro e_ w_ ⟨rfl, ⟨m117, rfl⟩⟩
            refine ⟨_, rfl, ?_⟩
            have C118 := Ctx.drewN C86 m117
            refine WL.val (Yl.assign (v := .int .i64 r116) rfl) ?_
            refine WL.done ?_
            refine W.seq ?_
            refine W.seq ?_
            refine W.region rfl ?_
            refine WL.val (Yl.move (v := .int .i64 a0) ho23) ?_
            refine WL.val (Yl.move (v := .int .i64 r116) rfl) ?_
            refine WL.val (Yl.leq (m := a0) (n := r116) (q := decide (a0 ≤ r116)) rfl rfl rfl) ?_
            refine WL.done ?_
            rcases iteE H with ⟨hc119, H⟩ | ⟨hc119, H⟩
            · skip
              refine W.condT (congrArg Value.bool (decide_eq_true hc119)) ?_
              refine W.seq ?_
              refine W.region rfl ?_
              refine WL.val (Yl.move (v := .int .i64 a0) ho23) ?_
              refine WL.val (Yl.move (v := .int .i64 r116) rfl) ?_
              refine WL.val (Yl.move (v := .bool a2) ho25) ?_
              refine WL.val (Yl.move (v := .slice A1 ((wi64 ((a3.length : Int) - 1)).toNat) c2) rfl) ?_
              refine WL.val (Yl.loadVA (g := g9) (off := 0) (o := 0) (cs := a4.map (Value.int .u8)) (us := a4.map (Value.int .u8)) ho27 Tryd.underlying33 rfl (sz_of sz33 (by first | (simp only [List.length_append, List.length_map, List.length_cons, List.length_nil, ha8]; done) | simp [ha8])) (Ctx.sub_of [CH.row g79 0 ((a3.getD (wi64 ((a3.length : Int) - 1)).toNat []).map (Value.int .u8)), CH.row g17 0 ((List.replicate 32 (0 : Int)).map (Value.int .u8)), CH.row g13 0 ((List.replicate 32 (0 : Int)).map (Value.int .u8))] [] C118) (take_all _)) ?_
              obtain ⟨⟨r121, r122, r123⟩, hg120, H⟩ := bindE H
              refine WL.call (args := #[.int .i64 a0, .int .i64 r116, .bool a2, .slice A1 ((wi64 ((a3.length : Int) - 1)).toNat) c2, .agg (List.toArray (a4.map (Value.int .u8)))]) (Yenter.fn Tryd.func63 (by kernel_rfl) rfl (argsE (.cons rfl (.cons rfl (.cons rfl (.cons rfl (.cons rfl .nil))))))) (ih _ F a0 r116 a2 A1 c2 ((wi64 ((a3.length : Int) - 1)).toNat) (a3.take (wi64 ((a3.length : Int) - 1)).toNat) a4 (Ctx.pre (qs := []) (rest := [CH.row g79 0 ((a3.getD (wi64 ((a3.length : Int) - 1)).toNat []).map (Value.int .u8)), CH.row g17 0 ((List.replicate 32 (0 : Int)).map (Value.int .u8)), CH.row g13 0 ((List.replicate 32 (0 : Int)).map (Value.int .u8)), CH.row g9 0 (a4.map (Value.int .u8))]) C118) hn113 (by rw [List.length_take]; omega) hm6 (Sl.take hS7 _) ha8 (CH.le_trans hG0 (CH.le_trans (CH.le_refl _) (CH.le_refl _))) (CH.le_trans hG2 (CH.le_trans (CH.le_refl _) (CH.le_refl _))) r121 r122 r123 hg120) ?_
              rintro e_ w_ ⟨rfl, C126, ha124, ha125⟩
              refine ⟨_, rfl, ?_⟩
              have C127 : Ctx _ _ _ _ F [CH.row g79 0 ((a3.getD (wi64 ((a3.length : Int) - 1)).toNat []).map (Value.int .u8)), CH.row g17 0 ((List.replicate 32 (0 : Int)).map (Value.int .u8)), CH.row g13 0 ((List.replicate 32 (0 : Int)).map (Value.int .u8)), CH.row g9 0 (a4.map (Value.int .u8))] := Ctx.call (qs := []) (rest := [CH.row g79 0 ((a3.getD (wi64 ((a3.length : Int) - 1)).toNat []).map (Value.int .u8)), CH.row g17 0 ((List.replicate 32 (0 : Int)).map (Value.int .u8)), CH.row g13 0 ((List.replicate 32 (0 : Int)).map (Value.int .u8)), CH.row g9 0 (a4.map (Value.int .u8))]) C118 C126
              refine WL.val (Yl.move (v := .tuple #[(.agg (List.toArray (r121.map (Value.int .u8)))), (.agg (List.toArray (r122.map (Value.int .u8)))), (.bool r123)]) rfl) ?_
              refine WL.val (Yl.extract (v := .agg (List.toArray (r121.map (Value.int .u8)))) rfl rfl) ?_
              refine WL.val (Yl.extract (v := .agg (List.toArray (r122.map (Value.int .u8)))) rfl rfl) ?_
              refine WL.val (Yl.extract (v := .bool r123) rfl rfl) ?_
              obtain ⟨g128, w129, hy130, C131⟩ := ev_alloc (P := Tryd.prog) (e := 33) ((List.replicate 32 (0 : Int)).map (Value.int .u8)) C127 zr33 rfl
              refine WL.val (hy130 _ _) ?_
              obtain ⟨g132, w133, hy134, C135⟩ := ev_alloc (P := Tryd.prog) (e := 33) ((List.replicate 32 (0 : Int)).map (Value.int .u8)) C131 zr33 rfl
              refine WL.val (hy134 _ _) ?_
              obtain ⟨w136, hy137, C138⟩ := ev_set (P := Tryd.prog) (ps1 := [CH.row g132 0 ((List.replicate 32 (0 : Int)).map (Value.int .u8))]) (ps2 := [CH.row g79 0 ((a3.getD (wi64 ((a3.length : Int) - 1)).toNat []).map (Value.int .u8)), CH.row g17 0 ((List.replicate 32 (0 : Int)).map (Value.int .u8)), CH.row g13 0 ((List.replicate 32 (0 : Int)).map (Value.int .u8)), CH.row g9 0 (a4.map (Value.int .u8))]) (t := 33) (o := 0) ((List.replicate 32 (0 : Int)).map (Value.int .u8)) [] ((List.replicate 32 (0 : Int)).map (Value.int .u8)) [] (r121.map (Value.int .u8)) (.agg (List.toArray (r121.map (Value.int .u8)))) C135 (by first | (simp only [List.length_append, List.length_map, List.length_cons, List.length_nil, (List.length_replicate ..), ha124]; done) | simp [(List.length_replicate ..), ha124]) (by first | (simp only [List.length_append, List.length_map, List.length_cons, List.length_nil, (List.length_replicate ..), ha124]; done) | simp [(List.length_replicate ..), ha124]) (by first | (simp only [List.length_append, List.length_map, List.length_cons, List.length_nil, (List.length_replicate ..), ha124]; done) | simp [(List.length_replicate ..), ha124]) rfl (one_ints _ _) (sz_of sz33 (by first | (simp only [List.length_append, List.length_map, List.length_cons, List.length_nil, ha124]; done) | simp [ha124]))
              have C139 : Ctx _ _ _ _ F [CH.row g132 0 ((List.replicate 32 (0 : Int)).map (Value.int .u8)), CH.row g128 0 (r121.map (Value.int .u8)), CH.row g79 0 ((a3.getD (wi64 ((a3.length : Int) - 1)).toNat []).map (Value.int .u8)), CH.row g17 0 ((List.replicate 32 (0 : Int)).map (Value.int .u8)), CH.row g13 0 ((List.replicate 32 (0 : Int)).map (Value.int .u8)), CH.row g9 0 (a4.map (Value.int .u8))] := (by simpa using C138)
              refine WL.skip (hy137 _ _ _ _ rfl rfl) ?_
              obtain ⟨w140, hy141, C142⟩ := ev_set (P := Tryd.prog) (ps1 := []) (ps2 := [CH.row g128 0 (r121.map (Value.int .u8)), CH.row g79 0 ((a3.getD (wi64 ((a3.length : Int) - 1)).toNat []).map (Value.int .u8)), CH.row g17 0 ((List.replicate 32 (0 : Int)).map (Value.int .u8)), CH.row g13 0 ((List.replicate 32 (0 : Int)).map (Value.int .u8)), CH.row g9 0 (a4.map (Value.int .u8))]) (t := 33) (o := 0) ((List.replicate 32 (0 : Int)).map (Value.int .u8)) [] ((List.replicate 32 (0 : Int)).map (Value.int .u8)) [] (r122.map (Value.int .u8)) (.agg (List.toArray (r122.map (Value.int .u8)))) C139 (by first | (simp only [List.length_append, List.length_map, List.length_cons, List.length_nil, (List.length_replicate ..), ha125]; done) | simp [(List.length_replicate ..), ha125]) (by first | (simp only [List.length_append, List.length_map, List.length_cons, List.length_nil, (List.length_replicate ..), ha125]; done) | simp [(List.length_replicate ..), ha125]) (by first | (simp only [List.length_append, List.length_map, List.length_cons, List.length_nil, (List.length_replicate ..), ha125]; done) | simp [(List.length_replicate ..), ha125]) rfl (one_ints _ _) (sz_of sz33 (by first | (simp only [List.length_append, List.length_map, List.length_cons, List.length_nil, ha125]; done) | simp [ha125]))
              have C143 : Ctx _ _ _ _ F [CH.row g132 0 (r122.map (Value.int .u8)), CH.row g128 0 (r121.map (Value.int .u8)), CH.row g79 0 ((a3.getD (wi64 ((a3.length : Int) - 1)).toNat []).map (Value.int .u8)), CH.row g17 0 ((List.replicate 32 (0 : Int)).map (Value.int .u8)), CH.row g13 0 ((List.replicate 32 (0 : Int)).map (Value.int .u8)), CH.row g9 0 (a4.map (Value.int .u8))] := (by simpa using C142)
              refine WL.skip (hy141 _ _ _ _ rfl rfl) ?_
              refine WL.val (Yl.assign (v := .bool r123) rfl) ?_
              refine WL.done ?_
              refine W.seq ?_
              refine W.regionA [([5, 6], CH.row g128 0 (r121.map (Value.int .u8))), ([3, 5, 6], CH.row g132 0 (r122.map (Value.int .u8))), ([3, 5, 6], CH.row g79 0 ((a3.getD (wi64 ((a3.length : Int) - 1)).toNat []).map (Value.int .u8)))] (by kernel_rfl) ?_
              have C157 := Ctx.drewN C143 1
              refine WA.take (some 0) [5, 6, 7] 0 rfl (by kernel_rfl) (by kernel_rfl) (show _ = #[true, false, false, false, false, false, false, false] from rfl) (Ctx.sub_of [CH.row g132 0 (r122.map (Value.int .u8))] [CH.row g79 0 ((a3.getD (wi64 ((a3.length : Int) - 1)).toNat []).map (Value.int .u8)), CH.row g17 0 ((List.replicate 32 (0 : Int)).map (Value.int .u8)), CH.row g13 0 ((List.replicate 32 (0 : Int)).map (Value.int .u8)), CH.row g9 0 (a4.map (Value.int .u8))] C157) ⟨(Ctx.sub_of [CH.row g132 0 (r122.map (Value.int .u8))] [CH.row g79 0 ((a3.getD (wi64 ((a3.length : Int) - 1)).toNat []).map (Value.int .u8)), CH.row g17 0 ((List.replicate 32 (0 : Int)).map (Value.int .u8)), CH.row g13 0 ((List.replicate 32 (0 : Int)).map (Value.int .u8)), CH.row g9 0 (a4.map (Value.int .u8))] C157), (Ctx.sub_of [] [CH.row g128 0 (r121.map (Value.int .u8)), CH.row g79 0 ((a3.getD (wi64 ((a3.length : Int) - 1)).toNat []).map (Value.int .u8)), CH.row g17 0 ((List.replicate 32 (0 : Int)).map (Value.int .u8)), CH.row g13 0 ((List.replicate 32 (0 : Int)).map (Value.int .u8)), CH.row g9 0 (a4.map (Value.int .u8))] C157), (Ctx.sub_of [CH.row g132 0 (r122.map (Value.int .u8)), CH.row g128 0 (r121.map (Value.int .u8))] [CH.row g17 0 ((List.replicate 32 (0 : Int)).map (Value.int .u8)), CH.row g13 0 ((List.replicate 32 (0 : Int)).map (Value.int .u8)), CH.row g9 0 (a4.map (Value.int .u8))] C157), trivial⟩ (fun _ hC_ => Yl.loadVA (g := g128) (off := 0) (o := 0) (cs := r121.map (Value.int .u8)) (us := r121.map (Value.int .u8)) rfl Tryd.underlying33 rfl (sz_of sz33 (by first | (simp only [List.length_append, List.length_map, List.length_cons, List.length_nil, ha124]; done) | simp [ha124])) (show Sub (CH.row g128 0 (r121.map (Value.int .u8))) _ from hC_) (take_all _)) ?_
              refine WA.take (some 1) [3, 5, 6, 7] 1 rfl (by kernel_rfl) (by kernel_rfl) (show _ = #[true, true, false, false, false, false, false, false] from rfl) (Ctx.sub_of [] [CH.row g128 0 (r121.map (Value.int .u8)), CH.row g79 0 ((a3.getD (wi64 ((a3.length : Int) - 1)).toNat []).map (Value.int .u8)), CH.row g17 0 ((List.replicate 32 (0 : Int)).map (Value.int .u8)), CH.row g13 0 ((List.replicate 32 (0 : Int)).map (Value.int .u8)), CH.row g9 0 (a4.map (Value.int .u8))] C157) ⟨(Ctx.sub_of [CH.row g132 0 (r122.map (Value.int .u8))] [CH.row g79 0 ((a3.getD (wi64 ((a3.length : Int) - 1)).toNat []).map (Value.int .u8)), CH.row g17 0 ((List.replicate 32 (0 : Int)).map (Value.int .u8)), CH.row g13 0 ((List.replicate 32 (0 : Int)).map (Value.int .u8)), CH.row g9 0 (a4.map (Value.int .u8))] C157), (Ctx.sub_of [] [CH.row g128 0 (r121.map (Value.int .u8)), CH.row g79 0 ((a3.getD (wi64 ((a3.length : Int) - 1)).toNat []).map (Value.int .u8)), CH.row g17 0 ((List.replicate 32 (0 : Int)).map (Value.int .u8)), CH.row g13 0 ((List.replicate 32 (0 : Int)).map (Value.int .u8)), CH.row g9 0 (a4.map (Value.int .u8))] C157), (Ctx.sub_of [CH.row g132 0 (r122.map (Value.int .u8)), CH.row g128 0 (r121.map (Value.int .u8))] [CH.row g17 0 ((List.replicate 32 (0 : Int)).map (Value.int .u8)), CH.row g13 0 ((List.replicate 32 (0 : Int)).map (Value.int .u8)), CH.row g9 0 (a4.map (Value.int .u8))] C157), trivial⟩ (fun _ hC_ => Yl.loadVA (g := g132) (off := 0) (o := 0) (cs := r122.map (Value.int .u8)) (us := r122.map (Value.int .u8)) rfl Tryd.underlying33 rfl (sz_of sz33 (by first | (simp only [List.length_append, List.length_map, List.length_cons, List.length_nil, ha125]; done) | simp [ha125])) (show Sub (CH.row g132 0 (r122.map (Value.int .u8))) _ from hC_) (take_all _)) ?_
              refine WA.take (some 2) [3, 5, 6, 7] 2 rfl (by kernel_rfl) (by kernel_rfl) (show _ = #[true, true, true, false, false, false, false, false] from rfl) (Ctx.sub_of [CH.row g132 0 (r122.map (Value.int .u8)), CH.row g128 0 (r121.map (Value.int .u8))] [CH.row g17 0 ((List.replicate 32 (0 : Int)).map (Value.int .u8)), CH.row g13 0 ((List.replicate 32 (0 : Int)).map (Value.int .u8)), CH.row g9 0 (a4.map (Value.int .u8))] C157) ⟨(Ctx.sub_of [CH.row g132 0 (r122.map (Value.int .u8))] [CH.row g79 0 ((a3.getD (wi64 ((a3.length : Int) - 1)).toNat []).map (Value.int .u8)), CH.row g17 0 ((List.replicate 32 (0 : Int)).map (Value.int .u8)), CH.row g13 0 ((List.replicate 32 (0 : Int)).map (Value.int .u8)), CH.row g9 0 (a4.map (Value.int .u8))] C157), (Ctx.sub_of [] [CH.row g128 0 (r121.map (Value.int .u8)), CH.row g79 0 ((a3.getD (wi64 ((a3.length : Int) - 1)).toNat []).map (Value.int .u8)), CH.row g17 0 ((List.replicate 32 (0 : Int)).map (Value.int .u8)), CH.row g13 0 ((List.replicate 32 (0 : Int)).map (Value.int .u8)), CH.row g9 0 (a4.map (Value.int .u8))] C157), (Ctx.sub_of [CH.row g132 0 (r122.map (Value.int .u8)), CH.row g128 0 (r121.map (Value.int .u8))] [CH.row g17 0 ((List.replicate 32 (0 : Int)).map (Value.int .u8)), CH.row g13 0 ((List.replicate 32 (0 : Int)).map (Value.int .u8)), CH.row g9 0 (a4.map (Value.int .u8))] C157), trivial⟩ (fun _ hC_ => Yl.loadVA (g := g79) (off := 0) (o := 0) (cs := (a3.getD (wi64 ((a3.length : Int) - 1)).toNat []).map (Value.int .u8)) (us := (a3.getD (wi64 ((a3.length : Int) - 1)).toNat []).map (Value.int .u8)) rfl Tryd.underlying33 rfl (sz_of sz33 (by first | (simp only [List.length_append, List.length_map, List.length_cons, List.length_nil, ha78]; done) | simp [ha78])) (show Sub (CH.row g79 0 ((a3.getD (wi64 ((a3.length : Int) - 1)).toNat []).map (Value.int .u8))) _ from hC_) (take_all _)) ?_
              refine WA.take none [] 4 rfl (by kernel_rfl) (by kernel_rfl) (show _ = #[true, true, true, false, true, false, false, false] from rfl) trivial ⟨(Ctx.sub_of [CH.row g132 0 (r122.map (Value.int .u8))] [CH.row g79 0 ((a3.getD (wi64 ((a3.length : Int) - 1)).toNat []).map (Value.int .u8)), CH.row g17 0 ((List.replicate 32 (0 : Int)).map (Value.int .u8)), CH.row g13 0 ((List.replicate 32 (0 : Int)).map (Value.int .u8)), CH.row g9 0 (a4.map (Value.int .u8))] C157), (Ctx.sub_of [] [CH.row g128 0 (r121.map (Value.int .u8)), CH.row g79 0 ((a3.getD (wi64 ((a3.length : Int) - 1)).toNat []).map (Value.int .u8)), CH.row g17 0 ((List.replicate 32 (0 : Int)).map (Value.int .u8)), CH.row g13 0 ((List.replicate 32 (0 : Int)).map (Value.int .u8)), CH.row g9 0 (a4.map (Value.int .u8))] C157), (Ctx.sub_of [CH.row g132 0 (r122.map (Value.int .u8)), CH.row g128 0 (r121.map (Value.int .u8))] [CH.row g17 0 ((List.replicate 32 (0 : Int)).map (Value.int .u8)), CH.row g13 0 ((List.replicate 32 (0 : Int)).map (Value.int .u8)), CH.row g9 0 (a4.map (Value.int .u8))] C157), trivial⟩ (fun _ hC_ => Yl.move (v := .bool r123) rfl) ?_
              obtain ⟨r159, hg158, H⟩ := bindE H
              refine WA.up1 3 (by kernel_rfl) (Up.call (args := #[.agg (List.toArray (r122.map (Value.int .u8))), .agg (List.toArray ((a3.getD (wi64 ((a3.length : Int) - 1)).toNat []).map (Value.int .u8)))]) rfl (by kernel_rfl) (show _ = #[true, true, true, true, true, false, false, false] from rfl) (Yenter.fn Tryd.func26 (by kernel_rfl) rfl (argsE (.cons rfl (.cons rfl .nil)))) (juratref08_Node.calls k _ F r122 (a3.getD (wi64 ((a3.length : Int) - 1)).toNat []) (Ctx.pre (qs := []) (rest := [CH.row g132 0 (r122.map (Value.int .u8)), CH.row g128 0 (r121.map (Value.int .u8)), CH.row g79 0 ((a3.getD (wi64 ((a3.length : Int) - 1)).toNat []).map (Value.int .u8)), CH.row g17 0 ((List.replicate 32 (0 : Int)).map (Value.int .u8)), CH.row g13 0 ((List.replicate 32 (0 : Int)).map (Value.int .u8)), CH.row g9 0 (a4.map (Value.int .u8))]) C157) ha125 ha78 (CH.le_trans hG0 (CH.le_trans (CH.le_refl _) (CH.le_refl _))) (CH.le_trans hG2 (CH.le_trans (CH.le_refl _) (CH.le_refl _))) r159 hg158) ?_)
              rintro e_ w_ ⟨rfl, C161, ha160⟩
              have C162 : Ctx _ _ _ _ F [CH.row g132 0 (r122.map (Value.int .u8)), CH.row g128 0 (r121.map (Value.int .u8)), CH.row g79 0 ((a3.getD (wi64 ((a3.length : Int) - 1)).toNat []).map (Value.int .u8)), CH.row g17 0 ((List.replicate 32 (0 : Int)).map (Value.int .u8)), CH.row g13 0 ((List.replicate 32 (0 : Int)).map (Value.int .u8)), CH.row g9 0 (a4.map (Value.int .u8))] := Ctx.call (qs := []) (rest := [CH.row g132 0 (r122.map (Value.int .u8)), CH.row g128 0 (r121.map (Value.int .u8)), CH.row g79 0 ((a3.getD (wi64 ((a3.length : Int) - 1)).toNat []).map (Value.int .u8)), CH.row g17 0 ((List.replicate 32 (0 : Int)).map (Value.int .u8)), CH.row g13 0 ((List.replicate 32 (0 : Int)).map (Value.int .u8)), CH.row g9 0 (a4.map (Value.int .u8))]) C157 C161
              refine ⟨_, rfl, ⟨(Ctx.sub_of [CH.row g132 0 (r122.map (Value.int .u8))] [CH.row g79 0 ((a3.getD (wi64 ((a3.length : Int) - 1)).toNat []).map (Value.int .u8)), CH.row g17 0 ((List.replicate 32 (0 : Int)).map (Value.int .u8)), CH.row g13 0 ((List.replicate 32 (0 : Int)).map (Value.int .u8)), CH.row g9 0 (a4.map (Value.int .u8))] C162), trivial, trivial, trivial⟩, ?_⟩
              obtain ⟨w163, hy164, C165⟩ := ev_set (P := Tryd.prog) (ps1 := [CH.row g132 0 (r122.map (Value.int .u8)), CH.row g128 0 (r121.map (Value.int .u8)), CH.row g79 0 ((a3.getD (wi64 ((a3.length : Int) - 1)).toNat []).map (Value.int .u8)), CH.row g17 0 ((List.replicate 32 (0 : Int)).map (Value.int .u8))]) (ps2 := [CH.row g9 0 (a4.map (Value.int .u8))]) (t := 33) (o := 0) ((List.replicate 32 (0 : Int)).map (Value.int .u8)) [] ((List.replicate 32 (0 : Int)).map (Value.int .u8)) [] (r121.map (Value.int .u8)) (.agg (List.toArray (r121.map (Value.int .u8)))) C162 (by first | (simp only [List.length_append, List.length_map, List.length_cons, List.length_nil, (List.length_replicate ..), ha124]; done) | simp [(List.length_replicate ..), ha124]) (by first | (simp only [List.length_append, List.length_map, List.length_cons, List.length_nil, (List.length_replicate ..), ha124]; done) | simp [(List.length_replicate ..), ha124]) (by first | (simp only [List.length_append, List.length_map, List.length_cons, List.length_nil, (List.length_replicate ..), ha124]; done) | simp [(List.length_replicate ..), ha124]) rfl (one_ints _ _) (sz_of sz33 (by first | (simp only [List.length_append, List.length_map, List.length_cons, List.length_nil, ha124]; done) | simp [ha124]))
              have C166 : Ctx _ _ _ _ F [CH.row g132 0 (r122.map (Value.int .u8)), CH.row g128 0 (r121.map (Value.int .u8)), CH.row g79 0 ((a3.getD (wi64 ((a3.length : Int) - 1)).toNat []).map (Value.int .u8)), CH.row g17 0 ((List.replicate 32 (0 : Int)).map (Value.int .u8)), CH.row g13 0 (r121.map (Value.int .u8)), CH.row g9 0 (a4.map (Value.int .u8))] := (by simpa using C165)
              refine WA.up1 5 (by kernel_rfl) (Up.skip rfl (show _ = #[true, true, true, true, true, true, false, false] from rfl) (hy164 _ _ _ _ ho28 rfl) ⟨trivial, trivial, trivial, trivial⟩ ?_)
              obtain ⟨w167, hy168, C169⟩ := ev_set (P := Tryd.prog) (ps1 := [CH.row g132 0 (r122.map (Value.int .u8)), CH.row g128 0 (r121.map (Value.int .u8)), CH.row g79 0 ((a3.getD (wi64 ((a3.length : Int) - 1)).toNat []).map (Value.int .u8))]) (ps2 := [CH.row g13 0 (r121.map (Value.int .u8)), CH.row g9 0 (a4.map (Value.int .u8))]) (t := 33) (o := 0) ((List.replicate 32 (0 : Int)).map (Value.int .u8)) [] ((List.replicate 32 (0 : Int)).map (Value.int .u8)) [] (r159.map (Value.int .u8)) (.agg (List.toArray (r159.map (Value.int .u8)))) C166 (by first | (simp only [List.length_append, List.length_map, List.length_cons, List.length_nil, (List.length_replicate ..), ha160]; done) | simp [(List.length_replicate ..), ha160]) (by first | (simp only [List.length_append, List.length_map, List.length_cons, List.length_nil, (List.length_replicate ..), ha160]; done) | simp [(List.length_replicate ..), ha160]) (by first | (simp only [List.length_append, List.length_map, List.length_cons, List.length_nil, (List.length_replicate ..), ha160]; done) | simp [(List.length_replicate ..), ha160]) rfl (one_ints _ _) (sz_of sz33 (by first | (simp only [List.length_append, List.length_map, List.length_cons, List.length_nil, ha160]; done) | simp [ha160]))
              have C170 : Ctx _ _ _ _ F [CH.row g132 0 (r122.map (Value.int .u8)), CH.row g128 0 (r121.map (Value.int .u8)), CH.row g79 0 ((a3.getD (wi64 ((a3.length : Int) - 1)).toNat []).map (Value.int .u8)), CH.row g17 0 (r159.map (Value.int .u8)), CH.row g13 0 (r121.map (Value.int .u8)), CH.row g9 0 (a4.map (Value.int .u8))] := (by simpa using C169)
              refine WA.up1 6 (by kernel_rfl) (Up.skip rfl (show _ = #[true, true, true, true, true, true, true, false] from rfl) (hy168 _ _ _ _ ho29 rfl) ⟨trivial, trivial, trivial, trivial⟩ ?_)
              refine WA.take none [] 7 rfl (by kernel_rfl) (by kernel_rfl) (show _ = #[true, true, true, true, true, true, true, true] from rfl) trivial ⟨trivial, trivial, trivial, trivial⟩ (fun _ hC_ => Yl.assign (v := .bool r123) rfl) ?_
              refine WA.done (by kernel_rfl) ?_
              refine W.ret ?_
              refine thenE_r ?_
              have C171 : Ctx _ _ _ _ F [CH.row g128 0 (r121.map (Value.int .u8)), CH.row g79 0 ((a3.getD (wi64 ((a3.length : Int) - 1)).toNat []).map (Value.int .u8)), CH.row g17 0 (r159.map (Value.int .u8)), CH.row g13 0 (r121.map (Value.int .u8)), CH.row g9 0 (a4.map (Value.int .u8))] := Ctx.drop [] [CH.row g128 0 (r121.map (Value.int .u8)), CH.row g79 0 ((a3.getD (wi64 ((a3.length : Int) - 1)).toNat []).map (Value.int .u8)), CH.row g17 0 (r159.map (Value.int .u8)), CH.row g13 0 (r121.map (Value.int .u8)), CH.row g9 0 (a4.map (Value.int .u8))] C170
              have C172 : Ctx _ _ _ _ F [CH.row g79 0 ((a3.getD (wi64 ((a3.length : Int) - 1)).toNat []).map (Value.int .u8)), CH.row g17 0 (r159.map (Value.int .u8)), CH.row g13 0 (r121.map (Value.int .u8)), CH.row g9 0 (a4.map (Value.int .u8))] := Ctx.drop [] [CH.row g79 0 ((a3.getD (wi64 ((a3.length : Int) - 1)).toNat []).map (Value.int .u8)), CH.row g17 0 (r159.map (Value.int .u8)), CH.row g13 0 (r121.map (Value.int .u8)), CH.row g9 0 (a4.map (Value.int .u8))] C171
              have C173 : Ctx _ _ _ _ F [CH.row g17 0 (r159.map (Value.int .u8)), CH.row g13 0 (r121.map (Value.int .u8)), CH.row g9 0 (a4.map (Value.int .u8))] := Ctx.drop [] [CH.row g17 0 (r159.map (Value.int .u8)), CH.row g13 0 (r121.map (Value.int .u8)), CH.row g9 0 (a4.map (Value.int .u8))] C172
              have C174 : Ctx _ _ _ _ F [CH.row g13 0 (r121.map (Value.int .u8)), CH.row g9 0 (a4.map (Value.int .u8))] := Ctx.drop [] [CH.row g13 0 (r121.map (Value.int .u8)), CH.row g9 0 (a4.map (Value.int .u8))] C173
              have C175 : Ctx _ _ _ _ F [CH.row g9 0 (a4.map (Value.int .u8))] := Ctx.drop [] [CH.row g9 0 (a4.map (Value.int .u8))] C174
              have C176 : Ctx _ _ _ _ F [] := Ctx.drop [] [] C175
              simp only [Option.some.injEq, Prod.mk.injEq] at H
              obtain ⟨e177, e178, e179⟩ := H
              subst e177 e178 e179
              exact post_r (resET rfl ((.cell ho28 (run_loadVA2 (g := g13) (off := 0) (o := 0) (cs := r121.map (Value.int .u8)) (us := r121.map (Value.int .u8)) Tryd.underlying33 rfl (sz_of sz33 (by first | (simp only [List.length_append, List.length_map, List.length_cons, List.length_nil, ha124]; done) | simp [ha124])) (Ctx.sub_of [CH.row g132 0 (r122.map (Value.int .u8)), CH.row g128 0 (r121.map (Value.int .u8)), CH.row g79 0 ((a3.getD (wi64 ((a3.length : Int) - 1)).toNat []).map (Value.int .u8)), CH.row g17 0 (r159.map (Value.int .u8))] [CH.row g9 0 (a4.map (Value.int .u8))] C170) (take_all _)) (.cell ho29 (run_loadVA2 (g := g17) (off := 0) (o := 0) (cs := r159.map (Value.int .u8)) (us := r159.map (Value.int .u8)) Tryd.underlying33 rfl (sz_of sz33 (by first | (simp only [List.length_append, List.length_map, List.length_cons, List.length_nil, ha160]; done) | simp [ha160])) (Ctx.sub_of [CH.row g132 0 (r122.map (Value.int .u8)), CH.row g128 0 (r121.map (Value.int .u8)), CH.row g79 0 ((a3.getD (wi64 ((a3.length : Int) - 1)).toNat []).map (Value.int .u8))] [CH.row g13 0 (r121.map (Value.int .u8)), CH.row g9 0 (a4.map (Value.int .u8))] C170) (take_all _)) (.tmp rfl .nil)))) rfl) ⟨rfl, C176, ha124, ha160⟩
            · skip
              refine W.condF (congrArg Value.bool (decide_eq_false hc119)) ?_
              refine W.skip ?_
              refine W.seq ?_
              refine W.region rfl ?_
              refine WL.val (Yl.move (v := .int .i64 a0) ho23) ?_
              refine WL.val (Yl.move (v := .int .i64 r116) rfl) ?_
              refine WL.val (Yl.sub (m := a0) (n := r116) (r := wi64 (a0 - r116)) rfl rfl rfl) ?_
              refine WL.val (Yl.move (v := .int .i64 a1) ho24) ?_
              refine WL.val (Yl.move (v := .int .i64 r116) rfl) ?_
              refine WL.val (Yl.sub (m := a1) (n := r116) (r := wi64 (a1 - r116)) rfl rfl rfl) ?_
              refine WL.val (Yl.move (v := .slice A1 ((wi64 ((a3.length : Int) - 1)).toNat) c2) rfl) ?_
              refine WL.val (Yl.loadVA (g := g9) (off := 0) (o := 0) (cs := a4.map (Value.int .u8)) (us := a4.map (Value.int .u8)) ho27 Tryd.underlying33 rfl (sz_of sz33 (by first | (simp only [List.length_append, List.length_map, List.length_cons, List.length_nil, ha8]; done) | simp [ha8])) (Ctx.sub_of [CH.row g79 0 ((a3.getD (wi64 ((a3.length : Int) - 1)).toNat []).map (Value.int .u8)), CH.row g17 0 ((List.replicate 32 (0 : Int)).map (Value.int .u8)), CH.row g13 0 ((List.replicate 32 (0 : Int)).map (Value.int .u8))] [] C118) (take_all _)) ?_
              obtain ⟨⟨r181, r182, r183⟩, hg180, H⟩ := bindE H
              refine WL.call (args := #[.int .i64 (wi64 (a0 - r116)), .int .i64 (wi64 (a1 - r116)), .bool false, .slice A1 ((wi64 ((a3.length : Int) - 1)).toNat) c2, .agg (List.toArray (a4.map (Value.int .u8)))]) (Yenter.fn Tryd.func63 (by kernel_rfl) rfl (argsE (.cons rfl (.cons rfl (.cons rfl (.cons rfl (.cons rfl .nil))))))) (ih _ F (wi64 (a0 - r116)) (wi64 (a1 - r116)) false A1 c2 ((wi64 ((a3.length : Int) - 1)).toNat) (a3.take (wi64 ((a3.length : Int) - 1)).toNat) a4 (Ctx.pre (qs := []) (rest := [CH.row g79 0 ((a3.getD (wi64 ((a3.length : Int) - 1)).toNat []).map (Value.int .u8)), CH.row g17 0 ((List.replicate 32 (0 : Int)).map (Value.int .u8)), CH.row g13 0 ((List.replicate 32 (0 : Int)).map (Value.int .u8)), CH.row g9 0 (a4.map (Value.int .u8))]) C118) hn113 (by rw [List.length_take]; omega) hm6 (Sl.take hS7 _) ha8 (CH.le_trans hG0 (CH.le_trans (CH.le_refl _) (CH.le_refl _))) (CH.le_trans hG2 (CH.le_trans (CH.le_refl _) (CH.le_refl _))) r181 r182 r183 hg180) ?_
              rintro e_ w_ ⟨rfl, C186, ha184, ha185⟩
              refine ⟨_, rfl, ?_⟩
              have C187 : Ctx _ _ _ _ F [CH.row g79 0 ((a3.getD (wi64 ((a3.length : Int) - 1)).toNat []).map (Value.int .u8)), CH.row g17 0 ((List.replicate 32 (0 : Int)).map (Value.int .u8)), CH.row g13 0 ((List.replicate 32 (0 : Int)).map (Value.int .u8)), CH.row g9 0 (a4.map (Value.int .u8))] := Ctx.call (qs := []) (rest := [CH.row g79 0 ((a3.getD (wi64 ((a3.length : Int) - 1)).toNat []).map (Value.int .u8)), CH.row g17 0 ((List.replicate 32 (0 : Int)).map (Value.int .u8)), CH.row g13 0 ((List.replicate 32 (0 : Int)).map (Value.int .u8)), CH.row g9 0 (a4.map (Value.int .u8))]) C118 C186
              refine WL.val (Yl.move (v := .tuple #[(.agg (List.toArray (r181.map (Value.int .u8)))), (.agg (List.toArray (r182.map (Value.int .u8)))), (.bool r183)]) rfl) ?_
              refine WL.val (Yl.extract (v := .agg (List.toArray (r181.map (Value.int .u8)))) rfl rfl) ?_
              refine WL.val (Yl.extract (v := .agg (List.toArray (r182.map (Value.int .u8)))) rfl rfl) ?_
              refine WL.val (Yl.extract (v := .bool r183) rfl rfl) ?_
              obtain ⟨g188, w189, hy190, C191⟩ := ev_alloc (P := Tryd.prog) (e := 33) ((List.replicate 32 (0 : Int)).map (Value.int .u8)) C187 zr33 rfl
              refine WL.val (hy190 _ _) ?_
              obtain ⟨g192, w193, hy194, C195⟩ := ev_alloc (P := Tryd.prog) (e := 33) ((List.replicate 32 (0 : Int)).map (Value.int .u8)) C191 zr33 rfl
              refine WL.val (hy194 _ _) ?_
              obtain ⟨w196, hy197, C198⟩ := ev_set (P := Tryd.prog) (ps1 := [CH.row g192 0 ((List.replicate 32 (0 : Int)).map (Value.int .u8))]) (ps2 := [CH.row g79 0 ((a3.getD (wi64 ((a3.length : Int) - 1)).toNat []).map (Value.int .u8)), CH.row g17 0 ((List.replicate 32 (0 : Int)).map (Value.int .u8)), CH.row g13 0 ((List.replicate 32 (0 : Int)).map (Value.int .u8)), CH.row g9 0 (a4.map (Value.int .u8))]) (t := 33) (o := 0) ((List.replicate 32 (0 : Int)).map (Value.int .u8)) [] ((List.replicate 32 (0 : Int)).map (Value.int .u8)) [] (r181.map (Value.int .u8)) (.agg (List.toArray (r181.map (Value.int .u8)))) C195 (by first | (simp only [List.length_append, List.length_map, List.length_cons, List.length_nil, (List.length_replicate ..), ha184]; done) | simp [(List.length_replicate ..), ha184]) (by first | (simp only [List.length_append, List.length_map, List.length_cons, List.length_nil, (List.length_replicate ..), ha184]; done) | simp [(List.length_replicate ..), ha184]) (by first | (simp only [List.length_append, List.length_map, List.length_cons, List.length_nil, (List.length_replicate ..), ha184]; done) | simp [(List.length_replicate ..), ha184]) rfl (one_ints _ _) (sz_of sz33 (by first | (simp only [List.length_append, List.length_map, List.length_cons, List.length_nil, ha184]; done) | simp [ha184]))
              have C199 : Ctx _ _ _ _ F [CH.row g192 0 ((List.replicate 32 (0 : Int)).map (Value.int .u8)), CH.row g188 0 (r181.map (Value.int .u8)), CH.row g79 0 ((a3.getD (wi64 ((a3.length : Int) - 1)).toNat []).map (Value.int .u8)), CH.row g17 0 ((List.replicate 32 (0 : Int)).map (Value.int .u8)), CH.row g13 0 ((List.replicate 32 (0 : Int)).map (Value.int .u8)), CH.row g9 0 (a4.map (Value.int .u8))] := (by simpa using C198)
              refine WL.skip (hy197 _ _ _ _ rfl rfl) ?_
              obtain ⟨w200, hy201, C202⟩ := ev_set (P := Tryd.prog) (ps1 := []) (ps2 := [CH.row g188 0 (r181.map (Value.int .u8)), CH.row g79 0 ((a3.getD (wi64 ((a3.length : Int) - 1)).toNat []).map (Value.int .u8)), CH.row g17 0 ((List.replicate 32 (0 : Int)).map (Value.int .u8)), CH.row g13 0 ((List.replicate 32 (0 : Int)).map (Value.int .u8)), CH.row g9 0 (a4.map (Value.int .u8))]) (t := 33) (o := 0) ((List.replicate 32 (0 : Int)).map (Value.int .u8)) [] ((List.replicate 32 (0 : Int)).map (Value.int .u8)) [] (r182.map (Value.int .u8)) (.agg (List.toArray (r182.map (Value.int .u8)))) C199 (by first | (simp only [List.length_append, List.length_map, List.length_cons, List.length_nil, (List.length_replicate ..), ha185]; done) | simp [(List.length_replicate ..), ha185]) (by first | (simp only [List.length_append, List.length_map, List.length_cons, List.length_nil, (List.length_replicate ..), ha185]; done) | simp [(List.length_replicate ..), ha185]) (by first | (simp only [List.length_append, List.length_map, List.length_cons, List.length_nil, (List.length_replicate ..), ha185]; done) | simp [(List.length_replicate ..), ha185]) rfl (one_ints _ _) (sz_of sz33 (by first | (simp only [List.length_append, List.length_map, List.length_cons, List.length_nil, ha185]; done) | simp [ha185]))
              have C203 : Ctx _ _ _ _ F [CH.row g192 0 (r182.map (Value.int .u8)), CH.row g188 0 (r181.map (Value.int .u8)), CH.row g79 0 ((a3.getD (wi64 ((a3.length : Int) - 1)).toNat []).map (Value.int .u8)), CH.row g17 0 ((List.replicate 32 (0 : Int)).map (Value.int .u8)), CH.row g13 0 ((List.replicate 32 (0 : Int)).map (Value.int .u8)), CH.row g9 0 (a4.map (Value.int .u8))] := (by simpa using C202)
              refine WL.skip (hy201 _ _ _ _ rfl rfl) ?_
              refine WL.val (Yl.assign (v := .bool r183) rfl) ?_
              refine WL.done ?_
              refine W.seq ?_
              refine W.regionA [([5, 7, 8], CH.row g79 0 ((a3.getD (wi64 ((a3.length : Int) - 1)).toNat []).map (Value.int .u8))), ([2, 5, 7, 8], CH.row g188 0 (r181.map (Value.int .u8))), ([5, 7, 8], CH.row g192 0 (r182.map (Value.int .u8)))] (by kernel_rfl) ?_
              have C222 := Ctx.drewN C203 1
              refine WA.take (some 0) [2, 5, 7, 8, 9] 0 rfl (by kernel_rfl) (by kernel_rfl) (show _ = #[true, false, false, false, false, false, false, false, false, false] from rfl) (Ctx.sub_of [CH.row g192 0 (r182.map (Value.int .u8)), CH.row g188 0 (r181.map (Value.int .u8))] [CH.row g17 0 ((List.replicate 32 (0 : Int)).map (Value.int .u8)), CH.row g13 0 ((List.replicate 32 (0 : Int)).map (Value.int .u8)), CH.row g9 0 (a4.map (Value.int .u8))] C222) ⟨(Ctx.sub_of [CH.row g192 0 (r182.map (Value.int .u8)), CH.row g188 0 (r181.map (Value.int .u8))] [CH.row g17 0 ((List.replicate 32 (0 : Int)).map (Value.int .u8)), CH.row g13 0 ((List.replicate 32 (0 : Int)).map (Value.int .u8)), CH.row g9 0 (a4.map (Value.int .u8))] C222), (Ctx.sub_of [CH.row g192 0 (r182.map (Value.int .u8))] [CH.row g79 0 ((a3.getD (wi64 ((a3.length : Int) - 1)).toNat []).map (Value.int .u8)), CH.row g17 0 ((List.replicate 32 (0 : Int)).map (Value.int .u8)), CH.row g13 0 ((List.replicate 32 (0 : Int)).map (Value.int .u8)), CH.row g9 0 (a4.map (Value.int .u8))] C222), (Ctx.sub_of [] [CH.row g188 0 (r181.map (Value.int .u8)), CH.row g79 0 ((a3.getD (wi64 ((a3.length : Int) - 1)).toNat []).map (Value.int .u8)), CH.row g17 0 ((List.replicate 32 (0 : Int)).map (Value.int .u8)), CH.row g13 0 ((List.replicate 32 (0 : Int)).map (Value.int .u8)), CH.row g9 0 (a4.map (Value.int .u8))] C222), trivial⟩ (fun _ hC_ => Yl.loadVA (g := g79) (off := 0) (o := 0) (cs := (a3.getD (wi64 ((a3.length : Int) - 1)).toNat []).map (Value.int .u8)) (us := (a3.getD (wi64 ((a3.length : Int) - 1)).toNat []).map (Value.int .u8)) rfl Tryd.underlying33 rfl (sz_of sz33 (by first | (simp only [List.length_append, List.length_map, List.length_cons, List.length_nil, ha78]; done) | simp [ha78])) (show Sub (CH.row g79 0 ((a3.getD (wi64 ((a3.length : Int) - 1)).toNat []).map (Value.int .u8))) _ from hC_) (take_all _)) ?_
              refine WA.take (some 1) [2, 5, 7, 8, 9] 1 rfl (by kernel_rfl) (by kernel_rfl) (show _ = #[true, true, false, false, false, false, false, false, false, false] from rfl) (Ctx.sub_of [CH.row g192 0 (r182.map (Value.int .u8))] [CH.row g79 0 ((a3.getD (wi64 ((a3.length : Int) - 1)).toNat []).map (Value.int .u8)), CH.row g17 0 ((List.replicate 32 (0 : Int)).map (Value.int .u8)), CH.row g13 0 ((List.replicate 32 (0 : Int)).map (Value.int .u8)), CH.row g9 0 (a4.map (Value.int .u8))] C222) ⟨(Ctx.sub_of [CH.row g192 0 (r182.map (Value.int .u8)), CH.row g188 0 (r181.map (Value.int .u8))] [CH.row g17 0 ((List.replicate 32 (0 : Int)).map (Value.int .u8)), CH.row g13 0 ((List.replicate 32 (0 : Int)).map (Value.int .u8)), CH.row g9 0 (a4.map (Value.int .u8))] C222), (Ctx.sub_of [CH.row g192 0 (r182.map (Value.int .u8))] [CH.row g79 0 ((a3.getD (wi64 ((a3.length : Int) - 1)).toNat []).map (Value.int .u8)), CH.row g17 0 ((List.replicate 32 (0 : Int)).map (Value.int .u8)), CH.row g13 0 ((List.replicate 32 (0 : Int)).map (Value.int .u8)), CH.row g9 0 (a4.map (Value.int .u8))] C222), (Ctx.sub_of [] [CH.row g188 0 (r181.map (Value.int .u8)), CH.row g79 0 ((a3.getD (wi64 ((a3.length : Int) - 1)).toNat []).map (Value.int .u8)), CH.row g17 0 ((List.replicate 32 (0 : Int)).map (Value.int .u8)), CH.row g13 0 ((List.replicate 32 (0 : Int)).map (Value.int .u8)), CH.row g9 0 (a4.map (Value.int .u8))] C222), trivial⟩ (fun _ hC_ => Yl.loadVA (g := g188) (off := 0) (o := 0) (cs := r181.map (Value.int .u8)) (us := r181.map (Value.int .u8)) rfl Tryd.underlying33 rfl (sz_of sz33 (by first | (simp only [List.length_append, List.length_map, List.length_cons, List.length_nil, ha184]; done) | simp [ha184])) (show Sub (CH.row g188 0 (r181.map (Value.int .u8))) _ from hC_) (take_all _)) ?_
              refine WA.take (some 0) [5, 7, 8, 9] 3 rfl (by kernel_rfl) (by kernel_rfl) (show _ = #[true, true, false, true, false, false, false, false, false, false] from rfl) (Ctx.sub_of [CH.row g192 0 (r182.map (Value.int .u8)), CH.row g188 0 (r181.map (Value.int .u8))] [CH.row g17 0 ((List.replicate 32 (0 : Int)).map (Value.int .u8)), CH.row g13 0 ((List.replicate 32 (0 : Int)).map (Value.int .u8)), CH.row g9 0 (a4.map (Value.int .u8))] C222) ⟨(Ctx.sub_of [CH.row g192 0 (r182.map (Value.int .u8)), CH.row g188 0 (r181.map (Value.int .u8))] [CH.row g17 0 ((List.replicate 32 (0 : Int)).map (Value.int .u8)), CH.row g13 0 ((List.replicate 32 (0 : Int)).map (Value.int .u8)), CH.row g9 0 (a4.map (Value.int .u8))] C222), (Ctx.sub_of [CH.row g192 0 (r182.map (Value.int .u8))] [CH.row g79 0 ((a3.getD (wi64 ((a3.length : Int) - 1)).toNat []).map (Value.int .u8)), CH.row g17 0 ((List.replicate 32 (0 : Int)).map (Value.int .u8)), CH.row g13 0 ((List.replicate 32 (0 : Int)).map (Value.int .u8)), CH.row g9 0 (a4.map (Value.int .u8))] C222), (Ctx.sub_of [] [CH.row g188 0 (r181.map (Value.int .u8)), CH.row g79 0 ((a3.getD (wi64 ((a3.length : Int) - 1)).toNat []).map (Value.int .u8)), CH.row g17 0 ((List.replicate 32 (0 : Int)).map (Value.int .u8)), CH.row g13 0 ((List.replicate 32 (0 : Int)).map (Value.int .u8)), CH.row g9 0 (a4.map (Value.int .u8))] C222), trivial⟩ (fun _ hC_ => Yl.loadVA (g := g79) (off := 0) (o := 0) (cs := (a3.getD (wi64 ((a3.length : Int) - 1)).toNat []).map (Value.int .u8)) (us := (a3.getD (wi64 ((a3.length : Int) - 1)).toNat []).map (Value.int .u8)) rfl Tryd.underlying33 rfl (sz_of sz33 (by first | (simp only [List.length_append, List.length_map, List.length_cons, List.length_nil, ha78]; done) | simp [ha78])) (show Sub (CH.row g79 0 ((a3.getD (wi64 ((a3.length : Int) - 1)).toNat []).map (Value.int .u8))) _ from hC_) (take_all _)) ?_
              refine WA.take (some 2) [5, 7, 8, 9] 4 rfl (by kernel_rfl) (by kernel_rfl) (show _ = #[true, true, false, true, true, false, false, false, false, false] from rfl) (Ctx.sub_of [] [CH.row g188 0 (r181.map (Value.int .u8)), CH.row g79 0 ((a3.getD (wi64 ((a3.length : Int) - 1)).toNat []).map (Value.int .u8)), CH.row g17 0 ((List.replicate 32 (0 : Int)).map (Value.int .u8)), CH.row g13 0 ((List.replicate 32 (0 : Int)).map (Value.int .u8)), CH.row g9 0 (a4.map (Value.int .u8))] C222) ⟨(Ctx.sub_of [CH.row g192 0 (r182.map (Value.int .u8)), CH.row g188 0 (r181.map (Value.int .u8))] [CH.row g17 0 ((List.replicate 32 (0 : Int)).map (Value.int .u8)), CH.row g13 0 ((List.replicate 32 (0 : Int)).map (Value.int .u8)), CH.row g9 0 (a4.map (Value.int .u8))] C222), (Ctx.sub_of [CH.row g192 0 (r182.map (Value.int .u8))] [CH.row g79 0 ((a3.getD (wi64 ((a3.length : Int) - 1)).toNat []).map (Value.int .u8)), CH.row g17 0 ((List.replicate 32 (0 : Int)).map (Value.int .u8)), CH.row g13 0 ((List.replicate 32 (0 : Int)).map (Value.int .u8)), CH.row g9 0 (a4.map (Value.int .u8))] C222), (Ctx.sub_of [] [CH.row g188 0 (r181.map (Value.int .u8)), CH.row g79 0 ((a3.getD (wi64 ((a3.length : Int) - 1)).toNat []).map (Value.int .u8)), CH.row g17 0 ((List.replicate 32 (0 : Int)).map (Value.int .u8)), CH.row g13 0 ((List.replicate 32 (0 : Int)).map (Value.int .u8)), CH.row g9 0 (a4.map (Value.int .u8))] C222), trivial⟩ (fun _ hC_ => Yl.loadVA (g := g192) (off := 0) (o := 0) (cs := r182.map (Value.int .u8)) (us := r182.map (Value.int .u8)) rfl Tryd.underlying33 rfl (sz_of sz33 (by first | (simp only [List.length_append, List.length_map, List.length_cons, List.length_nil, ha185]; done) | simp [ha185])) (show Sub (CH.row g192 0 (r182.map (Value.int .u8))) _ from hC_) (take_all _)) ?_
              refine WA.take none [] 6 rfl (by kernel_rfl) (by kernel_rfl) (show _ = #[true, true, false, true, true, false, true, false, false, false] from rfl) trivial ⟨(Ctx.sub_of [CH.row g192 0 (r182.map (Value.int .u8)), CH.row g188 0 (r181.map (Value.int .u8))] [CH.row g17 0 ((List.replicate 32 (0 : Int)).map (Value.int .u8)), CH.row g13 0 ((List.replicate 32 (0 : Int)).map (Value.int .u8)), CH.row g9 0 (a4.map (Value.int .u8))] C222), (Ctx.sub_of [CH.row g192 0 (r182.map (Value.int .u8))] [CH.row g79 0 ((a3.getD (wi64 ((a3.length : Int) - 1)).toNat []).map (Value.int .u8)), CH.row g17 0 ((List.replicate 32 (0 : Int)).map (Value.int .u8)), CH.row g13 0 ((List.replicate 32 (0 : Int)).map (Value.int .u8)), CH.row g9 0 (a4.map (Value.int .u8))] C222), (Ctx.sub_of [] [CH.row g188 0 (r181.map (Value.int .u8)), CH.row g79 0 ((a3.getD (wi64 ((a3.length : Int) - 1)).toNat []).map (Value.int .u8)), CH.row g17 0 ((List.replicate 32 (0 : Int)).map (Value.int .u8)), CH.row g13 0 ((List.replicate 32 (0 : Int)).map (Value.int .u8)), CH.row g9 0 (a4.map (Value.int .u8))] C222), trivial⟩ (fun _ hC_ => Yl.move (v := .bool r183) rfl) ?_
              obtain ⟨r224, hg223, H⟩ := bindE H
              refine WA.up1 2 (by kernel_rfl) (Up.call (args := #[.agg (List.toArray ((a3.getD (wi64 ((a3.length : Int) - 1)).toNat []).map (Value.int .u8))), .agg (List.toArray (r181.map (Value.int .u8)))]) rfl (by kernel_rfl) (show _ = #[true, true, true, true, true, false, true, false, false, false] from rfl) (Yenter.fn Tryd.func26 (by kernel_rfl) rfl (argsE (.cons rfl (.cons rfl .nil)))) (juratref08_Node.calls k _ F (a3.getD (wi64 ((a3.length : Int) - 1)).toNat []) r181 (Ctx.pre (qs := []) (rest := [CH.row g192 0 (r182.map (Value.int .u8)), CH.row g188 0 (r181.map (Value.int .u8)), CH.row g79 0 ((a3.getD (wi64 ((a3.length : Int) - 1)).toNat []).map (Value.int .u8)), CH.row g17 0 ((List.replicate 32 (0 : Int)).map (Value.int .u8)), CH.row g13 0 ((List.replicate 32 (0 : Int)).map (Value.int .u8)), CH.row g9 0 (a4.map (Value.int .u8))]) C222) ha78 ha184 (CH.le_trans hG0 (CH.le_trans (CH.le_refl _) (CH.le_refl _))) (CH.le_trans hG2 (CH.le_trans (CH.le_refl _) (CH.le_refl _))) r224 hg223) ?_)
              rintro e_ w_ ⟨rfl, C226, ha225⟩
              have C227 : Ctx _ _ _ _ F [CH.row g192 0 (r182.map (Value.int .u8)), CH.row g188 0 (r181.map (Value.int .u8)), CH.row g79 0 ((a3.getD (wi64 ((a3.length : Int) - 1)).toNat []).map (Value.int .u8)), CH.row g17 0 ((List.replicate 32 (0 : Int)).map (Value.int .u8)), CH.row g13 0 ((List.replicate 32 (0 : Int)).map (Value.int .u8)), CH.row g9 0 (a4.map (Value.int .u8))] := Ctx.call (qs := []) (rest := [CH.row g192 0 (r182.map (Value.int .u8)), CH.row g188 0 (r181.map (Value.int .u8)), CH.row g79 0 ((a3.getD (wi64 ((a3.length : Int) - 1)).toNat []).map (Value.int .u8)), CH.row g17 0 ((List.replicate 32 (0 : Int)).map (Value.int .u8)), CH.row g13 0 ((List.replicate 32 (0 : Int)).map (Value.int .u8)), CH.row g9 0 (a4.map (Value.int .u8))]) C222 C226
              refine ⟨_, rfl, ⟨(Ctx.sub_of [CH.row g192 0 (r182.map (Value.int .u8)), CH.row g188 0 (r181.map (Value.int .u8))] [CH.row g17 0 ((List.replicate 32 (0 : Int)).map (Value.int .u8)), CH.row g13 0 ((List.replicate 32 (0 : Int)).map (Value.int .u8)), CH.row g9 0 (a4.map (Value.int .u8))] C227), trivial, (Ctx.sub_of [] [CH.row g188 0 (r181.map (Value.int .u8)), CH.row g79 0 ((a3.getD (wi64 ((a3.length : Int) - 1)).toNat []).map (Value.int .u8)), CH.row g17 0 ((List.replicate 32 (0 : Int)).map (Value.int .u8)), CH.row g13 0 ((List.replicate 32 (0 : Int)).map (Value.int .u8)), CH.row g9 0 (a4.map (Value.int .u8))] C227), trivial⟩, ?_⟩
              obtain ⟨r229, hg228, H⟩ := bindE H
              refine WA.up1 5 (by kernel_rfl) (Up.call (args := #[.agg (List.toArray ((a3.getD (wi64 ((a3.length : Int) - 1)).toNat []).map (Value.int .u8))), .agg (List.toArray (r182.map (Value.int .u8)))]) rfl (by kernel_rfl) (show _ = #[true, true, true, true, true, true, true, false, false, false] from rfl) (Yenter.fn Tryd.func26 (by kernel_rfl) rfl (argsE (.cons rfl (.cons rfl .nil)))) (juratref08_Node.calls k _ F (a3.getD (wi64 ((a3.length : Int) - 1)).toNat []) r182 (Ctx.pre (qs := []) (rest := [CH.row g192 0 (r182.map (Value.int .u8)), CH.row g188 0 (r181.map (Value.int .u8)), CH.row g79 0 ((a3.getD (wi64 ((a3.length : Int) - 1)).toNat []).map (Value.int .u8)), CH.row g17 0 ((List.replicate 32 (0 : Int)).map (Value.int .u8)), CH.row g13 0 ((List.replicate 32 (0 : Int)).map (Value.int .u8)), CH.row g9 0 (a4.map (Value.int .u8))]) C227) ha78 ha185 (CH.le_trans hG0 (CH.le_trans (CH.le_refl _) (CH.le_refl _))) (CH.le_trans hG2 (CH.le_trans (CH.le_refl _) (CH.le_refl _))) r229 hg228) ?_)
              rintro e_ w_ ⟨rfl, C231, ha230⟩
              have C232 : Ctx _ _ _ _ F [CH.row g192 0 (r182.map (Value.int .u8)), CH.row g188 0 (r181.map (Value.int .u8)), CH.row g79 0 ((a3.getD (wi64 ((a3.length : Int) - 1)).toNat []).map (Value.int .u8)), CH.row g17 0 ((List.replicate 32 (0 : Int)).map (Value.int .u8)), CH.row g13 0 ((List.replicate 32 (0 : Int)).map (Value.int .u8)), CH.row g9 0 (a4.map (Value.int .u8))] := Ctx.call (qs := []) (rest := [CH.row g192 0 (r182.map (Value.int .u8)), CH.row g188 0 (r181.map (Value.int .u8)), CH.row g79 0 ((a3.getD (wi64 ((a3.length : Int) - 1)).toNat []).map (Value.int .u8)), CH.row g17 0 ((List.replicate 32 (0 : Int)).map (Value.int .u8)), CH.row g13 0 ((List.replicate 32 (0 : Int)).map (Value.int .u8)), CH.row g9 0 (a4.map (Value.int .u8))]) C227 C231
              refine ⟨_, rfl, ⟨trivial, trivial, trivial, trivial⟩, ?_⟩
              obtain ⟨w233, hy234, C235⟩ := ev_set (P := Tryd.prog) (ps1 := [CH.row g192 0 (r182.map (Value.int .u8)), CH.row g188 0 (r181.map (Value.int .u8)), CH.row g79 0 ((a3.getD (wi64 ((a3.length : Int) - 1)).toNat []).map (Value.int .u8)), CH.row g17 0 ((List.replicate 32 (0 : Int)).map (Value.int .u8))]) (ps2 := [CH.row g9 0 (a4.map (Value.int .u8))]) (t := 33) (o := 0) ((List.replicate 32 (0 : Int)).map (Value.int .u8)) [] ((List.replicate 32 (0 : Int)).map (Value.int .u8)) [] (r224.map (Value.int .u8)) (.agg (List.toArray (r224.map (Value.int .u8)))) C232 (by first | (simp only [List.length_append, List.length_map, List.length_cons, List.length_nil, (List.length_replicate ..), ha225]; done) | simp [(List.length_replicate ..), ha225]) (by first | (simp only [List.length_append, List.length_map, List.length_cons, List.length_nil, (List.length_replicate ..), ha225]; done) | simp [(List.length_replicate ..), ha225]) (by first | (simp only [List.length_append, List.length_map, List.length_cons, List.length_nil, (List.length_replicate ..), ha225]; done) | simp [(List.length_replicate ..), ha225]) rfl (one_ints _ _) (sz_of sz33 (by first | (simp only [List.length_append, List.length_map, List.length_cons, List.length_nil, ha225]; done) | simp [ha225]))
              have C236 : Ctx _ _ _ _ F [CH.row g192 0 (r182.map (Value.int .u8)), CH.row g188 0 (r181.map (Value.int .u8)), CH.row g79 0 ((a3.getD (wi64 ((a3.length : Int) - 1)).toNat []).map (Value.int .u8)), CH.row g17 0 ((List.replicate 32 (0 : Int)).map (Value.int .u8)), CH.row g13 0 (r224.map (Value.int .u8)), CH.row g9 0 (a4.map (Value.int .u8))] := (by simpa using C235)
              refine WA.up1 7 (by kernel_rfl) (Up.skip rfl (show _ = #[true, true, true, true, true, true, true, true, false, false] from rfl) (hy234 _ _ _ _ ho28 rfl) ⟨trivial, trivial, trivial, trivial⟩ ?_)
              obtain ⟨w237, hy238, C239⟩ := ev_set (P := Tryd.prog) (ps1 := [CH.row g192 0 (r182.map (Value.int .u8)), CH.row g188 0 (r181.map (Value.int .u8)), CH.row g79 0 ((a3.getD (wi64 ((a3.length : Int) - 1)).toNat []).map (Value.int .u8))]) (ps2 := [CH.row g13 0 (r224.map (Value.int .u8)), CH.row g9 0 (a4.map (Value.int .u8))]) (t := 33) (o := 0) ((List.replicate 32 (0 : Int)).map (Value.int .u8)) [] ((List.replicate 32 (0 : Int)).map (Value.int .u8)) [] (r229.map (Value.int .u8)) (.agg (List.toArray (r229.map (Value.int .u8)))) C236 (by first | (simp only [List.length_append, List.length_map, List.length_cons, List.length_nil, (List.length_replicate ..), ha230]; done) | simp [(List.length_replicate ..), ha230]) (by first | (simp only [List.length_append, List.length_map, List.length_cons, List.length_nil, (List.length_replicate ..), ha230]; done) | simp [(List.length_replicate ..), ha230]) (by first | (simp only [List.length_append, List.length_map, List.length_cons, List.length_nil, (List.length_replicate ..), ha230]; done) | simp [(List.length_replicate ..), ha230]) rfl (one_ints _ _) (sz_of sz33 (by first | (simp only [List.length_append, List.length_map, List.length_cons, List.length_nil, ha230]; done) | simp [ha230]))
              have C240 : Ctx _ _ _ _ F [CH.row g192 0 (r182.map (Value.int .u8)), CH.row g188 0 (r181.map (Value.int .u8)), CH.row g79 0 ((a3.getD (wi64 ((a3.length : Int) - 1)).toNat []).map (Value.int .u8)), CH.row g17 0 (r229.map (Value.int .u8)), CH.row g13 0 (r224.map (Value.int .u8)), CH.row g9 0 (a4.map (Value.int .u8))] := (by simpa using C239)
              refine WA.up1 8 (by kernel_rfl) (Up.skip rfl (show _ = #[true, true, true, true, true, true, true, true, true, false] from rfl) (hy238 _ _ _ _ ho29 rfl) ⟨trivial, trivial, trivial, trivial⟩ ?_)
              refine WA.take none [] 9 rfl (by kernel_rfl) (by kernel_rfl) (show _ = #[true, true, true, true, true, true, true, true, true, true] from rfl) trivial ⟨trivial, trivial, trivial, trivial⟩ (fun _ hC_ => Yl.assign (v := .bool r183) rfl) ?_
              refine WA.done (by kernel_rfl) ?_
              refine W.ret ?_
              have C241 : Ctx _ _ _ _ F [CH.row g188 0 (r181.map (Value.int .u8)), CH.row g79 0 ((a3.getD (wi64 ((a3.length : Int) - 1)).toNat []).map (Value.int .u8)), CH.row g17 0 (r229.map (Value.int .u8)), CH.row g13 0 (r224.map (Value.int .u8)), CH.row g9 0 (a4.map (Value.int .u8))] := Ctx.drop [] [CH.row g188 0 (r181.map (Value.int .u8)), CH.row g79 0 ((a3.getD (wi64 ((a3.length : Int) - 1)).toNat []).map (Value.int .u8)), CH.row g17 0 (r229.map (Value.int .u8)), CH.row g13 0 (r224.map (Value.int .u8)), CH.row g9 0 (a4.map (Value.int .u8))] C240
              have C242 : Ctx _ _ _ _ F [CH.row g79 0 ((a3.getD (wi64 ((a3.length : Int) - 1)).toNat []).map (Value.int .u8)), CH.row g17 0 (r229.map (Value.int .u8)), CH.row g13 0 (r224.map (Value.int .u8)), CH.row g9 0 (a4.map (Value.int .u8))] := Ctx.drop [] [CH.row g79 0 ((a3.getD (wi64 ((a3.length : Int) - 1)).toNat []).map (Value.int .u8)), CH.row g17 0 (r229.map (Value.int .u8)), CH.row g13 0 (r224.map (Value.int .u8)), CH.row g9 0 (a4.map (Value.int .u8))] C241
              have C243 : Ctx _ _ _ _ F [CH.row g17 0 (r229.map (Value.int .u8)), CH.row g13 0 (r224.map (Value.int .u8)), CH.row g9 0 (a4.map (Value.int .u8))] := Ctx.drop [] [CH.row g17 0 (r229.map (Value.int .u8)), CH.row g13 0 (r224.map (Value.int .u8)), CH.row g9 0 (a4.map (Value.int .u8))] C242
              have C244 : Ctx _ _ _ _ F [CH.row g13 0 (r224.map (Value.int .u8)), CH.row g9 0 (a4.map (Value.int .u8))] := Ctx.drop [] [CH.row g13 0 (r224.map (Value.int .u8)), CH.row g9 0 (a4.map (Value.int .u8))] C243
              have C245 : Ctx _ _ _ _ F [CH.row g9 0 (a4.map (Value.int .u8))] := Ctx.drop [] [CH.row g9 0 (a4.map (Value.int .u8))] C244
              have C246 : Ctx _ _ _ _ F [] := Ctx.drop [] [] C245
              simp only [Option.some.injEq, Prod.mk.injEq] at H
              obtain ⟨e247, e248, e249⟩ := H
              subst e247 e248 e249
              exact post_r (resET rfl ((.cell ho28 (run_loadVA2 (g := g13) (off := 0) (o := 0) (cs := r224.map (Value.int .u8)) (us := r224.map (Value.int .u8)) Tryd.underlying33 rfl (sz_of sz33 (by first | (simp only [List.length_append, List.length_map, List.length_cons, List.length_nil, ha225]; done) | simp [ha225])) (Ctx.sub_of [CH.row g192 0 (r182.map (Value.int .u8)), CH.row g188 0 (r181.map (Value.int .u8)), CH.row g79 0 ((a3.getD (wi64 ((a3.length : Int) - 1)).toNat []).map (Value.int .u8)), CH.row g17 0 (r229.map (Value.int .u8))] [CH.row g9 0 (a4.map (Value.int .u8))] C240) (take_all _)) (.cell ho29 (run_loadVA2 (g := g17) (off := 0) (o := 0) (cs := r229.map (Value.int .u8)) (us := r229.map (Value.int .u8)) Tryd.underlying33 rfl (sz_of sz33 (by first | (simp only [List.length_append, List.length_map, List.length_cons, List.length_nil, ha230]; done) | simp [ha230])) (Ctx.sub_of [CH.row g192 0 (r182.map (Value.int .u8)), CH.row g188 0 (r181.map (Value.int .u8)), CH.row g79 0 ((a3.getD (wi64 ((a3.length : Int) - 1)).toNat []).map (Value.int .u8))] [CH.row g13 0 (r224.map (Value.int .u8)), CH.row g9 0 (a4.map (Value.int .u8))] C240) (take_all _)) (.tmp rfl .nil)))) rfl) ⟨rfl, C246, ha225, ha230⟩
def juratref08_Consistent.f (k : Nat) (a0 : Int) (a1 : Int) (a2 : List (List Int)) (a3 : List Int) (a4 : List Int) : Option Bool := if ((decide (a0 < 0)) || (decide (a0 > a1))) = true then (some false) else (if a0 = 0 then ((if (a2.length : Int) = 0 then ((juratref08_Root.f k ([] : List (List Int))).bind fun r66 => some (decide (a3 = r66))) else (some false)).bind fun x50 => some x50) else (if a0 = a1 then ((if (a2.length : Int) = 0 then (some (decide (a3 = a4))) else (some (false))).bind fun g75 => some g75) else ((juratref08_leads.f k a0 a1 true a2 a3).bind fun ⟨r84, r85, r86⟩ => (if r86 = true then (if r84 = a3 then (some (decide (r85 = a4))) else (some (false))) else (some (false))).bind fun g107 => some g107)))
set_option maxRecDepth 100000 in
set_option maxHeartbeats 4000000 in
theorem juratref08_Consistent.calls (k : Nat) (w : World) (F : CH) (a0 : Int) (a1 : Int) (A1 : Option Addr) (c2 : Nat) (n3 : Nat) (a2 : List (List Int)) (a3 : List Int) (a4 : List Int) (hp : Pre w F []) (hn4 : n3 = a2.length) (hl5 : a2.length ≤ c2) (hm6 : c2 ≤ maxLen) (hS7 : Sl (Kd.arrI 32 .u8) F F A1 a2) (ha8 : a3.length = 32) (ha9 : a4.length = 32) (hG0 : CH.le (CH.row 0 0 (glob0.map (Value.int .u32))) F) (hG2 : CH.le (CH.row 2 0 (glob2.map (Value.int .u32))) F) (r0_ : Bool) (H : juratref08_Consistent.f k a0 a1 a2 a3 a4 = some r0_) :
    Calls Tryd.prog 37 #[.int .i64 a0, .int .i64 a1, .slice A1 n3 c2, .agg (List.toArray (a3.map (Value.int .u8))), .agg (List.toArray (a4.map (Value.int .u8)))] w fun e w' => e = .returned (.bool r0_) ∧ Ctx w F (domL []) w' F [] := by
  have C := Ctx.start hp
  generalize hD : domL [] = D at C ⊢
  unfold juratref08_Consistent.f at H
  refine Calls.ofW Tryd.func37 rfl (by simp [Tryd.ntmps37]) ?_
  refine W.seq ?_
  refine W.region rfl ?_
  obtain ⟨g10, w11, hy12, C13⟩ := ev_box (P := Tryd.prog) 33 (.agg (List.toArray (a3.map (Value.int .u8)))) (a3.map (Value.int .u8)) C rfl
  refine WL.val (hy12 _ _ _ rfl) ?_
  obtain ⟨g14, w15, hy16, C17⟩ := ev_box (P := Tryd.prog) 33 (.agg (List.toArray (a4.map (Value.int .u8)))) (a4.map (Value.int .u8)) C13 rfl
  refine WL.val (hy16 _ _ _ rfl) ?_
  refine WL.val (Yl.assign (v := .bool false) rfl) ?_
  refine WL.done ?_
  refine W.seq ?_
  refine W.seq ?_
  refine W.region rfl ?_
  refine WL.val (Yl.move (v := .int .i64 a0) rfl) ?_
  refine WL.val (Yl.lss (m := a0) (n := 0) (q := decide (a0 < 0)) rfl rfl rfl) ?_
  refine WL.val (Yl.move (v := .bool (decide (a0 < 0))) rfl) ?_
  refine WL.cut (fun env_ w_ => env_ 20 = .bool ((decide (a0 < 0)) || (decide (a0 > a1))) ∧ env_ 0 = .int .i64 a0 ∧ env_ 1 = .int .i64 a1 ∧ env_ 2 = .slice A1 n3 c2 ∧ env_ 8 = .pointer (some ⟨g10, 0, none⟩) ∧ env_ 9 = .pointer (some ⟨g14, 0, none⟩) ∧ Ctx w F D w_ F [CH.row g14 0 (a4.map (Value.int .u8)), CH.row g10 0 (a3.map (Value.int .u8))]) ?_ ?_
  · skip
    rcases Bool.eq_false_or_eq_true (decide (a0 < 0)) with hb18 | hb18
    · skip
      refine WL.off rfl (congrArg Value.bool hb18) ?_
      refine WL.off rfl (congrArg Value.bool hb18) ?_
      refine WL.off rfl (congrArg Value.bool hb18) ?_
      refine WL.val (Yl.pickT (v := .bool true) (congrArg Value.bool hb18) rfl) ?_
      exact WL.done ⟨(congrArg Value.bool (show true = ((decide (a0 < 0)) || (decide (a0 > a1))) from by simp [hb18])), rfl, rfl, rfl, rfl, rfl, C17⟩
    · skip
      refine WL.on rfl (congrArg Value.bool hb18) ?_
      refine WL.val (Yl.move (v := .int .i64 a0) rfl) ?_
      refine WL.on rfl (congrArg Value.bool hb18) ?_
      refine WL.val (Yl.move (v := .int .i64 a1) rfl) ?_
      refine WL.on rfl (congrArg Value.bool hb18) ?_
      refine WL.val (Yl.gtr (m := a0) (n := a1) (q := decide (a0 > a1)) rfl rfl rfl) ?_
      refine WL.val (Yl.pickF (v := .bool (decide (a0 > a1))) (congrArg Value.bool hb18) rfl) ?_
      exact WL.done ⟨(congrArg Value.bool (show (decide (a0 > a1)) = ((decide (a0 < 0)) || (decide (a0 > a1))) from by simp [hb18])), rfl, rfl, rfl, rfl, rfl, C17⟩
  · skip
    rintro env_ w_ ⟨ho19, ho20, ho21, ho22, ho23, ho24, C25⟩
    rcases iteE H with ⟨hc26, H⟩ | ⟨hc26, H⟩
    · skip
      refine W.condT (ho19.trans (congrArg Value.bool hc26)) ?_
      refine W.seq ?_
      refine W.region rfl ?_
      refine WL.val (Yl.assign (v := .bool false) rfl) ?_
      refine WL.done ?_
      refine W.ret ?_
      refine thenE_r ?_
      have C27 : Ctx _ _ _ _ F [CH.row g10 0 (a3.map (Value.int .u8))] := Ctx.drop [] [CH.row g10 0 (a3.map (Value.int .u8))] C25
      have C28 : Ctx _ _ _ _ F [] := Ctx.drop [] [] C27
      have e29 := Option.some.inj H
      subst e29
      exact post_r (resE1 rfl rfl) ⟨rfl, C28⟩
    · skip
      refine W.condF (ho19.trans (congrArg Value.bool (Bool.eq_false_iff.2 hc26))) ?_
      refine W.skip ?_
      refine W.seq ?_
      refine W.seq ?_
      refine W.region rfl ?_
      refine WL.val (Yl.move (v := .int .i64 a0) ho20) ?_
      refine WL.val (Yl.eql (m := a0) (n := 0) (q := decide (a0 = 0)) rfl rfl rfl) ?_
      refine WL.done ?_
      rcases iteE H with ⟨hc30, H⟩ | ⟨hc30, H⟩
      · skip
        refine W.condT (congrArg Value.bool (decide_eq_true hc30)) ?_
        refine W.seq ?_
        obtain ⟨x50, hX52, H⟩ := bindE H
        refine W.cutM (fun env_ w_ => env_ 10 = .bool x50 ∧ Ctx w F D w_ F [CH.row g14 0 (a4.map (Value.int .u8)), CH.row g10 0 (a3.map (Value.int .u8))]) ?_ ?_
        · skip
          rcases iteE hX52 with ⟨hc53, hX52⟩ | ⟨hc53, hX52⟩
          · skip
            refine W.regionA [([], CH.row g10 0 (a3.map (Value.int .u8)))] (by kernel_rfl) ?_
            have C64 := Ctx.drewN C25 1
            refine WA.take none [] 0 rfl (by kernel_rfl) (by kernel_rfl) (show _ = #[true, false, false, false, false, false, false, false, false] from rfl) trivial ⟨(Ctx.sub_of [CH.row g14 0 (a4.map (Value.int .u8))] [] C64), trivial⟩ (fun _ hC_ => Yl.move (v := .slice A1 n3 c2) ho22) ?_
            refine WA.take none [] 1 rfl (by kernel_rfl) (by kernel_rfl) (show _ = #[true, true, false, false, false, false, false, false, false] from rfl) trivial ⟨(Ctx.sub_of [CH.row g14 0 (a4.map (Value.int .u8))] [] C64), trivial⟩ (fun _ hC_ => Yl.lenN (A := A1) (l := n3) (q := c2) (n := (a2.length : Int)) rfl Tryd.underlying31 (by omega)) ?_
            refine WA.take none [] 2 rfl (by kernel_rfl) (by kernel_rfl) (show _ = #[true, true, true, false, false, false, false, false, false] from rfl) trivial ⟨(Ctx.sub_of [CH.row g14 0 (a4.map (Value.int .u8))] [] C64), trivial⟩ (fun _ hC_ => Yl.eql (m := (a2.length : Int)) (n := 0) (q := decide ((a2.length : Int) = 0)) rfl rfl rfl) ?_
            refine WA.take none [] 3 rfl (by kernel_rfl) (by kernel_rfl) (show _ = #[true, true, true, true, false, false, false, false, false] from rfl) trivial ⟨(Ctx.sub_of [CH.row g14 0 (a4.map (Value.int .u8))] [] C64), trivial⟩ (fun _ hC_ => Yl.move (v := .bool (decide ((a2.length : Int) = 0))) rfl) ?_
            refine WA.takeOn (some 0) [6, 7, 8] 4 rfl rfl (congrArg Value.bool (decide_eq_true hc53)) (by kernel_rfl) (by kernel_rfl) (show _ = #[true, true, true, true, true, false, false, false, false] from rfl) (Ctx.sub_of [CH.row g14 0 (a4.map (Value.int .u8))] [] C64) ⟨(Ctx.sub_of [CH.row g14 0 (a4.map (Value.int .u8))] [] C64), trivial⟩ (fun _ hC_ => Yl.loadVA (g := g10) (off := 0) (o := 0) (cs := a3.map (Value.int .u8)) (us := a3.map (Value.int .u8)) ho23 Tryd.underlying33 rfl (sz_of sz33 (by first | (simp only [List.length_append, List.length_map, List.length_cons, List.length_nil, ha8]; done) | simp [ha8])) (show Sub (CH.row g10 0 (a3.map (Value.int .u8))) _ from hC_) (take_all _)) ?_
            obtain ⟨r66, hg65, hX52⟩ := bindE hX52
            refine WA.up1 5 (by kernel_rfl) (Up.callG (args := #[.slice none 0 0]) rfl rfl (congrArg Value.bool (decide_eq_true hc53)) (by kernel_rfl) (show _ = #[true, true, true, true, true, true, false, false, false] from rfl) (Yenter.fn Tryd.func24 (by kernel_rfl) rfl (argsE (.cons rfl .nil))) (juratref08_Root.calls k _ F none 0 0 ([] : List (List Int)) (Ctx.pre (qs := []) (rest := [CH.row g14 0 (a4.map (Value.int .u8)), CH.row g10 0 (a3.map (Value.int .u8))]) C64) rfl (Nat.le_refl _) (Nat.zero_le _) (Sl.nil _ _ _ _) (CH.le_trans hG0 (CH.le_trans (CH.le_refl _) (CH.le_refl _))) (CH.le_trans hG2 (CH.le_trans (CH.le_refl _) (CH.le_refl _))) r66 hg65) ?_)
            rintro e_ w_ ⟨rfl, C68, ha67⟩
            have C69 : Ctx _ _ _ _ F [CH.row g14 0 (a4.map (Value.int .u8)), CH.row g10 0 (a3.map (Value.int .u8))] := Ctx.call (qs := []) (rest := [CH.row g14 0 (a4.map (Value.int .u8)), CH.row g10 0 (a3.map (Value.int .u8))]) C64 C68
            refine ⟨_, rfl, ⟨(Ctx.sub_of [CH.row g14 0 (a4.map (Value.int .u8))] [] C69), trivial⟩, ?_⟩
            refine WA.takeOn none [] 6 rfl rfl (congrArg Value.bool (decide_eq_true hc53)) (by kernel_rfl) (by kernel_rfl) (show _ = #[true, true, true, true, true, true, true, false, false] from rfl) trivial ⟨(Ctx.sub_of [CH.row g14 0 (a4.map (Value.int .u8))] [] C69), trivial⟩ (fun _ hC_ => Yl.aeql (n := 2) (xs := a3.map (Value.int .u8)) (ys := r66.map (Value.int .u8)) rfl rfl eg33 (EqV.arrI Tryd.underlying33 Tryd.underlying5 sz5 ha8 ha67) (by decide)) ?_
            refine WA.take none [] 7 rfl (by kernel_rfl) (by kernel_rfl) (show _ = #[true, true, true, true, true, true, true, true, false] from rfl) trivial ⟨(Ctx.sub_of [CH.row g14 0 (a4.map (Value.int .u8))] [] C69), trivial⟩ (fun _ hC_ => Yl.pickT (v := .bool (decide (a3 = r66))) (congrArg Value.bool (decide_eq_true hc53)) rfl) ?_
            refine WA.take none [] 8 rfl (by kernel_rfl) (by kernel_rfl) (show _ = #[true, true, true, true, true, true, true, true, true] from rfl) trivial ⟨(Ctx.sub_of [CH.row g14 0 (a4.map (Value.int .u8))] [] C69), trivial⟩ (fun _ hC_ => Yl.assign (v := .bool (decide (a3 = r66))) rfl) ?_
            refine WA.done (by kernel_rfl) ?_
            cases hX52
            refine thenE_n ?_
            exact ⟨rfl, C69⟩
          · skip
            refine W.regionA [] (by kernel_rfl) ?_
            have C70 := Ctx.drewN C25 1
            refine WA.take none [] 0 rfl (by kernel_rfl) (by kernel_rfl) (show _ = #[true, false, false, false, false, false, false, false, false] from rfl) trivial trivial (fun _ hC_ => Yl.move (v := .slice A1 n3 c2) ho22) ?_
            refine WA.take none [] 1 rfl (by kernel_rfl) (by kernel_rfl) (show _ = #[true, true, false, false, false, false, false, false, false] from rfl) trivial trivial (fun _ hC_ => Yl.lenN (A := A1) (l := n3) (q := c2) (n := (a2.length : Int)) rfl Tryd.underlying31 (by omega)) ?_
            refine WA.take none [] 2 rfl (by kernel_rfl) (by kernel_rfl) (show _ = #[true, true, true, false, false, false, false, false, false] from rfl) trivial trivial (fun _ hC_ => Yl.eql (m := (a2.length : Int)) (n := 0) (q := decide ((a2.length : Int) = 0)) rfl rfl rfl) ?_
            refine WA.take none [] 3 rfl (by kernel_rfl) (by kernel_rfl) (show _ = #[true, true, true, true, false, false, false, false, false] from rfl) trivial trivial (fun _ hC_ => Yl.move (v := .bool (decide ((a2.length : Int) = 0))) rfl) ?_
            refine WA.takeOff 4 rfl rfl (congrArg Value.bool (decide_eq_false hc53)) (by kernel_rfl) (by kernel_rfl) (show _ = #[true, true, true, true, true, false, false, false, false] from rfl) trivial ?_
            refine WA.takeOff 5 rfl rfl (congrArg Value.bool (decide_eq_false hc53)) (by kernel_rfl) (by kernel_rfl) (show _ = #[true, true, true, true, true, true, false, false, false] from rfl) trivial ?_
            refine WA.takeOff 6 rfl rfl (congrArg Value.bool (decide_eq_false hc53)) (by kernel_rfl) (by kernel_rfl) (show _ = #[true, true, true, true, true, true, true, false, false] from rfl) trivial ?_
            refine WA.take none [] 7 rfl (by kernel_rfl) (by kernel_rfl) (show _ = #[true, true, true, true, true, true, true, true, false] from rfl) trivial trivial (fun _ hC_ => Yl.pickF (v := .bool false) (congrArg Value.bool (decide_eq_false hc53)) rfl) ?_
            refine WA.take none [] 8 rfl (by kernel_rfl) (by kernel_rfl) (show _ = #[true, true, true, true, true, true, true, true, true] from rfl) trivial trivial (fun _ hC_ => Yl.assign (v := .bool false) rfl) ?_
            refine WA.done (by kernel_rfl) ?_
            cases hX52
            refine thenE_n ?_
            exact ⟨rfl, C70⟩
        · skip
          rintro env_ w_ ⟨ho49, C51⟩
          refine W.ret ?_
          refine thenE_r ?_
          have C71 : Ctx _ _ _ _ F [CH.row g10 0 (a3.map (Value.int .u8))] := Ctx.drop [] [CH.row g10 0 (a3.map (Value.int .u8))] C51
          have C72 : Ctx _ _ _ _ F [] := Ctx.drop [] [] C71
          have e73 := Option.some.inj H
          subst e73
          exact post_r (resE1 rfl ho49) ⟨rfl, C72⟩
      · skip
        refine W.condF (congrArg Value.bool (decide_eq_false hc30)) ?_
        refine W.skip ?_
        refine W.seq ?_
        refine W.seq ?_
        refine W.region rfl ?_
        refine WL.val (Yl.move (v := .int .i64 a0) ho20) ?_
        refine WL.val (Yl.move (v := .int .i64 a1) ho21) ?_
        refine WL.val (Yl.eql (m := a0) (n := a1) (q := decide (a0 = a1)) rfl rfl rfl) ?_
        refine WL.done ?_
        rcases iteE H with ⟨hc74, H⟩ | ⟨hc74, H⟩
        · skip
          refine W.condT (congrArg Value.bool (decide_eq_true hc74)) ?_
          refine W.seq ?_
          refine W.region rfl ?_
          refine WL.val (Yl.move (v := .slice A1 n3 c2) ho22) ?_
          refine WL.val (Yl.lenN (A := A1) (l := n3) (q := c2) (n := (a2.length : Int)) rfl Tryd.underlying31 (by omega)) ?_
          refine WL.val (Yl.eql (m := (a2.length : Int)) (n := 0) (q := decide ((a2.length : Int) = 0)) rfl rfl rfl) ?_
          refine WL.val (Yl.move (v := .bool (decide ((a2.length : Int) = 0))) rfl) ?_
          obtain ⟨g75, HE76, H⟩ := bindE H
          refine WL.cut (fun env_ w_ => env_ 10 = .bool g75 ∧ Ctx w F D w_ F [CH.row g14 0 (a4.map (Value.int .u8)), CH.row g10 0 (a3.map (Value.int .u8))]) ?_ ?_
          · skip
            rcases iteE HE76 with ⟨hc77, HE76⟩ | ⟨hc77, HE76⟩
            · skip
              refine WL.on rfl (congrArg Value.bool (decide_eq_true hc77)) ?_
              refine WL.val (Yl.loadVA (g := g10) (off := 0) (o := 0) (cs := a3.map (Value.int .u8)) (us := a3.map (Value.int .u8)) ho23 Tryd.underlying33 rfl (sz_of sz33 (by first | (simp only [List.length_append, List.length_map, List.length_cons, List.length_nil, ha8]; done) | simp [ha8])) (Ctx.sub_of [CH.row g14 0 (a4.map (Value.int .u8))] [] C25) (take_all _)) ?_
              refine WL.on rfl (congrArg Value.bool (decide_eq_true hc77)) ?_
              refine WL.val (Yl.loadVA (g := g14) (off := 0) (o := 0) (cs := a4.map (Value.int .u8)) (us := a4.map (Value.int .u8)) ho24 Tryd.underlying33 rfl (sz_of sz33 (by first | (simp only [List.length_append, List.length_map, List.length_cons, List.length_nil, ha9]; done) | simp [ha9])) (Ctx.sub_of [] [CH.row g10 0 (a3.map (Value.int .u8))] C25) (take_all _)) ?_
              refine WL.on rfl (congrArg Value.bool (decide_eq_true hc77)) ?_
              refine WL.val (Yl.aeql (n := 2) (xs := a3.map (Value.int .u8)) (ys := a4.map (Value.int .u8)) rfl rfl eg33 (EqV.arrI Tryd.underlying33 Tryd.underlying5 sz5 ha8 ha9) (by decide)) ?_
              refine WL.val (Yl.pickT (v := .bool (decide (a3 = a4))) (congrArg Value.bool (decide_eq_true hc77)) rfl) ?_
              refine WL.val (Yl.assign (v := .bool (decide (a3 = a4))) rfl) ?_
              cases HE76
              exact WL.done ⟨rfl, C25⟩
            · skip
              refine WL.off rfl (congrArg Value.bool (decide_eq_false hc77)) ?_
              refine WL.off rfl (congrArg Value.bool (decide_eq_false hc77)) ?_
              refine WL.off rfl (congrArg Value.bool (decide_eq_false hc77)) ?_
              refine WL.val (Yl.pickF (v := .bool false) (congrArg Value.bool (decide_eq_false hc77)) rfl) ?_
              refine WL.val (Yl.assign (v := .bool false) rfl) ?_
              cases HE76
              exact WL.done ⟨rfl, C25⟩
          · skip
            rintro env_ w_ ⟨ho78, C79⟩
            refine W.ret ?_
            refine thenE_r ?_
            have C80 : Ctx _ _ _ _ F [CH.row g10 0 (a3.map (Value.int .u8))] := Ctx.drop [] [CH.row g10 0 (a3.map (Value.int .u8))] C79
            have C81 : Ctx _ _ _ _ F [] := Ctx.drop [] [] C80
            have e82 := Option.some.inj H
            subst e82
            exact post_r (resE1 rfl ho78) ⟨rfl, C81⟩
        · skip
          refine W.condF (congrArg Value.bool (decide_eq_false hc74)) ?_
          refine W.skip ?_
          refine W.seq ?_
          refine W.region rfl ?_
          refine WL.val (Yl.move (v := .int .i64 a0) ho20) ?_
          refine WL.val (Yl.move (v := .int .i64 a1) ho21) ?_
          refine WL.val (Yl.move (v := .slice A1 n3 c2) ho22) ?_
          refine WL.val (Yl.loadVA (g := g10) (off := 0) (o := 0) (cs := a3.map (Value.int .u8)) (us := a3.map (Value.int .u8)) ho23 Tryd.underlying33 rfl (sz_of sz33 (by first | (simp only [List.length_append, List.length_map, List.length_cons, List.length_nil, ha8]; done) | simp [ha8])) (Ctx.sub_of [CH.row g14 0 (a4.map (Value.int .u8))] [] C25) (take_all _)) ?_
          obtain ⟨⟨r84, r85, r86⟩, hg83, H⟩ := bindE H
          refine WL.call (args := #[.int .i64 a0, .int .i64 a1, .bool true, .slice A1 n3 c2, .agg (List.toArray (a3.map (Value.int .u8)))]) (Yenter.fn Tryd.func63 (by kernel_rfl) rfl (argsE (.cons rfl (.cons rfl (.cons rfl (.cons rfl (.cons rfl .nil))))))) (juratref08_leads.calls k _ F a0 a1 true A1 c2 n3 a2 a3 (Ctx.pre (qs := []) (rest := [CH.row g14 0 (a4.map (Value.int .u8)), CH.row g10 0 (a3.map (Value.int .u8))]) C25) hn4 hl5 hm6 hS7 ha8 (CH.le_trans hG0 (CH.le_trans (CH.le_refl _) (CH.le_refl _))) (CH.le_trans hG2 (CH.le_trans (CH.le_refl _) (CH.le_refl _))) r84 r85 r86 hg83) ?_
          rintro e_ w_ ⟨rfl, C89, ha87, ha88⟩
          refine ⟨_, rfl, ?_⟩
          have C90 : Ctx _ _ _ _ F [CH.row g14 0 (a4.map (Value.int .u8)), CH.row g10 0 (a3.map (Value.int .u8))] := Ctx.call (qs := []) (rest := [CH.row g14 0 (a4.map (Value.int .u8)), CH.row g10 0 (a3.map (Value.int .u8))]) C25 C89
          refine WL.val (Yl.move (v := .tuple #[(.agg (List.toArray (r84.map (Value.int .u8)))), (.agg (List.toArray (r85.map (Value.int .u8)))), (.bool r86)]) rfl) ?_
          refine WL.val (Yl.extract (v := .agg (List.toArray (r84.map (Value.int .u8)))) rfl rfl) ?_
          refine WL.val (Yl.extract (v := .agg (List.toArray (r85.map (Value.int .u8)))) rfl rfl) ?_
          refine WL.val (Yl.extract (v := .bool r86) rfl rfl) ?_
          obtain ⟨g91, w92, hy93, C94⟩ := ev_alloc (P := Tryd.prog) (e := 33) ((List.replicate 32 (0 : Int)).map (Value.int .u8)) C90 zr33 rfl
          refine WL.val (hy93 _ _) ?_
          obtain ⟨g95, w96, hy97, C98⟩ := ev_alloc (P := Tryd.prog) (e := 33) ((List.replicate 32 (0 : Int)).map (Value.int .u8)) C94 zr33 rfl
          refine WL.val (hy97 _ _) ?_
          obtain ⟨w99, hy100, C101⟩ := ev_set (P := Tryd.prog) (ps1 := [CH.row g95 0 ((List.replicate 32 (0 : Int)).map (Value.int .u8))]) (ps2 := [CH.row g14 0 (a4.map (Value.int .u8)), CH.row g10 0 (a3.map (Value.int .u8))]) (t := 33) (o := 0) ((List.replicate 32 (0 : Int)).map (Value.int .u8)) [] ((List.replicate 32 (0 : Int)).map (Value.int .u8)) [] (r84.map (Value.int .u8)) (.agg (List.toArray (r84.map (Value.int .u8)))) C98 (by first | (simp only [List.length_append, List.length_map, List.length_cons, List.length_nil, (List.length_replicate ..), ha87]; done) | simp [(List.length_replicate ..), ha87]) (by first | (simp only [List.length_append, List.length_map, List.length_cons, List.length_nil, (List.length_replicate ..), ha87]; done) | simp [(List.length_replicate ..), ha87]) (by first | (simp only [List.length_append, List.length_map, List.length_cons, List.length_nil, (List.length_replicate ..), ha87]; done) | simp [(List.length_replicate ..), ha87]) rfl (one_ints _ _) (sz_of sz33 (by first | (simp only [List.length_append, List.length_map, List.length_cons, List.length_nil, ha87]; done) | simp [ha87]))
          have C102 : Ctx _ _ _ _ F [CH.row g95 0 ((List.replicate 32 (0 : Int)).map (Value.int .u8)), CH.row g91 0 (r84.map (Value.int .u8)), CH.row g14 0 (a4.map (Value.int .u8)), CH.row g10 0 (a3.map (Value.int .u8))] := (by simpa using C101)
          refine WL.skip (hy100 _ _ _ _ rfl rfl) ?_
          obtain ⟨w103, hy104, C105⟩ := ev_set (P := Tryd.prog) (ps1 := []) (ps2 := [CH.row g91 0 (r84.map (Value.int .u8)), CH.row g14 0 (a4.map (Value.int .u8)), CH.row g10 0 (a3.map (Value.int .u8))]) (t := 33) (o := 0) ((List.replicate 32 (0 : Int)).map (Value.int .u8)) [] ((List.replicate 32 (0 : Int)).map (Value.int .u8)) [] (r85.map (Value.int .u8)) (.agg (List.toArray (r85.map (Value.int .u8)))) C102 (by first | (simp only [List.length_append, List.length_map, List.length_cons, List.length_nil, (List.length_replicate ..), ha88]; done) | simp [(List.length_replicate ..), ha88]) (by first | (simp only [List.length_append, List.length_map, List.length_cons, List.length_nil, (List.length_replicate ..), ha88]; done) | simp [(List.length_replicate ..), ha88]) (by first | (simp only [List.length_append, List.length_map, List.length_cons, List.length_nil, (List.length_replicate ..), ha88]; done) | simp [(List.length_replicate ..), ha88]) rfl (one_ints _ _) (sz_of sz33 (by first | (simp only [List.length_append, List.length_map, List.length_cons, List.length_nil, ha88]; done) | simp [ha88]))
          have C106 : Ctx _ _ _ _ F [CH.row g95 0 (r85.map (Value.int .u8)), CH.row g91 0 (r84.map (Value.int .u8)), CH.row g14 0 (a4.map (Value.int .u8)), CH.row g10 0 (a3.map (Value.int .u8))] := (by simpa using C105)
          refine WL.skip (hy104 _ _ _ _ rfl rfl) ?_
          refine WL.val (Yl.assign (v := .bool r86) rfl) ?_
          refine WL.done ?_
          refine W.seq ?_
          refine W.region rfl ?_
          refine WL.val (Yl.move (v := .bool r86) rfl) ?_
          refine WL.val (Yl.move (v := .bool r86) rfl) ?_
          obtain ⟨g107, HE108, H⟩ := bindE H
          refine WL.cut (fun env_ w_ => env_ 10 = .bool g107 ∧ Ctx w F D w_ F [CH.row g95 0 (r85.map (Value.int .u8)), CH.row g91 0 (r84.map (Value.int .u8)), CH.row g14 0 (a4.map (Value.int .u8)), CH.row g10 0 (a3.map (Value.int .u8))]) ?_ ?_
          · skip
            rcases iteE HE108 with ⟨hc109, HE108⟩ | ⟨hc109, HE108⟩
            · skip
              refine WL.on rfl (congrArg Value.bool hc109) ?_
              refine WL.val (Yl.loadVA (g := g91) (off := 0) (o := 0) (cs := r84.map (Value.int .u8)) (us := r84.map (Value.int .u8)) rfl Tryd.underlying33 rfl (sz_of sz33 (by first | (simp only [List.length_append, List.length_map, List.length_cons, List.length_nil, ha87]; done) | simp [ha87])) (Ctx.sub_of [CH.row g95 0 (r85.map (Value.int .u8))] [CH.row g14 0 (a4.map (Value.int .u8)), CH.row g10 0 (a3.map (Value.int .u8))] C106) (take_all _)) ?_
              refine WL.on rfl (congrArg Value.bool hc109) ?_
              refine WL.val (Yl.loadVA (g := g10) (off := 0) (o := 0) (cs := a3.map (Value.int .u8)) (us := a3.map (Value.int .u8)) ho23 Tryd.underlying33 rfl (sz_of sz33 (by first | (simp only [List.length_append, List.length_map, List.length_cons, List.length_nil, ha8]; done) | simp [ha8])) (Ctx.sub_of [CH.row g95 0 (r85.map (Value.int .u8)), CH.row g91 0 (r84.map (Value.int .u8)), CH.row g14 0 (a4.map (Value.int .u8))] [] C106) (take_all _)) ?_
              refine WL.on rfl (congrArg Value.bool hc109) ?_
              refine WL.val (Yl.aeql (n := 2) (xs := r84.map (Value.int .u8)) (ys := a3.map (Value.int .u8)) rfl rfl eg33 (EqV.arrI Tryd.underlying33 Tryd.underlying5 sz5 ha87 ha8) (by decide)) ?_
              refine WL.val (Yl.pickT (v := .bool (decide (r84 = a3))) (congrArg Value.bool hc109) rfl) ?_
              refine WL.val (Yl.move (v := .bool (decide (r84 = a3))) rfl) ?_
              rcases iteE HE108 with ⟨hc110, HE108⟩ | ⟨hc110, HE108⟩
              · skip
                refine WL.on rfl (congrArg Value.bool (decide_eq_true hc110)) ?_
                refine WL.val (Yl.loadVA (g := g95) (off := 0) (o := 0) (cs := r85.map (Value.int .u8)) (us := r85.map (Value.int .u8)) rfl Tryd.underlying33 rfl (sz_of sz33 (by first | (simp only [List.length_append, List.length_map, List.length_cons, List.length_nil, ha88]; done) | simp [ha88])) (Ctx.sub_of [] [CH.row g91 0 (r84.map (Value.int .u8)), CH.row g14 0 (a4.map (Value.int .u8)), CH.row g10 0 (a3.map (Value.int .u8))] C106) (take_all _)) ?_
                refine WL.on rfl (congrArg Value.bool (decide_eq_true hc110)) ?_
                refine WL.val (Yl.loadVA (g := g14) (off := 0) (o := 0) (cs := a4.map (Value.int .u8)) (us := a4.map (Value.int .u8)) ho24 Tryd.underlying33 rfl (sz_of sz33 (by first | (simp only [List.length_append, List.length_map, List.length_cons, List.length_nil, ha9]; done) | simp [ha9])) (Ctx.sub_of [CH.row g95 0 (r85.map (Value.int .u8)), CH.row g91 0 (r84.map (Value.int .u8))] [CH.row g10 0 (a3.map (Value.int .u8))] C106) (take_all _)) ?_
                refine WL.on rfl (congrArg Value.bool (decide_eq_true hc110)) ?_
                refine WL.val (Yl.aeql (n := 2) (xs := r85.map (Value.int .u8)) (ys := a4.map (Value.int .u8)) rfl rfl eg33 (EqV.arrI Tryd.underlying33 Tryd.underlying5 sz5 ha88 ha9) (by decide)) ?_
                refine WL.val (Yl.pickT (v := .bool (decide (r85 = a4))) (congrArg Value.bool (decide_eq_true hc110)) rfl) ?_
                refine WL.val (Yl.assign (v := .bool (decide (r85 = a4))) rfl) ?_
                cases HE108
                exact WL.done ⟨rfl, C106⟩
              · skip
                refine WL.off rfl (congrArg Value.bool (decide_eq_false hc110)) ?_
                refine WL.off rfl (congrArg Value.bool (decide_eq_false hc110)) ?_
                refine WL.off rfl (congrArg Value.bool (decide_eq_false hc110)) ?_
                refine WL.val (Yl.pickF (v := .bool false) (congrArg Value.bool (decide_eq_false hc110)) rfl) ?_
                refine WL.val (Yl.assign (v := .bool false) rfl) ?_
                cases HE108
                exact WL.done ⟨rfl, C106⟩
            · skip
              refine WL.off rfl (congrArg Value.bool (Bool.eq_false_iff.2 hc109)) ?_
              refine WL.off rfl (congrArg Value.bool (Bool.eq_false_iff.2 hc109)) ?_
              refine WL.off rfl (congrArg Value.bool (Bool.eq_false_iff.2 hc109)) ?_
              refine WL.val (Yl.pickF (v := .bool false) (congrArg Value.bool (Bool.eq_false_iff.2 hc109)) rfl) ?_
              refine WL.val (Yl.move (v := .bool false) rfl) ?_
              refine WL.off rfl rfl ?_
              refine WL.off rfl rfl ?_
              refine WL.off rfl rfl ?_
              refine WL.val (Yl.pickF (v := .bool false) rfl rfl) ?_
              refine WL.val (Yl.assign (v := .bool false) rfl) ?_
              cases HE108
              exact WL.done ⟨rfl, C106⟩
          · skip
            rintro env_ w_ ⟨ho111, C112⟩
            refine W.ret ?_
            have C113 : Ctx _ _ _ _ F [CH.row g91 0 (r84.map (Value.int .u8)), CH.row g14 0 (a4.map (Value.int .u8)), CH.row g10 0 (a3.map (Value.int .u8))] := Ctx.drop [] [CH.row g91 0 (r84.map (Value.int .u8)), CH.row g14 0 (a4.map (Value.int .u8)), CH.row g10 0 (a3.map (Value.int .u8))] C112
            have C114 : Ctx _ _ _ _ F [CH.row g14 0 (a4.map (Value.int .u8)), CH.row g10 0 (a3.map (Value.int .u8))] := Ctx.drop [] [CH.row g14 0 (a4.map (Value.int .u8)), CH.row g10 0 (a3.map (Value.int .u8))] C113
            have C115 : Ctx _ _ _ _ F [CH.row g10 0 (a3.map (Value.int .u8))] := Ctx.drop [] [CH.row g10 0 (a3.map (Value.int .u8))] C114
            have C116 : Ctx _ _ _ _ F [] := Ctx.drop [] [] C115
            have e117 := Option.some.inj H
            subst e117
            exact post_r (resE1 rfl ho111) ⟨rfl, C116⟩
end Go.Proofs.YthdlfclkcdnenaaDoor
