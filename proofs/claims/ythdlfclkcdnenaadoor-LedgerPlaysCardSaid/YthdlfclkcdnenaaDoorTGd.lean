/- Functions of the program: each as a plain function of numbers and lists, and the proof that the program's own comes to it. Nothing is assumed but what each theorem says. -/
import Derived.Test.YthdlfclkcdnenaaDoorTGl
namespace Go.Proofs.YthdlfclkcdnenaaDoor
open Go.RowKit Go.WG
set_option linter.unusedVariables false
set_option linter.unusedSimpArgs false
def juratref08_Leaf.f (k : Nat) (a0 : List Int) : Option (List Int) := (juratref02_Join.f k [0] a0).bind fun r25 => (juratref02_Sum.f k r25).bind fun r39 => some r39
set_option maxRecDepth 100000 in
set_option maxHeartbeats 4000000 in
theorem juratref08_Leaf.calls (k : Nat) (w : World) (F : CH) (A1 : Option Addr) (c2 : Nat) (n3 : Nat) (a0 : List Int) (hp : Pre w F []) (hn4 : n3 = a0.length) (hl5 : a0.length ≤ c2) (hm6 : c2 ≤ maxLen) (hS7 : Sl (Kd.int .u8) F F A1 a0) (hG0 : CH.le (CH.row 0 0 (glob0.map (Value.int .u32))) F) (hG2 : CH.le (CH.row 2 0 (glob2.map (Value.int .u32))) F) (r0_ : List Int) (H : juratref08_Leaf.f k a0 = some r0_) :
    Calls Tryd.prog 28 #[.slice A1 n3 c2] w fun e w' => e = .returned (.agg (List.toArray (r0_.map (Value.int .u8)))) ∧ Ctx w F (domL []) w' F [] ∧ r0_.length = 32 := by
  have C := Ctx.start hp
  generalize hD : domL [] = D at C ⊢
  unfold juratref08_Leaf.f at H
  refine Calls.ofW Tryd.func28 rfl (by simp [Tryd.ntmps28]) ?_
  refine W.seq ?_
  refine W.region rfl ?_
  obtain ⟨g8, w9, hy10, C11⟩ := ev_alloc (P := Tryd.prog) (e := 33) ((List.replicate 32 (0 : Int)).map (Value.int .u8)) C zr33 rfl
  refine WL.val (hy10 _ _) ?_
  refine WL.done ?_
  refine W.seq ?_
  refine W.region rfl ?_
  obtain ⟨A12, c13, n14, p15, w16, hn17, hy18, C19, hR20⟩ := ev_lit1' (P := Tryd.prog) 5 (Kd.int .u8) C11 Tryd.underlying28 ti5 ⟨by decide, by decide⟩ 0 (.int .u8 0) rfl
  refine WL.val (hy18 _ _ _ rfl) ?_
  refine WL.val (Yl.move (v := .slice A1 n3 c2) rfl) ?_
  have le21 : CH.le F (CH.join F p15) := CH.le_joinL _ _
  have lp22 : CH.le p15 (CH.join F p15) := CH.le_joinR (Ctx.dis_of [] [CH.row g8 0 ((List.replicate 32 (0 : Int)).map (Value.int .u8))] C19)
  have C23 : Ctx _ _ _ _ (CH.join F p15) [CH.row g8 0 ((List.replicate 32 (0 : Int)).map (Value.int .u8))] := Ctx.freeze [] [CH.row g8 0 ((List.replicate 32 (0 : Int)).map (Value.int .u8))] C19
  obtain ⟨r25, hg24, H⟩ := bindE H
  refine WL.call (args := #[.slice A12 n14 c13, .slice A1 n3 c2]) (Yenter.fn Tryd.func55 (by kernel_rfl) rfl (argsE (.cons rfl (.cons rfl .nil)))) (juratref02_Join.calls k _ (CH.join F p15) A12 c13 n14 [0] A1 c2 n3 a0 (Ctx.pre (qs := []) (rest := [CH.row g8 0 ((List.replicate 32 (0 : Int)).map (Value.int .u8))]) C23) hn17 (Row.len_le hR20).1 (Row.len_le hR20).2.1 (Sl.mono (Row.sl hR20) le21 lp22) hn4 hl5 hm6 (Sl.mono hS7 le21 le21) r25 hg24) ?_
  rintro e_ w_ ⟨A26, c27, n28, p30, rfl, C32, hn29, hR31⟩
  refine ⟨_, rfl, ?_⟩
  have hR33 : Row (Kd.int .u8) F p30 (.slice A26 n28 c27) r25 := hR31
  have C34 : Ctx _ _ _ _ F [p30, p15, CH.row g8 0 ((List.replicate 32 (0 : Int)).map (Value.int .u8))] := Ctx.callL (qs := []) (rest := [p15, CH.row g8 0 ((List.replicate 32 (0 : Int)).map (Value.int .u8))]) C19 le21 C32
  have le35 : CH.le F (CH.join F p30) := CH.le_joinL _ _
  have lp36 : CH.le p30 (CH.join F p30) := CH.le_joinR (Ctx.dis_of [] [p15, CH.row g8 0 ((List.replicate 32 (0 : Int)).map (Value.int .u8))] C34)
  have C37 : Ctx _ _ _ _ (CH.join F p30) [p15, CH.row g8 0 ((List.replicate 32 (0 : Int)).map (Value.int .u8))] := Ctx.freeze [] [p15, CH.row g8 0 ((List.replicate 32 (0 : Int)).map (Value.int .u8))] C34
  obtain ⟨r39, hg38, H⟩ := bindE H
  refine WL.call (args := #[.slice A26 n28 c27]) (Yenter.fn Tryd.func51 (by kernel_rfl) rfl (argsE (.cons rfl .nil))) (juratref02_Sum.calls k _ (CH.join F p30) A26 c27 n28 r25 (Ctx.pre (qs := []) (rest := [p15, CH.row g8 0 ((List.replicate 32 (0 : Int)).map (Value.int .u8))]) C37) hn29 (Row.len_le hR33).1 (Row.len_le hR33).2.1 (Sl.mono (Row.sl hR33) le35 lp36) (CH.le_trans hG0 (CH.le_trans (CH.le_refl _) le35)) (CH.le_trans hG2 (CH.le_trans (CH.le_refl _) le35)) r39 hg38) ?_
  rintro e_ w_ ⟨rfl, C41, ha40⟩
  refine ⟨_, rfl, ?_⟩
  have C42 : Ctx _ _ _ _ F [p30, p15, CH.row g8 0 ((List.replicate 32 (0 : Int)).map (Value.int .u8))] := Ctx.callL (qs := []) (rest := [p30, p15, CH.row g8 0 ((List.replicate 32 (0 : Int)).map (Value.int .u8))]) C34 le35 C41
  obtain ⟨w43, hy44, C45⟩ := ev_set (P := Tryd.prog) (ps1 := [p30, p15]) (ps2 := []) (t := 33) (o := 0) ((List.replicate 32 (0 : Int)).map (Value.int .u8)) [] ((List.replicate 32 (0 : Int)).map (Value.int .u8)) [] (r39.map (Value.int .u8)) (.agg (List.toArray (r39.map (Value.int .u8)))) C42 (by first | (simp only [List.length_append, List.length_map, List.length_cons, List.length_nil, (List.length_replicate ..), ha40]; done) | simp [(List.length_replicate ..), ha40]) (by first | (simp only [List.length_append, List.length_map, List.length_cons, List.length_nil, (List.length_replicate ..), ha40]; done) | simp [(List.length_replicate ..), ha40]) (by first | (simp only [List.length_append, List.length_map, List.length_cons, List.length_nil, (List.length_replicate ..), ha40]; done) | simp [(List.length_replicate ..), ha40]) rfl (one_ints _ _) (sz_of sz33 (by first | (simp only [List.length_append, List.length_map, List.length_cons, List.length_nil, ha40]; done) | simp [ha40]))
  have C46 : Ctx _ _ _ _ F [p30, p15, CH.row g8 0 (r39.map (Value.int .u8))] := (by simpa using C45)
  refine WL.skip (hy44 _ _ _ _ rfl rfl) ?_
  refine WL.done ?_
  refine W.ret ?_
  have C47 : Ctx _ _ _ _ F [p15, CH.row g8 0 (r39.map (Value.int .u8))] := Ctx.drop [] [p15, CH.row g8 0 (r39.map (Value.int .u8))] C46
  have C48 : Ctx _ _ _ _ F [CH.row g8 0 (r39.map (Value.int .u8))] := Ctx.drop [] [CH.row g8 0 (r39.map (Value.int .u8))] C47
  have C49 : Ctx _ _ _ _ F [] := Ctx.drop [] [] C48
  have e50 := Option.some.inj H
  subst e50
  exact post_r (resEC rfl ((.cell rfl (run_loadVA2 (g := g8) (off := 0) (o := 0) (cs := r39.map (Value.int .u8)) (us := r39.map (Value.int .u8)) Tryd.underlying33 rfl (sz_of sz33 (by first | (simp only [List.length_append, List.length_map, List.length_cons, List.length_nil, ha40]; done) | simp [ha40])) (Ctx.sub_of [p30, p15] [] C46) (take_all _)) .nil))) ⟨rfl, C49, ha40⟩
def juratref08_Node.f (k : Nat) (a0 : List Int) (a1 : List Int) : Option (List Int) := (juratref03_Bytes.f k a0).bind fun r25 => if ([1].length + r25.length) * 1 ≤ 140737488355328 then ((juratref03_Bytes.f k a1).bind fun r46 => if (([1] ++ r25).length + r46.length) * 1 ≤ 140737488355328 then ((juratref02_Sum.f k (([1] ++ r25) ++ r46)).bind fun r70 => some r70) else none) else none
set_option maxRecDepth 100000 in
set_option maxHeartbeats 4000000 in
theorem juratref08_Node.calls (k : Nat) (w : World) (F : CH) (a0 : List Int) (a1 : List Int) (hp : Pre w F []) (ha1 : a0.length = 32) (ha2 : a1.length = 32) (hG0 : CH.le (CH.row 0 0 (glob0.map (Value.int .u32))) F) (hG2 : CH.le (CH.row 2 0 (glob2.map (Value.int .u32))) F) (r0_ : List Int) (H : juratref08_Node.f k a0 a1 = some r0_) :
    Calls Tryd.prog 26 #[.agg (List.toArray (a0.map (Value.int .u8))), .agg (List.toArray (a1.map (Value.int .u8)))] w fun e w' => e = .returned (.agg (List.toArray (r0_.map (Value.int .u8)))) ∧ Ctx w F (domL []) w' F [] ∧ r0_.length = 32 := by
  have C := Ctx.start hp
  generalize hD : domL [] = D at C ⊢
  unfold juratref08_Node.f at H
  refine Calls.ofW Tryd.func26 rfl (by simp [Tryd.ntmps26]) ?_
  refine W.seq ?_
  refine W.region rfl ?_
  obtain ⟨g3, w4, hy5, C6⟩ := ev_box (P := Tryd.prog) 33 (.agg (List.toArray (a0.map (Value.int .u8)))) (a0.map (Value.int .u8)) C rfl
  refine WL.val (hy5 _ _ _ rfl) ?_
  obtain ⟨g7, w8, hy9, C10⟩ := ev_box (P := Tryd.prog) 33 (.agg (List.toArray (a1.map (Value.int .u8)))) (a1.map (Value.int .u8)) C6 rfl
  refine WL.val (hy9 _ _ _ rfl) ?_
  obtain ⟨g11, w12, hy13, C14⟩ := ev_alloc (P := Tryd.prog) (e := 33) ((List.replicate 32 (0 : Int)).map (Value.int .u8)) C10 zr33 rfl
  refine WL.val (hy13 _ _) ?_
  refine WL.done ?_
  refine W.seq ?_
  refine W.region rfl ?_
  obtain ⟨A15, c16, n17, p18, w19, hn20, hy21, C22, hR23⟩ := ev_lit1' (P := Tryd.prog) 5 (Kd.int .u8) C14 Tryd.underlying28 ti5 ⟨by decide, by decide⟩ 1 (.int .u8 1) rfl
  refine WL.val (hy21 _ _ _ rfl) ?_
  refine WL.val (Yl.assign (v := .slice A15 n17 c16) rfl) ?_
  refine WL.done ?_
  refine W.seq ?_
  refine W.region rfl ?_
  refine WL.val (Yl.move (v := .slice A15 n17 c16) rfl) ?_
  refine WL.val (Yl.loadVA (g := g3) (off := 0) (o := 0) (cs := a0.map (Value.int .u8)) (us := a0.map (Value.int .u8)) rfl Tryd.underlying33 rfl (sz_of sz33 (by first | (simp only [List.length_append, List.length_map, List.length_cons, List.length_nil, ha1]; done) | simp [ha1])) (Ctx.sub_of [p18, CH.row g11 0 ((List.replicate 32 (0 : Int)).map (Value.int .u8)), CH.row g7 0 (a1.map (Value.int .u8))] [] C22) (take_all _)) ?_
  obtain ⟨r25, hg24, H⟩ := bindE H
  refine WL.call (args := #[.agg (List.toArray (a0.map (Value.int .u8)))]) (Yenter.fn Tryd.func54 (by kernel_rfl) rfl (argsE (.cons rfl .nil))) (juratref03_Bytes.calls k _ F a0 (Ctx.pre (qs := []) (rest := [p18, CH.row g11 0 ((List.replicate 32 (0 : Int)).map (Value.int .u8)), CH.row g7 0 (a1.map (Value.int .u8)), CH.row g3 0 (a0.map (Value.int .u8))]) C22) ha1 r25 hg24) ?_
  rintro e_ w_ ⟨A26, c27, n28, p30, rfl, C32, hn29, hR31⟩
  refine ⟨_, rfl, ?_⟩
  have C33 : Ctx _ _ _ _ F [p30, p18, CH.row g11 0 ((List.replicate 32 (0 : Int)).map (Value.int .u8)), CH.row g7 0 (a1.map (Value.int .u8)), CH.row g3 0 (a0.map (Value.int .u8))] := Ctx.call (qs := []) (rest := [p18, CH.row g11 0 ((List.replicate 32 (0 : Int)).map (Value.int .u8)), CH.row g7 0 (a1.map (Value.int .u8)), CH.row g3 0 (a0.map (Value.int .u8))]) C22 C32
  obtain ⟨hc34, H⟩ := guardE H
  obtain ⟨A35, c36, n37, p38, w39, hn40, hy41, C42, hR43⟩ := ev_append' (P := Tryd.prog) (cb := c27) 5 (Kd.int .u8) [p30] [CH.row g11 0 ((List.replicate 32 (0 : Int)).map (Value.int .u8)), CH.row g7 0 (a1.map (Value.int .u8)), CH.row g3 0 (a0.map (Value.int .u8))] C33 hR23 hn29 (Row.sl hR31) (Ctx.sub_of [] [p18, CH.row g11 0 ((List.replicate 32 (0 : Int)).map (Value.int .u8)), CH.row g7 0 (a1.map (Value.int .u8)), CH.row g3 0 (a0.map (Value.int .u8))] C33) Tryd.underlying28 ti5 rfl zo5 (by decide) (by decide) (by simpa using hc34)
  have C44 : Ctx _ _ _ _ F [p30, p38, CH.row g11 0 ((List.replicate 32 (0 : Int)).map (Value.int .u8)), CH.row g7 0 (a1.map (Value.int .u8)), CH.row g3 0 (a0.map (Value.int .u8))] := C42
  refine WL.val (hy41 _ _ _ _ rfl rfl) ?_
  refine WL.val (Yl.assign (v := .slice A35 n37 c36) rfl) ?_
  refine WL.done ?_
  refine W.seq ?_
  refine W.region rfl ?_
  refine WL.val (Yl.move (v := .slice A35 n37 c36) rfl) ?_
  refine WL.val (Yl.loadVA (g := g7) (off := 0) (o := 0) (cs := a1.map (Value.int .u8)) (us := a1.map (Value.int .u8)) rfl Tryd.underlying33 rfl (sz_of sz33 (by first | (simp only [List.length_append, List.length_map, List.length_cons, List.length_nil, ha2]; done) | simp [ha2])) (Ctx.sub_of [p30, p38, CH.row g11 0 ((List.replicate 32 (0 : Int)).map (Value.int .u8))] [CH.row g3 0 (a0.map (Value.int .u8))] C44) (take_all _)) ?_
  obtain ⟨r46, hg45, H⟩ := bindE H
  refine WL.call (args := #[.agg (List.toArray (a1.map (Value.int .u8)))]) (Yenter.fn Tryd.func54 (by kernel_rfl) rfl (argsE (.cons rfl .nil))) (juratref03_Bytes.calls k _ F a1 (Ctx.pre (qs := []) (rest := [p30, p38, CH.row g11 0 ((List.replicate 32 (0 : Int)).map (Value.int .u8)), CH.row g7 0 (a1.map (Value.int .u8)), CH.row g3 0 (a0.map (Value.int .u8))]) C44) ha2 r46 hg45) ?_
  rintro e_ w_ ⟨A47, c48, n49, p51, rfl, C53, hn50, hR52⟩
  refine ⟨_, rfl, ?_⟩
  have C54 : Ctx _ _ _ _ F [p51, p30, p38, CH.row g11 0 ((List.replicate 32 (0 : Int)).map (Value.int .u8)), CH.row g7 0 (a1.map (Value.int .u8)), CH.row g3 0 (a0.map (Value.int .u8))] := Ctx.call (qs := []) (rest := [p30, p38, CH.row g11 0 ((List.replicate 32 (0 : Int)).map (Value.int .u8)), CH.row g7 0 (a1.map (Value.int .u8)), CH.row g3 0 (a0.map (Value.int .u8))]) C44 C53
  obtain ⟨hc55, H⟩ := guardE H
  obtain ⟨A56, c57, n58, p59, w60, hn61, hy62, C63, hR64⟩ := ev_append' (P := Tryd.prog) (cb := c48) 5 (Kd.int .u8) [p51, p30] [CH.row g11 0 ((List.replicate 32 (0 : Int)).map (Value.int .u8)), CH.row g7 0 (a1.map (Value.int .u8)), CH.row g3 0 (a0.map (Value.int .u8))] C54 hR43 hn50 (Row.sl hR52) (Ctx.sub_of [] [p30, p38, CH.row g11 0 ((List.replicate 32 (0 : Int)).map (Value.int .u8)), CH.row g7 0 (a1.map (Value.int .u8)), CH.row g3 0 (a0.map (Value.int .u8))] C54) Tryd.underlying28 ti5 rfl zo5 (by decide) (by decide) (by simpa using hc55)
  have C65 : Ctx _ _ _ _ F [p51, p30, p59, CH.row g11 0 ((List.replicate 32 (0 : Int)).map (Value.int .u8)), CH.row g7 0 (a1.map (Value.int .u8)), CH.row g3 0 (a0.map (Value.int .u8))] := C63
  refine WL.val (hy62 _ _ _ _ rfl rfl) ?_
  refine WL.val (Yl.assign (v := .slice A56 n58 c57) rfl) ?_
  refine WL.done ?_
  refine W.seq ?_
  refine W.region rfl ?_
  refine WL.val (Yl.move (v := .slice A56 n58 c57) rfl) ?_
  have le66 : CH.le F (CH.join F p59) := CH.le_joinL _ _
  have lp67 : CH.le p59 (CH.join F p59) := CH.le_joinR (Ctx.dis_of [p51, p30] [CH.row g11 0 ((List.replicate 32 (0 : Int)).map (Value.int .u8)), CH.row g7 0 (a1.map (Value.int .u8)), CH.row g3 0 (a0.map (Value.int .u8))] C65)
  have C68 : Ctx _ _ _ _ (CH.join F p59) [p51, p30, CH.row g11 0 ((List.replicate 32 (0 : Int)).map (Value.int .u8)), CH.row g7 0 (a1.map (Value.int .u8)), CH.row g3 0 (a0.map (Value.int .u8))] := Ctx.freeze [p51, p30] [CH.row g11 0 ((List.replicate 32 (0 : Int)).map (Value.int .u8)), CH.row g7 0 (a1.map (Value.int .u8)), CH.row g3 0 (a0.map (Value.int .u8))] C65
  obtain ⟨r70, hg69, H⟩ := bindE H
  refine WL.call (args := #[.slice A56 n58 c57]) (Yenter.fn Tryd.func51 (by kernel_rfl) rfl (argsE (.cons rfl .nil))) (juratref02_Sum.calls k _ (CH.join F p59) A56 c57 n58 (([1] ++ r25) ++ r46) (Ctx.pre (qs := []) (rest := [p51, p30, CH.row g11 0 ((List.replicate 32 (0 : Int)).map (Value.int .u8)), CH.row g7 0 (a1.map (Value.int .u8)), CH.row g3 0 (a0.map (Value.int .u8))]) C68) hn61 (Row.len_le hR64).1 (Row.len_le hR64).2.1 (Sl.mono (Row.sl hR64) le66 lp67) (CH.le_trans hG0 (CH.le_trans (CH.le_refl _) le66)) (CH.le_trans hG2 (CH.le_trans (CH.le_refl _) le66)) r70 hg69) ?_
  rintro e_ w_ ⟨rfl, C72, ha71⟩
  refine ⟨_, rfl, ?_⟩
  have C73 : Ctx _ _ _ _ F [p51, p30, p59, CH.row g11 0 ((List.replicate 32 (0 : Int)).map (Value.int .u8)), CH.row g7 0 (a1.map (Value.int .u8)), CH.row g3 0 (a0.map (Value.int .u8))] := Ctx.callL (qs := []) (rest := [p51, p30, p59, CH.row g11 0 ((List.replicate 32 (0 : Int)).map (Value.int .u8)), CH.row g7 0 (a1.map (Value.int .u8)), CH.row g3 0 (a0.map (Value.int .u8))]) C65 le66 C72
  obtain ⟨w74, hy75, C76⟩ := ev_set (P := Tryd.prog) (ps1 := [p51, p30, p59]) (ps2 := [CH.row g7 0 (a1.map (Value.int .u8)), CH.row g3 0 (a0.map (Value.int .u8))]) (t := 33) (o := 0) ((List.replicate 32 (0 : Int)).map (Value.int .u8)) [] ((List.replicate 32 (0 : Int)).map (Value.int .u8)) [] (r70.map (Value.int .u8)) (.agg (List.toArray (r70.map (Value.int .u8)))) C73 (by first | (simp only [List.length_append, List.length_map, List.length_cons, List.length_nil, (List.length_replicate ..), ha71]; done) | simp [(List.length_replicate ..), ha71]) (by first | (simp only [List.length_append, List.length_map, List.length_cons, List.length_nil, (List.length_replicate ..), ha71]; done) | simp [(List.length_replicate ..), ha71]) (by first | (simp only [List.length_append, List.length_map, List.length_cons, List.length_nil, (List.length_replicate ..), ha71]; done) | simp [(List.length_replicate ..), ha71]) rfl (one_ints _ _) (sz_of sz33 (by first | (simp only [List.length_append, List.length_map, List.length_cons, List.length_nil, ha71]; done) | simp [ha71]))
  have C77 : Ctx _ _ _ _ F [p51, p30, p59, CH.row g11 0 (r70.map (Value.int .u8)), CH.row g7 0 (a1.map (Value.int .u8)), CH.row g3 0 (a0.map (Value.int .u8))] := (by simpa using C76)
  refine WL.skip (hy75 _ _ _ _ rfl rfl) ?_
  refine WL.done ?_
  refine W.ret ?_
  have C78 : Ctx _ _ _ _ F [p30, p59, CH.row g11 0 (r70.map (Value.int .u8)), CH.row g7 0 (a1.map (Value.int .u8)), CH.row g3 0 (a0.map (Value.int .u8))] := Ctx.drop [] [p30, p59, CH.row g11 0 (r70.map (Value.int .u8)), CH.row g7 0 (a1.map (Value.int .u8)), CH.row g3 0 (a0.map (Value.int .u8))] C77
  have C79 : Ctx _ _ _ _ F [p59, CH.row g11 0 (r70.map (Value.int .u8)), CH.row g7 0 (a1.map (Value.int .u8)), CH.row g3 0 (a0.map (Value.int .u8))] := Ctx.drop [] [p59, CH.row g11 0 (r70.map (Value.int .u8)), CH.row g7 0 (a1.map (Value.int .u8)), CH.row g3 0 (a0.map (Value.int .u8))] C78
  have C80 : Ctx _ _ _ _ F [CH.row g11 0 (r70.map (Value.int .u8)), CH.row g7 0 (a1.map (Value.int .u8)), CH.row g3 0 (a0.map (Value.int .u8))] := Ctx.drop [] [CH.row g11 0 (r70.map (Value.int .u8)), CH.row g7 0 (a1.map (Value.int .u8)), CH.row g3 0 (a0.map (Value.int .u8))] C79
  have C81 : Ctx _ _ _ _ F [CH.row g7 0 (a1.map (Value.int .u8)), CH.row g3 0 (a0.map (Value.int .u8))] := Ctx.drop [] [CH.row g7 0 (a1.map (Value.int .u8)), CH.row g3 0 (a0.map (Value.int .u8))] C80
  have C82 : Ctx _ _ _ _ F [CH.row g3 0 (a0.map (Value.int .u8))] := Ctx.drop [] [CH.row g3 0 (a0.map (Value.int .u8))] C81
  have C83 : Ctx _ _ _ _ F [] := Ctx.drop [] [] C82
  have e84 := Option.some.inj H
  subst e84
  exact post_r (resEC rfl ((.cell rfl (run_loadVA2 (g := g11) (off := 0) (o := 0) (cs := r70.map (Value.int .u8)) (us := r70.map (Value.int .u8)) Tryd.underlying33 rfl (sz_of sz33 (by first | (simp only [List.length_append, List.length_map, List.length_cons, List.length_nil, ha71]; done) | simp [ha71])) (Ctx.sub_of [p51, p30, p59] [CH.row g7 0 (a1.map (Value.int .u8)), CH.row g3 0 (a0.map (Value.int .u8))] C77) (take_all _)) .nil))) ⟨rfl, C83, ha71⟩
def juratref08_split.l1 : Nat → Int → Int → Option Int
  | 0, _, _ => none
  | k + 1, a0, x16 => if x16 ≤ (wi64 ((wi64 (a0 - 1)).tdiv 2)) then (juratref08_split.l1 k a0 (wi64 (2 * x16))) else (some x16)
def juratref08_split.f (k : Nat) (a0 : Int) : Option Int := (juratref08_split.l1 k a0 1).bind fun x10 => some x10
set_option maxRecDepth 100000 in
set_option maxHeartbeats 4000000 in
theorem juratref08_split.calls (k : Nat) (w : World) (F : CH) (a0 : Int) (hp : Pre w F [])  (r0_ : Int) (H : juratref08_split.f k a0 = some r0_) :
    Calls Tryd.prog 52 #[.int .i64 a0] w fun e w' => e = .returned (.int .i64 r0_) ∧ (∃ n_, w' = w.drewN n_) := by
  have C := Ctx.start hp
  generalize domL [] = D at C
  have W0 : ∃ n_, w = w.drewN n_ := ⟨0, rfl⟩
  unfold juratref08_split.f at H
  refine Calls.ofW Tryd.func52 rfl (by simp [Tryd.ntmps52]) ?_
  refine W.seq ?_
  refine W.region rfl ?_
  refine WL.val (Yl.assign (v := .int .i64 0) rfl) ?_
  refine WL.done ?_
  refine W.seq ?_
  refine W.region rfl ?_
  refine WL.val (Yl.assign (v := .int .i64 1) rfl) ?_
  refine WL.done ?_
  refine W.seq ?_
  obtain ⟨x10, hX13, H⟩ := bindE H
  refine W.cutM (fun env_ w_ => env_ 3 = .int .i64 x10 ∧ Ctx w F D w_ F [] ∧ (∃ n_, w_ = w.drewN n_)) ?_ ?_
  · skip
    refine W.block ?_
    refine W.loop (fun g_ env_ w_ => ∃ (x16 : Int), env_ 0 = .int .i64 a0 ∧ env_ 3 = .int .i64 x16 ∧ Ctx w F D w_ F [] ∧ (∃ n_, w_ = w.drewN n_) ∧ juratref08_split.l1 g_ a0 x16 = some x10) k ⟨1, rfl, rfl, C, W0, hX13⟩ ?_
    clear hX13
    rintro g_ env_ w_ ⟨x16, ho14, ho15, C17, Wq18, hX13⟩
    rcases g_ with _ | k20
    · exact absurd hX13 (by simp [juratref08_split.l1])
    rw [juratref08_split.l1] at hX13
    refine W.seq ?_
    refine W.seq ?_
    refine W.region rfl ?_
    refine WL.val (Yl.move (v := .int .i64 x16) ho15) ?_
    refine WL.val (Yl.move (v := .int .i64 a0) ho14) ?_
    refine WL.val (Yl.sub (m := a0) (n := 1) (r := wi64 (a0 - 1)) rfl rfl rfl) ?_
    refine WL.val (Yl.quo (m := wi64 (a0 - 1)) (n := 2) (r := wi64 ((wi64 (a0 - 1)).tdiv 2)) rfl rfl (by decide) rfl) ?_
    refine WL.val (Yl.leq (m := x16) (n := wi64 ((wi64 (a0 - 1)).tdiv 2)) (q := decide (x16 ≤ (wi64 ((wi64 (a0 - 1)).tdiv 2)))) rfl rfl rfl) ?_
    refine WL.done ?_
    rcases iteE hX13 with ⟨hc21, hX13⟩ | ⟨hc21, hX13⟩
    · skip
      refine W.condT (congrArg Value.bool (decide_eq_true hc21)) ?_
      refine W.skip ?_
      refine W.block ?_
      refine W.region rfl ?_
      refine WL.val (Yl.move (v := .int .i64 x16) ho15) ?_
      refine WL.val (Yl.mul (m := 2) (n := x16) (r := wi64 (2 * x16)) rfl rfl rfl) ?_
      refine WL.val (Yl.assign (v := .int .i64 (wi64 (2 * x16))) rfl) ?_
      refine WL.done ?_
      refine inB_n ?_
      exact thenE_n ⟨k20, Nat.lt_succ_self _, wi64 (2 * x16), ho14, rfl, C17, Wq18, hX13⟩
    · skip
      refine W.condF (congrArg Value.bool (decide_eq_false hc21)) ?_
      refine W.exit ?_
      refine thenE_x ?_
      refine thenE_x ?_
      refine inB_here ?_
      cases hX13
      refine thenE_n ?_
      exact ⟨ho15, C17, Wq18⟩
  · skip
    rintro env_ w_ ⟨ho9, C11, Wq12⟩
    refine W.seq ?_
    refine W.region rfl ?_
    refine WL.val (Yl.move (v := .int .i64 x10) ho9) ?_
    refine WL.val (Yl.assign (v := .int .i64 x10) rfl) ?_
    refine WL.done ?_
    refine W.ret ?_
    have e22 := Option.some.inj H
    subst e22
    exact post_r (resE1 rfl rfl) ⟨rfl, Wq12⟩
def juratref08_Root.f : Nat → List (List Int) → Option (List Int)
  | 0, _ => none
  | k + 1, a0 => if (a0.length : Int) = 0 then ((juratref02_Sum.f k ([] : List Int)).bind fun r14 => some r14) else (if (a0.length : Int) = 1 then (if 0 ≤ (0 : Int) ∧ (0 : Int) < (a0.length : Int) then (some (a0.getD (0 : Int).toNat [])) else none) else ((juratref08_split.f k (a0.length : Int)).bind fun r41 => if 0 ≤ r41 ∧ r41 ≤ (a0.length : Int) then (if 0 ≤ r41 ∧ r41 ≤ (a0.length : Int) ∧ (a0.length : Int) ≤ (a0.length : Int) then ((juratref08_Root.f k (a0.take r41.toNat)).bind fun r91 => (juratref08_Root.f k (a0.drop r41.toNat)).bind fun r96 => (juratref08_Node.f k r91 r96).bind fun r101 => some r101) else none) else none))
set_option maxRecDepth 100000 in
set_option maxHeartbeats 4000000 in
theorem juratref08_Root.calls : ∀ (k : Nat) (w : World) (F : CH) (A1 : Option Addr) (c2 : Nat) (n3 : Nat) (a0 : List (List Int)) (hp : Pre w F []) (hn4 : n3 = a0.length) (hl5 : a0.length ≤ c2) (hm6 : c2 ≤ maxLen) (hS7 : Sl (Kd.arrI 32 .u8) F F A1 a0) (hG0 : CH.le (CH.row 0 0 (glob0.map (Value.int .u32))) F) (hG2 : CH.le (CH.row 2 0 (glob2.map (Value.int .u32))) F) (r0_ : List Int) (H : juratref08_Root.f k a0 = some r0_),
    Calls Tryd.prog 24 #[.slice A1 n3 c2] w fun e w' => e = .returned (.agg (List.toArray (r0_.map (Value.int .u8)))) ∧ Ctx w F (domL []) w' F [] ∧ r0_.length = 32 := by
  intro k
  induction k with
  | zero => intro w F A1 c2 n3 a0 hp hn4 hl5 hm6 hS7 hG0 hG2 r0_ H; exact absurd H (by simp [juratref08_Root.f])
  | succ k ih =>
    intro w F A1 c2 n3 a0 hp hn4 hl5 hm6 hS7 hG0 hG2 r0_ H
    have C := Ctx.start hp
    generalize hD : domL [] = D at C ⊢
    rw [juratref08_Root.f] at H
    refine Calls.ofW Tryd.func24 rfl (by simp [Tryd.ntmps24]) ?_
    refine W.seq ?_
    refine W.region rfl ?_
    obtain ⟨g8, w9, hy10, C11⟩ := ev_alloc (P := Tryd.prog) (e := 33) ((List.replicate 32 (0 : Int)).map (Value.int .u8)) C zr33 rfl
    refine WL.val (hy10 _ _) ?_
    refine WL.done ?_
    refine W.seq ?_
    refine W.seq ?_
    refine W.region rfl ?_
    refine WL.val (Yl.move (v := .slice A1 n3 c2) rfl) ?_
    refine WL.val (Yl.lenN (A := A1) (l := n3) (q := c2) (n := (a0.length : Int)) rfl Tryd.underlying31 (by omega)) ?_
    refine WL.val (Yl.eql (m := (a0.length : Int)) (n := 0) (q := decide ((a0.length : Int) = 0)) rfl rfl rfl) ?_
    refine WL.done ?_
    rcases iteE H with ⟨hc12, H⟩ | ⟨hc12, H⟩
    · skip
      refine W.condT (congrArg Value.bool (decide_eq_true hc12)) ?_
      refine W.seq ?_
      refine W.region rfl ?_
      obtain ⟨r14, hg13, H⟩ := bindE H
      refine WL.call (args := #[.slice none 0 0]) (Yenter.fn Tryd.func51 (by kernel_rfl) rfl (argsE (.cons rfl .nil))) (juratref02_Sum.calls k _ F none 0 0 ([] : List Int) (Ctx.pre (qs := []) (rest := [CH.row g8 0 ((List.replicate 32 (0 : Int)).map (Value.int .u8))]) C11) rfl (Nat.le_refl _) (Nat.zero_le _) (Sl.nil _ _ _ _) (CH.le_trans hG0 (CH.le_trans (CH.le_refl _) (CH.le_refl _))) (CH.le_trans hG2 (CH.le_trans (CH.le_refl _) (CH.le_refl _))) r14 hg13) ?_
      rintro e_ w_ ⟨rfl, C16, ha15⟩
      refine ⟨_, rfl, ?_⟩
      have C17 : Ctx _ _ _ _ F [CH.row g8 0 ((List.replicate 32 (0 : Int)).map (Value.int .u8))] := Ctx.call (qs := []) (rest := [CH.row g8 0 ((List.replicate 32 (0 : Int)).map (Value.int .u8))]) C11 C16
      obtain ⟨w18, hy19, C20⟩ := ev_set (P := Tryd.prog) (ps1 := []) (ps2 := []) (t := 33) (o := 0) ((List.replicate 32 (0 : Int)).map (Value.int .u8)) [] ((List.replicate 32 (0 : Int)).map (Value.int .u8)) [] (r14.map (Value.int .u8)) (.agg (List.toArray (r14.map (Value.int .u8)))) C17 (by first | (simp only [List.length_append, List.length_map, List.length_cons, List.length_nil, (List.length_replicate ..), ha15]; done) | simp [(List.length_replicate ..), ha15]) (by first | (simp only [List.length_append, List.length_map, List.length_cons, List.length_nil, (List.length_replicate ..), ha15]; done) | simp [(List.length_replicate ..), ha15]) (by first | (simp only [List.length_append, List.length_map, List.length_cons, List.length_nil, (List.length_replicate ..), ha15]; done) | simp [(List.length_replicate ..), ha15]) rfl (one_ints _ _) (sz_of sz33 (by first | (simp only [List.length_append, List.length_map, List.length_cons, List.length_nil, ha15]; done) | simp [ha15]))
      have C21 : Ctx _ _ _ _ F [CH.row g8 0 (r14.map (Value.int .u8))] := (by simpa using C20)
      refine WL.skip (hy19 _ _ _ _ rfl rfl) ?_
      refine WL.done ?_
      refine W.ret ?_
      refine thenE_r ?_
      have C22 : Ctx _ _ _ _ F [] := Ctx.drop [] [] C21
      have e23 := Option.some.inj H
      subst e23
      exact post_r (resEC rfl ((.cell rfl (run_loadVA2 (g := g8) (off := 0) (o := 0) (cs := r14.map (Value.int .u8)) (us := r14.map (Value.int .u8)) Tryd.underlying33 rfl (sz_of sz33 (by first | (simp only [List.length_append, List.length_map, List.length_cons, List.length_nil, ha15]; done) | simp [ha15])) (Ctx.sub_of [] [] C21) (take_all _)) .nil))) ⟨rfl, C22, ha15⟩
    · skip
      refine W.condF (congrArg Value.bool (decide_eq_false hc12)) ?_
      refine W.skip ?_
      refine W.seq ?_
      refine W.seq ?_
      refine W.region rfl ?_
      refine WL.val (Yl.move (v := .slice A1 n3 c2) rfl) ?_
      refine WL.val (Yl.lenN (A := A1) (l := n3) (q := c2) (n := (a0.length : Int)) rfl Tryd.underlying31 (by omega)) ?_
      refine WL.val (Yl.eql (m := (a0.length : Int)) (n := 1) (q := decide ((a0.length : Int) = 1)) rfl rfl rfl) ?_
      refine WL.done ?_
      rcases iteE H with ⟨hc24, H⟩ | ⟨hc24, H⟩
      · skip
        refine W.condT (congrArg Value.bool (decide_eq_true hc24)) ?_
        refine W.seq ?_
        refine W.region rfl ?_
        refine WL.val (Yl.move (v := .slice A1 n3 c2) rfl) ?_
        obtain ⟨hc25, H⟩ := guardE H
        obtain ⟨b26, of27, hA28, he29⟩ := hS7 (by omega)
        refine WL.val (Yl.elemAddr (i := 0) rfl rfl hA28 Tryd.underlying31 sz33 (by omega)) ?_
        obtain ⟨cs30, hr31, hx32⟩ := he29 (0 : Int).toNat _ (getD_some (d := []) (by omega))
        obtain ⟨rfl, ha33⟩ := hr31
        refine WL.val (Yl.loadAgg (cs := (a0.getD (0 : Int).toNat []).map (Value.int .u8)) rfl Tryd.underlying33 rfl (sz_of sz33 (by first | (simp only [List.length_append, List.length_map, List.length_cons, List.length_nil, ha33]; done) | simp [ha33])) (fun j u hu => by rw [add_of]; exact ((C11.fro)).cell (hx32 _ _ hu))) ?_
        obtain ⟨w34, hy35, C36⟩ := ev_set (P := Tryd.prog) (ps1 := []) (ps2 := []) (t := 33) (o := 0) ((List.replicate 32 (0 : Int)).map (Value.int .u8)) [] ((List.replicate 32 (0 : Int)).map (Value.int .u8)) [] ((a0.getD (0 : Int).toNat []).map (Value.int .u8)) (.agg (List.toArray ((a0.getD (0 : Int).toNat []).map (Value.int .u8)))) C11 (by first | (simp only [List.length_append, List.length_map, List.length_cons, List.length_nil, (List.length_replicate ..), ha33]; done) | simp [(List.length_replicate ..), ha33]) (by first | (simp only [List.length_append, List.length_map, List.length_cons, List.length_nil, (List.length_replicate ..), ha33]; done) | simp [(List.length_replicate ..), ha33]) (by first | (simp only [List.length_append, List.length_map, List.length_cons, List.length_nil, (List.length_replicate ..), ha33]; done) | simp [(List.length_replicate ..), ha33]) rfl (one_ints _ _) (sz_of sz33 (by first | (simp only [List.length_append, List.length_map, List.length_cons, List.length_nil, ha33]; done) | simp [ha33]))
        have C37 : Ctx _ _ _ _ F [CH.row g8 0 ((a0.getD (0 : Int).toNat []).map (Value.int .u8))] := (by simpa using C36)
        refine WL.skip (hy35 _ _ _ _ rfl rfl) ?_
        refine WL.done ?_
        refine W.ret ?_
        refine thenE_r ?_
        have C38 : Ctx _ _ _ _ F [] := Ctx.drop [] [] C37
        have e39 := Option.some.inj H
        subst e39
        exact post_r (resEC rfl ((.cell rfl (run_loadVA2 (g := g8) (off := 0) (o := 0) (cs := (a0.getD (0 : Int).toNat []).map (Value.int .u8)) (us := (a0.getD (0 : Int).toNat []).map (Value.int .u8)) Tryd.underlying33 rfl (sz_of sz33 (by first | (simp only [List.length_append, List.length_map, List.length_cons, List.length_nil, ha33]; done) | simp [ha33])) (Ctx.sub_of [] [] C37) (take_all _)) .nil))) ⟨rfl, C38, ha33⟩
      · skip
        refine W.condF (congrArg Value.bool (decide_eq_false hc24)) ?_
        refine W.skip ?_
        refine W.seq ?_
        refine W.region rfl ?_
        refine WL.val (Yl.move (v := .slice A1 n3 c2) rfl) ?_
        refine WL.val (Yl.lenN (A := A1) (l := n3) (q := c2) (n := (a0.length : Int)) rfl Tryd.underlying31 (by omega)) ?_
        obtain ⟨r41, hg40, H⟩ := bindE H
        refine WL.call (args := #[.int .i64 (a0.length : Int)]) (Yenter.fn Tryd.func52 (by kernel_rfl) rfl (argsE (.cons rfl .nil))) (juratref08_split.calls k _ F (a0.length : Int) C11.pre0  r41 hg40) ?_
        rintro e_ w_ ⟨rfl, ⟨m42, rfl⟩⟩
        refine ⟨_, rfl, ?_⟩
        have C43 := Ctx.drewN C11 m42
        refine WL.val (Yl.assign (v := .int .i64 r41) rfl) ?_
        refine WL.done ?_
        refine W.seq ?_
        refine W.regionA [] (by kernel_rfl) ?_
        have C76 := Ctx.drewN C43 1
        refine WA.take none [] 0 rfl (by kernel_rfl) (by kernel_rfl) (show _ = #[true, false, false, false, false, false, false, false, false, false] from rfl) trivial trivial (fun _ hC_ => Yl.move (v := .slice A1 n3 c2) rfl) ?_
        refine WA.take none [] 1 rfl (by kernel_rfl) (by kernel_rfl) (show _ = #[true, true, false, false, false, false, false, false, false, false] from rfl) trivial trivial (fun _ hC_ => Yl.move (v := .int .i64 r41) rfl) ?_
        obtain ⟨hc77, H⟩ := guardE H
        have hn78 : r41.toNat = (a0.take r41.toNat).length := by rw [List.length_take]; omega
        refine WA.take none [] 2 rfl (by kernel_rfl) (by kernel_rfl) (show _ = #[true, true, true, false, false, false, false, false, false, false] from rfl) trivial trivial (fun _ hC_ => Yl.sliceHi rfl Tryd.underlying31 sz33 rfl ⟨hc77.1, by omega⟩) ?_
        refine WA.take none [] 4 rfl (by kernel_rfl) (by kernel_rfl) (show _ = #[true, true, true, false, true, false, false, false, false, false] from rfl) trivial trivial (fun _ hC_ => Yl.move (v := .slice A1 n3 c2) rfl) ?_
        refine WA.take none [] 5 rfl (by kernel_rfl) (by kernel_rfl) (show _ = #[true, true, true, false, true, true, false, false, false, false] from rfl) trivial trivial (fun _ hC_ => Yl.move (v := .int .i64 r41) rfl) ?_
        obtain ⟨hc80, H⟩ := guardE H
        have hl89 : a0.length ≤ c2 ∧ c2 ≤ maxLen := ⟨hl5, hm6⟩
        obtain ⟨A81, c82, n83, hv84, hn85, hl86, hm87, hS88⟩ := Sl.cut hS7 (c := c2) hl89.2 r41.toNat a0.length c2 (by omega) (by omega) (by omega) (by omega)
        rw [List.take_length] at hn85 hl86 hS88
        refine WA.take none [] 6 rfl (by kernel_rfl) (by kernel_rfl) (show _ = #[true, true, true, false, true, true, true, false, false, false] from rfl) trivial trivial (fun _ hC_ => Yl.slice r41.toNat a0.length c2 rfl Tryd.underlying31 sz33 rfl (hn4).symm (OB.mk rfl (by omega)) (by simp) (by omega) (by omega) (by omega) hv84) ?_
        obtain ⟨r91, hg90, H⟩ := bindE H
        refine WA.up1 3 (by kernel_rfl) (Up.call (args := #[.slice A1 r41.toNat c2]) rfl (by kernel_rfl) (show _ = #[true, true, true, true, true, true, true, false, false, false] from rfl) (Yenter.fn Tryd.func24 (by kernel_rfl) rfl (argsE (.cons rfl .nil))) (ih _ F A1 c2 r41.toNat (a0.take r41.toNat) (Ctx.pre (qs := []) (rest := [CH.row g8 0 ((List.replicate 32 (0 : Int)).map (Value.int .u8))]) C76) hn78 (by rw [List.length_take]; omega) hm6 (Sl.take hS7 _) (CH.le_trans hG0 (CH.le_trans (CH.le_refl _) (CH.le_refl _))) (CH.le_trans hG2 (CH.le_trans (CH.le_refl _) (CH.le_refl _))) r91 hg90) ?_)
        rintro e_ w_ ⟨rfl, C93, ha92⟩
        have C94 : Ctx _ _ _ _ F [CH.row g8 0 ((List.replicate 32 (0 : Int)).map (Value.int .u8))] := Ctx.call (qs := []) (rest := [CH.row g8 0 ((List.replicate 32 (0 : Int)).map (Value.int .u8))]) C76 C93
        refine ⟨_, rfl, trivial, ?_⟩
        obtain ⟨r96, hg95, H⟩ := bindE H
        refine WA.up1 7 (by kernel_rfl) (Up.call (args := #[.slice A81 n83 c82]) rfl (by kernel_rfl) (show _ = #[true, true, true, true, true, true, true, true, false, false] from rfl) (Yenter.fn Tryd.func24 (by kernel_rfl) rfl (argsE (.cons rfl .nil))) (ih _ F A81 c82 n83 (a0.drop r41.toNat) (Ctx.pre (qs := []) (rest := [CH.row g8 0 ((List.replicate 32 (0 : Int)).map (Value.int .u8))]) C94) hn85 hl86 hm87 hS88 (CH.le_trans hG0 (CH.le_trans (CH.le_refl _) (CH.le_refl _))) (CH.le_trans hG2 (CH.le_trans (CH.le_refl _) (CH.le_refl _))) r96 hg95) ?_)
        rintro e_ w_ ⟨rfl, C98, ha97⟩
        have C99 : Ctx _ _ _ _ F [CH.row g8 0 ((List.replicate 32 (0 : Int)).map (Value.int .u8))] := Ctx.call (qs := []) (rest := [CH.row g8 0 ((List.replicate 32 (0 : Int)).map (Value.int .u8))]) C94 C98
        refine ⟨_, rfl, trivial, ?_⟩
        obtain ⟨r101, hg100, H⟩ := bindE H
        refine WA.up1 8 (by kernel_rfl) (Up.call (args := #[.agg (List.toArray (r91.map (Value.int .u8))), .agg (List.toArray (r96.map (Value.int .u8)))]) rfl (by kernel_rfl) (show _ = #[true, true, true, true, true, true, true, true, true, false] from rfl) (Yenter.fn Tryd.func26 (by kernel_rfl) rfl (argsE (.cons rfl (.cons rfl .nil)))) (juratref08_Node.calls k _ F r91 r96 (Ctx.pre (qs := []) (rest := [CH.row g8 0 ((List.replicate 32 (0 : Int)).map (Value.int .u8))]) C99) ha92 ha97 (CH.le_trans hG0 (CH.le_trans (CH.le_refl _) (CH.le_refl _))) (CH.le_trans hG2 (CH.le_trans (CH.le_refl _) (CH.le_refl _))) r101 hg100) ?_)
        rintro e_ w_ ⟨rfl, C103, ha102⟩
        have C104 : Ctx _ _ _ _ F [CH.row g8 0 ((List.replicate 32 (0 : Int)).map (Value.int .u8))] := Ctx.call (qs := []) (rest := [CH.row g8 0 ((List.replicate 32 (0 : Int)).map (Value.int .u8))]) C99 C103
        refine ⟨_, rfl, trivial, ?_⟩
        obtain ⟨w105, hy106, C107⟩ := ev_set (P := Tryd.prog) (ps1 := []) (ps2 := []) (t := 33) (o := 0) ((List.replicate 32 (0 : Int)).map (Value.int .u8)) [] ((List.replicate 32 (0 : Int)).map (Value.int .u8)) [] (r101.map (Value.int .u8)) (.agg (List.toArray (r101.map (Value.int .u8)))) C104 (by first | (simp only [List.length_append, List.length_map, List.length_cons, List.length_nil, (List.length_replicate ..), ha102]; done) | simp [(List.length_replicate ..), ha102]) (by first | (simp only [List.length_append, List.length_map, List.length_cons, List.length_nil, (List.length_replicate ..), ha102]; done) | simp [(List.length_replicate ..), ha102]) (by first | (simp only [List.length_append, List.length_map, List.length_cons, List.length_nil, (List.length_replicate ..), ha102]; done) | simp [(List.length_replicate ..), ha102]) rfl (one_ints _ _) (sz_of sz33 (by first | (simp only [List.length_append, List.length_map, List.length_cons, List.length_nil, ha102]; done) | simp [ha102]))
        have C108 : Ctx _ _ _ _ F [CH.row g8 0 (r101.map (Value.int .u8))] := (by simpa using C107)
        refine WA.up1 9 (by kernel_rfl) (Up.skip rfl (show _ = #[true, true, true, true, true, true, true, true, true, true] from rfl) (hy106 _ _ _ _ rfl rfl) trivial ?_)
        refine WA.done (by kernel_rfl) ?_
        refine W.ret ?_
        have C109 : Ctx _ _ _ _ F [] := Ctx.drop [] [] C108
        have e110 := Option.some.inj H
        subst e110
        exact post_r (resEC rfl ((.cell rfl (run_loadVA2 (g := g8) (off := 0) (o := 0) (cs := r101.map (Value.int .u8)) (us := r101.map (Value.int .u8)) Tryd.underlying33 rfl (sz_of sz33 (by first | (simp only [List.length_append, List.length_map, List.length_cons, List.length_nil, ha102]; done) | simp [ha102])) (Ctx.sub_of [] [] C108) (take_all _)) .nil))) ⟨rfl, C109, ha102⟩
def juratref08_include.f : Nat → List (List Int) → Int → Option (List (List Int))
  | 0, _, _ => none
  | k + 1, a0, a1 => if (a0.length : Int) = 1 then (some ([] : List (List Int))) else ((juratref08_split.f k (a0.length : Int)).bind fun r12 => if a1 < r12 then (if 0 ≤ r12 ∧ r12 ≤ (a0.length : Int) then ((juratref08_include.f k (a0.take r12.toNat) a1).bind fun r20 => if 0 ≤ r12 ∧ r12 ≤ (a0.length : Int) ∧ (a0.length : Int) ≤ (a0.length : Int) then ((juratref08_Root.f k (a0.drop r12.toNat)).bind fun r40 => if (r20.length + 1) * 32 ≤ 140737488355328 then (some (r20 ++ [r40])) else none) else none) else none) else (if 0 ≤ r12 ∧ r12 ≤ (a0.length : Int) ∧ (a0.length : Int) ≤ (a0.length : Int) then ((juratref08_include.f k (a0.drop r12.toNat) (wi64 (a1 - r12))).bind fun r77 => if 0 ≤ r12 ∧ r12 ≤ (a0.length : Int) then ((juratref08_Root.f k (a0.take r12.toNat)).bind fun r90 => if (r77.length + 1) * 32 ≤ 140737488355328 then (some (r77 ++ [r90])) else none) else none) else none))
set_option maxRecDepth 100000 in
set_option maxHeartbeats 4000000 in
theorem juratref08_include.calls : ∀ (k : Nat) (w : World) (F : CH) (A1 : Option Addr) (c2 : Nat) (n3 : Nat) (a0 : List (List Int)) (a1 : Int) (hp : Pre w F []) (hn4 : n3 = a0.length) (hl5 : a0.length ≤ c2) (hm6 : c2 ≤ maxLen) (hS7 : Sl (Kd.arrI 32 .u8) F F A1 a0) (hG0 : CH.le (CH.row 0 0 (glob0.map (Value.int .u32))) F) (hG2 : CH.le (CH.row 2 0 (glob2.map (Value.int .u32))) F) (r0_ : List (List Int)) (H : juratref08_include.f k a0 a1 = some r0_),
    Calls Tryd.prog 58 #[.slice A1 n3 c2, .int .i64 a1] w fun e w' => ∃ (A116 : Option Addr) (c117 : Nat) (n118 : Nat) (p120 : CH), e = .returned (.slice A116 n118 c117) ∧ Ctx w F (domL []) w' F [p120] ∧ n118 = r0_.length ∧ Row (Kd.arrI 32 .u8) F p120 (.slice A116 n118 c117) r0_ := by
  intro k
  induction k with
  | zero => intro w F A1 c2 n3 a0 a1 hp hn4 hl5 hm6 hS7 hG0 hG2 r0_ H; exact absurd H (by simp [juratref08_include.f])
  | succ k ih =>
    intro w F A1 c2 n3 a0 a1 hp hn4 hl5 hm6 hS7 hG0 hG2 r0_ H
    have C := Ctx.start hp
    generalize hD : domL [] = D at C ⊢
    rw [juratref08_include.f] at H
    refine Calls.ofW Tryd.func58 rfl (by simp [Tryd.ntmps58]) ?_
    refine W.seq ?_
    refine W.region rfl ?_
    refine WL.val (Yl.assign (v := .slice none 0 0) rfl) ?_
    refine WL.done ?_
    refine W.seq ?_
    refine W.seq ?_
    refine W.region rfl ?_
    refine WL.val (Yl.move (v := .slice A1 n3 c2) rfl) ?_
    refine WL.val (Yl.lenN (A := A1) (l := n3) (q := c2) (n := (a0.length : Int)) rfl Tryd.underlying31 (by omega)) ?_
    refine WL.val (Yl.eql (m := (a0.length : Int)) (n := 1) (q := decide ((a0.length : Int) = 1)) rfl rfl rfl) ?_
    refine WL.done ?_
    rcases iteE H with ⟨hc8, H⟩ | ⟨hc8, H⟩
    · skip
      refine W.condT (congrArg Value.bool (decide_eq_true hc8)) ?_
      refine W.seq ?_
      refine W.region rfl ?_
      refine WL.val (Yl.assign (v := .slice none 0 0) rfl) ?_
      refine WL.done ?_
      refine W.ret ?_
      refine thenE_r ?_
      have C9 : Ctx _ _ _ _ F [CH.emp] := Ctx.emp C
      have e10 := Option.some.inj H
      subst e10
      exact post_r (resE1 rfl rfl) ⟨none, 0, 0, CH.emp, rfl, C9, rfl, (Row.nil _ _)⟩
    · skip
      refine W.condF (congrArg Value.bool (decide_eq_false hc8)) ?_
      refine W.skip ?_
      refine W.seq ?_
      refine W.region rfl ?_
      refine WL.val (Yl.move (v := .slice A1 n3 c2) rfl) ?_
      refine WL.val (Yl.lenN (A := A1) (l := n3) (q := c2) (n := (a0.length : Int)) rfl Tryd.underlying31 (by omega)) ?_
      obtain ⟨r12, hg11, H⟩ := bindE H
      refine WL.call (args := #[.int .i64 (a0.length : Int)]) (Yenter.fn Tryd.func52 (by kernel_rfl) rfl (argsE (.cons rfl .nil))) (juratref08_split.calls k _ F (a0.length : Int) C.pre0  r12 hg11) ?_
      rintro e_ w_ ⟨rfl, ⟨m13, rfl⟩⟩
      refine ⟨_, rfl, ?_⟩
      have C14 := Ctx.drewN C m13
      refine WL.val (Yl.assign (v := .int .i64 r12) rfl) ?_
      refine WL.done ?_
      refine W.seq ?_
      refine W.seq ?_
      refine W.region rfl ?_
      refine WL.val (Yl.move (v := .int .i64 a1) rfl) ?_
      refine WL.val (Yl.move (v := .int .i64 r12) rfl) ?_
      refine WL.val (Yl.lss (m := a1) (n := r12) (q := decide (a1 < r12)) rfl rfl rfl) ?_
      refine WL.done ?_
      rcases iteE H with ⟨hc15, H⟩ | ⟨hc15, H⟩
      · skip
        refine W.condT (congrArg Value.bool (decide_eq_true hc15)) ?_
        refine W.seq ?_
        refine W.region rfl ?_
        refine WL.val (Yl.move (v := .slice A1 n3 c2) rfl) ?_
        refine WL.val (Yl.move (v := .int .i64 r12) rfl) ?_
        obtain ⟨hc16, H⟩ := guardE H
        have hn17 : r12.toNat = (a0.take r12.toNat).length := by rw [List.length_take]; omega
        refine WL.val (Yl.sliceHi rfl Tryd.underlying31 sz33 rfl ⟨hc16.1, by omega⟩) ?_
        refine WL.val (Yl.move (v := .int .i64 a1) rfl) ?_
        obtain ⟨r20, hg19, H⟩ := bindE H
        refine WL.call (args := #[.slice A1 r12.toNat c2, .int .i64 a1]) (Yenter.fn Tryd.func58 (by kernel_rfl) rfl (argsE (.cons rfl (.cons rfl .nil)))) (ih _ F A1 c2 r12.toNat (a0.take r12.toNat) a1 (Ctx.pre (qs := []) (rest := []) C14) hn17 (by rw [List.length_take]; omega) hm6 (Sl.take hS7 _) (CH.le_trans hG0 (CH.le_trans (CH.le_refl _) (CH.le_refl _))) (CH.le_trans hG2 (CH.le_trans (CH.le_refl _) (CH.le_refl _))) r20 hg19) ?_
        rintro e_ w_ ⟨A21, c22, n23, p25, rfl, C27, hn24, hR26⟩
        refine ⟨_, rfl, ?_⟩
        have C28 : Ctx _ _ _ _ F [p25] := Ctx.call (qs := []) (rest := []) C14 C27
        refine WL.val (Yl.assign (v := .slice A21 n23 c22) rfl) ?_
        refine WL.done ?_
        refine W.seq ?_
        refine W.region rfl ?_
        refine WL.val (Yl.move (v := .slice A21 n23 c22) rfl) ?_
        refine WL.val (Yl.move (v := .slice A1 n3 c2) rfl) ?_
        refine WL.val (Yl.move (v := .int .i64 r12) rfl) ?_
        obtain ⟨hc29, H⟩ := guardE H
        have hl38 : a0.length ≤ c2 ∧ c2 ≤ maxLen := ⟨hl5, hm6⟩
        obtain ⟨A30, c31, n32, hv33, hn34, hl35, hm36, hS37⟩ := Sl.cut hS7 (c := c2) hl38.2 r12.toNat a0.length c2 (by omega) (by omega) (by omega) (by omega)
        rw [List.take_length] at hn34 hl35 hS37
        refine WL.val (Yl.slice r12.toNat a0.length c2 rfl Tryd.underlying31 sz33 rfl (hn4).symm (OB.mk rfl (by omega)) (by simp) (by omega) (by omega) (by omega) hv33) ?_
        obtain ⟨r40, hg39, H⟩ := bindE H
        refine WL.call (args := #[.slice A30 n32 c31]) (Yenter.fn Tryd.func24 (by kernel_rfl) rfl (argsE (.cons rfl .nil))) (juratref08_Root.calls k _ F A30 c31 n32 (a0.drop r12.toNat) (Ctx.pre (qs := []) (rest := [p25]) C28) hn34 hl35 hm36 hS37 (CH.le_trans hG0 (CH.le_trans (CH.le_refl _) (CH.le_refl _))) (CH.le_trans hG2 (CH.le_trans (CH.le_refl _) (CH.le_refl _))) r40 hg39) ?_
        rintro e_ w_ ⟨rfl, C42, ha41⟩
        refine ⟨_, rfl, ?_⟩
        have C43 : Ctx _ _ _ _ F [p25] := Ctx.call (qs := []) (rest := [p25]) C28 C42
        obtain ⟨A44, c45, n46, p47, w48, hn49, hy50, C51, hR52⟩ := ev_lit1' (P := Tryd.prog) 33 (Kd.arrI 32 .u8) C43 Tryd.underlying31 ti33 ⟨by decide, by decide⟩ r40 (.agg (List.toArray (r40.map (Value.int .u8)))) ⟨rfl, ha41⟩
        refine WL.val (hy50 _ _ _ rfl) ?_
        obtain ⟨hc53, H⟩ := guardE H
        obtain ⟨A54, c55, n56, p57, w58, hn59, hy60, C61, hR62⟩ := ev_append' (P := Tryd.prog) (cb := c45) 33 (Kd.arrI 32 .u8) [p47] [] C51 hR26 hn49 (Row.sl hR52) (Ctx.sub_of [] [p25] C51) Tryd.underlying31 ti33 rfl zo33 (by decide) (by decide) (by simpa using hc53)
        have C63 : Ctx _ _ _ _ F [p47, p57] := C61
        refine WL.val (hy60 _ _ _ _ rfl rfl) ?_
        refine WL.val (Yl.assign (v := .slice A54 n56 c55) rfl) ?_
        refine WL.done ?_
        refine W.ret ?_
        refine thenE_r ?_
        have C64 : Ctx _ _ _ _ F [p57] := Ctx.drop [] [p57] C63
        have e65 := Option.some.inj H
        subst e65
        exact post_r (resE1 rfl rfl) ⟨A54, c55, n56, p57, rfl, C64, hn59, hR62⟩
      · skip
        refine W.condF (congrArg Value.bool (decide_eq_false hc15)) ?_
        refine W.skip ?_
        refine W.seq ?_
        refine W.region rfl ?_
        refine WL.val (Yl.move (v := .slice A1 n3 c2) rfl) ?_
        refine WL.val (Yl.move (v := .int .i64 r12) rfl) ?_
        obtain ⟨hc66, H⟩ := guardE H
        have hl75 : a0.length ≤ c2 ∧ c2 ≤ maxLen := ⟨hl5, hm6⟩
        obtain ⟨A67, c68, n69, hv70, hn71, hl72, hm73, hS74⟩ := Sl.cut hS7 (c := c2) hl75.2 r12.toNat a0.length c2 (by omega) (by omega) (by omega) (by omega)
        rw [List.take_length] at hn71 hl72 hS74
        refine WL.val (Yl.slice r12.toNat a0.length c2 rfl Tryd.underlying31 sz33 rfl (hn4).symm (OB.mk rfl (by omega)) (by simp) (by omega) (by omega) (by omega) hv70) ?_
        refine WL.val (Yl.move (v := .int .i64 a1) rfl) ?_
        refine WL.val (Yl.move (v := .int .i64 r12) rfl) ?_
        refine WL.val (Yl.sub (m := a1) (n := r12) (r := wi64 (a1 - r12)) rfl rfl rfl) ?_
        obtain ⟨r77, hg76, H⟩ := bindE H
        refine WL.call (args := #[.slice A67 n69 c68, .int .i64 (wi64 (a1 - r12))]) (Yenter.fn Tryd.func58 (by kernel_rfl) rfl (argsE (.cons rfl (.cons rfl .nil)))) (ih _ F A67 c68 n69 (a0.drop r12.toNat) (wi64 (a1 - r12)) (Ctx.pre (qs := []) (rest := []) C14) hn71 hl72 hm73 hS74 (CH.le_trans hG0 (CH.le_trans (CH.le_refl _) (CH.le_refl _))) (CH.le_trans hG2 (CH.le_trans (CH.le_refl _) (CH.le_refl _))) r77 hg76) ?_
        rintro e_ w_ ⟨A78, c79, n80, p82, rfl, C84, hn81, hR83⟩
        refine ⟨_, rfl, ?_⟩
        have C85 : Ctx _ _ _ _ F [p82] := Ctx.call (qs := []) (rest := []) C14 C84
        refine WL.val (Yl.assign (v := .slice A78 n80 c79) rfl) ?_
        refine WL.done ?_
        refine W.seq ?_
        refine W.region rfl ?_
        refine WL.val (Yl.move (v := .slice A78 n80 c79) rfl) ?_
        refine WL.val (Yl.move (v := .slice A1 n3 c2) rfl) ?_
        refine WL.val (Yl.move (v := .int .i64 r12) rfl) ?_
        obtain ⟨hc86, H⟩ := guardE H
        have hn87 : r12.toNat = (a0.take r12.toNat).length := by rw [List.length_take]; omega
        refine WL.val (Yl.sliceHi rfl Tryd.underlying31 sz33 rfl ⟨hc86.1, by omega⟩) ?_
        obtain ⟨r90, hg89, H⟩ := bindE H
        refine WL.call (args := #[.slice A1 r12.toNat c2]) (Yenter.fn Tryd.func24 (by kernel_rfl) rfl (argsE (.cons rfl .nil))) (juratref08_Root.calls k _ F A1 c2 r12.toNat (a0.take r12.toNat) (Ctx.pre (qs := []) (rest := [p82]) C85) hn87 (by rw [List.length_take]; omega) hm6 (Sl.take hS7 _) (CH.le_trans hG0 (CH.le_trans (CH.le_refl _) (CH.le_refl _))) (CH.le_trans hG2 (CH.le_trans (CH.le_refl _) (CH.le_refl _))) r90 hg89) ?_
        rintro e_ w_ ⟨rfl, C92, ha91⟩
        refine ⟨_, rfl, ?_⟩
        have C93 : Ctx _ _ _ _ F [p82] := Ctx.call (qs := []) (rest := [p82]) C85 C92
        obtain ⟨A94, c95, n96, p97, w98, hn99, hy100, C101, hR102⟩ := ev_lit1' (P := Tryd.prog) 33 (Kd.arrI 32 .u8) C93 Tryd.underlying31 ti33 ⟨by decide, by decide⟩ r90 (.agg (List.toArray (r90.map (Value.int .u8)))) ⟨rfl, ha91⟩
        refine WL.val (hy100 _ _ _ rfl) ?_
        obtain ⟨hc103, H⟩ := guardE H
        obtain ⟨A104, c105, n106, p107, w108, hn109, hy110, C111, hR112⟩ := ev_append' (P := Tryd.prog) (cb := c95) 33 (Kd.arrI 32 .u8) [p97] [] C101 hR83 hn99 (Row.sl hR102) (Ctx.sub_of [] [p82] C101) Tryd.underlying31 ti33 rfl zo33 (by decide) (by decide) (by simpa using hc103)
        have C113 : Ctx _ _ _ _ F [p97, p107] := C111
        refine WL.val (hy110 _ _ _ _ rfl rfl) ?_
        refine WL.val (Yl.assign (v := .slice A104 n106 c105) rfl) ?_
        refine WL.done ?_
        refine W.ret ?_
        have C114 : Ctx _ _ _ _ F [p107] := Ctx.drop [] [p107] C113
        have e115 := Option.some.inj H
        subst e115
        exact post_r (resE1 rfl rfl) ⟨A104, c105, n106, p107, rfl, C114, hn109, hR112⟩
def juratref08_Include.f (k : Nat) (a0 : List (List Int)) (a1 : Int) : Option ((List (List Int)) × Int) := (if a1 < 0 then (some (true)) else (some (decide (a1 ≥ (a0.length : Int))))).bind fun g8 => if g8 = true then (some (([] : List (List Int)), 1)) else ((juratref08_include.f k a0 a1).bind fun r20 => some (r20, 0))
set_option maxRecDepth 100000 in
set_option maxHeartbeats 4000000 in
theorem juratref08_Include.calls (k : Nat) (w : World) (F : CH) (A1 : Option Addr) (c2 : Nat) (n3 : Nat) (a0 : List (List Int)) (a1 : Int) (hp : Pre w F []) (hn4 : n3 = a0.length) (hl5 : a0.length ≤ c2) (hm6 : c2 ≤ maxLen) (hS7 : Sl (Kd.arrI 32 .u8) F F A1 a0) (hG0 : CH.le (CH.row 0 0 (glob0.map (Value.int .u32))) F) (hG2 : CH.le (CH.row 2 0 (glob2.map (Value.int .u32))) F) (r0_ : List (List Int)) (r1_ : Int) (H : juratref08_Include.f k a0 a1 = some (r0_, r1_)) :
    Calls Tryd.prog 30 #[.slice A1 n3 c2, .int .i64 a1] w fun e w' => ∃ (A31 : Option Addr) (c32 : Nat) (n33 : Nat) (p35 : CH), e = .returned (.tuple #[(.slice A31 n33 c32), (.int .i64 r1_)]) ∧ Ctx w F (domL []) w' F [p35] ∧ n33 = r0_.length ∧ Row (Kd.arrI 32 .u8) F p35 (.slice A31 n33 c32) r0_ := by
  have C := Ctx.start hp
  generalize hD : domL [] = D at C ⊢
  unfold juratref08_Include.f at H
  refine Calls.ofW Tryd.func30 rfl (by simp [Tryd.ntmps30]) ?_
  refine W.seq ?_
  refine W.region rfl ?_
  refine WL.val (Yl.assign (v := .slice none 0 0) rfl) ?_
  refine WL.val (Yl.assign (v := .int .i64 0) rfl) ?_
  refine WL.done ?_
  refine W.seq ?_
  refine W.seq ?_
  refine W.region rfl ?_
  refine WL.val (Yl.move (v := .int .i64 a1) rfl) ?_
  refine WL.val (Yl.lss (m := a1) (n := 0) (q := decide (a1 < 0)) rfl rfl rfl) ?_
  refine WL.val (Yl.move (v := .bool (decide (a1 < 0))) rfl) ?_
  obtain ⟨g8, HE9, H⟩ := bindE H
  refine WL.cut (fun env_ w_ => env_ 13 = .bool g8 ∧ env_ 0 = .slice A1 n3 c2 ∧ env_ 1 = .int .i64 a1 ∧ Ctx w F D w_ F []) ?_ ?_
  · skip
    rcases iteE HE9 with ⟨hc10, HE9⟩ | ⟨hc10, HE9⟩
    · skip
      refine WL.off rfl (congrArg Value.bool (decide_eq_true hc10)) ?_
      refine WL.off rfl (congrArg Value.bool (decide_eq_true hc10)) ?_
      refine WL.off rfl (congrArg Value.bool (decide_eq_true hc10)) ?_
      refine WL.off rfl (congrArg Value.bool (decide_eq_true hc10)) ?_
      refine WL.val (Yl.pickT (v := .bool true) (congrArg Value.bool (decide_eq_true hc10)) rfl) ?_
      cases HE9
      exact WL.done ⟨rfl, rfl, rfl, C⟩
    · skip
      refine WL.on rfl (congrArg Value.bool (decide_eq_false hc10)) ?_
      refine WL.val (Yl.move (v := .int .i64 a1) rfl) ?_
      refine WL.on rfl (congrArg Value.bool (decide_eq_false hc10)) ?_
      refine WL.val (Yl.move (v := .slice A1 n3 c2) rfl) ?_
      refine WL.on rfl (congrArg Value.bool (decide_eq_false hc10)) ?_
      refine WL.val (Yl.lenN (A := A1) (l := n3) (q := c2) (n := (a0.length : Int)) rfl Tryd.underlying31 (by omega)) ?_
      refine WL.on rfl (congrArg Value.bool (decide_eq_false hc10)) ?_
      refine WL.val (Yl.geq (m := a1) (n := (a0.length : Int)) (q := decide (a1 ≥ (a0.length : Int))) rfl rfl rfl) ?_
      refine WL.val (Yl.pickF (v := .bool (decide (a1 ≥ (a0.length : Int)))) (congrArg Value.bool (decide_eq_false hc10)) rfl) ?_
      cases HE9
      exact WL.done ⟨rfl, rfl, rfl, C⟩
  · skip
    rintro env_ w_ ⟨ho11, ho12, ho13, C14⟩
    rcases iteE H with ⟨hc15, H⟩ | ⟨hc15, H⟩
    · skip
      refine W.condT (ho11.trans (congrArg Value.bool hc15)) ?_
      refine W.seq ?_
      refine W.region rfl ?_
      refine WL.val (Yl.assign (v := .slice none 0 0) rfl) ?_
      refine WL.val (Yl.assign (v := .int .i64 1) rfl) ?_
      refine WL.done ?_
      refine W.ret ?_
      refine thenE_r ?_
      have C16 : Ctx _ _ _ _ F [CH.emp] := Ctx.emp C14
      simp only [Option.some.injEq, Prod.mk.injEq] at H
      obtain ⟨e17, e18⟩ := H
      subst e17 e18
      exact post_r (resE2 rfl rfl rfl) ⟨none, 0, 0, CH.emp, rfl, C16, rfl, (Row.nil _ _)⟩
    · skip
      refine W.condF (ho11.trans (congrArg Value.bool (Bool.eq_false_iff.2 hc15))) ?_
      refine W.skip ?_
      refine W.seq ?_
      refine W.region rfl ?_
      refine WL.val (Yl.move (v := .slice A1 n3 c2) ho12) ?_
      refine WL.val (Yl.move (v := .int .i64 a1) ho13) ?_
      obtain ⟨r20, hg19, H⟩ := bindE H
      refine WL.call (args := #[.slice A1 n3 c2, .int .i64 a1]) (Yenter.fn Tryd.func58 (by kernel_rfl) rfl (argsE (.cons rfl (.cons rfl .nil)))) (juratref08_include.calls k _ F A1 c2 n3 a0 a1 (Ctx.pre (qs := []) (rest := []) C14) hn4 hl5 hm6 hS7 (CH.le_trans hG0 (CH.le_trans (CH.le_refl _) (CH.le_refl _))) (CH.le_trans hG2 (CH.le_trans (CH.le_refl _) (CH.le_refl _))) r20 hg19) ?_
      rintro e_ w_ ⟨A21, c22, n23, p25, rfl, C27, hn24, hR26⟩
      refine ⟨_, rfl, ?_⟩
      have C28 : Ctx _ _ _ _ F [p25] := Ctx.call (qs := []) (rest := []) C14 C27
      refine WL.val (Yl.assign (v := .slice A21 n23 c22) rfl) ?_
      refine WL.val (Yl.assign (v := .int .i64 0) rfl) ?_
      refine WL.done ?_
      refine W.ret ?_
      simp only [Option.some.injEq, Prod.mk.injEq] at H
      obtain ⟨e29, e30⟩ := H
      subst e29 e30
      exact post_r (resE2 rfl rfl rfl) ⟨A21, c22, n23, p25, rfl, C28, hn24, hR26⟩
def juratref08_part.f : Nat → List (List Int) → Int → Bool → Option (List (List Int))
  | 0, _, _, _ => none
  | k + 1, a0, a1, a2 => if a1 = (a0.length : Int) then (if a2 = true then (some ([] : List (List Int))) else ((juratref08_Root.f k a0).bind fun r13 => some [r13])) else ((juratref08_split.f k (a0.length : Int)).bind fun r28 => if a1 ≤ r28 then (if 0 ≤ r28 ∧ r28 ≤ (a0.length : Int) then ((juratref08_part.f k (a0.take r28.toNat) a1 a2).bind fun r36 => if 0 ≤ r28 ∧ r28 ≤ (a0.length : Int) ∧ (a0.length : Int) ≤ (a0.length : Int) then ((juratref08_Root.f k (a0.drop r28.toNat)).bind fun r56 => if (r36.length + 1) * 32 ≤ 140737488355328 then (some (r36 ++ [r56])) else none) else none) else none) else (if 0 ≤ r28 ∧ r28 ≤ (a0.length : Int) ∧ (a0.length : Int) ≤ (a0.length : Int) then ((juratref08_part.f k (a0.drop r28.toNat) (wi64 (a1 - r28)) false).bind fun r93 => if 0 ≤ r28 ∧ r28 ≤ (a0.length : Int) then ((juratref08_Root.f k (a0.take r28.toNat)).bind fun r106 => if (r93.length + 1) * 32 ≤ 140737488355328 then (some (r93 ++ [r106])) else none) else none) else none))
set_option maxRecDepth 100000 in
set_option maxHeartbeats 4000000 in
theorem juratref08_part.calls : ∀ (k : Nat) (w : World) (F : CH) (A1 : Option Addr) (c2 : Nat) (n3 : Nat) (a0 : List (List Int)) (a1 : Int) (a2 : Bool) (hp : Pre w F []) (hn4 : n3 = a0.length) (hl5 : a0.length ≤ c2) (hm6 : c2 ≤ maxLen) (hS7 : Sl (Kd.arrI 32 .u8) F F A1 a0) (hG0 : CH.le (CH.row 0 0 (glob0.map (Value.int .u32))) F) (hG2 : CH.le (CH.row 2 0 (glob2.map (Value.int .u32))) F) (r0_ : List (List Int)) (H : juratref08_part.f k a0 a1 a2 = some r0_),
    Calls Tryd.prog 59 #[.slice A1 n3 c2, .int .i64 a1, .bool a2] w fun e w' => ∃ (A132 : Option Addr) (c133 : Nat) (n134 : Nat) (p136 : CH), e = .returned (.slice A132 n134 c133) ∧ Ctx w F (domL []) w' F [p136] ∧ n134 = r0_.length ∧ Row (Kd.arrI 32 .u8) F p136 (.slice A132 n134 c133) r0_ := by
  intro k
  induction k with
  | zero => intro w F A1 c2 n3 a0 a1 a2 hp hn4 hl5 hm6 hS7 hG0 hG2 r0_ H; exact absurd H (by simp [juratref08_part.f])
  | succ k ih =>
    intro w F A1 c2 n3 a0 a1 a2 hp hn4 hl5 hm6 hS7 hG0 hG2 r0_ H
    have C := Ctx.start hp
    generalize hD : domL [] = D at C ⊢
    rw [juratref08_part.f] at H
    refine Calls.ofW Tryd.func59 rfl (by simp [Tryd.ntmps59]) ?_
    refine W.seq ?_
    refine W.region rfl ?_
    refine WL.val (Yl.assign (v := .slice none 0 0) rfl) ?_
    refine WL.done ?_
    refine W.seq ?_
    refine W.seq ?_
    refine W.region rfl ?_
    refine WL.val (Yl.move (v := .int .i64 a1) rfl) ?_
    refine WL.val (Yl.move (v := .slice A1 n3 c2) rfl) ?_
    refine WL.val (Yl.lenN (A := A1) (l := n3) (q := c2) (n := (a0.length : Int)) rfl Tryd.underlying31 (by omega)) ?_
    refine WL.val (Yl.eql (m := a1) (n := (a0.length : Int)) (q := decide (a1 = (a0.length : Int))) rfl rfl rfl) ?_
    refine WL.done ?_
    rcases iteE H with ⟨hc8, H⟩ | ⟨hc8, H⟩
    · skip
      refine W.condT (congrArg Value.bool (decide_eq_true hc8)) ?_
      refine W.seq ?_
      refine W.seq ?_
      refine W.region rfl ?_
      refine WL.val (Yl.move (v := .bool a2) rfl) ?_
      refine WL.done ?_
      rcases iteE H with ⟨hc9, H⟩ | ⟨hc9, H⟩
      · skip
        refine W.condT (congrArg Value.bool hc9) ?_
        refine W.seq ?_
        refine W.region rfl ?_
        refine WL.val (Yl.assign (v := .slice none 0 0) rfl) ?_
        refine WL.done ?_
        refine W.ret ?_
        refine thenE_r ?_
        refine thenE_r ?_
        have C10 : Ctx _ _ _ _ F [CH.emp] := Ctx.emp C
        have e11 := Option.some.inj H
        subst e11
        exact post_r (resE1 rfl rfl) ⟨none, 0, 0, CH.emp, rfl, C10, rfl, (Row.nil _ _)⟩
      · skip
        refine W.condF (congrArg Value.bool (Bool.eq_false_iff.2 hc9)) ?_
        refine W.skip ?_
        refine W.seq ?_
        refine W.region rfl ?_
        refine WL.val (Yl.move (v := .slice A1 n3 c2) rfl) ?_
        obtain ⟨r13, hg12, H⟩ := bindE H
        refine WL.call (args := #[.slice A1 n3 c2]) (Yenter.fn Tryd.func24 (by kernel_rfl) rfl (argsE (.cons rfl .nil))) (juratref08_Root.calls k _ F A1 c2 n3 a0 (Ctx.pre (qs := []) (rest := []) C) hn4 hl5 hm6 hS7 (CH.le_trans hG0 (CH.le_trans (CH.le_refl _) (CH.le_refl _))) (CH.le_trans hG2 (CH.le_trans (CH.le_refl _) (CH.le_refl _))) r13 hg12) ?_
        rintro e_ w_ ⟨rfl, C15, ha14⟩
        refine ⟨_, rfl, ?_⟩
        have C16 : Ctx _ _ _ _ F [] := Ctx.call (qs := []) (rest := []) C C15
        obtain ⟨A17, c18, n19, p20, w21, hn22, hy23, C24, hR25⟩ := ev_lit1' (P := Tryd.prog) 33 (Kd.arrI 32 .u8) C16 Tryd.underlying31 ti33 ⟨by decide, by decide⟩ r13 (.agg (List.toArray (r13.map (Value.int .u8)))) ⟨rfl, ha14⟩
        refine WL.val (hy23 _ _ _ rfl) ?_
        refine WL.val (Yl.assign (v := .slice A17 n19 c18) rfl) ?_
        refine WL.done ?_
        refine W.ret ?_
        refine thenE_r ?_
        have e26 := Option.some.inj H
        subst e26
        exact post_r (resE1 rfl rfl) ⟨A17, c18, n19, p20, rfl, C24, hn22, hR25⟩
    · skip
      refine W.condF (congrArg Value.bool (decide_eq_false hc8)) ?_
      refine W.skip ?_
      refine W.seq ?_
      refine W.region rfl ?_
      refine WL.val (Yl.move (v := .slice A1 n3 c2) rfl) ?_
      refine WL.val (Yl.lenN (A := A1) (l := n3) (q := c2) (n := (a0.length : Int)) rfl Tryd.underlying31 (by omega)) ?_
      obtain ⟨r28, hg27, H⟩ := bindE H
      refine WL.call (args := #[.int .i64 (a0.length : Int)]) (Yenter.fn Tryd.func52 (by kernel_rfl) rfl (argsE (.cons rfl .nil))) (juratref08_split.calls k _ F (a0.length : Int) C.pre0  r28 hg27) ?_
      rintro e_ w_ ⟨rfl, ⟨m29, rfl⟩⟩
      refine ⟨_, rfl, ?_⟩
      have C30 := Ctx.drewN C m29
      refine WL.val (Yl.assign (v := .int .i64 r28) rfl) ?_
      refine WL.done ?_
      refine W.seq ?_
      refine W.seq ?_
      refine W.region rfl ?_
      refine WL.val (Yl.move (v := .int .i64 a1) rfl) ?_
      refine WL.val (Yl.move (v := .int .i64 r28) rfl) ?_
      refine WL.val (Yl.leq (m := a1) (n := r28) (q := decide (a1 ≤ r28)) rfl rfl rfl) ?_
      refine WL.done ?_
      rcases iteE H with ⟨hc31, H⟩ | ⟨hc31, H⟩
      · skip
        refine W.condT (congrArg Value.bool (decide_eq_true hc31)) ?_
        refine W.seq ?_
        refine W.region rfl ?_
        refine WL.val (Yl.move (v := .slice A1 n3 c2) rfl) ?_
        refine WL.val (Yl.move (v := .int .i64 r28) rfl) ?_
        obtain ⟨hc32, H⟩ := guardE H
        have hn33 : r28.toNat = (a0.take r28.toNat).length := by rw [List.length_take]; omega
        refine WL.val (Yl.sliceHi rfl Tryd.underlying31 sz33 rfl ⟨hc32.1, by omega⟩) ?_
        refine WL.val (Yl.move (v := .int .i64 a1) rfl) ?_
        refine WL.val (Yl.move (v := .bool a2) rfl) ?_
        obtain ⟨r36, hg35, H⟩ := bindE H
        refine WL.call (args := #[.slice A1 r28.toNat c2, .int .i64 a1, .bool a2]) (Yenter.fn Tryd.func59 (by kernel_rfl) rfl (argsE (.cons rfl (.cons rfl (.cons rfl .nil))))) (ih _ F A1 c2 r28.toNat (a0.take r28.toNat) a1 a2 (Ctx.pre (qs := []) (rest := []) C30) hn33 (by rw [List.length_take]; omega) hm6 (Sl.take hS7 _) (CH.le_trans hG0 (CH.le_trans (CH.le_refl _) (CH.le_refl _))) (CH.le_trans hG2 (CH.le_trans (CH.le_refl _) (CH.le_refl _))) r36 hg35) ?_
        rintro e_ w_ ⟨A37, c38, n39, p41, rfl, C43, hn40, hR42⟩
        refine ⟨_, rfl, ?_⟩
        have C44 : Ctx _ _ _ _ F [p41] := Ctx.call (qs := []) (rest := []) C30 C43
        refine WL.val (Yl.assign (v := .slice A37 n39 c38) rfl) ?_
        refine WL.done ?_
        refine W.seq ?_
        refine W.region rfl ?_
        refine WL.val (Yl.move (v := .slice A37 n39 c38) rfl) ?_
        refine WL.val (Yl.move (v := .slice A1 n3 c2) rfl) ?_
        refine WL.val (Yl.move (v := .int .i64 r28) rfl) ?_
        obtain ⟨hc45, H⟩ := guardE H
        have hl54 : a0.length ≤ c2 ∧ c2 ≤ maxLen := ⟨hl5, hm6⟩
        obtain ⟨A46, c47, n48, hv49, hn50, hl51, hm52, hS53⟩ := Sl.cut hS7 (c := c2) hl54.2 r28.toNat a0.length c2 (by omega) (by omega) (by omega) (by omega)
        rw [List.take_length] at hn50 hl51 hS53
        refine WL.val (Yl.slice r28.toNat a0.length c2 rfl Tryd.underlying31 sz33 rfl (hn4).symm (OB.mk rfl (by omega)) (by simp) (by omega) (by omega) (by omega) hv49) ?_
        obtain ⟨r56, hg55, H⟩ := bindE H
        refine WL.call (args := #[.slice A46 n48 c47]) (Yenter.fn Tryd.func24 (by kernel_rfl) rfl (argsE (.cons rfl .nil))) (juratref08_Root.calls k _ F A46 c47 n48 (a0.drop r28.toNat) (Ctx.pre (qs := []) (rest := [p41]) C44) hn50 hl51 hm52 hS53 (CH.le_trans hG0 (CH.le_trans (CH.le_refl _) (CH.le_refl _))) (CH.le_trans hG2 (CH.le_trans (CH.le_refl _) (CH.le_refl _))) r56 hg55) ?_
        rintro e_ w_ ⟨rfl, C58, ha57⟩
        refine ⟨_, rfl, ?_⟩
        have C59 : Ctx _ _ _ _ F [p41] := Ctx.call (qs := []) (rest := [p41]) C44 C58
        obtain ⟨A60, c61, n62, p63, w64, hn65, hy66, C67, hR68⟩ := ev_lit1' (P := Tryd.prog) 33 (Kd.arrI 32 .u8) C59 Tryd.underlying31 ti33 ⟨by decide, by decide⟩ r56 (.agg (List.toArray (r56.map (Value.int .u8)))) ⟨rfl, ha57⟩
        refine WL.val (hy66 _ _ _ rfl) ?_
        obtain ⟨hc69, H⟩ := guardE H
        obtain ⟨A70, c71, n72, p73, w74, hn75, hy76, C77, hR78⟩ := ev_append' (P := Tryd.prog) (cb := c61) 33 (Kd.arrI 32 .u8) [p63] [] C67 hR42 hn65 (Row.sl hR68) (Ctx.sub_of [] [p41] C67) Tryd.underlying31 ti33 rfl zo33 (by decide) (by decide) (by simpa using hc69)
        have C79 : Ctx _ _ _ _ F [p63, p73] := C77
        refine WL.val (hy76 _ _ _ _ rfl rfl) ?_
        refine WL.val (Yl.assign (v := .slice A70 n72 c71) rfl) ?_
        refine WL.done ?_
        refine W.ret ?_
        refine thenE_r ?_
        have C80 : Ctx _ _ _ _ F [p73] := Ctx.drop [] [p73] C79
        have e81 := Option.some.inj H
        subst e81
        exact post_r (resE1 rfl rfl) ⟨A70, c71, n72, p73, rfl, C80, hn75, hR78⟩
      · skip
        refine W.condF (congrArg Value.bool (decide_eq_false hc31)) ?_
        refine W.skip ?_
        refine W.seq ?_
        refine W.region rfl ?_
        refine WL.val (Yl.move (v := .slice A1 n3 c2) rfl) ?_
        refine WL.val (Yl.move (v := .int .i64 r28) rfl) ?_
        obtain ⟨hc82, H⟩ := guardE H
        have hl91 : a0.length ≤ c2 ∧ c2 ≤ maxLen := ⟨hl5, hm6⟩
        obtain ⟨A83, c84, n85, hv86, hn87, hl88, hm89, hS90⟩ := Sl.cut hS7 (c := c2) hl91.2 r28.toNat a0.length c2 (by omega) (by omega) (by omega) (by omega)
        rw [List.take_length] at hn87 hl88 hS90
        refine WL.val (Yl.slice r28.toNat a0.length c2 rfl Tryd.underlying31 sz33 rfl (hn4).symm (OB.mk rfl (by omega)) (by simp) (by omega) (by omega) (by omega) hv86) ?_
        refine WL.val (Yl.move (v := .int .i64 a1) rfl) ?_
        refine WL.val (Yl.move (v := .int .i64 r28) rfl) ?_
        refine WL.val (Yl.sub (m := a1) (n := r28) (r := wi64 (a1 - r28)) rfl rfl rfl) ?_
        obtain ⟨r93, hg92, H⟩ := bindE H
        refine WL.call (args := #[.slice A83 n85 c84, .int .i64 (wi64 (a1 - r28)), .bool false]) (Yenter.fn Tryd.func59 (by kernel_rfl) rfl (argsE (.cons rfl (.cons rfl (.cons rfl .nil))))) (ih _ F A83 c84 n85 (a0.drop r28.toNat) (wi64 (a1 - r28)) false (Ctx.pre (qs := []) (rest := []) C30) hn87 hl88 hm89 hS90 (CH.le_trans hG0 (CH.le_trans (CH.le_refl _) (CH.le_refl _))) (CH.le_trans hG2 (CH.le_trans (CH.le_refl _) (CH.le_refl _))) r93 hg92) ?_
        rintro e_ w_ ⟨A94, c95, n96, p98, rfl, C100, hn97, hR99⟩
        refine ⟨_, rfl, ?_⟩
        have C101 : Ctx _ _ _ _ F [p98] := Ctx.call (qs := []) (rest := []) C30 C100
        refine WL.val (Yl.assign (v := .slice A94 n96 c95) rfl) ?_
        refine WL.done ?_
        refine W.seq ?_
        refine W.region rfl ?_
        refine WL.val (Yl.move (v := .slice A94 n96 c95) rfl) ?_
        refine WL.val (Yl.move (v := .slice A1 n3 c2) rfl) ?_
        refine WL.val (Yl.move (v := .int .i64 r28) rfl) ?_
        obtain ⟨hc102, H⟩ := guardE H
        have hn103 : r28.toNat = (a0.take r28.toNat).length := by rw [List.length_take]; omega
        refine WL.val (Yl.sliceHi rfl Tryd.underlying31 sz33 rfl ⟨hc102.1, by omega⟩) ?_
        obtain ⟨r106, hg105, H⟩ := bindE H
        refine WL.call (args := #[.slice A1 r28.toNat c2]) (Yenter.fn Tryd.func24 (by kernel_rfl) rfl (argsE (.cons rfl .nil))) (juratref08_Root.calls k _ F A1 c2 r28.toNat (a0.take r28.toNat) (Ctx.pre (qs := []) (rest := [p98]) C101) hn103 (by rw [List.length_take]; omega) hm6 (Sl.take hS7 _) (CH.le_trans hG0 (CH.le_trans (CH.le_refl _) (CH.le_refl _))) (CH.le_trans hG2 (CH.le_trans (CH.le_refl _) (CH.le_refl _))) r106 hg105) ?_
        rintro e_ w_ ⟨rfl, C108, ha107⟩
        refine ⟨_, rfl, ?_⟩
        have C109 : Ctx _ _ _ _ F [p98] := Ctx.call (qs := []) (rest := [p98]) C101 C108
        obtain ⟨A110, c111, n112, p113, w114, hn115, hy116, C117, hR118⟩ := ev_lit1' (P := Tryd.prog) 33 (Kd.arrI 32 .u8) C109 Tryd.underlying31 ti33 ⟨by decide, by decide⟩ r106 (.agg (List.toArray (r106.map (Value.int .u8)))) ⟨rfl, ha107⟩
        refine WL.val (hy116 _ _ _ rfl) ?_
        obtain ⟨hc119, H⟩ := guardE H
        obtain ⟨A120, c121, n122, p123, w124, hn125, hy126, C127, hR128⟩ := ev_append' (P := Tryd.prog) (cb := c111) 33 (Kd.arrI 32 .u8) [p113] [] C117 hR99 hn115 (Row.sl hR118) (Ctx.sub_of [] [p98] C117) Tryd.underlying31 ti33 rfl zo33 (by decide) (by decide) (by simpa using hc119)
        have C129 : Ctx _ _ _ _ F [p113, p123] := C127
        refine WL.val (hy126 _ _ _ _ rfl rfl) ?_
        refine WL.val (Yl.assign (v := .slice A120 n122 c121) rfl) ?_
        refine WL.done ?_
        refine W.ret ?_
        have C130 : Ctx _ _ _ _ F [p123] := Ctx.drop [] [p123] C129
        have e131 := Option.some.inj H
        subst e131
        exact post_r (resE1 rfl rfl) ⟨A120, c121, n122, p123, rfl, C130, hn125, hR128⟩
def juratref08_Consist.f (k : Nat) (a0 : List (List Int)) (a1 : Int) : Option ((List (List Int)) × Int) := (if a1 < 0 then (some (true)) else (some (decide (a1 > (a0.length : Int))))).bind fun g8 => if g8 = true then (some (([] : List (List Int)), 1)) else ((if a1 = 0 then (some (true)) else (some (decide (a1 = (a0.length : Int))))).bind fun g19 => if g19 = true then (some (([] : List (List Int)), 0)) else ((juratref08_part.f k a0 a1 true).bind fun r31 => some (r31, 0)))
set_option maxRecDepth 100000 in
set_option maxHeartbeats 4000000 in
theorem juratref08_Consist.calls (k : Nat) (w : World) (F : CH) (A1 : Option Addr) (c2 : Nat) (n3 : Nat) (a0 : List (List Int)) (a1 : Int) (hp : Pre w F []) (hn4 : n3 = a0.length) (hl5 : a0.length ≤ c2) (hm6 : c2 ≤ maxLen) (hS7 : Sl (Kd.arrI 32 .u8) F F A1 a0) (hG0 : CH.le (CH.row 0 0 (glob0.map (Value.int .u32))) F) (hG2 : CH.le (CH.row 2 0 (glob2.map (Value.int .u32))) F) (r0_ : List (List Int)) (r1_ : Int) (H : juratref08_Consist.f k a0 a1 = some (r0_, r1_)) :
    Calls Tryd.prog 32 #[.slice A1 n3 c2, .int .i64 a1] w fun e w' => ∃ (A42 : Option Addr) (c43 : Nat) (n44 : Nat) (p46 : CH), e = .returned (.tuple #[(.slice A42 n44 c43), (.int .i64 r1_)]) ∧ Ctx w F (domL []) w' F [p46] ∧ n44 = r0_.length ∧ Row (Kd.arrI 32 .u8) F p46 (.slice A42 n44 c43) r0_ := by
  have C := Ctx.start hp
  generalize hD : domL [] = D at C ⊢
  unfold juratref08_Consist.f at H
  refine Calls.ofW Tryd.func32 rfl (by simp [Tryd.ntmps32]) ?_
  refine W.seq ?_
  refine W.region rfl ?_
  refine WL.val (Yl.assign (v := .slice none 0 0) rfl) ?_
  refine WL.val (Yl.assign (v := .int .i64 0) rfl) ?_
  refine WL.done ?_
  refine W.seq ?_
  refine W.seq ?_
  refine W.region rfl ?_
  refine WL.val (Yl.move (v := .int .i64 a1) rfl) ?_
  refine WL.val (Yl.lss (m := a1) (n := 0) (q := decide (a1 < 0)) rfl rfl rfl) ?_
  refine WL.val (Yl.move (v := .bool (decide (a1 < 0))) rfl) ?_
  obtain ⟨g8, HE9, H⟩ := bindE H
  refine WL.cut (fun env_ w_ => env_ 13 = .bool g8 ∧ env_ 0 = .slice A1 n3 c2 ∧ env_ 1 = .int .i64 a1 ∧ Ctx w F D w_ F []) ?_ ?_
  · skip
    rcases iteE HE9 with ⟨hc10, HE9⟩ | ⟨hc10, HE9⟩
    · skip
      refine WL.off rfl (congrArg Value.bool (decide_eq_true hc10)) ?_
      refine WL.off rfl (congrArg Value.bool (decide_eq_true hc10)) ?_
      refine WL.off rfl (congrArg Value.bool (decide_eq_true hc10)) ?_
      refine WL.off rfl (congrArg Value.bool (decide_eq_true hc10)) ?_
      refine WL.val (Yl.pickT (v := .bool true) (congrArg Value.bool (decide_eq_true hc10)) rfl) ?_
      cases HE9
      exact WL.done ⟨rfl, rfl, rfl, C⟩
    · skip
      refine WL.on rfl (congrArg Value.bool (decide_eq_false hc10)) ?_
      refine WL.val (Yl.move (v := .int .i64 a1) rfl) ?_
      refine WL.on rfl (congrArg Value.bool (decide_eq_false hc10)) ?_
      refine WL.val (Yl.move (v := .slice A1 n3 c2) rfl) ?_
      refine WL.on rfl (congrArg Value.bool (decide_eq_false hc10)) ?_
      refine WL.val (Yl.lenN (A := A1) (l := n3) (q := c2) (n := (a0.length : Int)) rfl Tryd.underlying31 (by omega)) ?_
      refine WL.on rfl (congrArg Value.bool (decide_eq_false hc10)) ?_
      refine WL.val (Yl.gtr (m := a1) (n := (a0.length : Int)) (q := decide (a1 > (a0.length : Int))) rfl rfl rfl) ?_
      refine WL.val (Yl.pickF (v := .bool (decide (a1 > (a0.length : Int)))) (congrArg Value.bool (decide_eq_false hc10)) rfl) ?_
      cases HE9
      exact WL.done ⟨rfl, rfl, rfl, C⟩
  · skip
    rintro env_ w_ ⟨ho11, ho12, ho13, C14⟩
    rcases iteE H with ⟨hc15, H⟩ | ⟨hc15, H⟩
    · skip
      refine W.condT (ho11.trans (congrArg Value.bool hc15)) ?_
      refine W.seq ?_
      refine W.region rfl ?_
      refine WL.val (Yl.assign (v := .slice none 0 0) rfl) ?_
      refine WL.val (Yl.assign (v := .int .i64 1) rfl) ?_
      refine WL.done ?_
      refine W.ret ?_
      refine thenE_r ?_
      have C16 : Ctx _ _ _ _ F [CH.emp] := Ctx.emp C14
      simp only [Option.some.injEq, Prod.mk.injEq] at H
      obtain ⟨e17, e18⟩ := H
      subst e17 e18
      exact post_r (resE2 rfl rfl rfl) ⟨none, 0, 0, CH.emp, rfl, C16, rfl, (Row.nil _ _)⟩
    · skip
      refine W.condF (ho11.trans (congrArg Value.bool (Bool.eq_false_iff.2 hc15))) ?_
      refine W.skip ?_
      refine W.seq ?_
      refine W.seq ?_
      refine W.region rfl ?_
      refine WL.val (Yl.move (v := .int .i64 a1) ho13) ?_
      refine WL.val (Yl.eql (m := a1) (n := 0) (q := decide (a1 = 0)) rfl rfl rfl) ?_
      refine WL.val (Yl.move (v := .bool (decide (a1 = 0))) rfl) ?_
      obtain ⟨g19, HE20, H⟩ := bindE H
      refine WL.cut (fun env_ w_ => env_ 21 = .bool g19 ∧ env_ 0 = .slice A1 n3 c2 ∧ env_ 1 = .int .i64 a1 ∧ Ctx w F D w_ F []) ?_ ?_
      · skip
        rcases iteE HE20 with ⟨hc21, HE20⟩ | ⟨hc21, HE20⟩
        · skip
          refine WL.off rfl (congrArg Value.bool (decide_eq_true hc21)) ?_
          refine WL.off rfl (congrArg Value.bool (decide_eq_true hc21)) ?_
          refine WL.off rfl (congrArg Value.bool (decide_eq_true hc21)) ?_
          refine WL.off rfl (congrArg Value.bool (decide_eq_true hc21)) ?_
          refine WL.val (Yl.pickT (v := .bool true) (congrArg Value.bool (decide_eq_true hc21)) rfl) ?_
          cases HE20
          exact WL.done ⟨rfl, ho12, ho13, C14⟩
        · skip
          refine WL.on rfl (congrArg Value.bool (decide_eq_false hc21)) ?_
          refine WL.val (Yl.move (v := .int .i64 a1) ho13) ?_
          refine WL.on rfl (congrArg Value.bool (decide_eq_false hc21)) ?_
          refine WL.val (Yl.move (v := .slice A1 n3 c2) ho12) ?_
          refine WL.on rfl (congrArg Value.bool (decide_eq_false hc21)) ?_
          refine WL.val (Yl.lenN (A := A1) (l := n3) (q := c2) (n := (a0.length : Int)) rfl Tryd.underlying31 (by omega)) ?_
          refine WL.on rfl (congrArg Value.bool (decide_eq_false hc21)) ?_
          refine WL.val (Yl.eql (m := a1) (n := (a0.length : Int)) (q := decide (a1 = (a0.length : Int))) rfl rfl rfl) ?_
          refine WL.val (Yl.pickF (v := .bool (decide (a1 = (a0.length : Int)))) (congrArg Value.bool (decide_eq_false hc21)) rfl) ?_
          cases HE20
          exact WL.done ⟨rfl, ho12, ho13, C14⟩
      · skip
        rintro env_ w_ ⟨ho22, ho23, ho24, C25⟩
        rcases iteE H with ⟨hc26, H⟩ | ⟨hc26, H⟩
        · skip
          refine W.condT (ho22.trans (congrArg Value.bool hc26)) ?_
          refine W.seq ?_
          refine W.region rfl ?_
          refine WL.val (Yl.assign (v := .slice none 0 0) rfl) ?_
          refine WL.val (Yl.assign (v := .int .i64 0) rfl) ?_
          refine WL.done ?_
          refine W.ret ?_
          refine thenE_r ?_
          have C27 : Ctx _ _ _ _ F [CH.emp] := Ctx.emp C25
          simp only [Option.some.injEq, Prod.mk.injEq] at H
          obtain ⟨e28, e29⟩ := H
          subst e28 e29
          exact post_r (resE2 rfl rfl rfl) ⟨none, 0, 0, CH.emp, rfl, C27, rfl, (Row.nil _ _)⟩
        · skip
          refine W.condF (ho22.trans (congrArg Value.bool (Bool.eq_false_iff.2 hc26))) ?_
          refine W.skip ?_
          refine W.seq ?_
          refine W.region rfl ?_
          refine WL.val (Yl.move (v := .slice A1 n3 c2) ho23) ?_
          refine WL.val (Yl.move (v := .int .i64 a1) ho24) ?_
          obtain ⟨r31, hg30, H⟩ := bindE H
          refine WL.call (args := #[.slice A1 n3 c2, .int .i64 a1, .bool true]) (Yenter.fn Tryd.func59 (by kernel_rfl) rfl (argsE (.cons rfl (.cons rfl (.cons rfl .nil))))) (juratref08_part.calls k _ F A1 c2 n3 a0 a1 true (Ctx.pre (qs := []) (rest := []) C25) hn4 hl5 hm6 hS7 (CH.le_trans hG0 (CH.le_trans (CH.le_refl _) (CH.le_refl _))) (CH.le_trans hG2 (CH.le_trans (CH.le_refl _) (CH.le_refl _))) r31 hg30) ?_
          rintro e_ w_ ⟨A32, c33, n34, p36, rfl, C38, hn35, hR37⟩
          refine ⟨_, rfl, ?_⟩
          have C39 : Ctx _ _ _ _ F [p36] := Ctx.call (qs := []) (rest := []) C25 C38
          refine WL.val (Yl.assign (v := .slice A32 n34 c33) rfl) ?_
          refine WL.val (Yl.assign (v := .int .i64 0) rfl) ?_
          refine WL.done ?_
          refine W.ret ?_
          simp only [Option.some.injEq, Prod.mk.injEq] at H
          obtain ⟨e40, e41⟩ := H
          subst e40 e41
          exact post_r (resE2 rfl rfl rfl) ⟨A32, c33, n34, p36, rfl, C39, hn35, hR37⟩
end Go.Proofs.YthdlfclkcdnenaaDoor
