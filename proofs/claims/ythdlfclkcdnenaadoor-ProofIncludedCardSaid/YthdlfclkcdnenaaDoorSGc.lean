/- Functions of the program: each as a plain function of numbers and lists, and the proof that the program's own comes to it. Nothing is assumed but what each theorem says. -/
import Derived.Test.YthdlfclkcdnenaaDoorSGj
namespace Go.Proofs.YthdlfclkcdnenaaDoor
open Go.RowKit Go.WG
set_option linter.unusedVariables false
set_option linter.unusedSimpArgs false
def proof_tagged.l1 : Nat → List (List Int) → Int → THash → Option THash
  | 0, _, _, _ => none
  | k + 1, a1, x206, x207 => if x206 < (a1.length : Int) then (if 0 ≤ x206 ∧ x206 < (a1.length : Int) then ((sha_Hash_Write.f k x207 (a1.getD x206.toNat [])).bind fun r261 => proof_tagged.l1 k a1 (wi64 (x206 + 1)) r261) else none) else (some x207)
def proof_tagged.f (k : Nat) (a0 : Int) (a1 : List (List Int)) : Option (List Int) := (sha_New.f k ).bind fun r13 => (sha_Hash_Write.f k r13 [a0]).bind fun r40 => (proof_tagged.l1 k a1 0 r40).bind fun x157 => (sha_Hash_Sum.f k x157).bind fun r278 => some r278
set_option maxRecDepth 100000 in
set_option maxHeartbeats 4000000 in
theorem proof_tagged.calls (k : Nat) (w : World) (F : CH) (a0 : Int) (A1 : Option Addr) (c2 : Nat) (n3 : Nat) (a1 : List (List Int)) (hp : Pre w F []) (hn4 : n3 = a1.length) (hl5 : a1.length ≤ c2) (hm6 : c2 ≤ maxLen) (hS7 : Sl (Kd.slice (Kd.int .u8)) F F A1 a1) (hG1 : CH.le (CH.row 1 0 (glob1.map (Value.int .u32))) F) (hG3 : CH.le (CH.row 3 0 (glob3.map (Value.int .u32))) F) (r0_ : List Int) (H : proof_tagged.f k a0 a1 = some r0_) :
    Calls Tryd.prog 53 #[.int .u8 a0, .slice A1 n3 c2] w fun e w' => e = .returned (.agg (List.toArray (r0_.map (Value.int .u8)))) ∧ Ctx w F (domL []) w' F [] ∧ r0_.length = 32 := by
  have C := Ctx.start hp
  generalize hD : domL [] = D at C ⊢
  unfold proof_tagged.f at H
  refine Calls.ofW Tryd.func53 rfl (by simp [Tryd.ntmps53]) ?_
  refine W.seq ?_
  refine W.region rfl ?_
  obtain ⟨g8, w9, hy10, C11⟩ := ev_alloc (P := Tryd.prog) (e := 33) ((List.replicate 32 (0 : Int)).map (Value.int .u8)) C zr33 rfl
  refine WL.val (hy10 _ _) ?_
  refine WL.done ?_
  refine W.seq ?_
  refine W.region rfl ?_
  obtain ⟨r13, hg12, H⟩ := bindE H
  refine WL.call (args := #[]) (Yenter.fn Tryd.func65 (by kernel_rfl) rfl (argsE .nil)) (sha_New.calls k _ F  (Ctx.pre (qs := []) (rest := [CH.row g8 0 ((List.replicate 32 (0 : Int)).map (Value.int .u8))]) C11) (CH.le_trans hG1 (CH.le_trans (CH.le_refl _) (CH.le_refl _))) r13 hg12) ?_
  rintro e_ w_ ⟨g14, o15, A17, c18, n19, p21, rfl, C23, ha16, hn20, hR22⟩
  refine ⟨_, rfl, ?_⟩
  have C24 : Ctx _ _ _ _ F [CH.row g14 o15 (r13.words.map (Value.int .u32) ++ [.slice A17 n19 c18, .int .i64 r13.n]), p21, CH.row g8 0 ((List.replicate 32 (0 : Int)).map (Value.int .u8))] := Ctx.call (qs := []) (rest := [CH.row g8 0 ((List.replicate 32 (0 : Int)).map (Value.int .u8))]) C11 C23
  refine WL.val (Yl.assign (v := .pointer (some ⟨g14, o15, none⟩)) rfl) ?_
  refine WL.done ?_
  refine W.seq ?_
  refine W.region rfl ?_
  refine WL.val (Yl.move (v := .pointer (some ⟨g14, o15, none⟩)) rfl) ?_
  refine WL.val (Yl.move (v := .int .u8 a0) rfl) ?_
  obtain ⟨A25, c26, n27, p28, w29, hn30, hy31, C32, hR33⟩ := ev_lit1' (P := Tryd.prog) 5 (Kd.int .u8) C24 Tryd.underlying28 ti5 ⟨by decide, by decide⟩ a0 (.int .u8 a0) rfl
  refine WL.val (hy31 _ _ _ rfl) ?_
  have C34 : Ctx _ _ _ _ F [CH.row g14 o15 (r13.words.map (Value.int .u32) ++ [.slice A17 n19 c18, .int .i64 r13.n]), p28, p21, CH.row g8 0 ((List.replicate 32 (0 : Int)).map (Value.int .u8))] := Ctx.swap [] [p21, CH.row g8 0 ((List.replicate 32 (0 : Int)).map (Value.int .u8))] C32
  have C35 : Ctx _ _ _ _ F [CH.row g14 o15 (r13.words.map (Value.int .u32) ++ [.slice A17 n19 c18, .int .i64 r13.n]), p21, p28, CH.row g8 0 ((List.replicate 32 (0 : Int)).map (Value.int .u8))] := Ctx.swap [CH.row g14 o15 (r13.words.map (Value.int .u32) ++ [.slice A17 n19 c18, .int .i64 r13.n])] [CH.row g8 0 ((List.replicate 32 (0 : Int)).map (Value.int .u8))] C34
  have le36 : CH.le F (CH.join F p28) := CH.le_joinL _ _
  have lp37 : CH.le p28 (CH.join F p28) := CH.le_joinR (Ctx.dis_of [CH.row g14 o15 (r13.words.map (Value.int .u32) ++ [.slice A17 n19 c18, .int .i64 r13.n]), p21] [CH.row g8 0 ((List.replicate 32 (0 : Int)).map (Value.int .u8))] C35)
  have C38 : Ctx _ _ _ _ (CH.join F p28) [CH.row g14 o15 (r13.words.map (Value.int .u32) ++ [.slice A17 n19 c18, .int .i64 r13.n]), p21, CH.row g8 0 ((List.replicate 32 (0 : Int)).map (Value.int .u8))] := Ctx.freeze [CH.row g14 o15 (r13.words.map (Value.int .u32) ++ [.slice A17 n19 c18, .int .i64 r13.n]), p21] [CH.row g8 0 ((List.replicate 32 (0 : Int)).map (Value.int .u8))] C35
  obtain ⟨r40, hg39, H⟩ := bindE H
  refine WL.call (args := #[.pointer (some ⟨g14, o15, none⟩), .slice A25 n27 c26]) (Yenter.fn Tryd.func66 (by kernel_rfl) rfl (argsE (.cons rfl (.cons rfl .nil)))) (sha_Hash_Write.calls k _ (CH.join F p28) g14 o15 A17 c18 n19 p21 r13 A25 c26 n27 [a0] (Ctx.pre (qs := [CH.row g14 o15 (r13.words.map (Value.int .u32) ++ [.slice A17 n19 c18, .int .i64 r13.n]), p21]) (rest := [CH.row g8 0 ((List.replicate 32 (0 : Int)).map (Value.int .u8))]) C38) ha16 hn20 hR22 hn30 (Row.len_le hR33).1 (Row.len_le hR33).2.1 (Sl.mono (Row.sl hR33) le36 lp37) (CH.le_trans hG3 (CH.le_trans (CH.le_refl _) le36)) r40 hg39) ?_
  rintro e_ w_ ⟨A42, c43, n44, p46, rfl, C48, ha41, hn45, hR47⟩
  refine ⟨_, rfl, ?_⟩
  have hR49 : Row (Kd.int .u8) F p46 (.slice A42 n44 c43) r40.rest := hR47
  have C50 : Ctx _ _ _ _ F [CH.row g14 o15 (r40.words.map (Value.int .u32) ++ [.slice A42 n44 c43, .int .i64 r40.n]), p46, p28, CH.row g8 0 ((List.replicate 32 (0 : Int)).map (Value.int .u8))] := Ctx.callL (qs := [CH.row g14 o15 (r13.words.map (Value.int .u32) ++ [.slice A17 n19 c18, .int .i64 r13.n]), p21]) (rest := [p28, CH.row g8 0 ((List.replicate 32 (0 : Int)).map (Value.int .u8))]) C35 le36 C48
  refine WL.done ?_
  refine W.seq ?_
  refine W.seq ?_
  refine W.region rfl ?_
  refine WL.val (Yl.move (v := .slice A1 n3 c2) rfl) ?_
  refine WL.val (Yl.lenN (A := A1) (l := n3) (q := c2) (n := (a1.length : Int)) rfl Tryd.underlying49 (by omega)) ?_
  refine WL.val (Yl.move (v := .int .i64 0) rfl) ?_
  refine WL.done ?_
  obtain ⟨x157, hX166, H⟩ := bindE H
  refine W.cutM (fun env_ w_ => ∃ (A159 : Option Addr) (c160 : Nat) (n161 : Nat) (p163 : CH), env_ 4 = .pointer (some ⟨g8, 0, none⟩) ∧ env_ 5 = .pointer (some ⟨g14, o15, none⟩) ∧ Ctx w F D w_ F [CH.row g14 o15 (x157.words.map (Value.int .u32) ++ [.slice A159 n161 c160, .int .i64 x157.n]), p163, p28, CH.row g8 0 ((List.replicate 32 (0 : Int)).map (Value.int .u8))] ∧ x157.words.length = 8 ∧ n161 = x157.rest.length ∧ Row (Kd.int .u8) F p163 (.slice A159 n161 c160) x157.rest) ?_ ?_
  · skip
    refine W.block ?_
    refine W.loop (fun g_ env_ w_ => ∃ (x206 : Int) (x207 : THash) (A209 : Option Addr) (c210 : Nat) (n211 : Nat) (p213 : CH), env_ 4 = .pointer (some ⟨g8, 0, none⟩) ∧ env_ 5 = .pointer (some ⟨g14, o15, none⟩) ∧ env_ 13 = .slice A1 n3 c2 ∧ env_ 14 = .int .i64 (a1.length : Int) ∧ env_ 15 = .int .i64 x206 ∧ Ctx w F D w_ F [CH.row g14 o15 (x207.words.map (Value.int .u32) ++ [.slice A209 n211 c210, .int .i64 x207.n]), p213, p28, CH.row g8 0 ((List.replicate 32 (0 : Int)).map (Value.int .u8))] ∧ x207.words.length = 8 ∧ n211 = x207.rest.length ∧ Row (Kd.int .u8) F p213 (.slice A209 n211 c210) x207.rest ∧ proof_tagged.l1 g_ a1 x206 x207 = some x157) k ⟨0, r40, A42, c43, n44, p46, rfl, rfl, rfl, rfl, rfl, C50, ha41, hn45, hR49, hX166⟩ ?_
    clear hX166
    rintro g_ env_ w_ ⟨x206, x207, A209, c210, n211, p213, ho201, ho202, ho203, ho204, ho205, C215, ha208, hn212, hR214, hX166⟩
    rcases g_ with _ | k243
    · exact absurd hX166 (by simp [proof_tagged.l1])
    rw [proof_tagged.l1] at hX166
    refine W.seq ?_
    refine W.region rfl ?_
    refine WL.val (Yl.lss (m := x206) (n := (a1.length : Int)) (q := decide (x206 < (a1.length : Int))) ho205 ho204 rfl) ?_
    refine WL.done ?_
    refine W.seq ?_
    rcases iteE hX166 with ⟨hc244, hX166⟩ | ⟨hc244, hX166⟩
    · skip
      refine W.condT (congrArg Value.bool (decide_eq_true hc244)) ?_
      refine W.skip ?_
      refine W.seq ?_
      refine W.block ?_
      refine W.seq ?_
      refine W.region rfl ?_
      obtain ⟨hc245, hX166⟩ := guardE hX166
      obtain ⟨b246, of247, hA248, he249⟩ := hS7 (by omega)
      refine WL.val (Yl.elemAddr (i := x206) ho203 ho205 hA248 Tryd.underlying49 sz28 (by omega)) ?_
      obtain ⟨cs250, hr251, hx252⟩ := he249 x206.toNat _ (getD_some (d := []) (by omega))
      obtain ⟨A253, c254, rfl, hl257, hm258, hS259⟩ := hr251
      refine WL.val (Yl.load (v := .slice A253 ((a1.getD x206.toNat []).length) c254) rfl Tryd.underlying28 rfl (((C215.fro)).cell (hx252 0 _ rfl))) ?_
      refine WL.val (Yl.assign (v := .slice A253 ((a1.getD x206.toNat []).length) c254) rfl) ?_
      refine WL.done ?_
      refine W.region rfl ?_
      refine WL.val (Yl.move (v := .pointer (some ⟨g14, o15, none⟩)) ho202) ?_
      refine WL.val (Yl.move (v := .slice A253 ((a1.getD x206.toNat []).length) c254) rfl) ?_
      obtain ⟨r261, hg260, hX166⟩ := bindE hX166
      refine WL.call (args := #[.pointer (some ⟨g14, o15, none⟩), .slice A253 ((a1.getD x206.toNat []).length) c254]) (Yenter.fn Tryd.func66 (by kernel_rfl) rfl (argsE (.cons rfl (.cons rfl .nil)))) (sha_Hash_Write.calls k243 _ F g14 o15 A209 c210 n211 p213 x207 A253 c254 ((a1.getD x206.toNat []).length) (a1.getD x206.toNat []) (Ctx.pre (qs := [CH.row g14 o15 (x207.words.map (Value.int .u32) ++ [.slice A209 n211 c210, .int .i64 x207.n]), p213]) (rest := [p28, CH.row g8 0 ((List.replicate 32 (0 : Int)).map (Value.int .u8))]) C215) ha208 hn212 hR214 rfl hl257 hm258 hS259 (CH.le_trans hG3 (CH.le_trans (CH.le_refl _) (CH.le_refl _))) r261 hg260) ?_
      rintro e_ w_ ⟨A263, c264, n265, p267, rfl, C269, ha262, hn266, hR268⟩
      refine ⟨_, rfl, ?_⟩
      have C270 : Ctx _ _ _ _ F [CH.row g14 o15 (r261.words.map (Value.int .u32) ++ [.slice A263 n265 c264, .int .i64 r261.n]), p267, p28, CH.row g8 0 ((List.replicate 32 (0 : Int)).map (Value.int .u8))] := Ctx.call (qs := [CH.row g14 o15 (x207.words.map (Value.int .u32) ++ [.slice A209 n211 c210, .int .i64 x207.n]), p213]) (rest := [p28, CH.row g8 0 ((List.replicate 32 (0 : Int)).map (Value.int .u8))]) C215 C269
      refine WL.done ?_
      refine inB_n ?_
      refine W.region rfl ?_
      refine WL.val (Yl.add (m := x206) (n := 1) (r := wi64 (x206 + 1)) ho205 rfl rfl) ?_
      refine WL.val (Yl.move (v := .int .i64 (wi64 (x206 + 1))) rfl) ?_
      refine WL.done ?_
      exact thenE_n ⟨k243, Nat.lt_succ_self _, wi64 (x206 + 1), r261, A263, c264, n265, p267, ho201, ho202, ho203, ho204, rfl, C270, ha262, hn266, hR268, hX166⟩
    · skip
      refine W.condF (congrArg Value.bool (decide_eq_false hc244)) ?_
      refine W.exit ?_
      refine thenE_x ?_
      refine thenE_x ?_
      refine inB_here ?_
      cases hX166
      refine thenE_n ?_
      exact ⟨A209, c210, n211, p213, ho201, ho202, C215, ha208, hn212, hR214⟩
  · skip
    rintro env_ w_ ⟨A159, c160, n161, p163, ho155, ho156, C165, ha158, hn162, hR164⟩
    refine W.seq ?_
    refine W.region rfl ?_
    refine WL.val (Yl.move (v := .pointer (some ⟨g14, o15, none⟩)) ho156) ?_
    have le271 : CH.le F (CH.join F (CH.row g14 o15 (x157.words.map (Value.int .u32) ++ [.slice A159 n161 c160, .int .i64 x157.n]))) := CH.le_joinL _ _
    have lp272 : CH.le (CH.row g14 o15 (x157.words.map (Value.int .u32) ++ [.slice A159 n161 c160, .int .i64 x157.n])) (CH.join F (CH.row g14 o15 (x157.words.map (Value.int .u32) ++ [.slice A159 n161 c160, .int .i64 x157.n]))) := CH.le_joinR (Ctx.dis_of [] [p163, p28, CH.row g8 0 ((List.replicate 32 (0 : Int)).map (Value.int .u8))] C165)
    have C273 : Ctx _ _ _ _ (CH.join F (CH.row g14 o15 (x157.words.map (Value.int .u32) ++ [.slice A159 n161 c160, .int .i64 x157.n]))) [p163, p28, CH.row g8 0 ((List.replicate 32 (0 : Int)).map (Value.int .u8))] := Ctx.freeze [] [p163, p28, CH.row g8 0 ((List.replicate 32 (0 : Int)).map (Value.int .u8))] C165
    have le274 : CH.le (CH.join F (CH.row g14 o15 (x157.words.map (Value.int .u32) ++ [.slice A159 n161 c160, .int .i64 x157.n]))) (CH.join (CH.join F (CH.row g14 o15 (x157.words.map (Value.int .u32) ++ [.slice A159 n161 c160, .int .i64 x157.n]))) p163) := CH.le_joinL _ _
    have lp275 : CH.le p163 (CH.join (CH.join F (CH.row g14 o15 (x157.words.map (Value.int .u32) ++ [.slice A159 n161 c160, .int .i64 x157.n]))) p163) := CH.le_joinR (Ctx.dis_of [] [p28, CH.row g8 0 ((List.replicate 32 (0 : Int)).map (Value.int .u8))] C273)
    have C276 : Ctx _ _ _ _ (CH.join (CH.join F (CH.row g14 o15 (x157.words.map (Value.int .u32) ++ [.slice A159 n161 c160, .int .i64 x157.n]))) p163) [p28, CH.row g8 0 ((List.replicate 32 (0 : Int)).map (Value.int .u8))] := Ctx.freeze [] [p28, CH.row g8 0 ((List.replicate 32 (0 : Int)).map (Value.int .u8))] C273
    obtain ⟨r278, hg277, H⟩ := bindE H
    refine WL.call (args := #[.pointer (some ⟨g14, o15, none⟩)]) (Yenter.fn Tryd.func67 (by kernel_rfl) rfl (argsE (.cons rfl .nil))) (sha_Hash_Sum.calls k _ (CH.join (CH.join F (CH.row g14 o15 (x157.words.map (Value.int .u32) ++ [.slice A159 n161 c160, .int .i64 x157.n]))) p163) g14 o15 A159 c160 n161 x157 (Ctx.pre (qs := []) (rest := [p28, CH.row g8 0 ((List.replicate 32 (0 : Int)).map (Value.int .u8))]) C276) ha158 hn162 (Row.len_le hR164).1 (Row.len_le hR164).2.1 (Sl.mono (Row.sl hR164) (CH.le_trans le271 le274) lp275) (CH.le_trans lp272 le274) (CH.le_trans hG3 (CH.le_trans (CH.le_refl _) (CH.le_trans le271 le274))) r278 hg277) ?_
    rintro e_ w_ ⟨rfl, C280, ha279⟩
    refine ⟨_, rfl, ?_⟩
    have C281 : Ctx _ _ _ _ F [CH.row g14 o15 (x157.words.map (Value.int .u32) ++ [.slice A159 n161 c160, .int .i64 x157.n]), p163, p28, CH.row g8 0 ((List.replicate 32 (0 : Int)).map (Value.int .u8))] := Ctx.callL (qs := []) (rest := [CH.row g14 o15 (x157.words.map (Value.int .u32) ++ [.slice A159 n161 c160, .int .i64 x157.n]), p163, p28, CH.row g8 0 ((List.replicate 32 (0 : Int)).map (Value.int .u8))]) C165 (CH.le_trans le271 le274) C280
    obtain ⟨w282, hy283, C284⟩ := ev_set (P := Tryd.prog) (ps1 := [CH.row g14 o15 (x157.words.map (Value.int .u32) ++ [.slice A159 n161 c160, .int .i64 x157.n]), p163, p28]) (ps2 := []) (t := 33) (o := 0) ((List.replicate 32 (0 : Int)).map (Value.int .u8)) [] ((List.replicate 32 (0 : Int)).map (Value.int .u8)) [] (r278.map (Value.int .u8)) (.agg (List.toArray (r278.map (Value.int .u8)))) C281 (by first | (simp only [List.length_append, List.length_map, List.length_cons, List.length_nil, (List.length_replicate ..), ha279]; done) | simp [(List.length_replicate ..), ha279]) (by first | (simp only [List.length_append, List.length_map, List.length_cons, List.length_nil, (List.length_replicate ..), ha279]; done) | simp [(List.length_replicate ..), ha279]) (by first | (simp only [List.length_append, List.length_map, List.length_cons, List.length_nil, (List.length_replicate ..), ha279]; done) | simp [(List.length_replicate ..), ha279]) rfl (one_ints _ _) (sz_of sz33 (by first | (simp only [List.length_append, List.length_map, List.length_cons, List.length_nil, ha279]; done) | simp [ha279]))
    have C285 : Ctx _ _ _ _ F [CH.row g14 o15 (x157.words.map (Value.int .u32) ++ [.slice A159 n161 c160, .int .i64 x157.n]), p163, p28, CH.row g8 0 (r278.map (Value.int .u8))] := (by simpa using C284)
    refine WL.skip (hy283 _ _ _ _ ho155 rfl) ?_
    refine WL.done ?_
    refine W.ret ?_
    have C286 : Ctx _ _ _ _ F [p163, p28, CH.row g8 0 (r278.map (Value.int .u8))] := Ctx.drop [] [p163, p28, CH.row g8 0 (r278.map (Value.int .u8))] C285
    have C287 : Ctx _ _ _ _ F [p28, CH.row g8 0 (r278.map (Value.int .u8))] := Ctx.drop [] [p28, CH.row g8 0 (r278.map (Value.int .u8))] C286
    have C288 : Ctx _ _ _ _ F [CH.row g8 0 (r278.map (Value.int .u8))] := Ctx.drop [] [CH.row g8 0 (r278.map (Value.int .u8))] C287
    have C289 : Ctx _ _ _ _ F [] := Ctx.drop [] [] C288
    have e290 := Option.some.inj H
    subst e290
    exact post_r (resEC rfl ((.cell ho155 (run_loadVA2 (g := g8) (off := 0) (o := 0) (cs := r278.map (Value.int .u8)) (us := r278.map (Value.int .u8)) Tryd.underlying33 rfl (sz_of sz33 (by first | (simp only [List.length_append, List.length_map, List.length_cons, List.length_nil, ha279]; done) | simp [ha279])) (Ctx.sub_of [CH.row g14 o15 (x157.words.map (Value.int .u32) ++ [.slice A159 n161 c160, .int .i64 x157.n]), p163, p28] [] C285) (take_all _)) .nil))) ⟨rfl, C289, ha279⟩
def proof_Leaf.f (k : Nat) (a0 : List Int) : Option (List Int) := (proof_tagged.f k 0 [a0]).bind fun r25 => some r25
set_option maxRecDepth 100000 in
set_option maxHeartbeats 4000000 in
theorem proof_Leaf.calls (k : Nat) (w : World) (F : CH) (A1 : Option Addr) (c2 : Nat) (n3 : Nat) (a0 : List Int) (hp : Pre w F []) (hn4 : n3 = a0.length) (hl5 : a0.length ≤ c2) (hm6 : c2 ≤ maxLen) (hS7 : Sl (Kd.int .u8) F F A1 a0) (hG1 : CH.le (CH.row 1 0 (glob1.map (Value.int .u32))) F) (hG3 : CH.le (CH.row 3 0 (glob3.map (Value.int .u32))) F) (r0_ : List Int) (H : proof_Leaf.f k a0 = some r0_) :
    Calls Tryd.prog 27 #[.slice A1 n3 c2] w fun e w' => e = .returned (.agg (List.toArray (r0_.map (Value.int .u8)))) ∧ Ctx w F (domL []) w' F [] ∧ r0_.length = 32 := by
  have C := Ctx.start hp
  generalize hD : domL [] = D at C ⊢
  unfold proof_Leaf.f at H
  refine Calls.ofW Tryd.func27 rfl (by simp [Tryd.ntmps27]) ?_
  refine W.seq ?_
  refine W.region rfl ?_
  obtain ⟨g8, w9, hy10, C11⟩ := ev_alloc (P := Tryd.prog) (e := 33) ((List.replicate 32 (0 : Int)).map (Value.int .u8)) C zr33 rfl
  refine WL.val (hy10 _ _) ?_
  refine WL.done ?_
  refine W.seq ?_
  refine W.region rfl ?_
  refine WL.val (Yl.move (v := .slice A1 n3 c2) rfl) ?_
  obtain ⟨A12, c13, n14, p15, w16, hn17, hy18, C19, hR20⟩ := ev_lit1' (P := Tryd.prog) 28 (Kd.slice (Kd.int .u8)) C11 Tryd.underlying49 ti28 ⟨by decide, by decide⟩ a0 (.slice A1 n3 c2) (slice_rep' A1 c2 n3 hn4 hl5 hm6 hS7)
  refine WL.val (hy18 _ _ _ rfl) ?_
  have le21 : CH.le F (CH.join F p15) := CH.le_joinL _ _
  have lp22 : CH.le p15 (CH.join F p15) := CH.le_joinR (Ctx.dis_of [] [CH.row g8 0 ((List.replicate 32 (0 : Int)).map (Value.int .u8))] C19)
  have C23 : Ctx _ _ _ _ (CH.join F p15) [CH.row g8 0 ((List.replicate 32 (0 : Int)).map (Value.int .u8))] := Ctx.freeze [] [CH.row g8 0 ((List.replicate 32 (0 : Int)).map (Value.int .u8))] C19
  obtain ⟨r25, hg24, H⟩ := bindE H
  refine WL.call (args := #[.int .u8 0, .slice A12 n14 c13]) (Yenter.fn Tryd.func53 (by kernel_rfl) rfl (argsE (.cons rfl (.cons rfl .nil)))) (proof_tagged.calls k _ (CH.join F p15) 0 A12 c13 n14 [a0] (Ctx.pre (qs := []) (rest := [CH.row g8 0 ((List.replicate 32 (0 : Int)).map (Value.int .u8))]) C23) hn17 (Row.len_le hR20).1 (Row.len_le hR20).2.1 (Sl.mono (Row.sl hR20) le21 lp22) (CH.le_trans hG1 (CH.le_trans (CH.le_refl _) le21)) (CH.le_trans hG3 (CH.le_trans (CH.le_refl _) le21)) r25 hg24) ?_
  rintro e_ w_ ⟨rfl, C27, ha26⟩
  refine ⟨_, rfl, ?_⟩
  have C28 : Ctx _ _ _ _ F [p15, CH.row g8 0 ((List.replicate 32 (0 : Int)).map (Value.int .u8))] := Ctx.callL (qs := []) (rest := [p15, CH.row g8 0 ((List.replicate 32 (0 : Int)).map (Value.int .u8))]) C19 le21 C27
  obtain ⟨w29, hy30, C31⟩ := ev_set (P := Tryd.prog) (ps1 := [p15]) (ps2 := []) (t := 33) (o := 0) ((List.replicate 32 (0 : Int)).map (Value.int .u8)) [] ((List.replicate 32 (0 : Int)).map (Value.int .u8)) [] (r25.map (Value.int .u8)) (.agg (List.toArray (r25.map (Value.int .u8)))) C28 (by first | (simp only [List.length_append, List.length_map, List.length_cons, List.length_nil, (List.length_replicate ..), ha26]; done) | simp [(List.length_replicate ..), ha26]) (by first | (simp only [List.length_append, List.length_map, List.length_cons, List.length_nil, (List.length_replicate ..), ha26]; done) | simp [(List.length_replicate ..), ha26]) (by first | (simp only [List.length_append, List.length_map, List.length_cons, List.length_nil, (List.length_replicate ..), ha26]; done) | simp [(List.length_replicate ..), ha26]) rfl (one_ints _ _) (sz_of sz33 (by first | (simp only [List.length_append, List.length_map, List.length_cons, List.length_nil, ha26]; done) | simp [ha26]))
  have C32 : Ctx _ _ _ _ F [p15, CH.row g8 0 (r25.map (Value.int .u8))] := (by simpa using C31)
  refine WL.skip (hy30 _ _ _ _ rfl rfl) ?_
  refine WL.done ?_
  refine W.ret ?_
  have C33 : Ctx _ _ _ _ F [CH.row g8 0 (r25.map (Value.int .u8))] := Ctx.drop [] [CH.row g8 0 (r25.map (Value.int .u8))] C32
  have C34 : Ctx _ _ _ _ F [] := Ctx.drop [] [] C33
  have e35 := Option.some.inj H
  subst e35
  exact post_r (resEC rfl ((.cell rfl (run_loadVA2 (g := g8) (off := 0) (o := 0) (cs := r25.map (Value.int .u8)) (us := r25.map (Value.int .u8)) Tryd.underlying33 rfl (sz_of sz33 (by first | (simp only [List.length_append, List.length_map, List.length_cons, List.length_nil, ha26]; done) | simp [ha26])) (Ctx.sub_of [p15] [] C32) (take_all _)) .nil))) ⟨rfl, C34, ha26⟩
def proof_Node.f (k : Nat) (a0 : List Int) (a1 : List Int) : Option (List Int) := (proof_tagged.f k 1 [a0, a1]).bind fun r60 => some r60
set_option maxRecDepth 100000 in
set_option maxHeartbeats 4000000 in
theorem proof_Node.calls (k : Nat) (w : World) (F : CH) (a0 : List Int) (a1 : List Int) (hp : Pre w F []) (ha1 : a0.length = 32) (ha2 : a1.length = 32) (hG1 : CH.le (CH.row 1 0 (glob1.map (Value.int .u32))) F) (hG3 : CH.le (CH.row 3 0 (glob3.map (Value.int .u32))) F) (r0_ : List Int) (H : proof_Node.f k a0 a1 = some r0_) :
    Calls Tryd.prog 25 #[.agg (List.toArray (a0.map (Value.int .u8))), .agg (List.toArray (a1.map (Value.int .u8)))] w fun e w' => e = .returned (.agg (List.toArray (r0_.map (Value.int .u8)))) ∧ Ctx w F (domL []) w' F [] ∧ r0_.length = 32 := by
  have C := Ctx.start hp
  generalize hD : domL [] = D at C ⊢
  unfold proof_Node.f at H
  refine Calls.ofW Tryd.func25 rfl (by simp [Tryd.ntmps25]) ?_
  refine W.seq ?_
  refine W.region rfl ?_
  obtain ⟨g3, w4, hy5, C6⟩ := ev_box (P := Tryd.prog) 33 (.agg (List.toArray (a0.map (Value.int .u8)))) (a0.map (Value.int .u8)) C rfl
  refine WL.val (hy5 _ _ _ rfl) ?_
  obtain ⟨g7, w8, hy9, C10⟩ := ev_box (P := Tryd.prog) 33 (.agg (List.toArray (a1.map (Value.int .u8)))) (a1.map (Value.int .u8)) C6 rfl
  refine WL.val (hy9 _ _ _ rfl) ?_
  obtain ⟨g11, w12, hy13, C14⟩ := ev_alloc (P := Tryd.prog) (e := 33) ((List.replicate 32 (0 : Int)).map (Value.int .u8)) C10 zr33 rfl
  refine WL.val (hy13 _ _) ?_
  refine WL.done ?_
  refine W.seq ?_
  have lp16 : CH.le (CH.row g3 0 (a0.map (Value.int .u8))) (CH.join F (CH.row g3 0 (a0.map (Value.int .u8)))) := CH.le_joinR (Ctx.dis_of [CH.row g11 0 ((List.replicate 32 (0 : Int)).map (Value.int .u8)), CH.row g7 0 (a1.map (Value.int .u8))] [] C14)
  have C17 : Ctx _ _ _ _ (CH.join F (CH.row g3 0 (a0.map (Value.int .u8)))) [CH.row g11 0 ((List.replicate 32 (0 : Int)).map (Value.int .u8)), CH.row g7 0 (a1.map (Value.int .u8))] := Ctx.freeze [CH.row g11 0 ((List.replicate 32 (0 : Int)).map (Value.int .u8)), CH.row g7 0 (a1.map (Value.int .u8))] [] C14
  have le15 := CH.le_joinL F (CH.row g3 0 (a0.map (Value.int .u8)))
  have lp19 : CH.le (CH.row g7 0 (a1.map (Value.int .u8))) (CH.join (CH.join F (CH.row g3 0 (a0.map (Value.int .u8)))) (CH.row g7 0 (a1.map (Value.int .u8)))) := CH.le_joinR (Ctx.dis_of [CH.row g11 0 ((List.replicate 32 (0 : Int)).map (Value.int .u8))] [] C17)
  have C20 : Ctx _ _ _ _ (CH.join (CH.join F (CH.row g3 0 (a0.map (Value.int .u8)))) (CH.row g7 0 (a1.map (Value.int .u8)))) [CH.row g11 0 ((List.replicate 32 (0 : Int)).map (Value.int .u8))] := Ctx.freeze [CH.row g11 0 ((List.replicate 32 (0 : Int)).map (Value.int .u8))] [] C17
  have le18 := CH.le_joinL (CH.join F (CH.row g3 0 (a0.map (Value.int .u8)))) (CH.row g7 0 (a1.map (Value.int .u8)))
  refine W.regionA [] (by kernel_rfl) ?_
  have C44 := Ctx.drewN C20 1
  have hS45 : Sl (Kd.int .u8) (CH.join (CH.join F (CH.row g3 0 (a0.map (Value.int .u8)))) (CH.row g7 0 (a1.map (Value.int .u8)))) (CH.join (CH.join F (CH.row g3 0 (a0.map (Value.int .u8)))) (CH.row g7 0 (a1.map (Value.int .u8)))) (some ⟨g3, 0 + 0, none⟩) a0 := Sl.ofArr (cs := a0.map (Value.int .u8)) (pre := []) (post := []) (CH.le_trans lp16 le18) (by first | (simp only [List.length_append, List.length_map, List.length_cons, List.length_nil, ha1]; done) | simp [ha1]) (by first | (simp only [List.length_append, List.length_map, List.length_cons, List.length_nil, ha1]; done) | simp [ha1])
  refine WA.take none [] 0 rfl (by kernel_rfl) (by kernel_rfl) (show _ = #[true, false, false, false, false] from rfl) trivial trivial (fun _ hC_ => Yl.sliceArr 0 32 32 rfl Tryd.underlying33 sz5 rfl rfl rfl (by simp) (by decide) (by decide) (by decide) rfl) ?_
  have hS46 : Sl (Kd.int .u8) (CH.join (CH.join F (CH.row g3 0 (a0.map (Value.int .u8)))) (CH.row g7 0 (a1.map (Value.int .u8)))) (CH.join (CH.join F (CH.row g3 0 (a0.map (Value.int .u8)))) (CH.row g7 0 (a1.map (Value.int .u8)))) (some ⟨g7, 0 + 0, none⟩) a1 := Sl.ofArr (cs := a1.map (Value.int .u8)) (pre := []) (post := []) lp19 (by first | (simp only [List.length_append, List.length_map, List.length_cons, List.length_nil, ha2]; done) | simp [ha2]) (by first | (simp only [List.length_append, List.length_map, List.length_cons, List.length_nil, ha2]; done) | simp [ha2])
  refine WA.take none [] 1 rfl (by kernel_rfl) (by kernel_rfl) (show _ = #[true, true, false, false, false] from rfl) trivial trivial (fun _ hC_ => Yl.sliceArr 0 32 32 rfl Tryd.underlying33 sz5 rfl rfl rfl (by simp) (by decide) (by decide) (by decide) rfl) ?_
  obtain ⟨A47, c48, n49, p50, w51, hn52, hy53, C54, hR55⟩ := ev_lit' (P := Tryd.prog) 28 (Kd.slice (Kd.int .u8)) C44 Tryd.underlying49 ti28 (by decide) [a0, a1] [.slice (some ⟨g3, 0 + 0, none⟩) 32 32, .slice (some ⟨g7, 0 + 0, none⟩) 32 32] (.cons (slice_rep' (some ⟨g3, 0 + 0, none⟩) 32 32 (ha1).symm (Nat.le_of_eq ha1) (by decide) hS45) (.cons (slice_rep' (some ⟨g7, 0 + 0, none⟩) 32 32 (ha2).symm (Nat.le_of_eq ha2) (by decide) hS46) .nil)) 2 rfl (by decide) (by decide)
  refine WA.up1 2 (by kernel_rfl) (Up.val rfl rfl (show _ = #[true, true, true, false, false] from rfl) (hy53 _ [(.tmp 5), (.tmp 6)] _ (.cons rfl (.cons rfl .nil))) trivial ?_)
  have le56 : CH.le (CH.join (CH.join F (CH.row g3 0 (a0.map (Value.int .u8)))) (CH.row g7 0 (a1.map (Value.int .u8)))) (CH.join (CH.join (CH.join F (CH.row g3 0 (a0.map (Value.int .u8)))) (CH.row g7 0 (a1.map (Value.int .u8)))) p50) := CH.le_joinL _ _
  have lp57 : CH.le p50 (CH.join (CH.join (CH.join F (CH.row g3 0 (a0.map (Value.int .u8)))) (CH.row g7 0 (a1.map (Value.int .u8)))) p50) := CH.le_joinR (Ctx.dis_of [] [CH.row g11 0 ((List.replicate 32 (0 : Int)).map (Value.int .u8))] C54)
  have C58 : Ctx _ _ _ _ (CH.join (CH.join (CH.join F (CH.row g3 0 (a0.map (Value.int .u8)))) (CH.row g7 0 (a1.map (Value.int .u8)))) p50) [CH.row g11 0 ((List.replicate 32 (0 : Int)).map (Value.int .u8))] := Ctx.freeze [] [CH.row g11 0 ((List.replicate 32 (0 : Int)).map (Value.int .u8))] C54
  obtain ⟨r60, hg59, H⟩ := bindE H
  refine WA.up1 3 (by kernel_rfl) (Up.call (args := #[.int .u8 1, .slice A47 n49 c48]) rfl (by kernel_rfl) (show _ = #[true, true, true, true, false] from rfl) (Yenter.fn Tryd.func53 (by kernel_rfl) rfl (argsE (.cons rfl (.cons rfl .nil)))) (proof_tagged.calls k _ (CH.join (CH.join (CH.join F (CH.row g3 0 (a0.map (Value.int .u8)))) (CH.row g7 0 (a1.map (Value.int .u8)))) p50) 1 A47 c48 n49 [a0, a1] (Ctx.pre (qs := []) (rest := [CH.row g11 0 ((List.replicate 32 (0 : Int)).map (Value.int .u8))]) C58) hn52 (Row.len_le hR55).1 (Row.len_le hR55).2.1 (Sl.mono (Row.sl hR55) le56 lp57) (CH.le_trans hG1 (CH.le_trans (CH.le_trans le15 le18) le56)) (CH.le_trans hG3 (CH.le_trans (CH.le_trans le15 le18) le56)) r60 hg59) ?_)
  rintro e_ w_ ⟨rfl, C62, ha61⟩
  have C63 : Ctx _ _ _ _ (CH.join (CH.join F (CH.row g3 0 (a0.map (Value.int .u8)))) (CH.row g7 0 (a1.map (Value.int .u8)))) [p50, CH.row g11 0 ((List.replicate 32 (0 : Int)).map (Value.int .u8))] := Ctx.callL (qs := []) (rest := [p50, CH.row g11 0 ((List.replicate 32 (0 : Int)).map (Value.int .u8))]) C54 le56 C62
  refine ⟨_, rfl, trivial, ?_⟩
  obtain ⟨w64, hy65, C66⟩ := ev_set (P := Tryd.prog) (ps1 := [p50]) (ps2 := []) (t := 33) (o := 0) ((List.replicate 32 (0 : Int)).map (Value.int .u8)) [] ((List.replicate 32 (0 : Int)).map (Value.int .u8)) [] (r60.map (Value.int .u8)) (.agg (List.toArray (r60.map (Value.int .u8)))) C63 (by first | (simp only [List.length_append, List.length_map, List.length_cons, List.length_nil, (List.length_replicate ..), ha61]; done) | simp [(List.length_replicate ..), ha61]) (by first | (simp only [List.length_append, List.length_map, List.length_cons, List.length_nil, (List.length_replicate ..), ha61]; done) | simp [(List.length_replicate ..), ha61]) (by first | (simp only [List.length_append, List.length_map, List.length_cons, List.length_nil, (List.length_replicate ..), ha61]; done) | simp [(List.length_replicate ..), ha61]) rfl (one_ints _ _) (sz_of sz33 (by first | (simp only [List.length_append, List.length_map, List.length_cons, List.length_nil, ha61]; done) | simp [ha61]))
  have C67 : Ctx _ _ _ _ (CH.join (CH.join F (CH.row g3 0 (a0.map (Value.int .u8)))) (CH.row g7 0 (a1.map (Value.int .u8)))) [p50, CH.row g11 0 (r60.map (Value.int .u8))] := (by simpa using C66)
  refine WA.up1 4 (by kernel_rfl) (Up.skip rfl (show _ = #[true, true, true, true, true] from rfl) (hy65 _ _ _ _ rfl rfl) trivial ?_)
  refine WA.done (by kernel_rfl) ?_
  refine W.ret ?_
  have C68 : Ctx _ _ _ _ (CH.join (CH.join F (CH.row g3 0 (a0.map (Value.int .u8)))) (CH.row g7 0 (a1.map (Value.int .u8)))) [CH.row g11 0 (r60.map (Value.int .u8))] := Ctx.drop [] [CH.row g11 0 (r60.map (Value.int .u8))] C67
  have C69 : Ctx _ _ _ _ (CH.join (CH.join F (CH.row g3 0 (a0.map (Value.int .u8)))) (CH.row g7 0 (a1.map (Value.int .u8)))) [] := Ctx.drop [] [] C68
  have e70 := Option.some.inj H
  subst e70
  exact post_r (resEC rfl ((.cell rfl (run_loadVA2 (g := g11) (off := 0) (o := 0) (cs := r60.map (Value.int .u8)) (us := r60.map (Value.int .u8)) Tryd.underlying33 rfl (sz_of sz33 (by first | (simp only [List.length_append, List.length_map, List.length_cons, List.length_nil, ha61]; done) | simp [ha61])) (Ctx.sub_of [p50] [] C67) (take_all _)) .nil))) ⟨rfl, (Ctx.weak C69 (CH.le_refl _)), ha61⟩
def proof_split.f (k : Nat) (a0 : Int) : Option Int := (bits_Len.f k (wu64 (wi64 (a0 - 1)))).bind fun r2 => if 0 ≤ (wi64 (r2 - 1)) then (some (shlOp .i64 1 (wi64 (r2 - 1)))) else none
set_option maxRecDepth 100000 in
set_option maxHeartbeats 4000000 in
theorem proof_split.calls (k : Nat) (w : World) (F : CH) (a0 : Int) (hp : Pre w F [])  (r0_ : Int) (H : proof_split.f k a0 = some r0_) :
    Calls Tryd.prog 56 #[.int .i64 a0] w fun e w' => e = .returned (.int .i64 r0_) ∧ (∃ n_, w' = w.drewN n_) := by
  have C := Ctx.start hp
  generalize domL [] = D at C
  have W0 : ∃ n_, w = w.drewN n_ := ⟨0, rfl⟩
  unfold proof_split.f at H
  refine Calls.ofW Tryd.func56 rfl (by simp [Tryd.ntmps56]) ?_
  refine W.seq ?_
  refine W.region rfl ?_
  refine WL.val (Yl.assign (v := .int .i64 0) rfl) ?_
  refine WL.done ?_
  refine W.seq ?_
  refine W.region rfl ?_
  refine WL.val (Yl.move (v := .int .i64 a0) rfl) ?_
  refine WL.val (Yl.sub (m := a0) (n := 1) (r := wi64 (a0 - 1)) rfl rfl rfl) ?_
  refine WL.val (Yl.conv (m := wi64 (a0 - 1)) (r := wu64 (wi64 (a0 - 1))) rfl Tryd.underlying3 Tryd.underlying46 rfl) ?_
  obtain ⟨r2, hg1, H⟩ := bindE H
  refine WL.call (args := #[.int .u64 (wu64 (wi64 (a0 - 1)))]) (Yenter.fn Tryd.func70 (by kernel_rfl) rfl (argsE (.cons rfl .nil))) (bits_Len.calls k _ F (wu64 (wi64 (a0 - 1))) C.pre0  r2 hg1) ?_
  rintro e_ w_ ⟨rfl, ⟨m3, rfl⟩⟩
  refine ⟨_, rfl, ?_⟩
  have C4 := Ctx.drewN C m3
  have Wq5 := drew_more W0 m3
  refine WL.val (Yl.sub (m := r2) (n := 1) (r := wi64 (r2 - 1)) rfl rfl rfl) ?_
  obtain ⟨hc6, H⟩ := guardE H
  refine WL.val (Yl.shl (m := 1) (n := wi64 (r2 - 1)) (r := shlOp .i64 1 (wi64 (r2 - 1))) rfl rfl hc6 rfl) ?_
  refine WL.val (Yl.assign (v := .int .i64 (shlOp .i64 1 (wi64 (r2 - 1)))) rfl) ?_
  refine WL.done ?_
  refine W.ret ?_
  have e7 := Option.some.inj H
  subst e7
  exact post_r (resE1 rfl rfl) ⟨rfl, Wq5⟩
def proof_Root.l2 : Nat → List (List Int) → Int → List Int → Option ((List (List Int)) × (List Int))
  | 0, _, _, _ => none
  | k + 1, x1551, x1560, x1564 => if (bitsOp .and .i64 x1560 1) = 1 then (if 0 ≤ (wi64 ((x1551.length : Int) - 1)) ∧ (wi64 ((x1551.length : Int) - 1)) < (x1551.length : Int) then (if 0 ≤ (wi64 ((x1551.length : Int) - 1)) ∧ (wi64 ((x1551.length : Int) - 1)) ≤ (x1551.length : Int) then ((proof_Node.f k (x1551.getD (wi64 ((x1551.length : Int) - 1)).toNat []) x1564).bind fun r1653 => proof_Root.l2 k (x1551.take (wi64 ((x1551.length : Int) - 1)).toNat) (shrOp .i64 x1560 1) r1653) else none) else none) else (some (x1551, x1564))
def proof_Root.l1 : Nat → List (List Int) → List (List Int) → Int → Option (List (List Int))
  | 0, _, _, _ => none
  | k + 1, a0, x861, x871 => if x871 < (a0.length : Int) then (if 0 ≤ x871 ∧ x871 < (a0.length : Int) then ((proof_Root.l2 k x861 x871 (a0.getD x871.toNat [])).bind fun ⟨x1472, x1483⟩ => if (x1472.length + 1) * 32 ≤ 140737488355328 then (proof_Root.l1 k a0 (x1472 ++ [x1483]) (wi64 (x871 + 1))) else none) else none) else (some x861)
def proof_Root.l3 : Nat → List (List Int) → Int → List Int → Option (List Int)
  | 0, _, _, _ => none
  | k + 1, x850, x1859, x1860 => if x1859 < (wi64 ((x850.length : Int) - 1)) then (if 0 ≤ (wi64 ((wi64 ((wi64 ((x850.length : Int) - 1)) - 1)) - x1859)) ∧ (wi64 ((wi64 ((wi64 ((x850.length : Int) - 1)) - 1)) - x1859)) < (x850.length : Int) then ((proof_Node.f k (x850.getD (wi64 ((wi64 ((wi64 ((x850.length : Int) - 1)) - 1)) - x1859)).toNat []) x1860).bind fun r1916 => proof_Root.l3 k x850 (wi64 (x1859 + 1)) r1916) else none) else (some x1860)
def proof_Root.f (k : Nat) (a0 : List (List Int)) : Option (List Int) := if (a0.length : Int) = 0 then ((sha_Sum.f k ([] : List Int)).bind fun r14 => some r14) else ((proof_Root.l1 k a0 ([] : List (List Int)) 0).bind fun x850 => if 0 ≤ (wi64 ((x850.length : Int) - 1)) ∧ (wi64 ((x850.length : Int) - 1)) < (x850.length : Int) then ((proof_Root.l3 k x850 0 (x850.getD (wi64 ((x850.length : Int) - 1)).toNat [])).bind fun x1811 => some x1811) else none)
set_option maxRecDepth 100000 in
set_option maxHeartbeats 4000000 in
theorem proof_Root.calls (k : Nat) (w : World) (F : CH) (A1 : Option Addr) (c2 : Nat) (n3 : Nat) (a0 : List (List Int)) (hp : Pre w F []) (hn4 : n3 = a0.length) (hl5 : a0.length ≤ c2) (hm6 : c2 ≤ maxLen) (hS7 : Sl (Kd.arrI 32 .u8) F F A1 a0) (hG1 : CH.le (CH.row 1 0 (glob1.map (Value.int .u32))) F) (hG3 : CH.le (CH.row 3 0 (glob3.map (Value.int .u32))) F) (r0_ : List Int) (H : proof_Root.f k a0 = some r0_) :
    Calls Tryd.prog 22 #[.slice A1 n3 c2] w fun e w' => e = .returned (.agg (List.toArray (r0_.map (Value.int .u8)))) ∧ Ctx w F (domL []) w' F [] ∧ r0_.length = 32 := by
  have C := Ctx.start hp
  generalize hD : domL [] = D at C ⊢
  unfold proof_Root.f at H
  refine Calls.ofW Tryd.func22 rfl (by simp [Tryd.ntmps22]) ?_
  refine W.seq ?_
  refine W.region rfl ?_
  obtain ⟨g8, w9, hy10, C11⟩ := ev_alloc (P := Tryd.prog) (e := 33) ((List.replicate 32 (0 : Int)).map (Value.int .u8)) C zr33 rfl
  refine WL.val (hy10 _ _) ?_
  refine WL.done ?_
  refine W.seq ?_
  refine W.seq ?_
  refine W.region rfl ?_
  refine WL.val (Yl.move (v := .slice A1 n3 c2) rfl) ?_
  refine WL.val (Yl.lenN (A := A1) (l := n3) (q := c2) (n := (a0.length : Int)) rfl Tryd.underlying31 (by omega)) ?_
  refine WL.val (Yl.eql (m := (a0.length : Int)) (n := 0) (q := decide ((a0.length : Int) = 0)) rfl rfl rfl) ?_
  refine WL.done ?_
  rcases iteE H with ⟨hc12, H⟩ | ⟨hc12, H⟩
  · skip
    refine W.condT (congrArg Value.bool (decide_eq_true hc12)) ?_
    refine W.seq ?_
    refine W.region rfl ?_
    obtain ⟨r14, hg13, H⟩ := bindE H
    refine WL.call (args := #[.slice none 0 0]) (Yenter.fn Tryd.func50 (by kernel_rfl) rfl (argsE (.cons rfl .nil))) (sha_Sum.calls k _ F none 0 0 ([] : List Int) (Ctx.pre (qs := []) (rest := [CH.row g8 0 ((List.replicate 32 (0 : Int)).map (Value.int .u8))]) C11) rfl (Nat.le_refl _) (Nat.zero_le _) (Sl.nil _ _ _ _) (CH.le_trans hG1 (CH.le_trans (CH.le_refl _) (CH.le_refl _))) (CH.le_trans hG3 (CH.le_trans (CH.le_refl _) (CH.le_refl _))) r14 hg13) ?_
    rintro e_ w_ ⟨rfl, C16, ha15⟩
    refine ⟨_, rfl, ?_⟩
    have C17 : Ctx _ _ _ _ F [CH.row g8 0 ((List.replicate 32 (0 : Int)).map (Value.int .u8))] := Ctx.call (qs := []) (rest := [CH.row g8 0 ((List.replicate 32 (0 : Int)).map (Value.int .u8))]) C11 C16
    obtain ⟨w18, hy19, C20⟩ := ev_set (P := Tryd.prog) (ps1 := []) (ps2 := []) (t := 33) (o := 0) ((List.replicate 32 (0 : Int)).map (Value.int .u8)) [] ((List.replicate 32 (0 : Int)).map (Value.int .u8)) [] (r14.map (Value.int .u8)) (.agg (List.toArray (r14.map (Value.int .u8)))) C17 (by first | (simp only [List.length_append, List.length_map, List.length_cons, List.length_nil, (List.length_replicate ..), ha15]; done) | simp [(List.length_replicate ..), ha15]) (by first | (simp only [List.length_append, List.length_map, List.length_cons, List.length_nil, (List.length_replicate ..), ha15]; done) | simp [(List.length_replicate ..), ha15]) (by first | (simp only [List.length_append, List.length_map, List.length_cons, List.length_nil, (List.length_replicate ..), ha15]; done) | simp [(List.length_replicate ..), ha15]) rfl (one_ints _ _) (sz_of sz33 (by first | (simp only [List.length_append, List.length_map, List.length_cons, List.length_nil, ha15]; done) | simp [ha15]))
    have C21 : Ctx _ _ _ _ F [CH.row g8 0 (r14.map (Value.int .u8))] := (by simpa using C20)
    refine WL.skip (hy19 _ _ _ _ rfl rfl) ?_
    refine WL.done ?_
    refine W.ret ?_
    refine thenE_r ?_
    have C22 : Ctx _ _ _ _ F [] := Ctx.drop [] [] C21
    have e23 := Option.some.inj H
    subst e23
    exact post_r (resEC rfl ((.cell rfl (run_loadVA2 (g := g8) (off := 0) (o := 0) (cs := r14.map (Value.int .u8)) (us := r14.map (Value.int .u8)) Tryd.underlying33 rfl (sz_of sz33 (by first | (simp only [List.length_append, List.length_map, List.length_cons, List.length_nil, ha15]; done) | simp [ha15])) (Ctx.sub_of [] [] C21) (take_all _)) .nil))) ⟨rfl, C22, ha15⟩
  · skip
    refine W.condF (congrArg Value.bool (decide_eq_false hc12)) ?_
    refine W.skip ?_
    refine W.seq ?_
    refine W.region rfl ?_
    refine WL.val (Yl.assign (v := .slice none 0 0) rfl) ?_
    refine WL.done ?_
    refine W.seq ?_
    refine W.seq ?_
    refine W.region rfl ?_
    refine WL.val (Yl.move (v := .slice A1 n3 c2) rfl) ?_
    refine WL.val (Yl.lenN (A := A1) (l := n3) (q := c2) (n := (a0.length : Int)) rfl Tryd.underlying31 (by omega)) ?_
    refine WL.val (Yl.move (v := .int .i64 0) rfl) ?_
    refine WL.done ?_
    obtain ⟨x850, hX858, H⟩ := bindE H
    refine W.cutM (fun env_ w_ => ∃ (A851 : Option Addr) (c852 : Nat) (n853 : Nat) (p855 : CH), env_ 2 = .pointer (some ⟨g8, 0, none⟩) ∧ env_ 3 = .slice A851 n853 c852 ∧ Ctx w F D w_ F [p855, CH.row g8 0 ((List.replicate 32 (0 : Int)).map (Value.int .u8))] ∧ n853 = x850.length ∧ Row (Kd.arrI 32 .u8) F p855 (.slice A851 n853 c852) x850) ?_ ?_
    · skip
      refine W.block ?_
      have C1277 : Ctx _ _ _ _ F [CH.emp, CH.row g8 0 ((List.replicate 32 (0 : Int)).map (Value.int .u8))] := Ctx.emp C11
      refine W.loop (fun g_ env_ w_ => ∃ (x861 : List (List Int)) (x871 : Int) (A862 : Option Addr) (c863 : Nat) (n864 : Nat) (p866 : CH), env_ 2 = .pointer (some ⟨g8, 0, none⟩) ∧ env_ 3 = .slice A862 n864 c863 ∧ env_ 15 = .slice A1 n3 c2 ∧ env_ 16 = .int .i64 (a0.length : Int) ∧ env_ 17 = .int .i64 x871 ∧ Ctx w F D w_ F [p866, CH.row g8 0 ((List.replicate 32 (0 : Int)).map (Value.int .u8))] ∧ n864 = x861.length ∧ Row (Kd.arrI 32 .u8) F p866 (.slice A862 n864 c863) x861 ∧ proof_Root.l1 g_ a0 x861 x871 = some x850) k ⟨([] : List (List Int)), 0, none, 0, 0, CH.emp, rfl, rfl, rfl, rfl, rfl, C1277, rfl, (Row.nil _ _), hX858⟩ ?_
      clear hX858
      rintro g_ env_ w_ ⟨x861, x871, A862, c863, n864, p866, ho859, ho860, ho868, ho869, ho870, C872, hn865, hR867, hX858⟩
      rcases g_ with _ | k1276
      · exact absurd hX858 (by simp [proof_Root.l1])
      rw [proof_Root.l1] at hX858
      refine W.seq ?_
      refine W.region rfl ?_
      refine WL.val (Yl.lss (m := x871) (n := (a0.length : Int)) (q := decide (x871 < (a0.length : Int))) ho870 ho869 rfl) ?_
      refine WL.done ?_
      refine W.seq ?_
      rcases iteE hX858 with ⟨hc1278, hX858⟩ | ⟨hc1278, hX858⟩
      · skip
        refine W.condT (congrArg Value.bool (decide_eq_true hc1278)) ?_
        refine W.skip ?_
        refine W.seq ?_
        refine W.block ?_
        refine W.seq ?_
        refine W.region rfl ?_
        refine WL.val (Yl.move (v := .int .i64 x871) ho870) ?_
        obtain ⟨hc1279, hX858⟩ := guardE hX858
        obtain ⟨b1280, of1281, hA1282, he1283⟩ := hS7 (by omega)
        refine WL.val (Yl.elemAddr (i := x871) ho868 ho870 hA1282 Tryd.underlying31 sz33 (by omega)) ?_
        obtain ⟨cs1284, hr1285, hx1286⟩ := he1283 x871.toNat _ (getD_some (d := []) (by omega))
        obtain ⟨rfl, ha1287⟩ := hr1285
        refine WL.val (Yl.loadAgg (cs := (a0.getD x871.toNat []).map (Value.int .u8)) rfl Tryd.underlying33 rfl (sz_of sz33 (by first | (simp only [List.length_append, List.length_map, List.length_cons, List.length_nil, ha1287]; done) | simp [ha1287])) (fun j u hu => by rw [add_of]; exact ((C872.fro)).cell (hx1286 _ _ hu))) ?_
        obtain ⟨g1288, w1289, hy1290, C1291⟩ := ev_alloc (P := Tryd.prog) (e := 33) ((List.replicate 32 (0 : Int)).map (Value.int .u8)) C872 zr33 rfl
        refine WL.val (hy1290 _ _) ?_
        refine WL.val (Yl.assign (v := .int .i64 x871) rfl) ?_
        obtain ⟨w1292, hy1293, C1294⟩ := ev_set (P := Tryd.prog) (ps1 := []) (ps2 := [p866, CH.row g8 0 ((List.replicate 32 (0 : Int)).map (Value.int .u8))]) (t := 33) (o := 0) ((List.replicate 32 (0 : Int)).map (Value.int .u8)) [] ((List.replicate 32 (0 : Int)).map (Value.int .u8)) [] ((a0.getD x871.toNat []).map (Value.int .u8)) (.agg (List.toArray ((a0.getD x871.toNat []).map (Value.int .u8)))) C1291 (by first | (simp only [List.length_append, List.length_map, List.length_cons, List.length_nil, (List.length_replicate ..), ha1287]; done) | simp [(List.length_replicate ..), ha1287]) (by first | (simp only [List.length_append, List.length_map, List.length_cons, List.length_nil, (List.length_replicate ..), ha1287]; done) | simp [(List.length_replicate ..), ha1287]) (by first | (simp only [List.length_append, List.length_map, List.length_cons, List.length_nil, (List.length_replicate ..), ha1287]; done) | simp [(List.length_replicate ..), ha1287]) rfl (one_ints _ _) (sz_of sz33 (by first | (simp only [List.length_append, List.length_map, List.length_cons, List.length_nil, ha1287]; done) | simp [ha1287]))
        have C1295 : Ctx _ _ _ _ F [CH.row g1288 0 ((a0.getD x871.toNat []).map (Value.int .u8)), p866, CH.row g8 0 ((List.replicate 32 (0 : Int)).map (Value.int .u8))] := (by simpa using C1294)
        refine WL.skip (hy1293 _ _ _ _ rfl rfl) ?_
        refine WL.done ?_
        refine W.seq ?_
        refine W.seq ?_
        refine W.region rfl ?_
        refine WL.val (Yl.move (v := .int .i64 x871) rfl) ?_
        refine WL.val (Yl.assign (v := .int .i64 x871) rfl) ?_
        refine WL.done ?_
        obtain ⟨⟨x1472, x1483⟩, hX1486, hX858⟩ := bindE hX858
        refine W.cutM (fun env_ w_ => ∃ (A1473 : Option Addr) (c1474 : Nat) (n1475 : Nat) (p1477 : CH), env_ 2 = .pointer (some ⟨g8, 0, none⟩) ∧ env_ 3 = .slice A1473 n1475 c1474 ∧ env_ 5 = .pointer (some ⟨g1288, 0, none⟩) ∧ env_ 15 = .slice A1 n3 c2 ∧ env_ 16 = .int .i64 (a0.length : Int) ∧ env_ 17 = .int .i64 x871 ∧ Ctx w F D w_ F [p1477, CH.row g1288 0 (x1483.map (Value.int .u8)), CH.row g8 0 ((List.replicate 32 (0 : Int)).map (Value.int .u8))] ∧ n1475 = x1472.length ∧ Row (Kd.arrI 32 .u8) F p1477 (.slice A1473 n1475 c1474) x1472 ∧ x1483.length = 32) ?_ ?_
        · skip
          refine W.block ?_
          have C1614 : Ctx _ _ _ _ F [p866, CH.row g1288 0 ((a0.getD x871.toNat []).map (Value.int .u8)), CH.row g8 0 ((List.replicate 32 (0 : Int)).map (Value.int .u8))] := Ctx.swap [] [CH.row g8 0 ((List.replicate 32 (0 : Int)).map (Value.int .u8))] C1295
          refine W.loop (fun g_ env_ w_ => ∃ (x1551 : List (List Int)) (x1560 : Int) (x1564 : List Int) (A1552 : Option Addr) (c1553 : Nat) (n1554 : Nat) (p1556 : CH), env_ 2 = .pointer (some ⟨g8, 0, none⟩) ∧ env_ 3 = .slice A1552 n1554 c1553 ∧ env_ 5 = .pointer (some ⟨g1288, 0, none⟩) ∧ env_ 6 = .int .i64 x1560 ∧ env_ 15 = .slice A1 n3 c2 ∧ env_ 16 = .int .i64 (a0.length : Int) ∧ env_ 17 = .int .i64 x871 ∧ Ctx w F D w_ F [p1556, CH.row g1288 0 (x1564.map (Value.int .u8)), CH.row g8 0 ((List.replicate 32 (0 : Int)).map (Value.int .u8))] ∧ n1554 = x1551.length ∧ Row (Kd.arrI 32 .u8) F p1556 (.slice A1552 n1554 c1553) x1551 ∧ x1564.length = 32 ∧ proof_Root.l2 g_ x1551 x1560 x1564 = some (x1472, x1483)) k1276 ⟨x861, x871, a0.getD x871.toNat [], A862, c863, n864, p866, ho859, ho860, rfl, rfl, ho868, ho869, ho870, C1614, hn865, hR867, ha1287, hX1486⟩ ?_
          clear hX1486
          rintro g_ env_ w_ ⟨x1551, x1560, x1564, A1552, c1553, n1554, p1556, ho1549, ho1550, ho1558, ho1559, ho1561, ho1562, ho1563, C1566, hn1555, hR1557, ha1565, hX1486⟩
          rcases g_ with _ | k1613
          · exact absurd hX1486 (by simp [proof_Root.l2])
          rw [proof_Root.l2] at hX1486
          refine W.seq ?_
          refine W.seq ?_
          refine W.region rfl ?_
          refine WL.val (Yl.move (v := .int .i64 x1560) ho1559) ?_
          refine WL.val (Yl.and (m := x1560) (n := 1) (r := bitsOp .and .i64 x1560 1) rfl rfl rfl) ?_
          refine WL.val (Yl.eql (m := bitsOp .and .i64 x1560 1) (n := 1) (q := decide ((bitsOp .and .i64 x1560 1) = 1)) rfl rfl rfl) ?_
          refine WL.done ?_
          rcases iteE hX1486 with ⟨hc1615, hX1486⟩ | ⟨hc1615, hX1486⟩
          · skip
            refine W.condT (congrArg Value.bool (decide_eq_true hc1615)) ?_
            refine W.skip ?_
            refine W.seq ?_
            refine W.block ?_
            refine W.seq ?_
            refine W.region rfl ?_
            refine WL.val (Yl.move (v := .slice A1552 n1554 c1553) ho1550) ?_
            refine WL.val (Yl.lenN (A := A1552) (l := n1554) (q := c1553) (n := (x1551.length : Int)) rfl Tryd.underlying31 (by omega)) ?_
            refine WL.val (Yl.sub (m := (x1551.length : Int)) (n := 1) (r := wi64 ((x1551.length : Int) - 1)) rfl rfl rfl) ?_
            refine WL.val (Yl.assign (v := .int .i64 (wi64 ((x1551.length : Int) - 1))) rfl) ?_
            refine WL.done ?_
            refine W.regionA [([5, 9], p1556), ([5, 9], CH.row g1288 0 (x1564.map (Value.int .u8)))] (by kernel_rfl) ?_
            have C1638 := Ctx.drewN C1566 1
            refine WA.take none [] 0 rfl (by kernel_rfl) (by kernel_rfl) (show _ = #[true, false, false, false, false, false, false, false, false, false, false] from rfl) trivial ⟨(Ctx.sub_of [] [CH.row g1288 0 (x1564.map (Value.int .u8)), CH.row g8 0 ((List.replicate 32 (0 : Int)).map (Value.int .u8))] C1638), (Ctx.sub_of [p1556] [CH.row g8 0 ((List.replicate 32 (0 : Int)).map (Value.int .u8))] C1638), trivial⟩ (fun _ hC_ => Yl.move (v := .slice A1552 n1554 c1553) ho1550) ?_
            refine WA.take none [] 1 rfl (by kernel_rfl) (by kernel_rfl) (show _ = #[true, true, false, false, false, false, false, false, false, false, false] from rfl) trivial ⟨(Ctx.sub_of [] [CH.row g1288 0 (x1564.map (Value.int .u8)), CH.row g8 0 ((List.replicate 32 (0 : Int)).map (Value.int .u8))] C1638), (Ctx.sub_of [p1556] [CH.row g8 0 ((List.replicate 32 (0 : Int)).map (Value.int .u8))] C1638), trivial⟩ (fun _ hC_ => Yl.move (v := .int .i64 (wi64 ((x1551.length : Int) - 1))) rfl) ?_
            obtain ⟨hc1639, hX1486⟩ := guardE hX1486
            obtain ⟨b1640, of1641, hA1642, he1643⟩ := (Row.sl hR1557) (by omega)
            refine WA.take none [] 2 rfl (by kernel_rfl) (by kernel_rfl) (show _ = #[true, true, true, false, false, false, false, false, false, false, false] from rfl) trivial ⟨(Ctx.sub_of [] [CH.row g1288 0 (x1564.map (Value.int .u8)), CH.row g8 0 ((List.replicate 32 (0 : Int)).map (Value.int .u8))] C1638), (Ctx.sub_of [p1556] [CH.row g8 0 ((List.replicate 32 (0 : Int)).map (Value.int .u8))] C1638), trivial⟩ (fun _ hC_ => Yl.elemAddr (i := wi64 ((x1551.length : Int) - 1)) rfl rfl hA1642 Tryd.underlying31 sz33 (by omega)) ?_
            obtain ⟨cs1644, hr1645, hx1646⟩ := he1643 (wi64 ((x1551.length : Int) - 1)).toNat _ (getD_some (d := []) (by omega))
            obtain ⟨rfl, ha1647⟩ := hr1645
            refine WA.take (some 0) [5, 9, 10] 3 rfl (by kernel_rfl) (by kernel_rfl) (show _ = #[true, true, true, true, false, false, false, false, false, false, false] from rfl) (Ctx.sub_of [] [CH.row g1288 0 (x1564.map (Value.int .u8)), CH.row g8 0 ((List.replicate 32 (0 : Int)).map (Value.int .u8))] C1638) ⟨(Ctx.sub_of [] [CH.row g1288 0 (x1564.map (Value.int .u8)), CH.row g8 0 ((List.replicate 32 (0 : Int)).map (Value.int .u8))] C1638), (Ctx.sub_of [p1556] [CH.row g8 0 ((List.replicate 32 (0 : Int)).map (Value.int .u8))] C1638), trivial⟩ (fun _ hC_ => Yl.loadAgg (cs := (x1551.getD (wi64 ((x1551.length : Int) - 1)).toNat []).map (Value.int .u8)) rfl Tryd.underlying33 rfl (sz_of sz33 (by first | (simp only [List.length_append, List.length_map, List.length_cons, List.length_nil, ha1647]; done) | simp [ha1647])) (fun j u hu => by rw [add_of]; exact ((show Sub p1556 _ from hC_)).cell (hx1646 _ _ hu))) ?_
            refine WA.take (some 1) [5, 9, 10] 4 rfl (by kernel_rfl) (by kernel_rfl) (show _ = #[true, true, true, true, true, false, false, false, false, false, false] from rfl) (Ctx.sub_of [p1556] [CH.row g8 0 ((List.replicate 32 (0 : Int)).map (Value.int .u8))] C1638) ⟨(Ctx.sub_of [] [CH.row g1288 0 (x1564.map (Value.int .u8)), CH.row g8 0 ((List.replicate 32 (0 : Int)).map (Value.int .u8))] C1638), (Ctx.sub_of [p1556] [CH.row g8 0 ((List.replicate 32 (0 : Int)).map (Value.int .u8))] C1638), trivial⟩ (fun _ hC_ => Yl.loadVA (g := g1288) (off := 0) (o := 0) (cs := x1564.map (Value.int .u8)) (us := x1564.map (Value.int .u8)) ho1558 Tryd.underlying33 rfl (sz_of sz33 (by first | (simp only [List.length_append, List.length_map, List.length_cons, List.length_nil, ha1565]; done) | simp [ha1565])) (show Sub (CH.row g1288 0 (x1564.map (Value.int .u8))) _ from hC_) (take_all _)) ?_
            refine WA.take none [] 6 rfl (by kernel_rfl) (by kernel_rfl) (show _ = #[true, true, true, true, true, false, true, false, false, false, false] from rfl) trivial ⟨(Ctx.sub_of [] [CH.row g1288 0 (x1564.map (Value.int .u8)), CH.row g8 0 ((List.replicate 32 (0 : Int)).map (Value.int .u8))] C1638), (Ctx.sub_of [p1556] [CH.row g8 0 ((List.replicate 32 (0 : Int)).map (Value.int .u8))] C1638), trivial⟩ (fun _ hC_ => Yl.move (v := .slice A1552 n1554 c1553) ho1550) ?_
            refine WA.take none [] 7 rfl (by kernel_rfl) (by kernel_rfl) (show _ = #[true, true, true, true, true, false, true, true, false, false, false] from rfl) trivial ⟨(Ctx.sub_of [] [CH.row g1288 0 (x1564.map (Value.int .u8)), CH.row g8 0 ((List.replicate 32 (0 : Int)).map (Value.int .u8))] C1638), (Ctx.sub_of [p1556] [CH.row g8 0 ((List.replicate 32 (0 : Int)).map (Value.int .u8))] C1638), trivial⟩ (fun _ hC_ => Yl.move (v := .int .i64 (wi64 ((x1551.length : Int) - 1))) rfl) ?_
            obtain ⟨hc1648, hX1486⟩ := guardE hX1486
            have hl1651 := (Row.len_le hR1557).1
            obtain ⟨hn1649, hR1650⟩ := Row.take hR1557 (wi64 ((x1551.length : Int) - 1)).toNat (by omega)
            refine WA.take none [] 8 rfl (by kernel_rfl) (by kernel_rfl) (show _ = #[true, true, true, true, true, false, true, true, true, false, false] from rfl) trivial ⟨(Ctx.sub_of [] [CH.row g1288 0 (x1564.map (Value.int .u8)), CH.row g8 0 ((List.replicate 32 (0 : Int)).map (Value.int .u8))] C1638), (Ctx.sub_of [p1556] [CH.row g8 0 ((List.replicate 32 (0 : Int)).map (Value.int .u8))] C1638), trivial⟩ (fun _ hC_ => Yl.sliceHi rfl Tryd.underlying31 sz33 rfl ⟨hc1648.1, by omega⟩) ?_
            obtain ⟨r1653, hg1652, hX1486⟩ := bindE hX1486
            refine WA.up1 5 (by kernel_rfl) (Up.call (args := #[.agg (List.toArray ((x1551.getD (wi64 ((x1551.length : Int) - 1)).toNat []).map (Value.int .u8))), .agg (List.toArray (x1564.map (Value.int .u8)))]) rfl (by kernel_rfl) (show _ = #[true, true, true, true, true, true, true, true, true, false, false] from rfl) (Yenter.fn Tryd.func25 (by kernel_rfl) rfl (argsE (.cons rfl (.cons rfl .nil)))) (proof_Node.calls k1613 _ F (x1551.getD (wi64 ((x1551.length : Int) - 1)).toNat []) x1564 (Ctx.pre (qs := []) (rest := [p1556, CH.row g1288 0 (x1564.map (Value.int .u8)), CH.row g8 0 ((List.replicate 32 (0 : Int)).map (Value.int .u8))]) C1638) ha1647 ha1565 (CH.le_trans hG1 (CH.le_trans (CH.le_refl _) (CH.le_refl _))) (CH.le_trans hG3 (CH.le_trans (CH.le_refl _) (CH.le_refl _))) r1653 hg1652) ?_)
            rintro e_ w_ ⟨rfl, C1655, ha1654⟩
            have C1656 : Ctx _ _ _ _ F [p1556, CH.row g1288 0 (x1564.map (Value.int .u8)), CH.row g8 0 ((List.replicate 32 (0 : Int)).map (Value.int .u8))] := Ctx.call (qs := []) (rest := [p1556, CH.row g1288 0 (x1564.map (Value.int .u8)), CH.row g8 0 ((List.replicate 32 (0 : Int)).map (Value.int .u8))]) C1638 C1655
            refine ⟨_, rfl, ⟨trivial, trivial, trivial⟩, ?_⟩
            obtain ⟨w1657, hy1658, C1659⟩ := ev_set (P := Tryd.prog) (ps1 := [p1556]) (ps2 := [CH.row g8 0 ((List.replicate 32 (0 : Int)).map (Value.int .u8))]) (t := 33) (o := 0) (x1564.map (Value.int .u8)) [] (x1564.map (Value.int .u8)) [] (r1653.map (Value.int .u8)) (.agg (List.toArray (r1653.map (Value.int .u8)))) C1656 (by first | (simp only [List.length_append, List.length_map, List.length_cons, List.length_nil, ha1565, ha1654]; done) | simp [ha1565, ha1654]) (by first | (simp only [List.length_append, List.length_map, List.length_cons, List.length_nil, ha1565, ha1654]; done) | simp [ha1565, ha1654]) (by first | (simp only [List.length_append, List.length_map, List.length_cons, List.length_nil, ha1565, ha1654]; done) | simp [ha1565, ha1654]) rfl (one_ints _ _) (sz_of sz33 (by first | (simp only [List.length_append, List.length_map, List.length_cons, List.length_nil, ha1654]; done) | simp [ha1654]))
            have C1660 : Ctx _ _ _ _ F [p1556, CH.row g1288 0 (r1653.map (Value.int .u8)), CH.row g8 0 ((List.replicate 32 (0 : Int)).map (Value.int .u8))] := (by simpa using C1659)
            refine WA.up1 9 (by kernel_rfl) (Up.skip rfl (show _ = #[true, true, true, true, true, true, true, true, true, true, false] from rfl) (hy1658 _ _ _ _ ho1558 rfl) ⟨trivial, trivial, trivial⟩ ?_)
            refine WA.take none [] 10 rfl (by kernel_rfl) (by kernel_rfl) (show _ = #[true, true, true, true, true, true, true, true, true, true, true] from rfl) trivial ⟨trivial, trivial, trivial⟩ (fun _ hC_ => Yl.assign (v := .slice A1552 ((wi64 ((x1551.length : Int) - 1)).toNat) c1553) rfl) ?_
            refine WA.done (by kernel_rfl) ?_
            refine inB_n ?_
            refine W.region rfl ?_
            refine WL.val (Yl.move (v := .int .i64 x1560) ho1559) ?_
            refine WL.val (Yl.shr (m := x1560) (n := 1) (r := shrOp .i64 x1560 1) rfl rfl (by decide) rfl) ?_
            refine WL.val (Yl.assign (v := .int .i64 (shrOp .i64 x1560 1)) rfl) ?_
            refine WL.done ?_
            exact thenE_n ⟨k1613, Nat.lt_succ_self _, x1551.take (wi64 ((x1551.length : Int) - 1)).toNat, shrOp .i64 x1560 1, r1653, A1552, c1553, (wi64 ((x1551.length : Int) - 1)).toNat, p1556, ho1549, rfl, ho1558, rfl, ho1561, ho1562, ho1563, C1660, hn1649, hR1650, ha1654, hX1486⟩
          · skip
            refine W.condF (congrArg Value.bool (decide_eq_false hc1615)) ?_
            refine W.exit ?_
            refine thenE_x ?_
            refine thenE_x ?_
            refine inB_here ?_
            cases hX1486
            refine thenE_n ?_
            exact ⟨A1552, c1553, n1554, p1556, ho1549, ho1550, ho1558, ho1561, ho1562, ho1563, C1566, hn1555, hR1557, ha1565⟩
        · skip
          rintro env_ w_ ⟨A1473, c1474, n1475, p1477, ho1470, ho1471, ho1479, ho1480, ho1481, ho1482, C1485, hn1476, hR1478, ha1484⟩
          refine W.region rfl ?_
          refine WL.val (Yl.move (v := .slice A1473 n1475 c1474) ho1471) ?_
          refine WL.val (Yl.loadVA (g := g1288) (off := 0) (o := 0) (cs := x1483.map (Value.int .u8)) (us := x1483.map (Value.int .u8)) ho1479 Tryd.underlying33 rfl (sz_of sz33 (by first | (simp only [List.length_append, List.length_map, List.length_cons, List.length_nil, ha1484]; done) | simp [ha1484])) (Ctx.sub_of [p1477] [CH.row g8 0 ((List.replicate 32 (0 : Int)).map (Value.int .u8))] C1485) (take_all _)) ?_
          obtain ⟨A1661, c1662, n1663, p1664, w1665, hn1666, hy1667, C1668, hR1669⟩ := ev_lit1' (P := Tryd.prog) 33 (Kd.arrI 32 .u8) C1485 Tryd.underlying31 ti33 ⟨by decide, by decide⟩ x1483 (.agg (List.toArray (x1483.map (Value.int .u8)))) ⟨rfl, ha1484⟩
          refine WL.val (hy1667 _ _ _ rfl) ?_
          obtain ⟨hc1670, hX858⟩ := guardE hX858
          obtain ⟨A1671, c1672, n1673, p1674, w1675, hn1676, hy1677, C1678, hR1679⟩ := ev_append' (P := Tryd.prog) (cb := c1662) 33 (Kd.arrI 32 .u8) [p1664] [CH.row g1288 0 (x1483.map (Value.int .u8)), CH.row g8 0 ((List.replicate 32 (0 : Int)).map (Value.int .u8))] C1668 hR1478 hn1666 (Row.sl hR1669) (Ctx.sub_of [] [p1477, CH.row g1288 0 (x1483.map (Value.int .u8)), CH.row g8 0 ((List.replicate 32 (0 : Int)).map (Value.int .u8))] C1668) Tryd.underlying31 ti33 rfl zo33 (by decide) (by decide) (by simpa using hc1670)
          have C1680 : Ctx _ _ _ _ F [p1664, p1674, CH.row g1288 0 (x1483.map (Value.int .u8)), CH.row g8 0 ((List.replicate 32 (0 : Int)).map (Value.int .u8))] := C1678
          refine WL.val (hy1677 _ _ _ _ rfl rfl) ?_
          refine WL.val (Yl.assign (v := .slice A1671 n1673 c1672) rfl) ?_
          refine WL.done ?_
          refine inB_n ?_
          refine W.region rfl ?_
          refine WL.val (Yl.add (m := x871) (n := 1) (r := wi64 (x871 + 1)) ho1482 rfl rfl) ?_
          refine WL.val (Yl.move (v := .int .i64 (wi64 (x871 + 1))) rfl) ?_
          refine WL.done ?_
          have C1681 : Ctx _ _ _ _ F [p1674, CH.row g1288 0 (x1483.map (Value.int .u8)), CH.row g8 0 ((List.replicate 32 (0 : Int)).map (Value.int .u8))] := Ctx.drop [] [p1674, CH.row g1288 0 (x1483.map (Value.int .u8)), CH.row g8 0 ((List.replicate 32 (0 : Int)).map (Value.int .u8))] C1680
          have C1682 : Ctx _ _ _ _ F [p1674, CH.row g8 0 ((List.replicate 32 (0 : Int)).map (Value.int .u8))] := Ctx.drop [p1674] [CH.row g8 0 ((List.replicate 32 (0 : Int)).map (Value.int .u8))] C1681
          exact thenE_n ⟨k1276, Nat.lt_succ_self _, x1472 ++ [x1483], wi64 (x871 + 1), A1671, c1672, n1673, p1674, ho1470, rfl, ho1480, ho1481, rfl, C1682, hn1676, hR1679, hX858⟩
      · skip
        refine W.condF (congrArg Value.bool (decide_eq_false hc1278)) ?_
        refine W.exit ?_
        refine thenE_x ?_
        refine thenE_x ?_
        refine inB_here ?_
        cases hX858
        refine thenE_n ?_
        exact ⟨A862, c863, n864, p866, ho859, ho860, C872, hn865, hR867⟩
    · skip
      rintro env_ w_ ⟨A851, c852, n853, p855, ho848, ho849, C857, hn854, hR856⟩
      refine W.seq ?_
      refine W.region rfl ?_
      refine WL.val (Yl.move (v := .slice A851 n853 c852) ho849) ?_
      refine WL.val (Yl.lenN (A := A851) (l := n853) (q := c852) (n := (x850.length : Int)) rfl Tryd.underlying31 (by omega)) ?_
      refine WL.val (Yl.sub (m := (x850.length : Int)) (n := 1) (r := wi64 ((x850.length : Int) - 1)) rfl rfl rfl) ?_
      refine WL.val (Yl.assign (v := .int .i64 (wi64 ((x850.length : Int) - 1))) rfl) ?_
      refine WL.done ?_
      refine W.seq ?_
      refine W.region rfl ?_
      refine WL.val (Yl.move (v := .slice A851 n853 c852) ho849) ?_
      refine WL.val (Yl.move (v := .int .i64 (wi64 ((x850.length : Int) - 1))) rfl) ?_
      obtain ⟨hc1683, H⟩ := guardE H
      obtain ⟨b1684, of1685, hA1686, he1687⟩ := (Row.sl hR856) (by omega)
      refine WL.val (Yl.elemAddr (i := wi64 ((x850.length : Int) - 1)) rfl rfl hA1686 Tryd.underlying31 sz33 (by omega)) ?_
      obtain ⟨cs1688, hr1689, hx1690⟩ := he1687 (wi64 ((x850.length : Int) - 1)).toNat _ (getD_some (d := []) (by omega))
      obtain ⟨rfl, ha1691⟩ := hr1689
      refine WL.val (Yl.loadAgg (cs := (x850.getD (wi64 ((x850.length : Int) - 1)).toNat []).map (Value.int .u8)) rfl Tryd.underlying33 rfl (sz_of sz33 (by first | (simp only [List.length_append, List.length_map, List.length_cons, List.length_nil, ha1691]; done) | simp [ha1691])) (fun j u hu => by rw [add_of]; exact ((Ctx.sub_of [] [CH.row g8 0 ((List.replicate 32 (0 : Int)).map (Value.int .u8))] C857)).cell (hx1690 _ _ hu))) ?_
      obtain ⟨g1692, w1693, hy1694, C1695⟩ := ev_alloc (P := Tryd.prog) (e := 33) ((List.replicate 32 (0 : Int)).map (Value.int .u8)) C857 zr33 rfl
      refine WL.val (hy1694 _ _) ?_
      obtain ⟨w1696, hy1697, C1698⟩ := ev_set (P := Tryd.prog) (ps1 := []) (ps2 := [p855, CH.row g8 0 ((List.replicate 32 (0 : Int)).map (Value.int .u8))]) (t := 33) (o := 0) ((List.replicate 32 (0 : Int)).map (Value.int .u8)) [] ((List.replicate 32 (0 : Int)).map (Value.int .u8)) [] ((x850.getD (wi64 ((x850.length : Int) - 1)).toNat []).map (Value.int .u8)) (.agg (List.toArray ((x850.getD (wi64 ((x850.length : Int) - 1)).toNat []).map (Value.int .u8)))) C1695 (by first | (simp only [List.length_append, List.length_map, List.length_cons, List.length_nil, (List.length_replicate ..), ha1691]; done) | simp [(List.length_replicate ..), ha1691]) (by first | (simp only [List.length_append, List.length_map, List.length_cons, List.length_nil, (List.length_replicate ..), ha1691]; done) | simp [(List.length_replicate ..), ha1691]) (by first | (simp only [List.length_append, List.length_map, List.length_cons, List.length_nil, (List.length_replicate ..), ha1691]; done) | simp [(List.length_replicate ..), ha1691]) rfl (one_ints _ _) (sz_of sz33 (by first | (simp only [List.length_append, List.length_map, List.length_cons, List.length_nil, ha1691]; done) | simp [ha1691]))
      have C1699 : Ctx _ _ _ _ F [CH.row g1692 0 ((x850.getD (wi64 ((x850.length : Int) - 1)).toNat []).map (Value.int .u8)), p855, CH.row g8 0 ((List.replicate 32 (0 : Int)).map (Value.int .u8))] := (by simpa using C1698)
      refine WL.skip (hy1697 _ _ _ _ rfl rfl) ?_
      refine WL.done ?_
      refine W.seq ?_
      refine W.seq ?_
      refine W.region rfl ?_
      refine WL.val (Yl.move (v := .int .i64 (wi64 ((x850.length : Int) - 1))) rfl) ?_
      refine WL.val (Yl.move (v := .int .i64 0) rfl) ?_
      refine WL.done ?_
      obtain ⟨x1811, hX1814, H⟩ := bindE H
      refine W.cutM (fun env_ w_ => env_ 2 = .pointer (some ⟨g8, 0, none⟩) ∧ env_ 9 = .pointer (some ⟨g1692, 0, none⟩) ∧ Ctx w F D w_ F [CH.row g1692 0 (x1811.map (Value.int .u8)), p855, CH.row g8 0 ((List.replicate 32 (0 : Int)).map (Value.int .u8))] ∧ x1811.length = 32) ?_ ?_
      · skip
        refine W.block ?_
        refine W.loop (fun g_ env_ w_ => ∃ (x1859 : Int) (x1860 : List Int), env_ 2 = .pointer (some ⟨g8, 0, none⟩) ∧ env_ 3 = .slice A851 n853 c852 ∧ env_ 8 = .int .i64 (wi64 ((x850.length : Int) - 1)) ∧ env_ 9 = .pointer (some ⟨g1692, 0, none⟩) ∧ env_ 52 = .int .i64 (wi64 ((x850.length : Int) - 1)) ∧ env_ 53 = .int .i64 x1859 ∧ Ctx w F D w_ F [CH.row g1692 0 (x1860.map (Value.int .u8)), p855, CH.row g8 0 ((List.replicate 32 (0 : Int)).map (Value.int .u8))] ∧ x1860.length = 32 ∧ proof_Root.l3 g_ x850 x1859 x1860 = some x1811) k ⟨0, x850.getD (wi64 ((x850.length : Int) - 1)).toNat [], ho848, ho849, rfl, rfl, rfl, rfl, C1699, ha1691, hX1814⟩ ?_
        clear hX1814
        rintro g_ env_ w_ ⟨x1859, x1860, ho1853, ho1854, ho1855, ho1856, ho1857, ho1858, C1862, ha1861, hX1814⟩
        rcases g_ with _ | k1893
        · exact absurd hX1814 (by simp [proof_Root.l3])
        rw [proof_Root.l3] at hX1814
        refine W.seq ?_
        refine W.region rfl ?_
        refine WL.val (Yl.lss (m := x1859) (n := wi64 ((x850.length : Int) - 1)) (q := decide (x1859 < (wi64 ((x850.length : Int) - 1)))) ho1858 ho1857 rfl) ?_
        refine WL.done ?_
        refine W.seq ?_
        rcases iteE hX1814 with ⟨hc1894, hX1814⟩ | ⟨hc1894, hX1814⟩
        · skip
          refine W.condT (congrArg Value.bool (decide_eq_true hc1894)) ?_
          refine W.skip ?_
          refine W.seq ?_
          refine W.block ?_
          refine W.seq ?_
          refine W.region rfl ?_
          refine WL.val (Yl.move (v := .int .i64 x1859) ho1858) ?_
          refine WL.val (Yl.assign (v := .int .i64 x1859) rfl) ?_
          refine WL.done ?_
          refine W.regionA [([8, 9], p855), ([8, 9], CH.row g1692 0 (x1860.map (Value.int .u8)))] (by kernel_rfl) ?_
          have C1909 := Ctx.drewN C1862 1
          refine WA.take none [] 0 rfl (by kernel_rfl) (by kernel_rfl) (show _ = #[true, false, false, false, false, false, false, false, false, false] from rfl) trivial ⟨(Ctx.sub_of [CH.row g1692 0 (x1860.map (Value.int .u8))] [CH.row g8 0 ((List.replicate 32 (0 : Int)).map (Value.int .u8))] C1909), (Ctx.sub_of [] [p855, CH.row g8 0 ((List.replicate 32 (0 : Int)).map (Value.int .u8))] C1909), trivial⟩ (fun _ hC_ => Yl.move (v := .slice A851 n853 c852) ho1854) ?_
          refine WA.take none [] 1 rfl (by kernel_rfl) (by kernel_rfl) (show _ = #[true, true, false, false, false, false, false, false, false, false] from rfl) trivial ⟨(Ctx.sub_of [CH.row g1692 0 (x1860.map (Value.int .u8))] [CH.row g8 0 ((List.replicate 32 (0 : Int)).map (Value.int .u8))] C1909), (Ctx.sub_of [] [p855, CH.row g8 0 ((List.replicate 32 (0 : Int)).map (Value.int .u8))] C1909), trivial⟩ (fun _ hC_ => Yl.move (v := .int .i64 (wi64 ((x850.length : Int) - 1))) ho1855) ?_
          refine WA.take none [] 2 rfl (by kernel_rfl) (by kernel_rfl) (show _ = #[true, true, true, false, false, false, false, false, false, false] from rfl) trivial ⟨(Ctx.sub_of [CH.row g1692 0 (x1860.map (Value.int .u8))] [CH.row g8 0 ((List.replicate 32 (0 : Int)).map (Value.int .u8))] C1909), (Ctx.sub_of [] [p855, CH.row g8 0 ((List.replicate 32 (0 : Int)).map (Value.int .u8))] C1909), trivial⟩ (fun _ hC_ => Yl.sub (m := wi64 ((x850.length : Int) - 1)) (n := 1) (r := wi64 ((wi64 ((x850.length : Int) - 1)) - 1)) rfl rfl rfl) ?_
          refine WA.take none [] 3 rfl (by kernel_rfl) (by kernel_rfl) (show _ = #[true, true, true, true, false, false, false, false, false, false] from rfl) trivial ⟨(Ctx.sub_of [CH.row g1692 0 (x1860.map (Value.int .u8))] [CH.row g8 0 ((List.replicate 32 (0 : Int)).map (Value.int .u8))] C1909), (Ctx.sub_of [] [p855, CH.row g8 0 ((List.replicate 32 (0 : Int)).map (Value.int .u8))] C1909), trivial⟩ (fun _ hC_ => Yl.move (v := .int .i64 x1859) rfl) ?_
          refine WA.take none [] 4 rfl (by kernel_rfl) (by kernel_rfl) (show _ = #[true, true, true, true, true, false, false, false, false, false] from rfl) trivial ⟨(Ctx.sub_of [CH.row g1692 0 (x1860.map (Value.int .u8))] [CH.row g8 0 ((List.replicate 32 (0 : Int)).map (Value.int .u8))] C1909), (Ctx.sub_of [] [p855, CH.row g8 0 ((List.replicate 32 (0 : Int)).map (Value.int .u8))] C1909), trivial⟩ (fun _ hC_ => Yl.sub (m := wi64 ((wi64 ((x850.length : Int) - 1)) - 1)) (n := x1859) (r := wi64 ((wi64 ((wi64 ((x850.length : Int) - 1)) - 1)) - x1859)) rfl rfl rfl) ?_
          obtain ⟨hc1910, hX1814⟩ := guardE hX1814
          refine WA.take none [] 5 rfl (by kernel_rfl) (by kernel_rfl) (show _ = #[true, true, true, true, true, true, false, false, false, false] from rfl) trivial ⟨(Ctx.sub_of [CH.row g1692 0 (x1860.map (Value.int .u8))] [CH.row g8 0 ((List.replicate 32 (0 : Int)).map (Value.int .u8))] C1909), (Ctx.sub_of [] [p855, CH.row g8 0 ((List.replicate 32 (0 : Int)).map (Value.int .u8))] C1909), trivial⟩ (fun _ hC_ => Yl.elemAddr (i := wi64 ((wi64 ((wi64 ((x850.length : Int) - 1)) - 1)) - x1859)) rfl rfl hA1686 Tryd.underlying31 sz33 (by omega)) ?_
          obtain ⟨cs1911, hr1912, hx1913⟩ := he1687 (wi64 ((wi64 ((wi64 ((x850.length : Int) - 1)) - 1)) - x1859)).toNat _ (getD_some (d := []) (by omega))
          obtain ⟨rfl, ha1914⟩ := hr1912
          refine WA.take (some 0) [8, 9] 6 rfl (by kernel_rfl) (by kernel_rfl) (show _ = #[true, true, true, true, true, true, true, false, false, false] from rfl) (Ctx.sub_of [CH.row g1692 0 (x1860.map (Value.int .u8))] [CH.row g8 0 ((List.replicate 32 (0 : Int)).map (Value.int .u8))] C1909) ⟨(Ctx.sub_of [CH.row g1692 0 (x1860.map (Value.int .u8))] [CH.row g8 0 ((List.replicate 32 (0 : Int)).map (Value.int .u8))] C1909), (Ctx.sub_of [] [p855, CH.row g8 0 ((List.replicate 32 (0 : Int)).map (Value.int .u8))] C1909), trivial⟩ (fun _ hC_ => Yl.loadAgg (cs := (x850.getD (wi64 ((wi64 ((wi64 ((x850.length : Int) - 1)) - 1)) - x1859)).toNat []).map (Value.int .u8)) rfl Tryd.underlying33 rfl (sz_of sz33 (by first | (simp only [List.length_append, List.length_map, List.length_cons, List.length_nil, ha1914]; done) | simp [ha1914])) (fun j u hu => by rw [add_of]; exact ((show Sub p855 _ from hC_)).cell (hx1913 _ _ hu))) ?_
          refine WA.take (some 1) [8, 9] 7 rfl (by kernel_rfl) (by kernel_rfl) (show _ = #[true, true, true, true, true, true, true, true, false, false] from rfl) (Ctx.sub_of [] [p855, CH.row g8 0 ((List.replicate 32 (0 : Int)).map (Value.int .u8))] C1909) ⟨(Ctx.sub_of [CH.row g1692 0 (x1860.map (Value.int .u8))] [CH.row g8 0 ((List.replicate 32 (0 : Int)).map (Value.int .u8))] C1909), (Ctx.sub_of [] [p855, CH.row g8 0 ((List.replicate 32 (0 : Int)).map (Value.int .u8))] C1909), trivial⟩ (fun _ hC_ => Yl.loadVA (g := g1692) (off := 0) (o := 0) (cs := x1860.map (Value.int .u8)) (us := x1860.map (Value.int .u8)) ho1856 Tryd.underlying33 rfl (sz_of sz33 (by first | (simp only [List.length_append, List.length_map, List.length_cons, List.length_nil, ha1861]; done) | simp [ha1861])) (show Sub (CH.row g1692 0 (x1860.map (Value.int .u8))) _ from hC_) (take_all _)) ?_
          obtain ⟨r1916, hg1915, hX1814⟩ := bindE hX1814
          refine WA.up1 8 (by kernel_rfl) (Up.call (args := #[.agg (List.toArray ((x850.getD (wi64 ((wi64 ((wi64 ((x850.length : Int) - 1)) - 1)) - x1859)).toNat []).map (Value.int .u8))), .agg (List.toArray (x1860.map (Value.int .u8)))]) rfl (by kernel_rfl) (show _ = #[true, true, true, true, true, true, true, true, true, false] from rfl) (Yenter.fn Tryd.func25 (by kernel_rfl) rfl (argsE (.cons rfl (.cons rfl .nil)))) (proof_Node.calls k1893 _ F (x850.getD (wi64 ((wi64 ((wi64 ((x850.length : Int) - 1)) - 1)) - x1859)).toNat []) x1860 (Ctx.pre (qs := []) (rest := [CH.row g1692 0 (x1860.map (Value.int .u8)), p855, CH.row g8 0 ((List.replicate 32 (0 : Int)).map (Value.int .u8))]) C1909) ha1914 ha1861 (CH.le_trans hG1 (CH.le_trans (CH.le_refl _) (CH.le_refl _))) (CH.le_trans hG3 (CH.le_trans (CH.le_refl _) (CH.le_refl _))) r1916 hg1915) ?_)
          rintro e_ w_ ⟨rfl, C1918, ha1917⟩
          have C1919 : Ctx _ _ _ _ F [CH.row g1692 0 (x1860.map (Value.int .u8)), p855, CH.row g8 0 ((List.replicate 32 (0 : Int)).map (Value.int .u8))] := Ctx.call (qs := []) (rest := [CH.row g1692 0 (x1860.map (Value.int .u8)), p855, CH.row g8 0 ((List.replicate 32 (0 : Int)).map (Value.int .u8))]) C1909 C1918
          refine ⟨_, rfl, ⟨trivial, trivial, trivial⟩, ?_⟩
          obtain ⟨w1920, hy1921, C1922⟩ := ev_set (P := Tryd.prog) (ps1 := []) (ps2 := [p855, CH.row g8 0 ((List.replicate 32 (0 : Int)).map (Value.int .u8))]) (t := 33) (o := 0) (x1860.map (Value.int .u8)) [] (x1860.map (Value.int .u8)) [] (r1916.map (Value.int .u8)) (.agg (List.toArray (r1916.map (Value.int .u8)))) C1919 (by first | (simp only [List.length_append, List.length_map, List.length_cons, List.length_nil, ha1861, ha1917]; done) | simp [ha1861, ha1917]) (by first | (simp only [List.length_append, List.length_map, List.length_cons, List.length_nil, ha1861, ha1917]; done) | simp [ha1861, ha1917]) (by first | (simp only [List.length_append, List.length_map, List.length_cons, List.length_nil, ha1861, ha1917]; done) | simp [ha1861, ha1917]) rfl (one_ints _ _) (sz_of sz33 (by first | (simp only [List.length_append, List.length_map, List.length_cons, List.length_nil, ha1917]; done) | simp [ha1917]))
          have C1923 : Ctx _ _ _ _ F [CH.row g1692 0 (r1916.map (Value.int .u8)), p855, CH.row g8 0 ((List.replicate 32 (0 : Int)).map (Value.int .u8))] := (by simpa using C1922)
          refine WA.up1 9 (by kernel_rfl) (Up.skip rfl (show _ = #[true, true, true, true, true, true, true, true, true, true] from rfl) (hy1921 _ _ _ _ ho1856 rfl) ⟨trivial, trivial, trivial⟩ ?_)
          refine WA.done (by kernel_rfl) ?_
          refine inB_n ?_
          refine W.region rfl ?_
          refine WL.val (Yl.add (m := x1859) (n := 1) (r := wi64 (x1859 + 1)) ho1858 rfl rfl) ?_
          refine WL.val (Yl.move (v := .int .i64 (wi64 (x1859 + 1))) rfl) ?_
          refine WL.done ?_
          exact thenE_n ⟨k1893, Nat.lt_succ_self _, wi64 (x1859 + 1), r1916, ho1853, ho1854, ho1855, ho1856, ho1857, rfl, C1923, ha1917, hX1814⟩
        · skip
          refine W.condF (congrArg Value.bool (decide_eq_false hc1894)) ?_
          refine W.exit ?_
          refine thenE_x ?_
          refine thenE_x ?_
          refine inB_here ?_
          cases hX1814
          refine thenE_n ?_
          exact ⟨ho1853, ho1856, C1862, ha1861⟩
      · skip
        rintro env_ w_ ⟨ho1809, ho1810, C1813, ha1812⟩
        refine W.seq ?_
        refine W.region rfl ?_
        refine WL.val (Yl.loadVA (g := g1692) (off := 0) (o := 0) (cs := x1811.map (Value.int .u8)) (us := x1811.map (Value.int .u8)) ho1810 Tryd.underlying33 rfl (sz_of sz33 (by first | (simp only [List.length_append, List.length_map, List.length_cons, List.length_nil, ha1812]; done) | simp [ha1812])) (Ctx.sub_of [] [p855, CH.row g8 0 ((List.replicate 32 (0 : Int)).map (Value.int .u8))] C1813) (take_all _)) ?_
        obtain ⟨w1924, hy1925, C1926⟩ := ev_set (P := Tryd.prog) (ps1 := [CH.row g1692 0 (x1811.map (Value.int .u8)), p855]) (ps2 := []) (t := 33) (o := 0) ((List.replicate 32 (0 : Int)).map (Value.int .u8)) [] ((List.replicate 32 (0 : Int)).map (Value.int .u8)) [] (x1811.map (Value.int .u8)) (.agg (List.toArray (x1811.map (Value.int .u8)))) C1813 (by first | (simp only [List.length_append, List.length_map, List.length_cons, List.length_nil, (List.length_replicate ..), ha1812]; done) | simp [(List.length_replicate ..), ha1812]) (by first | (simp only [List.length_append, List.length_map, List.length_cons, List.length_nil, (List.length_replicate ..), ha1812]; done) | simp [(List.length_replicate ..), ha1812]) (by first | (simp only [List.length_append, List.length_map, List.length_cons, List.length_nil, (List.length_replicate ..), ha1812]; done) | simp [(List.length_replicate ..), ha1812]) rfl (one_ints _ _) (sz_of sz33 (by first | (simp only [List.length_append, List.length_map, List.length_cons, List.length_nil, ha1812]; done) | simp [ha1812]))
        have C1927 : Ctx _ _ _ _ F [CH.row g1692 0 (x1811.map (Value.int .u8)), p855, CH.row g8 0 (x1811.map (Value.int .u8))] := (by simpa using C1926)
        refine WL.skip (hy1925 _ _ _ _ ho1809 rfl) ?_
        refine WL.done ?_
        refine W.ret ?_
        have C1928 : Ctx _ _ _ _ F [p855, CH.row g8 0 (x1811.map (Value.int .u8))] := Ctx.drop [] [p855, CH.row g8 0 (x1811.map (Value.int .u8))] C1927
        have C1929 : Ctx _ _ _ _ F [CH.row g8 0 (x1811.map (Value.int .u8))] := Ctx.drop [] [CH.row g8 0 (x1811.map (Value.int .u8))] C1928
        have C1930 : Ctx _ _ _ _ F [] := Ctx.drop [] [] C1929
        have e1931 := Option.some.inj H
        subst e1931
        exact post_r (resEC rfl ((.cell ho1809 (run_loadVA2 (g := g8) (off := 0) (o := 0) (cs := x1811.map (Value.int .u8)) (us := x1811.map (Value.int .u8)) Tryd.underlying33 rfl (sz_of sz33 (by first | (simp only [List.length_append, List.length_map, List.length_cons, List.length_nil, ha1812]; done) | simp [ha1812])) (Ctx.sub_of [CH.row g1692 0 (x1811.map (Value.int .u8)), p855] [] C1927) (take_all _)) .nil))) ⟨rfl, C1930, ha1812⟩
def proof_turned.l1 : Nat → List (List Int) → List (List Int) → Int → Option (List (List Int))
  | 0, _, _, _ => none
  | k + 1, a0, x329, x338 => if x338 < (wi64 ((a0.length : Int).tdiv 2)) then (if 0 ≤ (wi64 ((wi64 ((x329.length : Int) - 1)) - x338)) ∧ (wi64 ((wi64 ((x329.length : Int) - 1)) - x338)) < (x329.length : Int) then (if 0 ≤ x338 ∧ x338 < (x329.length : Int) then (if 0 ≤ (wi64 ((wi64 ((x329.length : Int) - 1)) - x338)) ∧ (wi64 ((wi64 ((x329.length : Int) - 1)) - x338)) < ((x329.set x338.toNat (x329.getD (wi64 ((wi64 ((x329.length : Int) - 1)) - x338)).toNat [])).length : Int) then (proof_turned.l1 k a0 ((x329.set x338.toNat (x329.getD (wi64 ((wi64 ((x329.length : Int) - 1)) - x338)).toNat [])).set (wi64 ((wi64 ((x329.length : Int) - 1)) - x338)).toNat (x329.getD x338.toNat [])) (wi64 (x338 + 1))) else none) else none) else none) else (some x329)
def proof_turned.f (k : Nat) (a0 : List (List Int)) : Option (List (List Int)) := (proof_turned.l1 k a0 a0 0).bind fun x242 => some x242
set_option maxRecDepth 100000 in
set_option maxHeartbeats 4000000 in
theorem proof_turned.calls (k : Nat) (w : World) (F : CH) (A1 : Option Addr) (c2 : Nat) (n3 : Nat) (p5 : CH) (a0 : List (List Int)) (hp : Pre w F [p5]) (hn4 : n3 = a0.length) (hR6 : Row (Kd.arrI 32 .u8) F p5 (.slice A1 n3 c2) a0) (r0_ : List (List Int)) (H : proof_turned.f k a0 = some r0_) :
    Calls Tryd.prog 57 #[.slice A1 n3 c2] w fun e w' => ∃ (A486 : Option Addr) (c487 : Nat) (n488 : Nat) (p490 : CH), e = .returned (.slice A486 n488 c487) ∧ Ctx w F (domL [p5]) w' F [p490] ∧ n488 = r0_.length ∧ Row (Kd.arrI 32 .u8) F p490 (.slice A486 n488 c487) r0_ := by
  have C := Ctx.start hp
  generalize hD : domL [p5] = D at C ⊢
  unfold proof_turned.f at H
  refine Calls.ofW Tryd.func57 rfl (by simp [Tryd.ntmps57]) ?_
  refine W.seq ?_
  refine W.region rfl ?_
  refine WL.val (Yl.assign (v := .slice none 0 0) rfl) ?_
  refine WL.done ?_
  refine W.seq ?_
  refine W.seq ?_
  refine W.region rfl ?_
  refine WL.val (Yl.move (v := .slice A1 n3 c2) rfl) ?_
  refine WL.val (Yl.lenN (A := A1) (l := n3) (q := c2) (n := (a0.length : Int)) rfl Tryd.underlying31 (by omega)) ?_
  refine WL.val (Yl.quo (m := (a0.length : Int)) (n := 2) (r := wi64 ((a0.length : Int).tdiv 2)) rfl rfl (by decide) rfl) ?_
  refine WL.val (Yl.move (v := .int .i64 0) rfl) ?_
  refine WL.done ?_
  obtain ⟨x242, hX250, H⟩ := bindE H
  refine W.cutM (fun env_ w_ => ∃ (A243 : Option Addr) (c244 : Nat) (n245 : Nat) (p247 : CH), env_ 0 = .slice A243 n245 c244 ∧ Ctx w F D w_ F [p247] ∧ n245 = x242.length ∧ Row (Kd.arrI 32 .u8) F p247 (.slice A243 n245 c244) x242) ?_ ?_
  · skip
    refine W.block ?_
    refine W.loop (fun g_ env_ w_ => ∃ (x329 : List (List Int)) (x338 : Int) (A330 : Option Addr) (c331 : Nat) (n332 : Nat) (p334 : CH), env_ 0 = .slice A330 n332 c331 ∧ env_ 6 = .int .i64 (wi64 ((a0.length : Int).tdiv 2)) ∧ env_ 7 = .int .i64 x338 ∧ Ctx w F D w_ F [p334] ∧ n332 = x329.length ∧ Row (Kd.arrI 32 .u8) F p334 (.slice A330 n332 c331) x329 ∧ proof_turned.l1 g_ a0 x329 x338 = some x242) k ⟨a0, 0, A1, c2, n3, p5, rfl, rfl, rfl, C, hn4, hR6, hX250⟩ ?_
    clear hX250
    rintro g_ env_ w_ ⟨x329, x338, A330, c331, n332, p334, ho328, ho336, ho337, C339, hn333, hR335, hX250⟩
    rcases g_ with _ | k412
    · exact absurd hX250 (by simp [proof_turned.l1])
    rw [proof_turned.l1] at hX250
    refine W.seq ?_
    refine W.region rfl ?_
    refine WL.val (Yl.lss (m := x338) (n := wi64 ((a0.length : Int).tdiv 2)) (q := decide (x338 < (wi64 ((a0.length : Int).tdiv 2)))) ho337 ho336 rfl) ?_
    refine WL.done ?_
    refine W.seq ?_
    rcases iteE hX250 with ⟨hc413, hX250⟩ | ⟨hc413, hX250⟩
    · skip
      refine W.condT (congrArg Value.bool (decide_eq_true hc413)) ?_
      refine W.skip ?_
      refine W.seq ?_
      refine W.block ?_
      refine W.seq ?_
      refine W.region rfl ?_
      refine WL.val (Yl.move (v := .int .i64 x338) ho337) ?_
      refine WL.val (Yl.assign (v := .int .i64 x338) rfl) ?_
      refine WL.done ?_
      refine W.regionA [([21, 23], p334)] (by kernel_rfl) ?_
      have C449 := Ctx.drewN C339 1
      refine WA.take none [] 0 rfl (by kernel_rfl) (by kernel_rfl) (show _ = #[true, false, false, false, false, false, false, false, false, false, false, false, false, false, false, false, false, false, false, false, false, false, false, false] from rfl) trivial ⟨(Ctx.sub_of [] [] C449), trivial⟩ (fun _ hC_ => Yl.move (v := .slice A330 n332 c331) ho328) ?_
      refine WA.take none [] 1 rfl (by kernel_rfl) (by kernel_rfl) (show _ = #[true, true, false, false, false, false, false, false, false, false, false, false, false, false, false, false, false, false, false, false, false, false, false, false] from rfl) trivial ⟨(Ctx.sub_of [] [] C449), trivial⟩ (fun _ hC_ => Yl.move (v := .int .i64 x338) rfl) ?_
      refine WA.take none [] 2 rfl (by kernel_rfl) (by kernel_rfl) (show _ = #[true, true, true, false, false, false, false, false, false, false, false, false, false, false, false, false, false, false, false, false, false, false, false, false] from rfl) trivial ⟨(Ctx.sub_of [] [] C449), trivial⟩ (fun _ hC_ => Yl.move (v := .slice A330 n332 c331) ho328) ?_
      refine WA.take none [] 3 rfl (by kernel_rfl) (by kernel_rfl) (show _ = #[true, true, true, true, false, false, false, false, false, false, false, false, false, false, false, false, false, false, false, false, false, false, false, false] from rfl) trivial ⟨(Ctx.sub_of [] [] C449), trivial⟩ (fun _ hC_ => Yl.move (v := .slice A330 n332 c331) ho328) ?_
      refine WA.take none [] 4 rfl (by kernel_rfl) (by kernel_rfl) (show _ = #[true, true, true, true, true, false, false, false, false, false, false, false, false, false, false, false, false, false, false, false, false, false, false, false] from rfl) trivial ⟨(Ctx.sub_of [] [] C449), trivial⟩ (fun _ hC_ => Yl.lenN (A := A330) (l := n332) (q := c331) (n := (x329.length : Int)) rfl Tryd.underlying31 (by omega)) ?_
      refine WA.take none [] 5 rfl (by kernel_rfl) (by kernel_rfl) (show _ = #[true, true, true, true, true, true, false, false, false, false, false, false, false, false, false, false, false, false, false, false, false, false, false, false] from rfl) trivial ⟨(Ctx.sub_of [] [] C449), trivial⟩ (fun _ hC_ => Yl.sub (m := (x329.length : Int)) (n := 1) (r := wi64 ((x329.length : Int) - 1)) rfl rfl rfl) ?_
      refine WA.take none [] 6 rfl (by kernel_rfl) (by kernel_rfl) (show _ = #[true, true, true, true, true, true, true, false, false, false, false, false, false, false, false, false, false, false, false, false, false, false, false, false] from rfl) trivial ⟨(Ctx.sub_of [] [] C449), trivial⟩ (fun _ hC_ => Yl.move (v := .int .i64 x338) rfl) ?_
      refine WA.take none [] 7 rfl (by kernel_rfl) (by kernel_rfl) (show _ = #[true, true, true, true, true, true, true, true, false, false, false, false, false, false, false, false, false, false, false, false, false, false, false, false] from rfl) trivial ⟨(Ctx.sub_of [] [] C449), trivial⟩ (fun _ hC_ => Yl.sub (m := wi64 ((x329.length : Int) - 1)) (n := x338) (r := wi64 ((wi64 ((x329.length : Int) - 1)) - x338)) rfl rfl rfl) ?_
      refine WA.take none [] 8 rfl (by kernel_rfl) (by kernel_rfl) (show _ = #[true, true, true, true, true, true, true, true, true, false, false, false, false, false, false, false, false, false, false, false, false, false, false, false] from rfl) trivial ⟨(Ctx.sub_of [] [] C449), trivial⟩ (fun _ hC_ => Yl.move (v := .slice A330 n332 c331) ho328) ?_
      refine WA.take none [] 9 rfl (by kernel_rfl) (by kernel_rfl) (show _ = #[true, true, true, true, true, true, true, true, true, true, false, false, false, false, false, false, false, false, false, false, false, false, false, false] from rfl) trivial ⟨(Ctx.sub_of [] [] C449), trivial⟩ (fun _ hC_ => Yl.move (v := .slice A330 n332 c331) ho328) ?_
      refine WA.take none [] 10 rfl (by kernel_rfl) (by kernel_rfl) (show _ = #[true, true, true, true, true, true, true, true, true, true, true, false, false, false, false, false, false, false, false, false, false, false, false, false] from rfl) trivial ⟨(Ctx.sub_of [] [] C449), trivial⟩ (fun _ hC_ => Yl.lenN (A := A330) (l := n332) (q := c331) (n := (x329.length : Int)) rfl Tryd.underlying31 (by omega)) ?_
      refine WA.take none [] 11 rfl (by kernel_rfl) (by kernel_rfl) (show _ = #[true, true, true, true, true, true, true, true, true, true, true, true, false, false, false, false, false, false, false, false, false, false, false, false] from rfl) trivial ⟨(Ctx.sub_of [] [] C449), trivial⟩ (fun _ hC_ => Yl.sub (m := (x329.length : Int)) (n := 1) (r := wi64 ((x329.length : Int) - 1)) rfl rfl rfl) ?_
      refine WA.take none [] 12 rfl (by kernel_rfl) (by kernel_rfl) (show _ = #[true, true, true, true, true, true, true, true, true, true, true, true, true, false, false, false, false, false, false, false, false, false, false, false] from rfl) trivial ⟨(Ctx.sub_of [] [] C449), trivial⟩ (fun _ hC_ => Yl.move (v := .int .i64 x338) rfl) ?_
      refine WA.take none [] 13 rfl (by kernel_rfl) (by kernel_rfl) (show _ = #[true, true, true, true, true, true, true, true, true, true, true, true, true, true, false, false, false, false, false, false, false, false, false, false] from rfl) trivial ⟨(Ctx.sub_of [] [] C449), trivial⟩ (fun _ hC_ => Yl.sub (m := wi64 ((x329.length : Int) - 1)) (n := x338) (r := wi64 ((wi64 ((x329.length : Int) - 1)) - x338)) rfl rfl rfl) ?_
      obtain ⟨hc450, hX250⟩ := guardE hX250
      obtain ⟨b451, of452, hA453, he454⟩ := (Row.sl hR335) (by omega)
      refine WA.take none [] 14 rfl (by kernel_rfl) (by kernel_rfl) (show _ = #[true, true, true, true, true, true, true, true, true, true, true, true, true, true, true, false, false, false, false, false, false, false, false, false] from rfl) trivial ⟨(Ctx.sub_of [] [] C449), trivial⟩ (fun _ hC_ => Yl.elemAddr (i := wi64 ((wi64 ((x329.length : Int) - 1)) - x338)) rfl rfl hA453 Tryd.underlying31 sz33 (by omega)) ?_
      obtain ⟨cs455, hr456, hx457⟩ := he454 (wi64 ((wi64 ((x329.length : Int) - 1)) - x338)).toNat _ (getD_some (d := []) (by omega))
      obtain ⟨rfl, ha458⟩ := hr456
      refine WA.take (some 0) [20, 21, 22, 23] 15 rfl (by kernel_rfl) (by kernel_rfl) (show _ = #[true, true, true, true, true, true, true, true, true, true, true, true, true, true, true, true, false, false, false, false, false, false, false, false] from rfl) (Ctx.sub_of [] [] C449) ⟨(Ctx.sub_of [] [] C449), trivial⟩ (fun _ hC_ => Yl.loadAgg (cs := (x329.getD (wi64 ((wi64 ((x329.length : Int) - 1)) - x338)).toNat []).map (Value.int .u8)) rfl Tryd.underlying33 rfl (sz_of sz33 (by first | (simp only [List.length_append, List.length_map, List.length_cons, List.length_nil, ha458]; done) | simp [ha458])) (fun j u hu => by rw [add_of]; exact ((show Sub p334 _ from hC_)).cell (hx457 _ _ hu))) ?_
      refine WA.take none [] 16 rfl (by kernel_rfl) (by kernel_rfl) (show _ = #[true, true, true, true, true, true, true, true, true, true, true, true, true, true, true, true, true, false, false, false, false, false, false, false] from rfl) trivial ⟨(Ctx.sub_of [] [] C449), trivial⟩ (fun _ hC_ => Yl.move (v := .slice A330 n332 c331) ho328) ?_
      refine WA.take none [] 17 rfl (by kernel_rfl) (by kernel_rfl) (show _ = #[true, true, true, true, true, true, true, true, true, true, true, true, true, true, true, true, true, true, false, false, false, false, false, false] from rfl) trivial ⟨(Ctx.sub_of [] [] C449), trivial⟩ (fun _ hC_ => Yl.move (v := .int .i64 x338) rfl) ?_
      obtain ⟨hc459, hX250⟩ := guardE hX250
      refine WA.take none [] 18 rfl (by kernel_rfl) (by kernel_rfl) (show _ = #[true, true, true, true, true, true, true, true, true, true, true, true, true, true, true, true, true, true, true, false, false, false, false, false] from rfl) trivial ⟨(Ctx.sub_of [] [] C449), trivial⟩ (fun _ hC_ => Yl.elemAddr (i := x338) rfl rfl hA453 Tryd.underlying31 sz33 (by omega)) ?_
      obtain ⟨cs460, hr461, hx462⟩ := he454 x338.toNat _ (getD_some (d := []) (by omega))
      obtain ⟨rfl, ha463⟩ := hr461
      refine WA.take (some 0) [20, 21, 22, 23] 19 rfl (by kernel_rfl) (by kernel_rfl) (show _ = #[true, true, true, true, true, true, true, true, true, true, true, true, true, true, true, true, true, true, true, true, false, false, false, false] from rfl) (Ctx.sub_of [] [] C449) ⟨(Ctx.sub_of [] [] C449), trivial⟩ (fun _ hC_ => Yl.loadAgg (cs := (x329.getD x338.toNat []).map (Value.int .u8)) rfl Tryd.underlying33 rfl (sz_of sz33 (by first | (simp only [List.length_append, List.length_map, List.length_cons, List.length_nil, ha463]; done) | simp [ha463])) (fun j u hu => by rw [add_of]; exact ((show Sub p334 _ from hC_)).cell (hx462 _ _ hu))) ?_
      refine WA.take none [] 20 rfl (by kernel_rfl) (by kernel_rfl) (show _ = #[true, true, true, true, true, true, true, true, true, true, true, true, true, true, true, true, true, true, true, true, true, false, false, false] from rfl) trivial ⟨(Ctx.sub_of [] [] C449), trivial⟩ (fun _ hC_ => Yl.elemAddr (i := x338) rfl rfl hA453 Tryd.underlying31 sz33 (by omega)) ?_
      have hj469 : x338.toNat < x329.length := by first | omega | (simp only [List.length_set, List.length_replicate] at *; omega)
      obtain ⟨p464, w465, hy466, C467, hR468⟩ := ev_store (P := Tryd.prog) (t := 33) (Kd.arrI 32 .u8) [] [] C449 hR335 hA453 x338.toNat 0 hj469 [] (.agg (List.toArray ((x329.getD (wi64 ((wi64 ((x329.length : Int) - 1)) - x338)).toNat []).map (Value.int .u8)))) ((x329.getD (wi64 ((wi64 ((x329.length : Int) - 1)) - x338)).toNat []).map (Value.int .u8)) rfl (one_ints _ _) (by first | exact Nat.le_of_ble_eq_true rfl | (simp only [List.length_append, List.length_map, List.length_cons, List.length_nil, ha458]; exact Nat.le_of_ble_eq_true rfl) | simp [ha458]) (sz_of sz33 (by first | (simp only [List.length_append, List.length_map, List.length_cons, List.length_nil, ha458]; done) | simp [ha458])) (x329.getD (wi64 ((wi64 ((x329.length : Int) - 1)) - x338)).toNat []) (fun _ h_ => rep_whole h_ ⟨rfl, ha458⟩) ⟨b451, of452 + x338.toNat * 32, none⟩ rfl
      have hn470 : n332 = (x329.set x338.toNat (x329.getD (wi64 ((wi64 ((x329.length : Int) - 1)) - x338)).toNat [])).length := by rw [List.length_set]; omega
      have C471 : Ctx _ _ _ _ F [p464] := C467
      refine WA.up1 21 (by kernel_rfl) (Up.skip rfl (show _ = #[true, true, true, true, true, true, true, true, true, true, true, true, true, true, true, true, true, true, true, true, true, true, false, false] from rfl) (hy466 _ _ _ _ rfl rfl) ⟨trivial, trivial⟩ ?_)
      obtain ⟨hc472, hX250⟩ := guardE hX250
      obtain ⟨b473, of474, hA475, he476⟩ := (Row.sl hR468) (by omega)
      refine WA.take none [] 22 rfl (by kernel_rfl) (by kernel_rfl) (show _ = #[true, true, true, true, true, true, true, true, true, true, true, true, true, true, true, true, true, true, true, true, true, true, true, false] from rfl) trivial ⟨trivial, trivial⟩ (fun _ hC_ => Yl.elemAddr (i := wi64 ((wi64 ((x329.length : Int) - 1)) - x338)) rfl rfl hA475 Tryd.underlying31 sz33 (by omega)) ?_
      have hj482 : (wi64 ((wi64 ((x329.length : Int) - 1)) - x338)).toNat < (x329.set x338.toNat (x329.getD (wi64 ((wi64 ((x329.length : Int) - 1)) - x338)).toNat [])).length := by first | omega | (simp only [List.length_set, List.length_replicate] at *; omega)
      obtain ⟨p477, w478, hy479, C480, hR481⟩ := ev_store (P := Tryd.prog) (t := 33) (Kd.arrI 32 .u8) [] [] C471 hR468 hA475 (wi64 ((wi64 ((x329.length : Int) - 1)) - x338)).toNat 0 hj482 [] (.agg (List.toArray ((x329.getD x338.toNat []).map (Value.int .u8)))) ((x329.getD x338.toNat []).map (Value.int .u8)) rfl (one_ints _ _) (by first | exact Nat.le_of_ble_eq_true rfl | (simp only [List.length_append, List.length_map, List.length_cons, List.length_nil, ha463]; exact Nat.le_of_ble_eq_true rfl) | simp [ha463]) (sz_of sz33 (by first | (simp only [List.length_append, List.length_map, List.length_cons, List.length_nil, ha463]; done) | simp [ha463])) (x329.getD x338.toNat []) (fun _ h_ => rep_whole h_ ⟨rfl, ha463⟩) ⟨b473, of474 + (wi64 ((wi64 ((x329.length : Int) - 1)) - x338)).toNat * 32, none⟩ rfl
      have hn483 : n332 = ((x329.set x338.toNat (x329.getD (wi64 ((wi64 ((x329.length : Int) - 1)) - x338)).toNat [])).set (wi64 ((wi64 ((x329.length : Int) - 1)) - x338)).toNat (x329.getD x338.toNat [])).length := by rw [List.length_set]; omega
      have C484 : Ctx _ _ _ _ F [p477] := C480
      refine WA.up1 23 (by kernel_rfl) (Up.skip rfl (show _ = #[true, true, true, true, true, true, true, true, true, true, true, true, true, true, true, true, true, true, true, true, true, true, true, true] from rfl) (hy479 _ _ _ _ rfl rfl) ⟨trivial, trivial⟩ ?_)
      refine WA.done (by kernel_rfl) ?_
      refine inB_n ?_
      refine W.region rfl ?_
      refine WL.val (Yl.add (m := x338) (n := 1) (r := wi64 (x338 + 1)) ho337 rfl rfl) ?_
      refine WL.val (Yl.move (v := .int .i64 (wi64 (x338 + 1))) rfl) ?_
      refine WL.done ?_
      exact thenE_n ⟨k412, Nat.lt_succ_self _, (x329.set x338.toNat (x329.getD (wi64 ((wi64 ((x329.length : Int) - 1)) - x338)).toNat [])).set (wi64 ((wi64 ((x329.length : Int) - 1)) - x338)).toNat (x329.getD x338.toNat []), wi64 (x338 + 1), A330, c331, n332, p477, ho328, ho336, rfl, C484, hn483, hR481, hX250⟩
    · skip
      refine W.condF (congrArg Value.bool (decide_eq_false hc413)) ?_
      refine W.exit ?_
      refine thenE_x ?_
      refine thenE_x ?_
      refine inB_here ?_
      cases hX250
      refine thenE_n ?_
      exact ⟨A330, c331, n332, p334, ho328, C339, hn333, hR335⟩
  · skip
    rintro env_ w_ ⟨A243, c244, n245, p247, ho241, C249, hn246, hR248⟩
    refine W.seq ?_
    refine W.region rfl ?_
    refine WL.val (Yl.move (v := .slice A243 n245 c244) ho241) ?_
    refine WL.val (Yl.assign (v := .slice A243 n245 c244) rfl) ?_
    refine WL.done ?_
    refine W.ret ?_
    have e485 := Option.some.inj H
    subst e485
    exact post_r (resE1 rfl rfl) ⟨A243, c244, n245, p247, rfl, C249, hn246, hR248⟩
def proof_Include.l1 : Nat → List (List Int) → Int → List (List Int) → Option (List (List Int))
  | 0, _, _, _ => none
  | k + 1, x218, x227, x229 => if (x218.length : Int) > 1 then ((proof_split.f k (x218.length : Int)).bind fun r323 => if x227 < r323 then (if 0 ≤ r323 ∧ r323 ≤ (x218.length : Int) ∧ (x218.length : Int) ≤ (x218.length : Int) then ((proof_Root.f k (x218.drop r323.toNat)).bind fun r338 => if (x229.length + 1) * 32 ≤ 140737488355328 then (if 0 ≤ r323 ∧ r323 ≤ (x218.length : Int) then (proof_Include.l1 k (x218.take r323.toNat) x227 (x229 ++ [r338])) else none) else none) else none) else (if 0 ≤ r323 ∧ r323 ≤ (x218.length : Int) then ((proof_Root.f k (x218.take r323.toNat)).bind fun r370 => if (x229.length + 1) * 32 ≤ 140737488355328 then (if 0 ≤ r323 ∧ r323 ≤ (x218.length : Int) ∧ (x218.length : Int) ≤ (x218.length : Int) then (proof_Include.l1 k (x218.drop r323.toNat) (wi64 (x227 - r323)) (x229 ++ [r370])) else none) else none) else none)) else (some x229)
def proof_Include.f (k : Nat) (a0 : List (List Int)) (a1 : Int) : Option ((List (List Int)) × Int) := (if a1 < 0 then (some (true)) else (some (decide (a1 ≥ (a0.length : Int))))).bind fun g8 => if g8 = true then (some (([] : List (List Int)), 1)) else ((proof_Include.l1 k a0 a1 ([] : List (List Int))).bind fun x208 => (proof_turned.f k x208).bind fun r406 => some (r406, 0))
set_option maxRecDepth 100000 in
set_option maxHeartbeats 4000000 in
theorem proof_Include.calls (k : Nat) (w : World) (F : CH) (A1 : Option Addr) (c2 : Nat) (n3 : Nat) (a0 : List (List Int)) (a1 : Int) (hp : Pre w F []) (hn4 : n3 = a0.length) (hl5 : a0.length ≤ c2) (hm6 : c2 ≤ maxLen) (hS7 : Sl (Kd.arrI 32 .u8) F F A1 a0) (hG1 : CH.le (CH.row 1 0 (glob1.map (Value.int .u32))) F) (hG3 : CH.le (CH.row 3 0 (glob3.map (Value.int .u32))) F) (r0_ : List (List Int)) (r1_ : Int) (H : proof_Include.f k a0 a1 = some (r0_, r1_)) :
    Calls Tryd.prog 29 #[.slice A1 n3 c2, .int .i64 a1] w fun e w' => ∃ (A417 : Option Addr) (c418 : Nat) (n419 : Nat) (p421 : CH), e = .returned (.tuple #[(.slice A417 n419 c418), (.int .i64 r1_)]) ∧ Ctx w F (domL []) w' F [p421] ∧ n419 = r0_.length ∧ Row (Kd.arrI 32 .u8) F p421 (.slice A417 n419 c418) r0_ := by
  have C := Ctx.start hp
  generalize hD : domL [] = D at C ⊢
  unfold proof_Include.f at H
  refine Calls.ofW Tryd.func29 rfl (by simp [Tryd.ntmps29]) ?_
  refine W.seq ?_
  refine W.region rfl ?_
  refine WL.val (Yl.assign (v := .slice none 0 0) rfl) ?_
  refine WL.val (Yl.assign (v := .int .i64 0) rfl) ?_
  refine WL.done ?_
  refine W.seq ?_
  refine W.seq ?_
  refine W.region rfl ?_
  refine WL.val (Yl.move (v := .int .i64 a1) rfl) ?_
  refine WL.val (Yl.lss (m := a1) (n := 0) (q := decide (a1 < 0)) rfl rfl rfl) ?_
  refine WL.val (Yl.move (v := .bool (decide (a1 < 0))) rfl) ?_
  obtain ⟨g8, HE9, H⟩ := bindE H
  refine WL.cut (fun env_ w_ => env_ 15 = .bool g8 ∧ env_ 0 = .slice A1 n3 c2 ∧ env_ 1 = .int .i64 a1 ∧ Ctx w F D w_ F []) ?_ ?_
  · skip
    rcases iteE HE9 with ⟨hc10, HE9⟩ | ⟨hc10, HE9⟩
    · skip
      refine WL.off rfl (congrArg Value.bool (decide_eq_true hc10)) ?_
      refine WL.off rfl (congrArg Value.bool (decide_eq_true hc10)) ?_
      refine WL.off rfl (congrArg Value.bool (decide_eq_true hc10)) ?_
      refine WL.off rfl (congrArg Value.bool (decide_eq_true hc10)) ?_
      refine WL.val (Yl.pickT (v := .bool true) (congrArg Value.bool (decide_eq_true hc10)) rfl) ?_
      cases HE9
      exact WL.done ⟨rfl, rfl, rfl, C⟩
    · skip
      refine WL.on rfl (congrArg Value.bool (decide_eq_false hc10)) ?_
      refine WL.val (Yl.move (v := .int .i64 a1) rfl) ?_
      refine WL.on rfl (congrArg Value.bool (decide_eq_false hc10)) ?_
      refine WL.val (Yl.move (v := .slice A1 n3 c2) rfl) ?_
      refine WL.on rfl (congrArg Value.bool (decide_eq_false hc10)) ?_
      refine WL.val (Yl.lenN (A := A1) (l := n3) (q := c2) (n := (a0.length : Int)) rfl Tryd.underlying31 (by omega)) ?_
      refine WL.on rfl (congrArg Value.bool (decide_eq_false hc10)) ?_
      refine WL.val (Yl.geq (m := a1) (n := (a0.length : Int)) (q := decide (a1 ≥ (a0.length : Int))) rfl rfl rfl) ?_
      refine WL.val (Yl.pickF (v := .bool (decide (a1 ≥ (a0.length : Int)))) (congrArg Value.bool (decide_eq_false hc10)) rfl) ?_
      cases HE9
      exact WL.done ⟨rfl, rfl, rfl, C⟩
  · skip
    rintro env_ w_ ⟨ho11, ho12, ho13, C14⟩
    rcases iteE H with ⟨hc15, H⟩ | ⟨hc15, H⟩
    · skip
      refine W.condT (ho11.trans (congrArg Value.bool hc15)) ?_
      refine W.seq ?_
      refine W.region rfl ?_
      refine WL.val (Yl.assign (v := .slice none 0 0) rfl) ?_
      refine WL.val (Yl.assign (v := .int .i64 1) rfl) ?_
      refine WL.done ?_
      refine W.ret ?_
      refine thenE_r ?_
      have C16 : Ctx _ _ _ _ F [CH.emp] := Ctx.emp C14
      simp only [Option.some.injEq, Prod.mk.injEq] at H
      obtain ⟨e17, e18⟩ := H
      subst e17 e18
      exact post_r (resE2 rfl rfl rfl) ⟨none, 0, 0, CH.emp, rfl, C16, rfl, (Row.nil _ _)⟩
    · skip
      refine W.condF (ho11.trans (congrArg Value.bool (Bool.eq_false_iff.2 hc15))) ?_
      refine W.skip ?_
      refine W.seq ?_
      refine W.region rfl ?_
      refine WL.val (Yl.assign (v := .slice none 0 0) rfl) ?_
      refine WL.done ?_
      refine W.seq ?_
      obtain ⟨x208, hX216, H⟩ := bindE H
      refine W.cutM (fun env_ w_ => ∃ (A209 : Option Addr) (c210 : Nat) (n211 : Nat) (p213 : CH), env_ 6 = .slice A209 n211 c210 ∧ Ctx w F D w_ F [p213] ∧ n211 = x208.length ∧ Row (Kd.arrI 32 .u8) F p213 (.slice A209 n211 c210) x208) ?_ ?_
      · skip
        refine W.block ?_
        have C320 : Ctx _ _ _ _ F [CH.emp] := Ctx.emp C14
        refine W.loop (fun g_ env_ w_ => ∃ (x218 : List (List Int)) (x227 : Int) (x229 : List (List Int)) (A219 : Option Addr) (c220 : Nat) (n221 : Nat) (A230 : Option Addr) (c231 : Nat) (n232 : Nat) (p234 : CH), env_ 0 = .slice A219 n221 c220 ∧ env_ 1 = .int .i64 x227 ∧ env_ 6 = .slice A230 n232 c231 ∧ Ctx w F D w_ F [p234] ∧ n221 = x218.length ∧ x218.length ≤ c220 ∧ c220 ≤ maxLen ∧ Sl (Kd.arrI 32 .u8) F F A219 x218 ∧ n232 = x229.length ∧ Row (Kd.arrI 32 .u8) F p234 (.slice A230 n232 c231) x229 ∧ proof_Include.l1 g_ x218 x227 x229 = some x208) k ⟨a0, a1, ([] : List (List Int)), A1, c2, n3, none, 0, 0, CH.emp, ho12, ho13, rfl, C320, hn4, hl5, hm6, hS7, rfl, (Row.nil _ _), hX216⟩ ?_
        clear hX216
        rintro g_ env_ w_ ⟨x218, x227, x229, A219, c220, n221, A230, c231, n232, p234, ho217, ho226, ho228, C236, hn222, hl223, hm224, hS225, hn233, hR235, hX216⟩
        rcases g_ with _ | k319
        · exact absurd hX216 (by simp [proof_Include.l1])
        rw [proof_Include.l1] at hX216
        refine W.seq ?_
        refine W.seq ?_
        refine W.region rfl ?_
        refine WL.val (Yl.move (v := .slice A219 n221 c220) ho217) ?_
        refine WL.val (Yl.lenN (A := A219) (l := n221) (q := c220) (n := (x218.length : Int)) rfl Tryd.underlying31 (by omega)) ?_
        refine WL.val (Yl.gtr (m := (x218.length : Int)) (n := 1) (q := decide ((x218.length : Int) > 1)) rfl rfl rfl) ?_
        refine WL.done ?_
        rcases iteE hX216 with ⟨hc321, hX216⟩ | ⟨hc321, hX216⟩
        · skip
          refine W.condT (congrArg Value.bool (decide_eq_true hc321)) ?_
          refine W.skip ?_
          refine W.block ?_
          refine W.seq ?_
          refine W.region rfl ?_
          refine WL.val (Yl.move (v := .slice A219 n221 c220) ho217) ?_
          refine WL.val (Yl.lenN (A := A219) (l := n221) (q := c220) (n := (x218.length : Int)) rfl Tryd.underlying31 (by omega)) ?_
          obtain ⟨r323, hg322, hX216⟩ := bindE hX216
          refine WL.call (args := #[.int .i64 (x218.length : Int)]) (Yenter.fn Tryd.func56 (by kernel_rfl) rfl (argsE (.cons rfl .nil))) (proof_split.calls k319 _ F (x218.length : Int) C236.pre0  r323 hg322) ?_
          rintro e_ w_ ⟨rfl, ⟨m324, rfl⟩⟩
          refine ⟨_, rfl, ?_⟩
          have C325 := Ctx.drewN C236 m324
          refine WL.val (Yl.assign (v := .int .i64 r323) rfl) ?_
          refine WL.done ?_
          refine W.seq ?_
          refine W.region rfl ?_
          refine WL.val (Yl.move (v := .int .i64 x227) ho226) ?_
          refine WL.val (Yl.move (v := .int .i64 r323) rfl) ?_
          refine WL.val (Yl.lss (m := x227) (n := r323) (q := decide (x227 < r323)) rfl rfl rfl) ?_
          refine WL.done ?_
          rcases iteE hX216 with ⟨hc326, hX216⟩ | ⟨hc326, hX216⟩
          · skip
            refine W.condT (congrArg Value.bool (decide_eq_true hc326)) ?_
            refine W.seq ?_
            refine W.region rfl ?_
            refine WL.val (Yl.move (v := .slice A230 n232 c231) ho228) ?_
            refine WL.val (Yl.move (v := .slice A219 n221 c220) ho217) ?_
            refine WL.val (Yl.move (v := .int .i64 r323) rfl) ?_
            obtain ⟨hc327, hX216⟩ := guardE hX216
            have hl336 : x218.length ≤ c220 ∧ c220 ≤ maxLen := ⟨hl223, hm224⟩
            obtain ⟨A328, c329, n330, hv331, hn332, hl333, hm334, hS335⟩ := Sl.cut hS225 (c := c220) hl336.2 r323.toNat x218.length c220 (by omega) (by omega) (by omega) (by omega)
            rw [List.take_length] at hn332 hl333 hS335
            refine WL.val (Yl.slice r323.toNat x218.length c220 rfl Tryd.underlying31 sz33 rfl (hn222).symm (OB.mk rfl (by omega)) (by simp) (by omega) (by omega) (by omega) hv331) ?_
            obtain ⟨r338, hg337, hX216⟩ := bindE hX216
            refine WL.call (args := #[.slice A328 n330 c329]) (Yenter.fn Tryd.func22 (by kernel_rfl) rfl (argsE (.cons rfl .nil))) (proof_Root.calls k319 _ F A328 c329 n330 (x218.drop r323.toNat) (Ctx.pre (qs := []) (rest := [p234]) C325) hn332 hl333 hm334 hS335 (CH.le_trans hG1 (CH.le_trans (CH.le_refl _) (CH.le_refl _))) (CH.le_trans hG3 (CH.le_trans (CH.le_refl _) (CH.le_refl _))) r338 hg337) ?_
            rintro e_ w_ ⟨rfl, C340, ha339⟩
            refine ⟨_, rfl, ?_⟩
            have C341 : Ctx _ _ _ _ F [p234] := Ctx.call (qs := []) (rest := [p234]) C325 C340
            obtain ⟨A342, c343, n344, p345, w346, hn347, hy348, C349, hR350⟩ := ev_lit1' (P := Tryd.prog) 33 (Kd.arrI 32 .u8) C341 Tryd.underlying31 ti33 ⟨by decide, by decide⟩ r338 (.agg (List.toArray (r338.map (Value.int .u8)))) ⟨rfl, ha339⟩
            refine WL.val (hy348 _ _ _ rfl) ?_
            obtain ⟨hc351, hX216⟩ := guardE hX216
            obtain ⟨A352, c353, n354, p355, w356, hn357, hy358, C359, hR360⟩ := ev_append' (P := Tryd.prog) (cb := c343) 33 (Kd.arrI 32 .u8) [p345] [] C349 hR235 hn347 (Row.sl hR350) (Ctx.sub_of [] [p234] C349) Tryd.underlying31 ti33 rfl zo33 (by decide) (by decide) (by simpa using hc351)
            have C361 : Ctx _ _ _ _ F [p345, p355] := C359
            refine WL.val (hy358 _ _ _ _ rfl rfl) ?_
            refine WL.val (Yl.assign (v := .slice A352 n354 c353) rfl) ?_
            refine WL.done ?_
            refine W.region rfl ?_
            refine WL.val (Yl.move (v := .slice A219 n221 c220) ho217) ?_
            refine WL.val (Yl.move (v := .int .i64 r323) rfl) ?_
            obtain ⟨hc362, hX216⟩ := guardE hX216
            have hn363 : r323.toNat = (x218.take r323.toNat).length := by rw [List.length_take]; omega
            refine WL.val (Yl.sliceHi rfl Tryd.underlying31 sz33 rfl ⟨hc362.1, by omega⟩) ?_
            refine WL.val (Yl.assign (v := .slice A219 r323.toNat c220) rfl) ?_
            refine WL.done ?_
            refine inB_n ?_
            have C365 : Ctx _ _ _ _ F [p355] := Ctx.drop [] [p355] C361
            exact thenE_n ⟨k319, Nat.lt_succ_self _, x218.take r323.toNat, x227, x229 ++ [r338], A219, c220, r323.toNat, A352, c353, n354, p355, rfl, ho226, rfl, C365, hn363, (by rw [List.length_take]; omega), hm224, (Sl.take hS225 _), hn357, hR360, hX216⟩
          · skip
            refine W.condF (congrArg Value.bool (decide_eq_false hc326)) ?_
            refine W.seq ?_
            refine W.region rfl ?_
            refine WL.val (Yl.move (v := .slice A230 n232 c231) ho228) ?_
            refine WL.val (Yl.move (v := .slice A219 n221 c220) ho217) ?_
            refine WL.val (Yl.move (v := .int .i64 r323) rfl) ?_
            obtain ⟨hc366, hX216⟩ := guardE hX216
            have hn367 : r323.toNat = (x218.take r323.toNat).length := by rw [List.length_take]; omega
            refine WL.val (Yl.sliceHi rfl Tryd.underlying31 sz33 rfl ⟨hc366.1, by omega⟩) ?_
            obtain ⟨r370, hg369, hX216⟩ := bindE hX216
            refine WL.call (args := #[.slice A219 r323.toNat c220]) (Yenter.fn Tryd.func22 (by kernel_rfl) rfl (argsE (.cons rfl .nil))) (proof_Root.calls k319 _ F A219 c220 r323.toNat (x218.take r323.toNat) (Ctx.pre (qs := []) (rest := [p234]) C325) hn367 (by rw [List.length_take]; omega) hm224 (Sl.take hS225 _) (CH.le_trans hG1 (CH.le_trans (CH.le_refl _) (CH.le_refl _))) (CH.le_trans hG3 (CH.le_trans (CH.le_refl _) (CH.le_refl _))) r370 hg369) ?_
            rintro e_ w_ ⟨rfl, C372, ha371⟩
            refine ⟨_, rfl, ?_⟩
            have C373 : Ctx _ _ _ _ F [p234] := Ctx.call (qs := []) (rest := [p234]) C325 C372
            obtain ⟨A374, c375, n376, p377, w378, hn379, hy380, C381, hR382⟩ := ev_lit1' (P := Tryd.prog) 33 (Kd.arrI 32 .u8) C373 Tryd.underlying31 ti33 ⟨by decide, by decide⟩ r370 (.agg (List.toArray (r370.map (Value.int .u8)))) ⟨rfl, ha371⟩
            refine WL.val (hy380 _ _ _ rfl) ?_
            obtain ⟨hc383, hX216⟩ := guardE hX216
            obtain ⟨A384, c385, n386, p387, w388, hn389, hy390, C391, hR392⟩ := ev_append' (P := Tryd.prog) (cb := c375) 33 (Kd.arrI 32 .u8) [p377] [] C381 hR235 hn379 (Row.sl hR382) (Ctx.sub_of [] [p234] C381) Tryd.underlying31 ti33 rfl zo33 (by decide) (by decide) (by simpa using hc383)
            have C393 : Ctx _ _ _ _ F [p377, p387] := C391
            refine WL.val (hy390 _ _ _ _ rfl rfl) ?_
            refine WL.val (Yl.assign (v := .slice A384 n386 c385) rfl) ?_
            refine WL.done ?_
            refine W.region rfl ?_
            refine WL.val (Yl.move (v := .slice A219 n221 c220) ho217) ?_
            refine WL.val (Yl.move (v := .int .i64 r323) rfl) ?_
            obtain ⟨hc394, hX216⟩ := guardE hX216
            have hl403 : x218.length ≤ c220 ∧ c220 ≤ maxLen := ⟨hl223, hm224⟩
            obtain ⟨A395, c396, n397, hv398, hn399, hl400, hm401, hS402⟩ := Sl.cut hS225 (c := c220) hl403.2 r323.toNat x218.length c220 (by omega) (by omega) (by omega) (by omega)
            rw [List.take_length] at hn399 hl400 hS402
            refine WL.val (Yl.slice r323.toNat x218.length c220 rfl Tryd.underlying31 sz33 rfl (hn222).symm (OB.mk rfl (by omega)) (by simp) (by omega) (by omega) (by omega) hv398) ?_
            refine WL.val (Yl.move (v := .int .i64 x227) ho226) ?_
            refine WL.val (Yl.move (v := .int .i64 r323) rfl) ?_
            refine WL.val (Yl.sub (m := x227) (n := r323) (r := wi64 (x227 - r323)) rfl rfl rfl) ?_
            refine WL.val (Yl.assign (v := .slice A395 n397 c396) rfl) ?_
            refine WL.val (Yl.assign (v := .int .i64 (wi64 (x227 - r323))) rfl) ?_
            refine WL.done ?_
            refine inB_n ?_
            have C404 : Ctx _ _ _ _ F [p387] := Ctx.drop [] [p387] C393
            exact thenE_n ⟨k319, Nat.lt_succ_self _, x218.drop r323.toNat, wi64 (x227 - r323), x229 ++ [r370], A395, c396, n397, A384, c385, n386, p387, rfl, rfl, rfl, C404, hn399, hl400, hm401, hS402, hn389, hR392, hX216⟩
        · skip
          refine W.condF (congrArg Value.bool (decide_eq_false hc321)) ?_
          refine W.exit ?_
          refine thenE_x ?_
          refine thenE_x ?_
          refine inB_here ?_
          cases hX216
          refine thenE_n ?_
          exact ⟨A230, c231, n232, p234, ho228, C236, hn233, hR235⟩
      · skip
        rintro env_ w_ ⟨A209, c210, n211, p213, ho207, C215, hn212, hR214⟩
        refine W.seq ?_
        refine W.region rfl ?_
        refine WL.val (Yl.move (v := .slice A209 n211 c210) ho207) ?_
        obtain ⟨r406, hg405, H⟩ := bindE H
        refine WL.call (args := #[.slice A209 n211 c210]) (Yenter.fn Tryd.func57 (by kernel_rfl) rfl (argsE (.cons rfl .nil))) (proof_turned.calls k _ F A209 c210 n211 p213 x208 (Ctx.pre (qs := [p213]) (rest := []) C215) hn212 hR214 r406 hg405) ?_
        rintro e_ w_ ⟨A407, c408, n409, p411, rfl, C413, hn410, hR412⟩
        refine ⟨_, rfl, ?_⟩
        have C414 : Ctx _ _ _ _ F [p411] := Ctx.call (qs := [p213]) (rest := []) C215 C413
        refine WL.val (Yl.assign (v := .slice A407 n409 c408) rfl) ?_
        refine WL.val (Yl.assign (v := .int .i64 0) rfl) ?_
        refine WL.done ?_
        refine W.ret ?_
        simp only [Option.some.injEq, Prod.mk.injEq] at H
        obtain ⟨e415, e416⟩ := H
        subst e415 e416
        exact post_r (resE2 rfl rfl rfl) ⟨A407, c408, n409, p411, rfl, C414, hn410, hR412⟩
def proof_Consist.l1 : Nat → List (List Int) → Int → List (List Int) → Bool → Option ((List (List Int)) × (List (List Int)) × Bool)
  | 0, _, _, _, _ => none
  | k + 1, x235, x244, x246, x254 => if x244 < (x235.length : Int) then ((proof_split.f k (x235.length : Int)).bind fun r342 => if x244 ≤ r342 then (if 0 ≤ r342 ∧ r342 ≤ (x235.length : Int) ∧ (x235.length : Int) ≤ (x235.length : Int) then ((proof_Root.f k (x235.drop r342.toNat)).bind fun r357 => if (x246.length + 1) * 32 ≤ 140737488355328 then (if 0 ≤ r342 ∧ r342 ≤ (x235.length : Int) then (proof_Consist.l1 k (x235.take r342.toNat) x244 (x246 ++ [r357]) x254) else none) else none) else none) else (if 0 ≤ r342 ∧ r342 ≤ (x235.length : Int) then ((proof_Root.f k (x235.take r342.toNat)).bind fun r389 => if (x246.length + 1) * 32 ≤ 140737488355328 then (if 0 ≤ r342 ∧ r342 ≤ (x235.length : Int) ∧ (x235.length : Int) ≤ (x235.length : Int) then (proof_Consist.l1 k (x235.drop r342.toNat) (wi64 (x244 - r342)) (x246 ++ [r389]) false) else none) else none) else none)) else (some (x235, x246, x254))
def proof_Consist.f (k : Nat) (a0 : List (List Int)) (a1 : Int) : Option ((List (List Int)) × Int) := (if a1 < 0 then (some (true)) else (some (decide (a1 > (a0.length : Int))))).bind fun g8 => if g8 = true then (some (([] : List (List Int)), 1)) else (if a1 = 0 then (some (([] : List (List Int)), 0)) else ((proof_Consist.l1 k a0 a1 ([] : List (List Int)) true).bind fun ⟨x214, x223, x231⟩ => if x231 = true then ((proof_turned.f k x223).bind fun r426 => some (r426, 0)) else ((proof_Root.f k x214).bind fun r438 => if (x223.length + 1) * 32 ≤ 140737488355328 then ((proof_turned.f k (x223 ++ [r438])).bind fun r464 => some (r464, 0)) else none)))
set_option maxRecDepth 100000 in
set_option maxHeartbeats 4000000 in
theorem proof_Consist.calls (k : Nat) (w : World) (F : CH) (A1 : Option Addr) (c2 : Nat) (n3 : Nat) (a0 : List (List Int)) (a1 : Int) (hp : Pre w F []) (hn4 : n3 = a0.length) (hl5 : a0.length ≤ c2) (hm6 : c2 ≤ maxLen) (hS7 : Sl (Kd.arrI 32 .u8) F F A1 a0) (hG1 : CH.le (CH.row 1 0 (glob1.map (Value.int .u32))) F) (hG3 : CH.le (CH.row 3 0 (glob3.map (Value.int .u32))) F) (r0_ : List (List Int)) (r1_ : Int) (H : proof_Consist.f k a0 a1 = some (r0_, r1_)) :
    Calls Tryd.prog 31 #[.slice A1 n3 c2, .int .i64 a1] w fun e w' => ∃ (A476 : Option Addr) (c477 : Nat) (n478 : Nat) (p480 : CH), e = .returned (.tuple #[(.slice A476 n478 c477), (.int .i64 r1_)]) ∧ Ctx w F (domL []) w' F [p480] ∧ n478 = r0_.length ∧ Row (Kd.arrI 32 .u8) F p480 (.slice A476 n478 c477) r0_ := by
  have C := Ctx.start hp
  generalize hD : domL [] = D at C ⊢
  unfold proof_Consist.f at H
  refine Calls.ofW Tryd.func31 rfl (by simp [Tryd.ntmps31]) ?_
  refine W.seq ?_
  refine W.region rfl ?_
  refine WL.val (Yl.assign (v := .slice none 0 0) rfl) ?_
  refine WL.val (Yl.assign (v := .int .i64 0) rfl) ?_
  refine WL.done ?_
  refine W.seq ?_
  refine W.seq ?_
  refine W.region rfl ?_
  refine WL.val (Yl.move (v := .int .i64 a1) rfl) ?_
  refine WL.val (Yl.lss (m := a1) (n := 0) (q := decide (a1 < 0)) rfl rfl rfl) ?_
  refine WL.val (Yl.move (v := .bool (decide (a1 < 0))) rfl) ?_
  obtain ⟨g8, HE9, H⟩ := bindE H
  refine WL.cut (fun env_ w_ => env_ 16 = .bool g8 ∧ env_ 0 = .slice A1 n3 c2 ∧ env_ 1 = .int .i64 a1 ∧ Ctx w F D w_ F []) ?_ ?_
  · skip
    rcases iteE HE9 with ⟨hc10, HE9⟩ | ⟨hc10, HE9⟩
    · skip
      refine WL.off rfl (congrArg Value.bool (decide_eq_true hc10)) ?_
      refine WL.off rfl (congrArg Value.bool (decide_eq_true hc10)) ?_
      refine WL.off rfl (congrArg Value.bool (decide_eq_true hc10)) ?_
      refine WL.off rfl (congrArg Value.bool (decide_eq_true hc10)) ?_
      refine WL.val (Yl.pickT (v := .bool true) (congrArg Value.bool (decide_eq_true hc10)) rfl) ?_
      cases HE9
      exact WL.done ⟨rfl, rfl, rfl, C⟩
    · skip
      refine WL.on rfl (congrArg Value.bool (decide_eq_false hc10)) ?_
      refine WL.val (Yl.move (v := .int .i64 a1) rfl) ?_
      refine WL.on rfl (congrArg Value.bool (decide_eq_false hc10)) ?_
      refine WL.val (Yl.move (v := .slice A1 n3 c2) rfl) ?_
      refine WL.on rfl (congrArg Value.bool (decide_eq_false hc10)) ?_
      refine WL.val (Yl.lenN (A := A1) (l := n3) (q := c2) (n := (a0.length : Int)) rfl Tryd.underlying31 (by omega)) ?_
      refine WL.on rfl (congrArg Value.bool (decide_eq_false hc10)) ?_
      refine WL.val (Yl.gtr (m := a1) (n := (a0.length : Int)) (q := decide (a1 > (a0.length : Int))) rfl rfl rfl) ?_
      refine WL.val (Yl.pickF (v := .bool (decide (a1 > (a0.length : Int)))) (congrArg Value.bool (decide_eq_false hc10)) rfl) ?_
      cases HE9
      exact WL.done ⟨rfl, rfl, rfl, C⟩
  · skip
    rintro env_ w_ ⟨ho11, ho12, ho13, C14⟩
    rcases iteE H with ⟨hc15, H⟩ | ⟨hc15, H⟩
    · skip
      refine W.condT (ho11.trans (congrArg Value.bool hc15)) ?_
      refine W.seq ?_
      refine W.region rfl ?_
      refine WL.val (Yl.assign (v := .slice none 0 0) rfl) ?_
      refine WL.val (Yl.assign (v := .int .i64 1) rfl) ?_
      refine WL.done ?_
      refine W.ret ?_
      refine thenE_r ?_
      have C16 : Ctx _ _ _ _ F [CH.emp] := Ctx.emp C14
      simp only [Option.some.injEq, Prod.mk.injEq] at H
      obtain ⟨e17, e18⟩ := H
      subst e17 e18
      exact post_r (resE2 rfl rfl rfl) ⟨none, 0, 0, CH.emp, rfl, C16, rfl, (Row.nil _ _)⟩
    · skip
      refine W.condF (ho11.trans (congrArg Value.bool (Bool.eq_false_iff.2 hc15))) ?_
      refine W.skip ?_
      refine W.seq ?_
      refine W.seq ?_
      refine W.region rfl ?_
      refine WL.val (Yl.move (v := .int .i64 a1) ho13) ?_
      refine WL.val (Yl.eql (m := a1) (n := 0) (q := decide (a1 = 0)) rfl rfl rfl) ?_
      refine WL.done ?_
      rcases iteE H with ⟨hc19, H⟩ | ⟨hc19, H⟩
      · skip
        refine W.condT (congrArg Value.bool (decide_eq_true hc19)) ?_
        refine W.seq ?_
        refine W.region rfl ?_
        refine WL.val (Yl.assign (v := .slice none 0 0) rfl) ?_
        refine WL.val (Yl.assign (v := .int .i64 0) rfl) ?_
        refine WL.done ?_
        refine W.ret ?_
        refine thenE_r ?_
        have C20 : Ctx _ _ _ _ F [CH.emp] := Ctx.emp C14
        simp only [Option.some.injEq, Prod.mk.injEq] at H
        obtain ⟨e21, e22⟩ := H
        subst e21 e22
        exact post_r (resE2 rfl rfl rfl) ⟨none, 0, 0, CH.emp, rfl, C20, rfl, (Row.nil _ _)⟩
      · skip
        refine W.condF (congrArg Value.bool (decide_eq_false hc19)) ?_
        refine W.skip ?_
        refine W.seq ?_
        refine W.region rfl ?_
        refine WL.val (Yl.assign (v := .slice none 0 0) rfl) ?_
        refine WL.done ?_
        refine W.seq ?_
        refine W.region rfl ?_
        refine WL.val (Yl.assign (v := .bool true) rfl) ?_
        refine WL.done ?_
        refine W.seq ?_
        obtain ⟨⟨x214, x223, x231⟩, hX233, H⟩ := bindE H
        refine W.cutM (fun env_ w_ => ∃ (A215 : Option Addr) (c216 : Nat) (n217 : Nat) (A224 : Option Addr) (c225 : Nat) (n226 : Nat) (p228 : CH), env_ 0 = .slice A215 n217 c216 ∧ env_ 6 = .slice A224 n226 c225 ∧ env_ 7 = .bool x231 ∧ Ctx w F D w_ F [p228] ∧ n217 = x214.length ∧ x214.length ≤ c216 ∧ c216 ≤ maxLen ∧ Sl (Kd.arrI 32 .u8) F F A215 x214 ∧ n226 = x223.length ∧ Row (Kd.arrI 32 .u8) F p228 (.slice A224 n226 c225) x223) ?_ ?_
        · skip
          refine W.block ?_
          have C339 : Ctx _ _ _ _ F [CH.emp] := Ctx.emp C14
          refine W.loop (fun g_ env_ w_ => ∃ (x235 : List (List Int)) (x244 : Int) (x246 : List (List Int)) (x254 : Bool) (A236 : Option Addr) (c237 : Nat) (n238 : Nat) (A247 : Option Addr) (c248 : Nat) (n249 : Nat) (p251 : CH), env_ 0 = .slice A236 n238 c237 ∧ env_ 1 = .int .i64 x244 ∧ env_ 6 = .slice A247 n249 c248 ∧ env_ 7 = .bool x254 ∧ Ctx w F D w_ F [p251] ∧ n238 = x235.length ∧ x235.length ≤ c237 ∧ c237 ≤ maxLen ∧ Sl (Kd.arrI 32 .u8) F F A236 x235 ∧ n249 = x246.length ∧ Row (Kd.arrI 32 .u8) F p251 (.slice A247 n249 c248) x246 ∧ proof_Consist.l1 g_ x235 x244 x246 x254 = some (x214, x223, x231)) k ⟨a0, a1, ([] : List (List Int)), true, A1, c2, n3, none, 0, 0, CH.emp, ho12, ho13, rfl, rfl, C339, hn4, hl5, hm6, hS7, rfl, (Row.nil _ _), hX233⟩ ?_
          clear hX233
          rintro g_ env_ w_ ⟨x235, x244, x246, x254, A236, c237, n238, A247, c248, n249, p251, ho234, ho243, ho245, ho253, C255, hn239, hl240, hm241, hS242, hn250, hR252, hX233⟩
          rcases g_ with _ | k338
          · exact absurd hX233 (by simp [proof_Consist.l1])
          rw [proof_Consist.l1] at hX233
          refine W.seq ?_
          refine W.seq ?_
          refine W.region rfl ?_
          refine WL.val (Yl.move (v := .int .i64 x244) ho243) ?_
          refine WL.val (Yl.move (v := .slice A236 n238 c237) ho234) ?_
          refine WL.val (Yl.lenN (A := A236) (l := n238) (q := c237) (n := (x235.length : Int)) rfl Tryd.underlying31 (by omega)) ?_
          refine WL.val (Yl.lss (m := x244) (n := (x235.length : Int)) (q := decide (x244 < (x235.length : Int))) rfl rfl rfl) ?_
          refine WL.done ?_
          rcases iteE hX233 with ⟨hc340, hX233⟩ | ⟨hc340, hX233⟩
          · skip
            refine W.condT (congrArg Value.bool (decide_eq_true hc340)) ?_
            refine W.skip ?_
            refine W.block ?_
            refine W.seq ?_
            refine W.region rfl ?_
            refine WL.val (Yl.move (v := .slice A236 n238 c237) ho234) ?_
            refine WL.val (Yl.lenN (A := A236) (l := n238) (q := c237) (n := (x235.length : Int)) rfl Tryd.underlying31 (by omega)) ?_
            obtain ⟨r342, hg341, hX233⟩ := bindE hX233
            refine WL.call (args := #[.int .i64 (x235.length : Int)]) (Yenter.fn Tryd.func56 (by kernel_rfl) rfl (argsE (.cons rfl .nil))) (proof_split.calls k338 _ F (x235.length : Int) C255.pre0  r342 hg341) ?_
            rintro e_ w_ ⟨rfl, ⟨m343, rfl⟩⟩
            refine ⟨_, rfl, ?_⟩
            have C344 := Ctx.drewN C255 m343
            refine WL.val (Yl.assign (v := .int .i64 r342) rfl) ?_
            refine WL.done ?_
            refine W.seq ?_
            refine W.region rfl ?_
            refine WL.val (Yl.move (v := .int .i64 x244) ho243) ?_
            refine WL.val (Yl.move (v := .int .i64 r342) rfl) ?_
            refine WL.val (Yl.leq (m := x244) (n := r342) (q := decide (x244 ≤ r342)) rfl rfl rfl) ?_
            refine WL.done ?_
            rcases iteE hX233 with ⟨hc345, hX233⟩ | ⟨hc345, hX233⟩
            · skip
              refine W.condT (congrArg Value.bool (decide_eq_true hc345)) ?_
              refine W.seq ?_
              refine W.region rfl ?_
              refine WL.val (Yl.move (v := .slice A247 n249 c248) ho245) ?_
              refine WL.val (Yl.move (v := .slice A236 n238 c237) ho234) ?_
              refine WL.val (Yl.move (v := .int .i64 r342) rfl) ?_
              obtain ⟨hc346, hX233⟩ := guardE hX233
              have hl355 : x235.length ≤ c237 ∧ c237 ≤ maxLen := ⟨hl240, hm241⟩
              obtain ⟨A347, c348, n349, hv350, hn351, hl352, hm353, hS354⟩ := Sl.cut hS242 (c := c237) hl355.2 r342.toNat x235.length c237 (by omega) (by omega) (by omega) (by omega)
              rw [List.take_length] at hn351 hl352 hS354
              refine WL.val (Yl.slice r342.toNat x235.length c237 rfl Tryd.underlying31 sz33 rfl (hn239).symm (OB.mk rfl (by omega)) (by simp) (by omega) (by omega) (by omega) hv350) ?_
              obtain ⟨r357, hg356, hX233⟩ := bindE hX233
              refine WL.call (args := #[.slice A347 n349 c348]) (Yenter.fn Tryd.func22 (by kernel_rfl) rfl (argsE (.cons rfl .nil))) (proof_Root.calls k338 _ F A347 c348 n349 (x235.drop r342.toNat) (Ctx.pre (qs := []) (rest := [p251]) C344) hn351 hl352 hm353 hS354 (CH.le_trans hG1 (CH.le_trans (CH.le_refl _) (CH.le_refl _))) (CH.le_trans hG3 (CH.le_trans (CH.le_refl _) (CH.le_refl _))) r357 hg356) ?_
              rintro e_ w_ ⟨rfl, C359, ha358⟩
              refine ⟨_, rfl, ?_⟩
              have C360 : Ctx _ _ _ _ F [p251] := Ctx.call (qs := []) (rest := [p251]) C344 C359
              obtain ⟨A361, c362, n363, p364, w365, hn366, hy367, C368, hR369⟩ := ev_lit1' (P := Tryd.prog) 33 (Kd.arrI 32 .u8) C360 Tryd.underlying31 ti33 ⟨by decide, by decide⟩ r357 (.agg (List.toArray (r357.map (Value.int .u8)))) ⟨rfl, ha358⟩
              refine WL.val (hy367 _ _ _ rfl) ?_
              obtain ⟨hc370, hX233⟩ := guardE hX233
              obtain ⟨A371, c372, n373, p374, w375, hn376, hy377, C378, hR379⟩ := ev_append' (P := Tryd.prog) (cb := c362) 33 (Kd.arrI 32 .u8) [p364] [] C368 hR252 hn366 (Row.sl hR369) (Ctx.sub_of [] [p251] C368) Tryd.underlying31 ti33 rfl zo33 (by decide) (by decide) (by simpa using hc370)
              have C380 : Ctx _ _ _ _ F [p364, p374] := C378
              refine WL.val (hy377 _ _ _ _ rfl rfl) ?_
              refine WL.val (Yl.assign (v := .slice A371 n373 c372) rfl) ?_
              refine WL.done ?_
              refine W.region rfl ?_
              refine WL.val (Yl.move (v := .slice A236 n238 c237) ho234) ?_
              refine WL.val (Yl.move (v := .int .i64 r342) rfl) ?_
              obtain ⟨hc381, hX233⟩ := guardE hX233
              have hn382 : r342.toNat = (x235.take r342.toNat).length := by rw [List.length_take]; omega
              refine WL.val (Yl.sliceHi rfl Tryd.underlying31 sz33 rfl ⟨hc381.1, by omega⟩) ?_
              refine WL.val (Yl.assign (v := .slice A236 r342.toNat c237) rfl) ?_
              refine WL.done ?_
              refine inB_n ?_
              have C384 : Ctx _ _ _ _ F [p374] := Ctx.drop [] [p374] C380
              exact thenE_n ⟨k338, Nat.lt_succ_self _, x235.take r342.toNat, x244, x246 ++ [r357], x254, A236, c237, r342.toNat, A371, c372, n373, p374, rfl, ho243, rfl, ho253, C384, hn382, (by rw [List.length_take]; omega), hm241, (Sl.take hS242 _), hn376, hR379, hX233⟩
            · skip
              refine W.condF (congrArg Value.bool (decide_eq_false hc345)) ?_
              refine W.seq ?_
              refine W.region rfl ?_
              refine WL.val (Yl.move (v := .slice A247 n249 c248) ho245) ?_
              refine WL.val (Yl.move (v := .slice A236 n238 c237) ho234) ?_
              refine WL.val (Yl.move (v := .int .i64 r342) rfl) ?_
              obtain ⟨hc385, hX233⟩ := guardE hX233
              have hn386 : r342.toNat = (x235.take r342.toNat).length := by rw [List.length_take]; omega
              refine WL.val (Yl.sliceHi rfl Tryd.underlying31 sz33 rfl ⟨hc385.1, by omega⟩) ?_
              obtain ⟨r389, hg388, hX233⟩ := bindE hX233
              refine WL.call (args := #[.slice A236 r342.toNat c237]) (Yenter.fn Tryd.func22 (by kernel_rfl) rfl (argsE (.cons rfl .nil))) (proof_Root.calls k338 _ F A236 c237 r342.toNat (x235.take r342.toNat) (Ctx.pre (qs := []) (rest := [p251]) C344) hn386 (by rw [List.length_take]; omega) hm241 (Sl.take hS242 _) (CH.le_trans hG1 (CH.le_trans (CH.le_refl _) (CH.le_refl _))) (CH.le_trans hG3 (CH.le_trans (CH.le_refl _) (CH.le_refl _))) r389 hg388) ?_
              rintro e_ w_ ⟨rfl, C391, ha390⟩
              refine ⟨_, rfl, ?_⟩
              have C392 : Ctx _ _ _ _ F [p251] := Ctx.call (qs := []) (rest := [p251]) C344 C391
              obtain ⟨A393, c394, n395, p396, w397, hn398, hy399, C400, hR401⟩ := ev_lit1' (P := Tryd.prog) 33 (Kd.arrI 32 .u8) C392 Tryd.underlying31 ti33 ⟨by decide, by decide⟩ r389 (.agg (List.toArray (r389.map (Value.int .u8)))) ⟨rfl, ha390⟩
              refine WL.val (hy399 _ _ _ rfl) ?_
              obtain ⟨hc402, hX233⟩ := guardE hX233
              obtain ⟨A403, c404, n405, p406, w407, hn408, hy409, C410, hR411⟩ := ev_append' (P := Tryd.prog) (cb := c394) 33 (Kd.arrI 32 .u8) [p396] [] C400 hR252 hn398 (Row.sl hR401) (Ctx.sub_of [] [p251] C400) Tryd.underlying31 ti33 rfl zo33 (by decide) (by decide) (by simpa using hc402)
              have C412 : Ctx _ _ _ _ F [p396, p406] := C410
              refine WL.val (hy409 _ _ _ _ rfl rfl) ?_
              refine WL.val (Yl.assign (v := .slice A403 n405 c404) rfl) ?_
              refine WL.done ?_
              refine W.region rfl ?_
              refine WL.val (Yl.move (v := .slice A236 n238 c237) ho234) ?_
              refine WL.val (Yl.move (v := .int .i64 r342) rfl) ?_
              obtain ⟨hc413, hX233⟩ := guardE hX233
              have hl422 : x235.length ≤ c237 ∧ c237 ≤ maxLen := ⟨hl240, hm241⟩
              obtain ⟨A414, c415, n416, hv417, hn418, hl419, hm420, hS421⟩ := Sl.cut hS242 (c := c237) hl422.2 r342.toNat x235.length c237 (by omega) (by omega) (by omega) (by omega)
              rw [List.take_length] at hn418 hl419 hS421
              refine WL.val (Yl.slice r342.toNat x235.length c237 rfl Tryd.underlying31 sz33 rfl (hn239).symm (OB.mk rfl (by omega)) (by simp) (by omega) (by omega) (by omega) hv417) ?_
              refine WL.val (Yl.move (v := .int .i64 x244) ho243) ?_
              refine WL.val (Yl.move (v := .int .i64 r342) rfl) ?_
              refine WL.val (Yl.sub (m := x244) (n := r342) (r := wi64 (x244 - r342)) rfl rfl rfl) ?_
              refine WL.val (Yl.assign (v := .slice A414 n416 c415) rfl) ?_
              refine WL.val (Yl.assign (v := .int .i64 (wi64 (x244 - r342))) rfl) ?_
              refine WL.val (Yl.assign (v := .bool false) rfl) ?_
              refine WL.done ?_
              refine inB_n ?_
              have C423 : Ctx _ _ _ _ F [p406] := Ctx.drop [] [p406] C412
              exact thenE_n ⟨k338, Nat.lt_succ_self _, x235.drop r342.toNat, wi64 (x244 - r342), x246 ++ [r389], false, A414, c415, n416, A403, c404, n405, p406, rfl, rfl, rfl, rfl, C423, hn418, hl419, hm420, hS421, hn408, hR411, hX233⟩
          · skip
            refine W.condF (congrArg Value.bool (decide_eq_false hc340)) ?_
            refine W.exit ?_
            refine thenE_x ?_
            refine thenE_x ?_
            refine inB_here ?_
            cases hX233
            refine thenE_n ?_
            exact ⟨A236, c237, n238, A247, c248, n249, p251, ho234, ho245, ho253, C255, hn239, hl240, hm241, hS242, hn250, hR252⟩
        · skip
          rintro env_ w_ ⟨A215, c216, n217, A224, c225, n226, p228, ho213, ho222, ho230, C232, hn218, hl219, hm220, hS221, hn227, hR229⟩
          refine W.seq ?_
          refine W.seq ?_
          refine W.region rfl ?_
          refine WL.val (Yl.move (v := .bool x231) ho230) ?_
          refine WL.val (Yl.not (p := x231) (q := !x231) rfl rfl) ?_
          refine WL.done ?_
          rcases iteE H with ⟨hc424, H⟩ | ⟨hc424, H⟩
          · skip
            refine W.condF (congrArg Value.bool (nb_t hc424)) ?_
            refine W.skip ?_
            refine W.seq ?_
            refine W.region rfl ?_
            refine WL.val (Yl.move (v := .slice A224 n226 c225) ho222) ?_
            obtain ⟨r426, hg425, H⟩ := bindE H
            refine WL.call (args := #[.slice A224 n226 c225]) (Yenter.fn Tryd.func57 (by kernel_rfl) rfl (argsE (.cons rfl .nil))) (proof_turned.calls k _ F A224 c225 n226 p228 x223 (Ctx.pre (qs := [p228]) (rest := []) C232) hn227 hR229 r426 hg425) ?_
            rintro e_ w_ ⟨A427, c428, n429, p431, rfl, C433, hn430, hR432⟩
            refine ⟨_, rfl, ?_⟩
            have C434 : Ctx _ _ _ _ F [p431] := Ctx.call (qs := [p228]) (rest := []) C232 C433
            refine WL.val (Yl.assign (v := .slice A427 n429 c428) rfl) ?_
            refine WL.val (Yl.assign (v := .int .i64 0) rfl) ?_
            refine WL.done ?_
            refine W.ret ?_
            simp only [Option.some.injEq, Prod.mk.injEq] at H
            obtain ⟨e435, e436⟩ := H
            subst e435 e436
            exact post_r (resE2 rfl rfl rfl) ⟨A427, c428, n429, p431, rfl, C434, hn430, hR432⟩
          · skip
            refine W.condT (congrArg Value.bool (nb_f hc424)) ?_
            refine W.region rfl ?_
            refine WL.val (Yl.move (v := .slice A224 n226 c225) ho222) ?_
            refine WL.val (Yl.move (v := .slice A215 n217 c216) ho213) ?_
            obtain ⟨r438, hg437, H⟩ := bindE H
            refine WL.call (args := #[.slice A215 n217 c216]) (Yenter.fn Tryd.func22 (by kernel_rfl) rfl (argsE (.cons rfl .nil))) (proof_Root.calls k _ F A215 c216 n217 x214 (Ctx.pre (qs := []) (rest := [p228]) C232) hn218 hl219 hm220 hS221 (CH.le_trans hG1 (CH.le_trans (CH.le_refl _) (CH.le_refl _))) (CH.le_trans hG3 (CH.le_trans (CH.le_refl _) (CH.le_refl _))) r438 hg437) ?_
            rintro e_ w_ ⟨rfl, C440, ha439⟩
            refine ⟨_, rfl, ?_⟩
            have C441 : Ctx _ _ _ _ F [p228] := Ctx.call (qs := []) (rest := [p228]) C232 C440
            obtain ⟨A442, c443, n444, p445, w446, hn447, hy448, C449, hR450⟩ := ev_lit1' (P := Tryd.prog) 33 (Kd.arrI 32 .u8) C441 Tryd.underlying31 ti33 ⟨by decide, by decide⟩ r438 (.agg (List.toArray (r438.map (Value.int .u8)))) ⟨rfl, ha439⟩
            refine WL.val (hy448 _ _ _ rfl) ?_
            obtain ⟨hc451, H⟩ := guardE H
            obtain ⟨A452, c453, n454, p455, w456, hn457, hy458, C459, hR460⟩ := ev_append' (P := Tryd.prog) (cb := c443) 33 (Kd.arrI 32 .u8) [p445] [] C449 hR229 hn447 (Row.sl hR450) (Ctx.sub_of [] [p228] C449) Tryd.underlying31 ti33 rfl zo33 (by decide) (by decide) (by simpa using hc451)
            have C461 : Ctx _ _ _ _ F [p445, p455] := C459
            refine WL.val (hy458 _ _ _ _ rfl rfl) ?_
            refine WL.val (Yl.assign (v := .slice A452 n454 c453) rfl) ?_
            refine WL.done ?_
            refine W.seq ?_
            refine W.region rfl ?_
            refine WL.val (Yl.move (v := .slice A452 n454 c453) rfl) ?_
            have C462 : Ctx _ _ _ _ F [p455, p445] := Ctx.swap [] [] C461
            obtain ⟨r464, hg463, H⟩ := bindE H
            refine WL.call (args := #[.slice A452 n454 c453]) (Yenter.fn Tryd.func57 (by kernel_rfl) rfl (argsE (.cons rfl .nil))) (proof_turned.calls k _ F A452 c453 n454 p455 (x223 ++ [r438]) (Ctx.pre (qs := [p455]) (rest := [p445]) C462) hn457 hR460 r464 hg463) ?_
            rintro e_ w_ ⟨A465, c466, n467, p469, rfl, C471, hn468, hR470⟩
            refine ⟨_, rfl, ?_⟩
            have C472 : Ctx _ _ _ _ F [p469, p445] := Ctx.call (qs := [p455]) (rest := [p445]) C462 C471
            refine WL.val (Yl.assign (v := .slice A465 n467 c466) rfl) ?_
            refine WL.val (Yl.assign (v := .int .i64 0) rfl) ?_
            refine WL.done ?_
            refine W.ret ?_
            have C473 : Ctx _ _ _ _ F [p469] := Ctx.drop [p469] [] C472
            simp only [Option.some.injEq, Prod.mk.injEq] at H
            obtain ⟨e474, e475⟩ := H
            subst e474 e475
            exact post_r (resE2 rfl rfl rfl) ⟨A465, c466, n467, p469, rfl, C473, hn468, hR470⟩
def proof_climb_up.f (k : Nat) (a0 : Tclimb) : Option Tclimb := some (⟨shrOp .i64 a0.at_ 1, shrOp .i64 a0.last 1⟩ : Tclimb)
set_option maxRecDepth 100000 in
set_option maxHeartbeats 4000000 in
theorem proof_climb_up.calls (k : Nat) (w : World) (F : CH) (g1 : Nat) (o2 : Nat) (a0 : Tclimb) (hp : Pre w F [CH.row g1 o2 [.int .i64 a0.at_, .int .i64 a0.last]])  (r0_ : Tclimb) (H : proof_climb_up.f k a0 = some r0_) :
    Calls Tryd.prog 61 #[.pointer (some ⟨g1, o2, none⟩)] w fun e w' => e = .returned (.tuple #[]) ∧ Ctx w F (domL [CH.row g1 o2 [.int .i64 a0.at_, .int .i64 a0.last]]) w' F [CH.row g1 o2 [.int .i64 r0_.at_, .int .i64 r0_.last]] := by
  have C := Ctx.start hp
  generalize hD : domL [CH.row g1 o2 [.int .i64 a0.at_, .int .i64 a0.last]] = D at C ⊢
  unfold proof_climb_up.f at H
  refine Calls.ofW Tryd.func61 rfl (by simp [Tryd.ntmps61]) ?_
  refine W.regionA [([14, 17], CH.row g1 o2 [.int .i64 a0.at_, .int .i64 a0.last])] (by kernel_rfl) ?_
  have C11 := Ctx.drewN C 1
  refine WA.take none [] 0 rfl (by kernel_rfl) (by kernel_rfl) (show _ = #[true, false, false, false, false, false, false, false, false, false, false, false, false, false, false, false, false, false] from rfl) trivial ⟨(Ctx.sub_of [] [] C11), trivial⟩ (fun _ hC_ => Yl.move (v := .pointer (some ⟨g1, o2, none⟩)) rfl) ?_
  refine WA.take none [] 1 rfl (by kernel_rfl) (by kernel_rfl) (show _ = #[true, true, false, false, false, false, false, false, false, false, false, false, false, false, false, false, false, false] from rfl) trivial ⟨(Ctx.sub_of [] [] C11), trivial⟩ (fun _ hC_ => Yl.move (v := .pointer (some ⟨g1, o2, none⟩)) rfl) ?_
  refine WA.take none [] 2 rfl (by kernel_rfl) (by kernel_rfl) (show _ = #[true, true, true, false, false, false, false, false, false, false, false, false, false, false, false, false, false, false] from rfl) trivial ⟨(Ctx.sub_of [] [] C11), trivial⟩ (fun _ hC_ => Yl.move (v := .pointer (some ⟨g1, o2, none⟩)) rfl) ?_
  refine WA.take none [] 3 rfl (by kernel_rfl) (by kernel_rfl) (show _ = #[true, true, true, true, false, false, false, false, false, false, false, false, false, false, false, false, false, false] from rfl) trivial ⟨(Ctx.sub_of [] [] C11), trivial⟩ (fun _ hC_ => Yl.nilCheck rfl) ?_
  refine WA.take none [] 4 rfl (by kernel_rfl) (by kernel_rfl) (show _ = #[true, true, true, true, true, false, false, false, false, false, false, false, false, false, false, false, false, false] from rfl) trivial ⟨(Ctx.sub_of [] [] C11), trivial⟩ (fun _ hC_ => Yl.fieldAddr (i := 0) rfl Tryd.underlying90 rfl sz3) ?_
  refine WA.take (some 0) [6, 12, 13, 14, 15, 16, 17] 5 rfl (by kernel_rfl) (by kernel_rfl) (show _ = #[true, true, true, true, true, true, false, false, false, false, false, false, false, false, false, false, false, false] from rfl) (Ctx.sub_of [] [] C11) ⟨(Ctx.sub_of [] [] C11), trivial⟩ (fun _ hC_ => Yl.loadV (g := g1) (off := o2) (o := 0) (cs := [.int .i64 a0.at_, .int .i64 a0.last]) (v := .int .i64 a0.at_) rfl Tryd.underlying3 rfl (show Sub (CH.row g1 o2 [.int .i64 a0.at_, .int .i64 a0.last]) _ from hC_) rfl) ?_
  refine WA.take none [] 6 rfl (by kernel_rfl) (by kernel_rfl) (show _ = #[true, true, true, true, true, true, true, false, false, false, false, false, false, false, false, false, false, false] from rfl) trivial ⟨(Ctx.sub_of [] [] C11), trivial⟩ (fun _ hC_ => Yl.shr (m := a0.at_) (n := 1) (r := shrOp .i64 a0.at_ 1) rfl rfl (by decide) rfl) ?_
  refine WA.take none [] 7 rfl (by kernel_rfl) (by kernel_rfl) (show _ = #[true, true, true, true, true, true, true, true, false, false, false, false, false, false, false, false, false, false] from rfl) trivial ⟨(Ctx.sub_of [] [] C11), trivial⟩ (fun _ hC_ => Yl.move (v := .pointer (some ⟨g1, o2, none⟩)) rfl) ?_
  refine WA.take none [] 8 rfl (by kernel_rfl) (by kernel_rfl) (show _ = #[true, true, true, true, true, true, true, true, true, false, false, false, false, false, false, false, false, false] from rfl) trivial ⟨(Ctx.sub_of [] [] C11), trivial⟩ (fun _ hC_ => Yl.nilCheck rfl) ?_
  refine WA.take none [] 9 rfl (by kernel_rfl) (by kernel_rfl) (show _ = #[true, true, true, true, true, true, true, true, true, true, false, false, false, false, false, false, false, false] from rfl) trivial ⟨(Ctx.sub_of [] [] C11), trivial⟩ (fun _ hC_ => Yl.fieldAddr (i := 1) rfl Tryd.underlying90 rfl sz3) ?_
  refine WA.take (some 0) [11, 12, 13, 14, 15, 16, 17] 10 rfl (by kernel_rfl) (by kernel_rfl) (show _ = #[true, true, true, true, true, true, true, true, true, true, true, false, false, false, false, false, false, false] from rfl) (Ctx.sub_of [] [] C11) ⟨(Ctx.sub_of [] [] C11), trivial⟩ (fun _ hC_ => Yl.loadV (g := g1) (off := o2) (o := 1) (cs := [.int .i64 a0.at_, .int .i64 a0.last]) (v := .int .i64 a0.last) rfl Tryd.underlying3 rfl (show Sub (CH.row g1 o2 [.int .i64 a0.at_, .int .i64 a0.last]) _ from hC_) rfl) ?_
  refine WA.take none [] 11 rfl (by kernel_rfl) (by kernel_rfl) (show _ = #[true, true, true, true, true, true, true, true, true, true, true, true, false, false, false, false, false, false] from rfl) trivial ⟨(Ctx.sub_of [] [] C11), trivial⟩ (fun _ hC_ => Yl.shr (m := a0.last) (n := 1) (r := shrOp .i64 a0.last 1) rfl rfl (by decide) rfl) ?_
  refine WA.take none [] 12 rfl (by kernel_rfl) (by kernel_rfl) (show _ = #[true, true, true, true, true, true, true, true, true, true, true, true, true, false, false, false, false, false] from rfl) trivial ⟨(Ctx.sub_of [] [] C11), trivial⟩ (fun _ hC_ => Yl.nilCheck rfl) ?_
  refine WA.take none [] 13 rfl (by kernel_rfl) (by kernel_rfl) (show _ = #[true, true, true, true, true, true, true, true, true, true, true, true, true, true, false, false, false, false] from rfl) trivial ⟨(Ctx.sub_of [] [] C11), trivial⟩ (fun _ hC_ => Yl.fieldAddr (i := 0) rfl Tryd.underlying90 rfl sz3) ?_
  obtain ⟨w12, hy13, C14⟩ := ev_set (P := Tryd.prog) (ps1 := []) (ps2 := []) (t := 3) (o := 0) [.int .i64 a0.at_, .int .i64 a0.last] [] [.int .i64 a0.at_] [.int .i64 a0.last] [.int .i64 (shrOp .i64 a0.at_ 1)] (.int .i64 (shrOp .i64 a0.at_ 1)) C11 rfl rfl rfl rfl (by simp [Value.oneCell']) sz3
  have C15 : Ctx _ _ _ _ F [CH.row g1 o2 [.int .i64 (shrOp .i64 a0.at_ 1), .int .i64 a0.last]] := C14
  refine WA.up1 14 (by kernel_rfl) (Up.skip rfl (show _ = #[true, true, true, true, true, true, true, true, true, true, true, true, true, true, true, false, false, false] from rfl) (hy13 _ _ _ _ rfl rfl) ⟨trivial, trivial⟩ ?_)
  refine WA.take none [] 15 rfl (by kernel_rfl) (by kernel_rfl) (show _ = #[true, true, true, true, true, true, true, true, true, true, true, true, true, true, true, true, false, false] from rfl) trivial ⟨trivial, trivial⟩ (fun _ hC_ => Yl.nilCheck rfl) ?_
  refine WA.take none [] 16 rfl (by kernel_rfl) (by kernel_rfl) (show _ = #[true, true, true, true, true, true, true, true, true, true, true, true, true, true, true, true, true, false] from rfl) trivial ⟨trivial, trivial⟩ (fun _ hC_ => Yl.fieldAddr (i := 1) rfl Tryd.underlying90 rfl sz3) ?_
  obtain ⟨w16, hy17, C18⟩ := ev_set (P := Tryd.prog) (ps1 := []) (ps2 := []) (t := 3) (o := 1) [.int .i64 (shrOp .i64 a0.at_ 1), .int .i64 a0.last] [.int .i64 (shrOp .i64 a0.at_ 1)] [.int .i64 a0.last] [] [.int .i64 (shrOp .i64 a0.last 1)] (.int .i64 (shrOp .i64 a0.last 1)) C15 rfl rfl rfl rfl (by simp [Value.oneCell']) sz3
  have C19 : Ctx _ _ _ _ F [CH.row g1 o2 [.int .i64 (shrOp .i64 a0.at_ 1), .int .i64 (shrOp .i64 a0.last 1)]] := C18
  refine WA.up1 17 (by kernel_rfl) (Up.skip rfl (show _ = #[true, true, true, true, true, true, true, true, true, true, true, true, true, true, true, true, true, true] from rfl) (hy17 _ _ _ _ rfl rfl) ⟨trivial, trivial⟩ ?_)
  refine WA.done (by kernel_rfl) ?_
  have e20 := Option.some.inj H
  subst e20
  exact post_n (resE0 rfl ) ⟨rfl, C19⟩
def proof_climb_right.l1 : Nat → Tclimb → Option Tclimb
  | 0, _ => none
  | k + 1, x69 => (if (bitsOp .and .i64 x69.at_ 1) = 0 then (some (!decide (x69.at_ = 0))) else (some (false))).bind fun g83 => if g83 = true then ((proof_climb_up.f k x69).bind fun r91 => proof_climb_right.l1 k r91) else (some x69)
def proof_climb_right.f (k : Nat) (a0 : Tclimb) : Option (Bool × Tclimb) := (if (bitsOp .and .i64 a0.at_ 1) = 0 then (some (!decide (a0.at_ = a0.last))) else (some (false))).bind fun g3 => if g3 = true then (some (false, a0)) else ((proof_climb_right.l1 k a0).bind fun x52 => some (true, x52))
set_option maxRecDepth 100000 in
set_option maxHeartbeats 4000000 in
theorem proof_climb_right.calls (k : Nat) (w : World) (F : CH) (g1 : Nat) (o2 : Nat) (a0 : Tclimb) (hp : Pre w F [CH.row g1 o2 [.int .i64 a0.at_, .int .i64 a0.last]])  (r0_ : Bool) (r1_ : Tclimb) (H : proof_climb_right.f k a0 = some (r0_, r1_)) :
    Calls Tryd.prog 60 #[.pointer (some ⟨g1, o2, none⟩)] w fun e w' => e = .returned (.bool r0_) ∧ Ctx w F (domL [CH.row g1 o2 [.int .i64 a0.at_, .int .i64 a0.last]]) w' F [CH.row g1 o2 [.int .i64 r1_.at_, .int .i64 r1_.last]] := by
  have C := Ctx.start hp
  generalize hD : domL [CH.row g1 o2 [.int .i64 a0.at_, .int .i64 a0.last]] = D at C ⊢
  unfold proof_climb_right.f at H
  refine Calls.ofW Tryd.func60 rfl (by simp [Tryd.ntmps60]) ?_
  refine W.seq ?_
  refine W.region rfl ?_
  refine WL.val (Yl.assign (v := .bool false) rfl) ?_
  refine WL.done ?_
  refine W.seq ?_
  refine W.seq ?_
  refine W.region_quiet (by kernel_rfl) (by kernel_rfl) rfl ?_
  refine WQ.val (fun _ hw => by obtain ⟨_, rfl⟩ := hw; exact Yl.move (v := .pointer (some ⟨g1, o2, none⟩)) rfl) ?_
  refine WQ.val (fun _ hw => by obtain ⟨_, rfl⟩ := hw; exact Yl.nilCheck rfl) ?_
  refine WQ.val (fun _ hw => by obtain ⟨_, rfl⟩ := hw; exact Yl.fieldAddr (i := 0) rfl Tryd.underlying90 rfl sz3) ?_
  refine WQ.val (fun _ hw => by obtain ⟨_, rfl⟩ := hw; exact Yl.loadV (g := g1) (off := o2) (o := 0) (cs := [.int .i64 a0.at_, .int .i64 a0.last]) (v := .int .i64 a0.at_) rfl Tryd.underlying3 rfl (Ctx.sub_of [] [] (C.drewN _)) rfl) ?_
  refine WQ.val (fun _ hw => by obtain ⟨_, rfl⟩ := hw; exact Yl.and (m := a0.at_) (n := 1) (r := bitsOp .and .i64 a0.at_ 1) rfl rfl rfl) ?_
  refine WQ.val (fun _ hw => by obtain ⟨_, rfl⟩ := hw; exact Yl.eql (m := bitsOp .and .i64 a0.at_ 1) (n := 0) (q := decide ((bitsOp .and .i64 a0.at_ 1) = 0)) rfl rfl rfl) ?_
  refine WQ.val (fun _ hw => by obtain ⟨_, rfl⟩ := hw; exact Yl.move (v := .bool (decide ((bitsOp .and .i64 a0.at_ 1) = 0))) rfl) ?_
  obtain ⟨g3, HE4, H⟩ := bindE H
  refine WQ.cut (fun env_ => env_ 19 = .bool g3 ∧ env_ 0 = .pointer (some ⟨g1, o2, none⟩)) ?_ ?_
  · skip
    rcases iteE HE4 with ⟨hc5, HE4⟩ | ⟨hc5, HE4⟩
    · skip
      refine WQ.on rfl (congrArg Value.bool (decide_eq_true hc5)) ?_
      refine WQ.val (fun _ hw => by obtain ⟨_, rfl⟩ := hw; exact Yl.move (v := .pointer (some ⟨g1, o2, none⟩)) rfl) ?_
      refine WQ.on rfl (congrArg Value.bool (decide_eq_true hc5)) ?_
      refine WQ.val (fun _ hw => by obtain ⟨_, rfl⟩ := hw; exact Yl.nilCheck rfl) ?_
      refine WQ.on rfl (congrArg Value.bool (decide_eq_true hc5)) ?_
      refine WQ.val (fun _ hw => by obtain ⟨_, rfl⟩ := hw; exact Yl.fieldAddr (i := 0) rfl Tryd.underlying90 rfl sz3) ?_
      refine WQ.on rfl (congrArg Value.bool (decide_eq_true hc5)) ?_
      refine WQ.val (fun _ hw => by obtain ⟨_, rfl⟩ := hw; exact Yl.loadV (g := g1) (off := o2) (o := 0) (cs := [.int .i64 a0.at_, .int .i64 a0.last]) (v := .int .i64 a0.at_) rfl Tryd.underlying3 rfl (Ctx.sub_of [] [] (C.drewN _)) rfl) ?_
      refine WQ.on rfl (congrArg Value.bool (decide_eq_true hc5)) ?_
      refine WQ.val (fun _ hw => by obtain ⟨_, rfl⟩ := hw; exact Yl.move (v := .pointer (some ⟨g1, o2, none⟩)) rfl) ?_
      refine WQ.on rfl (congrArg Value.bool (decide_eq_true hc5)) ?_
      refine WQ.val (fun _ hw => by obtain ⟨_, rfl⟩ := hw; exact Yl.nilCheck rfl) ?_
      refine WQ.on rfl (congrArg Value.bool (decide_eq_true hc5)) ?_
      refine WQ.val (fun _ hw => by obtain ⟨_, rfl⟩ := hw; exact Yl.fieldAddr (i := 1) rfl Tryd.underlying90 rfl sz3) ?_
      refine WQ.on rfl (congrArg Value.bool (decide_eq_true hc5)) ?_
      refine WQ.val (fun _ hw => by obtain ⟨_, rfl⟩ := hw; exact Yl.loadV (g := g1) (off := o2) (o := 1) (cs := [.int .i64 a0.at_, .int .i64 a0.last]) (v := .int .i64 a0.last) rfl Tryd.underlying3 rfl (Ctx.sub_of [] [] (C.drewN _)) rfl) ?_
      refine WQ.on rfl (congrArg Value.bool (decide_eq_true hc5)) ?_
      refine WQ.val (fun _ hw => by obtain ⟨_, rfl⟩ := hw; exact Yl.neq (m := a0.at_) (n := a0.last) (q := !decide (a0.at_ = a0.last)) rfl rfl rfl) ?_
      refine WQ.val (fun _ hw => by obtain ⟨_, rfl⟩ := hw; exact Yl.pickT (v := .bool (!decide (a0.at_ = a0.last))) (congrArg Value.bool (decide_eq_true hc5)) rfl) ?_
      cases HE4
      exact WQ.done ⟨rfl, rfl⟩
    · skip
      refine WQ.off rfl (congrArg Value.bool (decide_eq_false hc5)) ?_
      refine WQ.off rfl (congrArg Value.bool (decide_eq_false hc5)) ?_
      refine WQ.off rfl (congrArg Value.bool (decide_eq_false hc5)) ?_
      refine WQ.off rfl (congrArg Value.bool (decide_eq_false hc5)) ?_
      refine WQ.off rfl (congrArg Value.bool (decide_eq_false hc5)) ?_
      refine WQ.off rfl (congrArg Value.bool (decide_eq_false hc5)) ?_
      refine WQ.off rfl (congrArg Value.bool (decide_eq_false hc5)) ?_
      refine WQ.off rfl (congrArg Value.bool (decide_eq_false hc5)) ?_
      refine WQ.off rfl (congrArg Value.bool (decide_eq_false hc5)) ?_
      refine WQ.val (fun _ hw => by obtain ⟨_, rfl⟩ := hw; exact Yl.pickF (v := .bool false) (congrArg Value.bool (decide_eq_false hc5)) rfl) ?_
      cases HE4
      exact WQ.done ⟨rfl, rfl⟩
  · skip
    rintro env_ ⟨ho6, ho7⟩
    intro nq8
    have C9 := Ctx.drewN C nq8
    rcases iteE H with ⟨hc10, H⟩ | ⟨hc10, H⟩
    · skip
      refine W.condT (ho6.trans (congrArg Value.bool hc10)) ?_
      refine W.seq ?_
      refine W.region rfl ?_
      refine WL.val (Yl.assign (v := .bool false) rfl) ?_
      refine WL.done ?_
      refine W.ret ?_
      refine thenE_r ?_
      simp only [Option.some.injEq, Prod.mk.injEq] at H
      obtain ⟨e11, e12⟩ := H
      subst e11 e12
      exact post_r (resE1 rfl rfl) ⟨rfl, C9⟩
    · skip
      refine W.condF (ho6.trans (congrArg Value.bool (Bool.eq_false_iff.2 hc10))) ?_
      refine W.skip ?_
      refine W.seq ?_
      obtain ⟨x52, hX54, H⟩ := bindE H
      refine W.cutM (fun env_ w_ => Ctx w F D w_ F [CH.row g1 o2 [.int .i64 x52.at_, .int .i64 x52.last]]) ?_ ?_
      · skip
        refine W.block ?_
        refine W.loop (fun g_ env_ w_ => ∃ (x69 : Tclimb), env_ 0 = .pointer (some ⟨g1, o2, none⟩) ∧ Ctx w F D w_ F [CH.row g1 o2 [.int .i64 x69.at_, .int .i64 x69.last]] ∧ proof_climb_right.l1 g_ x69 = some x52) k ⟨a0, ho7, C9, hX54⟩ ?_
        clear hX54
        rintro g_ env_ w_ ⟨x69, ho68, C70, hX54⟩
        rcases g_ with _ | k82
        · exact absurd hX54 (by simp [proof_climb_right.l1])
        rw [proof_climb_right.l1] at hX54
        refine W.seq ?_
        refine W.seq ?_
        refine W.region rfl ?_
        refine WL.val (Yl.move (v := .pointer (some ⟨g1, o2, none⟩)) ho68) ?_
        refine WL.val (Yl.nilCheck rfl) ?_
        refine WL.val (Yl.fieldAddr (i := 0) rfl Tryd.underlying90 rfl sz3) ?_
        refine WL.val (Yl.loadV (g := g1) (off := o2) (o := 0) (cs := [.int .i64 x69.at_, .int .i64 x69.last]) (v := .int .i64 x69.at_) rfl Tryd.underlying3 rfl (Ctx.sub_of [] [] C70) rfl) ?_
        refine WL.val (Yl.and (m := x69.at_) (n := 1) (r := bitsOp .and .i64 x69.at_ 1) rfl rfl rfl) ?_
        refine WL.val (Yl.eql (m := bitsOp .and .i64 x69.at_ 1) (n := 0) (q := decide ((bitsOp .and .i64 x69.at_ 1) = 0)) rfl rfl rfl) ?_
        refine WL.val (Yl.move (v := .bool (decide ((bitsOp .and .i64 x69.at_ 1) = 0))) rfl) ?_
        obtain ⟨g83, HE84, hX54⟩ := bindE hX54
        refine WL.cut (fun env_ w_ => env_ 32 = .bool g83 ∧ env_ 0 = .pointer (some ⟨g1, o2, none⟩) ∧ Ctx w F D w_ F [CH.row g1 o2 [.int .i64 x69.at_, .int .i64 x69.last]]) ?_ ?_
        · skip
          rcases iteE HE84 with ⟨hc85, HE84⟩ | ⟨hc85, HE84⟩
          · skip
            refine WL.on rfl (congrArg Value.bool (decide_eq_true hc85)) ?_
            refine WL.val (Yl.move (v := .pointer (some ⟨g1, o2, none⟩)) ho68) ?_
            refine WL.on rfl (congrArg Value.bool (decide_eq_true hc85)) ?_
            refine WL.val (Yl.nilCheck rfl) ?_
            refine WL.on rfl (congrArg Value.bool (decide_eq_true hc85)) ?_
            refine WL.val (Yl.fieldAddr (i := 0) rfl Tryd.underlying90 rfl sz3) ?_
            refine WL.on rfl (congrArg Value.bool (decide_eq_true hc85)) ?_
            refine WL.val (Yl.loadV (g := g1) (off := o2) (o := 0) (cs := [.int .i64 x69.at_, .int .i64 x69.last]) (v := .int .i64 x69.at_) rfl Tryd.underlying3 rfl (Ctx.sub_of [] [] C70) rfl) ?_
            refine WL.on rfl (congrArg Value.bool (decide_eq_true hc85)) ?_
            refine WL.val (Yl.neq (m := x69.at_) (n := 0) (q := !decide (x69.at_ = 0)) rfl rfl rfl) ?_
            refine WL.val (Yl.pickT (v := .bool (!decide (x69.at_ = 0))) (congrArg Value.bool (decide_eq_true hc85)) rfl) ?_
            cases HE84
            exact WL.done ⟨rfl, ho68, C70⟩
          · skip
            refine WL.off rfl (congrArg Value.bool (decide_eq_false hc85)) ?_
            refine WL.off rfl (congrArg Value.bool (decide_eq_false hc85)) ?_
            refine WL.off rfl (congrArg Value.bool (decide_eq_false hc85)) ?_
            refine WL.off rfl (congrArg Value.bool (decide_eq_false hc85)) ?_
            refine WL.off rfl (congrArg Value.bool (decide_eq_false hc85)) ?_
            refine WL.val (Yl.pickF (v := .bool false) (congrArg Value.bool (decide_eq_false hc85)) rfl) ?_
            cases HE84
            exact WL.done ⟨rfl, ho68, C70⟩
        · skip
          rintro env_ w_ ⟨ho86, ho87, C88⟩
          rcases iteE hX54 with ⟨hc89, hX54⟩ | ⟨hc89, hX54⟩
          · skip
            refine W.condT (ho86.trans (congrArg Value.bool hc89)) ?_
            refine W.skip ?_
            refine W.block ?_
            refine W.region rfl ?_
            refine WL.val (Yl.move (v := .pointer (some ⟨g1, o2, none⟩)) ho87) ?_
            obtain ⟨r91, hg90, hX54⟩ := bindE hX54
            refine WL.call (args := #[.pointer (some ⟨g1, o2, none⟩)]) (Yenter.fn Tryd.func61 (by kernel_rfl) rfl (argsE (.cons rfl .nil))) (proof_climb_up.calls k82 _ F g1 o2 x69 (Ctx.pre (qs := [CH.row g1 o2 [.int .i64 x69.at_, .int .i64 x69.last]]) (rest := []) C88)  r91 hg90) ?_
            rintro e_ w_ ⟨rfl, C92⟩
            refine ⟨_, rfl, ?_⟩
            have C93 : Ctx _ _ _ _ F [CH.row g1 o2 [.int .i64 r91.at_, .int .i64 r91.last]] := Ctx.call (qs := [CH.row g1 o2 [.int .i64 x69.at_, .int .i64 x69.last]]) (rest := []) C88 C92
            refine WL.done ?_
            refine inB_n ?_
            exact thenE_n ⟨k82, Nat.lt_succ_self _, r91, ho87, C93, hX54⟩
          · skip
            refine W.condF (ho86.trans (congrArg Value.bool (Bool.eq_false_iff.2 hc89))) ?_
            refine W.exit ?_
            refine thenE_x ?_
            refine thenE_x ?_
            refine inB_here ?_
            cases hX54
            refine thenE_n ?_
            exact C88
      · skip
        rintro env_ w_ C53
        refine W.seq ?_
        refine W.region rfl ?_
        refine WL.val (Yl.assign (v := .bool true) rfl) ?_
        refine WL.done ?_
        refine W.ret ?_
        simp only [Option.some.injEq, Prod.mk.injEq] at H
        obtain ⟨e94, e95⟩ := H
        subst e94 e95
        exact post_r (resE1 rfl rfl) ⟨rfl, C53⟩
def proof_Included.l1 : Nat → List (List Int) → Int → List Int → Tclimb → Option (Sum ((List Int) × Tclimb) Bool)
  | 0, _, _, _, _ => none
  | k + 1, a3, x297, x298, x300 => if x297 < (a3.length : Int) then (if 0 ≤ x297 ∧ x297 < (a3.length : Int) then (if x300.last = 0 then (some (Sum.inr false)) else ((proof_climb_right.f k x300).bind fun ⟨r385, r386⟩ => if r385 = true then ((proof_Node.f k (a3.getD x297.toNat []) x298).bind fun r391 => (proof_climb_up.f k r386).bind fun r400 => proof_Included.l1 k a3 (wi64 (x297 + 1)) r391 r400) else ((proof_Node.f k x298 (a3.getD x297.toNat [])).bind fun r406 => (proof_climb_up.f k r386).bind fun r415 => proof_Included.l1 k a3 (wi64 (x297 + 1)) r406 r415))) else none) else (some (Sum.inl (x298, x300)))
def proof_Included.f (k : Nat) (a0 : List Int) (a1 : Int) (a2 : Int) (a3 : List (List Int)) (a4 : List Int) : Option Bool := if ((decide (a1 < 0)) || (decide (a1 ≥ a2))) = true then (some false) else ((proof_Included.l1 k a3 0 a0 (⟨a1, wi64 (a2 - 1)⟩ : Tclimb)).bind fun o_ => sumE o_ (fun ⟨x225, x227⟩ => (if x227.last = 0 then (some (decide (x225 = a4))) else (some (false))).bind fun g420 => some g420) (fun p_ => some p_))
set_option maxRecDepth 100000 in
set_option maxHeartbeats 4000000 in
theorem proof_Included.calls (k : Nat) (w : World) (F : CH) (a0 : List Int) (a1 : Int) (a2 : Int) (A2 : Option Addr) (c3 : Nat) (n4 : Nat) (a3 : List (List Int)) (a4 : List Int) (hp : Pre w F []) (ha1 : a0.length = 32) (hn5 : n4 = a3.length) (hl6 : a3.length ≤ c3) (hm7 : c3 ≤ maxLen) (hS8 : Sl (Kd.arrI 32 .u8) F F A2 a3) (ha9 : a4.length = 32) (hG1 : CH.le (CH.row 1 0 (glob1.map (Value.int .u32))) F) (hG3 : CH.le (CH.row 3 0 (glob3.map (Value.int .u32))) F) (r0_ : Bool) (H : proof_Included.f k a0 a1 a2 a3 a4 = some r0_) :
    Calls Tryd.prog 34 #[.agg (List.toArray (a0.map (Value.int .u8))), .int .i64 a1, .int .i64 a2, .slice A2 n4 c3, .agg (List.toArray (a4.map (Value.int .u8)))] w fun e w' => e = .returned (.bool r0_) ∧ Ctx w F (domL []) w' F [] := by
  have C := Ctx.start hp
  generalize hD : domL [] = D at C ⊢
  unfold proof_Included.f at H
  refine Calls.ofW Tryd.func34 rfl (by simp [Tryd.ntmps34]) ?_
  refine W.seq ?_
  refine W.region rfl ?_
  obtain ⟨g10, w11, hy12, C13⟩ := ev_box (P := Tryd.prog) 33 (.agg (List.toArray (a0.map (Value.int .u8)))) (a0.map (Value.int .u8)) C rfl
  refine WL.val (hy12 _ _ _ rfl) ?_
  obtain ⟨g14, w15, hy16, C17⟩ := ev_box (P := Tryd.prog) 33 (.agg (List.toArray (a4.map (Value.int .u8)))) (a4.map (Value.int .u8)) C13 rfl
  refine WL.val (hy16 _ _ _ rfl) ?_
  refine WL.val (Yl.assign (v := .bool false) rfl) ?_
  refine WL.done ?_
  refine W.seq ?_
  refine W.seq ?_
  refine W.region rfl ?_
  refine WL.val (Yl.move (v := .int .i64 a1) rfl) ?_
  refine WL.val (Yl.lss (m := a1) (n := 0) (q := decide (a1 < 0)) rfl rfl rfl) ?_
  refine WL.val (Yl.move (v := .bool (decide (a1 < 0))) rfl) ?_
  refine WL.cut (fun env_ w_ => env_ 20 = .bool ((decide (a1 < 0)) || (decide (a1 ≥ a2))) ∧ env_ 1 = .int .i64 a1 ∧ env_ 2 = .int .i64 a2 ∧ env_ 3 = .slice A2 n4 c3 ∧ env_ 5 = .pointer (some ⟨g10, 0, none⟩) ∧ env_ 9 = .pointer (some ⟨g14, 0, none⟩) ∧ Ctx w F D w_ F [CH.row g14 0 (a4.map (Value.int .u8)), CH.row g10 0 (a0.map (Value.int .u8))]) ?_ ?_
  · skip
    rcases Bool.eq_false_or_eq_true (decide (a1 < 0)) with hb18 | hb18
    · skip
      refine WL.off rfl (congrArg Value.bool hb18) ?_
      refine WL.off rfl (congrArg Value.bool hb18) ?_
      refine WL.off rfl (congrArg Value.bool hb18) ?_
      refine WL.val (Yl.pickT (v := .bool true) (congrArg Value.bool hb18) rfl) ?_
      exact WL.done ⟨(congrArg Value.bool (show true = ((decide (a1 < 0)) || (decide (a1 ≥ a2))) from by simp [hb18])), rfl, rfl, rfl, rfl, rfl, C17⟩
    · skip
      refine WL.on rfl (congrArg Value.bool hb18) ?_
      refine WL.val (Yl.move (v := .int .i64 a1) rfl) ?_
      refine WL.on rfl (congrArg Value.bool hb18) ?_
      refine WL.val (Yl.move (v := .int .i64 a2) rfl) ?_
      refine WL.on rfl (congrArg Value.bool hb18) ?_
      refine WL.val (Yl.geq (m := a1) (n := a2) (q := decide (a1 ≥ a2)) rfl rfl rfl) ?_
      refine WL.val (Yl.pickF (v := .bool (decide (a1 ≥ a2))) (congrArg Value.bool hb18) rfl) ?_
      exact WL.done ⟨(congrArg Value.bool (show (decide (a1 ≥ a2)) = ((decide (a1 < 0)) || (decide (a1 ≥ a2))) from by simp [hb18])), rfl, rfl, rfl, rfl, rfl, C17⟩
  · skip
    rintro env_ w_ ⟨ho19, ho20, ho21, ho22, ho23, ho24, C25⟩
    rcases iteE H with ⟨hc26, H⟩ | ⟨hc26, H⟩
    · skip
      refine W.condT (ho19.trans (congrArg Value.bool hc26)) ?_
      refine W.seq ?_
      refine W.region rfl ?_
      refine WL.val (Yl.assign (v := .bool false) rfl) ?_
      refine WL.done ?_
      refine W.ret ?_
      refine thenE_r ?_
      have C27 : Ctx _ _ _ _ F [CH.row g10 0 (a0.map (Value.int .u8))] := Ctx.drop [] [CH.row g10 0 (a0.map (Value.int .u8))] C25
      have C28 : Ctx _ _ _ _ F [] := Ctx.drop [] [] C27
      have e29 := Option.some.inj H
      subst e29
      exact post_r (resE1 rfl rfl) ⟨rfl, C28⟩
    · skip
      refine W.condF (ho19.trans (congrArg Value.bool (Bool.eq_false_iff.2 hc26))) ?_
      refine W.skip ?_
      refine W.seq ?_
      refine W.region rfl ?_
      refine WL.val (Yl.move (v := .int .i64 a1) ho20) ?_
      refine WL.val (Yl.move (v := .int .i64 a2) ho21) ?_
      refine WL.val (Yl.sub (m := a2) (n := 1) (r := wi64 (a2 - 1)) rfl rfl rfl) ?_
      refine WL.val (Yl.build (places := [(0, 1), (1, 1)]) (cs := List.toArray [.int .i64 a1, .int .i64 (wi64 (a2 - 1))]) Tryd.underlying90 zr90 (pl90 _ Tryd.underlying90) (partsB (.cons rfl (.cons rfl .nil))) rfl) ?_
      obtain ⟨g30, w31, hy32, C33⟩ := ev_alloc (P := Tryd.prog) (e := 90) [.int .i64 0, .int .i64 0] C25 zr90 rfl
      refine WL.val (hy32 _ _) ?_
      obtain ⟨w34, hy35, C36⟩ := ev_set (P := Tryd.prog) (ps1 := []) (ps2 := [CH.row g14 0 (a4.map (Value.int .u8)), CH.row g10 0 (a0.map (Value.int .u8))]) (t := 90) (o := 0) [.int .i64 0, .int .i64 0] [] [.int .i64 0, .int .i64 0] [] [.int .i64 a1, .int .i64 (wi64 (a2 - 1))] (.agg (List.toArray [.int .i64 a1, .int .i64 (wi64 (a2 - 1))])) C33 rfl rfl rfl rfl (by simp [Value.oneCell']) sz90
      have C37 : Ctx _ _ _ _ F [CH.row g30 0 [.int .i64 a1, .int .i64 (wi64 (a2 - 1))], CH.row g14 0 (a4.map (Value.int .u8)), CH.row g10 0 (a0.map (Value.int .u8))] := C36
      refine WL.skip (hy35 _ _ _ _ rfl rfl) ?_
      refine WL.done ?_
      refine W.seq ?_
      refine W.seq ?_
      refine W.region rfl ?_
      refine WL.val (Yl.move (v := .slice A2 n4 c3) ho22) ?_
      refine WL.val (Yl.lenN (A := A2) (l := n4) (q := c3) (n := (a3.length : Int)) rfl Tryd.underlying31 (by omega)) ?_
      refine WL.val (Yl.move (v := .int .i64 0) rfl) ?_
      refine WL.done ?_
      obtain ⟨o230, hX229, H⟩ := bindE H
      refine W.cutM (fun env_ w_ => ∃ (x225 : List Int) (x227 : Tclimb), env_ 5 = .pointer (some ⟨g10, 0, none⟩) ∧ env_ 9 = .pointer (some ⟨g14, 0, none⟩) ∧ env_ 11 = .pointer (some ⟨g30, 0, none⟩) ∧ Ctx w F D w_ F [CH.row g10 0 (x225.map (Value.int .u8)), CH.row g30 0 [.int .i64 x227.at_, .int .i64 x227.last], CH.row g14 0 (a4.map (Value.int .u8))] ∧ x225.length = 32 ∧ o230 = Sum.inl (x225, x227)) ?_ ?_
      · skip
        refine W.block ?_
        have C356 : Ctx _ _ _ _ F [CH.row g30 0 [.int .i64 a1, .int .i64 (wi64 (a2 - 1))], CH.row g10 0 (a0.map (Value.int .u8)), CH.row g14 0 (a4.map (Value.int .u8))] := Ctx.swap [CH.row g30 0 [.int .i64 a1, .int .i64 (wi64 (a2 - 1))]] [] C37
        have C357 : Ctx _ _ _ _ F [CH.row g10 0 (a0.map (Value.int .u8)), CH.row g30 0 [.int .i64 a1, .int .i64 (wi64 (a2 - 1))], CH.row g14 0 (a4.map (Value.int .u8))] := Ctx.swap [] [CH.row g14 0 (a4.map (Value.int .u8))] C356
        refine W.loop (fun g_ env_ w_ => ∃ (x297 : Int) (x298 : List Int) (x300 : Tclimb), env_ 5 = .pointer (some ⟨g10, 0, none⟩) ∧ env_ 9 = .pointer (some ⟨g14, 0, none⟩) ∧ env_ 11 = .pointer (some ⟨g30, 0, none⟩) ∧ env_ 25 = .slice A2 n4 c3 ∧ env_ 26 = .int .i64 (a3.length : Int) ∧ env_ 27 = .int .i64 x297 ∧ Ctx w F D w_ F [CH.row g10 0 (x298.map (Value.int .u8)), CH.row g30 0 [.int .i64 x300.at_, .int .i64 x300.last], CH.row g14 0 (a4.map (Value.int .u8))] ∧ x298.length = 32 ∧ proof_Included.l1 g_ a3 x297 x298 x300 = some o230) k ⟨0, a0, (⟨a1, wi64 (a2 - 1)⟩ : Tclimb), ho23, ho24, rfl, rfl, rfl, rfl, C357, ha1, hX229⟩ ?_
        clear hX229
        rintro g_ env_ w_ ⟨x297, x298, x300, ho291, ho292, ho293, ho294, ho295, ho296, C301, ha299, hX229⟩
        rcases g_ with _ | k355
        · exact absurd hX229 (by simp [proof_Included.l1])
        rw [proof_Included.l1] at hX229
        refine W.seq ?_
        refine W.region rfl ?_
        refine WL.val (Yl.lss (m := x297) (n := (a3.length : Int)) (q := decide (x297 < (a3.length : Int))) ho296 ho295 rfl) ?_
        refine WL.done ?_
        refine W.seq ?_
        rcases iteE hX229 with ⟨hc358, hX229⟩ | ⟨hc358, hX229⟩
        · skip
          refine W.condT (congrArg Value.bool (decide_eq_true hc358)) ?_
          refine W.skip ?_
          refine W.seq ?_
          refine W.block ?_
          refine W.seq ?_
          refine W.region rfl ?_
          obtain ⟨hc359, hX229⟩ := guardE hX229
          obtain ⟨b360, of361, hA362, he363⟩ := hS8 (by omega)
          refine WL.val (Yl.elemAddr (i := x297) ho294 ho296 hA362 Tryd.underlying31 sz33 (by omega)) ?_
          obtain ⟨cs364, hr365, hx366⟩ := he363 x297.toNat _ (getD_some (d := []) (by omega))
          obtain ⟨rfl, ha367⟩ := hr365
          refine WL.val (Yl.loadAgg (cs := (a3.getD x297.toNat []).map (Value.int .u8)) rfl Tryd.underlying33 rfl (sz_of sz33 (by first | (simp only [List.length_append, List.length_map, List.length_cons, List.length_nil, ha367]; done) | simp [ha367])) (fun j u hu => by rw [add_of]; exact ((C301.fro)).cell (hx366 _ _ hu))) ?_
          obtain ⟨g368, w369, hy370, C371⟩ := ev_alloc (P := Tryd.prog) (e := 33) ((List.replicate 32 (0 : Int)).map (Value.int .u8)) C301 zr33 rfl
          refine WL.val (hy370 _ _) ?_
          obtain ⟨w372, hy373, C374⟩ := ev_set (P := Tryd.prog) (ps1 := []) (ps2 := [CH.row g10 0 (x298.map (Value.int .u8)), CH.row g30 0 [.int .i64 x300.at_, .int .i64 x300.last], CH.row g14 0 (a4.map (Value.int .u8))]) (t := 33) (o := 0) ((List.replicate 32 (0 : Int)).map (Value.int .u8)) [] ((List.replicate 32 (0 : Int)).map (Value.int .u8)) [] ((a3.getD x297.toNat []).map (Value.int .u8)) (.agg (List.toArray ((a3.getD x297.toNat []).map (Value.int .u8)))) C371 (by first | (simp only [List.length_append, List.length_map, List.length_cons, List.length_nil, (List.length_replicate ..), ha367]; done) | simp [(List.length_replicate ..), ha367]) (by first | (simp only [List.length_append, List.length_map, List.length_cons, List.length_nil, (List.length_replicate ..), ha367]; done) | simp [(List.length_replicate ..), ha367]) (by first | (simp only [List.length_append, List.length_map, List.length_cons, List.length_nil, (List.length_replicate ..), ha367]; done) | simp [(List.length_replicate ..), ha367]) rfl (one_ints _ _) (sz_of sz33 (by first | (simp only [List.length_append, List.length_map, List.length_cons, List.length_nil, ha367]; done) | simp [ha367]))
          have C375 : Ctx _ _ _ _ F [CH.row g368 0 ((a3.getD x297.toNat []).map (Value.int .u8)), CH.row g10 0 (x298.map (Value.int .u8)), CH.row g30 0 [.int .i64 x300.at_, .int .i64 x300.last], CH.row g14 0 (a4.map (Value.int .u8))] := (by simpa using C374)
          refine WL.skip (hy373 _ _ _ _ rfl rfl) ?_
          refine WL.done ?_
          refine W.seq ?_
          refine W.seq ?_
          refine W.region rfl ?_
          refine WL.val (Yl.fieldAddr (i := 1) ho293 Tryd.underlying90 rfl sz3) ?_
          refine WL.val (Yl.loadV (g := g30) (off := 0) (o := 1) (cs := [.int .i64 x300.at_, .int .i64 x300.last]) (v := .int .i64 x300.last) rfl Tryd.underlying3 rfl (Ctx.sub_of [CH.row g368 0 ((a3.getD x297.toNat []).map (Value.int .u8)), CH.row g10 0 (x298.map (Value.int .u8))] [CH.row g14 0 (a4.map (Value.int .u8))] C375) rfl) ?_
          refine WL.val (Yl.eql (m := x300.last) (n := 0) (q := decide (x300.last = 0)) rfl rfl rfl) ?_
          refine WL.done ?_
          rcases iteE hX229 with ⟨hc376, hX229⟩ | ⟨hc376, hX229⟩
          · skip
            refine W.condT (congrArg Value.bool (decide_eq_true hc376)) ?_
            refine W.seq ?_
            refine W.region rfl ?_
            refine WL.val (Yl.assign (v := .bool false) rfl) ?_
            refine WL.done ?_
            refine W.ret ?_
            refine thenE_r ?_
            refine inB_r ?_
            refine thenE_r ?_
            refine thenE_r ?_
            refine inB_r ?_
            refine thenE_r ?_
            refine thenE_r ?_
            cases hX229
            replace H := sumE_r H
            have C377 : Ctx _ _ _ _ F [CH.row g10 0 (x298.map (Value.int .u8)), CH.row g30 0 [.int .i64 x300.at_, .int .i64 x300.last], CH.row g14 0 (a4.map (Value.int .u8))] := Ctx.drop [] [CH.row g10 0 (x298.map (Value.int .u8)), CH.row g30 0 [.int .i64 x300.at_, .int .i64 x300.last], CH.row g14 0 (a4.map (Value.int .u8))] C375
            have C378 : Ctx _ _ _ _ F [CH.row g30 0 [.int .i64 x300.at_, .int .i64 x300.last], CH.row g14 0 (a4.map (Value.int .u8))] := Ctx.drop [] [CH.row g30 0 [.int .i64 x300.at_, .int .i64 x300.last], CH.row g14 0 (a4.map (Value.int .u8))] C377
            have C379 : Ctx _ _ _ _ F [CH.row g14 0 (a4.map (Value.int .u8))] := Ctx.drop [] [CH.row g14 0 (a4.map (Value.int .u8))] C378
            have C380 : Ctx _ _ _ _ F [] := Ctx.drop [] [] C379
            have e381 := Option.some.inj H
            subst e381
            exact post_r (resE1 rfl rfl) ⟨rfl, C380⟩
          · skip
            refine W.condF (congrArg Value.bool (decide_eq_false hc376)) ?_
            refine W.skip ?_
            refine W.seq ?_
            refine W.seq ?_
            refine W.region rfl ?_
            have C382 : Ctx _ _ _ _ F [CH.row g368 0 ((a3.getD x297.toNat []).map (Value.int .u8)), CH.row g30 0 [.int .i64 x300.at_, .int .i64 x300.last], CH.row g10 0 (x298.map (Value.int .u8)), CH.row g14 0 (a4.map (Value.int .u8))] := Ctx.swap [CH.row g368 0 ((a3.getD x297.toNat []).map (Value.int .u8))] [CH.row g14 0 (a4.map (Value.int .u8))] C375
            have C383 : Ctx _ _ _ _ F [CH.row g30 0 [.int .i64 x300.at_, .int .i64 x300.last], CH.row g368 0 ((a3.getD x297.toNat []).map (Value.int .u8)), CH.row g10 0 (x298.map (Value.int .u8)), CH.row g14 0 (a4.map (Value.int .u8))] := Ctx.swap [] [CH.row g10 0 (x298.map (Value.int .u8)), CH.row g14 0 (a4.map (Value.int .u8))] C382
            obtain ⟨⟨r385, r386⟩, hg384, hX229⟩ := bindE hX229
            refine WL.call (args := #[.pointer (some ⟨g30, 0, none⟩)]) (Yenter.fn Tryd.func60 (by kernel_rfl) rfl (argsE (.cons ho293 .nil))) (proof_climb_right.calls k355 _ F g30 0 x300 (Ctx.pre (qs := [CH.row g30 0 [.int .i64 x300.at_, .int .i64 x300.last]]) (rest := [CH.row g368 0 ((a3.getD x297.toNat []).map (Value.int .u8)), CH.row g10 0 (x298.map (Value.int .u8)), CH.row g14 0 (a4.map (Value.int .u8))]) C383)  r385 r386 hg384) ?_
            rintro e_ w_ ⟨rfl, C387⟩
            refine ⟨_, rfl, ?_⟩
            have C388 : Ctx _ _ _ _ F [CH.row g30 0 [.int .i64 r386.at_, .int .i64 r386.last], CH.row g368 0 ((a3.getD x297.toNat []).map (Value.int .u8)), CH.row g10 0 (x298.map (Value.int .u8)), CH.row g14 0 (a4.map (Value.int .u8))] := Ctx.call (qs := [CH.row g30 0 [.int .i64 x300.at_, .int .i64 x300.last]]) (rest := [CH.row g368 0 ((a3.getD x297.toNat []).map (Value.int .u8)), CH.row g10 0 (x298.map (Value.int .u8)), CH.row g14 0 (a4.map (Value.int .u8))]) C383 C387
            refine WL.done ?_
            rcases iteE hX229 with ⟨hc389, hX229⟩ | ⟨hc389, hX229⟩
            · skip
              refine W.condT (congrArg Value.bool hc389) ?_
              refine W.region rfl ?_
              refine WL.val (Yl.loadVA (g := g368) (off := 0) (o := 0) (cs := (a3.getD x297.toNat []).map (Value.int .u8)) (us := (a3.getD x297.toNat []).map (Value.int .u8)) rfl Tryd.underlying33 rfl (sz_of sz33 (by first | (simp only [List.length_append, List.length_map, List.length_cons, List.length_nil, ha367]; done) | simp [ha367])) (Ctx.sub_of [CH.row g30 0 [.int .i64 r386.at_, .int .i64 r386.last]] [CH.row g10 0 (x298.map (Value.int .u8)), CH.row g14 0 (a4.map (Value.int .u8))] C388) (take_all _)) ?_
              refine WL.val (Yl.loadVA (g := g10) (off := 0) (o := 0) (cs := x298.map (Value.int .u8)) (us := x298.map (Value.int .u8)) ho291 Tryd.underlying33 rfl (sz_of sz33 (by first | (simp only [List.length_append, List.length_map, List.length_cons, List.length_nil, ha299]; done) | simp [ha299])) (Ctx.sub_of [CH.row g30 0 [.int .i64 r386.at_, .int .i64 r386.last], CH.row g368 0 ((a3.getD x297.toNat []).map (Value.int .u8))] [CH.row g14 0 (a4.map (Value.int .u8))] C388) (take_all _)) ?_
              obtain ⟨r391, hg390, hX229⟩ := bindE hX229
              refine WL.call (args := #[.agg (List.toArray ((a3.getD x297.toNat []).map (Value.int .u8))), .agg (List.toArray (x298.map (Value.int .u8)))]) (Yenter.fn Tryd.func25 (by kernel_rfl) rfl (argsE (.cons rfl (.cons rfl .nil)))) (proof_Node.calls k355 _ F (a3.getD x297.toNat []) x298 (Ctx.pre (qs := []) (rest := [CH.row g30 0 [.int .i64 r386.at_, .int .i64 r386.last], CH.row g368 0 ((a3.getD x297.toNat []).map (Value.int .u8)), CH.row g10 0 (x298.map (Value.int .u8)), CH.row g14 0 (a4.map (Value.int .u8))]) C388) ha367 ha299 (CH.le_trans hG1 (CH.le_trans (CH.le_refl _) (CH.le_refl _))) (CH.le_trans hG3 (CH.le_trans (CH.le_refl _) (CH.le_refl _))) r391 hg390) ?_
              rintro e_ w_ ⟨rfl, C393, ha392⟩
              refine ⟨_, rfl, ?_⟩
              have C394 : Ctx _ _ _ _ F [CH.row g30 0 [.int .i64 r386.at_, .int .i64 r386.last], CH.row g368 0 ((a3.getD x297.toNat []).map (Value.int .u8)), CH.row g10 0 (x298.map (Value.int .u8)), CH.row g14 0 (a4.map (Value.int .u8))] := Ctx.call (qs := []) (rest := [CH.row g30 0 [.int .i64 r386.at_, .int .i64 r386.last], CH.row g368 0 ((a3.getD x297.toNat []).map (Value.int .u8)), CH.row g10 0 (x298.map (Value.int .u8)), CH.row g14 0 (a4.map (Value.int .u8))]) C388 C393
              obtain ⟨w395, hy396, C397⟩ := ev_set (P := Tryd.prog) (ps1 := [CH.row g30 0 [.int .i64 r386.at_, .int .i64 r386.last], CH.row g368 0 ((a3.getD x297.toNat []).map (Value.int .u8))]) (ps2 := [CH.row g14 0 (a4.map (Value.int .u8))]) (t := 33) (o := 0) (x298.map (Value.int .u8)) [] (x298.map (Value.int .u8)) [] (r391.map (Value.int .u8)) (.agg (List.toArray (r391.map (Value.int .u8)))) C394 (by first | (simp only [List.length_append, List.length_map, List.length_cons, List.length_nil, ha299, ha392]; done) | simp [ha299, ha392]) (by first | (simp only [List.length_append, List.length_map, List.length_cons, List.length_nil, ha299, ha392]; done) | simp [ha299, ha392]) (by first | (simp only [List.length_append, List.length_map, List.length_cons, List.length_nil, ha299, ha392]; done) | simp [ha299, ha392]) rfl (one_ints _ _) (sz_of sz33 (by first | (simp only [List.length_append, List.length_map, List.length_cons, List.length_nil, ha392]; done) | simp [ha392]))
              have C398 : Ctx _ _ _ _ F [CH.row g30 0 [.int .i64 r386.at_, .int .i64 r386.last], CH.row g368 0 ((a3.getD x297.toNat []).map (Value.int .u8)), CH.row g10 0 (r391.map (Value.int .u8)), CH.row g14 0 (a4.map (Value.int .u8))] := (by simpa using C397)
              refine WL.skip (hy396 _ _ _ _ ho291 rfl) ?_
              refine WL.done ?_
              refine W.region rfl ?_
              obtain ⟨r400, hg399, hX229⟩ := bindE hX229
              refine WL.call (args := #[.pointer (some ⟨g30, 0, none⟩)]) (Yenter.fn Tryd.func61 (by kernel_rfl) rfl (argsE (.cons ho293 .nil))) (proof_climb_up.calls k355 _ F g30 0 r386 (Ctx.pre (qs := [CH.row g30 0 [.int .i64 r386.at_, .int .i64 r386.last]]) (rest := [CH.row g368 0 ((a3.getD x297.toNat []).map (Value.int .u8)), CH.row g10 0 (r391.map (Value.int .u8)), CH.row g14 0 (a4.map (Value.int .u8))]) C398)  r400 hg399) ?_
              rintro e_ w_ ⟨rfl, C401⟩
              refine ⟨_, rfl, ?_⟩
              have C402 : Ctx _ _ _ _ F [CH.row g30 0 [.int .i64 r400.at_, .int .i64 r400.last], CH.row g368 0 ((a3.getD x297.toNat []).map (Value.int .u8)), CH.row g10 0 (r391.map (Value.int .u8)), CH.row g14 0 (a4.map (Value.int .u8))] := Ctx.call (qs := [CH.row g30 0 [.int .i64 r386.at_, .int .i64 r386.last]]) (rest := [CH.row g368 0 ((a3.getD x297.toNat []).map (Value.int .u8)), CH.row g10 0 (r391.map (Value.int .u8)), CH.row g14 0 (a4.map (Value.int .u8))]) C398 C401
              refine WL.done ?_
              refine inB_n ?_
              refine W.region rfl ?_
              refine WL.val (Yl.add (m := x297) (n := 1) (r := wi64 (x297 + 1)) ho296 rfl rfl) ?_
              refine WL.val (Yl.move (v := .int .i64 (wi64 (x297 + 1))) rfl) ?_
              refine WL.done ?_
              have C403 : Ctx _ _ _ _ F [CH.row g30 0 [.int .i64 r400.at_, .int .i64 r400.last], CH.row g10 0 (r391.map (Value.int .u8)), CH.row g14 0 (a4.map (Value.int .u8))] := Ctx.drop [CH.row g30 0 [.int .i64 r400.at_, .int .i64 r400.last]] [CH.row g10 0 (r391.map (Value.int .u8)), CH.row g14 0 (a4.map (Value.int .u8))] C402
              have C404 : Ctx _ _ _ _ F [CH.row g10 0 (r391.map (Value.int .u8)), CH.row g30 0 [.int .i64 r400.at_, .int .i64 r400.last], CH.row g14 0 (a4.map (Value.int .u8))] := Ctx.swap [] [CH.row g14 0 (a4.map (Value.int .u8))] C403
              exact thenE_n ⟨k355, Nat.lt_succ_self _, wi64 (x297 + 1), r391, r400, ho291, ho292, ho293, ho294, ho295, rfl, C404, ha392, hX229⟩
            · skip
              refine W.condF (congrArg Value.bool (Bool.eq_false_iff.2 hc389)) ?_
              refine W.region rfl ?_
              refine WL.val (Yl.loadVA (g := g10) (off := 0) (o := 0) (cs := x298.map (Value.int .u8)) (us := x298.map (Value.int .u8)) ho291 Tryd.underlying33 rfl (sz_of sz33 (by first | (simp only [List.length_append, List.length_map, List.length_cons, List.length_nil, ha299]; done) | simp [ha299])) (Ctx.sub_of [CH.row g30 0 [.int .i64 r386.at_, .int .i64 r386.last], CH.row g368 0 ((a3.getD x297.toNat []).map (Value.int .u8))] [CH.row g14 0 (a4.map (Value.int .u8))] C388) (take_all _)) ?_
              refine WL.val (Yl.loadVA (g := g368) (off := 0) (o := 0) (cs := (a3.getD x297.toNat []).map (Value.int .u8)) (us := (a3.getD x297.toNat []).map (Value.int .u8)) rfl Tryd.underlying33 rfl (sz_of sz33 (by first | (simp only [List.length_append, List.length_map, List.length_cons, List.length_nil, ha367]; done) | simp [ha367])) (Ctx.sub_of [CH.row g30 0 [.int .i64 r386.at_, .int .i64 r386.last]] [CH.row g10 0 (x298.map (Value.int .u8)), CH.row g14 0 (a4.map (Value.int .u8))] C388) (take_all _)) ?_
              obtain ⟨r406, hg405, hX229⟩ := bindE hX229
              refine WL.call (args := #[.agg (List.toArray (x298.map (Value.int .u8))), .agg (List.toArray ((a3.getD x297.toNat []).map (Value.int .u8)))]) (Yenter.fn Tryd.func25 (by kernel_rfl) rfl (argsE (.cons rfl (.cons rfl .nil)))) (proof_Node.calls k355 _ F x298 (a3.getD x297.toNat []) (Ctx.pre (qs := []) (rest := [CH.row g30 0 [.int .i64 r386.at_, .int .i64 r386.last], CH.row g368 0 ((a3.getD x297.toNat []).map (Value.int .u8)), CH.row g10 0 (x298.map (Value.int .u8)), CH.row g14 0 (a4.map (Value.int .u8))]) C388) ha299 ha367 (CH.le_trans hG1 (CH.le_trans (CH.le_refl _) (CH.le_refl _))) (CH.le_trans hG3 (CH.le_trans (CH.le_refl _) (CH.le_refl _))) r406 hg405) ?_
              rintro e_ w_ ⟨rfl, C408, ha407⟩
              refine ⟨_, rfl, ?_⟩
              have C409 : Ctx _ _ _ _ F [CH.row g30 0 [.int .i64 r386.at_, .int .i64 r386.last], CH.row g368 0 ((a3.getD x297.toNat []).map (Value.int .u8)), CH.row g10 0 (x298.map (Value.int .u8)), CH.row g14 0 (a4.map (Value.int .u8))] := Ctx.call (qs := []) (rest := [CH.row g30 0 [.int .i64 r386.at_, .int .i64 r386.last], CH.row g368 0 ((a3.getD x297.toNat []).map (Value.int .u8)), CH.row g10 0 (x298.map (Value.int .u8)), CH.row g14 0 (a4.map (Value.int .u8))]) C388 C408
              obtain ⟨w410, hy411, C412⟩ := ev_set (P := Tryd.prog) (ps1 := [CH.row g30 0 [.int .i64 r386.at_, .int .i64 r386.last], CH.row g368 0 ((a3.getD x297.toNat []).map (Value.int .u8))]) (ps2 := [CH.row g14 0 (a4.map (Value.int .u8))]) (t := 33) (o := 0) (x298.map (Value.int .u8)) [] (x298.map (Value.int .u8)) [] (r406.map (Value.int .u8)) (.agg (List.toArray (r406.map (Value.int .u8)))) C409 (by first | (simp only [List.length_append, List.length_map, List.length_cons, List.length_nil, ha299, ha407]; done) | simp [ha299, ha407]) (by first | (simp only [List.length_append, List.length_map, List.length_cons, List.length_nil, ha299, ha407]; done) | simp [ha299, ha407]) (by first | (simp only [List.length_append, List.length_map, List.length_cons, List.length_nil, ha299, ha407]; done) | simp [ha299, ha407]) rfl (one_ints _ _) (sz_of sz33 (by first | (simp only [List.length_append, List.length_map, List.length_cons, List.length_nil, ha407]; done) | simp [ha407]))
              have C413 : Ctx _ _ _ _ F [CH.row g30 0 [.int .i64 r386.at_, .int .i64 r386.last], CH.row g368 0 ((a3.getD x297.toNat []).map (Value.int .u8)), CH.row g10 0 (r406.map (Value.int .u8)), CH.row g14 0 (a4.map (Value.int .u8))] := (by simpa using C412)
              refine WL.skip (hy411 _ _ _ _ ho291 rfl) ?_
              refine WL.done ?_
              refine W.region rfl ?_
              obtain ⟨r415, hg414, hX229⟩ := bindE hX229
              refine WL.call (args := #[.pointer (some ⟨g30, 0, none⟩)]) (Yenter.fn Tryd.func61 (by kernel_rfl) rfl (argsE (.cons ho293 .nil))) (proof_climb_up.calls k355 _ F g30 0 r386 (Ctx.pre (qs := [CH.row g30 0 [.int .i64 r386.at_, .int .i64 r386.last]]) (rest := [CH.row g368 0 ((a3.getD x297.toNat []).map (Value.int .u8)), CH.row g10 0 (r406.map (Value.int .u8)), CH.row g14 0 (a4.map (Value.int .u8))]) C413)  r415 hg414) ?_
              rintro e_ w_ ⟨rfl, C416⟩
              refine ⟨_, rfl, ?_⟩
              have C417 : Ctx _ _ _ _ F [CH.row g30 0 [.int .i64 r415.at_, .int .i64 r415.last], CH.row g368 0 ((a3.getD x297.toNat []).map (Value.int .u8)), CH.row g10 0 (r406.map (Value.int .u8)), CH.row g14 0 (a4.map (Value.int .u8))] := Ctx.call (qs := [CH.row g30 0 [.int .i64 r386.at_, .int .i64 r386.last]]) (rest := [CH.row g368 0 ((a3.getD x297.toNat []).map (Value.int .u8)), CH.row g10 0 (r406.map (Value.int .u8)), CH.row g14 0 (a4.map (Value.int .u8))]) C413 C416
              refine WL.done ?_
              refine inB_n ?_
              refine W.region rfl ?_
              refine WL.val (Yl.add (m := x297) (n := 1) (r := wi64 (x297 + 1)) ho296 rfl rfl) ?_
              refine WL.val (Yl.move (v := .int .i64 (wi64 (x297 + 1))) rfl) ?_
              refine WL.done ?_
              have C418 : Ctx _ _ _ _ F [CH.row g30 0 [.int .i64 r415.at_, .int .i64 r415.last], CH.row g10 0 (r406.map (Value.int .u8)), CH.row g14 0 (a4.map (Value.int .u8))] := Ctx.drop [CH.row g30 0 [.int .i64 r415.at_, .int .i64 r415.last]] [CH.row g10 0 (r406.map (Value.int .u8)), CH.row g14 0 (a4.map (Value.int .u8))] C417
              have C419 : Ctx _ _ _ _ F [CH.row g10 0 (r406.map (Value.int .u8)), CH.row g30 0 [.int .i64 r415.at_, .int .i64 r415.last], CH.row g14 0 (a4.map (Value.int .u8))] := Ctx.swap [] [CH.row g14 0 (a4.map (Value.int .u8))] C418
              exact thenE_n ⟨k355, Nat.lt_succ_self _, wi64 (x297 + 1), r406, r415, ho291, ho292, ho293, ho294, ho295, rfl, C419, ha407, hX229⟩
        · skip
          refine W.condF (congrArg Value.bool (decide_eq_false hc358)) ?_
          refine W.exit ?_
          refine thenE_x ?_
          refine thenE_x ?_
          refine inB_here ?_
          cases hX229
          refine thenE_n ?_
          exact ⟨x298, x300, ho291, ho292, ho293, C301, ha299, rfl⟩
      · skip
        rintro env_ w_ ⟨x225, x227, ho222, ho223, ho224, C228, ha226, rfl⟩
        replace H := sumE_l H
        refine W.seq ?_
        refine W.region rfl ?_
        refine WL.val (Yl.fieldAddr (i := 1) ho224 Tryd.underlying90 rfl sz3) ?_
        refine WL.val (Yl.loadV (g := g30) (off := 0) (o := 1) (cs := [.int .i64 x227.at_, .int .i64 x227.last]) (v := .int .i64 x227.last) rfl Tryd.underlying3 rfl (Ctx.sub_of [CH.row g10 0 (x225.map (Value.int .u8))] [CH.row g14 0 (a4.map (Value.int .u8))] C228) rfl) ?_
        refine WL.val (Yl.eql (m := x227.last) (n := 0) (q := decide (x227.last = 0)) rfl rfl rfl) ?_
        refine WL.val (Yl.move (v := .bool (decide (x227.last = 0))) rfl) ?_
        obtain ⟨g420, HE421, H⟩ := bindE H
        refine WL.cut (fun env_ w_ => env_ 10 = .bool g420 ∧ Ctx w F D w_ F [CH.row g10 0 (x225.map (Value.int .u8)), CH.row g30 0 [.int .i64 x227.at_, .int .i64 x227.last], CH.row g14 0 (a4.map (Value.int .u8))]) ?_ ?_
        · skip
          rcases iteE HE421 with ⟨hc422, HE421⟩ | ⟨hc422, HE421⟩
          · skip
            refine WL.on rfl (congrArg Value.bool (decide_eq_true hc422)) ?_
            refine WL.val (Yl.loadVA (g := g10) (off := 0) (o := 0) (cs := x225.map (Value.int .u8)) (us := x225.map (Value.int .u8)) ho222 Tryd.underlying33 rfl (sz_of sz33 (by first | (simp only [List.length_append, List.length_map, List.length_cons, List.length_nil, ha226]; done) | simp [ha226])) (Ctx.sub_of [] [CH.row g30 0 [.int .i64 x227.at_, .int .i64 x227.last], CH.row g14 0 (a4.map (Value.int .u8))] C228) (take_all _)) ?_
            refine WL.on rfl (congrArg Value.bool (decide_eq_true hc422)) ?_
            refine WL.val (Yl.loadVA (g := g14) (off := 0) (o := 0) (cs := a4.map (Value.int .u8)) (us := a4.map (Value.int .u8)) ho223 Tryd.underlying33 rfl (sz_of sz33 (by first | (simp only [List.length_append, List.length_map, List.length_cons, List.length_nil, ha9]; done) | simp [ha9])) (Ctx.sub_of [CH.row g10 0 (x225.map (Value.int .u8)), CH.row g30 0 [.int .i64 x227.at_, .int .i64 x227.last]] [] C228) (take_all _)) ?_
            refine WL.on rfl (congrArg Value.bool (decide_eq_true hc422)) ?_
            refine WL.val (Yl.aeql (n := 2) (xs := x225.map (Value.int .u8)) (ys := a4.map (Value.int .u8)) rfl rfl eg33 (EqV.arrI Tryd.underlying33 Tryd.underlying5 sz5 ha226 ha9) (by decide)) ?_
            refine WL.val (Yl.pickT (v := .bool (decide (x225 = a4))) (congrArg Value.bool (decide_eq_true hc422)) rfl) ?_
            refine WL.val (Yl.assign (v := .bool (decide (x225 = a4))) rfl) ?_
            cases HE421
            exact WL.done ⟨rfl, C228⟩
          · skip
            refine WL.off rfl (congrArg Value.bool (decide_eq_false hc422)) ?_
            refine WL.off rfl (congrArg Value.bool (decide_eq_false hc422)) ?_
            refine WL.off rfl (congrArg Value.bool (decide_eq_false hc422)) ?_
            refine WL.val (Yl.pickF (v := .bool false) (congrArg Value.bool (decide_eq_false hc422)) rfl) ?_
            refine WL.val (Yl.assign (v := .bool false) rfl) ?_
            cases HE421
            exact WL.done ⟨rfl, C228⟩
        · skip
          rintro env_ w_ ⟨ho423, C424⟩
          refine W.ret ?_
          have C425 : Ctx _ _ _ _ F [CH.row g30 0 [.int .i64 x227.at_, .int .i64 x227.last], CH.row g14 0 (a4.map (Value.int .u8))] := Ctx.drop [] [CH.row g30 0 [.int .i64 x227.at_, .int .i64 x227.last], CH.row g14 0 (a4.map (Value.int .u8))] C424
          have C426 : Ctx _ _ _ _ F [CH.row g14 0 (a4.map (Value.int .u8))] := Ctx.drop [] [CH.row g14 0 (a4.map (Value.int .u8))] C425
          have C427 : Ctx _ _ _ _ F [] := Ctx.drop [] [] C426
          have e428 := Option.some.inj H
          subst e428
          exact post_r (resE1 rfl ho423) ⟨rfl, C427⟩
def proof_Consistent.l1 : Nat → Tclimb → Option Tclimb
  | 0, _ => none
  | k + 1, x139 => if (bitsOp .and .i64 x139.at_ 1) = 1 then ((proof_climb_up.f k x139).bind fun r149 => proof_Consistent.l1 k r149) else (some x139)
def proof_Consistent.l2 : Nat → List (List Int) → Int → Tclimb → List Int → List Int → Option (Sum (Tclimb × (List Int) × (List Int)) Bool)
  | 0, _, _, _, _, _ => none
  | k + 1, x214, x675, x676, x677, x679 => if x675 < (x214.length : Int) then (if 0 ≤ x675 ∧ x675 < (x214.length : Int) then (if x676.last = 0 then (some (Sum.inr false)) else ((proof_climb_right.f k x676).bind fun ⟨r794, r795⟩ => if r794 = true then ((proof_Node.f k (x214.getD x675.toNat []) x677).bind fun r819 => (proof_Node.f k (x214.getD x675.toNat []) x679).bind fun r824 => (proof_climb_up.f k r795).bind fun r837 => proof_Consistent.l2 k x214 (wi64 (x675 + 1)) r837 r819 r824) else ((proof_Node.f k x679 (x214.getD x675.toNat [])).bind fun r842 => (proof_climb_up.f k r795).bind fun r851 => proof_Consistent.l2 k x214 (wi64 (x675 + 1)) r851 x677 r842))) else none) else (some (Sum.inl (x676, x677, x679)))
def proof_Consistent.f (k : Nat) (a0 : Int) (a1 : Int) (a2 : List (List Int)) (a3 : List Int) (a4 : List Int) : Option Bool := if ((decide (a0 < 0)) || (decide (a0 > a1))) = true then (some false) else (if a0 = 0 then ((if (a2.length : Int) = 0 then ((proof_Root.f k ([] : List (List Int))).bind fun r66 => some (decide (a3 = r66))) else (some false)).bind fun x50 => some x50) else (if a0 = a1 then ((if (a2.length : Int) = 0 then (some (decide (a3 = a4))) else (some (false))).bind fun g75 => some g75) else ((proof_Consistent.l1 k (⟨wi64 (a0 - 1), wi64 (a1 - 1)⟩ : Tclimb)).bind fun x122 => (if x122.at_ = 0 then (some (Sum.inl (a2, a3))) else (if (a2.length : Int) = 0 then (some (Sum.inr false)) else (if 0 ≤ (0 : Int) ∧ (0 : Int) < (a2.length : Int) then (if 0 ≤ (1 : Int) ∧ (1 : Int) ≤ (a2.length : Int) ∧ (a2.length : Int) ≤ (a2.length : Int) then (some (Sum.inl (a2.drop ((1 : Int).toNat), a2.getD (0 : Int).toNat []))) else none) else none))).bind fun o_ => sumE o_ (fun ⟨x214, x222⟩ => (proof_Consistent.l2 k x214 0 x122 x222 x222).bind fun o_ => sumE o_ (fun ⟨x567, x568, x570⟩ => (if x567.last = 0 then (if x568 = a3 then (some (decide (x570 = a4))) else (some (false))) else (some (false))).bind fun g855 => some g855) (fun p_ => some p_)) (fun p_ => some p_))))
set_option maxRecDepth 100000 in
set_option maxHeartbeats 4000000 in
theorem proof_Consistent.calls (k : Nat) (w : World) (F : CH) (a0 : Int) (a1 : Int) (A1 : Option Addr) (c2 : Nat) (n3 : Nat) (a2 : List (List Int)) (a3 : List Int) (a4 : List Int) (hp : Pre w F []) (hn4 : n3 = a2.length) (hl5 : a2.length ≤ c2) (hm6 : c2 ≤ maxLen) (hS7 : Sl (Kd.arrI 32 .u8) F F A1 a2) (ha8 : a3.length = 32) (ha9 : a4.length = 32) (hG1 : CH.le (CH.row 1 0 (glob1.map (Value.int .u32))) F) (hG3 : CH.le (CH.row 3 0 (glob3.map (Value.int .u32))) F) (r0_ : Bool) (H : proof_Consistent.f k a0 a1 a2 a3 a4 = some r0_) :
    Calls Tryd.prog 36 #[.int .i64 a0, .int .i64 a1, .slice A1 n3 c2, .agg (List.toArray (a3.map (Value.int .u8))), .agg (List.toArray (a4.map (Value.int .u8)))] w fun e w' => e = .returned (.bool r0_) ∧ Ctx w F (domL []) w' F [] := by
  have C := Ctx.start hp
  generalize hD : domL [] = D at C ⊢
  unfold proof_Consistent.f at H
  refine Calls.ofW Tryd.func36 rfl (by simp [Tryd.ntmps36]) ?_
  refine W.seq ?_
  refine W.region rfl ?_
  obtain ⟨g10, w11, hy12, C13⟩ := ev_box (P := Tryd.prog) 33 (.agg (List.toArray (a3.map (Value.int .u8)))) (a3.map (Value.int .u8)) C rfl
  refine WL.val (hy12 _ _ _ rfl) ?_
  obtain ⟨g14, w15, hy16, C17⟩ := ev_box (P := Tryd.prog) 33 (.agg (List.toArray (a4.map (Value.int .u8)))) (a4.map (Value.int .u8)) C13 rfl
  refine WL.val (hy16 _ _ _ rfl) ?_
  refine WL.val (Yl.assign (v := .bool false) rfl) ?_
  refine WL.done ?_
  refine W.scope ?_
  refine W.seq ?_
  refine W.block ?_
  refine W.seq ?_
  refine W.region rfl ?_
  refine WL.val (Yl.move (v := .int .i64 a0) rfl) ?_
  refine WL.val (Yl.lss (m := a0) (n := 0) (q := decide (a0 < 0)) rfl rfl rfl) ?_
  refine WL.val (Yl.move (v := .bool (decide (a0 < 0))) rfl) ?_
  refine WL.cut (fun env_ w_ => env_ 17 = .bool ((decide (a0 < 0)) || (decide (a0 > a1))) ∧ env_ 0 = .int .i64 a0 ∧ env_ 1 = .int .i64 a1 ∧ env_ 2 = .slice A1 n3 c2 ∧ env_ 8 = .pointer (some ⟨g10, 0, none⟩) ∧ env_ 9 = .pointer (some ⟨g14, 0, none⟩) ∧ Ctx w F D w_ F [CH.row g14 0 (a4.map (Value.int .u8)), CH.row g10 0 (a3.map (Value.int .u8))]) ?_ ?_
  · skip
    rcases Bool.eq_false_or_eq_true (decide (a0 < 0)) with hb18 | hb18
    · skip
      refine WL.off rfl (congrArg Value.bool hb18) ?_
      refine WL.off rfl (congrArg Value.bool hb18) ?_
      refine WL.off rfl (congrArg Value.bool hb18) ?_
      refine WL.val (Yl.pickT (v := .bool true) (congrArg Value.bool hb18) rfl) ?_
      refine WL.val (Yl.assign (v := .bool true) rfl) ?_
      exact WL.done ⟨(congrArg Value.bool (show true = ((decide (a0 < 0)) || (decide (a0 > a1))) from by simp [hb18])), rfl, rfl, rfl, rfl, rfl, C17⟩
    · skip
      refine WL.on rfl (congrArg Value.bool hb18) ?_
      refine WL.val (Yl.move (v := .int .i64 a0) rfl) ?_
      refine WL.on rfl (congrArg Value.bool hb18) ?_
      refine WL.val (Yl.move (v := .int .i64 a1) rfl) ?_
      refine WL.on rfl (congrArg Value.bool hb18) ?_
      refine WL.val (Yl.gtr (m := a0) (n := a1) (q := decide (a0 > a1)) rfl rfl rfl) ?_
      refine WL.val (Yl.pickF (v := .bool (decide (a0 > a1))) (congrArg Value.bool hb18) rfl) ?_
      refine WL.val (Yl.assign (v := .bool (decide (a0 > a1))) rfl) ?_
      exact WL.done ⟨(congrArg Value.bool (show (decide (a0 > a1)) = ((decide (a0 < 0)) || (decide (a0 > a1))) from by simp [hb18])), rfl, rfl, rfl, rfl, rfl, C17⟩
  · skip
    rintro env_ w_ ⟨ho19, ho20, ho21, ho22, ho23, ho24, C25⟩
    rcases iteE H with ⟨hc26, H⟩ | ⟨hc26, H⟩
    · skip
      refine W.condT (ho19.trans (congrArg Value.bool hc26)) ?_
      refine W.seq ?_
      refine W.region rfl ?_
      refine WL.val (Yl.assign (v := .bool false) rfl) ?_
      refine WL.done ?_
      refine W.ret ?_
      refine inB_r ?_
      refine thenE_r ?_
      refine noG_r ?_
      have C27 : Ctx _ _ _ _ F [CH.row g10 0 (a3.map (Value.int .u8))] := Ctx.drop [] [CH.row g10 0 (a3.map (Value.int .u8))] C25
      have C28 : Ctx _ _ _ _ F [] := Ctx.drop [] [] C27
      have e29 := Option.some.inj H
      subst e29
      exact post_r (resE1 rfl rfl) ⟨rfl, C28⟩
    · skip
      refine W.condF (ho19.trans (congrArg Value.bool (Bool.eq_false_iff.2 hc26))) ?_
      refine W.seq ?_
      refine W.region rfl ?_
      refine WL.val (Yl.move (v := .int .i64 a0) ho20) ?_
      refine WL.val (Yl.eql (m := a0) (n := 0) (q := decide (a0 = 0)) rfl rfl rfl) ?_
      refine WL.val (Yl.assign (v := .bool (decide (a0 = 0))) rfl) ?_
      refine WL.done ?_
      rcases iteE H with ⟨hc30, H⟩ | ⟨hc30, H⟩
      · skip
        refine W.condT (congrArg Value.bool (decide_eq_true hc30)) ?_
        refine W.seq ?_
        obtain ⟨x50, hX52, H⟩ := bindE H
        refine W.cutM (fun env_ w_ => env_ 10 = .bool x50 ∧ Ctx w F D w_ F [CH.row g14 0 (a4.map (Value.int .u8)), CH.row g10 0 (a3.map (Value.int .u8))]) ?_ ?_
        · skip
          rcases iteE hX52 with ⟨hc53, hX52⟩ | ⟨hc53, hX52⟩
          · skip
            refine W.regionA [([], CH.row g10 0 (a3.map (Value.int .u8)))] (by kernel_rfl) ?_
            have C64 := Ctx.drewN C25 1
            refine WA.take none [] 0 rfl (by kernel_rfl) (by kernel_rfl) (show _ = #[true, false, false, false, false, false, false, false, false] from rfl) trivial ⟨(Ctx.sub_of [CH.row g14 0 (a4.map (Value.int .u8))] [] C64), trivial⟩ (fun _ hC_ => Yl.move (v := .slice A1 n3 c2) ho22) ?_
            refine WA.take none [] 1 rfl (by kernel_rfl) (by kernel_rfl) (show _ = #[true, true, false, false, false, false, false, false, false] from rfl) trivial ⟨(Ctx.sub_of [CH.row g14 0 (a4.map (Value.int .u8))] [] C64), trivial⟩ (fun _ hC_ => Yl.lenN (A := A1) (l := n3) (q := c2) (n := (a2.length : Int)) rfl Tryd.underlying31 (by omega)) ?_
            refine WA.take none [] 2 rfl (by kernel_rfl) (by kernel_rfl) (show _ = #[true, true, true, false, false, false, false, false, false] from rfl) trivial ⟨(Ctx.sub_of [CH.row g14 0 (a4.map (Value.int .u8))] [] C64), trivial⟩ (fun _ hC_ => Yl.eql (m := (a2.length : Int)) (n := 0) (q := decide ((a2.length : Int) = 0)) rfl rfl rfl) ?_
            refine WA.take none [] 3 rfl (by kernel_rfl) (by kernel_rfl) (show _ = #[true, true, true, true, false, false, false, false, false] from rfl) trivial ⟨(Ctx.sub_of [CH.row g14 0 (a4.map (Value.int .u8))] [] C64), trivial⟩ (fun _ hC_ => Yl.move (v := .bool (decide ((a2.length : Int) = 0))) rfl) ?_
            refine WA.takeOn (some 0) [6, 7, 8] 4 rfl rfl (congrArg Value.bool (decide_eq_true hc53)) (by kernel_rfl) (by kernel_rfl) (show _ = #[true, true, true, true, true, false, false, false, false] from rfl) (Ctx.sub_of [CH.row g14 0 (a4.map (Value.int .u8))] [] C64) ⟨(Ctx.sub_of [CH.row g14 0 (a4.map (Value.int .u8))] [] C64), trivial⟩ (fun _ hC_ => Yl.loadVA (g := g10) (off := 0) (o := 0) (cs := a3.map (Value.int .u8)) (us := a3.map (Value.int .u8)) ho23 Tryd.underlying33 rfl (sz_of sz33 (by first | (simp only [List.length_append, List.length_map, List.length_cons, List.length_nil, ha8]; done) | simp [ha8])) (show Sub (CH.row g10 0 (a3.map (Value.int .u8))) _ from hC_) (take_all _)) ?_
            obtain ⟨r66, hg65, hX52⟩ := bindE hX52
            refine WA.up1 5 (by kernel_rfl) (Up.callG (args := #[.slice none 0 0]) rfl rfl (congrArg Value.bool (decide_eq_true hc53)) (by kernel_rfl) (show _ = #[true, true, true, true, true, true, false, false, false] from rfl) (Yenter.fn Tryd.func22 (by kernel_rfl) rfl (argsE (.cons rfl .nil))) (proof_Root.calls k _ F none 0 0 ([] : List (List Int)) (Ctx.pre (qs := []) (rest := [CH.row g14 0 (a4.map (Value.int .u8)), CH.row g10 0 (a3.map (Value.int .u8))]) C64) rfl (Nat.le_refl _) (Nat.zero_le _) (Sl.nil _ _ _ _) (CH.le_trans hG1 (CH.le_trans (CH.le_refl _) (CH.le_refl _))) (CH.le_trans hG3 (CH.le_trans (CH.le_refl _) (CH.le_refl _))) r66 hg65) ?_)
            rintro e_ w_ ⟨rfl, C68, ha67⟩
            have C69 : Ctx _ _ _ _ F [CH.row g14 0 (a4.map (Value.int .u8)), CH.row g10 0 (a3.map (Value.int .u8))] := Ctx.call (qs := []) (rest := [CH.row g14 0 (a4.map (Value.int .u8)), CH.row g10 0 (a3.map (Value.int .u8))]) C64 C68
            refine ⟨_, rfl, ⟨(Ctx.sub_of [CH.row g14 0 (a4.map (Value.int .u8))] [] C69), trivial⟩, ?_⟩
            refine WA.takeOn none [] 6 rfl rfl (congrArg Value.bool (decide_eq_true hc53)) (by kernel_rfl) (by kernel_rfl) (show _ = #[true, true, true, true, true, true, true, false, false] from rfl) trivial ⟨(Ctx.sub_of [CH.row g14 0 (a4.map (Value.int .u8))] [] C69), trivial⟩ (fun _ hC_ => Yl.aeql (n := 2) (xs := a3.map (Value.int .u8)) (ys := r66.map (Value.int .u8)) rfl rfl eg33 (EqV.arrI Tryd.underlying33 Tryd.underlying5 sz5 ha8 ha67) (by decide)) ?_
            refine WA.take none [] 7 rfl (by kernel_rfl) (by kernel_rfl) (show _ = #[true, true, true, true, true, true, true, true, false] from rfl) trivial ⟨(Ctx.sub_of [CH.row g14 0 (a4.map (Value.int .u8))] [] C69), trivial⟩ (fun _ hC_ => Yl.pickT (v := .bool (decide (a3 = r66))) (congrArg Value.bool (decide_eq_true hc53)) rfl) ?_
            refine WA.take none [] 8 rfl (by kernel_rfl) (by kernel_rfl) (show _ = #[true, true, true, true, true, true, true, true, true] from rfl) trivial ⟨(Ctx.sub_of [CH.row g14 0 (a4.map (Value.int .u8))] [] C69), trivial⟩ (fun _ hC_ => Yl.assign (v := .bool (decide (a3 = r66))) rfl) ?_
            refine WA.done (by kernel_rfl) ?_
            cases hX52
            refine thenE_n ?_
            exact ⟨rfl, C69⟩
          · skip
            refine W.regionA [] (by kernel_rfl) ?_
            have C70 := Ctx.drewN C25 1
            refine WA.take none [] 0 rfl (by kernel_rfl) (by kernel_rfl) (show _ = #[true, false, false, false, false, false, false, false, false] from rfl) trivial trivial (fun _ hC_ => Yl.move (v := .slice A1 n3 c2) ho22) ?_
            refine WA.take none [] 1 rfl (by kernel_rfl) (by kernel_rfl) (show _ = #[true, true, false, false, false, false, false, false, false] from rfl) trivial trivial (fun _ hC_ => Yl.lenN (A := A1) (l := n3) (q := c2) (n := (a2.length : Int)) rfl Tryd.underlying31 (by omega)) ?_
            refine WA.take none [] 2 rfl (by kernel_rfl) (by kernel_rfl) (show _ = #[true, true, true, false, false, false, false, false, false] from rfl) trivial trivial (fun _ hC_ => Yl.eql (m := (a2.length : Int)) (n := 0) (q := decide ((a2.length : Int) = 0)) rfl rfl rfl) ?_
            refine WA.take none [] 3 rfl (by kernel_rfl) (by kernel_rfl) (show _ = #[true, true, true, true, false, false, false, false, false] from rfl) trivial trivial (fun _ hC_ => Yl.move (v := .bool (decide ((a2.length : Int) = 0))) rfl) ?_
            refine WA.takeOff 4 rfl rfl (congrArg Value.bool (decide_eq_false hc53)) (by kernel_rfl) (by kernel_rfl) (show _ = #[true, true, true, true, true, false, false, false, false] from rfl) trivial ?_
            refine WA.takeOff 5 rfl rfl (congrArg Value.bool (decide_eq_false hc53)) (by kernel_rfl) (by kernel_rfl) (show _ = #[true, true, true, true, true, true, false, false, false] from rfl) trivial ?_
            refine WA.takeOff 6 rfl rfl (congrArg Value.bool (decide_eq_false hc53)) (by kernel_rfl) (by kernel_rfl) (show _ = #[true, true, true, true, true, true, true, false, false] from rfl) trivial ?_
            refine WA.take none [] 7 rfl (by kernel_rfl) (by kernel_rfl) (show _ = #[true, true, true, true, true, true, true, true, false] from rfl) trivial trivial (fun _ hC_ => Yl.pickF (v := .bool false) (congrArg Value.bool (decide_eq_false hc53)) rfl) ?_
            refine WA.take none [] 8 rfl (by kernel_rfl) (by kernel_rfl) (show _ = #[true, true, true, true, true, true, true, true, true] from rfl) trivial trivial (fun _ hC_ => Yl.assign (v := .bool false) rfl) ?_
            refine WA.done (by kernel_rfl) ?_
            cases hX52
            refine thenE_n ?_
            exact ⟨rfl, C70⟩
        · skip
          rintro env_ w_ ⟨ho49, C51⟩
          refine W.ret ?_
          refine inB_r ?_
          refine thenE_r ?_
          refine noG_r ?_
          have C71 : Ctx _ _ _ _ F [CH.row g10 0 (a3.map (Value.int .u8))] := Ctx.drop [] [CH.row g10 0 (a3.map (Value.int .u8))] C51
          have C72 : Ctx _ _ _ _ F [] := Ctx.drop [] [] C71
          have e73 := Option.some.inj H
          subst e73
          exact post_r (resE1 rfl ho49) ⟨rfl, C72⟩
      · skip
        refine W.condF (congrArg Value.bool (decide_eq_false hc30)) ?_
        refine W.seq ?_
        refine W.region rfl ?_
        refine WL.val (Yl.move (v := .int .i64 a0) ho20) ?_
        refine WL.val (Yl.move (v := .int .i64 a1) ho21) ?_
        refine WL.val (Yl.eql (m := a0) (n := a1) (q := decide (a0 = a1)) rfl rfl rfl) ?_
        refine WL.val (Yl.assign (v := .bool (decide (a0 = a1))) rfl) ?_
        refine WL.done ?_
        rcases iteE H with ⟨hc74, H⟩ | ⟨hc74, H⟩
        · skip
          refine W.condT (congrArg Value.bool (decide_eq_true hc74)) ?_
          refine W.seq ?_
          refine W.region rfl ?_
          refine WL.val (Yl.move (v := .slice A1 n3 c2) ho22) ?_
          refine WL.val (Yl.lenN (A := A1) (l := n3) (q := c2) (n := (a2.length : Int)) rfl Tryd.underlying31 (by omega)) ?_
          refine WL.val (Yl.eql (m := (a2.length : Int)) (n := 0) (q := decide ((a2.length : Int) = 0)) rfl rfl rfl) ?_
          refine WL.val (Yl.move (v := .bool (decide ((a2.length : Int) = 0))) rfl) ?_
          obtain ⟨g75, HE76, H⟩ := bindE H
          refine WL.cut (fun env_ w_ => env_ 10 = .bool g75 ∧ Ctx w F D w_ F [CH.row g14 0 (a4.map (Value.int .u8)), CH.row g10 0 (a3.map (Value.int .u8))]) ?_ ?_
          · skip
            rcases iteE HE76 with ⟨hc77, HE76⟩ | ⟨hc77, HE76⟩
            · skip
              refine WL.on rfl (congrArg Value.bool (decide_eq_true hc77)) ?_
              refine WL.val (Yl.loadVA (g := g10) (off := 0) (o := 0) (cs := a3.map (Value.int .u8)) (us := a3.map (Value.int .u8)) ho23 Tryd.underlying33 rfl (sz_of sz33 (by first | (simp only [List.length_append, List.length_map, List.length_cons, List.length_nil, ha8]; done) | simp [ha8])) (Ctx.sub_of [CH.row g14 0 (a4.map (Value.int .u8))] [] C25) (take_all _)) ?_
              refine WL.on rfl (congrArg Value.bool (decide_eq_true hc77)) ?_
              refine WL.val (Yl.loadVA (g := g14) (off := 0) (o := 0) (cs := a4.map (Value.int .u8)) (us := a4.map (Value.int .u8)) ho24 Tryd.underlying33 rfl (sz_of sz33 (by first | (simp only [List.length_append, List.length_map, List.length_cons, List.length_nil, ha9]; done) | simp [ha9])) (Ctx.sub_of [] [CH.row g10 0 (a3.map (Value.int .u8))] C25) (take_all _)) ?_
              refine WL.on rfl (congrArg Value.bool (decide_eq_true hc77)) ?_
              refine WL.val (Yl.aeql (n := 2) (xs := a3.map (Value.int .u8)) (ys := a4.map (Value.int .u8)) rfl rfl eg33 (EqV.arrI Tryd.underlying33 Tryd.underlying5 sz5 ha8 ha9) (by decide)) ?_
              refine WL.val (Yl.pickT (v := .bool (decide (a3 = a4))) (congrArg Value.bool (decide_eq_true hc77)) rfl) ?_
              refine WL.val (Yl.assign (v := .bool (decide (a3 = a4))) rfl) ?_
              cases HE76
              exact WL.done ⟨rfl, C25⟩
            · skip
              refine WL.off rfl (congrArg Value.bool (decide_eq_false hc77)) ?_
              refine WL.off rfl (congrArg Value.bool (decide_eq_false hc77)) ?_
              refine WL.off rfl (congrArg Value.bool (decide_eq_false hc77)) ?_
              refine WL.val (Yl.pickF (v := .bool false) (congrArg Value.bool (decide_eq_false hc77)) rfl) ?_
              refine WL.val (Yl.assign (v := .bool false) rfl) ?_
              cases HE76
              exact WL.done ⟨rfl, C25⟩
          · skip
            rintro env_ w_ ⟨ho78, C79⟩
            refine W.ret ?_
            refine inB_r ?_
            refine thenE_r ?_
            refine noG_r ?_
            have C80 : Ctx _ _ _ _ F [CH.row g10 0 (a3.map (Value.int .u8))] := Ctx.drop [] [CH.row g10 0 (a3.map (Value.int .u8))] C79
            have C81 : Ctx _ _ _ _ F [] := Ctx.drop [] [] C80
            have e82 := Option.some.inj H
            subst e82
            exact post_r (resE1 rfl ho78) ⟨rfl, C81⟩
        · skip
          refine W.condF (congrArg Value.bool (decide_eq_false hc74)) ?_
          refine W.skip ?_
          refine inB_n ?_
          refine W.seq ?_
          refine W.region rfl ?_
          refine WL.val (Yl.move (v := .int .i64 a0) ho20) ?_
          refine WL.val (Yl.sub (m := a0) (n := 1) (r := wi64 (a0 - 1)) rfl rfl rfl) ?_
          refine WL.val (Yl.move (v := .int .i64 a1) ho21) ?_
          refine WL.val (Yl.sub (m := a1) (n := 1) (r := wi64 (a1 - 1)) rfl rfl rfl) ?_
          refine WL.val (Yl.build (places := [(0, 1), (1, 1)]) (cs := List.toArray [.int .i64 (wi64 (a0 - 1)), .int .i64 (wi64 (a1 - 1))]) Tryd.underlying90 zr90 (pl90 _ Tryd.underlying90) (partsB (.cons rfl (.cons rfl .nil))) rfl) ?_
          obtain ⟨g83, w84, hy85, C86⟩ := ev_alloc (P := Tryd.prog) (e := 90) [.int .i64 0, .int .i64 0] C25 zr90 rfl
          refine WL.val (hy85 _ _) ?_
          obtain ⟨w87, hy88, C89⟩ := ev_set (P := Tryd.prog) (ps1 := []) (ps2 := [CH.row g14 0 (a4.map (Value.int .u8)), CH.row g10 0 (a3.map (Value.int .u8))]) (t := 90) (o := 0) [.int .i64 0, .int .i64 0] [] [.int .i64 0, .int .i64 0] [] [.int .i64 (wi64 (a0 - 1)), .int .i64 (wi64 (a1 - 1))] (.agg (List.toArray [.int .i64 (wi64 (a0 - 1)), .int .i64 (wi64 (a1 - 1))])) C86 rfl rfl rfl rfl (by simp [Value.oneCell']) sz90
          have C90 : Ctx _ _ _ _ F [CH.row g83 0 [.int .i64 (wi64 (a0 - 1)), .int .i64 (wi64 (a1 - 1))], CH.row g14 0 (a4.map (Value.int .u8)), CH.row g10 0 (a3.map (Value.int .u8))] := C89
          refine WL.skip (hy88 _ _ _ _ rfl rfl) ?_
          refine WL.done ?_
          refine W.seq ?_
          obtain ⟨x122, hX124, H⟩ := bindE H
          refine W.cutM (fun env_ w_ => env_ 2 = .slice A1 n3 c2 ∧ env_ 8 = .pointer (some ⟨g10, 0, none⟩) ∧ env_ 9 = .pointer (some ⟨g14, 0, none⟩) ∧ env_ 11 = .pointer (some ⟨g83, 0, none⟩) ∧ Ctx w F D w_ F [CH.row g83 0 [.int .i64 x122.at_, .int .i64 x122.last], CH.row g14 0 (a4.map (Value.int .u8)), CH.row g10 0 (a3.map (Value.int .u8))]) ?_ ?_
          · skip
            refine W.block ?_
            refine W.loop (fun g_ env_ w_ => ∃ (x139 : Tclimb), env_ 2 = .slice A1 n3 c2 ∧ env_ 8 = .pointer (some ⟨g10, 0, none⟩) ∧ env_ 9 = .pointer (some ⟨g14, 0, none⟩) ∧ env_ 11 = .pointer (some ⟨g83, 0, none⟩) ∧ Ctx w F D w_ F [CH.row g83 0 [.int .i64 x139.at_, .int .i64 x139.last], CH.row g14 0 (a4.map (Value.int .u8)), CH.row g10 0 (a3.map (Value.int .u8))] ∧ proof_Consistent.l1 g_ x139 = some x122) k ⟨(⟨wi64 (a0 - 1), wi64 (a1 - 1)⟩ : Tclimb), ho22, ho23, ho24, rfl, C90, hX124⟩ ?_
            clear hX124
            rintro g_ env_ w_ ⟨x139, ho135, ho136, ho137, ho138, C140, hX124⟩
            rcases g_ with _ | k146
            · exact absurd hX124 (by simp [proof_Consistent.l1])
            rw [proof_Consistent.l1] at hX124
            refine W.seq ?_
            refine W.seq ?_
            refine W.region rfl ?_
            refine WL.val (Yl.fieldAddr (i := 0) ho138 Tryd.underlying90 rfl sz3) ?_
            refine WL.val (Yl.loadV (g := g83) (off := 0) (o := 0) (cs := [.int .i64 x139.at_, .int .i64 x139.last]) (v := .int .i64 x139.at_) rfl Tryd.underlying3 rfl (Ctx.sub_of [] [CH.row g14 0 (a4.map (Value.int .u8)), CH.row g10 0 (a3.map (Value.int .u8))] C140) rfl) ?_
            refine WL.val (Yl.and (m := x139.at_) (n := 1) (r := bitsOp .and .i64 x139.at_ 1) rfl rfl rfl) ?_
            refine WL.val (Yl.eql (m := bitsOp .and .i64 x139.at_ 1) (n := 1) (q := decide ((bitsOp .and .i64 x139.at_ 1) = 1)) rfl rfl rfl) ?_
            refine WL.done ?_
            rcases iteE hX124 with ⟨hc147, hX124⟩ | ⟨hc147, hX124⟩
            · skip
              refine W.condT (congrArg Value.bool (decide_eq_true hc147)) ?_
              refine W.skip ?_
              refine W.block ?_
              refine W.region rfl ?_
              obtain ⟨r149, hg148, hX124⟩ := bindE hX124
              refine WL.call (args := #[.pointer (some ⟨g83, 0, none⟩)]) (Yenter.fn Tryd.func61 (by kernel_rfl) rfl (argsE (.cons ho138 .nil))) (proof_climb_up.calls k146 _ F g83 0 x139 (Ctx.pre (qs := [CH.row g83 0 [.int .i64 x139.at_, .int .i64 x139.last]]) (rest := [CH.row g14 0 (a4.map (Value.int .u8)), CH.row g10 0 (a3.map (Value.int .u8))]) C140)  r149 hg148) ?_
              rintro e_ w_ ⟨rfl, C150⟩
              refine ⟨_, rfl, ?_⟩
              have C151 : Ctx _ _ _ _ F [CH.row g83 0 [.int .i64 r149.at_, .int .i64 r149.last], CH.row g14 0 (a4.map (Value.int .u8)), CH.row g10 0 (a3.map (Value.int .u8))] := Ctx.call (qs := [CH.row g83 0 [.int .i64 x139.at_, .int .i64 x139.last]]) (rest := [CH.row g14 0 (a4.map (Value.int .u8)), CH.row g10 0 (a3.map (Value.int .u8))]) C140 C150
              refine WL.done ?_
              refine inB_n ?_
              exact thenE_n ⟨k146, Nat.lt_succ_self _, r149, ho135, ho136, ho137, ho138, C151, hX124⟩
            · skip
              refine W.condF (congrArg Value.bool (decide_eq_false hc147)) ?_
              refine W.exit ?_
              refine thenE_x ?_
              refine thenE_x ?_
              refine inB_here ?_
              cases hX124
              refine thenE_n ?_
              exact ⟨ho135, ho136, ho137, ho138, C140⟩
          · skip
            rintro env_ w_ ⟨ho118, ho119, ho120, ho121, C123⟩
            refine W.seq ?_
            refine W.region rfl ?_
            refine WL.val (Yl.loadVA (g := g10) (off := 0) (o := 0) (cs := a3.map (Value.int .u8)) (us := a3.map (Value.int .u8)) ho119 Tryd.underlying33 rfl (sz_of sz33 (by first | (simp only [List.length_append, List.length_map, List.length_cons, List.length_nil, ha8]; done) | simp [ha8])) (Ctx.sub_of [CH.row g83 0 [.int .i64 x122.at_, .int .i64 x122.last], CH.row g14 0 (a4.map (Value.int .u8))] [] C123) (take_all _)) ?_
            refine WL.val (Yl.move (v := .slice A1 n3 c2) ho118) ?_
            obtain ⟨g152, w153, hy154, C155⟩ := ev_alloc (P := Tryd.prog) (e := 33) ((List.replicate 32 (0 : Int)).map (Value.int .u8)) C123 zr33 rfl
            refine WL.val (hy154 _ _) ?_
            obtain ⟨w156, hy157, C158⟩ := ev_set (P := Tryd.prog) (ps1 := []) (ps2 := [CH.row g83 0 [.int .i64 x122.at_, .int .i64 x122.last], CH.row g14 0 (a4.map (Value.int .u8)), CH.row g10 0 (a3.map (Value.int .u8))]) (t := 33) (o := 0) ((List.replicate 32 (0 : Int)).map (Value.int .u8)) [] ((List.replicate 32 (0 : Int)).map (Value.int .u8)) [] (a3.map (Value.int .u8)) (.agg (List.toArray (a3.map (Value.int .u8)))) C155 (by first | (simp only [List.length_append, List.length_map, List.length_cons, List.length_nil, (List.length_replicate ..), ha8]; done) | simp [(List.length_replicate ..), ha8]) (by first | (simp only [List.length_append, List.length_map, List.length_cons, List.length_nil, (List.length_replicate ..), ha8]; done) | simp [(List.length_replicate ..), ha8]) (by first | (simp only [List.length_append, List.length_map, List.length_cons, List.length_nil, (List.length_replicate ..), ha8]; done) | simp [(List.length_replicate ..), ha8]) rfl (one_ints _ _) (sz_of sz33 (by first | (simp only [List.length_append, List.length_map, List.length_cons, List.length_nil, ha8]; done) | simp [ha8]))
            have C159 : Ctx _ _ _ _ F [CH.row g152 0 (a3.map (Value.int .u8)), CH.row g83 0 [.int .i64 x122.at_, .int .i64 x122.last], CH.row g14 0 (a4.map (Value.int .u8)), CH.row g10 0 (a3.map (Value.int .u8))] := (by simpa using C158)
            refine WL.skip (hy157 _ _ _ _ rfl rfl) ?_
            refine WL.val (Yl.assign (v := .slice A1 n3 c2) rfl) ?_
            refine WL.done ?_
            refine W.seq ?_
            obtain ⟨o226, hX225, H⟩ := bindE H
            refine W.cutM (fun env_ w_ => ∃ (x214 : List (List Int)) (x222 : List Int) (A215 : Option Addr) (c216 : Nat) (n217 : Nat), env_ 8 = .pointer (some ⟨g10, 0, none⟩) ∧ env_ 9 = .pointer (some ⟨g14, 0, none⟩) ∧ env_ 11 = .pointer (some ⟨g83, 0, none⟩) ∧ env_ 12 = .pointer (some ⟨g152, 0, none⟩) ∧ env_ 13 = .slice A215 n217 c216 ∧ Ctx w F D w_ F [CH.row g152 0 (x222.map (Value.int .u8)), CH.row g83 0 [.int .i64 x122.at_, .int .i64 x122.last], CH.row g14 0 (a4.map (Value.int .u8)), CH.row g10 0 (a3.map (Value.int .u8))] ∧ n217 = x214.length ∧ x214.length ≤ c216 ∧ c216 ≤ maxLen ∧ Sl (Kd.arrI 32 .u8) F F A215 x214 ∧ x222.length = 32 ∧ o226 = Sum.inl (x214, x222)) ?_ ?_
            · skip
              refine W.seq ?_
              refine W.region rfl ?_
              refine WL.val (Yl.fieldAddr (i := 0) ho121 Tryd.underlying90 rfl sz3) ?_
              refine WL.val (Yl.loadV (g := g83) (off := 0) (o := 0) (cs := [.int .i64 x122.at_, .int .i64 x122.last]) (v := .int .i64 x122.at_) rfl Tryd.underlying3 rfl (Ctx.sub_of [CH.row g152 0 (a3.map (Value.int .u8))] [CH.row g14 0 (a4.map (Value.int .u8)), CH.row g10 0 (a3.map (Value.int .u8))] C159) rfl) ?_
              refine WL.val (Yl.neq (m := x122.at_) (n := 0) (q := !decide (x122.at_ = 0)) rfl rfl rfl) ?_
              refine WL.done ?_
              rcases iteE hX225 with ⟨hc227, hX225⟩ | ⟨hc227, hX225⟩
              · skip
                refine W.condF (congrArg Value.bool (ndec_t hc227)) ?_
                refine W.skip ?_
                cases hX225
                refine thenE_n ?_
                exact ⟨a2, a3, A1, c2, n3, ho119, ho120, ho121, rfl, rfl, C159, hn4, hl5, hm6, hS7, ha8, rfl⟩
              · skip
                refine W.condT (congrArg Value.bool (ndec_f hc227)) ?_
                refine W.seq ?_
                refine W.seq ?_
                refine W.region rfl ?_
                refine WL.val (Yl.move (v := .slice A1 n3 c2) ho118) ?_
                refine WL.val (Yl.lenN (A := A1) (l := n3) (q := c2) (n := (a2.length : Int)) rfl Tryd.underlying31 (by omega)) ?_
                refine WL.val (Yl.eql (m := (a2.length : Int)) (n := 0) (q := decide ((a2.length : Int) = 0)) rfl rfl rfl) ?_
                refine WL.done ?_
                rcases iteE hX225 with ⟨hc228, hX225⟩ | ⟨hc228, hX225⟩
                · skip
                  refine W.condT (congrArg Value.bool (decide_eq_true hc228)) ?_
                  refine W.seq ?_
                  refine W.region rfl ?_
                  refine WL.val (Yl.assign (v := .bool false) rfl) ?_
                  refine WL.done ?_
                  refine W.ret ?_
                  refine thenE_r ?_
                  refine thenE_r ?_
                  refine thenE_r ?_
                  refine noG_r ?_
                  cases hX225
                  replace H := sumE_r H
                  have C229 : Ctx _ _ _ _ F [CH.row g83 0 [.int .i64 x122.at_, .int .i64 x122.last], CH.row g14 0 (a4.map (Value.int .u8)), CH.row g10 0 (a3.map (Value.int .u8))] := Ctx.drop [] [CH.row g83 0 [.int .i64 x122.at_, .int .i64 x122.last], CH.row g14 0 (a4.map (Value.int .u8)), CH.row g10 0 (a3.map (Value.int .u8))] C159
                  have C230 : Ctx _ _ _ _ F [CH.row g14 0 (a4.map (Value.int .u8)), CH.row g10 0 (a3.map (Value.int .u8))] := Ctx.drop [] [CH.row g14 0 (a4.map (Value.int .u8)), CH.row g10 0 (a3.map (Value.int .u8))] C229
                  have C231 : Ctx _ _ _ _ F [CH.row g10 0 (a3.map (Value.int .u8))] := Ctx.drop [] [CH.row g10 0 (a3.map (Value.int .u8))] C230
                  have C232 : Ctx _ _ _ _ F [] := Ctx.drop [] [] C231
                  have e233 := Option.some.inj H
                  subst e233
                  exact post_r (resE1 rfl rfl) ⟨rfl, C232⟩
                · skip
                  refine W.condF (congrArg Value.bool (decide_eq_false hc228)) ?_
                  refine W.skip ?_
                  refine W.regionA [([5], F)] (by kernel_rfl) ?_
                  have C257 := Ctx.drewN C159 1
                  refine WA.take none [] 0 rfl (by kernel_rfl) (by kernel_rfl) (show _ = #[true, false, false, false, false, false, false] from rfl) trivial ⟨(C257.fro), trivial⟩ (fun _ hC_ => Yl.move (v := .slice A1 n3 c2) ho118) ?_
                  obtain ⟨hc258, hX225⟩ := guardE hX225
                  obtain ⟨b259, of260, hA261, he262⟩ := hS7 (by omega)
                  refine WA.take none [] 1 rfl (by kernel_rfl) (by kernel_rfl) (show _ = #[true, true, false, false, false, false, false] from rfl) trivial ⟨(C257.fro), trivial⟩ (fun _ hC_ => Yl.elemAddr (i := 0) rfl rfl hA261 Tryd.underlying31 sz33 (by omega)) ?_
                  obtain ⟨cs263, hr264, hx265⟩ := he262 (0 : Int).toNat _ (getD_some (d := []) (by omega))
                  obtain ⟨rfl, ha266⟩ := hr264
                  refine WA.take (some 0) [5, 6] 2 rfl (by kernel_rfl) (by kernel_rfl) (show _ = #[true, true, true, false, false, false, false] from rfl) (C257.fro) ⟨(C257.fro), trivial⟩ (fun _ hC_ => Yl.loadAgg (cs := (a2.getD (0 : Int).toNat []).map (Value.int .u8)) rfl Tryd.underlying33 rfl (sz_of sz33 (by first | (simp only [List.length_append, List.length_map, List.length_cons, List.length_nil, ha266]; done) | simp [ha266])) (fun j u hu => by rw [add_of]; exact ((Sub.mono (show Sub F _ from hC_) (CH.le_refl _))).cell (hx265 _ _ hu))) ?_
                  refine WA.take none [] 3 rfl (by kernel_rfl) (by kernel_rfl) (show _ = #[true, true, true, true, false, false, false] from rfl) trivial ⟨(C257.fro), trivial⟩ (fun _ hC_ => Yl.move (v := .slice A1 n3 c2) ho118) ?_
                  obtain ⟨hc267, hX225⟩ := guardE hX225
                  have hl276 : a2.length ≤ c2 ∧ c2 ≤ maxLen := ⟨hl5, hm6⟩
                  obtain ⟨A268, c269, n270, hv271, hn272, hl273, hm274, hS275⟩ := Sl.cut hS7 (c := c2) hl276.2 ((1 : Int).toNat) a2.length c2 (by omega) (by omega) (by omega) (by omega)
                  rw [List.take_length] at hn272 hl273 hS275
                  refine WA.take none [] 4 rfl (by kernel_rfl) (by kernel_rfl) (show _ = #[true, true, true, true, true, false, false] from rfl) trivial ⟨(C257.fro), trivial⟩ (fun _ hC_ => Yl.slice ((1 : Int).toNat) a2.length c2 rfl Tryd.underlying31 sz33 rfl (hn4).symm (OB.mk rfl (by omega)) (by simp) (by omega) (by omega) (by omega) hv271) ?_
                  obtain ⟨w277, hy278, C279⟩ := ev_set (P := Tryd.prog) (ps1 := []) (ps2 := [CH.row g83 0 [.int .i64 x122.at_, .int .i64 x122.last], CH.row g14 0 (a4.map (Value.int .u8)), CH.row g10 0 (a3.map (Value.int .u8))]) (t := 33) (o := 0) (a3.map (Value.int .u8)) [] (a3.map (Value.int .u8)) [] ((a2.getD (0 : Int).toNat []).map (Value.int .u8)) (.agg (List.toArray ((a2.getD (0 : Int).toNat []).map (Value.int .u8)))) C257 (by first | (simp only [List.length_append, List.length_map, List.length_cons, List.length_nil, ha8, ha266]; done) | simp [ha8, ha266]) (by first | (simp only [List.length_append, List.length_map, List.length_cons, List.length_nil, ha8, ha266]; done) | simp [ha8, ha266]) (by first | (simp only [List.length_append, List.length_map, List.length_cons, List.length_nil, ha8, ha266]; done) | simp [ha8, ha266]) rfl (one_ints _ _) (sz_of sz33 (by first | (simp only [List.length_append, List.length_map, List.length_cons, List.length_nil, ha266]; done) | simp [ha266]))
                  have C280 : Ctx _ _ _ _ F [CH.row g152 0 ((a2.getD (0 : Int).toNat []).map (Value.int .u8)), CH.row g83 0 [.int .i64 x122.at_, .int .i64 x122.last], CH.row g14 0 (a4.map (Value.int .u8)), CH.row g10 0 (a3.map (Value.int .u8))] := (by simpa using C279)
                  refine WA.up1 5 (by kernel_rfl) (Up.skip rfl (show _ = #[true, true, true, true, true, true, false] from rfl) (hy278 _ _ _ _ rfl rfl) ⟨trivial, trivial⟩ ?_)
                  refine WA.take none [] 6 rfl (by kernel_rfl) (by kernel_rfl) (show _ = #[true, true, true, true, true, true, true] from rfl) trivial ⟨trivial, trivial⟩ (fun _ hC_ => Yl.assign (v := .slice A268 n270 c269) rfl) ?_
                  refine WA.done (by kernel_rfl) ?_
                  cases hX225
                  refine thenE_n ?_
                  exact ⟨a2.drop ((1 : Int).toNat), a2.getD (0 : Int).toNat [], A268, c269, n270, ho119, ho120, ho121, rfl, rfl, C280, hn272, hl273, hm274, hS275, ha266, rfl⟩
            · skip
              rintro env_ w_ ⟨x214, x222, A215, c216, n217, ho209, ho210, ho211, ho212, ho213, C224, hn218, hl219, hm220, hS221, ha223, rfl⟩
              replace H := sumE_l H
              refine W.seq ?_
              refine W.region rfl ?_
              refine WL.val (Yl.loadVA (g := g152) (off := 0) (o := 0) (cs := x222.map (Value.int .u8)) (us := x222.map (Value.int .u8)) ho212 Tryd.underlying33 rfl (sz_of sz33 (by first | (simp only [List.length_append, List.length_map, List.length_cons, List.length_nil, ha223]; done) | simp [ha223])) (Ctx.sub_of [] [CH.row g83 0 [.int .i64 x122.at_, .int .i64 x122.last], CH.row g14 0 (a4.map (Value.int .u8)), CH.row g10 0 (a3.map (Value.int .u8))] C224) (take_all _)) ?_
              obtain ⟨g281, w282, hy283, C284⟩ := ev_alloc (P := Tryd.prog) (e := 33) ((List.replicate 32 (0 : Int)).map (Value.int .u8)) C224 zr33 rfl
              refine WL.val (hy283 _ _) ?_
              obtain ⟨w285, hy286, C287⟩ := ev_set (P := Tryd.prog) (ps1 := []) (ps2 := [CH.row g152 0 (x222.map (Value.int .u8)), CH.row g83 0 [.int .i64 x122.at_, .int .i64 x122.last], CH.row g14 0 (a4.map (Value.int .u8)), CH.row g10 0 (a3.map (Value.int .u8))]) (t := 33) (o := 0) ((List.replicate 32 (0 : Int)).map (Value.int .u8)) [] ((List.replicate 32 (0 : Int)).map (Value.int .u8)) [] (x222.map (Value.int .u8)) (.agg (List.toArray (x222.map (Value.int .u8)))) C284 (by first | (simp only [List.length_append, List.length_map, List.length_cons, List.length_nil, (List.length_replicate ..), ha223]; done) | simp [(List.length_replicate ..), ha223]) (by first | (simp only [List.length_append, List.length_map, List.length_cons, List.length_nil, (List.length_replicate ..), ha223]; done) | simp [(List.length_replicate ..), ha223]) (by first | (simp only [List.length_append, List.length_map, List.length_cons, List.length_nil, (List.length_replicate ..), ha223]; done) | simp [(List.length_replicate ..), ha223]) rfl (one_ints _ _) (sz_of sz33 (by first | (simp only [List.length_append, List.length_map, List.length_cons, List.length_nil, ha223]; done) | simp [ha223]))
              have C288 : Ctx _ _ _ _ F [CH.row g281 0 (x222.map (Value.int .u8)), CH.row g152 0 (x222.map (Value.int .u8)), CH.row g83 0 [.int .i64 x122.at_, .int .i64 x122.last], CH.row g14 0 (a4.map (Value.int .u8)), CH.row g10 0 (a3.map (Value.int .u8))] := (by simpa using C287)
              refine WL.skip (hy286 _ _ _ _ rfl rfl) ?_
              refine WL.done ?_
              refine W.seq ?_
              refine W.label ?_
              refine W.seq ?_
              refine W.seq ?_
              refine W.region rfl ?_
              refine WL.val (Yl.move (v := .slice A215 n217 c216) ho213) ?_
              refine WL.val (Yl.lenN (A := A215) (l := n217) (q := c216) (n := (x214.length : Int)) rfl Tryd.underlying31 (by omega)) ?_
              refine WL.val (Yl.move (v := .int .i64 0) rfl) ?_
              refine WL.done ?_
              obtain ⟨o574, hX573, H⟩ := bindE H
              refine W.cutM (fun env_ w_ => ∃ (x567 : Tclimb) (x568 : List Int) (x570 : List Int), env_ 8 = .pointer (some ⟨g10, 0, none⟩) ∧ env_ 9 = .pointer (some ⟨g14, 0, none⟩) ∧ env_ 11 = .pointer (some ⟨g83, 0, none⟩) ∧ env_ 12 = .pointer (some ⟨g152, 0, none⟩) ∧ env_ 14 = .pointer (some ⟨g281, 0, none⟩) ∧ Ctx w F D w_ F [CH.row g83 0 [.int .i64 x567.at_, .int .i64 x567.last], CH.row g152 0 (x568.map (Value.int .u8)), CH.row g281 0 (x570.map (Value.int .u8)), CH.row g14 0 (a4.map (Value.int .u8)), CH.row g10 0 (a3.map (Value.int .u8))] ∧ x568.length = 32 ∧ x570.length = 32 ∧ o574 = Sum.inl (x567, x568, x570)) ?_ ?_
              · skip
                refine W.block ?_
                have C763 : Ctx _ _ _ _ F [CH.row g281 0 (x222.map (Value.int .u8)), CH.row g83 0 [.int .i64 x122.at_, .int .i64 x122.last], CH.row g152 0 (x222.map (Value.int .u8)), CH.row g14 0 (a4.map (Value.int .u8)), CH.row g10 0 (a3.map (Value.int .u8))] := Ctx.swap [CH.row g281 0 (x222.map (Value.int .u8))] [CH.row g14 0 (a4.map (Value.int .u8)), CH.row g10 0 (a3.map (Value.int .u8))] C288
                have C764 : Ctx _ _ _ _ F [CH.row g83 0 [.int .i64 x122.at_, .int .i64 x122.last], CH.row g281 0 (x222.map (Value.int .u8)), CH.row g152 0 (x222.map (Value.int .u8)), CH.row g14 0 (a4.map (Value.int .u8)), CH.row g10 0 (a3.map (Value.int .u8))] := Ctx.swap [] [CH.row g152 0 (x222.map (Value.int .u8)), CH.row g14 0 (a4.map (Value.int .u8)), CH.row g10 0 (a3.map (Value.int .u8))] C763
                have C765 : Ctx _ _ _ _ F [CH.row g83 0 [.int .i64 x122.at_, .int .i64 x122.last], CH.row g152 0 (x222.map (Value.int .u8)), CH.row g281 0 (x222.map (Value.int .u8)), CH.row g14 0 (a4.map (Value.int .u8)), CH.row g10 0 (a3.map (Value.int .u8))] := Ctx.swap [CH.row g83 0 [.int .i64 x122.at_, .int .i64 x122.last]] [CH.row g14 0 (a4.map (Value.int .u8)), CH.row g10 0 (a3.map (Value.int .u8))] C764
                refine W.loop (fun g_ env_ w_ => ∃ (x675 : Int) (x676 : Tclimb) (x677 : List Int) (x679 : List Int), env_ 8 = .pointer (some ⟨g10, 0, none⟩) ∧ env_ 9 = .pointer (some ⟨g14, 0, none⟩) ∧ env_ 11 = .pointer (some ⟨g83, 0, none⟩) ∧ env_ 12 = .pointer (some ⟨g152, 0, none⟩) ∧ env_ 14 = .pointer (some ⟨g281, 0, none⟩) ∧ env_ 72 = .slice A215 n217 c216 ∧ env_ 73 = .int .i64 (x214.length : Int) ∧ env_ 74 = .int .i64 x675 ∧ Ctx w F D w_ F [CH.row g83 0 [.int .i64 x676.at_, .int .i64 x676.last], CH.row g152 0 (x677.map (Value.int .u8)), CH.row g281 0 (x679.map (Value.int .u8)), CH.row g14 0 (a4.map (Value.int .u8)), CH.row g10 0 (a3.map (Value.int .u8))] ∧ x677.length = 32 ∧ x679.length = 32 ∧ proof_Consistent.l2 g_ x214 x675 x676 x677 x679 = some o574) k ⟨0, x122, x222, x222, ho209, ho210, ho211, ho212, rfl, rfl, rfl, rfl, C765, ha223, ha223, hX573⟩ ?_
                clear hX573
                rintro g_ env_ w_ ⟨x675, x676, x677, x679, ho667, ho668, ho669, ho670, ho671, ho672, ho673, ho674, C681, ha678, ha680, hX573⟩
                rcases g_ with _ | k762
                · exact absurd hX573 (by simp [proof_Consistent.l2])
                rw [proof_Consistent.l2] at hX573
                refine W.seq ?_
                refine W.region rfl ?_
                refine WL.val (Yl.lss (m := x675) (n := (x214.length : Int)) (q := decide (x675 < (x214.length : Int))) ho674 ho673 rfl) ?_
                refine WL.done ?_
                refine W.seq ?_
                rcases iteE hX573 with ⟨hc766, hX573⟩ | ⟨hc766, hX573⟩
                · skip
                  refine W.condT (congrArg Value.bool (decide_eq_true hc766)) ?_
                  refine W.skip ?_
                  refine W.seq ?_
                  refine W.block ?_
                  refine W.seq ?_
                  refine W.region rfl ?_
                  obtain ⟨hc767, hX573⟩ := guardE hX573
                  obtain ⟨b768, of769, hA770, he771⟩ := hS221 (by omega)
                  refine WL.val (Yl.elemAddr (i := x675) ho672 ho674 hA770 Tryd.underlying31 sz33 (by omega)) ?_
                  obtain ⟨cs772, hr773, hx774⟩ := he771 x675.toNat _ (getD_some (d := []) (by omega))
                  obtain ⟨rfl, ha775⟩ := hr773
                  refine WL.val (Yl.loadAgg (cs := (x214.getD x675.toNat []).map (Value.int .u8)) rfl Tryd.underlying33 rfl (sz_of sz33 (by first | (simp only [List.length_append, List.length_map, List.length_cons, List.length_nil, ha775]; done) | simp [ha775])) (fun j u hu => by rw [add_of]; exact ((C681.fro)).cell (hx774 _ _ hu))) ?_
                  obtain ⟨g776, w777, hy778, C779⟩ := ev_alloc (P := Tryd.prog) (e := 33) ((List.replicate 32 (0 : Int)).map (Value.int .u8)) C681 zr33 rfl
                  refine WL.val (hy778 _ _) ?_
                  obtain ⟨w780, hy781, C782⟩ := ev_set (P := Tryd.prog) (ps1 := []) (ps2 := [CH.row g83 0 [.int .i64 x676.at_, .int .i64 x676.last], CH.row g152 0 (x677.map (Value.int .u8)), CH.row g281 0 (x679.map (Value.int .u8)), CH.row g14 0 (a4.map (Value.int .u8)), CH.row g10 0 (a3.map (Value.int .u8))]) (t := 33) (o := 0) ((List.replicate 32 (0 : Int)).map (Value.int .u8)) [] ((List.replicate 32 (0 : Int)).map (Value.int .u8)) [] ((x214.getD x675.toNat []).map (Value.int .u8)) (.agg (List.toArray ((x214.getD x675.toNat []).map (Value.int .u8)))) C779 (by first | (simp only [List.length_append, List.length_map, List.length_cons, List.length_nil, (List.length_replicate ..), ha775]; done) | simp [(List.length_replicate ..), ha775]) (by first | (simp only [List.length_append, List.length_map, List.length_cons, List.length_nil, (List.length_replicate ..), ha775]; done) | simp [(List.length_replicate ..), ha775]) (by first | (simp only [List.length_append, List.length_map, List.length_cons, List.length_nil, (List.length_replicate ..), ha775]; done) | simp [(List.length_replicate ..), ha775]) rfl (one_ints _ _) (sz_of sz33 (by first | (simp only [List.length_append, List.length_map, List.length_cons, List.length_nil, ha775]; done) | simp [ha775]))
                  have C783 : Ctx _ _ _ _ F [CH.row g776 0 ((x214.getD x675.toNat []).map (Value.int .u8)), CH.row g83 0 [.int .i64 x676.at_, .int .i64 x676.last], CH.row g152 0 (x677.map (Value.int .u8)), CH.row g281 0 (x679.map (Value.int .u8)), CH.row g14 0 (a4.map (Value.int .u8)), CH.row g10 0 (a3.map (Value.int .u8))] := (by simpa using C782)
                  refine WL.skip (hy781 _ _ _ _ rfl rfl) ?_
                  refine WL.done ?_
                  refine W.seq ?_
                  refine W.seq ?_
                  refine W.region rfl ?_
                  refine WL.val (Yl.fieldAddr (i := 1) ho669 Tryd.underlying90 rfl sz3) ?_
                  refine WL.val (Yl.loadV (g := g83) (off := 0) (o := 1) (cs := [.int .i64 x676.at_, .int .i64 x676.last]) (v := .int .i64 x676.last) rfl Tryd.underlying3 rfl (Ctx.sub_of [CH.row g776 0 ((x214.getD x675.toNat []).map (Value.int .u8))] [CH.row g152 0 (x677.map (Value.int .u8)), CH.row g281 0 (x679.map (Value.int .u8)), CH.row g14 0 (a4.map (Value.int .u8)), CH.row g10 0 (a3.map (Value.int .u8))] C783) rfl) ?_
                  refine WL.val (Yl.eql (m := x676.last) (n := 0) (q := decide (x676.last = 0)) rfl rfl rfl) ?_
                  refine WL.done ?_
                  rcases iteE hX573 with ⟨hc784, hX573⟩ | ⟨hc784, hX573⟩
                  · skip
                    refine W.condT (congrArg Value.bool (decide_eq_true hc784)) ?_
                    refine W.seq ?_
                    refine W.region rfl ?_
                    refine WL.val (Yl.assign (v := .bool false) rfl) ?_
                    refine WL.done ?_
                    refine W.ret ?_
                    refine thenE_r ?_
                    refine inB_r ?_
                    refine thenE_r ?_
                    refine thenE_r ?_
                    refine inB_r ?_
                    refine thenE_r ?_
                    refine thenE_r ?_
                    refine noG_r ?_
                    cases hX573
                    replace H := sumE_r H
                    have C785 : Ctx _ _ _ _ F [CH.row g83 0 [.int .i64 x676.at_, .int .i64 x676.last], CH.row g152 0 (x677.map (Value.int .u8)), CH.row g281 0 (x679.map (Value.int .u8)), CH.row g14 0 (a4.map (Value.int .u8)), CH.row g10 0 (a3.map (Value.int .u8))] := Ctx.drop [] [CH.row g83 0 [.int .i64 x676.at_, .int .i64 x676.last], CH.row g152 0 (x677.map (Value.int .u8)), CH.row g281 0 (x679.map (Value.int .u8)), CH.row g14 0 (a4.map (Value.int .u8)), CH.row g10 0 (a3.map (Value.int .u8))] C783
                    have C786 : Ctx _ _ _ _ F [CH.row g152 0 (x677.map (Value.int .u8)), CH.row g281 0 (x679.map (Value.int .u8)), CH.row g14 0 (a4.map (Value.int .u8)), CH.row g10 0 (a3.map (Value.int .u8))] := Ctx.drop [] [CH.row g152 0 (x677.map (Value.int .u8)), CH.row g281 0 (x679.map (Value.int .u8)), CH.row g14 0 (a4.map (Value.int .u8)), CH.row g10 0 (a3.map (Value.int .u8))] C785
                    have C787 : Ctx _ _ _ _ F [CH.row g281 0 (x679.map (Value.int .u8)), CH.row g14 0 (a4.map (Value.int .u8)), CH.row g10 0 (a3.map (Value.int .u8))] := Ctx.drop [] [CH.row g281 0 (x679.map (Value.int .u8)), CH.row g14 0 (a4.map (Value.int .u8)), CH.row g10 0 (a3.map (Value.int .u8))] C786
                    have C788 : Ctx _ _ _ _ F [CH.row g14 0 (a4.map (Value.int .u8)), CH.row g10 0 (a3.map (Value.int .u8))] := Ctx.drop [] [CH.row g14 0 (a4.map (Value.int .u8)), CH.row g10 0 (a3.map (Value.int .u8))] C787
                    have C789 : Ctx _ _ _ _ F [CH.row g10 0 (a3.map (Value.int .u8))] := Ctx.drop [] [CH.row g10 0 (a3.map (Value.int .u8))] C788
                    have C790 : Ctx _ _ _ _ F [] := Ctx.drop [] [] C789
                    have e791 := Option.some.inj H
                    subst e791
                    exact post_r (resE1 rfl rfl) ⟨rfl, C790⟩
                  · skip
                    refine W.condF (congrArg Value.bool (decide_eq_false hc784)) ?_
                    refine W.skip ?_
                    refine W.seq ?_
                    refine W.seq ?_
                    refine W.region rfl ?_
                    have C792 : Ctx _ _ _ _ F [CH.row g83 0 [.int .i64 x676.at_, .int .i64 x676.last], CH.row g776 0 ((x214.getD x675.toNat []).map (Value.int .u8)), CH.row g152 0 (x677.map (Value.int .u8)), CH.row g281 0 (x679.map (Value.int .u8)), CH.row g14 0 (a4.map (Value.int .u8)), CH.row g10 0 (a3.map (Value.int .u8))] := Ctx.swap [] [CH.row g152 0 (x677.map (Value.int .u8)), CH.row g281 0 (x679.map (Value.int .u8)), CH.row g14 0 (a4.map (Value.int .u8)), CH.row g10 0 (a3.map (Value.int .u8))] C783
                    obtain ⟨⟨r794, r795⟩, hg793, hX573⟩ := bindE hX573
                    refine WL.call (args := #[.pointer (some ⟨g83, 0, none⟩)]) (Yenter.fn Tryd.func60 (by kernel_rfl) rfl (argsE (.cons ho669 .nil))) (proof_climb_right.calls k762 _ F g83 0 x676 (Ctx.pre (qs := [CH.row g83 0 [.int .i64 x676.at_, .int .i64 x676.last]]) (rest := [CH.row g776 0 ((x214.getD x675.toNat []).map (Value.int .u8)), CH.row g152 0 (x677.map (Value.int .u8)), CH.row g281 0 (x679.map (Value.int .u8)), CH.row g14 0 (a4.map (Value.int .u8)), CH.row g10 0 (a3.map (Value.int .u8))]) C792)  r794 r795 hg793) ?_
                    rintro e_ w_ ⟨rfl, C796⟩
                    refine ⟨_, rfl, ?_⟩
                    have C797 : Ctx _ _ _ _ F [CH.row g83 0 [.int .i64 r795.at_, .int .i64 r795.last], CH.row g776 0 ((x214.getD x675.toNat []).map (Value.int .u8)), CH.row g152 0 (x677.map (Value.int .u8)), CH.row g281 0 (x679.map (Value.int .u8)), CH.row g14 0 (a4.map (Value.int .u8)), CH.row g10 0 (a3.map (Value.int .u8))] := Ctx.call (qs := [CH.row g83 0 [.int .i64 x676.at_, .int .i64 x676.last]]) (rest := [CH.row g776 0 ((x214.getD x675.toNat []).map (Value.int .u8)), CH.row g152 0 (x677.map (Value.int .u8)), CH.row g281 0 (x679.map (Value.int .u8)), CH.row g14 0 (a4.map (Value.int .u8)), CH.row g10 0 (a3.map (Value.int .u8))]) C792 C796
                    refine WL.done ?_
                    rcases iteE hX573 with ⟨hc798, hX573⟩ | ⟨hc798, hX573⟩
                    · skip
                      refine W.condT (congrArg Value.bool hc798) ?_
                      refine W.seq ?_
                      refine W.regionA [([5, 6, 7], CH.row g776 0 ((x214.getD x675.toNat []).map (Value.int .u8))), ([2, 5, 6, 7], CH.row g152 0 (x677.map (Value.int .u8))), ([5, 6, 7], CH.row g281 0 (x679.map (Value.int .u8)))] (by kernel_rfl) ?_
                      have C817 := Ctx.drewN C797 1
                      refine WA.take (some 0) [2, 5, 6, 7] 0 rfl (by kernel_rfl) (by kernel_rfl) (show _ = #[true, false, false, false, false, false, false, false] from rfl) (Ctx.sub_of [CH.row g83 0 [.int .i64 r795.at_, .int .i64 r795.last]] [CH.row g152 0 (x677.map (Value.int .u8)), CH.row g281 0 (x679.map (Value.int .u8)), CH.row g14 0 (a4.map (Value.int .u8)), CH.row g10 0 (a3.map (Value.int .u8))] C817) ⟨(Ctx.sub_of [CH.row g83 0 [.int .i64 r795.at_, .int .i64 r795.last]] [CH.row g152 0 (x677.map (Value.int .u8)), CH.row g281 0 (x679.map (Value.int .u8)), CH.row g14 0 (a4.map (Value.int .u8)), CH.row g10 0 (a3.map (Value.int .u8))] C817), (Ctx.sub_of [CH.row g83 0 [.int .i64 r795.at_, .int .i64 r795.last], CH.row g776 0 ((x214.getD x675.toNat []).map (Value.int .u8))] [CH.row g281 0 (x679.map (Value.int .u8)), CH.row g14 0 (a4.map (Value.int .u8)), CH.row g10 0 (a3.map (Value.int .u8))] C817), (Ctx.sub_of [CH.row g83 0 [.int .i64 r795.at_, .int .i64 r795.last], CH.row g776 0 ((x214.getD x675.toNat []).map (Value.int .u8)), CH.row g152 0 (x677.map (Value.int .u8))] [CH.row g14 0 (a4.map (Value.int .u8)), CH.row g10 0 (a3.map (Value.int .u8))] C817), trivial⟩ (fun _ hC_ => Yl.loadVA (g := g776) (off := 0) (o := 0) (cs := (x214.getD x675.toNat []).map (Value.int .u8)) (us := (x214.getD x675.toNat []).map (Value.int .u8)) rfl Tryd.underlying33 rfl (sz_of sz33 (by first | (simp only [List.length_append, List.length_map, List.length_cons, List.length_nil, ha775]; done) | simp [ha775])) (show Sub (CH.row g776 0 ((x214.getD x675.toNat []).map (Value.int .u8))) _ from hC_) (take_all _)) ?_
                      refine WA.take (some 1) [2, 5, 6, 7] 1 rfl (by kernel_rfl) (by kernel_rfl) (show _ = #[true, true, false, false, false, false, false, false] from rfl) (Ctx.sub_of [CH.row g83 0 [.int .i64 r795.at_, .int .i64 r795.last], CH.row g776 0 ((x214.getD x675.toNat []).map (Value.int .u8))] [CH.row g281 0 (x679.map (Value.int .u8)), CH.row g14 0 (a4.map (Value.int .u8)), CH.row g10 0 (a3.map (Value.int .u8))] C817) ⟨(Ctx.sub_of [CH.row g83 0 [.int .i64 r795.at_, .int .i64 r795.last]] [CH.row g152 0 (x677.map (Value.int .u8)), CH.row g281 0 (x679.map (Value.int .u8)), CH.row g14 0 (a4.map (Value.int .u8)), CH.row g10 0 (a3.map (Value.int .u8))] C817), (Ctx.sub_of [CH.row g83 0 [.int .i64 r795.at_, .int .i64 r795.last], CH.row g776 0 ((x214.getD x675.toNat []).map (Value.int .u8))] [CH.row g281 0 (x679.map (Value.int .u8)), CH.row g14 0 (a4.map (Value.int .u8)), CH.row g10 0 (a3.map (Value.int .u8))] C817), (Ctx.sub_of [CH.row g83 0 [.int .i64 r795.at_, .int .i64 r795.last], CH.row g776 0 ((x214.getD x675.toNat []).map (Value.int .u8)), CH.row g152 0 (x677.map (Value.int .u8))] [CH.row g14 0 (a4.map (Value.int .u8)), CH.row g10 0 (a3.map (Value.int .u8))] C817), trivial⟩ (fun _ hC_ => Yl.loadVA (g := g152) (off := 0) (o := 0) (cs := x677.map (Value.int .u8)) (us := x677.map (Value.int .u8)) ho670 Tryd.underlying33 rfl (sz_of sz33 (by first | (simp only [List.length_append, List.length_map, List.length_cons, List.length_nil, ha678]; done) | simp [ha678])) (show Sub (CH.row g152 0 (x677.map (Value.int .u8))) _ from hC_) (take_all _)) ?_
                      refine WA.take (some 0) [5, 6, 7] 3 rfl (by kernel_rfl) (by kernel_rfl) (show _ = #[true, true, false, true, false, false, false, false] from rfl) (Ctx.sub_of [CH.row g83 0 [.int .i64 r795.at_, .int .i64 r795.last]] [CH.row g152 0 (x677.map (Value.int .u8)), CH.row g281 0 (x679.map (Value.int .u8)), CH.row g14 0 (a4.map (Value.int .u8)), CH.row g10 0 (a3.map (Value.int .u8))] C817) ⟨(Ctx.sub_of [CH.row g83 0 [.int .i64 r795.at_, .int .i64 r795.last]] [CH.row g152 0 (x677.map (Value.int .u8)), CH.row g281 0 (x679.map (Value.int .u8)), CH.row g14 0 (a4.map (Value.int .u8)), CH.row g10 0 (a3.map (Value.int .u8))] C817), (Ctx.sub_of [CH.row g83 0 [.int .i64 r795.at_, .int .i64 r795.last], CH.row g776 0 ((x214.getD x675.toNat []).map (Value.int .u8))] [CH.row g281 0 (x679.map (Value.int .u8)), CH.row g14 0 (a4.map (Value.int .u8)), CH.row g10 0 (a3.map (Value.int .u8))] C817), (Ctx.sub_of [CH.row g83 0 [.int .i64 r795.at_, .int .i64 r795.last], CH.row g776 0 ((x214.getD x675.toNat []).map (Value.int .u8)), CH.row g152 0 (x677.map (Value.int .u8))] [CH.row g14 0 (a4.map (Value.int .u8)), CH.row g10 0 (a3.map (Value.int .u8))] C817), trivial⟩ (fun _ hC_ => Yl.loadVA (g := g776) (off := 0) (o := 0) (cs := (x214.getD x675.toNat []).map (Value.int .u8)) (us := (x214.getD x675.toNat []).map (Value.int .u8)) rfl Tryd.underlying33 rfl (sz_of sz33 (by first | (simp only [List.length_append, List.length_map, List.length_cons, List.length_nil, ha775]; done) | simp [ha775])) (show Sub (CH.row g776 0 ((x214.getD x675.toNat []).map (Value.int .u8))) _ from hC_) (take_all _)) ?_
                      refine WA.take (some 2) [5, 6, 7] 4 rfl (by kernel_rfl) (by kernel_rfl) (show _ = #[true, true, false, true, true, false, false, false] from rfl) (Ctx.sub_of [CH.row g83 0 [.int .i64 r795.at_, .int .i64 r795.last], CH.row g776 0 ((x214.getD x675.toNat []).map (Value.int .u8)), CH.row g152 0 (x677.map (Value.int .u8))] [CH.row g14 0 (a4.map (Value.int .u8)), CH.row g10 0 (a3.map (Value.int .u8))] C817) ⟨(Ctx.sub_of [CH.row g83 0 [.int .i64 r795.at_, .int .i64 r795.last]] [CH.row g152 0 (x677.map (Value.int .u8)), CH.row g281 0 (x679.map (Value.int .u8)), CH.row g14 0 (a4.map (Value.int .u8)), CH.row g10 0 (a3.map (Value.int .u8))] C817), (Ctx.sub_of [CH.row g83 0 [.int .i64 r795.at_, .int .i64 r795.last], CH.row g776 0 ((x214.getD x675.toNat []).map (Value.int .u8))] [CH.row g281 0 (x679.map (Value.int .u8)), CH.row g14 0 (a4.map (Value.int .u8)), CH.row g10 0 (a3.map (Value.int .u8))] C817), (Ctx.sub_of [CH.row g83 0 [.int .i64 r795.at_, .int .i64 r795.last], CH.row g776 0 ((x214.getD x675.toNat []).map (Value.int .u8)), CH.row g152 0 (x677.map (Value.int .u8))] [CH.row g14 0 (a4.map (Value.int .u8)), CH.row g10 0 (a3.map (Value.int .u8))] C817), trivial⟩ (fun _ hC_ => Yl.loadVA (g := g281) (off := 0) (o := 0) (cs := x679.map (Value.int .u8)) (us := x679.map (Value.int .u8)) ho671 Tryd.underlying33 rfl (sz_of sz33 (by first | (simp only [List.length_append, List.length_map, List.length_cons, List.length_nil, ha680]; done) | simp [ha680])) (show Sub (CH.row g281 0 (x679.map (Value.int .u8))) _ from hC_) (take_all _)) ?_
                      obtain ⟨r819, hg818, hX573⟩ := bindE hX573
                      refine WA.up1 2 (by kernel_rfl) (Up.call (args := #[.agg (List.toArray ((x214.getD x675.toNat []).map (Value.int .u8))), .agg (List.toArray (x677.map (Value.int .u8)))]) rfl (by kernel_rfl) (show _ = #[true, true, true, true, true, false, false, false] from rfl) (Yenter.fn Tryd.func25 (by kernel_rfl) rfl (argsE (.cons rfl (.cons rfl .nil)))) (proof_Node.calls k762 _ F (x214.getD x675.toNat []) x677 (Ctx.pre (qs := []) (rest := [CH.row g83 0 [.int .i64 r795.at_, .int .i64 r795.last], CH.row g776 0 ((x214.getD x675.toNat []).map (Value.int .u8)), CH.row g152 0 (x677.map (Value.int .u8)), CH.row g281 0 (x679.map (Value.int .u8)), CH.row g14 0 (a4.map (Value.int .u8)), CH.row g10 0 (a3.map (Value.int .u8))]) C817) ha775 ha678 (CH.le_trans hG1 (CH.le_trans (CH.le_refl _) (CH.le_refl _))) (CH.le_trans hG3 (CH.le_trans (CH.le_refl _) (CH.le_refl _))) r819 hg818) ?_)
                      rintro e_ w_ ⟨rfl, C821, ha820⟩
                      have C822 : Ctx _ _ _ _ F [CH.row g83 0 [.int .i64 r795.at_, .int .i64 r795.last], CH.row g776 0 ((x214.getD x675.toNat []).map (Value.int .u8)), CH.row g152 0 (x677.map (Value.int .u8)), CH.row g281 0 (x679.map (Value.int .u8)), CH.row g14 0 (a4.map (Value.int .u8)), CH.row g10 0 (a3.map (Value.int .u8))] := Ctx.call (qs := []) (rest := [CH.row g83 0 [.int .i64 r795.at_, .int .i64 r795.last], CH.row g776 0 ((x214.getD x675.toNat []).map (Value.int .u8)), CH.row g152 0 (x677.map (Value.int .u8)), CH.row g281 0 (x679.map (Value.int .u8)), CH.row g14 0 (a4.map (Value.int .u8)), CH.row g10 0 (a3.map (Value.int .u8))]) C817 C821
                      refine ⟨_, rfl, ⟨(Ctx.sub_of [CH.row g83 0 [.int .i64 r795.at_, .int .i64 r795.last]] [CH.row g152 0 (x677.map (Value.int .u8)), CH.row g281 0 (x679.map (Value.int .u8)), CH.row g14 0 (a4.map (Value.int .u8)), CH.row g10 0 (a3.map (Value.int .u8))] C822), trivial, (Ctx.sub_of [CH.row g83 0 [.int .i64 r795.at_, .int .i64 r795.last], CH.row g776 0 ((x214.getD x675.toNat []).map (Value.int .u8)), CH.row g152 0 (x677.map (Value.int .u8))] [CH.row g14 0 (a4.map (Value.int .u8)), CH.row g10 0 (a3.map (Value.int .u8))] C822), trivial⟩, ?_⟩
                      obtain ⟨r824, hg823, hX573⟩ := bindE hX573
                      refine WA.up1 5 (by kernel_rfl) (Up.call (args := #[.agg (List.toArray ((x214.getD x675.toNat []).map (Value.int .u8))), .agg (List.toArray (x679.map (Value.int .u8)))]) rfl (by kernel_rfl) (show _ = #[true, true, true, true, true, true, false, false] from rfl) (Yenter.fn Tryd.func25 (by kernel_rfl) rfl (argsE (.cons rfl (.cons rfl .nil)))) (proof_Node.calls k762 _ F (x214.getD x675.toNat []) x679 (Ctx.pre (qs := []) (rest := [CH.row g83 0 [.int .i64 r795.at_, .int .i64 r795.last], CH.row g776 0 ((x214.getD x675.toNat []).map (Value.int .u8)), CH.row g152 0 (x677.map (Value.int .u8)), CH.row g281 0 (x679.map (Value.int .u8)), CH.row g14 0 (a4.map (Value.int .u8)), CH.row g10 0 (a3.map (Value.int .u8))]) C822) ha775 ha680 (CH.le_trans hG1 (CH.le_trans (CH.le_refl _) (CH.le_refl _))) (CH.le_trans hG3 (CH.le_trans (CH.le_refl _) (CH.le_refl _))) r824 hg823) ?_)
                      rintro e_ w_ ⟨rfl, C826, ha825⟩
                      have C827 : Ctx _ _ _ _ F [CH.row g83 0 [.int .i64 r795.at_, .int .i64 r795.last], CH.row g776 0 ((x214.getD x675.toNat []).map (Value.int .u8)), CH.row g152 0 (x677.map (Value.int .u8)), CH.row g281 0 (x679.map (Value.int .u8)), CH.row g14 0 (a4.map (Value.int .u8)), CH.row g10 0 (a3.map (Value.int .u8))] := Ctx.call (qs := []) (rest := [CH.row g83 0 [.int .i64 r795.at_, .int .i64 r795.last], CH.row g776 0 ((x214.getD x675.toNat []).map (Value.int .u8)), CH.row g152 0 (x677.map (Value.int .u8)), CH.row g281 0 (x679.map (Value.int .u8)), CH.row g14 0 (a4.map (Value.int .u8)), CH.row g10 0 (a3.map (Value.int .u8))]) C822 C826
                      refine ⟨_, rfl, ⟨trivial, trivial, trivial, trivial⟩, ?_⟩
                      obtain ⟨w828, hy829, C830⟩ := ev_set (P := Tryd.prog) (ps1 := [CH.row g83 0 [.int .i64 r795.at_, .int .i64 r795.last], CH.row g776 0 ((x214.getD x675.toNat []).map (Value.int .u8))]) (ps2 := [CH.row g281 0 (x679.map (Value.int .u8)), CH.row g14 0 (a4.map (Value.int .u8)), CH.row g10 0 (a3.map (Value.int .u8))]) (t := 33) (o := 0) (x677.map (Value.int .u8)) [] (x677.map (Value.int .u8)) [] (r819.map (Value.int .u8)) (.agg (List.toArray (r819.map (Value.int .u8)))) C827 (by first | (simp only [List.length_append, List.length_map, List.length_cons, List.length_nil, ha678, ha820]; done) | simp [ha678, ha820]) (by first | (simp only [List.length_append, List.length_map, List.length_cons, List.length_nil, ha678, ha820]; done) | simp [ha678, ha820]) (by first | (simp only [List.length_append, List.length_map, List.length_cons, List.length_nil, ha678, ha820]; done) | simp [ha678, ha820]) rfl (one_ints _ _) (sz_of sz33 (by first | (simp only [List.length_append, List.length_map, List.length_cons, List.length_nil, ha820]; done) | simp [ha820]))
                      have C831 : Ctx _ _ _ _ F [CH.row g83 0 [.int .i64 r795.at_, .int .i64 r795.last], CH.row g776 0 ((x214.getD x675.toNat []).map (Value.int .u8)), CH.row g152 0 (r819.map (Value.int .u8)), CH.row g281 0 (x679.map (Value.int .u8)), CH.row g14 0 (a4.map (Value.int .u8)), CH.row g10 0 (a3.map (Value.int .u8))] := (by simpa using C830)
                      refine WA.up1 6 (by kernel_rfl) (Up.skip rfl (show _ = #[true, true, true, true, true, true, true, false] from rfl) (hy829 _ _ _ _ ho670 rfl) ⟨trivial, trivial, trivial, trivial⟩ ?_)
                      obtain ⟨w832, hy833, C834⟩ := ev_set (P := Tryd.prog) (ps1 := [CH.row g83 0 [.int .i64 r795.at_, .int .i64 r795.last], CH.row g776 0 ((x214.getD x675.toNat []).map (Value.int .u8)), CH.row g152 0 (r819.map (Value.int .u8))]) (ps2 := [CH.row g14 0 (a4.map (Value.int .u8)), CH.row g10 0 (a3.map (Value.int .u8))]) (t := 33) (o := 0) (x679.map (Value.int .u8)) [] (x679.map (Value.int .u8)) [] (r824.map (Value.int .u8)) (.agg (List.toArray (r824.map (Value.int .u8)))) C831 (by first | (simp only [List.length_append, List.length_map, List.length_cons, List.length_nil, ha680, ha825]; done) | simp [ha680, ha825]) (by first | (simp only [List.length_append, List.length_map, List.length_cons, List.length_nil, ha680, ha825]; done) | simp [ha680, ha825]) (by first | (simp only [List.length_append, List.length_map, List.length_cons, List.length_nil, ha680, ha825]; done) | simp [ha680, ha825]) rfl (one_ints _ _) (sz_of sz33 (by first | (simp only [List.length_append, List.length_map, List.length_cons, List.length_nil, ha825]; done) | simp [ha825]))
                      have C835 : Ctx _ _ _ _ F [CH.row g83 0 [.int .i64 r795.at_, .int .i64 r795.last], CH.row g776 0 ((x214.getD x675.toNat []).map (Value.int .u8)), CH.row g152 0 (r819.map (Value.int .u8)), CH.row g281 0 (r824.map (Value.int .u8)), CH.row g14 0 (a4.map (Value.int .u8)), CH.row g10 0 (a3.map (Value.int .u8))] := (by simpa using C834)
                      refine WA.up1 7 (by kernel_rfl) (Up.skip rfl (show _ = #[true, true, true, true, true, true, true, true] from rfl) (hy833 _ _ _ _ ho671 rfl) ⟨trivial, trivial, trivial, trivial⟩ ?_)
                      refine WA.done (by kernel_rfl) ?_
                      refine W.seq ?_
                      refine W.region rfl ?_
                      obtain ⟨r837, hg836, hX573⟩ := bindE hX573
                      refine WL.call (args := #[.pointer (some ⟨g83, 0, none⟩)]) (Yenter.fn Tryd.func61 (by kernel_rfl) rfl (argsE (.cons ho669 .nil))) (proof_climb_up.calls k762 _ F g83 0 r795 (Ctx.pre (qs := [CH.row g83 0 [.int .i64 r795.at_, .int .i64 r795.last]]) (rest := [CH.row g776 0 ((x214.getD x675.toNat []).map (Value.int .u8)), CH.row g152 0 (r819.map (Value.int .u8)), CH.row g281 0 (r824.map (Value.int .u8)), CH.row g14 0 (a4.map (Value.int .u8)), CH.row g10 0 (a3.map (Value.int .u8))]) C835)  r837 hg836) ?_
                      rintro e_ w_ ⟨rfl, C838⟩
                      refine ⟨_, rfl, ?_⟩
                      have C839 : Ctx _ _ _ _ F [CH.row g83 0 [.int .i64 r837.at_, .int .i64 r837.last], CH.row g776 0 ((x214.getD x675.toNat []).map (Value.int .u8)), CH.row g152 0 (r819.map (Value.int .u8)), CH.row g281 0 (r824.map (Value.int .u8)), CH.row g14 0 (a4.map (Value.int .u8)), CH.row g10 0 (a3.map (Value.int .u8))] := Ctx.call (qs := [CH.row g83 0 [.int .i64 r795.at_, .int .i64 r795.last]]) (rest := [CH.row g776 0 ((x214.getD x675.toNat []).map (Value.int .u8)), CH.row g152 0 (r819.map (Value.int .u8)), CH.row g281 0 (r824.map (Value.int .u8)), CH.row g14 0 (a4.map (Value.int .u8)), CH.row g10 0 (a3.map (Value.int .u8))]) C835 C838
                      refine WL.done ?_
                      refine W.exit ?_
                      refine thenE_x ?_
                      refine inB_here ?_
                      refine W.region rfl ?_
                      refine WL.val (Yl.add (m := x675) (n := 1) (r := wi64 (x675 + 1)) ho674 rfl rfl) ?_
                      refine WL.val (Yl.move (v := .int .i64 (wi64 (x675 + 1))) rfl) ?_
                      refine WL.done ?_
                      have C840 : Ctx _ _ _ _ F [CH.row g83 0 [.int .i64 r837.at_, .int .i64 r837.last], CH.row g152 0 (r819.map (Value.int .u8)), CH.row g281 0 (r824.map (Value.int .u8)), CH.row g14 0 (a4.map (Value.int .u8)), CH.row g10 0 (a3.map (Value.int .u8))] := Ctx.drop [CH.row g83 0 [.int .i64 r837.at_, .int .i64 r837.last]] [CH.row g152 0 (r819.map (Value.int .u8)), CH.row g281 0 (r824.map (Value.int .u8)), CH.row g14 0 (a4.map (Value.int .u8)), CH.row g10 0 (a3.map (Value.int .u8))] C839
                      exact thenE_n ⟨k762, Nat.lt_succ_self _, wi64 (x675 + 1), r837, r819, r824, ho667, ho668, ho669, ho670, ho671, ho672, ho673, rfl, C840, ha820, ha825, hX573⟩
                    · skip
                      refine W.condF (congrArg Value.bool (Bool.eq_false_iff.2 hc798)) ?_
                      refine W.skip ?_
                      refine W.seq ?_
                      refine W.region rfl ?_
                      refine WL.val (Yl.loadVA (g := g281) (off := 0) (o := 0) (cs := x679.map (Value.int .u8)) (us := x679.map (Value.int .u8)) ho671 Tryd.underlying33 rfl (sz_of sz33 (by first | (simp only [List.length_append, List.length_map, List.length_cons, List.length_nil, ha680]; done) | simp [ha680])) (Ctx.sub_of [CH.row g83 0 [.int .i64 r795.at_, .int .i64 r795.last], CH.row g776 0 ((x214.getD x675.toNat []).map (Value.int .u8)), CH.row g152 0 (x677.map (Value.int .u8))] [CH.row g14 0 (a4.map (Value.int .u8)), CH.row g10 0 (a3.map (Value.int .u8))] C797) (take_all _)) ?_
                      refine WL.val (Yl.loadVA (g := g776) (off := 0) (o := 0) (cs := (x214.getD x675.toNat []).map (Value.int .u8)) (us := (x214.getD x675.toNat []).map (Value.int .u8)) rfl Tryd.underlying33 rfl (sz_of sz33 (by first | (simp only [List.length_append, List.length_map, List.length_cons, List.length_nil, ha775]; done) | simp [ha775])) (Ctx.sub_of [CH.row g83 0 [.int .i64 r795.at_, .int .i64 r795.last]] [CH.row g152 0 (x677.map (Value.int .u8)), CH.row g281 0 (x679.map (Value.int .u8)), CH.row g14 0 (a4.map (Value.int .u8)), CH.row g10 0 (a3.map (Value.int .u8))] C797) (take_all _)) ?_
                      obtain ⟨r842, hg841, hX573⟩ := bindE hX573
                      refine WL.call (args := #[.agg (List.toArray (x679.map (Value.int .u8))), .agg (List.toArray ((x214.getD x675.toNat []).map (Value.int .u8)))]) (Yenter.fn Tryd.func25 (by kernel_rfl) rfl (argsE (.cons rfl (.cons rfl .nil)))) (proof_Node.calls k762 _ F x679 (x214.getD x675.toNat []) (Ctx.pre (qs := []) (rest := [CH.row g83 0 [.int .i64 r795.at_, .int .i64 r795.last], CH.row g776 0 ((x214.getD x675.toNat []).map (Value.int .u8)), CH.row g152 0 (x677.map (Value.int .u8)), CH.row g281 0 (x679.map (Value.int .u8)), CH.row g14 0 (a4.map (Value.int .u8)), CH.row g10 0 (a3.map (Value.int .u8))]) C797) ha680 ha775 (CH.le_trans hG1 (CH.le_trans (CH.le_refl _) (CH.le_refl _))) (CH.le_trans hG3 (CH.le_trans (CH.le_refl _) (CH.le_refl _))) r842 hg841) ?_
                      rintro e_ w_ ⟨rfl, C844, ha843⟩
                      refine ⟨_, rfl, ?_⟩
                      have C845 : Ctx _ _ _ _ F [CH.row g83 0 [.int .i64 r795.at_, .int .i64 r795.last], CH.row g776 0 ((x214.getD x675.toNat []).map (Value.int .u8)), CH.row g152 0 (x677.map (Value.int .u8)), CH.row g281 0 (x679.map (Value.int .u8)), CH.row g14 0 (a4.map (Value.int .u8)), CH.row g10 0 (a3.map (Value.int .u8))] := Ctx.call (qs := []) (rest := [CH.row g83 0 [.int .i64 r795.at_, .int .i64 r795.last], CH.row g776 0 ((x214.getD x675.toNat []).map (Value.int .u8)), CH.row g152 0 (x677.map (Value.int .u8)), CH.row g281 0 (x679.map (Value.int .u8)), CH.row g14 0 (a4.map (Value.int .u8)), CH.row g10 0 (a3.map (Value.int .u8))]) C797 C844
                      obtain ⟨w846, hy847, C848⟩ := ev_set (P := Tryd.prog) (ps1 := [CH.row g83 0 [.int .i64 r795.at_, .int .i64 r795.last], CH.row g776 0 ((x214.getD x675.toNat []).map (Value.int .u8)), CH.row g152 0 (x677.map (Value.int .u8))]) (ps2 := [CH.row g14 0 (a4.map (Value.int .u8)), CH.row g10 0 (a3.map (Value.int .u8))]) (t := 33) (o := 0) (x679.map (Value.int .u8)) [] (x679.map (Value.int .u8)) [] (r842.map (Value.int .u8)) (.agg (List.toArray (r842.map (Value.int .u8)))) C845 (by first | (simp only [List.length_append, List.length_map, List.length_cons, List.length_nil, ha680, ha843]; done) | simp [ha680, ha843]) (by first | (simp only [List.length_append, List.length_map, List.length_cons, List.length_nil, ha680, ha843]; done) | simp [ha680, ha843]) (by first | (simp only [List.length_append, List.length_map, List.length_cons, List.length_nil, ha680, ha843]; done) | simp [ha680, ha843]) rfl (one_ints _ _) (sz_of sz33 (by first | (simp only [List.length_append, List.length_map, List.length_cons, List.length_nil, ha843]; done) | simp [ha843]))
                      have C849 : Ctx _ _ _ _ F [CH.row g83 0 [.int .i64 r795.at_, .int .i64 r795.last], CH.row g776 0 ((x214.getD x675.toNat []).map (Value.int .u8)), CH.row g152 0 (x677.map (Value.int .u8)), CH.row g281 0 (r842.map (Value.int .u8)), CH.row g14 0 (a4.map (Value.int .u8)), CH.row g10 0 (a3.map (Value.int .u8))] := (by simpa using C848)
                      refine WL.skip (hy847 _ _ _ _ ho671 rfl) ?_
                      refine WL.done ?_
                      refine W.region rfl ?_
                      obtain ⟨r851, hg850, hX573⟩ := bindE hX573
                      refine WL.call (args := #[.pointer (some ⟨g83, 0, none⟩)]) (Yenter.fn Tryd.func61 (by kernel_rfl) rfl (argsE (.cons ho669 .nil))) (proof_climb_up.calls k762 _ F g83 0 r795 (Ctx.pre (qs := [CH.row g83 0 [.int .i64 r795.at_, .int .i64 r795.last]]) (rest := [CH.row g776 0 ((x214.getD x675.toNat []).map (Value.int .u8)), CH.row g152 0 (x677.map (Value.int .u8)), CH.row g281 0 (r842.map (Value.int .u8)), CH.row g14 0 (a4.map (Value.int .u8)), CH.row g10 0 (a3.map (Value.int .u8))]) C849)  r851 hg850) ?_
                      rintro e_ w_ ⟨rfl, C852⟩
                      refine ⟨_, rfl, ?_⟩
                      have C853 : Ctx _ _ _ _ F [CH.row g83 0 [.int .i64 r851.at_, .int .i64 r851.last], CH.row g776 0 ((x214.getD x675.toNat []).map (Value.int .u8)), CH.row g152 0 (x677.map (Value.int .u8)), CH.row g281 0 (r842.map (Value.int .u8)), CH.row g14 0 (a4.map (Value.int .u8)), CH.row g10 0 (a3.map (Value.int .u8))] := Ctx.call (qs := [CH.row g83 0 [.int .i64 r795.at_, .int .i64 r795.last]]) (rest := [CH.row g776 0 ((x214.getD x675.toNat []).map (Value.int .u8)), CH.row g152 0 (x677.map (Value.int .u8)), CH.row g281 0 (r842.map (Value.int .u8)), CH.row g14 0 (a4.map (Value.int .u8)), CH.row g10 0 (a3.map (Value.int .u8))]) C849 C852
                      refine WL.done ?_
                      refine inB_n ?_
                      refine W.region rfl ?_
                      refine WL.val (Yl.add (m := x675) (n := 1) (r := wi64 (x675 + 1)) ho674 rfl rfl) ?_
                      refine WL.val (Yl.move (v := .int .i64 (wi64 (x675 + 1))) rfl) ?_
                      refine WL.done ?_
                      have C854 : Ctx _ _ _ _ F [CH.row g83 0 [.int .i64 r851.at_, .int .i64 r851.last], CH.row g152 0 (x677.map (Value.int .u8)), CH.row g281 0 (r842.map (Value.int .u8)), CH.row g14 0 (a4.map (Value.int .u8)), CH.row g10 0 (a3.map (Value.int .u8))] := Ctx.drop [CH.row g83 0 [.int .i64 r851.at_, .int .i64 r851.last]] [CH.row g152 0 (x677.map (Value.int .u8)), CH.row g281 0 (r842.map (Value.int .u8)), CH.row g14 0 (a4.map (Value.int .u8)), CH.row g10 0 (a3.map (Value.int .u8))] C853
                      exact thenE_n ⟨k762, Nat.lt_succ_self _, wi64 (x675 + 1), r851, x677, r842, ho667, ho668, ho669, ho670, ho671, ho672, ho673, rfl, C854, ha678, ha843, hX573⟩
                · skip
                  refine W.condF (congrArg Value.bool (decide_eq_false hc766)) ?_
                  refine W.exit ?_
                  refine thenE_x ?_
                  refine thenE_x ?_
                  refine inB_here ?_
                  cases hX573
                  refine thenE_n ?_
                  exact ⟨x676, x677, x679, ho667, ho668, ho669, ho670, ho671, C681, ha678, ha680, rfl⟩
              · skip
                rintro env_ w_ ⟨x567, x568, x570, ho562, ho563, ho564, ho565, ho566, C572, ha569, ha571, rfl⟩
                replace H := sumE_l H
                refine W.seq ?_
                refine W.region rfl ?_
                refine WL.val (Yl.fieldAddr (i := 1) ho564 Tryd.underlying90 rfl sz3) ?_
                refine WL.val (Yl.loadV (g := g83) (off := 0) (o := 1) (cs := [.int .i64 x567.at_, .int .i64 x567.last]) (v := .int .i64 x567.last) rfl Tryd.underlying3 rfl (Ctx.sub_of [] [CH.row g152 0 (x568.map (Value.int .u8)), CH.row g281 0 (x570.map (Value.int .u8)), CH.row g14 0 (a4.map (Value.int .u8)), CH.row g10 0 (a3.map (Value.int .u8))] C572) rfl) ?_
                refine WL.val (Yl.eql (m := x567.last) (n := 0) (q := decide (x567.last = 0)) rfl rfl rfl) ?_
                refine WL.val (Yl.move (v := .bool (decide (x567.last = 0))) rfl) ?_
                obtain ⟨g855, HE856, H⟩ := bindE H
                refine WL.cut (fun env_ w_ => env_ 10 = .bool g855 ∧ Ctx w F D w_ F [CH.row g83 0 [.int .i64 x567.at_, .int .i64 x567.last], CH.row g152 0 (x568.map (Value.int .u8)), CH.row g281 0 (x570.map (Value.int .u8)), CH.row g14 0 (a4.map (Value.int .u8)), CH.row g10 0 (a3.map (Value.int .u8))]) ?_ ?_
                · skip
                  rcases iteE HE856 with ⟨hc857, HE856⟩ | ⟨hc857, HE856⟩
                  · skip
                    refine WL.on rfl (congrArg Value.bool (decide_eq_true hc857)) ?_
                    refine WL.val (Yl.loadVA (g := g152) (off := 0) (o := 0) (cs := x568.map (Value.int .u8)) (us := x568.map (Value.int .u8)) ho565 Tryd.underlying33 rfl (sz_of sz33 (by first | (simp only [List.length_append, List.length_map, List.length_cons, List.length_nil, ha569]; done) | simp [ha569])) (Ctx.sub_of [CH.row g83 0 [.int .i64 x567.at_, .int .i64 x567.last]] [CH.row g281 0 (x570.map (Value.int .u8)), CH.row g14 0 (a4.map (Value.int .u8)), CH.row g10 0 (a3.map (Value.int .u8))] C572) (take_all _)) ?_
                    refine WL.on rfl (congrArg Value.bool (decide_eq_true hc857)) ?_
                    refine WL.val (Yl.loadVA (g := g10) (off := 0) (o := 0) (cs := a3.map (Value.int .u8)) (us := a3.map (Value.int .u8)) ho562 Tryd.underlying33 rfl (sz_of sz33 (by first | (simp only [List.length_append, List.length_map, List.length_cons, List.length_nil, ha8]; done) | simp [ha8])) (Ctx.sub_of [CH.row g83 0 [.int .i64 x567.at_, .int .i64 x567.last], CH.row g152 0 (x568.map (Value.int .u8)), CH.row g281 0 (x570.map (Value.int .u8)), CH.row g14 0 (a4.map (Value.int .u8))] [] C572) (take_all _)) ?_
                    refine WL.on rfl (congrArg Value.bool (decide_eq_true hc857)) ?_
                    refine WL.val (Yl.aeql (n := 2) (xs := x568.map (Value.int .u8)) (ys := a3.map (Value.int .u8)) rfl rfl eg33 (EqV.arrI Tryd.underlying33 Tryd.underlying5 sz5 ha569 ha8) (by decide)) ?_
                    refine WL.val (Yl.pickT (v := .bool (decide (x568 = a3))) (congrArg Value.bool (decide_eq_true hc857)) rfl) ?_
                    refine WL.val (Yl.move (v := .bool (decide (x568 = a3))) rfl) ?_
                    rcases iteE HE856 with ⟨hc858, HE856⟩ | ⟨hc858, HE856⟩
                    · skip
                      refine WL.on rfl (congrArg Value.bool (decide_eq_true hc858)) ?_
                      refine WL.val (Yl.loadVA (g := g281) (off := 0) (o := 0) (cs := x570.map (Value.int .u8)) (us := x570.map (Value.int .u8)) ho566 Tryd.underlying33 rfl (sz_of sz33 (by first | (simp only [List.length_append, List.length_map, List.length_cons, List.length_nil, ha571]; done) | simp [ha571])) (Ctx.sub_of [CH.row g83 0 [.int .i64 x567.at_, .int .i64 x567.last], CH.row g152 0 (x568.map (Value.int .u8))] [CH.row g14 0 (a4.map (Value.int .u8)), CH.row g10 0 (a3.map (Value.int .u8))] C572) (take_all _)) ?_
                      refine WL.on rfl (congrArg Value.bool (decide_eq_true hc858)) ?_
                      refine WL.val (Yl.loadVA (g := g14) (off := 0) (o := 0) (cs := a4.map (Value.int .u8)) (us := a4.map (Value.int .u8)) ho563 Tryd.underlying33 rfl (sz_of sz33 (by first | (simp only [List.length_append, List.length_map, List.length_cons, List.length_nil, ha9]; done) | simp [ha9])) (Ctx.sub_of [CH.row g83 0 [.int .i64 x567.at_, .int .i64 x567.last], CH.row g152 0 (x568.map (Value.int .u8)), CH.row g281 0 (x570.map (Value.int .u8))] [CH.row g10 0 (a3.map (Value.int .u8))] C572) (take_all _)) ?_
                      refine WL.on rfl (congrArg Value.bool (decide_eq_true hc858)) ?_
                      refine WL.val (Yl.aeql (n := 2) (xs := x570.map (Value.int .u8)) (ys := a4.map (Value.int .u8)) rfl rfl eg33 (EqV.arrI Tryd.underlying33 Tryd.underlying5 sz5 ha571 ha9) (by decide)) ?_
                      refine WL.val (Yl.pickT (v := .bool (decide (x570 = a4))) (congrArg Value.bool (decide_eq_true hc858)) rfl) ?_
                      refine WL.val (Yl.assign (v := .bool (decide (x570 = a4))) rfl) ?_
                      cases HE856
                      exact WL.done ⟨rfl, C572⟩
                    · skip
                      refine WL.off rfl (congrArg Value.bool (decide_eq_false hc858)) ?_
                      refine WL.off rfl (congrArg Value.bool (decide_eq_false hc858)) ?_
                      refine WL.off rfl (congrArg Value.bool (decide_eq_false hc858)) ?_
                      refine WL.val (Yl.pickF (v := .bool false) (congrArg Value.bool (decide_eq_false hc858)) rfl) ?_
                      refine WL.val (Yl.assign (v := .bool false) rfl) ?_
                      cases HE856
                      exact WL.done ⟨rfl, C572⟩
                  · skip
                    refine WL.off rfl (congrArg Value.bool (decide_eq_false hc857)) ?_
                    refine WL.off rfl (congrArg Value.bool (decide_eq_false hc857)) ?_
                    refine WL.off rfl (congrArg Value.bool (decide_eq_false hc857)) ?_
                    refine WL.val (Yl.pickF (v := .bool false) (congrArg Value.bool (decide_eq_false hc857)) rfl) ?_
                    refine WL.val (Yl.move (v := .bool false) rfl) ?_
                    refine WL.off rfl rfl ?_
                    refine WL.off rfl rfl ?_
                    refine WL.off rfl rfl ?_
                    refine WL.val (Yl.pickF (v := .bool false) rfl rfl) ?_
                    refine WL.val (Yl.assign (v := .bool false) rfl) ?_
                    cases HE856
                    exact WL.done ⟨rfl, C572⟩
                · skip
                  rintro env_ w_ ⟨ho859, C860⟩
                  refine W.ret ?_
                  refine noG_r ?_
                  have C861 : Ctx _ _ _ _ F [CH.row g152 0 (x568.map (Value.int .u8)), CH.row g281 0 (x570.map (Value.int .u8)), CH.row g14 0 (a4.map (Value.int .u8)), CH.row g10 0 (a3.map (Value.int .u8))] := Ctx.drop [] [CH.row g152 0 (x568.map (Value.int .u8)), CH.row g281 0 (x570.map (Value.int .u8)), CH.row g14 0 (a4.map (Value.int .u8)), CH.row g10 0 (a3.map (Value.int .u8))] C860
                  have C862 : Ctx _ _ _ _ F [CH.row g281 0 (x570.map (Value.int .u8)), CH.row g14 0 (a4.map (Value.int .u8)), CH.row g10 0 (a3.map (Value.int .u8))] := Ctx.drop [] [CH.row g281 0 (x570.map (Value.int .u8)), CH.row g14 0 (a4.map (Value.int .u8)), CH.row g10 0 (a3.map (Value.int .u8))] C861
                  have C863 : Ctx _ _ _ _ F [CH.row g14 0 (a4.map (Value.int .u8)), CH.row g10 0 (a3.map (Value.int .u8))] := Ctx.drop [] [CH.row g14 0 (a4.map (Value.int .u8)), CH.row g10 0 (a3.map (Value.int .u8))] C862
                  have C864 : Ctx _ _ _ _ F [CH.row g10 0 (a3.map (Value.int .u8))] := Ctx.drop [] [CH.row g10 0 (a3.map (Value.int .u8))] C863
                  have C865 : Ctx _ _ _ _ F [] := Ctx.drop [] [] C864
                  have e866 := Option.some.inj H
                  subst e866
                  exact post_r (resE1 rfl ho859) ⟨rfl, C865⟩
end Go.Proofs.YthdlfclkcdnenaaDoor
