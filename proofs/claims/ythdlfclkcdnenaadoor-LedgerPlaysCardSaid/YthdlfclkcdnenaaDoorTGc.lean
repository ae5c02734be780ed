/- Functions of the program: each as a plain function of numbers and lists, and the proof that the program's own comes to it. Nothing is assumed but what each theorem says. -/
import Derived.Test.YthdlfclkcdnenaaDoorTGj
namespace Go.Proofs.YthdlfclkcdnenaaDoor
open Go.RowKit Go.WG
set_option linter.unusedVariables false
set_option linter.unusedSimpArgs false
def proof_tagged.l1 : Nat → List (List Int) → Int → THash → Option THash
  | 0, _, _, _ => none
  | k + 1, a1, x206, x207 => if x206 < (a1.length : Int) then (if 0 ≤ x206 ∧ x206 < (a1.length : Int) then ((sha_Hash_Write.f k x207 (a1.getD x206.toNat [])).bind fun r261 => proof_tagged.l1 k a1 (wi64 (x206 + 1)) r261) else none) else (some x207)
def proof_tagged.f (k : Nat) (a0 : Int) (a1 : List (List Int)) : Option (List Int) := (sha_New.f k ).bind fun r13 => (sha_Hash_Write.f k r13 [a0]).bind fun r40 => (proof_tagged.l1 k a1 0 r40).bind fun x157 => (sha_Hash_Sum.f k x157).bind fun r278 => some r278
set_option maxRecDepth 100000 in
set_option maxHeartbeats 4000000 in
theorem proof_tagged.calls (k : Nat) (w : World) (F : CH) (a0 : Int) (A1 : Option Addr) (c2 : Nat) (n3 : Nat) (a1 : List (List Int)) (hp : Pre w F []) (hn4 : n3 = a1.length) (hl5 : a1.length ≤ c2) (hm6 : c2 ≤ maxLen) (hS7 : Sl (Kd.slice (Kd.int .u8)) F F A1 a1) (hG1 : CH.le (CH.row 1 0 (glob1.map (Value.int .u32))) F) (hG3 : CH.le (CH.row 3 0 (glob3.map (Value.int .u32))) F) (r0_ : List Int) (H : proof_tagged.f k a0 a1 = some r0_) :
    Calls Tryd.prog 53 #[.int .u8 a0, .slice A1 n3 c2] w fun e w' => e = .returned (.agg (List.toArray (r0_.map (Value.int .u8)))) ∧ Ctx w F (domL []) w' F [] ∧ r0_.length = 32 := by
  have C := Ctx.start hp
  generalize hD : domL [] = D at C ⊢
  unfold proof_tagged.f at H
  refine Calls.ofW Tryd.func53 rfl (by simp [Tryd.ntmps53]) ?_
  refine W.seq ?_
  refine W.region rfl ?_
  obtain ⟨g8, w9, hy10, C11⟩ := ev_alloc (P := Tryd.prog) (e := 33) ((List.replicate 32 (0 : Int)).map (Value.int .u8)) C zr33 rfl
  refine WL.val (hy10 _ _) ?_
  refine WL.done ?_
  refine W.seq ?_
  refine W.region rfl ?_
  obtain ⟨r13, hg12, H⟩ := bindE H
  refine WL.call (args := #[]) (Yenter.fn Tryd.func65 (by kernel_rfl) rfl (argsE .nil)) (sha_New.calls k _ F  (Ctx.pre (qs := []) (rest := [CH.row g8 0 ((List.replicate 32 (0 : Int)).map (Value.int .u8))]) C11) (CH.le_trans hG1 (CH.le_trans (CH.le_refl _) (CH.le_refl _))) r13 hg12) ?_
  rintro e_ w_ ⟨g14, o15, A17, c18, n19, p21, rfl, C23, ha16, hn20, hR22⟩
  refine ⟨_, rfl, ?_⟩
  have C24 : Ctx _ _ _ _ F [CH.row g14 o15 (r13.words.map (Value.int .u32) ++ [.slice A17 n19 c18, .int .i64 r13.n]), p21, CH.row g8 0 ((List.replicate 32 (0 : Int)).map (Value.int .u8))] := Ctx.call (qs := []) (rest := [CH.row g8 0 ((List.replicate 32 (0 : Int)).map (Value.int .u8))]) C11 C23
  refine WL.val (Yl.assign (v := .pointer (some ⟨g14, o15, none⟩)) rfl) ?_
  refine WL.done ?_
  refine W.seq ?_
  refine W.region rfl ?_
  refine WL.val (Yl.move (v := .pointer (some ⟨g14, o15, none⟩)) rfl) ?_
  refine WL.val (Yl.move (v := .int .u8 a0) rfl) ?_
  obtain ⟨A25, c26, n27, p28, w29, hn30, hy31, C32, hR33⟩ := ev_lit1' (P := Tryd.prog) 5 (Kd.int .u8) C24 Tryd.underlying28 ti5 ⟨by decide, by decide⟩ a0 (.int .u8 a0) rfl
  refine WL.val (hy31 _ _ _ rfl) ?_
  have C34 : Ctx _ _ _ _ F [CH.row g14 o15 (r13.words.map (Value.int .u32) ++ [.slice A17 n19 c18, .int .i64 r13.n]), p28, p21, CH.row g8 0 ((List.replicate 32 (0 : Int)).map (Value.int .u8))] := Ctx.swap [] [p21, CH.row g8 0 ((List.replicate 32 (0 : Int)).map (Value.int .u8))] C32
  have C35 : Ctx _ _ _ _ F [CH.row g14 o15 (r13.words.map (Value.int .u32) ++ [.slice A17 n19 c18, .int .i64 r13.n]), p21, p28, CH.row g8 0 ((List.replicate 32 (0 : Int)).map (Value.int .u8))] := Ctx.swap [CH.row g14 o15 (r13.words.map (Value.int .u32) ++ [.slice A17 n19 c18, .int .i64 r13.n])] [CH.row g8 0 ((List.replicate 32 (0 : Int)).map (Value.int .u8))] C34
  have le36 : CH.le F (CH.join F p28) := CH.le_joinL _ _
  have lp37 : CH.le p28 (CH.join F p28) := CH.le_joinR (Ctx.dis_of [CH.row g14 o15 (r13.words.map (Value.int .u32) ++ [.slice A17 n19 c18, .int .i64 r13.n]), p21] [CH.row g8 0 ((List.replicate 32 (0 : Int)).map (Value.int .u8))] C35)
  have C38 : Ctx _ _ _ _ (CH.join F p28) [CH.row g14 o15 (r13.words.map (Value.int .u32) ++ [.slice A17 n19 c18, .int .i64 r13.n]), p21, CH.row g8 0 ((List.replicate 32 (0 : Int)).map (Value.int .u8))] := Ctx.freeze [CH.row g14 o15 (r13.words.map (Value.int .u32) ++ [.slice A17 n19 c18, .int .i64 r13.n]), p21] [CH.row g8 0 ((List.replicate 32 (0 : Int)).map (Value.int .u8))] C35
  obtain ⟨r40, hg39, H⟩ := bindE H
  refine WL.call (args := #[.pointer (some ⟨g14, o15, none⟩), .slice A25 n27 c26]) (Yenter.fn Tryd.func66 (by kernel_rfl) rfl (argsE (.cons rfl (.cons rfl .nil)))) (sha_Hash_Write.calls k _ (CH.join F p28) g14 o15 A17 c18 n19 p21 r13 A25 c26 n27 [a0] (Ctx.pre (qs := [CH.row g14 o15 (r13.words.map (Value.int .u32) ++ [.slice A17 n19 c18, .int .i64 r13.n]), p21]) (rest := [CH.row g8 0 ((List.replicate 32 (0 : Int)).map (Value.int .u8))]) C38) ha16 hn20 hR22 hn30 (Row.len_le hR33).1 (Row.len_le hR33).2.1 (Sl.mono (Row.sl hR33) le36 lp37) (CH.le_trans hG3 (CH.le_trans (CH.le_refl _) le36)) r40 hg39) ?_
  rintro e_ w_ ⟨A42, c43, n44, p46, rfl, C48, ha41, hn45, hR47⟩
  refine ⟨_, rfl, ?_⟩
  have hR49 : Row (Kd.int .u8) F p46 (.slice A42 n44 c43) r40.rest := hR47
  have C50 : Ctx _ _ _ _ F [CH.row g14 o15 (r40.words.map (Value.int .u32) ++ [.slice A42 n44 c43, .int .i64 r40.n]), p46, p28, CH.row g8 0 ((List.replicate 32 (0 : Int)).map (Value.int .u8))] := Ctx.callL (qs := [CH.row g14 o15 (r13.words.map (Value.int .u32) ++ [.slice A17 n19 c18, .int .i64 r13.n]), p21]) (rest := [p28, CH.row g8 0 ((List.replicate 32 (0 : Int)).map (Value.int .u8))]) C35 le36 C48
  refine WL.done ?_
  refine W.seq ?_
  refine W.seq ?_
  refine W.region rfl ?_
  refine WL.val (Yl.move (v := .slice A1 n3 c2) rfl) ?_
  refine WL.val (Yl.lenN (A := A1) (l := n3) (q := c2) (n := (a1.length : Int)) rfl Tryd.underlying49 (by omega)) ?_
  refine WL.val (Yl.move (v := .int .i64 0) rfl) ?_
  refine WL.done ?_
  obtain ⟨x157, hX166, H⟩ := bindE H
  refine W.cutM (fun env_ w_ => ∃ (A159 : Option Addr) (c160 : Nat) (n161 : Nat) (p163 : CH), env_ 4 = .pointer (some ⟨g8, 0, none⟩) ∧ env_ 5 = .pointer (some ⟨g14, o15, none⟩) ∧ Ctx w F D w_ F [CH.row g14 o15 (x157.words.map (Value.int .u32) ++ [.slice A159 n161 c160, .int .i64 x157.n]), p163, p28, CH.row g8 0 ((List.replicate 32 (0 : Int)).map (Value.int .u8))] ∧ x157.words.length = 8 ∧ n161 = x157.rest.length ∧ Row (Kd.int .u8) F p163 (.slice A159 n161 c160) x157.rest) ?_ ?_
  · skip
    refine W.block ?_
    refine W.loop (fun g_ env_ w_ => ∃ (x206 : Int) (x207 : THash) (A209 : Option Addr) (c210 : Nat) (n211 : Nat) (p213 : CH), env_ 4 = .pointer (some ⟨g8, 0, none⟩) ∧ env_ 5 = .pointer (some ⟨g14, o15, none⟩) ∧ env_ 13 = .slice A1 n3 c2 ∧ env_ 14 = .int .i64 (a1.length : Int) ∧ env_ 15 = .int .i64 x206 ∧ Ctx w F D w_ F [CH.row g14 o15 (x207.words.map (Value.int .u32) ++ [.slice A209 n211 c210, .int .i64 x207.n]), p213, p28, CH.row g8 0 ((List.replicate 32 (0 : Int)).map (Value.int .u8))] ∧ x207.words.length = 8 ∧ n211 = x207.rest.length ∧ Row (Kd.int .u8) F p213 (.slice A209 n211 c210) x207.rest ∧ proof_tagged.l1 g_ a1 x206 x207 = some x157) k ⟨0, r40, A42, c43, n44, p46, rfl, rfl, rfl, rfl, rfl, C50, ha41, hn45, hR49, hX166⟩ ?_
    clear hX166
    rintro g_ env_ w_ ⟨x206, x207, A209, c210, n211, p213, ho201, ho202, ho203, ho204, ho205, C215, ha208, hn212, hR214, hX166⟩
    rcases g_ with _ | k243
    · exact absurd hX166 (by simp [proof_tagged.l1])
    rw [proof_tagged.l1] at hX166
    refine W.seq ?_
    refine W.region rfl ?_
    refine WL.val (Yl.lss (m := x206) (n := (a1.length : Int)) (q := decide (x206 < (a1.length : Int))) ho205 ho204 rfl) ?_
    refine WL.done ?_
    refine W.seq ?_
    rcases iteE hX166 with ⟨hc244, hX166⟩ | ⟨hc244, hX166⟩
    · skip
      refine W.condT (congrArg Value.bool (decide_eq_true hc244)) ?_
      refine W.skip ?_
      refine W.seq ?_
      refine W.block ?_
      refine W.seq ?_
      refine W.region rfl ?_
      obtain ⟨hc245, hX166⟩ := guardE hX166
      obtain ⟨b246, of247, hA248, he249⟩ := hS7 (by omega)
      refine WL.val (Yl.elemAddr (i := x206) ho203 ho205 hA248 Tryd.underlying49 sz28 (by omega)) ?_
      obtain ⟨cs250, hr251, hx252⟩ := he249 x206.toNat _ (getD_some (d := []) (by omega))
      obtain ⟨A253, c254, rfl, hl257, hm258, hS259⟩ := hr251
      refine WL.val (Yl.load (v := .slice A253 ((a1.getD x206.toNat []).length) c254) rfl Tryd.underlying28 rfl (((C215.fro)).cell (hx252 0 _ rfl))) ?_
      refine WL.val (Yl.assign (v := .slice A253 ((a1.getD x206.toNat []).length) c254) rfl) ?_
      refine WL.done ?_
      refine W.region rfl ?_
      refine WL.val (Yl.move (v := .pointer (some ⟨g14, o15, none⟩)) ho202) ?_
      refine WL.val (Yl.move (v := .slice A253 ((a1.getD x206.toNat []).length) c254) rfl) ?_
      obtain ⟨r261, hg260, hX166⟩ := bindE hX166
      refine WL.call (args := #[.pointer (some ⟨g14, o15, none⟩), .slice A253 ((a1.getD x206.toNat []).length) c254]) (Yenter.fn Tryd.func66 (by kernel_rfl) rfl (argsE (.cons rfl (.cons rfl .nil)))) (sha_Hash_Write.calls k243 _ F g14 o15 A209 c210 n211 p213 x207 A253 c254 ((a1.getD x206.toNat []).length) (a1.getD x206.toNat []) (Ctx.pre (qs := [CH.row g14 o15 (x207.words.map (Value.int .u32) ++ [.slice A209 n211 c210, .int .i64 x207.n]), p213]) (rest := [p28, CH.row g8 0 ((List.replicate 32 (0 : Int)).map (Value.int .u8))]) C215) ha208 hn212 hR214 rfl hl257 hm258 hS259 (CH.le_trans hG3 (CH.le_trans (CH.le_refl _) (CH.le_refl _))) r261 hg260) ?_
      rintro e_ w_ ⟨A263, c264, n265, p267, rfl, C269, ha262, hn266, hR268⟩
      refine ⟨_, rfl, ?_⟩
      have C270 : Ctx _ _ _ _ F [CH.row g14 o15 (r261.words.map (Value.int .u32) ++ [.slice A263 n265 c264, .int .i64 r261.n]), p267, p28, CH.row g8 0 ((List.replicate 32 (0 : Int)).map (Value.int .u8))] := Ctx.call (qs := [CH.row g14 o15 (x207.words.map (Value.int .u32) ++ [.slice A209 n211 c210, .int .i64 x207.n]), p213]) (rest := [p28, CH.row g8 0 ((List.replicate 32 (0 : Int)).map (Value.int .u8))]) C215 C269
      refine WL.done ?_
      refine inB_n ?_
      refine W.region rfl ?_
      refine WL.val (Yl.add (m := x206) (n := 1) (r := wi64 (x206 + 1)) ho205 rfl rfl) ?_
      refine WL.val (Yl.move (v := .int .i64 (wi64 (x206 + 1))) rfl) ?_
      refine WL.done ?_
      exact thenE_n ⟨k243, Nat.lt_succ_self _, wi64 (x206 + 1), r261, A263, c264, n265, p267, ho201, ho202, ho203, ho204, rfl, C270, ha262, hn266, hR268, hX166⟩
    · skip
      refine W.condF (congrArg Value.bool (decide_eq_false hc244)) ?_
      refine W.exit ?_
      refine thenE_x ?_
      refine thenE_x ?_
      refine inB_here ?_
      cases hX166
      refine thenE_n ?_
      exact ⟨A209, c210, n211, p213, ho201, ho202, C215, ha208, hn212, hR214⟩
  · skip
    rintro env_ w_ ⟨A159, c160, n161, p163, ho155, ho156, C165, ha158, hn162, hR164⟩
    refine W.seq ?_
    refine W.region rfl ?_
    refine WL.val (Yl.move (v := .pointer (some ⟨g14, o15, none⟩)) ho156) ?_
    have le271 : CH.le F (CH.join F (CH.row g14 o15 (x157.words.map (Value.int .u32) ++ [.slice A159 n161 c160, .int .i64 x157.n]))) := CH.le_joinL _ _
    have lp272 : CH.le (CH.row g14 o15 (x157.words.map (Value.int .u32) ++ [.slice A159 n161 c160, .int .i64 x157.n])) (CH.join F (CH.row g14 o15 (x157.words.map (Value.int .u32) ++ [.slice A159 n161 c160, .int .i64 x157.n]))) := CH.le_joinR (Ctx.dis_of [] [p163, p28, CH.row g8 0 ((List.replicate 32 (0 : Int)).map (Value.int .u8))] C165)
    have C273 : Ctx _ _ _ _ (CH.join F (CH.row g14 o15 (x157.words.map (Value.int .u32) ++ [.slice A159 n161 c160, .int .i64 x157.n]))) [p163, p28, CH.row g8 0 ((List.replicate 32 (0 : Int)).map (Value.int .u8))] := Ctx.freeze [] [p163, p28, CH.row g8 0 ((List.replicate 32 (0 : Int)).map (Value.int .u8))] C165
    have le274 : CH.le (CH.join F (CH.row g14 o15 (x157.words.map (Value.int .u32) ++ [.slice A159 n161 c160, .int .i64 x157.n]))) (CH.join (CH.join F (CH.row g14 o15 (x157.words.map (Value.int .u32) ++ [.slice A159 n161 c160, .int .i64 x157.n]))) p163) := CH.le_joinL _ _
    have lp275 : CH.le p163 (CH.join (CH.join F (CH.row g14 o15 (x157.words.map (Value.int .u32) ++ [.slice A159 n161 c160, .int .i64 x157.n]))) p163) := CH.le_joinR (Ctx.dis_of [] [p28, CH.row g8 0 ((List.replicate 32 (0 : Int)).map (Value.int .u8))] C273)
    have C276 : Ctx _ _ _ _ (CH.join (CH.join F (CH.row g14 o15 (x157.words.map (Value.int .u32) ++ [.slice A159 n161 c160, .int .i64 x157.n]))) p163) [p28, CH.row g8 0 ((List.replicate 32 (0 : Int)).map (Value.int .u8))] := Ctx.freeze [] [p28, CH.row g8 0 ((List.replicate 32 (0 : Int)).map (Value.int .u8))] C273
    obtain ⟨r278, hg277, H⟩ := bindE H
    refine WL.call (args := #[.pointer (some ⟨g14, o15, none⟩)]) (Yenter.fn Tryd.func67 (by kernel_rfl) rfl (argsE (.cons rfl .nil))) (sha_Hash_Sum.calls k _ (CH.join (CH.join F (CH.row g14 o15 (x157.words.map (Value.int .u32) ++ [.slice A159 n161 c160, .int .i64 x157.n]))) p163) g14 o15 A159 c160 n161 x157 (Ctx.pre (qs := []) (rest := [p28, CH.row g8 0 ((List.replicate 32 (0 : Int)).map (Value.int .u8))]) C276) ha158 hn162 (Row.len_le hR164).1 (Row.len_le hR164).2.1 (Sl.mono (Row.sl hR164) (CH.le_trans le271 le274) lp275) (CH.le_trans lp272 le274) (CH.le_trans hG3 (CH.le_trans (CH.le_refl _) (CH.le_trans le271 le274))) r278 hg277) ?_
    rintro e_ w_ ⟨rfl, C280, ha279⟩
    refine ⟨_, rfl, ?_⟩
    have C281 : Ctx _ _ _ _ F [CH.row g14 o15 (x157.words.map (Value.int .u32) ++ [.slice A159 n161 c160, .int .i64 x157.n]), p163, p28, CH.row g8 0 ((List.replicate 32 (0 : Int)).map (Value.int .u8))] := Ctx.callL (qs := []) (rest := [CH.row g14 o15 (x157.words.map (Value.int .u32) ++ [.slice A159 n161 c160, .int .i64 x157.n]), p163, p28, CH.row g8 0 ((List.replicate 32 (0 : Int)).map (Value.int .u8))]) C165 (CH.le_trans le271 le274) C280
    obtain ⟨w282, hy283, C284⟩ := ev_set (P := Tryd.prog) (ps1 := [CH.row g14 o15 (x157.words.map (Value.int .u32) ++ [.slice A159 n161 c160, .int .i64 x157.n]), p163, p28]) (ps2 := []) (t := 33) (o := 0) ((List.replicate 32 (0 : Int)).map (Value.int .u8)) [] ((List.replicate 32 (0 : Int)).map (Value.int .u8)) [] (r278.map (Value.int .u8)) (.agg (List.toArray (r278.map (Value.int .u8)))) C281 (by first | (simp only [List.length_append, List.length_map, List.length_cons, List.length_nil, (List.length_replicate ..), ha279]; done) | simp [(List.length_replicate ..), ha279]) (by first | (simp only [List.length_append, List.length_map, List.length_cons, List.length_nil, (List.length_replicate ..), ha279]; done) | simp [(List.length_replicate ..), ha279]) (by first | (simp only [List.length_append, List.length_map, List.length_cons, List.length_nil, (List.length_replicate ..), ha279]; done) | simp [(List.length_replicate ..), ha279]) rfl (one_ints _ _) (sz_of sz33 (by first | (simp only [List.length_append, List.length_map, List.length_cons, List.length_nil, ha279]; done) | simp [ha279]))
    have C285 : Ctx _ _ _ _ F [CH.row g14 o15 (x157.words.map (Value.int .u32) ++ [.slice A159 n161 c160, .int .i64 x157.n]), p163, p28, CH.row g8 0 (r278.map (Value.int .u8))] := (by simpa using C284)
    refine WL.skip (hy283 _ _ _ _ ho155 rfl) ?_
    refine WL.done ?_
    refine W.ret ?_
    have C286 : Ctx _ _ _ _ F [p163, p28, CH.row g8 0 (r278.map (Value.int .u8))] := Ctx.drop [] [p163, p28, CH.row g8 0 (r278.map (Value.int .u8))] C285
    have C287 : Ctx _ _ _ _ F [p28, CH.row g8 0 (r278.map (Value.int .u8))] := Ctx.drop [] [p28, CH.row g8 0 (r278.map (Value.int .u8))] C286
    have C288 : Ctx _ _ _ _ F [CH.row g8 0 (r278.map (Value.int .u8))] := Ctx.drop [] [CH.row g8 0 (r278.map (Value.int .u8))] C287
    have C289 : Ctx _ _ _ _ F [] := Ctx.drop [] [] C288
    have e290 := Option.some.inj H
    subst e290
    exact post_r (resEC rfl ((.cell ho155 (run_loadVA2 (g := g8) (off := 0) (o := 0) (cs := r278.map (Value.int .u8)) (us := r278.map (Value.int .u8)) Tryd.underlying33 rfl (sz_of sz33 (by first | (simp only [List.length_append, List.length_map, List.length_cons, List.length_nil, ha279]; done) | simp [ha279])) (Ctx.sub_of [CH.row g14 o15 (x157.words.map (Value.int .u32) ++ [.slice A159 n161 c160, .int .i64 x157.n]), p163, p28] [] C285) (take_all _)) .nil))) ⟨rfl, C289, ha279⟩
def proof_Leaf.f (k : Nat) (a0 : List Int) : Option (List Int) := (proof_tagged.f k 0 [a0]).bind fun r25 => some r25
set_option maxRecDepth 100000 in
set_option maxHeartbeats 4000000 in
theorem proof_Leaf.calls (k : Nat) (w : World) (F : CH) (A1 : Option Addr) (c2 : Nat) (n3 : Nat) (a0 : List Int) (hp : Pre w F []) (hn4 : n3 = a0.length) (hl5 : a0.length ≤ c2) (hm6 : c2 ≤ maxLen) (hS7 : Sl (Kd.int .u8) F F A1 a0) (hG1 : CH.le (CH.row 1 0 (glob1.map (Value.int .u32))) F) (hG3 : CH.le (CH.row 3 0 (glob3.map (Value.int .u32))) F) (r0_ : List Int) (H : proof_Leaf.f k a0 = some r0_) :
    Calls Tryd.prog 27 #[.slice A1 n3 c2] w fun e w' => e = .returned (.agg (List.toArray (r0_.map (Value.int .u8)))) ∧ Ctx w F (domL []) w' F [] ∧ r0_.length = 32 := by
  have C := Ctx.start hp
  generalize hD : domL [] = D at C ⊢
  unfold proof_Leaf.f at H
  refine Calls.ofW Tryd.func27 rfl (by simp [Tryd.ntmps27]) ?_
  refine W.seq ?_
  refine W.region rfl ?_
  obtain ⟨g8, w9, hy10, C11⟩ := ev_alloc (P := Tryd.prog) (e := 33) ((List.replicate 32 (0 : Int)).map (Value.int .u8)) C zr33 rfl
  refine WL.val (hy10 _ _) ?_
  refine WL.done ?_
  refine W.seq ?_
  refine W.region rfl ?_
  refine WL.val (Yl.move (v := .slice A1 n3 c2) rfl) ?_
  obtain ⟨A12, c13, n14, p15, w16, hn17, hy18, C19, hR20⟩ := ev_lit1' (P := Tryd.prog) 28 (Kd.slice (Kd.int .u8)) C11 Tryd.underlying49 ti28 ⟨by decide, by decide⟩ a0 (.slice A1 n3 c2) (slice_rep' A1 c2 n3 hn4 hl5 hm6 hS7)
  refine WL.val (hy18 _ _ _ rfl) ?_
  have le21 : CH.le F (CH.join F p15) := CH.le_joinL _ _
  have lp22 : CH.le p15 (CH.join F p15) := CH.le_joinR (Ctx.dis_of [] [CH.row g8 0 ((List.replicate 32 (0 : Int)).map (Value.int .u8))] C19)
  have C23 : Ctx _ _ _ _ (CH.join F p15) [CH.row g8 0 ((List.replicate 32 (0 : Int)).map (Value.int .u8))] := Ctx.freeze [] [CH.row g8 0 ((List.replicate 32 (0 : Int)).map (Value.int .u8))] C19
  obtain ⟨r25, hg24, H⟩ := bindE H
  refine WL.call (args := #[.int .u8 0, .slice A12 n14 c13]) (Yenter.fn Tryd.func53 (by kernel_rfl) rfl (argsE (.cons rfl (.cons rfl .nil)))) (proof_tagged.calls k _ (CH.join F p15) 0 A12 c13 n14 [a0] (Ctx.pre (qs := []) (rest := [CH.row g8 0 ((List.replicate 32 (0 : Int)).map (Value.int .u8))]) C23) hn17 (Row.len_le hR20).1 (Row.len_le hR20).2.1 (Sl.mono (Row.sl hR20) le21 lp22) (CH.le_trans hG1 (CH.le_trans (CH.le_refl _) le21)) (CH.le_trans hG3 (CH.le_trans (CH.le_refl _) le21)) r25 hg24) ?_
  rintro e_ w_ ⟨rfl, C27, ha26⟩
  refine ⟨_, rfl, ?_⟩
  have C28 : Ctx _ _ _ _ F [p15, CH.row g8 0 ((List.replicate 32 (0 : Int)).map (Value.int .u8))] := Ctx.callL (qs := []) (rest := [p15, CH.row g8 0 ((List.replicate 32 (0 : Int)).map (Value.int .u8))]) C19 le21 C27
  obtain ⟨w29, hy30, C31⟩ := ev_set (P := Tryd.prog) (ps1 := [p15]) (ps2 := []) (t := 33) (o := 0) ((List.replicate 32 (0 : Int)).map (Value.int .u8)) [] ((List.replicate 32 (0 : Int)).map (Value.int .u8)) [] (r25.map (Value.int .u8)) (.agg (List.toArray (r25.map (Value.int .u8)))) C28 (by first | (simp only [List.length_append, List.length_map, List.length_cons, List.length_nil, (List.length_replicate ..), ha26]; done) | simp [(List.length_replicate ..), ha26]) (by first | (simp only [List.length_append, List.length_map, List.length_cons, List.length_nil, (List.length_replicate ..), ha26]; done) | simp [(List.length_replicate ..), ha26]) (by first | (simp only [List.length_append, List.length_map, List.length_cons, List.length_nil, (List.length_replicate ..), ha26]; done) | simp [(List.length_replicate ..), ha26]) rfl (one_ints _ _) (sz_of sz33 (by first | (simp only [List.length_append, List.length_map, List.length_cons, List.length_nil, ha26]; done) | simp [ha26]))
  have C32 : Ctx _ _ _ _ F [p15, CH.row g8 0 (r25.map (Value.int .u8))] := (by simpa using C31)
  refine WL.skip (hy30 _ _ _ _ rfl rfl) ?_
  refine WL.done ?_
  refine W.ret ?_
  have C33 : Ctx _ _ _ _ F [CH.row g8 0 (r25.map (Value.int .u8))] := Ctx.drop [] [CH.row g8 0 (r25.map (Value.int .u8))] C32
  have C34 : Ctx _ _ _ _ F [] := Ctx.drop [] [] C33
  have e35 := Option.some.inj H
  subst e35
  exact post_r (resEC rfl ((.cell rfl (run_loadVA2 (g := g8) (off := 0) (o := 0) (cs := r25.map (Value.int .u8)) (us := r25.map (Value.int .u8)) Tryd.underlying33 rfl (sz_of sz33 (by first | (simp only [List.length_append, List.length_map, List.length_cons, List.length_nil, ha26]; done) | simp [ha26])) (Ctx.sub_of [p15] [] C32) (take_all _)) .nil))) ⟨rfl, C34, ha26⟩
def proof_Node.f (k : Nat) (a0 : List Int) (a1 : List Int) : Option (List Int) := (proof_tagged.f k 1 [a0, a1]).bind fun r60 => some r60
set_option maxRecDepth 100000 in
set_option maxHeartbeats 4000000 in
theorem proof_Node.calls (k : Nat) (w : World) (F : CH) (a0 : List Int) (a1 : List Int) (hp : Pre w F []) (ha1 : a0.length = 32) (ha2 : a1.length = 32) (hG1 : CH.le (CH.row 1 0 (glob1.map (Value.int .u32))) F) (hG3 : CH.le (CH.row 3 0 (glob3.map (Value.int .u32))) F) (r0_ : List Int) (H : proof_Node.f k a0 a1 = some r0_) :
    Calls Tryd.prog 25 #[.agg (List.toArray (a0.map (Value.int .u8))), .agg (List.toArray (a1.map (Value.int .u8)))] w fun e w' => e = .returned (.agg (List.toArray (r0_.map (Value.int .u8)))) ∧ Ctx w F (domL []) w' F [] ∧ r0_.length = 32 := by
  have C := Ctx.start hp
  generalize hD : domL [] = D at C ⊢
  unfold proof_Node.f at H
  refine Calls.ofW Tryd.func25 rfl (by simp [Tryd.ntmps25]) ?_
  refine W.seq ?_
  refine W.region rfl ?_
  obtain ⟨g3, w4, hy5, C6⟩ := ev_box (P := Tryd.prog) 33 (.agg (List.toArray (a0.map (Value.int .u8)))) (a0.map (Value.int .u8)) C rfl
  refine WL.val (hy5 _ _ _ rfl) ?_
  obtain ⟨g7, w8, hy9, C10⟩ := ev_box (P := Tryd.prog) 33 (.agg (List.toArray (a1.map (Value.int .u8)))) (a1.map (Value.int .u8)) C6 rfl
  refine WL.val (hy9 _ _ _ rfl) ?_
  obtain ⟨g11, w12, hy13, C14⟩ := ev_alloc (P := Tryd.prog) (e := 33) ((List.replicate 32 (0 : Int)).map (Value.int .u8)) C10 zr33 rfl
  refine WL.val (hy13 _ _) ?_
  refine WL.done ?_
  refine W.seq ?_
  have lp16 : CH.le (CH.row g3 0 (a0.map (Value.int .u8))) (CH.join F (CH.row g3 0 (a0.map (Value.int .u8)))) := CH.le_joinR (Ctx.dis_of [CH.row g11 0 ((List.replicate 32 (0 : Int)).map (Value.int .u8)), CH.row g7 0 (a1.map (Value.int .u8))] [] C14)
  have C17 : Ctx _ _ _ _ (CH.join F (CH.row g3 0 (a0.map (Value.int .u8)))) [CH.row g11 0 ((List.replicate 32 (0 : Int)).map (Value.int .u8)), CH.row g7 0 (a1.map (Value.int .u8))] := Ctx.freeze [CH.row g11 0 ((List.replicate 32 (0 : Int)).map (Value.int .u8)), CH.row g7 0 (a1.map (Value.int .u8))] [] C14
  have le15 := CH.le_joinL F (CH.row g3 0 (a0.map (Value.int .u8)))
  have lp19 : CH.le (CH.row g7 0 (a1.map (Value.int .u8))) (CH.join (CH.join F (CH.row g3 0 (a0.map (Value.int .u8)))) (CH.row g7 0 (a1.map (Value.int .u8)))) := CH.le_joinR (Ctx.dis_of [CH.row g11 0 ((List.replicate 32 (0 : Int)).map (Value.int .u8))] [] C17)
  have C20 : Ctx _ _ _ _ (CH.join (CH.join F (CH.row g3 0 (a0.map (Value.int .u8)))) (CH.row g7 0 (a1.map (Value.int .u8)))) [CH.row g11 0 ((List.replicate 32 (0 : Int)).map (Value.int .u8))] := Ctx.freeze [CH.row g11 0 ((List.replicate 32 (0 : Int)).map (Value.int .u8))] [] C17
  have le18 := CH.le_joinL (CH.join F (CH.row g3 0 (a0.map (Value.int .u8)))) (CH.row g7 0 (a1.map (Value.int .u8)))
  refine W.regionA [] (by kernel_rfl) ?_
  have C44 := Ctx.drewN C20 1
  have hS45 : Sl (Kd.int .u8) (CH.join (CH.join F (CH.row g3 0 (a0.map (Value.int .u8)))) (CH.row g7 0 (a1.map (Value.int .u8)))) (CH.join (CH.join F (CH.row g3 0 (a0.map (Value.int .u8)))) (CH.row g7 0 (a1.map (Value.int .u8)))) (some ⟨g3, 0 + 0, none⟩) a0 := Sl.ofArr (cs := a0.map (Value.int .u8)) (pre := []) (post := []) (CH.le_trans lp16 le18) (by first | (simp only [List.length_append, List.length_map, List.length_cons, List.length_nil, ha1]; done) | simp [ha1]) (by first | (simp only [List.length_append, List.length_map, List.length_cons, List.length_nil, ha1]; done) | simp [ha1])
  refine WA.take none [] 0 rfl (by kernel_rfl) (by kernel_rfl) (show _ = #[true, false, false, false, false] from rfl) trivial trivial (fun _ hC_ => Yl.sliceArr 0 32 32 rfl Tryd.underlying33 sz5 rfl rfl rfl (by simp) (by decide) (by decide) (by decide) rfl) ?_
  have hS46 : Sl (Kd.int .u8) (CH.join (CH.join F (CH.row g3 0 (a0.map (Value.int .u8)))) (CH.row g7 0 (a1.map (Value.int .u8)))) (CH.join (CH.join F (CH.row g3 0 (a0.map (Value.int .u8)))) (CH.row g7 0 (a1.map (Value.int .u8)))) (some ⟨g7, 0 + 0, none⟩) a1 := Sl.ofArr (cs := a1.map (Value.int .u8)) (pre := []) (post := []) lp19 (by first | (simp only [List.length_append, List.length_map, List.length_cons, List.length_nil, ha2]; done) | simp [ha2]) (by first | (simp only [List.length_append, List.length_map, List.length_cons, List.length_nil, ha2]; done) | simp [ha2])
  refine WA.take none [] 1 rfl (by kernel_rfl) (by kernel_rfl) (show _ = #[true, true, false, false, false] from rfl) trivial trivial (fun _ hC_ => Yl.sliceArr 0 32 32 rfl Tryd.underlying33 sz5 rfl rfl rfl (by simp) (by decide) (by decide) (by decide) rfl) ?_
  obtain ⟨A47, c48, n49, p50, w51, hn52, hy53, C54, hR55⟩ := ev_lit' (P := Tryd.prog) 28 (Kd.slice (Kd.int .u8)) C44 Tryd.underlying49 ti28 (by decide) [a0, a1] [.slice (some ⟨g3, 0 + 0, none⟩) 32 32, .slice (some ⟨g7, 0 + 0, none⟩) 32 32] (.cons (slice_rep' (some ⟨g3, 0 + 0, none⟩) 32 32 (ha1).symm (Nat.le_of_eq ha1) (by decide) hS45) (.cons (slice_rep' (some ⟨g7, 0 + 0, none⟩) 32 32 (ha2).symm (Nat.le_of_eq ha2) (by decide) hS46) .nil)) 2 rfl (by decide) (by decide)
  refine WA.up1 2 (by kernel_rfl) (Up.val rfl rfl (show _ = #[true, true, true, false, false] from rfl) (hy53 _ [(.tmp 5), (.tmp 6)] _ (.cons rfl (.cons rfl .nil))) trivial ?_)
  have le56 : CH.le (CH.join (CH.join F (CH.row g3 0 (a0.map (Value.int .u8)))) (CH.row g7 0 (a1.map (Value.int .u8)))) (CH.join (CH.join (CH.join F (CH.row g3 0 (a0.map (Value.int .u8)))) (CH.row g7 0 (a1.map (Value.int .u8)))) p50) := CH.le_joinL _ _
  have lp57 : CH.le p50 (CH.join (CH.join (CH.join F (CH.row g3 0 (a0.map (Value.int .u8)))) (CH.row g7 0 (a1.map (Value.int .u8)))) p50) := CH.le_joinR (Ctx.dis_of [] [CH.row g11 0 ((List.replicate 32 (0 : Int)).map (Value.int .u8))] C54)
  have C58 : Ctx _ _ _ _ (CH.join (CH.join (CH.join F (CH.row g3 0 (a0.map (Value.int .u8)))) (CH.row g7 0 (a1.map (Value.int .u8)))) p50) [CH.row g11 0 ((List.replicate 32 (0 : Int)).map (Value.int .u8))] := Ctx.freeze [] [CH.row g11 0 ((List.replicate 32 (0 : Int)).map (Value.int .u8))] C54
  obtain ⟨r60, hg59, H⟩ := bindE H
  refine WA.up1 3 (by kernel_rfl) (Up.call (args := #[.int .u8 1, .slice A47 n49 c48]) rfl (by kernel_rfl) (show _ = #[true, true, true, true, false] from rfl) (Yenter.fn Tryd.func53 (by kernel_rfl) rfl (argsE (.cons rfl (.cons rfl .nil)))) (proof_tagged.calls k _ (CH.join (CH.join (CH.join F (CH.row g3 0 (a0.map (Value.int .u8)))) (CH.row g7 0 (a1.map (Value.int .u8)))) p50) 1 A47 c48 n49 [a0, a1] (Ctx.pre (qs := []) (rest := [CH.row g11 0 ((List.replicate 32 (0 : Int)).map (Value.int .u8))]) C58) hn52 (Row.len_le hR55).1 (Row.len_le hR55).2.1 (Sl.mono (Row.sl hR55) le56 lp57) (CH.le_trans hG1 (CH.le_trans (CH.le_trans le15 le18) le56)) (CH.le_trans hG3 (CH.le_trans (CH.le_trans le15 le18) le56)) r60 hg59) ?_)
  rintro e_ w_ ⟨rfl, C62, ha61⟩
  have C63 : Ctx _ _ _ _ (CH.join (CH.join F (CH.row g3 0 (a0.map (Value.int .u8)))) (CH.row g7 0 (a1.map (Value.int .u8)))) [p50, CH.row g11 0 ((List.replicate 32 (0 : Int)).map (Value.int .u8))] := Ctx.callL (qs := []) (rest := [p50, CH.row g11 0 ((List.replicate 32 (0 : Int)).map (Value.int .u8))]) C54 le56 C62
  refine ⟨_, rfl, trivial, ?_⟩
  obtain ⟨w64, hy65, C66⟩ := ev_set (P := Tryd.prog) (ps1 := [p50]) (ps2 := []) (t := 33) (o := 0) ((List.replicate 32 (0 : Int)).map (Value.int .u8)) [] ((List.replicate 32 (0 : Int)).map (Value.int .u8)) [] (r60.map (Value.int .u8)) (.agg (List.toArray (r60.map (Value.int .u8)))) C63 (by first | (simp only [List.length_append, List.length_map, List.length_cons, List.length_nil, (List.length_replicate ..), ha61]; done) | simp [(List.length_replicate ..), ha61]) (by first | (simp only [List.length_append, List.length_map, List.length_cons, List.length_nil, (List.length_replicate ..), ha61]; done) | simp [(List.length_replicate ..), ha61]) (by first | (simp only [List.length_append, List.length_map, List.length_cons, List.length_nil, (List.length_replicate ..), ha61]; done) | simp [(List.length_replicate ..), ha61]) rfl (one_ints _ _) (sz_of sz33 (by first | (simp only [List.length_append, List.length_map, List.length_cons, List.length_nil, ha61]; done) | simp [ha61]))
  have C67 : Ctx _ _ _ _ (CH.join (CH.join F (CH.row g3 0 (a0.map (Value.int .u8)))) (CH.row g7 0 (a1.map (Value.int .u8)))) [p50, CH.row g11 0 (r60.map (Value.int .u8))] := (by simpa using C66)
  refine WA.up1 4 (by kernel_rfl) (Up.skip rfl (show _ = #[true, true, true, true, true] from rfl) (hy65 _ _ _ _ rfl rfl) trivial ?_)
  refine WA.done (by kernel_rfl) ?_
  refine W.ret ?_
  have C68 : Ctx _ _ _ _ (CH.join (CH.join F (CH.row g3 0 (a0.map (Value.int .u8)))) (CH.row g7 0 (a1.map (Value.int .u8)))) [CH.row g11 0 (r60.map (Value.int .u8))] := Ctx.drop [] [CH.row g11 0 (r60.map (Value.int .u8))] C67
  have C69 : Ctx _ _ _ _ (CH.join (CH.join F (CH.row g3 0 (a0.map (Value.int .u8)))) (CH.row g7 0 (a1.map (Value.int .u8)))) [] := Ctx.drop [] [] C68
  have e70 := Option.some.inj H
  subst e70
  exact post_r (resEC rfl ((.cell rfl (run_loadVA2 (g := g11) (off := 0) (o := 0) (cs := r60.map (Value.int .u8)) (us := r60.map (Value.int .u8)) Tryd.underlying33 rfl (sz_of sz33 (by first | (simp only [List.length_append, List.length_map, List.length_cons, List.length_nil, ha61]; done) | simp [ha61])) (Ctx.sub_of [p50] [] C67) (take_all _)) .nil))) ⟨rfl, (Ctx.weak C69 (CH.le_refl _)), ha61⟩
def proof_split.f (k : Nat) (a0 : Int) : Option Int := (bits_Len.f k (wu64 (wi64 (a0 - 1)))).bind fun r2 => if 0 ≤ (wi64 (r2 - 1)) then (some (shlOp .i64 1 (wi64 (r2 - 1)))) else none
set_option maxRecDepth 100000 in
set_option maxHeartbeats 4000000 in
theorem proof_split.calls (k : Nat) (w : World) (F : CH) (a0 : Int) (hp : Pre w F [])  (r0_ : Int) (H : proof_split.f k a0 = some r0_) :
    Calls Tryd.prog 56 #[.int .i64 a0] w fun e w' => e = .returned (.int .i64 r0_) ∧ (∃ n_, w' = w.drewN n_) := by
  have C := Ctx.start hp
  generalize domL [] = D at C
  have W0 : ∃ n_, w = w.drewN n_ := ⟨0, rfl⟩
  unfold proof_split.f at H
  refine Calls.ofW Tryd.func56 rfl (by simp [Tryd.ntmps56]) ?_
  refine W.seq ?_
  refine W.region rfl ?_
  refine WL.val (Yl.assign (v := .int .i64 0) rfl) ?_
  refine WL.done ?_
  refine W.seq ?_
  refine W.region rfl ?_
  refine WL.val (Yl.move (v := .int .i64 a0) rfl) ?_
  refine WL.val (Yl.sub (m := a0) (n := 1) (r := wi64 (a0 - 1)) rfl rfl rfl) ?_
  refine WL.val (Yl.conv (m := wi64 (a0 - 1)) (r := wu64 (wi64 (a0 - 1))) rfl Tryd.underlying3 Tryd.underlying46 rfl) ?_
  obtain ⟨r2, hg1, H⟩ := bindE H
  refine WL.call (args := #[.int .u64 (wu64 (wi64 (a0 - 1)))]) (Yenter.fn Tryd.func70 (by kernel_rfl) rfl (argsE (.cons rfl .nil))) (bits_Len.calls k _ F (wu64 (wi64 (a0 - 1))) C.pre0  r2 hg1) ?_
  rintro e_ w_ ⟨rfl, ⟨m3, rfl⟩⟩
  refine ⟨_, rfl, ?_⟩
  have C4 := Ctx.drewN C m3
  have Wq5 := drew_more W0 m3
  refine WL.val (Yl.sub (m := r2) (n := 1) (r := wi64 (r2 - 1)) rfl rfl rfl) ?_
  obtain ⟨hc6, H⟩ := guardE H
  refine WL.val (Yl.shl (m := 1) (n := wi64 (r2 - 1)) (r := shlOp .i64 1 (wi64 (r2 - 1))) rfl rfl hc6 rfl) ?_
  refine WL.val (Yl.assign (v := .int .i64 (shlOp .i64 1 (wi64 (r2 - 1)))) rfl) ?_
  refine WL.done ?_
  refine W.ret ?_
  have e7 := Option.some.inj H
  subst e7
  exact post_r (resE1 rfl rfl) ⟨rfl, Wq5⟩
def proof_Root.l2 : Nat → List (List Int) → Int → List Int → Option ((List (List Int)) × (List Int))
  | 0, _, _, _ => none
  | k + 1, x1551, x1560, x1564 => if (bitsOp .and .i64 x1560 1) = 1 then (if 0 ≤ (wi64 ((x1551.length : Int) - 1)) ∧ (wi64 ((x1551.length : Int) - 1)) < (x1551.length : Int) then (if 0 ≤ (wi64 ((x1551.length : Int) - 1)) ∧ (wi64 ((x1551.length : Int) - 1)) ≤ (x1551.length : Int) then ((proof_Node.f k (x1551.getD (wi64 ((x1551.length : Int) - 1)).toNat []) x1564).bind fun r1653 => proof_Root.l2 k (x1551.take (wi64 ((x1551.length : Int) - 1)).toNat) (shrOp .i64 x1560 1) r1653) else none) else none) else (some (x1551, x1564))
def proof_Root.l1 : Nat → List (List Int) → List (List Int) → Int → Option (List (List Int))
  | 0, _, _, _ => none
  | k + 1, a0, x861, x871 => if x871 < (a0.length : Int) then (if 0 ≤ x871 ∧ x871 < (a0.length : Int) then ((proof_Root.l2 k x861 x871 (a0.getD x871.toNat [])).bind fun ⟨x1472, x1483⟩ => if (x1472.length + 1) * 32 ≤ 140737488355328 then (proof_Root.l1 k a0 (x1472 ++ [x1483]) (wi64 (x871 + 1))) else none) else none) else (some x861)
def proof_Root.l3 : Nat → List (List Int) → Int → List Int → Option (List Int)
  | 0, _, _, _ => none
  | k + 1, x850, x1859, x1860 => if x1859 < (wi64 ((x850.length : Int) - 1)) then (if 0 ≤ (wi64 ((wi64 ((wi64 ((x850.length : Int) - 1)) - 1)) - x1859)) ∧ (wi64 ((wi64 ((wi64 ((x850.length : Int) - 1)) - 1)) - x1859)) < (x850.length : Int) then ((proof_Node.f k (x850.getD (wi64 ((wi64 ((wi64 ((x850.length : Int) - 1)) - 1)) - x1859)).toNat []) x1860).bind fun r1916 => proof_Root.l3 k x850 (wi64 (x1859 + 1)) r1916) else none) else (some x1860)
def proof_Root.f (k : Nat) (a0 : List (List Int)) : Option (List Int) := if (a0.length : Int) = 0 then ((sha_Sum.f k ([] : List Int)).bind fun r14 => some r14) else ((proof_Root.l1 k a0 ([] : List (List Int)) 0).bind fun x850 => if 0 ≤ (wi64 ((x850.length : Int) - 1)) ∧ (wi64 ((x850.length : Int) - 1)) < (x850.length : Int) then ((proof_Root.l3 k x850 0 (x850.getD (wi64 ((x850.length : Int) - 1)).toNat [])).bind fun x1811 => some x1811) else none)
set_option maxRecDepth 100000 in
set_option maxHeartbeats 4000000 in
theorem proof_Root.calls (k : Nat) (w : World) (F : CH) (A1 : Option Addr) (c2 : Nat) (n3 : Nat) (a0 : List (List Int)) (hp : Pre w F []) (hn4 : n3 = a0.length) (hl5 : a0.length ≤ c2) (hm6 : c2 ≤ maxLen) (hS7 : Sl (Kd.arrI 32 .u8) F F A1 a0) (hG1 : CH.le (CH.row 1 0 (glob1.map (Value.int .u32))) F) (hG3 : CH.le (CH.row 3 0 (glob3.map (Value.int .u32))) F) (r0_ : List Int) (H : proof_Root.f k a0 = some r0_) :
    Calls Tryd.prog 22 #[.slice A1 n3 c2] w fun e w' => e = .returned (.agg (List.toArray (r0_.map (Value.int .u8)))) ∧ Ctx w F (domL []) w' F [] ∧ r0_.length = 32 := by
  have C := Ctx.start hp
  generalize hD : domL [] = D at C ⊢
  unfold proof_Root.f at H
  refine Calls.ofW Tryd.func22 rfl (by simp [Tryd.ntmps22]) ?_
  refine W.seq ?_
  refine W.region rfl ?_
  obtain ⟨g8, w9, hy10, C11⟩ := ev_alloc (P := Tryd.prog) (e := 33) ((List.replicate 32 (0 : Int)).map (Value.int .u8)) C zr33 rfl
  refine WL.val (hy10 _ _) ?_
  refine WL.done ?_
  refine W.seq ?_
  refine W.seq ?_
  refine W.region rfl ?_
  refine WL.val (Yl.move (v := .slice A1 n3 c2) rfl) ?_
  refine WL.val (Yl.lenN (A := A1) (l := n3) (q := c2) (n := (a0.length : Int)) rfl Tryd.underlying31 (by omega)) ?_
  refine WL.val (Yl.eql (m := (a0.length : Int)) (n := 0) (q := decide ((a0.length : Int) = 0)) rfl rfl rfl) ?_
  refine WL.done ?_
  rcases iteE H with ⟨hc12, H⟩ | ⟨hc12, H⟩
  · skip
    refine W.condT (congrArg Value.bool (decide_eq_true hc12)) ?_
    refine W.seq ?_
    refine W.region rfl ?_
    obtain ⟨r14, hg13, H⟩ := bindE H
    refine WL.call (args := #[.slice none 0 0]) (Yenter.fn Tryd.func50 (by kernel_rfl) rfl (argsE (.cons rfl .nil))) (sha_Sum.calls k _ F none 0 0 ([] : List Int) (Ctx.pre (qs := []) (rest := [CH.row g8 0 ((List.replicate 32 (0 : Int)).map (Value.int .u8))]) C11) rfl (Nat.le_refl _) (Nat.zero_le _) (Sl.nil _ _ _ _) (CH.le_trans hG1 (CH.le_trans (CH.le_refl _) (CH.le_refl _))) (CH.le_trans hG3 (CH.le_trans (CH.le_refl _) (CH.le_refl _))) r14 hg13) ?_
    rintro e_ w_ ⟨rfl, C16, ha15⟩
    refine ⟨_, rfl, ?_⟩
    have C17 : Ctx _ _ _ _ F [CH.row g8 0 ((List.replicate 32 (0 : Int)).map (Value.int .u8))] := Ctx.call (qs := []) (rest := [CH.row g8 0 ((List.replicate 32 (0 : Int)).map (Value.int .u8))]) C11 C16
    obtain ⟨w18, hy19, C20⟩ := ev_set (P := Tryd.prog) (ps1 := []) (ps2 := []) (t := 33) (o := 0) ((List.replicate 32 (0 : Int)).map (Value.int .u8)) [] ((List.replicate 32 (0 : Int)).map (Value.int .u8)) [] (r14.map (Value.int .u8)) (.agg (List.toArray (r14.map (Value.int .u8)))) C17 (by first | (simp only [List.length_append, List.length_map, List.length_cons, List.length_nil, (List.length_replicate ..), ha15]; done) | simp [(List.length_replicate ..), ha15]) (by first | (simp only [List.length_append, List.length_map, List.length_cons, List.length_nil, (List.length_replicate ..), ha15]; done) | simp [(List.length_replicate ..), ha15]) (by first | (simp only [List.length_append, List.length_map, List.length_cons, List.length_nil, (List.length_replicate ..), ha15]; done) | simp [(List.length_replicate ..), ha15]) rfl (one_ints _ _) (sz_of sz33 (by first | (simp only [List.length_append, List.length_map, List.length_cons, List.length_nil, ha15]; done) | simp [ha15]))
    have C21 : Ctx _ _ _ _ F [CH.row g8 0 (r14.map (Value.int .u8))] := (by simpa using C20)
    refine WL.skip (hy19 _ _ _ _ rfl rfl) ?_
    refine WL.done ?_
    refine W.ret ?_
    refine thenE_r ?_
    have C22 : Ctx _ _ _ _ F [] := Ctx.drop [] [] C21
    have e23 := Option.some.inj H
    subst e23
    exact post_r (resEC rfl ((.cell rfl (run_loadVA2 (g := g8) (off := 0) (o := 0) (cs := r14.map (Value.int .u8)) (us := r14.map (Value.int .u8)) Tryd.underlying33 rfl (sz_of sz33 (by first | (simp only [List.length_append, List.length_map, List.length_cons, List.length_nil, ha15]; done) | simp [ha15])) (Ctx.sub_of [] [] C21) (take_all _)) .nil))) ⟨rfl, C22, ha15⟩
  · skip
    refine W.condF (congrArg Value.bool (decide_eq_false hc12)) ?_
    refine W.skip ?_
    refine W.seq ?_
    refine W.region rfl ?_
    refine WL.val (Yl.assign (v := .slice none 0 0) rfl) ?_
    refine WL.done ?_
    refine W.seq ?_
    refine W.seq ?_
    refine W.region rfl ?_
    refine WL.val (Yl.move (v := .slice A1 n3 c2) rfl) ?_
    refine WL.val (Yl.lenN (A := A1) (l := n3) (q := c2) (n := (a0.length : Int)) rfl Tryd.underlying31 (by omega)) ?_
    refine WL.val (Yl.move (v := .int .i64 0) rfl) ?_
    refine WL.done ?_
    obtain ⟨x850, hX858, H⟩ := bindE H
    refine W.cutM (fun env_ w_ => ∃ (A851 : Option Addr) (c852 : Nat) (n853 : Nat) (p855 : CH), env_ 2 = .pointer (some ⟨g8, 0, none⟩) ∧ env_ 3 = .slice A851 n853 c852 ∧ Ctx w F D w_ F [p855, CH.row g8 0 ((List.replicate 32 (0 : Int)).map (Value.int .u8))] ∧ n853 = x850.length ∧ Row (Kd.arrI 32 .u8) F p855 (.slice A851 n853 c852) x850) ?_ ?_
    · skip
      refine W.block ?_
      have C1277 : Ctx _ _ _ _ F [CH.emp, CH.row g8 0 ((List.replicate 32 (0 : Int)).map (Value.int .u8))] := Ctx.emp C11
      refine W.loop (fun g_ env_ w_ => ∃ (x861 : List (List Int)) (x871 : Int) (A862 : Option Addr) (c863 : Nat) (n864 : Nat) (p866 : CH), env_ 2 = .pointer (some ⟨g8, 0, none⟩) ∧ env_ 3 = .slice A862 n864 c863 ∧ env_ 15 = .slice A1 n3 c2 ∧ env_ 16 = .int .i64 (a0.length : Int) ∧ env_ 17 = .int .i64 x871 ∧ Ctx w F D w_ F [p866, CH.row g8 0 ((List.replicate 32 (0 : Int)).map (Value.int .u8))] ∧ n864 = x861.length ∧ Row (Kd.arrI 32 .u8) F p866 (.slice A862 n864 c863) x861 ∧ proof_Root.l1 g_ a0 x861 x871 = some x850) k ⟨([] : List (List Int)), 0, none, 0, 0, CH.emp, rfl, rfl, rfl, rfl, rfl, C1277, rfl, (Row.nil _ _), hX858⟩ ?_
      clear hX858
      rintro g_ env_ w_ ⟨x861, x871, A862, c863, n864, p866, ho859, ho860, ho868, ho869, ho870, C872, hn865, hR867, hX858⟩
      rcases g_ with _ | k1276
      · exact absurd hX858 (by simp [proof_Root.l1])
      rw [proof_Root.l1] at hX858
      refine W.seq ?_
      refine W.region rfl ?_
      refine WL.val (Yl.lss (m := x871) (n := (a0.length : Int)) (q := decide (x871 < (a0.length : Int))) ho870 ho869 rfl) ?_
      refine WL.done ?_
      refine W.seq ?_
      rcases iteE hX858 with ⟨hc1278, hX858⟩ | ⟨hc1278, hX858⟩
      · skip
        refine W.condT (congrArg Value.bool (decide_eq_true hc1278)) ?_
        refine W.skip ?_
        refine W.seq ?_
        refine W.block ?_
        refine W.seq ?_
        refine W.region rfl ?_
        refine WL.val (Yl.move (v := .int .i64 x871) ho870) ?_
        obtain ⟨hc1279, hX858⟩ := guardE hX858
        obtain ⟨b1280, of1281, hA1282, he1283⟩ := hS7 (by omega)
        refine WL.val (Yl.elemAddr (i := x871) ho868 ho870 hA1282 Tryd.underlying31 sz33 (by omega)) ?_
        obtain ⟨cs1284, hr1285, hx1286⟩ := he1283 x871.toNat _ (getD_some (d := []) (by omega))
        obtain ⟨rfl, ha1287⟩ := hr1285
        refine WL.val (Yl.loadAgg (cs := (a0.getD x871.toNat []).map (Value.int .u8)) rfl Tryd.underlying33 rfl (sz_of sz33 (by first | (simp only [List.length_append, List.length_map, List.length_cons, List.length_nil, ha1287]; done) | simp [ha1287])) (fun j u hu => by rw [add_of]; exact ((C872.fro)).cell (hx1286 _ _ hu))) ?_
        obtain ⟨g1288, w1289, hy1290, C1291⟩ := ev_alloc (P := Tryd.prog) (e := 33) ((List.replicate 32 (0 : Int)).map (Value.int .u8)) C872 zr33 rfl
        refine WL.val (hy1290 _ _) ?_
        refine WL.val (Yl.assign (v := .int .i64 x871) rfl) ?_
        obtain ⟨w1292, hy1293, C1294⟩ := ev_set (P := Tryd.prog) (ps1 := []) (ps2 := [p866, CH.row g8 0 ((List.replicate 32 (0 : Int)).map (Value.int .u8))]) (t := 33) (o := 0) ((List.replicate 32 (0 : Int)).map (Value.int .u8)) [] ((List.replicate 32 (0 : Int)).map (Value.int .u8)) [] ((a0.getD x871.toNat []).map (Value.int .u8)) (.agg (List.toArray ((a0.getD x871.toNat []).map (Value.int .u8)))) C1291 (by first | (simp only [List.length_append, List.length_map, List.length_cons, List.length_nil, (List.length_replicate ..), ha1287]; done) | simp [(List.length_replicate ..), ha1287]) (by first | (simp only [List.length_append, List.length_map, List.length_cons, List.length_nil, (List.length_replicate ..), ha1287]; done) | simp [(List.length_replicate ..), ha1287]) (by first | (simp only [List.length_append, List.length_map, List.length_cons, List.length_nil, (List.length_replicate ..), ha1287]; done) | simp [(List.length_replicate ..), ha1287]) rfl (one_ints _ _) (sz_of sz33 (by first | (simp only [List.length_append, List.length_map, List.length_cons, List.length_nil, ha1287]; done) | simp [ha1287]))
        have C1295 : Ctx _ _ _ _ F [CH.row g1288 0 ((a0.getD x871.toNat []).map (Value.int .u8)), p866, CH.row g8 0 ((List.replicate 32 (0 : Int)).map (Value.int .u8))] := (by simpa using C1294)
        refine WL.skip (hy1293 _ _ _ _ rfl rfl) ?_
        refine WL.done ?_
        refine W.seq ?_
        refine W.seq ?_
        refine W.region rfl ?_
        refine WL.val (Yl.move (v := .int .i64 x871) rfl) ?_
        refine WL.val (Yl.assign (v := .int .i64 x871) rfl) ?_
        refine WL.done ?_
        obtain ⟨⟨x1472, x1483⟩, hX1486, hX858⟩ := bindE hX858
        refine W.cutM (fun env_ w_ => ∃ (A1473 : Option Addr) (c1474 : Nat) (n1475 : Nat) (p1477 : CH), env_ 2 = .pointer (some ⟨g8, 0, none⟩) ∧ env_ 3 = .slice A1473 n1475 c1474 ∧ env_ 5 = .pointer (some ⟨g1288, 0, none⟩) ∧ env_ 15 = .slice A1 n3 c2 ∧ env_ 16 = .int .i64 (a0.length : Int) ∧ env_ 17 = .int .i64 x871 ∧ Ctx w F D w_ F [p1477, CH.row g1288 0 (x1483.map (Value.int .u8)), CH.row g8 0 ((List.replicate 32 (0 : Int)).map (Value.int .u8))] ∧ n1475 = x1472.length ∧ Row (Kd.arrI 32 .u8) F p1477 (.slice A1473 n1475 c1474) x1472 ∧ x1483.length = 32) ?_ ?_
        · skip
          refine W.block ?_
          have C1614 : Ctx _ _ _ _ F [p866, CH.row g1288 0 ((a0.getD x871.toNat []).map (Value.int .u8)), CH.row g8 0 ((List.replicate 32 (0 : Int)).map (Value.int .u8))] := Ctx.swap [] [CH.row g8 0 ((List.replicate 32 (0 : Int)).map (Value.int .u8))] C1295
          refine W.loop (fun g_ env_ w_ => ∃ (x1551 : List (List Int)) (x1560 : Int) (x1564 : List Int) (A1552 : Option Addr) (c1553 : Nat) (n1554 : Nat) (p1556 : CH), env_ 2 = .pointer (some ⟨g8, 0, none⟩) ∧ env_ 3 = .slice A1552 n1554 c1553 ∧ env_ 5 = .pointer (some ⟨g1288, 0, none⟩) ∧ env_ 6 = .int .i64 x1560 ∧ env_ 15 = .slice A1 n3 c2 ∧ env_ 16 = .int .i64 (a0.length : Int) ∧ env_ 17 = .int .i64 x871 ∧ Ctx w F D w_ F [p1556, CH.row g1288 0 (x1564.map (Value.int .u8)), CH.row g8 0 ((List.replicate 32 (0 : Int)).map (Value.int .u8))] ∧ n1554 = x1551.length ∧ Row (Kd.arrI 32 .u8) F p1556 (.slice A1552 n1554 c1553) x1551 ∧ x1564.length = 32 ∧ proof_Root.l2 g_ x1551 x1560 x1564 = some (x1472, x1483)) k1276 ⟨x861, x871, a0.getD x871.toNat [], A862, c863, n864, p866, ho859, ho860, rfl, rfl, ho868, ho869, ho870, C1614, hn865, hR867, ha1287, hX1486⟩ ?_
          clear hX1486
          rintro g_ env_ w_ ⟨x1551, x1560, x1564, A1552, c1553, n1554, p1556, ho1549, ho1550, ho1558, ho1559, ho1561, ho1562, ho1563, C1566, hn1555, hR1557, ha1565, hX1486⟩
          rcases g_ with _ | k1613
          · exact absurd hX1486 (by simp [proof_Root.l2])
          rw [proof_Root.l2] at hX1486
          refine W.seq ?_
          refine W.seq ?_
          refine W.region rfl ?_
          refine WL.val (Yl.move (v := .int .i64 x1560) ho1559) ?_
          refine WL.val (Yl.and (m := x1560) (n := 1) (r := bitsOp .and .i64 x1560 1) rfl rfl rfl) ?_
          refine WL.val (Yl.eql (m := bitsOp .and .i64 x1560 1) (n := 1) (q := decide ((bitsOp .and .i64 x1560 1) = 1)) rfl rfl rfl) ?_
          refine WL.done ?_
          rcases iteE hX1486 with ⟨hc1615, hX1486⟩ | ⟨hc1615, hX1486⟩
          · skip
            refine W.condT (congrArg Value.bool (decide_eq_true hc1615)) ?_
            refine W.skip ?_
            refine W.seq ?_
            refine W.block ?_
            refine W.seq ?_
            refine W.region rfl ?_
            refine WL.val (Yl.move (v := .slice A1552 n1554 c1553) ho1550) ?_
            refine WL.val (Yl.lenN (A := A1552) (l := n1554) (q := c1553) (n := (x1551.length : Int)) rfl Tryd.underlying31 (by omega)) ?_
            refine WL.val (Yl.sub (m := (x1551.length : Int)) (n := 1) (r := wi64 ((x1551.length : Int) - 1)) rfl rfl rfl) ?_
            refine WL.val (Yl.assign (v := .int .i64 (wi64 ((x1551.length : Int) - 1))) rfl) ?_
            refine WL.done ?_
            refine W.regionA [([5, 9], p1556), ([5, 9], CH.row g1288 0 (x1564.map (Value.int .u8)))] (by kernel_rfl) ?_
            have C1638 := Ctx.drewN C1566 1
            refine WA.take none [] 0 rfl (by kernel_rfl) (by kernel_rfl) (show _ = #[true, false, false, false, false, false, false, false, false, false, false] from rfl) trivial ⟨(Ctx.sub_of [] [CH.row g1288 0 (x1564.map (Value.int .u8)), CH.row g8 0 ((List.replicate 32 (0 : Int)).map (Value.int .u8))] C1638), (Ctx.sub_of [p1556] [CH.row g8 0 ((List.replicate 32 (0 : Int)).map (Value.int .u8))] C1638), trivial⟩ (fun _ hC_ => Yl.move (v := .slice A1552 n1554 c1553) ho1550) ?_
            refine WA.take none [] 1 rfl (by kernel_rfl) (by kernel_rfl) (show _ = #[true, true, false, false, false, false, false, false, false, false, false] from rfl) trivial ⟨(Ctx.sub_of [] [CH.row g1288 0 (x1564.map (Value.int .u8)), CH.row g8 0 ((List.replicate 32 (0 : Int)).map (Value.int .u8))] C1638), (Ctx.sub_of [p1556] [CH.row g8 0 ((List.replicate 32 (0 : Int)).map (Value.int .u8))] C1638), trivial⟩ (fun _ hC_ => Yl.move (v := .int .i64 (wi64 ((x1551.length : Int) - 1))) rfl) ?_
            obtain ⟨hc1639, hX1486⟩ := guardE hX1486
            obtain ⟨b1640, of1641, hA1642, he1643⟩ := (Row.sl hR1557) (by omega)
            refine WA.take none [] 2 rfl (by kernel_rfl) (by kernel_rfl) (show _ = #[true, true, true, false, false, false, false, false, false, false, false] from rfl) trivial ⟨(Ctx.sub_of [] [CH.row g1288 0 (x1564.map (Value.int .u8)), CH.row g8 0 ((List.replicate 32 (0 : Int)).map (Value.int .u8))] C1638), (Ctx.sub_of [p1556] [CH.row g8 0 ((List.replicate 32 (0 : Int)).map (Value.int .u8))] C1638), trivial⟩ (fun _ hC_ => Yl.elemAddr (i := wi64 ((x1551.length : Int) - 1)) rfl rfl hA1642 Tryd.underlying31 sz33 (by omega)) ?_
            obtain ⟨cs1644, hr1645, hx1646⟩ := he1643 (wi64 ((x1551.length : Int) - 1)).toNat _ (getD_some (d := []) (by omega))
            obtain ⟨rfl, ha1647⟩ := hr1645
            refine WA.take (some 0) [5, 9, 10] 3 rfl (by kernel_rfl) (by kernel_rfl) (show _ = #[true, true, true, true, false, false, false, false, false, false, false] from rfl) (Ctx.sub_of [] [CH.row g1288 0 (x1564.map (Value.int .u8)), CH.row g8 0 ((List.replicate 32 (0 : Int)).map (Value.int .u8))] C1638) ⟨(Ctx.sub_of [] [CH.row g1288 0 (x1564.map (Value.int .u8)), CH.row g8 0 ((List.replicate 32 (0 : Int)).map (Value.int .u8))] C1638), (Ctx.sub_of [p1556] [CH.row g8 0 ((List.replicate 32 (0 : Int)).map (Value.int .u8))] C1638), trivial⟩ (fun _ hC_ => Yl.loadAgg (cs := (x1551.getD (wi64 ((x1551.length : Int) - 1)).toNat []).map (Value.int .u8)) rfl Tryd.underlying33 rfl (sz_of sz33 (by first | (simp only [List.length_append, List.length_map, List.length_cons, List.length_nil, ha1647]; done) | simp [ha1647])) (fun j u hu => by rw [add_of]; exact ((show Sub p1556 _ from hC_)).cell (hx1646 _ _ hu))) ?_
            refine WA.take (some 1) [5, 9, 10] 4 rfl (by kernel_rfl) (by kernel_rfl) (show _ = #[true, true, true, true, true, false, false, false, false, false, false] from rfl) (Ctx.sub_of [p1556] [CH.row g8 0 ((List.replicate 32 (0 : Int)).map (Value.int .u8))] C1638) ⟨(Ctx.sub_of [] [CH.row g1288 0 (x1564.map (Value.int .u8)), CH.row g8 0 ((List.replicate 32 (0 : Int)).map (Value.int .u8))] C1638), (Ctx.sub_of [p1556] [CH.row g8 0 ((List.replicate 32 (0 : Int)).map (Value.int .u8))] C1638), trivial⟩ (fun _ hC_ => Yl.loadVA (g := g1288) (off := 0) (o := 0) (cs := x1564.map (Value.int .u8)) (us := x1564.map (Value.int .u8)) ho1558 Tryd.underlying33 rfl (sz_of sz33 (by first | (simp only [List.length_append, List.length_map, List.length_cons, List.length_nil, ha1565]; done) | simp [ha1565])) (show Sub (CH.row g1288 0 (x1564.map (Value.int .u8))) _ from hC_) (take_all _)) ?_
            refine WA.take none [] 6 rfl (by kernel_rfl) (by kernel_rfl) (show _ = #[true, true, true, true, true, false, true, false, false, false, false] from rfl) trivial ⟨(Ctx.sub_of [] [CH.row g1288 0 (x1564.map (Value.int .u8)), CH.row g8 0 ((List.replicate 32 (0 : Int)).map (Value.int .u8))] C1638), (Ctx.sub_of [p1556] [CH.row g8 0 ((List.replicate 32 (0 : Int)).map (Value.int .u8))] C1638), trivial⟩ (fun _ hC_ => Yl.move (v := .slice A1552 n1554 c1553) ho1550) ?_
            refine WA.take none [] 7 rfl (by kernel_rfl) (by kernel_rfl) (show _ = #[true, true, true, true, true, false, true, true, false, false, false] from rfl) trivial ⟨(Ctx.sub_of [] [CH.row g1288 0 (x1564.map (Value.int .u8)), CH.row g8 0 ((List.replicate 32 (0 : Int)).map (Value.int .u8))] C1638), (Ctx.sub_of [p1556] [CH.row g8 0 ((List.replicate 32 (0 : Int)).map (Value.int .u8))] C1638), trivial⟩ (fun _ hC_ => Yl.move (v := .int .i64 (wi64 ((x1551.length : Int) - 1))) rfl) ?_
            obtain ⟨hc1648, hX1486⟩ := guardE hX1486
            have hl1651 := (Row.len_le hR1557).1
            obtain ⟨hn1649, hR1650⟩ := Row.take hR1557 (wi64 ((x1551.length : Int) - 1)).toNat (by omega)
            refine WA.take none [] 8 rfl (by kernel_rfl) (by kernel_rfl) (show _ = #[true, true, true, true, true, false, true, true, true, false, false] from rfl) trivial ⟨(Ctx.sub_of [] [CH.row g1288 0 (x1564.map (Value.int .u8)), CH.row g8 0 ((List.replicate 32 (0 : Int)).map (Value.int .u8))] C1638), (Ctx.sub_of [p1556] [CH.row g8 0 ((List.replicate 32 (0 : Int)).map (Value.int .u8))] C1638), trivial⟩ (fun _ hC_ => Yl.sliceHi rfl Tryd.underlying31 sz33 rfl ⟨hc1648.1, by omega⟩) ?_
            obtain ⟨r1653, hg1652, hX1486⟩ := bindE hX1486
            refine WA.up1 5 (by kernel_rfl) (Up.call (args := #[.agg (List.toArray ((x1551.getD (wi64 ((x1551.length : Int) - 1)).toNat []).map (Value.int .u8))), .agg (List.toArray (x1564.map (Value.int .u8)))]) rfl (by kernel_rfl) (show _ = #[true, true, true, true, true, true, true, true, true, false, false] from rfl) (Yenter.fn Tryd.func25 (by kernel_rfl) rfl (argsE (.cons rfl (.cons rfl .nil)))) (proof_Node.calls k1613 _ F (x1551.getD (wi64 ((x1551.length : Int) - 1)).toNat []) x1564 (Ctx.pre (qs := []) (rest := [p1556, CH.row g1288 0 (x1564.map (Value.int .u8)), CH.row g8 0 ((List.replicate 32 (0 : Int)).map (Value.int .u8))]) C1638) ha1647 ha1565 (CH.le_trans hG1 (CH.le_trans (CH.le_refl _) (CH.le_refl _))) (CH.le_trans hG3 (CH.le_trans (CH.le_refl _) (CH.le_refl _))) r1653 hg1652) ?_)
            rintro e_ w_ ⟨rfl, C1655, ha1654⟩
            have C1656 : Ctx _ _ _ _ F [p1556, CH.row g1288 0 (x1564.map (Value.int .u8)), CH.row g8 0 ((List.replicate 32 (0 : Int)).map (Value.int .u8))] := Ctx.call (qs := []) (rest := [p1556, CH.row g1288 0 (x1564.map (Value.int .u8)), CH.row g8 0 ((List.replicate 32 (0 : Int)).map (Value.int .u8))]) C1638 C1655
            refine ⟨_, rfl, ⟨trivial, trivial, trivial⟩, ?_⟩
            obtain ⟨w1657, hy1658, C1659⟩ := ev_set (P := Tryd.prog) (ps1 := [p1556]) (ps2 := [CH.row g8 0 ((List.replicate 32 (0 : Int)).map (Value.int .u8))]) (t := 33) (o := 0) (x1564.map (Value.int .u8)) [] (x1564.map (Value.int .u8)) [] (r1653.map (Value.int .u8)) (.agg (List.toArray (r1653.map (Value.int .u8)))) C1656 (by first | (simp only [List.length_append, List.length_map, List.length_cons, List.length_nil, ha1565, ha1654]; done) | simp [ha1565, ha1654]) (by first | (simp only [List.length_append, List.length_map, List.length_cons, List.length_nil, ha1565, ha1654]; done) | simp [ha1565, ha1654]) (by first | (simp only [List.length_append, List.length_map, List.length_cons, List.length_nil, ha1565, ha1654]; done) | simp [ha1565, ha1654]) rfl (one_ints _ _) (sz_of sz33 (by first | (simp only [List.length_append, List.length_map, List.length_cons, List.length_nil, ha1654]; done) | simp [ha1654]))
            have C1660 : Ctx _ _ _ _ F [p1556, CH.row g1288 0 (r1653.map (Value.int .u8)), CH.row g8 0 ((List.replicate 32 (0 : Int)).map (Value.int .u8))] := (by simpa using C1659)
            refine WA.up1 9 (by kernel_rfl) (Up.skip rfl (show _ = #[true, true, true, true, true, true, true, true, true, true, false] from rfl) (hy1658 _ _ _ _ ho1558 rfl) ⟨trivial, trivial, trivial⟩ ?_)
            refine WA.take none [] 10 rfl (by kernel_rfl) (by kernel_rfl) (show _ = #[true, true, true, true, true, true, true, true, true, true, true] from rfl) trivial ⟨trivial, trivial, trivial⟩ (fun _ hC_ => Yl.assign (v := .slice A1552 ((wi64 ((x1551.length : Int) - 1)).toNat) c1553) rfl) ?_
            refine WA.done (by kernel_rfl) ?_
            refine inB_n ?_
            refine W.region rfl ?_
            refine WL.val (Yl.move (v := .int .i64 x1560) ho1559) ?_
            refine WL.val (Yl.shr (m := x1560) (n := 1) (r := shrOp .i64 x1560 1) rfl rfl (by decide) rfl) ?_
            refine WL.val (Yl.assign (v := .int .i64 (shrOp .i64 x1560 1)) rfl) ?_
            refine WL.done ?_
            exact thenE_n ⟨k1613, Nat.lt_succ_self _, x1551.take (wi64 ((x1551.length : Int) - 1)).toNat, shrOp .i64 x1560 1, r1653, A1552, c1553, (wi64 ((x1551.length : Int) - 1)).toNat, p1556, ho1549, rfl, ho1558, rfl, ho1561, ho1562, ho1563, C1660, hn1649, hR1650, ha1654, hX1486⟩
          · skip
            refine W.condF (congrArg Value.bool (decide_eq_false hc1615)) ?_
            refine W.exit ?_
            refine thenE_x ?_
            refine thenE_x ?_
            refine inB_here ?_
            cases hX1486
            refine thenE_n ?_
            exact ⟨A1552, c1553, n1554, p1556, ho1549, ho1550, ho1558, ho1561, ho1562, ho1563, C1566, hn1555, hR1557, ha1565⟩
        · skip
          rintro env_ w_ ⟨A1473, c1474, n1475, p1477, ho1470, ho1471, ho1479, ho1480, ho1481, ho1482, C1485, hn1476, hR1478, ha1484⟩
          refine W.region rfl ?_
          refine WL.val (Yl.move (v := .slice A1473 n1475 c1474) ho1471) ?_
          refine WL.val (Yl.loadVA (g := g1288) (off := 0) (o := 0) (cs := x1483.map (Value.int .u8)) (us := x1483.map (Value.int .u8)) ho1479 Tryd.underlying33 rfl (sz_of sz33 (by first | (simp only [List.length_append, List.length_map, List.length_cons, List.length_nil, ha1484]; done) | simp [ha1484])) (Ctx.sub_of [p1477] [CH.row g8 0 ((List.replicate 32 (0 : Int)).map (Value.int .u8))] C1485) (take_all _)) ?_
          obtain ⟨A1661, c1662, n1663, p1664, w1665, hn1666, hy1667, C1668, hR1669⟩ := ev_lit1' (P := Tryd.prog) 33 (Kd.arrI 32 .u8) C1485 Tryd.underlying31 ti33 ⟨by decide, by decide⟩ x1483 (.agg (List.toArray (x1483.map (Value.int .u8)))) ⟨rfl, ha1484⟩
          refine WL.val (hy1667 _ _ _ rfl) ?_
          obtain ⟨hc1670, hX858⟩ := guardE hX858
          obtain ⟨A1671, c1672, n1673, p1674, w1675, hn1676, hy1677, C1678, hR1679⟩ := ev_append' (P := Tryd.prog) (cb := c1662) 33 (Kd.arrI 32 .u8) [p1664] [CH.row g1288 0 (x1483.map (Value.int .u8)), CH.row g8 0 ((List.replicate 32 (0 : Int)).map (Value.int .u8))] C1668 hR1478 hn1666 (Row.sl hR1669) (Ctx.sub_of [] [p1477, CH.row g1288 0 (x1483.map (Value.int .u8)), CH.row g8 0 ((List.replicate 32 (0 : Int)).map (Value.int .u8))] C1668) Tryd.underlying31 ti33 rfl zo33 (by decide) (by decide) (by simpa using hc1670)
          have C1680 : Ctx _ _ _ _ F [p1664, p1674, CH.row g1288 0 (x1483.map (Value.int .u8)), CH.row g8 0 ((List.replicate 32 (0 : Int)).map (Value.int .u8))] := C1678
          refine WL.val (hy1677 _ _ _ _ rfl rfl) ?_
          refine WL.val (Yl.assign (v := .slice A1671 n1673 c1672) rfl) ?_
          refine WL.done ?_
          refine inB_n ?_
          refine W.region rfl ?_
          refine WL.val (Yl.add (m := x871) (n := 1) (r := wi64 (x871 + 1)) ho1482 rfl rfl) ?_
          refine WL.val (Yl.move (v := .int .i64 (wi64 (x871 + 1))) rfl) ?_
          refine WL.done ?_
          have C1681 : Ctx _ _ _ _ F [p1674, CH.row g1288 0 (x1483.map (Value.int .u8)), CH.row g8 0 ((List.replicate 32 (0 : Int)).map (Value.int .u8))] := Ctx.drop [] [p1674, CH.row g1288 0 (x1483.map (Value.int .u8)), CH.row g8 0 ((List.replicate 32 (0 : Int)).map (Value.int .u8))] C1680
          have C1682 : Ctx _ _ _ _ F [p1674, CH.row g8 0 ((List.replicate 32 (0 : Int)).map (Value.int .u8))] := Ctx.drop [p1674] [CH.row g8 0 ((List.replicate 32 (0 : Int)).map (Value.int .u8))] C1681
          exact thenE_n ⟨k1276, Nat.lt_succ_self _, x1472 ++ [x1483], wi64 (x871 + 1), A1671, c1672, n1673, p1674, ho1470, rfl, ho1480, ho1481, rfl, C1682, hn1676, hR1679, hX858⟩
      · skip
        refine W.condF (congrArg Value.bool (decide_eq_false hc1278)) ?_
        refine W.exit ?_
        refine thenE_x ?_
        refine thenE_x ?_
        refine inB_here ?_
        cases hX858
        refine thenE_n ?_
        exact ⟨A862, c863, n864, p866, ho859, ho860, C872, hn865, hR867⟩
    · skip
      rintro env_ w_ ⟨A851, c852, n853, p855, ho848, ho849, C857, hn854, hR856⟩
      refine W.seq ?_
      refine W.region rfl ?_
      refine WL.val (Yl.move (v := .slice A851 n853 c852) ho849) ?_
      refine WL.val (Yl.lenN (A := A851) (l := n853) (q := c852) (n := (x850.length : Int)) rfl Tryd.underlying31 (by omega)) ?_
      refine WL.val (Yl.sub (m := (x850.length : Int)) (n := 1) (r := wi64 ((x850.length : Int) - 1)) rfl rfl rfl) ?_
      refine WL.val (Yl.assign (v := .int .i64 (wi64 ((x850.length : Int) - 1))) rfl) ?_
      refine WL.done ?_
      refine W.seq ?_
      refine W.region rfl ?_
      refine WL.val (Yl.move (v := .slice A851 n853 c852) ho849) ?_
      refine WL.val (Yl.move (v := .int .i64 (wi64 ((x850.length : Int) - 1))) rfl) ?_
      obtain ⟨hc1683, H⟩ := guardE H
      obtain ⟨b1684, of1685, hA1686, he1687⟩ := (Row.sl hR856) (by omega)
      refine WL.val (Yl.elemAddr (i := wi64 ((x850.length : Int) - 1)) rfl rfl hA1686 Tryd.underlying31 sz33 (by omega)) ?_
      obtain ⟨cs1688, hr1689, hx1690⟩ := he1687 (wi64 ((x850.length : Int) - 1)).toNat _ (getD_some (d := []) (by omega))
      obtain ⟨rfl, ha1691⟩ := hr1689
      refine WL.val (Yl.loadAgg (cs := (x850.getD (wi64 ((x850.length : Int) - 1)).toNat []).map (Value.int .u8)) rfl Tryd.underlying33 rfl (sz_of sz33 (by first | (simp only [List.length_append, List.length_map, List.length_cons, List.length_nil, ha1691]; done) | simp [ha1691])) (fun j u hu => by rw [add_of]; exact ((Ctx.sub_of [] [CH.row g8 0 ((List.replicate 32 (0 : Int)).map (Value.int .u8))] C857)).cell (hx1690 _ _ hu))) ?_
      obtain ⟨g1692, w1693, hy1694, C1695⟩ := ev_alloc (P := Tryd.prog) (e := 33) ((List.replicate 32 (0 : Int)).map (Value.int .u8)) C857 zr33 rfl
      refine WL.val (hy1694 _ _) ?_
      obtain ⟨w1696, hy1697, C1698⟩ := ev_set (P := Tryd.prog) (ps1 := []) (ps2 := [p855, CH.row g8 0 ((List.replicate 32 (0 : Int)).map (Value.int .u8))]) (t := 33) (o := 0) ((List.replicate 32 (0 : Int)).map (Value.int .u8)) [] ((List.replicate 32 (0 : Int)).map (Value.int .u8)) [] ((x850.getD (wi64 ((x850.length : Int) - 1)).toNat []).map (Value.int .u8)) (.agg (List.toArray ((x850.getD (wi64 ((x850.length : Int) - 1)).toNat []).map (Value.int .u8)))) C1695 (by first | (simp only [List.length_append, List.length_map, List.length_cons, List.length_nil, (List.length_replicate ..), ha1691]; done) | simp [(List.length_replicate ..), ha1691]) (by first | (simp only [List.length_append, List.length_map, List.length_cons, List.length_nil, (List.length_replicate ..), ha1691]; done) | simp [(List.length_replicate ..), ha1691]) (by first | (simp only [List.length_append, List.length_map, List.length_cons, List.length_nil, (List.length_replicate ..), ha1691]; done) | simp [(List.length_replicate ..), ha1691]) rfl (one_ints _ _) (sz_of sz33 (by first | (simp only [List.length_append, List.length_map, List.length_cons, List.length_nil, ha1691]; done) | simp [ha1691]))
      have C1699 : Ctx _ _ _ _ F [CH.row g1692 0 ((x850.getD (wi64 ((x850.length : Int) - 1)).toNat []).map (Value.int .u8)), p855, CH.row g8 0 ((List.replicate 32 (0 : Int)).map (Value.int .u8))] := (by simpa using C1698)
      refine WL.skip (hy1697 _ _ _ _ rfl rfl) ?_
      refine WL.done ?_
      refine W.seq ?_
      refine W.seq ?_
      refine W.region rfl ?_
      refine WL.val (Yl.move (v := .int .i64 (wi64 ((x850.length : Int) - 1))) rfl) ?_
      refine WL.val (Yl.move (v := .int .i64 0) rfl) ?_
      refine WL.done ?_
      obtain ⟨x1811, hX1814, H⟩ := bindE H
      refine W.cutM (fun env_ w_ => env_ 2 = .pointer (some ⟨g8, 0, none⟩) ∧ env_ 9 = .pointer (some ⟨g1692, 0, none⟩) ∧ Ctx w F D w_ F [CH.row g1692 0 (x1811.map (Value.int .u8)), p855, CH.row g8 0 ((List.replicate 32 (0 : Int)).map (Value.int .u8))] ∧ x1811.length = 32) ?_ ?_
      · skip
        refine W.block ?_
        refine W.loop (fun g_ env_ w_ => ∃ (x1859 : Int) (x1860 : List Int), env_ 2 = .pointer (some ⟨g8, 0, none⟩) ∧ env_ 3 = .slice A851 n853 c852 ∧ env_ 8 = .int .i64 (wi64 ((x850.length : Int) - 1)) ∧ env_ 9 = .pointer (some ⟨g1692, 0, none⟩) ∧ env_ 52 = .int .i64 (wi64 ((x850.length : Int) - 1)) ∧ env_ 53 = .int .i64 x1859 ∧ Ctx w F D w_ F [CH.row g1692 0 (x1860.map (Value.int .u8)), p855, CH.row g8 0 ((List.replicate 32 (0 : Int)).map (Value.int .u8))] ∧ x1860.length = 32 ∧ proof_Root.l3 g_ x850 x1859 x1860 = some x1811) k ⟨0, x850.getD (wi64 ((x850.length : Int) - 1)).toNat [], ho848, ho849, rfl, rfl, rfl, rfl, C1699, ha1691, hX1814⟩ ?_
        clear hX1814
        rintro g_ env_ w_ ⟨x1859, x1860, ho1853, ho1854, ho1855, ho1856, ho1857, ho1858, C1862, ha1861, hX1814⟩
        rcases g_ with _ | k1893
        · exact absurd hX1814 (by simp [proof_Root.l3])
        rw [proof_Root.l3] at hX1814
        refine W.seq ?_
        refine W.region rfl ?_
        refine WL.val (Yl.lss (m := x1859) (n := wi64 ((x850.length : Int) - 1)) (q := decide (x1859 < (wi64 ((x850.length : Int) - 1)))) ho1858 ho1857 rfl) ?_
        refine WL.done ?_
        refine W.seq ?_
        rcases iteE hX1814 with ⟨hc1894, hX1814⟩ | ⟨hc1894, hX1814⟩
        · skip
          refine W.condT (congrArg Value.bool (decide_eq_true hc1894)) ?_
          refine W.skip ?_
          refine W.seq ?_
          refine W.block ?_
          refine W.seq ?_
          refine W.region rfl ?_
          refine WL.val (Yl.move (v := .int .i64 x1859) ho1858) ?_
          refine WL.val (Yl.assign (v := .int .i64 x1859) rfl) ?_
          refine WL.done ?_
          refine W.regionA [([8, 9], p855), ([8, 9], CH.row g1692 0 (x1860.map (Value.int .u8)))] (by kernel_rfl) ?_
          have C1909 := Ctx.drewN C1862 1
          refine WA.take none [] 0 rfl (by kernel_rfl) (by kernel_rfl) (show _ = #[true, false, false, false, false, false, false, false, false, false] from rfl) trivial ⟨(Ctx.sub_of [CH.row g1692 0 (x1860.map (Value.int .u8))] [CH.row g8 0 ((List.replicate 32 (0 : Int)).map (Value.int .u8))] C1909), (Ctx.sub_of [] [p855, CH.row g8 0 ((List.replicate 32 (0 : Int)).map (Value.int .u8))] C1909), trivial⟩ (fun _ hC_ => Yl.move (v := .slice A851 n853 c852) ho1854) ?_
          refine WA.take none [] 1 rfl (by kernel_rfl) (by kernel_rfl) (show _ = #[true, true, false, false, false, false, false, false, false, false] from rfl) trivial ⟨(Ctx.sub_of [CH.row g1692 0 (x1860.map (Value.int .u8))] [CH.row g8 0 ((List.replicate 32 (0 : Int)).map (Value.int .u8))] C1909), (Ctx.sub_of [] [p855, CH.row g8 0 ((List.replicate 32 (0 : Int)).map (Value.int .u8))] C1909), trivial⟩ (fun _ hC_ => Yl.move (v := .int .i64 (wi64 ((x850.length : Int) - 1))) ho1855) ?_
          refine WA.take none [] 2 rfl (by kernel_rfl) (by kernel_rfl) (show _ = #[true, true, true, false, false, false, false, false, false, false] from rfl) trivial ⟨(Ctx.sub_of [CH.row g1692 0 (x1860.map (Value.int .u8))] [CH.row g8 0 ((List.replicate 32 (0 : Int)).map (Value.int .u8))] C1909), (Ctx.sub_of [] [p855, CH.row g8 0 ((List.replicate 32 (0 : Int)).map (Value.int .u8))] C1909), trivial⟩ (fun _ hC_ => Yl.sub (m := wi64 ((x850.length : Int) - 1)) (n := 1) (r := wi64 ((wi64 ((x850.length : Int) - 1)) - 1)) rfl rfl rfl) ?_
          refine WA.take none [] 3 rfl (by kernel_rfl) (by kernel_rfl) (show _ = #[true, true, true, true, false, false, false, false, false, false] from rfl) trivial ⟨(Ctx.sub_of [CH.row g1692 0 (x1860.map (Value.int .u8))] [CH.row g8 0 ((List.replicate 32 (0 : Int)).map (Value.int .u8))] C1909), (Ctx.sub_of [] [p855, CH.row g8 0 ((List.replicate 32 (0 : Int)).map (Value.int .u8))] C1909), trivial⟩ (fun _ hC_ => Yl.move (v := .int .i64 x1859) rfl) ?_
          refine WA.take none [] 4 rfl (by kernel_rfl) (by kernel_rfl) (show _ = #[true, true, true, true, true, false, false, false, false, false] from rfl) trivial ⟨(Ctx.sub_of [CH.row g1692 0 (x1860.map (Value.int .u8))] [CH.row g8 0 ((List.replicate 32 (0 : Int)).map (Value.int .u8))] C1909), (Ctx.sub_of [] [p855, CH.row g8 0 ((List.replicate 32 (0 : Int)).map (Value.int .u8))] C1909), trivial⟩ (fun _ hC_ => Yl.sub (m := wi64 ((wi64 ((x850.length : Int) - 1)) - 1)) (n := x1859) (r := wi64 ((wi64 ((wi64 ((x850.length : Int) - 1)) - 1)) - x1859)) rfl rfl rfl) ?_
          obtain ⟨hc1910, hX1814⟩ := guardE hX1814
          refine WA.take none [] 5 rfl (by kernel_rfl) (by kernel_rfl) (show _ = #[true, true, true, true, true, true, false, false, false, false] from rfl) trivial ⟨(Ctx.sub_of [CH.row g1692 0 (x1860.map (Value.int .u8))] [CH.row g8 0 ((List.replicate 32 (0 : Int)).map (Value.int .u8))] C1909), (Ctx.sub_of [] [p855, CH.row g8 0 ((List.replicate 32 (0 : Int)).map (Value.int .u8))] C1909), trivial⟩ (fun _ hC_ => Yl.elemAddr (i := wi64 ((wi64 ((wi64 ((x850.length : Int) - 1)) - 1)) - x1859)) rfl rfl hA1686 Tryd.underlying31 sz33 (by omega)) ?_
          obtain ⟨cs1911, hr1912, hx1913⟩ := he1687 (wi64 ((wi64 ((wi64 ((x850.length : Int) - 1)) - 1)) - x1859)).toNat _ (getD_some (d := []) (by omega))
          obtain ⟨rfl, ha1914⟩ := hr1912
          refine WA.take (some 0) [8, 9] 6 rfl (by kernel_rfl) (by kernel_rfl) (show _ = #[true, true, true, true, true, true, true, false, false, false] from rfl) (Ctx.sub_of [CH.row g1692 0 (x1860.map (Value.int .u8))] [CH.row g8 0 ((List.replicate 32 (0 : Int)).map (Value.int .u8))] C1909) ⟨(Ctx.sub_of [CH.row g1692 0 (x1860.map (Value.int .u8))] [CH.row g8 0 ((List.replicate 32 (0 : Int)).map (Value.int .u8))] C1909), (Ctx.sub_of [] [p855, CH.row g8 0 ((List.replicate 32 (0 : Int)).map (Value.int .u8))] C1909), trivial⟩ (fun _ hC_ => Yl.loadAgg (cs := (x850.getD (wi64 ((wi64 ((wi64 ((x850.length : Int) - 1)) - 1)) - x1859)).toNat []).map (Value.int .u8)) rfl Tryd.underlying33 rfl (sz_of sz33 (by first | (simp only [List.length_append, List.length_map, List.length_cons, List.length_nil, ha1914]; done) | simp [ha1914])) (fun j u hu => by rw [add_of]; exact ((show Sub p855 _ from hC_)).cell (hx1913 _ _ hu))) ?_
          refine WA.take (some 1) [8, 9] 7 rfl (by kernel_rfl) (by kernel_rfl) (show _ = #[true, true, true, true, true, true, true, true, false, false] from rfl) (Ctx.sub_of [] [p855, CH.row g8 0 ((List.replicate 32 (0 : Int)).map (Value.int .u8))] C1909) ⟨(Ctx.sub_of [CH.row g1692 0 (x1860.map (Value.int .u8))] [CH.row g8 0 ((List.replicate 32 (0 : Int)).map (Value.int .u8))] C1909), (Ctx.sub_of [] [p855, CH.row g8 0 ((List.replicate 32 (0 : Int)).map (Value.int .u8))] C1909), trivial⟩ (fun _ hC_ => Yl.loadVA (g := g1692) (off := 0) (o := 0) (cs := x1860.map (Value.int .u8)) (us := x1860.map (Value.int .u8)) ho1856 Tryd.underlying33 rfl (sz_of sz33 (by first | (simp only [List.length_append, List.length_map, List.length_cons, List.length_nil, ha1861]; done) | simp [ha1861])) (show Sub (CH.row g1692 0 (x1860.map (Value.int .u8))) _ from hC_) (take_all _)) ?_
          obtain ⟨r1916, hg1915, hX1814⟩ := bindE hX1814
          refine WA.up1 8 (by kernel_rfl) (Up.call (args := #[.agg (List.toArray ((x850.getD (wi64 ((wi64 ((wi64 ((x850.length : Int) - 1)) - 1)) - x1859)).toNat []).map (Value.int .u8))), .agg (List.toArray (x1860.map (Value.int .u8)))]) rfl (by kernel_rfl) (show _ = #[true, true, true, true, true, true, true, true, true, false] from rfl) (Yenter.fn Tryd.func25 (by kernel_rfl) rfl (argsE (.cons rfl (.cons rfl .nil)))) (proof_Node.calls k1893 _ F (x850.getD (wi64 ((wi64 ((wi64 ((x850.length : Int) - 1)) - 1)) - x1859)).toNat []) x1860 (Ctx.pre (qs := []) (rest := [CH.row g1692 0 (x1860.map (Value.int .u8)), p855, CH.row g8 0 ((List.replicate 32 (0 : Int)).map (Value.int .u8))]) C1909) ha1914 ha1861 (CH.le_trans hG1 (CH.le_trans (CH.le_refl _) (CH.le_refl _))) (CH.le_trans hG3 (CH.le_trans (CH.le_refl _) (CH.le_refl _))) r1916 hg1915) ?_)
          rintro e_ w_ ⟨rfl, C1918, ha1917⟩
          have C1919 : Ctx _ _ _ _ F [CH.row g1692 0 (x1860.map (Value.int .u8)), p855, CH.row g8 0 ((List.replicate 32 (0 : Int)).map (Value.int .u8))] := Ctx.call (qs := []) (rest := [CH.row g1692 0 (x1860.map (Value.int .u8)), p855, CH.row g8 0 ((List.replicate 32 (0 : Int)).map (Value.int .u8))]) C1909 C1918
          refine ⟨_, rfl, ⟨trivial, trivial, trivial⟩, ?_⟩
          obtain ⟨w1920, hy1921, C1922⟩ := ev_set (P := Tryd.prog) (ps1 := []) (ps2 := [p855, CH.row g8 0 ((List.replicate 32 (0 : Int)).map (Value.int .u8))]) (t := 33) (o := 0) (x1860.map (Value.int .u8)) [] (x1860.map (Value.int .u8)) [] (r1916.map (Value.int .u8)) (.agg (List.toArray (r1916.map (Value.int .u8)))) C1919 (by first | (simp only [List.length_append, List.length_map, List.length_cons, List.length_nil, ha1861, ha1917]; done) | simp [ha1861, ha1917]) (by first | (simp only [List.length_append, List.length_map, List.length_cons, List.length_nil, ha1861, ha1917]; done) | simp [ha1861, ha1917]) (by first | (simp only [List.length_append, List.length_map, List.length_cons, List.length_nil, ha1861, ha1917]; done) | simp [ha1861, ha1917]) rfl (one_ints _ _) (sz_of sz33 (by first | (simp only [List.length_append, List.length_map, List.length_cons, List.length_nil, ha1917]; done) | simp [ha1917]))
          have C1923 : Ctx _ _ _ _ F [CH.row g1692 0 (r1916.map (Value.int .u8)), p855, CH.row g8 0 ((List.replicate 32 (0 : Int)).map (Value.int .u8))] := (by simpa using C1922)
          refine WA.up1 9 (by kernel_rfl) (Up.skip rfl (show _ = #[true, true, true, true, true, true, true, true, true, true] from rfl) (hy1921 _ _ _ _ ho1856 rfl) ⟨trivial, trivial, trivial⟩ ?_)
          refine WA.done (by kernel_rfl) ?_
          refine inB_n ?_
          refine W.region rfl ?_
          refine WL.val (Yl.add (m := x1859) (n := 1) (r := wi64 (x1859 + 1)) ho1858 rfl rfl) ?_
          refine WL.val (Yl.move (v := .int .i64 (wi64 (x1859 + 1))) rfl) ?_
          refine WL.done ?_
          exact thenE_n ⟨k1893, Nat.lt_succ_self _, wi64 (x1859 + 1), r1916, ho1853, ho1854, ho1855, ho1856, ho1857, rfl, C1923, ha1917, hX1814⟩
        · skip
          refine W.condF (congrArg Value.bool (decide_eq_false hc1894)) ?_
          refine W.exit ?_
          refine thenE_x ?_
          refine thenE_x ?_
          refine inB_here ?_
          cases hX1814
          refine thenE_n ?_
          exact ⟨ho1853, ho1856, C1862, ha1861⟩
      · skip
        rintro env_ w_ ⟨ho1809, ho1810, C1813, ha1812⟩
        refine W.seq ?_
        refine W.region rfl ?_
        refine WL.val (Yl.loadVA (g := g1692) (off := 0) (o := 0) (cs := x1811.map (Value.int .u8)) (us := x1811.map (Value.int .u8)) ho1810 Tryd.underlying33 rfl (sz_of sz33 (by first | (simp only [List.length_append, List.length_map, List.length_cons, List.length_nil, ha1812]; done) | simp [ha1812])) (Ctx.sub_of [] [p855, CH.row g8 0 ((List.replicate 32 (0 : Int)).map (Value.int .u8))] C1813) (take_all _)) ?_
        obtain ⟨w1924, hy1925, C1926⟩ := ev_set (P := Tryd.prog) (ps1 := [CH.row g1692 0 (x1811.map (Value.int .u8)), p855]) (ps2 := []) (t := 33) (o := 0) ((List.replicate 32 (0 : Int)).map (Value.int .u8)) [] ((List.replicate 32 (0 : Int)).map (Value.int .u8)) [] (x1811.map (Value.int .u8)) (.agg (List.toArray (x1811.map (Value.int .u8)))) C1813 (by first | (simp only [List.length_append, List.length_map, List.length_cons, List.length_nil, (List.length_replicate ..), ha1812]; done) | simp [(List.length_replicate ..), ha1812]) (by first | (simp only [List.length_append, List.length_map, List.length_cons, List.length_nil, (List.length_replicate ..), ha1812]; done) | simp [(List.length_replicate ..), ha1812]) (by first | (simp only [List.length_append, List.length_map, List.length_cons, List.length_nil, (List.length_replicate ..), ha1812]; done) | simp [(List.length_replicate ..), ha1812]) rfl (one_ints _ _) (sz_of sz33 (by first | (simp only [List.length_append, List.length_map, List.length_cons, List.length_nil, ha1812]; done) | simp [ha1812]))
        have C1927 : Ctx _ _ _ _ F [CH.row g1692 0 (x1811.map (Value.int .u8)), p855, CH.row g8 0 (x1811.map (Value.int .u8))] := (by simpa using C1926)
        refine WL.skip (hy1925 _ _ _ _ ho1809 rfl) ?_
        refine WL.done ?_
        refine W.ret ?_
        have C1928 : Ctx _ _ _ _ F [p855, CH.row g8 0 (x1811.map (Value.int .u8))] := Ctx.drop [] [p855, CH.row g8 0 (x1811.map (Value.int .u8))] C1927
        have C1929 : Ctx _ _ _ _ F [CH.row g8 0 (x1811.map (Value.int .u8))] := Ctx.drop [] [CH.row g8 0 (x1811.map (Value.int .u8))] C1928
        have C1930 : Ctx _ _ _ _ F [] := Ctx.drop [] [] C1929
        have e1931 := Option.some.inj H
        subst e1931
        exact post_r (resEC rfl ((.cell ho1809 (run_loadVA2 (g := g8) (off := 0) (o := 0) (cs := x1811.map (Value.int .u8)) (us := x1811.map (Value.int .u8)) Tryd.underlying33 rfl (sz_of sz33 (by first | (simp only [List.length_append, List.length_map, List.length_cons, List.length_nil, ha1812]; done) | simp [ha1812])) (Ctx.sub_of [CH.row g1692 0 (x1811.map (Value.int .u8)), p855] [] C1927) (take_all _)) .nil))) ⟨rfl, C1930, ha1812⟩
def proof_turned.l1 : Nat → List (List Int) → List (List Int) → Int → Option (List (List Int))
  | 0, _, _, _ => none
  | k + 1, a0, x329, x338 => if x338 < (wi64 ((a0.length : Int).tdiv 2)) then (if 0 ≤ (wi64 ((wi64 ((x329.length : Int) - 1)) - x338)) ∧ (wi64 ((wi64 ((x329.length : Int) - 1)) - x338)) < (x329.length : Int) then (if 0 ≤ x338 ∧ x338 < (x329.length : Int) then (if 0 ≤ (wi64 ((wi64 ((x329.length : Int) - 1)) - x338)) ∧ (wi64 ((wi64 ((x329.length : Int) - 1)) - x338)) < ((x329.set x338.toNat (x329.getD (wi64 ((wi64 ((x329.length : Int) - 1)) - x338)).toNat [])).length : Int) then (proof_turned.l1 k a0 ((x329.set x338.toNat (x329.getD (wi64 ((wi64 ((x329.length : Int) - 1)) - x338)).toNat [])).set (wi64 ((wi64 ((x329.length : Int) - 1)) - x338)).toNat (x329.getD x338.toNat [])) (wi64 (x338 + 1))) else none) else none) else none) else (some x329)
def proof_turned.f (k : Nat) (a0 : List (List Int)) : Option (List (List Int)) := (proof_turned.l1 k a0 a0 0).bind fun x242 => some x242
set_option maxRecDepth 100000 in
set_option maxHeartbeats 4000000 in
theorem proof_turned.calls (k : Nat) (w : World) (F : CH) (A1 : Option Addr) (c2 : Nat) (n3 : Nat) (p5 : CH) (a0 : List (List Int)) (hp : Pre w F [p5]) (hn4 : n3 = a0.length) (hR6 : Row (Kd.arrI 32 .u8) F p5 (.slice A1 n3 c2) a0) (r0_ : List (List Int)) (H : proof_turned.f k a0 = some r0_) :
    Calls Tryd.prog 57 #[.slice A1 n3 c2] w fun e w' => ∃ (A486 : Option Addr) (c487 : Nat) (n488 : Nat) (p490 : CH), e = .returned (.slice A486 n488 c487) ∧ Ctx w F (domL [p5]) w' F [p490] ∧ n488 = r0_.length ∧ Row (Kd.arrI 32 .u8) F p490 (.slice A486 n488 c487) r0_ := by
  have C := Ctx.start hp
  generalize hD : domL [p5] = D at C ⊢
  unfold proof_turned.f at H
  refine Calls.ofW Tryd.func57 rfl (by simp [Tryd.ntmps57]) ?_
  refine W.seq ?_
  refine W.region rfl ?_
  refine WL.val (Yl.assign (v := .slice none 0 0) rfl) ?_
  refine WL.done ?_
  refine W.seq ?_
  refine W.seq ?_
  refine W.region rfl ?_
  refine WL.val (Yl.move (v := .slice A1 n3 c2) rfl) ?_
  refine WL.val (Yl.lenN (A := A1) (l := n3) (q := c2) (n := (a0.length : Int)) rfl Tryd.underlying31 (by omega)) ?_
  refine WL.val (Yl.quo (m := (a0.length : Int)) (n := 2) (r := wi64 ((a0.length : Int).tdiv 2)) rfl rfl (by decide) rfl) ?_
  refine WL.val (Yl.move (v := .int .i64 0) rfl) ?_
  refine WL.done ?_
  obtain ⟨x242, hX250, H⟩ := bindE H
  refine W.cutM (fun env_ w_ => ∃ (A243 : Option Addr) (c244 : Nat) (n245 : Nat) (p247 : CH), env_ 0 = .slice A243 n245 c244 ∧ Ctx w F D w_ F [p247] ∧ n245 = x242.length ∧ Row (Kd.arrI 32 .u8) F p247 (.slice A243 n245 c244) x242) ?_ ?_
  · skip
    refine W.block ?_
    refine W.loop (fun g_ env_ w_ => ∃ (x329 : List (List Int)) (x338 : Int) (A330 : Option Addr) (c331 : Nat) (n332 : Nat) (p334 : CH), env_ 0 = .slice A330 n332 c331 ∧ env_ 6 = .int .i64 (wi64 ((a0.length : Int).tdiv 2)) ∧ env_ 7 = .int .i64 x338 ∧ Ctx w F D w_ F [p334] ∧ n332 = x329.length ∧ Row (Kd.arrI 32 .u8) F p334 (.slice A330 n332 c331) x329 ∧ proof_turned.l1 g_ a0 x329 x338 = some x242) k ⟨a0, 0, A1, c2, n3, p5, rfl, rfl, rfl, C, hn4, hR6, hX250⟩ ?_
    clear hX250
    rintro g_ env_ w_ ⟨x329, x338, A330, c331, n332, p334, ho328, ho336, ho337, C339, hn333, hR335, hX250⟩
    rcases g_ with _ | k412
    · exact absurd hX250 (by simp [proof_turned.l1])
    rw [proof_turned.l1] at hX250
    refine W.seq ?_
    refine W.region rfl ?_
    refine WL.val (Yl.lss (m := x338) (n := wi64 ((a0.length : Int).tdiv 2)) (q := decide (x338 < (wi64 ((a0.length : Int).tdiv 2)))) ho337 ho336 rfl) ?_
    refine WL.done ?_
    refine W.seq ?_
    rcases iteE hX250 with ⟨hc413, hX250⟩ | ⟨hc413, hX250⟩
    · skip
      refine W.condT (congrArg Value.bool (decide_eq_true hc413)) ?_
      refine W.skip ?_
      refine W.seq ?_
      refine W.block ?_
      refine W.seq ?_
      refine W.region rfl ?_
      refine WL.val (Yl.move (v := .int .i64 x338) ho337) ?_
      refine WL.val (Yl.assign (v := .int .i64 x338) rfl) ?_
      refine WL.done ?_
      refine W.regionA [([21, 23], p334)] (by kernel_rfl) ?_
      have C449 := Ctx.drewN C339 1
      refine WA.take none [] 0 rfl (by kernel_rfl) (by kernel_rfl) (show _ = #[true, false, false, false, false, false, false, false, false, false, false, false, false, false, false, false, false, false, false, false, false, false, false, false] from rfl) trivial ⟨(Ctx.sub_of [] [] C449), trivial⟩ (fun _ hC_ => Yl.move (v := .slice A330 n332 c331) ho328) ?_
      refine WA.take none [] 1 rfl (by kernel_rfl) (by kernel_rfl) (show _ = #[true, true, false, false, false, false, false, false, false, false, false, false, false, false, false, false, false, false, false, false, false, false, false, false] from rfl) trivial ⟨(Ctx.sub_of [] [] C449), trivial⟩ (fun _ hC_ => Yl.move (v := .int .i64 x338) rfl) ?_
      refine WA.take none [] 2 rfl (by kernel_rfl) (by kernel_rfl) (show _ = #[true, true, true, false, false, false, false, false, false, false, false, false, false, false, false, false, false, false, false, false, false, false, false, false] from rfl) trivial ⟨(Ctx.sub_of [] [] C449), trivial⟩ (fun _ hC_ => Yl.move (v := .slice A330 n332 c331) ho328) ?_
      refine WA.take none [] 3 rfl (by kernel_rfl) (by kernel_rfl) (show _ = #[true, true, true, true, false, false, false, false, false, false, false, false, false, false, false, false, false, false, false, false, false, false, false, false] from rfl) trivial ⟨(Ctx.sub_of [] [] C449), trivial⟩ (fun _ hC_ => Yl.move (v := .slice A330 n332 c331) ho328) ?_
      refine WA.take none [] 4 rfl (by kernel_rfl) (by kernel_rfl) (show _ = #[true, true, true, true, true, false, false, false, false, false, false, false, false, false, false, false, false, false, false, false, false, false, false, false] from rfl) trivial ⟨(Ctx.sub_of [] [] C449), trivial⟩ (fun _ hC_ => Yl.lenN (A := A330) (l := n332) (q := c331) (n := (x329.length : Int)) rfl Tryd.underlying31 (by omega)) ?_
      refine WA.take none [] 5 rfl (by kernel_rfl) (by kernel_rfl) (show _ = #[true, true, true, true, true, true, false, false, false, false, false, false, false, false, false, false, false, false, false, false, false, false, false, false] from rfl) trivial ⟨(Ctx.sub_of [] [] C449), trivial⟩ (fun _ hC_ => Yl.sub (m := (x329.length : Int)) (n := 1) (r := wi64 ((x329.length : Int) - 1)) rfl rfl rfl) ?_
      refine WA.take none [] 6 rfl (by kernel_rfl) (by kernel_rfl) (show _ = #[true, true, true, true, true, true, true, false, false, false, false, false, false, false, false, false, false, false, false, false, false, false, false, false] from rfl) trivial ⟨(Ctx.sub_of [] [] C449), trivial⟩ (fun _ hC_ => Yl.move (v := .int .i64 x338) rfl) ?_
      refine WA.take none [] 7 rfl (by kernel_rfl) (by kernel_rfl) (show _ = #[true, true, true, true, true, true, true, true, false, false, false, false, false, false, false, false, false, false, false, false, false, false, false, false] from rfl) trivial ⟨(Ctx.sub_of [] [] C449), trivial⟩ (fun _ hC_ => Yl.sub (m := wi64 ((x329.length : Int) - 1)) (n := x338) (r := wi64 ((wi64 ((x329.length : Int) - 1)) - x338)) rfl rfl rfl) ?_
      refine WA.take none [] 8 rfl (by kernel_rfl) (by kernel_rfl) (show _ = #[true, true, true, true, true, true, true, true, true, false, false, false, false, false, false, false, false, false, false, false, false, false, false, false] from rfl) trivial ⟨(Ctx.sub_of [] [] C449), trivial⟩ (fun _ hC_ => Yl.move (v := .slice A330 n332 c331) ho328) ?_
      refine WA.take none [] 9 rfl (by kernel_rfl) (by kernel_rfl) (show _ = #[true, true, true, true, true, true, true, true, true, true, false, false, false, false, false, false, false, false, false, false, false, false, false, false] from rfl) trivial ⟨(Ctx.sub_of [] [] C449), trivial⟩ (fun _ hC_ => Yl.move (v := .slice A330 n332 c331) ho328) ?_
      refine WA.take none [] 10 rfl (by kernel_rfl) (by kernel_rfl) (show _ = #[true, true, true, true, true, true, true, true, true, true, true, false, false, false, false, false, false, false, false, false, false, false, false, false] from rfl) trivial ⟨(Ctx.sub_of [] [] C449), trivial⟩ (fun _ hC_ => Yl.lenN (A := A330) (l := n332) (q := c331) (n := (x329.length : Int)) rfl Tryd.underlying31 (by omega)) ?_
      refine WA.take none [] 11 rfl (by kernel_rfl) (by kernel_rfl) (show _ = #[true, true, true, true, true, true, true, true, true, true, true, true, false, false, false, false, false, false, false, false, false, false, false, false] from rfl) trivial ⟨(Ctx.sub_of [] [] C449), trivial⟩ (fun _ hC_ => Yl.sub (m := (x329.length : Int)) (n := 1) (r := wi64 ((x329.length : Int) - 1)) rfl rfl rfl) ?_
      refine WA.take none [] 12 rfl (by kernel_rfl) (by kernel_rfl) (show _ = #[true, true, true, true, true, true, true, true, true, true, true, true, true, false, false, false, false, false, false, false, false, false, false, false] from rfl) trivial ⟨(Ctx.sub_of [] [] C449), trivial⟩ (fun _ hC_ => Yl.move (v := .int .i64 x338) rfl) ?_
      refine WA.take none [] 13 rfl (by kernel_rfl) (by kernel_rfl) (show _ = #[true, true, true, true, true, true, true, true, true, true, true, true, true, true, false, false, false, false, false, false, false, false, false, false] from rfl) trivial ⟨(Ctx.sub_of [] [] C449), trivial⟩ (fun _ hC_ => Yl.sub (m := wi64 ((x329.length : Int) - 1)) (n := x338) (r := wi64 ((wi64 ((x329.length : Int) - 1)) - x338)) rfl rfl rfl) ?_
      obtain ⟨hc450, hX250⟩ := guardE hX250
      obtain ⟨b451, of452, hA453, he454⟩ := (Row.sl hR335) (by omega)
      refine WA.take none [] 14 rfl (by kernel_rfl) (by kernel_rfl) (show _ = #[true, true, true, true, true, true, true, true, true, true, true, true, true, true, true, false, false, false, false, false, false, false, false, false] from rfl) trivial ⟨(Ctx.sub_of [] [] C449), trivial⟩ (fun _ hC_ => Yl.elemAddr (i := wi64 ((wi64 ((x329.length : Int) - 1)) - x338)) rfl rfl hA453 Tryd.underlying31 sz33 (by omega)) ?_
      obtain ⟨cs455, hr456, hx457⟩ := he454 (wi64 ((wi64 ((x329.length : Int) - 1)) - x338)).toNat _ (getD_some (d := []) (by omega))
      obtain ⟨rfl, ha458⟩ := hr456
      refine WA.take (some 0) [20, 21, 22, 23] 15 rfl (by kernel_rfl) (by kernel_rfl) (show _ = #[true, true, true, true, true, true, true, true, true, true, true, true, true, true, true, true, false, false, false, false, false, false, false, false] from rfl) (Ctx.sub_of [] [] C449) ⟨(Ctx.sub_of [] [] C449), trivial⟩ (fun _ hC_ => Yl.loadAgg (cs := (x329.getD (wi64 ((wi64 ((x329.length : Int) - 1)) - x338)).toNat []).map (Value.int .u8)) rfl Tryd.underlying33 rfl (sz_of sz33 (by first | (simp only [List.length_append, List.length_map, List.length_cons, List.length_nil, ha458]; done) | simp [ha458])) (fun j u hu => by rw [add_of]; exact ((show Sub p334 _ from hC_)).cell (hx457 _ _ hu))) ?_
      refine WA.take none [] 16 rfl (by kernel_rfl) (by kernel_rfl) (show _ = #[true, true, true, true, true, true, true, true, true, true, true, true, true, true, true, true, true, false, false, false, false, false, false, false] from rfl) trivial ⟨(Ctx.sub_of [] [] C449), trivial⟩ (fun _ hC_ => Yl.move (v := .slice A330 n332 c331) ho328) ?_
      refine WA.take none [] 17 rfl (by kernel_rfl) (by kernel_rfl) (show _ = #[true, true, true, true, true, true, true, true, true, true, true, true, true, true, true, true, true, true, false, false, false, false, false, false] from rfl) trivial ⟨(Ctx.sub_of [] [] C449), trivial⟩ (fun _ hC_ => Yl.move (v := .int .i64 x338) rfl) ?_
      obtain ⟨hc459, hX250⟩ := guardE hX250
      refine WA.take none [] 18 rfl (by kernel_rfl) (by kernel_rfl) (show _ = #[true, true, true, true, true, true, true, true, true, true, true, true, true, true, true, true, true, true, true, false, false, false, false, false] from rfl) trivial ⟨(Ctx.sub_of [] [] C449), trivial⟩ (fun _ hC_ => Yl.elemAddr (i := x338) rfl rfl hA453 Tryd.underlying31 sz33 (by omega)) ?_
      obtain ⟨cs460, hr461, hx462⟩ := he454 x338.toNat _ (getD_some (d := []) (by omega))
      obtain ⟨rfl, ha463⟩ := hr461
      refine WA.take (some 0) [20, 21, 22, 23] 19 rfl (by kernel_rfl) (by kernel_rfl) (show _ = #[true, true, true, true, true, true, true, true, true, true, true, true, true, true, true, true, true, true, true, true, false, false, false, false] from rfl) (Ctx.sub_of [] [] C449) ⟨(Ctx.sub_of [] [] C449), trivial⟩ (fun _ hC_ => Yl.loadAgg (cs := (x329.getD x338.toNat []).map (Value.int .u8)) rfl Tryd.underlying33 rfl (sz_of sz33 (by first | (simp only [List.length_append, List.length_map, List.length_cons, List.length_nil, ha463]; done) | simp [ha463])) (fun j u hu => by rw [add_of]; exact ((show Sub p334 _ from hC_)).cell (hx462 _ _ hu))) ?_
      refine WA.take none [] 20 rfl (by kernel_rfl) (by kernel_rfl) (show _ = #[true, true, true, true, true, true, true, true, true, true, true, true, true, true, true, true, true, true, true, true, true, false, false, false] from rfl) trivial ⟨(Ctx.sub_of [] [] C449), trivial⟩ (fun _ hC_ => Yl.elemAddr (i := x338) rfl rfl hA453 Tryd.underlying31 sz33 (by omega)) ?_
      have hj469 : x338.toNat < x329.length := by first | omega | (simp only [List.length_set, List.length_replicate] at *; omega)
      obtain ⟨p464, w465, hy466, C467, hR468⟩ := ev_store (P := Tryd.prog) (t := 33) (Kd.arrI 32 .u8) [] [] C449 hR335 hA453 x338.toNat 0 hj469 [] (.agg (List.toArray ((x329.getD (wi64 ((wi64 ((x329.length : Int) - 1)) - x338)).toNat []).map (Value.int .u8)))) ((x329.getD (wi64 ((wi64 ((x329.length : Int) - 1)) - x338)).toNat []).map (Value.int .u8)) rfl (one_ints _ _) (by first | exact Nat.le_of_ble_eq_true rfl | (simp only [List.length_append, List.length_map, List.length_cons, List.length_nil, ha458]; exact Nat.le_of_ble_eq_true rfl) | simp [ha458]) (sz_of sz33 (by first | (simp only [List.length_append, List.length_map, List.length_cons, List.length_nil, ha458]; done) | simp [ha458])) (x329.getD (wi64 ((wi64 ((x329.length : Int) - 1)) - x338)).toNat []) (fun _ h_ => rep_whole h_ ⟨rfl, ha458⟩) ⟨b451, of452 + x338.toNat * 32, none⟩ rfl
      have hn470 : n332 = (x329.set x338.toNat (x329.getD (wi64 ((wi64 ((x329.length : Int) - 1)) - x338)).toNat [])).length := by rw [List.length_set]; omega
      have C471 : Ctx _ _ _ _ F [p464] := C467
      refine WA.up1 21 (by kernel_rfl) (Up.skip rfl (show _ = #[true, true, true, true, true, true, true, true, true, true, true, true, true, true, true, true, true, true, true, true, true, true, false, false] from rfl) (hy466 _ _ _ _ rfl rfl) ⟨trivial, trivial⟩ ?_)
      obtain ⟨hc472, hX250⟩ := guardE hX250
      obtain ⟨b473, of474, hA475, he476⟩ := (Row.sl hR468) (by omega)
      refine WA.take none [] 22 rfl (by kernel_rfl) (by kernel_rfl) (show _ = #[true, true, true, true, true, true, true, true, true, true, true, true, true, true, true, true, true, true, true, true, true, true, true, false] from rfl) trivial ⟨trivial, trivial⟩ (fun _ hC_ => Yl.elemAddr (i := wi64 ((wi64 ((x329.length : Int) - 1)) - x338)) rfl rfl hA475 Tryd.underlying31 sz33 (by omega)) ?_
      have hj482 : (wi64 ((wi64 ((x329.length : Int) - 1)) - x338)).toNat < (x329.set x338.toNat (x329.getD (wi64 ((wi64 ((x329.length : Int) - 1)) - x338)).toNat [])).length := by first | omega | (simp only [List.length_set, List.length_replicate] at *; omega)
      obtain ⟨p477, w478, hy479, C480, hR481⟩ := ev_store (P := Tryd.prog) (t := 33) (Kd.arrI 32 .u8) [] [] C471 hR468 hA475 (wi64 ((wi64 ((x329.length : Int) - 1)) - x338)).toNat 0 hj482 [] (.agg (List.toArray ((x329.getD x338.toNat []).map (Value.int .u8)))) ((x329.getD x338.toNat []).map (Value.int .u8)) rfl (one_ints _ _) (by first | exact Nat.le_of_ble_eq_true rfl | (simp only [List.length_append, List.length_map, List.length_cons, List.length_nil, ha463]; exact Nat.le_of_ble_eq_true rfl) | simp [ha463]) (sz_of sz33 (by first | (simp only [List.length_append, List.length_map, List.length_cons, List.length_nil, ha463]; done) | simp [ha463])) (x329.getD x338.toNat []) (fun _ h_ => rep_whole h_ ⟨rfl, ha463⟩) ⟨b473, of474 + (wi64 ((wi64 ((x329.length : Int) - 1)) - x338)).toNat * 32, none⟩ rfl
      have hn483 : n332 = ((x329.set x338.toNat (x329.getD (wi64 ((wi64 ((x329.length : Int) - 1)) - x338)).toNat [])).set (wi64 ((wi64 ((x329.length : Int) - 1)) - x338)).toNat (x329.getD x338.toNat [])).length := by rw [List.length_set]; omega
      have C484 : Ctx _ _ _ _ F [p477] := C480
      refine WA.up1 23 (by kernel_rfl) (Up.skip rfl (show _ = #[true, true, true, true, true, true, true, true, true, true, true, true, true, true, true, true, true, true, true, true, true, true, true, true] from rfl) (hy479 _ _ _ _ rfl rfl) ⟨trivial, trivial⟩ ?_)
      refine WA.done (by kernel_rfl) ?_
      refine inB_n ?_
      refine W.region rfl ?_
      refine WL.val (Yl.add (m := x338) (n := 1) (r := wi64 (x338 + 1)) ho337 rfl rfl) ?_
      refine WL.val (Yl.move (v := .int .i64 (wi64 (x338 + 1))) rfl) ?_
      refine WL.done ?_
      exact thenE_n ⟨k412, Nat.lt_succ_self _, (x329.set x338.toNat (x329.getD (wi64 ((wi64 ((x329.length : Int) - 1)) - x338)).toNat [])).set (wi64 ((wi64 ((x329.length : Int) - 1)) - x338)).toNat (x329.getD x338.toNat []), wi64 (x338 + 1), A330, c331, n332, p477, ho328, ho336, rfl, C484, hn483, hR481, hX250⟩
    · skip
      refine W.condF (congrArg Value.bool (decide_eq_false hc413)) ?_
      refine W.exit ?_
      refine thenE_x ?_
      refine thenE_x ?_
      refine inB_here ?_
      cases hX250
      refine thenE_n ?_
      exact ⟨A330, c331, n332, p334, ho328, C339, hn333, hR335⟩
  · skip
    rintro env_ w_ ⟨A243, c244, n245, p247, ho241, C249, hn246, hR248⟩
    refine W.seq ?_
    refine W.region rfl ?_
    refine WL.val (Yl.move (v := .slice A243 n245 c244) ho241) ?_
    refine WL.val (Yl.assign (v := .slice A243 n245 c244) rfl) ?_
    refine WL.done ?_
    refine W.ret ?_
    have e485 := Option.some.inj H
    subst e485
    exact post_r (resE1 rfl rfl) ⟨A243, c244, n245, p247, rfl, C249, hn246, hR248⟩
def proof_Include.l1 : Nat → List (List Int) → Int → List (List Int) → Option (List (List Int))
  | 0, _, _, _ => none
  | k + 1, x218, x227, x229 => if (x218.length : Int) > 1 then ((proof_split.f k (x218.length : Int)).bind fun r323 => if x227 < r323 then (if 0 ≤ r323 ∧ r323 ≤ (x218.length : Int) ∧ (x218.length : Int) ≤ (x218.length : Int) then ((proof_Root.f k (x218.drop r323.toNat)).bind fun r338 => if (x229.length + 1) * 32 ≤ 140737488355328 then (if 0 ≤ r323 ∧ r323 ≤ (x218.length : Int) then (proof_Include.l1 k (x218.take r323.toNat) x227 (x229 ++ [r338])) else none) else none) else none) else (if 0 ≤ r323 ∧ r323 ≤ (x218.length : Int) then ((proof_Root.f k (x218.take r323.toNat)).bind fun r370 => if (x229.length + 1) * 32 ≤ 140737488355328 then (if 0 ≤ r323 ∧ r323 ≤ (x218.length : Int) ∧ (x218.length : Int) ≤ (x218.length : Int) then (proof_Include.l1 k (x218.drop r323.toNat) (wi64 (x227 - r323)) (x229 ++ [r370])) else none) else none) else none)) else (some x229)
def proof_Include.f (k : Nat) (a0 : List (List Int)) (a1 : Int) : Option ((List (List Int)) × Int) := (if a1 < 0 then (some (true)) else (some (decide (a1 ≥ (a0.length : Int))))).bind fun g8 => if g8 = true then (some (([] : List (List Int)), 1)) else ((proof_Include.l1 k a0 a1 ([] : List (List Int))).bind fun x208 => (proof_turned.f k x208).bind fun r406 => some (r406, 0))
set_option maxRecDepth 100000 in
set_option maxHeartbeats 4000000 in
theorem proof_Include.calls (k : Nat) (w : World) (F : CH) (A1 : Option Addr) (c2 : Nat) (n3 : Nat) (a0 : List (List Int)) (a1 : Int) (hp : Pre w F []) (hn4 : n3 = a0.length) (hl5 : a0.length ≤ c2) (hm6 : c2 ≤ maxLen) (hS7 : Sl (Kd.arrI 32 .u8) F F A1 a0) (hG1 : CH.le (CH.row 1 0 (glob1.map (Value.int .u32))) F) (hG3 : CH.le (CH.row 3 0 (glob3.map (Value.int .u32))) F) (r0_ : List (List Int)) (r1_ : Int) (H : proof_Include.f k a0 a1 = some (r0_, r1_)) :
    Calls Tryd.prog 29 #[.slice A1 n3 c2, .int .i64 a1] w fun e w' => ∃ (A417 : Option Addr) (c418 : Nat) (n419 : Nat) (p421 : CH), e = .returned (.tuple #[(.slice A417 n419 c418), (.int .i64 r1_)]) ∧ Ctx w F (domL []) w' F [p421] ∧ n419 = r0_.length ∧ Row (Kd.arrI 32 .u8) F p421 (.slice A417 n419 c418) r0_ := by
  have C := Ctx.start hp
  generalize hD : domL [] = D at C ⊢
  unfold proof_Include.f at H
  refine Calls.ofW Tryd.func29 rfl (by simp [Tryd.ntmps29]) ?_
  refine W.seq ?_
  refine W.region rfl ?_
  refine WL.val (Yl.assign (v := .slice none 0 0) rfl) ?_
  refine WL.val (Yl.assign (v := .int .i64 0) rfl) ?_
  refine WL.done ?_
  refine W.seq ?_
  refine W.seq ?_
  refine W.region rfl ?_
  refine WL.val (Yl.move (v := .int .i64 a1) rfl) ?_
  refine WL.val (Yl.lss (m := a1) (n := 0) (q := decide (a1 < 0)) rfl rfl rfl) ?_
  refine WL.val (Yl.move (v := .bool (decide (a1 < 0))) rfl) ?_
  obtain ⟨g8, HE9, H⟩ := bindE H
  refine WL.cut (fun env_ w_ => env_ 15 = .bool g8 ∧ env_ 0 = .slice A1 n3 c2 ∧ env_ 1 = .int .i64 a1 ∧ Ctx w F D w_ F []) ?_ ?_
  · skip
    rcases iteE HE9 with ⟨hc10, HE9⟩ | ⟨hc10, HE9⟩
    · skip
      refine WL.off rfl (congrArg Value.bool (decide_eq_true hc10)) ?_
      refine WL.off rfl (congrArg Value.bool (decide_eq_true hc10)) ?_
      refine WL.off rfl (congrArg Value.bool (decide_eq_true hc10)) ?_
      refine WL.off rfl (congrArg Value.bool (decide_eq_true hc10)) ?_
      refine WL.val (Yl.pickT (v := .bool true) (congrArg Value.bool (decide_eq_true hc10)) rfl) ?_
      cases HE9
      exact WL.done ⟨rfl, rfl, rfl, C⟩
    · skip
      refine WL.on rfl (congrArg Value.bool (decide_eq_false hc10)) ?_
      refine WL.val (Yl.move (v := .int .i64 a1) rfl) ?_
      refine WL.on rfl (congrArg Value.bool (decide_eq_false hc10)) ?_
      refine WL.val (Yl.move (v := .slice A1 n3 c2) rfl) ?_
      refine WL.on rfl (congrArg Value.bool (decide_eq_false hc10)) ?_
      refine WL.val (Yl.lenN (A := A1) (l := n3) (q := c2) (n := (a0.length : Int)) rfl Tryd.underlying31 (by omega)) ?_
      refine WL.on rfl (congrArg Value.bool (decide_eq_false hc10)) ?_
      refine WL.val (Yl.geq (m := a1) (n := (a0.length : Int)) (q := decide (a1 ≥ (a0.length : Int))) rfl rfl rfl) ?_
      refine WL.val (Yl.pickF (v := .bool (decide (a1 ≥ (a0.length : Int)))) (congrArg Value.bool (decide_eq_false hc10)) rfl) ?_
      cases HE9
      exact WL.done ⟨rfl, rfl, rfl, C⟩
  · skip
    rintro env_ w_ ⟨ho11, ho12, ho13, C14⟩
    rcases iteE H with ⟨hc15, H⟩ | ⟨hc15, H⟩
    · skip
      refine W.condT (ho11.trans (congrArg Value.bool hc15)) ?_
      refine W.seq ?_
      refine W.region rfl ?_
      refine WL.val (Yl.assign (v := .slice none 0 0) rfl) ?_
      refine WL.val (Yl.assign (v := .int .i64 1) rfl) ?_
      refine WL.done ?_
      refine W.ret ?_
      refine thenE_r ?_
      have C16 : Ctx _ _ _ _ F [CH.emp] := Ctx.emp C14
      simp only [Option.some.injEq, Prod.mk.injEq] at H
      obtain ⟨e17, e18⟩ := H
      subst e17 e18
      exact post_r (resE2 rfl rfl rfl) ⟨none, 0, 0, CH.emp, rfl, C16, rfl, (Row.nil _ _)⟩
    · skip
      refine W.condF (ho11.trans (congrArg Value.bool (Bool.eq_false_iff.2 hc15))) ?_
      refine W.skip ?_
      refine W.seq ?_
      refine W.region rfl ?_
      refine WL.val (Yl.assign (v := .slice none 0 0) rfl) ?_
      refine WL.done ?_
      refine W.seq ?_
      obtain ⟨x208, hX216, H⟩ := bindE H
      refine W.cutM (fun env_ w_ => ∃ (A209 : Option Addr) (c210 : Nat) (n211 : Nat) (p213 : CH), env_ 6 = .slice A209 n211 c210 ∧ Ctx w F D w_ F [p213] ∧ n211 = x208.length ∧ Row (Kd.arrI 32 .u8) F p213 (.slice A209 n211 c210) x208) ?_ ?_
      · skip
        refine W.block ?_
        have C320 : Ctx _ _ _ _ F [CH.emp] := Ctx.emp C14
        refine W.loop (fun g_ env_ w_ => ∃ (x218 : List (List Int)) (x227 : Int) (x229 : List (List Int)) (A219 : Option Addr) (c220 : Nat) (n221 : Nat) (A230 : Option Addr) (c231 : Nat) (n232 : Nat) (p234 : CH), env_ 0 = .slice A219 n221 c220 ∧ env_ 1 = .int .i64 x227 ∧ env_ 6 = .slice A230 n232 c231 ∧ Ctx w F D w_ F [p234] ∧ n221 = x218.length ∧ x218.length ≤ c220 ∧ c220 ≤ maxLen ∧ Sl (Kd.arrI 32 .u8) F F A219 x218 ∧ n232 = x229.length ∧ Row (Kd.arrI 32 .u8) F p234 (.slice A230 n232 c231) x229 ∧ proof_Include.l1 g_ x218 x227 x229 = some x208) k ⟨a0, a1, ([] : List (List Int)), A1, c2, n3, none, 0, 0, CH.emp, ho12, ho13, rfl, C320, hn4, hl5, hm6, hS7, rfl, (Row.nil _ _), hX216⟩ ?_
        clear hX216
        rintro g_ env_ w_ ⟨x218, x227, x229, A219, c220, n221, A230, c231, n232, p234, ho217, ho226, ho228, C236, hn222, hl223, hm224, hS225, hn233, hR235, hX216⟩
        rcases g_ with _ | k319
        · exact absurd hX216 (by simp [proof_Include.l1])
        rw [proof_Include.l1] at hX216
        refine W.seq ?_
        refine W.seq ?_
        refine W.region rfl ?_
        refine WL.val (Yl.move (v := .slice A219 n221 c220) ho217) ?_
        refine WL.val (Yl.lenN (A := A219) (l := n221) (q := c220) (n := (x218.length : Int)) rfl Tryd.underlying31 (by omega)) ?_
        refine WL.val (Yl.gtr (m := (x218.length : Int)) (n := 1) (q := decide ((x218.length : Int) > 1)) rfl rfl rfl) ?_
        refine WL.done ?_
        rcases iteE hX216 with ⟨hc321, hX216⟩ | ⟨hc321, hX216⟩
        · skip
          refine W.condT (congrArg Value.bool (decide_eq_true hc321)) ?_
          refine W.skip ?_
          refine W.block ?_
          refine W.seq ?_
          refine W.region rfl ?_
          refine WL.val (Yl.move (v := .slice A219 n221 c220) ho217) ?_
          refine WL.val (Yl.lenN (A := A219) (l := n221) (q := c220) (n := (x218.length : Int)) rfl Tryd.underlying31 (by omega)) ?_
          obtain ⟨r323, hg322, hX216⟩ := bindE hX216
          refine WL.call (args := #[.int .i64 (x218.length : Int)]) (Yenter.fn Tryd.func56 (by kernel_rfl) rfl (argsE (.cons rfl .nil))) (proof_split.calls k319 _ F (x218.length : Int) C236.pre0  r323 hg322) ?_
          rintro e_ w_ ⟨rfl, ⟨m324, rfl⟩⟩
          refine ⟨_, rfl, ?_⟩
          have C325 := Ctx.drewN C236 m324
          refine WL.val (Yl.assign (v := .int .i64 r323) rfl) ?_
          refine WL.done ?_
          refine W.seq ?_
          refine W.region rfl ?_
          refine WL.val (Yl.move (v := .int .i64 x227) ho226) ?_
          refine WL.val (Yl.move (v := .int .i64 r323) rfl) ?_
          refine WL.val (Yl.lss (m := x227) (n := r323) (q := decide (x227 < r323)) rfl rfl rfl) ?_
          refine WL.done ?_
          rcases iteE hX216 with ⟨hc326, hX216⟩ | ⟨hc326, hX216⟩
          · skip
            refine W.condT (congrArg Value.bool (decide_eq_true hc326)) ?_
            refine W.seq ?_
            refine W.region rfl ?_
            refine WL.val (Yl.move (v := .slice A230 n232 c231) ho228) ?_
            refine WL.val (Yl.move (v := .slice A219 n221 c220) ho217) ?_
            refine WL.val (Yl.move (v := .int .i64 r323) rfl) ?_
            obtain ⟨hc327, hX216⟩ := guardE hX216
            have hl336 : x218.length ≤ c220 ∧ c220 ≤ maxLen := ⟨hl223, hm224⟩
            obtain ⟨A328, c329, n330, hv331, hn332, hl333, hm334, hS335⟩ := Sl.cut hS225 (c := c220) hl336.2 r323.toNat x218.length c220 (by omega) (by omega) (by omega) (by omega)
            rw [List.take_length] at hn332 hl333 hS335
            refine WL.val (Yl.slice r323.toNat x218.length c220 rfl Tryd.underlying31 sz33 rfl (hn222).symm (OB.mk rfl (by omega)) (by simp) (by omega) (by omega) (by omega) hv331) ?_
            obtain ⟨r338, hg337, hX216⟩ := bindE hX216
            refine WL.call (args := #[.slice A328 n330 c329]) (Yenter.fn Tryd.func22 (by kernel_rfl) rfl (argsE (.cons rfl .nil))) (proof_Root.calls k319 _ F A328 c329 n330 (x218.drop r323.toNat) (Ctx.pre (qs := []) (rest := [p234]) C325) hn332 hl333 hm334 hS335 (CH.le_trans hG1 (CH.le_trans (CH.le_refl _) (CH.le_refl _))) (CH.le_trans hG3 (CH.le_trans (CH.le_refl _) (CH.le_refl _))) r338 hg337) ?_
            rintro e_ w_ ⟨rfl, C340, ha339⟩
            refine ⟨_, rfl, ?_⟩
            have C341 : Ctx _ _ _ _ F [p234] := Ctx.call (qs := []) (rest := [p234]) C325 C340
            obtain ⟨A342, c343, n344, p345, w346, hn347, hy348, C349, hR350⟩ := ev_lit1' (P := Tryd.prog) 33 (Kd.arrI 32 .u8) C341 Tryd.underlying31 ti33 ⟨by decide, by decide⟩ r338 (.agg (List.toArray (r338.map (Value.int .u8)))) ⟨rfl, ha339⟩
            refine WL.val (hy348 _ _ _ rfl) ?_
            obtain ⟨hc351, hX216⟩ := guardE hX216
            obtain ⟨A352, c353, n354, p355, w356, hn357, hy358, C359, hR360⟩ := ev_append' (P := Tryd.prog) (cb := c343) 33 (Kd.arrI 32 .u8) [p345] [] C349 hR235 hn347 (Row.sl hR350) (Ctx.sub_of [] [p234] C349) Tryd.underlying31 ti33 rfl zo33 (by decide) (by decide) (by simpa using hc351)
            have C361 : Ctx _ _ _ _ F [p345, p355] := C359
            refine WL.val (hy358 _ _ _ _ rfl rfl) ?_
            refine WL.val (Yl.assign (v := .slice A352 n354 c353) rfl) ?_
            refine WL.done ?_
            refine W.region rfl ?_
            refine WL.val (Yl.move (v := .slice A219 n221 c220) ho217) ?_
            refine WL.val (Yl.move (v := .int .i64 r323) rfl) ?_
            obtain ⟨hc362, hX216⟩ := guardE hX216
            have hn363 : r323.toNat = (x218.take r323.toNat).length := by rw [List.length_take]; omega
            refine WL.val (Yl.sliceHi rfl Tryd.underlying31 sz33 rfl ⟨hc362.1, by omega⟩) ?_
            refine WL.val (Yl.assign (v := .slice A219 r323.toNat c220) rfl) ?_
            refine WL.done ?_
            refine inB_n ?_
            have C365 : Ctx _ _ _ _ F [p355] := Ctx.drop [] [p355] C361
            exact thenE_n ⟨k319, Nat.lt_succ_self _, x218.take r323.toNat, x227, x229 ++ [r338], A219, c220, r323.toNat, A352, c353, n354, p355, rfl, ho226, rfl, C365, hn363, (by rw [List.length_take]; omega), hm224, (Sl.take hS225 _), hn357, hR360, hX216⟩
          · skip
            refine W.condF (congrArg Value.bool (decide_eq_false hc326)) ?_
            refine W.seq ?_
            refine W.region rfl ?_
            refine WL.val (Yl.move (v := .slice A230 n232 c231) ho228) ?_
            refine WL.val (Yl.move (v := .slice A219 n221 c220) ho217) ?_
            refine WL.val (Yl.move (v := .int .i64 r323) rfl) ?_
            obtain ⟨hc366, hX216⟩ := guardE hX216
            have hn367 : r323.toNat = (x218.take r323.toNat).length := by rw [List.length_take]; omega
            refine WL.val (Yl.sliceHi rfl Tryd.underlying31 sz33 rfl ⟨hc366.1, by omega⟩) ?_
            obtain ⟨r370, hg369, hX216⟩ := bindE hX216
            refine WL.call (args := #[.slice A219 r323.toNat c220]) (Yenter.fn Tryd.func22 (by kernel_rfl) rfl (argsE (.cons rfl .nil))) (proof_Root.calls k319 _ F A219 c220 r323.toNat (x218.take r323.toNat) (Ctx.pre (qs := []) (rest := [p234]) C325) hn367 (by rw [List.length_take]; omega) hm224 (Sl.take hS225 _) (CH.le_trans hG1 (CH.le_trans (CH.le_refl _) (CH.le_refl _))) (CH.le_trans hG3 (CH.le_trans (CH.le_refl _) (CH.le_refl _))) r370 hg369) ?_
            rintro e_ w_ ⟨rfl, C372, ha371⟩
            refine ⟨_, rfl, ?_⟩
            have C373 : Ctx _ _ _ _ F [p234] := Ctx.call (qs := []) (rest := [p234]) C325 C372
            obtain ⟨A374, c375, n376, p377, w378, hn379, hy380, C381, hR382⟩ := ev_lit1' (P := Tryd.prog) 33 (Kd.arrI 32 .u8) C373 Tryd.underlying31 ti33 ⟨by decide, by decide⟩ r370 (.agg (List.toArray (r370.map (Value.int .u8)))) ⟨rfl, ha371⟩
            refine WL.val (hy380 _ _ _ rfl) ?_
            obtain ⟨hc383, hX216⟩ := guardE hX216
            obtain ⟨A384, c385, n386, p387, w388, hn389, hy390, C391, hR392⟩ := ev_append' (P := Tryd.prog) (cb := c375) 33 (Kd.arrI 32 .u8) [p377] [] C381 hR235 hn379 (Row.sl hR382) (Ctx.sub_of [] [p234] C381) Tryd.underlying31 ti33 rfl zo33 (by decide) (by decide) (by simpa using hc383)
            have C393 : Ctx _ _ _ _ F [p377, p387] := C391
            refine WL.val (hy390 _ _ _ _ rfl rfl) ?_
            refine WL.val (Yl.assign (v := .slice A384 n386 c385) rfl) ?_
            refine WL.done ?_
            refine W.region rfl ?_
            refine WL.val (Yl.move (v := .slice A219 n221 c220) ho217) ?_
            refine WL.val (Yl.move (v := .int .i64 r323) rfl) ?_
            obtain ⟨hc394, hX216⟩ := guardE hX216
            have hl403 : x218.length ≤ c220 ∧ c220 ≤ maxLen := ⟨hl223, hm224⟩
            obtain ⟨A395, c396, n397, hv398, hn399, hl400, hm401, hS402⟩ := Sl.cut hS225 (c := c220) hl403.2 r323.toNat x218.length c220 (by omega) (by omega) (by omega) (by omega)
            rw [List.take_length] at hn399 hl400 hS402
            refine WL.val (Yl.slice r323.toNat x218.length c220 rfl Tryd.underlying31 sz33 rfl (hn222).symm (OB.mk rfl (by omega)) (by simp) (by omega) (by omega) (by omega) hv398) ?_
            refine WL.val (Yl.move (v := .int .i64 x227) ho226) ?_
            refine WL.val (Yl.move (v := .int .i64 r323) rfl) ?_
            refine WL.val (Yl.sub (m := x227) (n := r323) (r := wi64 (x227 - r323)) rfl rfl rfl) ?_
            refine WL.val (Yl.assign (v := .slice A395 n397 c396) rfl) ?_
            refine WL.val (Yl.assign (v := .int .i64 (wi64 (x227 - r323))) rfl) ?_
            refine WL.done ?_
            refine inB_n ?_
            have C404 : Ctx _ _ _ _ F [p387] := Ctx.drop [] [p387] C393
            exact thenE_n ⟨k319, Nat.lt_succ_self _, x218.drop r323.toNat, wi64 (x227 - r323), x229 ++ [r370], A395, c396, n397, A384, c385, n386, p387, rfl, rfl, rfl, C404, hn399, hl400, hm401, hS402, hn389, hR392, hX216⟩
        · skip
          refine W.condF (congrArg Value.bool (decide_eq_false hc321)) ?_
          refine W.exit ?_
          refine thenE_x ?_
          refine thenE_x ?_
          refine inB_here ?_
          cases hX216
          refine thenE_n ?_
          exact ⟨A230, c231, n232, p234, ho228, C236, hn233, hR235⟩
      · skip
        rintro env_ w_ ⟨A209, c210, n211, p213, ho207, C215, hn212, hR214⟩
        refine W.seq ?_
        refine W.region rfl ?_
        refine WL.val (Yl.move (v := .slice A209 n211 c210) ho207) ?_
        obtain ⟨r406, hg405, H⟩ := bindE H
        refine WL.call (args := #[.slice A209 n211 c210]) (Yenter.fn Tryd.func57 (by kernel_rfl) rfl (argsE (.cons rfl .nil))) (proof_turned.calls k _ F A209 c210 n211 p213 x208 (Ctx.pre (qs := [p213]) (rest := []) C215) hn212 hR214 r406 hg405) ?_
        rintro e_ w_ ⟨A407, c408, n409, p411, rfl, C413, hn410, hR412⟩
        refine ⟨_, rfl, ?_⟩
        have C414 : Ctx _ _ _ _ F [p411] := Ctx.call (qs := [p213]) (rest := []) C215 C413
        refine WL.val (Yl.assign (v := .slice A407 n409 c408) rfl) ?_
        refine WL.val (Yl.assign (v := .int .i64 0) rfl) ?_
        refine WL.done ?_
        refine W.ret ?_
        simp only [Option.some.injEq, Prod.mk.injEq] at H
        obtain ⟨e415, e416⟩ := H
        subst e415 e416
        exact post_r (resE2 rfl rfl rfl) ⟨A407, c408, n409, p411, rfl, C414, hn410, hR412⟩
def proof_Consist.l1 : Nat → List (List Int) → Int → List (List Int) → Bool → Option ((List (List Int)) × (List (List Int)) × Bool)
  | 0, _, _, _, _ => none
  | k + 1, x235, x244, x246, x254 => if x244 < (x235.length : Int) then ((proof_split.f k (x235.length : Int)).bind fun r342 => if x244 ≤ r342 then (if 0 ≤ r342 ∧ r342 ≤ (x235.length : Int) ∧ (x235.length : Int) ≤ (x235.length : Int) then ((proof_Root.f k (x235.drop r342.toNat)).bind fun r357 => if (x246.length + 1) * 32 ≤ 140737488355328 then (if 0 ≤ r342 ∧ r342 ≤ (x235.length : Int) then (proof_Consist.l1 k (x235.take r342.toNat) x244 (x246 ++ [r357]) x254) else none) else none) else none) else (if 0 ≤ r342 ∧ r342 ≤ (x235.length : Int) then ((proof_Root.f k (x235.take r342.toNat)).bind fun r389 => if (x246.length + 1) * 32 ≤ 140737488355328 then (if 0 ≤ r342 ∧ r342 ≤ (x235.length : Int) ∧ (x235.length : Int) ≤ (x235.length : Int) then (proof_Consist.l1 k (x235.drop r342.toNat) (wi64 (x244 - r342)) (x246 ++ [r389]) false) else none) else none) else none)) else (some (x235, x246, x254))
def proof_Consist.f (k : Nat) (a0 : List (List Int)) (a1 : Int) : Option ((List (List Int)) × Int) := (if a1 < 0 then (some (true)) else (some (decide (a1 > (a0.length : Int))))).bind fun g8 => if g8 = true then (some (([] : List (List Int)), 1)) else (if a1 = 0 then (some (([] : List (List Int)), 0)) else ((proof_Consist.l1 k a0 a1 ([] : List (List Int)) true).bind fun ⟨x214, x223, x231⟩ => if x231 = true then ((proof_turned.f k x223).bind fun r426 => some (r426, 0)) else ((proof_Root.f k x214).bind fun r438 => if (x223.length + 1) * 32 ≤ 140737488355328 then ((proof_turned.f k (x223 ++ [r438])).bind fun r464 => some (r464, 0)) else none)))
set_option maxRecDepth 100000 in
set_option maxHeartbeats 4000000 in
theorem proof_Consist.calls (k : Nat) (w : World) (F : CH) (A1 : Option Addr) (c2 : Nat) (n3 : Nat) (a0 : List (List Int)) (a1 : Int) (hp : Pre w F []) (hn4 : n3 = a0.length) (hl5 : a0.length ≤ c2) (hm6 : c2 ≤ maxLen) (hS7 : Sl (Kd.arrI 32 .u8) F F A1 a0) (hG1 : CH.le (CH.row 1 0 (glob1.map (Value.int .u32))) F) (hG3 : CH.le (CH.row 3 0 (glob3.map (Value.int .u32))) F) (r0_ : List (List Int)) (r1_ : Int) (H : proof_Consist.f k a0 a1 = some (r0_, r1_)) :
    Calls Tryd.prog 31 #[.slice A1 n3 c2, .int .i64 a1] w fun e w' => ∃ (A476 : Option Addr) (c477 : Nat) (n478 : Nat) (p480 : CH), e = .returned (.tuple #[(.slice A476 n478 c477), (.int .i64 r1_)]) ∧ Ctx w F (domL []) w' F [p480] ∧ n478 = r0_.length ∧ Row (Kd.arrI 32 .u8) F p480 (.slice A476 n478 c477) r0_ := by
  have C := Ctx.start hp
  generalize hD : domL [] = D at C ⊢
  unfold proof_Consist.f at H
  refine Calls.ofW Tryd.func31 rfl (by simp [Tryd.ntmps31]) ?_
  refine W.seq ?_
  refine W.region rfl ?_
  refine WL.val (Yl.assign (v := .slice none 0 0) rfl) ?_
  refine WL.val (Yl.assign (v := .int .i64 0) rfl) ?_
  refine WL.done ?_
  refine W.seq ?_
  refine W.seq ?_
  refine W.region rfl ?_
  refine WL.val (Yl.move (v := .int .i64 a1) rfl) ?_
  refine WL.val (Yl.lss (m := a1) (n := 0) (q := decide (a1 < 0)) rfl rfl rfl) ?_
  refine WL.val (Yl.move (v := .bool (decide (a1 < 0))) rfl) ?_
  obtain ⟨g8, HE9, H⟩ := bindE H
  refine WL.cut (fun env_ w_ => env_ 16 = .bool g8 ∧ env_ 0 = .slice A1 n3 c2 ∧ env_ 1 = .int .i64 a1 ∧ Ctx w F D w_ F []) ?_ ?_
  · skip
    rcases iteE HE9 with ⟨hc10, HE9⟩ | ⟨hc10, HE9⟩
    · skip
      refine WL.off rfl (congrArg Value.bool (decide_eq_true hc10)) ?_
      refine WL.off rfl (congrArg Value.bool (decide_eq_true hc10)) ?_
      refine WL.off rfl (congrArg Value.bool (decide_eq_true hc10)) ?_
      refine WL.off rfl (congrArg Value.bool (decide_eq_true hc10)) ?_
      refine WL.val (Yl.pickT (v := .bool true) (congrArg Value.bool (decide_eq_true hc10)) rfl) ?_
      cases HE9
      exact WL.done ⟨rfl, rfl, rfl, C⟩
    · skip
      refine WL.on rfl (congrArg Value.bool (decide_eq_false hc10)) ?_
      refine WL.val (Yl.move (v := .int .i64 a1) rfl) ?_
      refine WL.on rfl (congrArg Value.bool (decide_eq_false hc10)) ?_
      refine WL.val (Yl.move (v := .slice A1 n3 c2) rfl) ?_
      refine WL.on rfl (congrArg Value.bool (decide_eq_false hc10)) ?_
      refine WL.val (Yl.lenN (A := A1) (l := n3) (q := c2) (n := (a0.length : Int)) rfl Tryd.underlying31 (by omega)) ?_
      refine WL.on rfl (congrArg Value.bool (decide_eq_false hc10)) ?_
      refine WL.val (Yl.gtr (m := a1) (n := (a0.length : Int)) (q := decide (a1 > (a0.length : Int))) rfl rfl rfl) ?_
      refine WL.val (Yl.pickF (v := .bool (decide (a1 > (a0.length : Int)))) (congrArg Value.bool (decide_eq_false hc10)) rfl) ?_
      cases HE9
      exact WL.done ⟨rfl, rfl, rfl, C⟩
  · skip
    rintro env_ w_ ⟨ho11, ho12, ho13, C14⟩
    rcases iteE H with ⟨hc15, H⟩ | ⟨hc15, H⟩
    · skip
      refine W.condT (ho11.trans (congrArg Value.bool hc15)) ?_
      refine W.seq ?_
      refine W.region rfl ?_
      refine WL.val (Yl.assign (v := .slice none 0 0) rfl) ?_
      refine WL.val (Yl.assign (v := .int .i64 1) rfl) ?_
      refine WL.done ?_
      refine W.ret ?_
      refine thenE_r ?_
      have C16 : Ctx _ _ _ _ F [CH.emp] := Ctx.emp C14
      simp only [Option.some.injEq, Prod.mk.injEq] at H
      obtain ⟨e17, e18⟩ := H
      subst e17 e18
      exact post_r (resE2 rfl rfl rfl) ⟨none, 0, 0, CH.emp, rfl, C16, rfl, (Row.nil _ _)⟩
    · skip
      refine W.condF (ho11.trans (congrArg Value.bool (Bool.eq_false_iff.2 hc15))) ?_
      refine W.skip ?_
      refine W.seq ?_
      refine W.seq ?_
      refine W.region rfl ?_
      refine WL.val (Yl.move (v := .int .i64 a1) ho13) ?_
      refine WL.val (Yl.eql (m := a1) (n := 0) (q := decide (a1 = 0)) rfl rfl rfl) ?_
      refine WL.done ?_
      rcases iteE H with ⟨hc19, H⟩ | ⟨hc19, H⟩
      · skip
        refine W.condT (congrArg Value.bool (decide_eq_true hc19)) ?_
        refine W.seq ?_
        refine W.region rfl ?_
        refine WL.val (Yl.assign (v := .slice none 0 0) rfl) ?_
        refine WL.val (Yl.assign (v := .int .i64 0) rfl) ?_
        refine WL.done ?_
        refine W.ret ?_
        refine thenE_r ?_
        have C20 : Ctx _ _ _ _ F [CH.emp] := Ctx.emp C14
        simp only [Option.some.injEq, Prod.mk.injEq] at H
        obtain ⟨e21, e22⟩ := H
        subst e21 e22
        exact post_r (resE2 rfl rfl rfl) ⟨none, 0, 0, CH.emp, rfl, C20, rfl, (Row.nil _ _)⟩
      · skip
        refine W.condF (congrArg Value.bool (decide_eq_false hc19)) ?_
        refine W.skip ?_
        refine W.seq ?_
        refine W.region rfl ?_
        refine WL.val (Yl.assign (v := .slice none 0 0) rfl) ?_
        refine WL.done ?_
        refine W.seq ?_
        refine W.region rfl ?_
        refine WL.val (Yl.assign (v := .bool true) rfl) ?_
        refine WL.done ?_
        refine W.seq ?_
        obtain ⟨⟨x214, x223, x231⟩, hX233, H⟩ := bindE H
        refine W.cutM (fun env_ w_ => ∃ (A215 : Option Addr) (c216 : Nat) (n217 : Nat) (A224 : Option Addr) (c225 : Nat) (n226 : Nat) (p228 : CH), env_ 0 = .slice A215 n217 c216 ∧ env_ 6 = .slice A224 n226 c225 ∧ env_ 7 = .bool x231 ∧ Ctx w F D w_ F [p228] ∧ n217 = x214.length ∧ x214.length ≤ c216 ∧ c216 ≤ maxLen ∧ Sl (Kd.arrI 32 .u8) F F A215 x214 ∧ n226 = x223.length ∧ Row (Kd.arrI 32 .u8) F p228 (.slice A224 n226 c225) x223) ?_ ?_
        · skip
          refine W.block ?_
          have C339 : Ctx _ _ _ _ F [CH.emp] := Ctx.emp C14
          refine W.loop (fun g_ env_ w_ => ∃ (x235 : List (List Int)) (x244 : Int) (x246 : List (List Int)) (x254 : Bool) (A236 : Option Addr) (c237 : Nat) (n238 : Nat) (A247 : Option Addr) (c248 : Nat) (n249 : Nat) (p251 : CH), env_ 0 = .slice A236 n238 c237 ∧ env_ 1 = .int .i64 x244 ∧ env_ 6 = .slice A247 n249 c248 ∧ env_ 7 = .bool x254 ∧ Ctx w F D w_ F [p251] ∧ n238 = x235.length ∧ x235.length ≤ c237 ∧ c237 ≤ maxLen ∧ Sl (Kd.arrI 32 .u8) F F A236 x235 ∧ n249 = x246.length ∧ Row (Kd.arrI 32 .u8) F p251 (.slice A247 n249 c248) x246 ∧ proof_Consist.l1 g_ x235 x244 x246 x254 = some (x214, x223, x231)) k ⟨a0, a1, ([] : List (List Int)), true, A1, c2, n3, none, 0, 0, CH.emp, ho12, ho13, rfl, rfl, C339, hn4, hl5, hm6, hS7, rfl, (Row.nil _ _), hX233⟩ ?_
          clear hX233
          rintro g_ env_ w_ ⟨x235, x244, x246, x254, A236, c237, n238, A247, c248, n249, p251, ho234, ho243, ho245, ho253, C255, hn239, hl240, hm241, hS242, hn250, hR252, hX233⟩
          rcases g_ with _ | k338
          · exact absurd hX233 (by simp [proof_Consist.l1])
          rw [proof_Consist.l1] at hX233
          refine W.seq ?_
          refine W.seq ?_
          refine W.region rfl ?_
          refine WL.val (Yl.move (v := .int .i64 x244) ho243) ?_
          refine WL.val (Yl.move (v := .slice A236 n238 c237) ho234) ?_
          refine WL.val (Yl.lenN (A := A236) (l := n238) (q := c237) (n := (x235.length : Int)) rfl Tryd.underlying31 (by omega)) ?_
          refine WL.val (Yl.lss (m := x244) (n := (x235.length : Int)) (q := decide (x244 < (x235.length : Int))) rfl rfl rfl) ?_
          refine WL.done ?_
          rcases iteE hX233 with ⟨hc340, hX233⟩ | ⟨hc340, hX233⟩
          · skip
            refine W.condT (congrArg Value.bool (decide_eq_true hc340)) ?_
            refine W.skip ?_
            refine W.block ?_
            refine W.seq ?_
            refine W.region rfl ?_
            refine WL.val (Yl.move (v := .slice A236 n238 c237) ho234) ?_
            refine WL.val (Yl.lenN (A := A236) (l := n238) (q := c237) (n := (x235.length : Int)) rfl Tryd.underlying31 (by omega)) ?_
            obtain ⟨r342, hg341, hX233⟩ := bindE hX233
            refine WL.call (args := #[.int .i64 (x235.length : Int)]) (Yenter.fn Tryd.func56 (by kernel_rfl) rfl (argsE (.cons rfl .nil))) (proof_split.calls k338 _ F (x235.length : Int) C255.pre0  r342 hg341) ?_
            rintro e_ w_ ⟨rfl, ⟨m343, rfl⟩⟩
            refine ⟨_, rfl, ?_⟩
            have C344 := Ctx.drewN C255 m343
            refine WL.val (Yl.assign (v := .int .i64 r342) rfl) ?_
            refine WL.done ?_
            refine W.seq ?_
            refine W.region rfl ?_
            refine WL.val (Yl.move (v := .int .i64 x244) ho243) ?_
            refine WL.val (Yl.move (v := .int .i64 r342) rfl) ?_
            refine WL.val (Yl.leq (m := x244) (n := r342) (q := decide (x244 ≤ r342)) rfl rfl rfl) ?_
            refine WL.done ?_
            rcases iteE hX233 with ⟨hc345, hX233⟩ | ⟨hc345, hX233⟩
            · skip
              refine W.condT (congrArg Value.bool (decide_eq_true hc345)) ?_
              refine W.seq ?_
              refine W.region rfl ?_
              refine WL.val (Yl.move (v := .slice A247 n249 c248) ho245) ?_
              refine WL.val (Yl.move (v := .slice A236 n238 c237) ho234) ?_
              refine WL.val (Yl.move (v := .int .i64 r342) rfl) ?_
              obtain ⟨hc346, hX233⟩ := guardE hX233
              have hl355 : x235.length ≤ c237 ∧ c237 ≤ maxLen := ⟨hl240, hm241⟩
              obtain ⟨A347, c348, n349, hv350, hn351, hl352, hm353, hS354⟩ := Sl.cut hS242 (c := c237) hl355.2 r342.toNat x235.length c237 (by omega) (by omega) (by omega) (by omega)
              rw [List.take_length] at hn351 hl352 hS354
              refine WL.val (Yl.slice r342.toNat x235.length c237 rfl Tryd.underlying31 sz33 rfl (hn239).symm (OB.mk rfl (by omega)) (by simp) (by omega) (by omega) (by omega) hv350) ?_
              obtain ⟨r357, hg356, hX233⟩ := bindE hX233
              refine WL.call (args := #[.slice A347 n349 c348]) (Yenter.fn Tryd.func22 (by kernel_rfl) rfl (argsE (.cons rfl .nil))) (proof_Root.calls k338 _ F A347 c348 n349 (x235.drop r342.toNat) (Ctx.pre (qs := []) (rest := [p251]) C344) hn351 hl352 hm353 hS354 (CH.le_trans hG1 (CH.le_trans (CH.le_refl _) (CH.le_refl _))) (CH.le_trans hG3 (CH.le_trans (CH.le_refl _) (CH.le_refl _))) r357 hg356) ?_
              rintro e_ w_ ⟨rfl, C359, ha358⟩
              refine ⟨_, rfl, ?_⟩
              have C360 : Ctx _ _ _ _ F [p251] := Ctx.call (qs := []) (rest := [p251]) C344 C359
              obtain ⟨A361, c362, n363, p364, w365, hn366, hy367, C368, hR369⟩ := ev_lit1' (P := Tryd.prog) 33 (Kd.arrI 32 .u8) C360 Tryd.underlying31 ti33 ⟨by decide, by decide⟩ r357 (.agg (List.toArray (r357.map (Value.int .u8)))) ⟨rfl, ha358⟩
              refine WL.val (hy367 _ _ _ rfl) ?_
              obtain ⟨hc370, hX233⟩ := guardE hX233
              obtain ⟨A371, c372, n373, p374, w375, hn376, hy377, C378, hR379⟩ := ev_append' (P := Tryd.prog) (cb := c362) 33 (Kd.arrI 32 .u8) [p364] [] C368 hR252 hn366 (Row.sl hR369) (Ctx.sub_of [] [p251] C368) Tryd.underlying31 ti33 rfl zo33 (by decide) (by decide) (by simpa using hc370)
              have C380 : Ctx _ _ _ _ F [p364, p374] := C378
              refine WL.val (hy377 _ _ _ _ rfl rfl) ?_
              refine WL.val (Yl.assign (v := .slice A371 n373 c372) rfl) ?_
              refine WL.done ?_
              refine W.region rfl ?_
              refine WL.val (Yl.move (v := .slice A236 n238 c237) ho234) ?_
              refine WL.val (Yl.move (v := .int .i64 r342) rfl) ?_
              obtain ⟨hc381, hX233⟩ := guardE hX233
              have hn382 : r342.toNat = (x235.take r342.toNat).length := by rw [List.length_take]; omega
              refine WL.val (Yl.sliceHi rfl Tryd.underlying31 sz33 rfl ⟨hc381.1, by omega⟩) ?_
              refine WL.val (Yl.assign (v := .slice A236 r342.toNat c237) rfl) ?_
              refine WL.done ?_
              refine inB_n ?_
              have C384 : Ctx _ _ _ _ F [p374] := Ctx.drop [] [p374] C380
              exact thenE_n ⟨k338, Nat.lt_succ_self _, x235.take r342.toNat, x244, x246 ++ [r357], x254, A236, c237, r342.toNat, A371, c372, n373, p374, rfl, ho243, rfl, ho253, C384, hn382, (by rw [List.length_take]; omega), hm241, (Sl.take hS242 _), hn376, hR379, hX233⟩
            · skip
              refine W.condF (congrArg Value.bool (decide_eq_false hc345)) ?_
              refine W.seq ?_
              refine W.region rfl ?_
              refine WL.val (Yl.move (v := .slice A247 n249 c248) ho245) ?_
              refine WL.val (Yl.move (v := .slice A236 n238 c237) ho234) ?_
              refine WL.val (Yl.move (v := .int .i64 r342) rfl) ?_
              obtain ⟨hc385, hX233⟩ := guardE hX233
              have hn386 : r342.toNat = (x235.take r342.toNat).length := by rw [List.length_take]; omega
              refine WL.val (Yl.sliceHi rfl Tryd.underlying31 sz33 rfl ⟨hc385.1, by omega⟩) ?_
              obtain ⟨r389, hg388, hX233⟩ := bindE hX233
              refine WL.call (args := #[.slice A236 r342.toNat c237]) (Yenter.fn Tryd.func22 (by kernel_rfl) rfl (argsE (.cons rfl .nil))) (proof_Root.calls k338 _ F A236 c237 r342.toNat (x235.take r342.toNat) (Ctx.pre (qs := []) (rest := [p251]) C344) hn386 (by rw [List.length_take]; omega) hm241 (Sl.take hS242 _) (CH.le_trans hG1 (CH.le_trans (CH.le_refl _) (CH.le_refl _))) (CH.le_trans hG3 (CH.le_trans (CH.le_refl _) (CH.le_refl _))) r389 hg388) ?_
              rintro e_ w_ ⟨rfl, C391, ha390⟩
              refine ⟨_, rfl, ?_⟩
              have C392 : Ctx _ _ _ _ F [p251] := Ctx.call (qs := []) (rest := [p251]) C344 C391
              obtain ⟨A393, c394, n395, p396, w397, hn398, hy399, C400, hR401⟩ := ev_lit1' (P := Tryd.prog) 33 (Kd.arrI 32 .u8) C392 Tryd.underlying31 ti33 ⟨by decide, by decide⟩ r389 (.agg (List.toArray (r389.map (Value.int .u8)))) ⟨rfl, ha390⟩
              refine WL.val (hy399 _ _ _ rfl) ?_
              obtain ⟨hc402, hX233⟩ := guardE hX233
              obtain ⟨A403, c404, n405, p406, w407, hn408, hy409, C410, hR411⟩ := ev_append' (P := Tryd.prog) (cb := c394) 33 (Kd.arrI 32 .u8) [p396] [] C400 hR252 hn398 (Row.sl hR401) (Ctx.sub_of [] [p251] C400) Tryd.underlying31 ti33 rfl zo33 (by decide) (by decide) (by simpa using hc402)
              have C412 : Ctx _ _ _ _ F [p396, p406] := C410
              refine WL.val (hy409 _ _ _ _ rfl rfl) ?_
              refine WL.val (Yl.assign (v := .slice A403 n405 c404) rfl) ?_
              refine WL.done ?_
              refine W.region rfl ?_
              refine WL.val (Yl.move (v := .slice A236 n238 c237) ho234) ?_
              refine WL.val (Yl.move (v := .int .i64 r342) rfl) ?_
              obtain ⟨hc413, hX233⟩ := guardE hX233
              have hl422 : x235.length ≤ c237 ∧ c237 ≤ maxLen := ⟨hl240, hm241⟩
              obtain ⟨A414, c415, n416, hv417, hn418, hl419, hm420, hS421⟩ := Sl.cut hS242 (c := c237) hl422.2 r342.toNat x235.length c237 (by omega) (by omega) (by omega) (by omega)
              rw [List.take_length] at hn418 hl419 hS421
              refine WL.val (Yl.slice r342.toNat x235.length c237 rfl Tryd.underlying31 sz33 rfl (hn239).symm (OB.mk rfl (by omega)) (by simp) (by omega) (by omega) (by omega) hv417) ?_
              refine WL.val (Yl.move (v := .int .i64 x244) ho243) ?_
              refine WL.val (Yl.move (v := .int .i64 r342) rfl) ?_
              refine WL.val (Yl.sub (m := x244) (n := r342) (r := wi64 (x244 - r342)) rfl rfl rfl) ?_
              refine WL.val (Yl.assign (v := .slice A414 n416 c415) rfl) ?_
              refine WL.val (Yl.assign (v := .int .i64 (wi64 (x244 - r342))) rfl) ?_
              refine WL.val (Yl.assign (v := .bool false) rfl) ?_
              refine WL.done ?_
              refine inB_n ?_
              have C423 : Ctx _ _ _ _ F [p406] := Ctx.drop [] [p406] C412
              exact thenE_n ⟨k338, Nat.lt_succ_self _, x235.drop r342.toNat, wi64 (x244 - r342), x246 ++ [r389], false, A414, c415, n416, A403, c404, n405, p406, rfl, rfl, rfl, rfl, C423, hn418, hl419, hm420, hS421, hn408, hR411, hX233⟩
          · skip
            refine W.condF (congrArg Value.bool (decide_eq_false hc340)) ?_
            refine W.exit ?_
            refine thenE_x ?_
            refine thenE_x ?_
            refine inB_here ?_
            cases hX233
            refine thenE_n ?_
            exact ⟨A236, c237, n238, A247, c248, n249, p251, ho234, ho245, ho253, C255, hn239, hl240, hm241, hS242, hn250, hR252⟩
        · skip
          rintro env_ w_ ⟨A215, c216, n217, A224, c225, n226, p228, ho213, ho222, ho230, C232, hn218, hl219, hm220, hS221, hn227, hR229⟩
          refine W.seq ?_
          refine W.seq ?_
          refine W.region rfl ?_
          refine WL.val (Yl.move (v := .bool x231) ho230) ?_
          refine WL.val (Yl.not (p := x231) (q := !x231) rfl rfl) ?_
          refine WL.done ?_
          rcases iteE H with ⟨hc424, H⟩ | ⟨hc424, H⟩
          · skip
            refine W.condF (congrArg Value.bool (nb_t hc424)) ?_
            refine W.skip ?_
            refine W.seq ?_
            refine W.region rfl ?_
            refine WL.val (Yl.move (v := .slice A224 n226 c225) ho222) ?_
            obtain ⟨r426, hg425, H⟩ := bindE H
            refine WL.call (args := #[.slice A224 n226 c225]) (Yenter.fn Tryd.func57 (by kernel_rfl) rfl (argsE (.cons rfl .nil))) (proof_turned.calls k _ F A224 c225 n226 p228 x223 (Ctx.pre (qs := [p228]) (rest := []) C232) hn227 hR229 r426 hg425) ?_
            rintro e_ w_ ⟨A427, c428, n429, p431, rfl, C433, hn430, hR432⟩
            refine ⟨_, rfl, ?_⟩
            have C434 : Ctx _ _ _ _ F [p431] := Ctx.call (qs := [p228]) (rest := []) C232 C433
            refine WL.val (Yl.assign (v := .slice A427 n429 c428) rfl) ?_
            refine WL.val (Yl.assign (v := .int .i64 0) rfl) ?_
            refine WL.done ?_
            refine W.ret ?_
            simp only [Option.some.injEq, Prod.mk.injEq] at H
            obtain ⟨e435, e436⟩ := H
            subst e435 e436
            exact post_r (resE2 rfl rfl rfl) ⟨A427, c428, n429, p431, rfl, C434, hn430, hR432⟩
          · skip
            refine W.condT (congrArg Value.bool (nb_f hc424)) ?_
            refine W.region rfl ?_
            refine WL.val (Yl.move (v := .slice A224 n226 c225) ho222) ?_
            refine WL.val (Yl.move (v := .slice A215 n217 c216) ho213) ?_
            obtain ⟨r438, hg437, H⟩ := bindE H
            refine WL.call (args := #[.slice A215 n217 c216]) (Yenter.fn Tryd.func22 (by kernel_rfl) rfl (argsE (.cons rfl .nil))) (proof_Root.calls k _ F A215 c216 n217 x214 (Ctx.pre (qs := []) (rest := [p228]) C232) hn218 hl219 hm220 hS221 (CH.le_trans hG1 (CH.le_trans (CH.le_refl _) (CH.le_refl _))) (CH.le_trans hG3 (CH.le_trans (CH.le_refl _) (CH.le_refl _))) r438 hg437) ?_
            rintro e_ w_ ⟨rfl, C440, ha439⟩
            refine ⟨_, rfl, ?_⟩
            have C441 : Ctx _ _ _ _ F [p228] := Ctx.call (qs := []) (rest := [p228]) C232 C440
            obtain ⟨A442, c443, n444, p445, w446, hn447, hy448, C449, hR450⟩ := ev_lit1' (P := Tryd.prog) 33 (Kd.arrI 32 .u8) C441 Tryd.underlying31 ti33 ⟨by decide, by decide⟩ r438 (.agg (List.toArray (r438.map (Value.int .u8)))) ⟨rfl, ha439⟩
            refine WL.val (hy448 _ _ _ rfl) ?_
            obtain ⟨hc451, H⟩ := guardE H
            obtain ⟨A452, c453, n454, p455, w456, hn457, hy458, C459, hR460⟩ := ev_append' (P := Tryd.prog) (cb := c443) 33 (Kd.arrI 32 .u8) [p445] [] C449 hR229 hn447 (Row.sl hR450) (Ctx.sub_of [] [p228] C449) Tryd.underlying31 ti33 rfl zo33 (by decide) (by decide) (by simpa using hc451)
            have C461 : Ctx _ _ _ _ F [p445, p455] := C459
            refine WL.val (hy458 _ _ _ _ rfl rfl) ?_
            refine WL.val (Yl.assign (v := .slice A452 n454 c453) rfl) ?_
            refine WL.done ?_
            refine W.seq ?_
            refine W.region rfl ?_
            refine WL.val (Yl.move (v := .slice A452 n454 c453) rfl) ?_
            have C462 : Ctx _ _ _ _ F [p455, p445] := Ctx.swap [] [] C461
            obtain ⟨r464, hg463, H⟩ := bindE H
            refine WL.call (args := #[.slice A452 n454 c453]) (Yenter.fn Tryd.func57 (by kernel_rfl) rfl (argsE (.cons rfl .nil))) (proof_turned.calls k _ F A452 c453 n454 p455 (x223 ++ [r438]) (Ctx.pre (qs := [p455]) (rest := [p445]) C462) hn457 hR460 r464 hg463) ?_
            rintro e_ w_ ⟨A465, c466, n467, p469, rfl, C471, hn468, hR470⟩
            refine ⟨_, rfl, ?_⟩
            have C472 : Ctx _ _ _ _ F [p469, p445] := Ctx.call (qs := [p455]) (rest := [p445]) C462 C471
            refine WL.val (Yl.assign (v := .slice A465 n467 c466) rfl) ?_
            refine WL.val (Yl.assign (v := .int .i64 0) rfl) ?_
            refine WL.done ?_
            refine W.ret ?_
            have C473 : Ctx _ _ _ _ F [p469] := Ctx.drop [p469] [] C472
            simp only [Option.some.injEq, Prod.mk.injEq] at H
            obtain ⟨e474, e475⟩ := H
            subst e474 e475
            exact post_r (resE2 rfl rfl rfl) ⟨A465, c466, n467, p469, rfl, C473, hn468, hR470⟩
end Go.Proofs.YthdlfclkcdnenaaDoor
