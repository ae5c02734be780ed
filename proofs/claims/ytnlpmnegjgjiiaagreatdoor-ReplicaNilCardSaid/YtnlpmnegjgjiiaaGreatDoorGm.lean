/- Functions of the program: each as a plain function of numbers and lists, and the proof that the program's own comes to it. Nothing is assumed but what each theorem says. -/
import Derived.Test.YtnlpmnegjgjiiaaGreatDoorGj
namespace Go.Proofs.YtnlpmnegjgjiiaaGreatDoor
open Go.RowKit Go.WG
set_option linter.unusedVariables false
set_option linter.unusedSimpArgs false

/-! ### (jurat/mac.block).round: function 74 -/
def mac_block_round.l1 : Nat → Int → Int → List Int → Option (List Int)
  | 0, _, _, _ => none
  | k + 1, a1, x100, x101 => if x100 < 64 then (if 0 ≤ x100 ∧ x100 < (64 : Int) then (mac_block_round.l1 k a1 (wi64 (x100 + 1)) (x101.set x100.toNat (bitsOp .xor .u8 (x101.getD x100.toNat 0) a1))) else none) else (some x101)
def mac_block_round.f (k : Nat) (a0 : List Int) (a1 : Int) (a2 : List Int) : Option (List Int) := (sha_New.f k ).bind fun r18 => (mac_block_round.l1 k a1 0 a0).bind fun x75 => (sha_Hash_Write.f k r18 x75).bind fun r127 => (sha_Hash_Write.f k r127 a2).bind fun r138 => (sha_Hash_Sum.f k r138).bind fun r157 => some r157
set_option maxRecDepth 100000 in
set_option maxHeartbeats 4000000 in
theorem mac_block_round.calls (k : Nat) (w : World) (F : CH) (a0 : List Int) (a1 : Int) (A2 : Option Addr) (c3 : Nat) (n4 : Nat) (a2 : List Int) (hp : Pre w F []) (ha1 : a0.length = 64) (hn5 : n4 = a2.length) (hl6 : a2.length ≤ c3) (hm7 : c3 ≤ maxLen) (hS8 : Sl (Kd.int .u8) F F A2 a2) (hG1 : CH.le (CH.row 1 0 (glob1.map (Value.int .u32))) F) (hG3 : CH.le (CH.row 3 0 (glob3.map (Value.int .u32))) F) (r0_ : List Int) (H : mac_block_round.f k a0 a1 a2 = some r0_) :
    Calls Tryz.prog 74 #[.agg (List.toArray (a0.map (Value.int .u8))), .int .u8 a1, .slice A2 n4 c3] w fun e w' => e = .returned (.agg (List.toArray (r0_.map (Value.int .u8)))) ∧ Ctx w F (domL []) w' F [] ∧ r0_.length = 32 := by
  have C := Ctx.start hp
  generalize hD : domL [] = D at C ⊢
  unfold mac_block_round.f at H
  refine Calls.ofW Tryz.func74 rfl (by simp [Tryz.ntmps74]) ?_
  refine W.seq ?_
  refine W.region rfl ?_
  obtain ⟨g9, w10, hy11, C12⟩ := ev_box (P := Tryz.prog) 161 (.agg (List.toArray (a0.map (Value.int .u8)))) (a0.map (Value.int .u8)) C rfl
  refine WL.val (hy11 _ _ _ rfl) ?_
  obtain ⟨g13, w14, hy15, C16⟩ := ev_alloc (P := Tryz.prog) (e := 23) ((List.replicate 32 (0 : Int)).map (Value.int .u8)) C12 zr23 rfl
  refine WL.val (hy15 _ _) ?_
  refine WL.done ?_
  refine W.seq ?_
  refine W.region rfl ?_
  obtain ⟨r18, hg17, H⟩ := bindE H
  refine WL.call (args := #[]) (Yenter.fn Tryz.func126 (by kernel_rfl) rfl (argsE .nil)) (sha_New.calls k _ F  (Ctx.pre (qs := []) (rest := [CH.row g13 0 ((List.replicate 32 (0 : Int)).map (Value.int .u8)), CH.row g9 0 (a0.map (Value.int .u8))]) C16) (CH.le_trans hG1 (CH.le_trans (CH.le_refl _) (CH.le_refl _))) r18 hg17) ?_
  rintro e_ w_ ⟨g19, o20, A22, c23, n24, p26, rfl, C28, ha21, hn25, hR27⟩
  refine ⟨_, rfl, ?_⟩
  have C29 : Ctx _ _ _ _ _ [CH.row g19 o20 (r18.words.map (Value.int .u32) ++ [.slice A22 n24 c23, .int .i64 r18.n]), p26, CH.row g13 0 ((List.replicate 32 (0 : Int)).map (Value.int .u8)), CH.row g9 0 (a0.map (Value.int .u8))] := Ctx.call (qs := []) (rest := [CH.row g13 0 ((List.replicate 32 (0 : Int)).map (Value.int .u8)), CH.row g9 0 (a0.map (Value.int .u8))]) C16 C28
  refine WL.val (Yl.assign (v := .pointer (some ⟨g19, o20, none⟩)) rfl) ?_
  refine WL.done ?_
  refine W.seq ?_
  refine W.seq ?_
  refine W.region rfl ?_
  refine WL.val (Yl.move (v := .int .i64 0) rfl) ?_
  refine WL.done ?_
  obtain ⟨x75, hX78, H⟩ := bindE H
  refine W.cutM (fun env_ w_ => env_ 2 = .slice A2 n4 c3 ∧ env_ 3 = .pointer (some ⟨g9, 0, none⟩) ∧ env_ 6 = .pointer (some ⟨g13, 0, none⟩) ∧ env_ 7 = .pointer (some ⟨g19, o20, none⟩) ∧ Ctx w F D w_ F [CH.row g9 0 (x75.map (Value.int .u8)), CH.row g19 o20 (r18.words.map (Value.int .u32) ++ [.slice A22 n24 c23, .int .i64 r18.n]), p26, CH.row g13 0 ((List.replicate 32 (0 : Int)).map (Value.int .u8))] ∧ x75.length = 64) ?_ ?_
  · skip
    refine W.block ?_
    have C112 : Ctx _ _ _ _ _ [CH.row g9 0 (a0.map (Value.int .u8)), CH.row g19 o20 (r18.words.map (Value.int .u32) ++ [.slice A22 n24 c23, .int .i64 r18.n]), p26, CH.row g13 0 ((List.replicate 32 (0 : Int)).map (Value.int .u8))] := Ctx.pick [3, 0, 1, 2] C29 rfl
    refine W.loop (fun g_ env_ w_ => ∃ (x100 : Int) (x101 : List Int), env_ 1 = .int .u8 a1 ∧ env_ 2 = .slice A2 n4 c3 ∧ env_ 3 = .pointer (some ⟨g9, 0, none⟩) ∧ env_ 6 = .pointer (some ⟨g13, 0, none⟩) ∧ env_ 7 = .pointer (some ⟨g19, o20, none⟩) ∧ env_ 10 = .int .i64 x100 ∧ Ctx w F D w_ F [CH.row g9 0 (x101.map (Value.int .u8)), CH.row g19 o20 (r18.words.map (Value.int .u32) ++ [.slice A22 n24 c23, .int .i64 r18.n]), p26, CH.row g13 0 ((List.replicate 32 (0 : Int)).map (Value.int .u8))] ∧ x101.length = 64 ∧ mac_block_round.l1 g_ a1 x100 x101 = some x75) k ⟨0, a0, rfl, rfl, rfl, rfl, rfl, rfl, C112, ha1, hX78⟩ ?_
    clear hX78
    rintro g_ env_ w_ ⟨x100, x101, ho94, ho95, ho96, ho97, ho98, ho99, C103, ha102, hX78⟩
    rcases g_ with _ | k111
    · exact absurd hX78 (by simp [mac_block_round.l1])
    rw [mac_block_round.l1] at hX78
    refine W.seq ?_
    refine W.region rfl ?_
    refine WL.val (Yl.lss (m := x100) (n := 64) (q := decide (x100 < 64)) ho99 rfl rfl) ?_
    refine WL.done ?_
    refine W.seq ?_
    rcases iteE hX78 with ⟨hc113, hX78⟩ | ⟨hc113, hX78⟩
    · skip
      refine W.condT (congrArg Value.bool (decide_eq_true hc113)) ?_
      refine W.skip ?_
      refine W.seq ?_
      refine W.block ?_
      refine W.seq ?_
      refine W.region rfl ?_
      refine WL.val (Yl.move (v := .int .i64 x100) ho99) ?_
      refine WL.val (Yl.assign (v := .int .i64 x100) rfl) ?_
      refine WL.done ?_
      refine W.region rfl ?_
      refine WL.val (Yl.move (v := .int .i64 x100) rfl) ?_
      obtain ⟨hc114, hX78⟩ := guardE hX78
      refine WL.val (Yl.arrAddr (i := x100) ho96 rfl Tryz.underlying161 sz5 hc114) ?_
      refine WL.val (Yl.loadAr (k' := .u8) (g := g9) (off := 0) (o := 0) (cs := x101.map (Value.int .u8)) (pre := []) (post := []) (a := x101) (i := x100) rfl Tryz.underlying5 rfl (Ctx.subI 0 C103 rfl) (by first | (simp only [List.length_append, List.length_map, List.length_cons, List.length_nil, ha102]; done) | simp [ha102]) (by first | (simp only [List.length_append, List.length_map, List.length_cons, List.length_nil, ha102]; done) | simp [ha102]) (by have := ha102; have := hc114; omega)) ?_
      refine WL.val (Yl.move (v := .int .u8 a1) ho94) ?_
      refine WL.val (Yl.xor (m := x101.getD x100.toNat 0) (n := a1) (r := bitsOp .xor .u8 (x101.getD x100.toNat 0) a1) rfl rfl rfl) ?_
      refine WL.val (Yl.arrAddr (i := x100) ho96 rfl Tryz.underlying161 sz5 hc114) ?_
      have ha115 : (x101.set x100.toNat (bitsOp .xor .u8 (x101.getD x100.toNat 0) a1)).length = 64 := by rw [List.length_set]; exact ha102
      obtain ⟨w116, hy117, C118⟩ := ev_setAr' (P := Tryz.prog) (ps1 := []) (ps2 := [CH.row g19 o20 (r18.words.map (Value.int .u32) ++ [.slice A22 n24 c23, .int .i64 r18.n]), p26, CH.row g13 0 ((List.replicate 32 (0 : Int)).map (Value.int .u8))]) (t := 5) (o := 0) (x101.map (Value.int .u8)) ((x101.set x100.toNat (bitsOp .xor .u8 (x101.getD x100.toNat 0) a1)).map (Value.int .u8)) [] [] x101 .u8 x100 (bitsOp .xor .u8 (x101.getD x100.toNat 0) a1) C103 (by first | (simp only [List.length_append, List.length_map, List.length_cons, List.length_nil, ha102]; done) | simp [ha102]) (by first | (simp only [List.length_append, List.length_map, List.length_cons, List.length_nil, ha102]; done) | simp [ha102]) (by first | (simp only [List.length_append, List.length_map, List.length_cons, List.length_nil, ha102]; done) | simp [ha102]) (by have := ha102; have := hc114; omega) sz5
      have C119 : Ctx _ _ _ _ _ [CH.row g9 0 ((x101.set x100.toNat (bitsOp .xor .u8 (x101.getD x100.toNat 0) a1)).map (Value.int .u8)), CH.row g19 o20 (r18.words.map (Value.int .u32) ++ [.slice A22 n24 c23, .int .i64 r18.n]), p26, CH.row g13 0 ((List.replicate 32 (0 : Int)).map (Value.int .u8))] := C118
      refine WL.skip (hy117 _ _ _ _ rfl rfl) ?_
      refine WL.done ?_
      refine inB_n ?_
      refine W.region rfl ?_
      refine WL.val (Yl.add (m := x100) (n := 1) (r := wi64 (x100 + 1)) ho99 rfl rfl) ?_
      refine WL.val (Yl.move (v := .int .i64 (wi64 (x100 + 1))) rfl) ?_
      refine WL.done ?_
      exact thenE_n ⟨k111, Nat.lt_succ_self _, wi64 (x100 + 1), x101.set x100.toNat (bitsOp .xor .u8 (x101.getD x100.toNat 0) a1), ho94, ho95, ho96, ho97, ho98, rfl, C119, ha115, hX78⟩
    · skip
      refine W.condF (congrArg Value.bool (decide_eq_false hc113)) ?_
      refine W.exit ?_
      refine thenE_x ?_
      refine thenE_x ?_
      refine inB_here ?_
      cases hX78
      refine thenE_n ?_
      exact ⟨ho95, ho96, ho97, ho98, C103, ha102⟩
  · skip
    rintro env_ w_ ⟨ho71, ho72, ho73, ho74, C77, ha76⟩
    refine W.seq ?_
    refine W.region rfl ?_
    refine WL.val (Yl.move (v := .pointer (some ⟨g19, o20, none⟩)) ho74) ?_
    obtain ⟨F120, le121, lp122, C123⟩ := Ctx.fzI 0 C77 rfl
    replace C123 : Ctx _ _ _ _ _ [CH.row g19 o20 (r18.words.map (Value.int .u32) ++ [.slice A22 n24 c23, .int .i64 r18.n]), p26, CH.row g13 0 ((List.replicate 32 (0 : Int)).map (Value.int .u8))] := C123
    have hR124 := Row.mono hR27 le121
    have hS125 : Sl (Kd.int .u8) F120 F120 (some ⟨g9, 0 + 0, none⟩) x75 := Sl.ofArr (cs := x75.map (Value.int .u8)) (pre := []) (post := []) lp122 (by first | (simp only [List.length_append, List.length_map, List.length_cons, List.length_nil, ha76]; done) | simp [ha76]) (by first | (simp only [List.length_append, List.length_map, List.length_cons, List.length_nil, ha76]; done) | simp [ha76])
    refine WL.val (Yl.sliceArr 0 64 64 ho72 Tryz.underlying161 sz5 rfl rfl rfl (by simp) (by decide) (by decide) (by decide) rfl) ?_
    obtain ⟨r127, hg126, H⟩ := bindE H
    refine WL.call (args := #[.pointer (some ⟨g19, o20, none⟩), .slice (some ⟨g9, 0 + 0, none⟩) 64 64]) (Yenter.fn Tryz.func127 (by kernel_rfl) rfl (argsE (.cons rfl (.cons rfl .nil)))) (sha_Hash_Write.calls k _ F120 g19 o20 A22 c23 n24 p26 r18 (some ⟨g9, 0 + 0, none⟩) 64 64 x75 (Ctx.pre (qs := [CH.row g19 o20 (r18.words.map (Value.int .u32) ++ [.slice A22 n24 c23, .int .i64 r18.n]), p26]) (rest := [CH.row g13 0 ((List.replicate 32 (0 : Int)).map (Value.int .u8))]) C123) ha21 hn25 hR124 (ha76).symm (Nat.le_of_eq ha76) (by decide) hS125 (CH.le_trans hG3 (CH.le_trans le121 (CH.le_refl _))) r127 hg126) ?_
    rintro e_ w_ ⟨A129, c130, n131, p133, rfl, C135, ha128, hn132, hR134⟩
    refine ⟨_, rfl, ?_⟩
    have C136 : Ctx _ _ _ _ _ [CH.row g19 o20 (r127.words.map (Value.int .u32) ++ [.slice A129 n131 c130, .int .i64 r127.n]), p133, CH.row g13 0 ((List.replicate 32 (0 : Int)).map (Value.int .u8))] := Ctx.call (qs := [CH.row g19 o20 (r18.words.map (Value.int .u32) ++ [.slice A22 n24 c23, .int .i64 r18.n]), p26]) (rest := [CH.row g13 0 ((List.replicate 32 (0 : Int)).map (Value.int .u8))]) C123 C135
    refine WL.done ?_
    refine W.seq ?_
    refine W.region rfl ?_
    refine WL.val (Yl.move (v := .pointer (some ⟨g19, o20, none⟩)) ho74) ?_
    refine WL.val (Yl.move (v := .slice A2 n4 c3) ho71) ?_
    obtain ⟨r138, hg137, H⟩ := bindE H
    refine WL.call (args := #[.pointer (some ⟨g19, o20, none⟩), .slice A2 n4 c3]) (Yenter.fn Tryz.func127 (by kernel_rfl) rfl (argsE (.cons rfl (.cons rfl .nil)))) (sha_Hash_Write.calls k _ F120 g19 o20 A129 c130 n131 p133 r127 A2 c3 n4 a2 (Ctx.pre (qs := [CH.row g19 o20 (r127.words.map (Value.int .u32) ++ [.slice A129 n131 c130, .int .i64 r127.n]), p133]) (rest := [CH.row g13 0 ((List.replicate 32 (0 : Int)).map (Value.int .u8))]) C136) ha128 hn132 hR134 hn5 hl6 hm7 (Sl.mono hS8 le121 le121) (CH.le_trans hG3 (CH.le_trans le121 (CH.le_refl _))) r138 hg137) ?_
    rintro e_ w_ ⟨A140, c141, n142, p144, rfl, C146, ha139, hn143, hR145⟩
    refine ⟨_, rfl, ?_⟩
    have C147 : Ctx _ _ _ _ _ [CH.row g19 o20 (r138.words.map (Value.int .u32) ++ [.slice A140 n142 c141, .int .i64 r138.n]), p144, CH.row g13 0 ((List.replicate 32 (0 : Int)).map (Value.int .u8))] := Ctx.call (qs := [CH.row g19 o20 (r127.words.map (Value.int .u32) ++ [.slice A129 n131 c130, .int .i64 r127.n]), p133]) (rest := [CH.row g13 0 ((List.replicate 32 (0 : Int)).map (Value.int .u8))]) C136 C146
    refine WL.done ?_
    refine W.seq ?_
    refine W.region rfl ?_
    refine WL.val (Yl.move (v := .pointer (some ⟨g19, o20, none⟩)) ho74) ?_
    obtain ⟨F148, le149, lp150, (C151 : Ctx _ _ _ _ _ [p144, CH.row g13 0 ((List.replicate 32 (0 : Int)).map (Value.int .u8))])⟩ := Ctx.fzI 0 C147 rfl
    obtain ⟨F152, le153, lp154, (C155 : Ctx _ _ _ _ _ [CH.row g13 0 ((List.replicate 32 (0 : Int)).map (Value.int .u8))])⟩ := Ctx.fzI 0 C151 rfl
    obtain ⟨r157, hg156, H⟩ := bindE H
    refine WL.call (args := #[.pointer (some ⟨g19, o20, none⟩)]) (Yenter.fn Tryz.func128 (by kernel_rfl) rfl (argsE (.cons rfl .nil))) (sha_Hash_Sum.calls k _ F152 g19 o20 A140 c141 n142 r138 (Ctx.pre (qs := []) (rest := [CH.row g13 0 ((List.replicate 32 (0 : Int)).map (Value.int .u8))]) C155) ha139 hn143 (Row.len_le hR145).1 (Row.len_le hR145).2.1 (Sl.mono (Row.sl hR145) (CH.le_trans le149 le153) lp154) (CH.le_trans lp150 le153) (CH.le_trans hG3 (CH.le_trans le121 (CH.le_trans le149 le153))) r157 hg156) ?_
    rintro e_ w_ ⟨rfl, C159, ha158⟩
    refine ⟨_, rfl, ?_⟩
    have C160 : Ctx _ _ _ _ _ [CH.row g19 o20 (r138.words.map (Value.int .u32) ++ [.slice A140 n142 c141, .int .i64 r138.n]), p144, CH.row g13 0 ((List.replicate 32 (0 : Int)).map (Value.int .u8))] := Ctx.callL (qs := []) (rest := [CH.row g19 o20 (r138.words.map (Value.int .u32) ++ [.slice A140 n142 c141, .int .i64 r138.n]), p144, CH.row g13 0 ((List.replicate 32 (0 : Int)).map (Value.int .u8))]) C147 (CH.le_trans le149 le153) C159
    obtain ⟨w161, hy162, C163⟩ := ev_set (P := Tryz.prog) (ps1 := [CH.row g19 o20 (r138.words.map (Value.int .u32) ++ [.slice A140 n142 c141, .int .i64 r138.n]), p144]) (ps2 := []) (t := 23) (o := 0) ((List.replicate 32 (0 : Int)).map (Value.int .u8)) [] ((List.replicate 32 (0 : Int)).map (Value.int .u8)) [] (r157.map (Value.int .u8)) (.agg (List.toArray (r157.map (Value.int .u8)))) C160 (by first | (simp only [List.length_append, List.length_map, List.length_cons, List.length_nil, (List.length_replicate ..), ha158]; done) | simp [(List.length_replicate ..), ha158]) (by first | (simp only [List.length_append, List.length_map, List.length_cons, List.length_nil, (List.length_replicate ..), ha158]; done) | simp [(List.length_replicate ..), ha158]) (by first | (simp only [List.length_append, List.length_map, List.length_cons, List.length_nil, (List.length_replicate ..), ha158]; done) | simp [(List.length_replicate ..), ha158]) rfl (one_ints _ _) (sz_of sz23 (by first | (simp only [List.length_append, List.length_map, List.length_cons, List.length_nil, ha158]; done) | simp [ha158]))
    have C164 : Ctx _ _ _ _ _ [CH.row g19 o20 (r138.words.map (Value.int .u32) ++ [.slice A140 n142 c141, .int .i64 r138.n]), p144, CH.row g13 0 (r157.map (Value.int .u8))] := (by simpa using C163)
    refine WL.skip (hy162 _ _ _ _ ho73 rfl) ?_
    refine WL.done ?_
    refine W.ret ?_
    have C165 : Ctx _ _ _ _ _ [] := Ctx.pick [] C164 rfl
    have e166 := Option.some.inj H
    subst e166
    exact post_r (resEC rfl ((.cell ho73 (run_loadVA2 (g := g13) (off := 0) (o := 0) (cs := r157.map (Value.int .u8)) (us := r157.map (Value.int .u8)) Tryz.underlying23 rfl (sz_of sz23 (by first | (simp only [List.length_append, List.length_map, List.length_cons, List.length_nil, ha158]; done) | simp [ha158])) (Ctx.subI 2 C164 rfl) (take_all _)) .nil))) ⟨rfl, (Ctx.weak C165 (CH.le_refl _)), ha158⟩
end Go.Proofs.YtnlpmnegjgjiiaaGreatDoor
