/- Functions of the program: each as a plain function of numbers and lists, and the proof that the program's own comes to it. Nothing is assumed but what each theorem says. -/
import Derived.Test.YthdlfclkcdnenaaDoorRGk
namespace Go.Proofs.YthdlfclkcdnenaaDoor
open Go.RowKit Go.WG
set_option linter.unusedVariables false
set_option linter.unusedSimpArgs false
def juratref02_Sum.l1 : Nat → List Int → List Int → Int → List Int → Option (List Int)
  | 0, _, _, _, _ => none
  | k + 1, a0, r33, x276, x277 => if x276 < ((a0 ++ r33).length : Int) then (if 0 ≤ x276 ∧ x276 ≤ (wi64 (x276 + 64)) ∧ (wi64 (x276 + 64)) ≤ ((a0 ++ r33).length : Int) then ((juratref02_Block.f k x277 (((a0 ++ r33).take ((wi64 (x276 + 64)).toNat)).drop x276.toNat)).bind fun r365 => juratref02_Sum.l1 k a0 r33 (wi64 (x276 + 64)) r365) else none) else (some x277)
def juratref02_Sum.l2 : Nat → List Int → Int → List Int → Option (List Int)
  | 0, _, _, _ => none
  | k + 1, x216, x444, x445 => if x444 < 32 then (if 0 ≤ (wi64 (x444.tdiv 4)) ∧ (wi64 (x444.tdiv 4)) < (8 : Int) then (if 0 ≤ (wi64 (24 - (wi64 (8 * (x444.tmod 4))))) then (if 0 ≤ x444 ∧ x444 < (32 : Int) then (juratref02_Sum.l2 k x216 (wi64 (x444 + 1)) (x445.set x444.toNat (wu8 (shrOp .u32 (x216.getD (wi64 (x444.tdiv 4)).toNat 0) (wi64 (24 - (wi64 (8 * (x444.tmod 4))))))))) else none) else none) else none) else (some x445)
def juratref02_Sum.f (k : Nat) (a0 : List Int) : Option (List Int) := if a0.length * 1 ≤ 140737488355328 then ((juratref02_Pad.f k (a0.length : Int)).bind fun r33 => if (a0.length + r33.length) * 1 ≤ 140737488355328 then ((juratref02_Sum.l1 k a0 r33 0 glob0).bind fun x216 => (juratref02_Sum.l2 k x216 0 (List.replicate 32 (0 : Int))).bind fun x421 => some x421) else none) else none
set_option maxRecDepth 100000 in
set_option maxHeartbeats 4000000 in
theorem juratref02_Sum.calls (k : Nat) (w : World) (F : CH) (A1 : Option Addr) (c2 : Nat) (n3 : Nat) (a0 : List Int) (hp : Pre w F []) (hn4 : n3 = a0.length) (hl5 : a0.length ≤ c2) (hm6 : c2 ≤ maxLen) (hS7 : Sl (Kd.int .u8) F F A1 a0) (hG0 : CH.le (CH.row 0 0 (glob0.map (Value.int .u32))) F) (hG2 : CH.le (CH.row 2 0 (glob2.map (Value.int .u32))) F) (r0_ : List Int) (H : juratref02_Sum.f k a0 = some r0_) :
    Calls Tryd.prog 51 #[.slice A1 n3 c2] w fun e w' => e = .returned (.agg (List.toArray (r0_.map (Value.int .u8)))) ∧ Ctx w F (domL []) w' F [] ∧ r0_.length = 32 := by
  have C := Ctx.start hp
  generalize hD : domL [] = D at C ⊢
  unfold juratref02_Sum.f at H
  refine Calls.ofW Tryd.func51 rfl (by simp [Tryd.ntmps51]) ?_
  refine W.seq ?_
  refine W.region rfl ?_
  obtain ⟨g8, w9, hy10, C11⟩ := ev_alloc (P := Tryd.prog) (e := 33) ((List.replicate 32 (0 : Int)).map (Value.int .u8)) C zr33 rfl
  refine WL.val (hy10 _ _) ?_
  refine WL.done ?_
  refine W.seq ?_
  refine W.region rfl ?_
  obtain ⟨A12, c13, n14, p15, w16, hn17, hy18, C19, hR20⟩ := ev_lit0 (P := Tryd.prog) 5 (Kd.int .u8) C11 Tryd.underlying28 ti5
  refine WL.val (hy18 _ _) ?_
  refine WL.val (Yl.move (v := .slice A1 n3 c2) rfl) ?_
  obtain ⟨hc21, H⟩ := guardE H
  obtain ⟨A22, c23, n24, p25, w26, hn27, hy28, C29, hR30⟩ := ev_append' (P := Tryd.prog) (cb := c2) 5 (Kd.int .u8) [] [CH.row g8 0 ((List.replicate 32 (0 : Int)).map (Value.int .u8))] C19 hR20 hn4 hS7 C19.fro Tryd.underlying28 ti5 rfl zo5 (by decide) (by decide) (by simpa using hc21)
  have C31 : Ctx _ _ _ _ F [p25, CH.row g8 0 ((List.replicate 32 (0 : Int)).map (Value.int .u8))] := C29
  rw [List.nil_append] at hn27 hR30
  refine WL.val (hy28 _ _ _ _ rfl rfl) ?_
  refine WL.val (Yl.assign (v := .slice A22 n24 c23) rfl) ?_
  refine WL.done ?_
  refine W.seq ?_
  refine W.region rfl ?_
  refine WL.val (Yl.move (v := .slice A22 n24 c23) rfl) ?_
  refine WL.val (Yl.move (v := .slice A1 n3 c2) rfl) ?_
  refine WL.val (Yl.lenN (A := A1) (l := n3) (q := c2) (n := (a0.length : Int)) rfl Tryd.underlying28 (by omega)) ?_
  obtain ⟨r33, hg32, H⟩ := bindE H
  refine WL.call (args := #[.int .i64 (a0.length : Int)]) (Yenter.fn Tryd.func68 (by kernel_rfl) rfl (argsE (.cons rfl .nil))) (juratref02_Pad.calls k _ F (a0.length : Int) (Ctx.pre (qs := []) (rest := [p25, CH.row g8 0 ((List.replicate 32 (0 : Int)).map (Value.int .u8))]) C31)  r33 hg32) ?_
  rintro e_ w_ ⟨A34, c35, n36, p38, rfl, C40, hn37, hR39⟩
  refine ⟨_, rfl, ?_⟩
  have C41 : Ctx _ _ _ _ F [p38, p25, CH.row g8 0 ((List.replicate 32 (0 : Int)).map (Value.int .u8))] := Ctx.call (qs := []) (rest := [p25, CH.row g8 0 ((List.replicate 32 (0 : Int)).map (Value.int .u8))]) C31 C40
  obtain ⟨hc42, H⟩ := guardE H
  obtain ⟨A43, c44, n45, p46, w47, hn48, hy49, C50, hR51⟩ := ev_append' (P := Tryd.prog) (cb := c35) 5 (Kd.int .u8) [p38] [CH.row g8 0 ((List.replicate 32 (0 : Int)).map (Value.int .u8))] C41 hR30 hn37 (Row.sl hR39) (Ctx.sub_of [] [p25, CH.row g8 0 ((List.replicate 32 (0 : Int)).map (Value.int .u8))] C41) Tryd.underlying28 ti5 rfl zo5 (by decide) (by decide) (by simpa using hc42)
  have C52 : Ctx _ _ _ _ F [p38, p46, CH.row g8 0 ((List.replicate 32 (0 : Int)).map (Value.int .u8))] := C50
  refine WL.val (hy49 _ _ _ _ rfl rfl) ?_
  refine WL.val (Yl.assign (v := .slice A43 n45 c44) rfl) ?_
  refine WL.done ?_
  refine W.seq ?_
  refine W.region rfl ?_
  refine WL.val (Yl.loadVA (g := 0) (off := 0) (o := 0) (cs := glob0.map (Value.int .u32)) (us := glob0.map (Value.int .u32)) rfl Tryd.underlying102 rfl (sz_of sz102 (by first | (simp only [List.length_append, List.length_map, List.length_cons, List.length_nil, glob0_len]; done) | simp [glob0_len])) (Sub.mono (C52.fro) hG0) (take_all _)) ?_
  obtain ⟨g53, w54, hy55, C56⟩ := ev_alloc (P := Tryd.prog) (e := 102) ((List.replicate 8 (0 : Int)).map (Value.int .u32)) C52 zr102 rfl
  refine WL.val (hy55 _ _) ?_
  obtain ⟨w57, hy58, C59⟩ := ev_set (P := Tryd.prog) (ps1 := []) (ps2 := [p38, p46, CH.row g8 0 ((List.replicate 32 (0 : Int)).map (Value.int .u8))]) (t := 102) (o := 0) ((List.replicate 8 (0 : Int)).map (Value.int .u32)) [] ((List.replicate 8 (0 : Int)).map (Value.int .u32)) [] (glob0.map (Value.int .u32)) (.agg (List.toArray (glob0.map (Value.int .u32)))) C56 (by first | (simp only [List.length_append, List.length_map, List.length_cons, List.length_nil, (List.length_replicate ..), glob0_len]; done) | simp [(List.length_replicate ..), glob0_len]) (by first | (simp only [List.length_append, List.length_map, List.length_cons, List.length_nil, (List.length_replicate ..), glob0_len]; done) | simp [(List.length_replicate ..), glob0_len]) (by first | (simp only [List.length_append, List.length_map, List.length_cons, List.length_nil, (List.length_replicate ..), glob0_len]; done) | simp [(List.length_replicate ..), glob0_len]) rfl (one_ints _ _) (sz_of sz102 (by first | (simp only [List.length_append, List.length_map, List.length_cons, List.length_nil, glob0_len]; done) | simp [glob0_len]))
  have C60 : Ctx _ _ _ _ F [CH.row g53 0 (glob0.map (Value.int .u32)), p38, p46, CH.row g8 0 ((List.replicate 32 (0 : Int)).map (Value.int .u8))] := (by simpa using C59)
  refine WL.skip (hy58 _ _ _ _ rfl rfl) ?_
  refine WL.done ?_
  refine W.seq ?_
  refine W.seq ?_
  refine W.region rfl ?_
  refine WL.val (Yl.assign (v := .int .i64 0) rfl) ?_
  refine WL.done ?_
  obtain ⟨x216, hX219, H⟩ := bindE H
  refine W.cutM (fun env_ w_ => env_ 2 = .pointer (some ⟨g8, 0, none⟩) ∧ env_ 4 = .pointer (some ⟨g53, 0, none⟩) ∧ Ctx w F D w_ F [CH.row g53 0 (x216.map (Value.int .u32)), p38, p46, CH.row g8 0 ((List.replicate 32 (0 : Int)).map (Value.int .u8))] ∧ x216.length = 8) ?_ ?_
  · skip
    refine W.block ?_
    refine W.loop (fun g_ env_ w_ => ∃ (x276 : Int) (x277 : List Int), env_ 2 = .pointer (some ⟨g8, 0, none⟩) ∧ env_ 3 = .slice A43 n45 c44 ∧ env_ 4 = .pointer (some ⟨g53, 0, none⟩) ∧ env_ 5 = .int .i64 x276 ∧ Ctx w F D w_ F [CH.row g53 0 (x277.map (Value.int .u32)), p38, p46, CH.row g8 0 ((List.replicate 32 (0 : Int)).map (Value.int .u8))] ∧ x277.length = 8 ∧ juratref02_Sum.l1 g_ a0 r33 x276 x277 = some x216) k ⟨0, glob0, rfl, rfl, rfl, rfl, C60, glob0_len, hX219⟩ ?_
    clear hX219
    rintro g_ env_ w_ ⟨x276, x277, ho272, ho273, ho274, ho275, C279, ha278, hX219⟩
    rcases g_ with _ | k326
    · exact absurd hX219 (by simp [juratref02_Sum.l1])
    rw [juratref02_Sum.l1] at hX219
    refine W.seq ?_
    refine W.seq ?_
    refine W.region rfl ?_
    refine WL.val (Yl.move (v := .int .i64 x276) ho275) ?_
    refine WL.val (Yl.move (v := .slice A43 n45 c44) ho273) ?_
    refine WL.val (Yl.lenN (A := A43) (l := n45) (q := c44) (n := ((a0 ++ r33).length : Int)) rfl Tryd.underlying28 (by omega)) ?_
    refine WL.val (Yl.lss (m := x276) (n := ((a0 ++ r33).length : Int)) (q := decide (x276 < ((a0 ++ r33).length : Int))) rfl rfl rfl) ?_
    refine WL.done ?_
    rcases iteE hX219 with ⟨hc327, hX219⟩ | ⟨hc327, hX219⟩
    · skip
      refine W.condT (congrArg Value.bool (decide_eq_true hc327)) ?_
      refine W.skip ?_
      refine W.seq ?_
      refine W.block ?_
      refine W.regionA [([6, 7], CH.row g53 0 (x277.map (Value.int .u32)))] (by kernel_rfl) ?_
      have C350 := Ctx.drewN C279 1
      refine WA.take (some 0) [6, 7] 0 rfl (by kernel_rfl) (by kernel_rfl) (show _ = #[true, false, false, false, false, false, false, false] from rfl) (Ctx.sub_of [] [p38, p46, CH.row g8 0 ((List.replicate 32 (0 : Int)).map (Value.int .u8))] C350) ⟨(Ctx.sub_of [] [p38, p46, CH.row g8 0 ((List.replicate 32 (0 : Int)).map (Value.int .u8))] C350), trivial⟩ (fun _ hC_ => Yl.loadVA (g := g53) (off := 0) (o := 0) (cs := x277.map (Value.int .u32)) (us := x277.map (Value.int .u32)) ho274 Tryd.underlying102 rfl (sz_of sz102 (by first | (simp only [List.length_append, List.length_map, List.length_cons, List.length_nil, ha278]; done) | simp [ha278])) (show Sub (CH.row g53 0 (x277.map (Value.int .u32))) _ from hC_) (take_all _)) ?_
      refine WA.take none [] 1 rfl (by kernel_rfl) (by kernel_rfl) (show _ = #[true, true, false, false, false, false, false, false] from rfl) trivial ⟨(Ctx.sub_of [] [p38, p46, CH.row g8 0 ((List.replicate 32 (0 : Int)).map (Value.int .u8))] C350), trivial⟩ (fun _ hC_ => Yl.move (v := .slice A43 n45 c44) ho273) ?_
      refine WA.take none [] 2 rfl (by kernel_rfl) (by kernel_rfl) (show _ = #[true, true, true, false, false, false, false, false] from rfl) trivial ⟨(Ctx.sub_of [] [p38, p46, CH.row g8 0 ((List.replicate 32 (0 : Int)).map (Value.int .u8))] C350), trivial⟩ (fun _ hC_ => Yl.move (v := .int .i64 x276) ho275) ?_
      refine WA.take none [] 3 rfl (by kernel_rfl) (by kernel_rfl) (show _ = #[true, true, true, true, false, false, false, false] from rfl) trivial ⟨(Ctx.sub_of [] [p38, p46, CH.row g8 0 ((List.replicate 32 (0 : Int)).map (Value.int .u8))] C350), trivial⟩ (fun _ hC_ => Yl.move (v := .int .i64 x276) ho275) ?_
      refine WA.take none [] 4 rfl (by kernel_rfl) (by kernel_rfl) (show _ = #[true, true, true, true, true, false, false, false] from rfl) trivial ⟨(Ctx.sub_of [] [p38, p46, CH.row g8 0 ((List.replicate 32 (0 : Int)).map (Value.int .u8))] C350), trivial⟩ (fun _ hC_ => Yl.add (m := x276) (n := 64) (r := wi64 (x276 + 64)) rfl rfl rfl) ?_
      obtain ⟨hc351, hX219⟩ := guardE hX219
      have hl360 : (a0 ++ r33).length ≤ c44 ∧ c44 ≤ maxLen := ⟨(Row.len_le hR51).1, (Row.len_le hR51).2.1⟩
      obtain ⟨A352, c353, n354, hv355, hn356, hl357, hm358, hS359⟩ := Sl.cut (Row.sl hR51) (c := c44) hl360.2 x276.toNat ((wi64 (x276 + 64)).toNat) c44 (by omega) (by omega) (by omega) (by omega)
      refine WA.take none [] 5 rfl (by kernel_rfl) (by kernel_rfl) (show _ = #[true, true, true, true, true, true, false, false] from rfl) trivial ⟨(Ctx.sub_of [] [p38, p46, CH.row g8 0 ((List.replicate 32 (0 : Int)).map (Value.int .u8))] C350), trivial⟩ (fun _ hC_ => Yl.slice x276.toNat ((wi64 (x276 + 64)).toNat) c44 rfl Tryd.underlying28 sz5 rfl (OB.mk rfl (by omega)) (OB.mk rfl (by omega)) (by simp) (by omega) (by omega) (by omega) hv355) ?_
      have le361 : CH.le F (CH.join F p46) := CH.le_joinL _ _
      have lp362 : CH.le p46 (CH.join F p46) := CH.le_joinR (Ctx.dis_of [CH.row g53 0 (x277.map (Value.int .u32)), p38] [CH.row g8 0 ((List.replicate 32 (0 : Int)).map (Value.int .u8))] C350)
      have C363 : Ctx _ _ _ _ (CH.join F p46) [CH.row g53 0 (x277.map (Value.int .u32)), p38, CH.row g8 0 ((List.replicate 32 (0 : Int)).map (Value.int .u8))] := Ctx.freeze [CH.row g53 0 (x277.map (Value.int .u32)), p38] [CH.row g8 0 ((List.replicate 32 (0 : Int)).map (Value.int .u8))] C350
      obtain ⟨r365, hg364, hX219⟩ := bindE hX219
      refine WA.up1 6 (by kernel_rfl) (Up.call (args := #[.agg (List.toArray (x277.map (Value.int .u32))), .slice A352 n354 c353]) rfl (by kernel_rfl) (show _ = #[true, true, true, true, true, true, true, false] from rfl) (Yenter.fn Tryd.func69 (by kernel_rfl) rfl (argsE (.cons rfl (.cons rfl .nil)))) (juratref02_Block.calls k326 _ (CH.join F p46) x277 A352 c353 n354 (((a0 ++ r33).take ((wi64 (x276 + 64)).toNat)).drop x276.toNat) (Ctx.pre (qs := []) (rest := [CH.row g53 0 (x277.map (Value.int .u32)), p38, CH.row g8 0 ((List.replicate 32 (0 : Int)).map (Value.int .u8))]) C363) ha278 hn356 hl357 hm358 (Sl.mono hS359 le361 lp362) (CH.le_trans hG2 (CH.le_trans (CH.le_refl _) le361)) r365 hg364) ?_)
      rintro e_ w_ ⟨rfl, C367, ha366⟩
      have C368 : Ctx _ _ _ _ F [CH.row g53 0 (x277.map (Value.int .u32)), p38, p46, CH.row g8 0 ((List.replicate 32 (0 : Int)).map (Value.int .u8))] := Ctx.callL (qs := []) (rest := [CH.row g53 0 (x277.map (Value.int .u32)), p38, p46, CH.row g8 0 ((List.replicate 32 (0 : Int)).map (Value.int .u8))]) C350 le361 C367
      refine ⟨_, rfl, ⟨trivial, trivial⟩, ?_⟩
      obtain ⟨w369, hy370, C371⟩ := ev_set (P := Tryd.prog) (ps1 := []) (ps2 := [p38, p46, CH.row g8 0 ((List.replicate 32 (0 : Int)).map (Value.int .u8))]) (t := 102) (o := 0) (x277.map (Value.int .u32)) [] (x277.map (Value.int .u32)) [] (r365.map (Value.int .u32)) (.agg (List.toArray (r365.map (Value.int .u32)))) C368 (by first | (simp only [List.length_append, List.length_map, List.length_cons, List.length_nil, ha278, ha366]; done) | simp [ha278, ha366]) (by first | (simp only [List.length_append, List.length_map, List.length_cons, List.length_nil, ha278, ha366]; done) | simp [ha278, ha366]) (by first | (simp only [List.length_append, List.length_map, List.length_cons, List.length_nil, ha278, ha366]; done) | simp [ha278, ha366]) rfl (one_ints _ _) (sz_of sz102 (by first | (simp only [List.length_append, List.length_map, List.length_cons, List.length_nil, ha366]; done) | simp [ha366]))
      have C372 : Ctx _ _ _ _ F [CH.row g53 0 (r365.map (Value.int .u32)), p38, p46, CH.row g8 0 ((List.replicate 32 (0 : Int)).map (Value.int .u8))] := (by simpa using C371)
      refine WA.up1 7 (by kernel_rfl) (Up.skip rfl (show _ = #[true, true, true, true, true, true, true, true] from rfl) (hy370 _ _ _ _ ho274 rfl) ⟨trivial, trivial⟩ ?_)
      refine WA.done (by kernel_rfl) ?_
      refine inB_n ?_
      refine W.region rfl ?_
      refine WL.val (Yl.move (v := .int .i64 x276) ho275) ?_
      refine WL.val (Yl.add (m := x276) (n := 64) (r := wi64 (x276 + 64)) rfl rfl rfl) ?_
      refine WL.val (Yl.assign (v := .int .i64 (wi64 (x276 + 64))) rfl) ?_
      refine WL.done ?_
      exact thenE_n ⟨k326, Nat.lt_succ_self _, wi64 (x276 + 64), r365, ho272, ho273, ho274, rfl, C372, ha366, hX219⟩
    · skip
      refine W.condF (congrArg Value.bool (decide_eq_false hc327)) ?_
      refine W.exit ?_
      refine thenE_x ?_
      refine thenE_x ?_
      refine inB_here ?_
      cases hX219
      refine thenE_n ?_
      exact ⟨ho272, ho274, C279, ha278⟩
  · skip
    rintro env_ w_ ⟨ho214, ho215, C218, ha217⟩
    refine W.seq ?_
    refine W.region rfl ?_
    obtain ⟨g373, w374, hy375, C376⟩ := ev_alloc (P := Tryd.prog) (e := 33) ((List.replicate 32 (0 : Int)).map (Value.int .u8)) C218 zr33 rfl
    refine WL.val (hy375 _ _) ?_
    refine WL.done ?_
    refine W.seq ?_
    refine W.seq ?_
    refine W.region rfl ?_
    refine WL.val (Yl.assign (v := .int .i64 0) rfl) ?_
    refine WL.done ?_
    obtain ⟨x421, hX424, H⟩ := bindE H
    refine W.cutM (fun env_ w_ => env_ 2 = .pointer (some ⟨g8, 0, none⟩) ∧ env_ 6 = .pointer (some ⟨g373, 0, none⟩) ∧ Ctx w F D w_ F [CH.row g373 0 (x421.map (Value.int .u8)), CH.row g53 0 (x216.map (Value.int .u32)), p38, p46, CH.row g8 0 ((List.replicate 32 (0 : Int)).map (Value.int .u8))] ∧ x421.length = 32) ?_ ?_
    · skip
      refine W.block ?_
      refine W.loop (fun g_ env_ w_ => ∃ (x444 : Int) (x445 : List Int), env_ 2 = .pointer (some ⟨g8, 0, none⟩) ∧ env_ 4 = .pointer (some ⟨g53, 0, none⟩) ∧ env_ 6 = .pointer (some ⟨g373, 0, none⟩) ∧ env_ 7 = .int .i64 x444 ∧ Ctx w F D w_ F [CH.row g373 0 (x445.map (Value.int .u8)), CH.row g53 0 (x216.map (Value.int .u32)), p38, p46, CH.row g8 0 ((List.replicate 32 (0 : Int)).map (Value.int .u8))] ∧ x445.length = 32 ∧ juratref02_Sum.l2 g_ x216 x444 x445 = some x421) k ⟨0, (List.replicate 32 (0 : Int)), ho214, ho215, rfl, rfl, C376, (List.length_replicate ..), hX424⟩ ?_
      clear hX424
      rintro g_ env_ w_ ⟨x444, x445, ho440, ho441, ho442, ho443, C447, ha446, hX424⟩
      rcases g_ with _ | k457
      · exact absurd hX424 (by simp [juratref02_Sum.l2])
      rw [juratref02_Sum.l2] at hX424
      refine W.seq ?_
      refine W.seq ?_
      refine W.region rfl ?_
      refine WL.val (Yl.move (v := .int .i64 x444) ho443) ?_
      refine WL.val (Yl.lss (m := x444) (n := 32) (q := decide (x444 < 32)) rfl rfl rfl) ?_
      refine WL.done ?_
      rcases iteE hX424 with ⟨hc458, hX424⟩ | ⟨hc458, hX424⟩
      · skip
        refine W.condT (congrArg Value.bool (decide_eq_true hc458)) ?_
        refine W.skip ?_
        refine W.seq ?_
        refine W.block ?_
        refine W.region rfl ?_
        refine WL.val (Yl.move (v := .int .i64 x444) ho443) ?_
        refine WL.val (Yl.move (v := .int .i64 x444) ho443) ?_
        refine WL.val (Yl.quo (m := x444) (n := 4) (r := wi64 (x444.tdiv 4)) rfl rfl (by decide) rfl) ?_
        obtain ⟨hc459, hX424⟩ := guardE hX424
        refine WL.val (Yl.arrAddr (i := wi64 (x444.tdiv 4)) ho441 rfl Tryd.underlying102 sz101 hc459) ?_
        refine WL.val (Yl.loadAr (k' := .u32) (g := g53) (off := 0) (o := 0) (cs := x216.map (Value.int .u32)) (pre := []) (post := []) (a := x216) (i := wi64 (x444.tdiv 4)) rfl Tryd.underlying101 rfl (Ctx.sub_of [CH.row g373 0 (x445.map (Value.int .u8))] [p38, p46, CH.row g8 0 ((List.replicate 32 (0 : Int)).map (Value.int .u8))] C447) (by first | (simp only [List.length_append, List.length_map, List.length_cons, List.length_nil, ha217]; done) | simp [ha217]) (by first | (simp only [List.length_append, List.length_map, List.length_cons, List.length_nil, ha217]; done) | simp [ha217]) (by have := ha217; have := hc459; omega)) ?_
        refine WL.val (Yl.move (v := .int .i64 x444) ho443) ?_
        refine WL.val (Yl.rem (m := x444) (n := 4) (r := x444.tmod 4) rfl rfl (by decide) rfl) ?_
        refine WL.val (Yl.mul (m := 8) (n := x444.tmod 4) (r := wi64 (8 * (x444.tmod 4))) rfl rfl rfl) ?_
        refine WL.val (Yl.sub (m := 24) (n := wi64 (8 * (x444.tmod 4))) (r := wi64 (24 - (wi64 (8 * (x444.tmod 4))))) rfl rfl rfl) ?_
        obtain ⟨hc460, hX424⟩ := guardE hX424
        refine WL.val (Yl.shr (m := x216.getD (wi64 (x444.tdiv 4)).toNat 0) (n := wi64 (24 - (wi64 (8 * (x444.tmod 4))))) (r := shrOp .u32 (x216.getD (wi64 (x444.tdiv 4)).toNat 0) (wi64 (24 - (wi64 (8 * (x444.tmod 4)))))) rfl rfl hc460 rfl) ?_
        refine WL.val (Yl.conv (m := shrOp .u32 (x216.getD (wi64 (x444.tdiv 4)).toNat 0) (wi64 (24 - (wi64 (8 * (x444.tmod 4)))))) (r := wu8 (shrOp .u32 (x216.getD (wi64 (x444.tdiv 4)).toNat 0) (wi64 (24 - (wi64 (8 * (x444.tmod 4))))))) rfl Tryd.underlying101 Tryd.underlying5 rfl) ?_
        obtain ⟨hc461, hX424⟩ := guardE hX424
        refine WL.val (Yl.arrAddr (i := x444) ho442 rfl Tryd.underlying33 sz5 hc461) ?_
        have ha462 : (x445.set x444.toNat (wu8 (shrOp .u32 (x216.getD (wi64 (x444.tdiv 4)).toNat 0) (wi64 (24 - (wi64 (8 * (x444.tmod 4)))))))).length = 32 := by rw [List.length_set]; exact ha446
        obtain ⟨w463, hy464, C465⟩ := ev_setAr' (P := Tryd.prog) (ps1 := []) (ps2 := [CH.row g53 0 (x216.map (Value.int .u32)), p38, p46, CH.row g8 0 ((List.replicate 32 (0 : Int)).map (Value.int .u8))]) (t := 5) (o := 0) (x445.map (Value.int .u8)) ((x445.set x444.toNat (wu8 (shrOp .u32 (x216.getD (wi64 (x444.tdiv 4)).toNat 0) (wi64 (24 - (wi64 (8 * (x444.tmod 4)))))))).map (Value.int .u8)) [] [] x445 .u8 x444 (wu8 (shrOp .u32 (x216.getD (wi64 (x444.tdiv 4)).toNat 0) (wi64 (24 - (wi64 (8 * (x444.tmod 4))))))) C447 (by first | (simp only [List.length_append, List.length_map, List.length_cons, List.length_nil, ha446]; done) | simp [ha446]) (by first | (simp only [List.length_append, List.length_map, List.length_cons, List.length_nil, ha446]; done) | simp [ha446]) (by first | (simp only [List.length_append, List.length_map, List.length_cons, List.length_nil, ha446]; done) | simp [ha446]) (by have := ha446; have := hc461; omega) sz5
        have C466 : Ctx _ _ _ _ F [CH.row g373 0 ((x445.set x444.toNat (wu8 (shrOp .u32 (x216.getD (wi64 (x444.tdiv 4)).toNat 0) (wi64 (24 - (wi64 (8 * (x444.tmod 4)))))))).map (Value.int .u8)), CH.row g53 0 (x216.map (Value.int .u32)), p38, p46, CH.row g8 0 ((List.replicate 32 (0 : Int)).map (Value.int .u8))] := C465
        refine WL.skip (hy464 _ _ _ _ rfl rfl) ?_
        refine WL.done ?_
        refine inB_n ?_
        refine W.region rfl ?_
        refine WL.val (Yl.move (v := .int .i64 x444) ho443) ?_
        refine WL.val (Yl.add (m := x444) (n := 1) (r := wi64 (x444 + 1)) rfl rfl rfl) ?_
        refine WL.val (Yl.assign (v := .int .i64 (wi64 (x444 + 1))) rfl) ?_
        refine WL.done ?_
        exact thenE_n ⟨k457, Nat.lt_succ_self _, wi64 (x444 + 1), x445.set x444.toNat (wu8 (shrOp .u32 (x216.getD (wi64 (x444.tdiv 4)).toNat 0) (wi64 (24 - (wi64 (8 * (x444.tmod 4))))))), ho440, ho441, ho442, rfl, C466, ha462, hX424⟩
      · skip
        refine W.condF (congrArg Value.bool (decide_eq_false hc458)) ?_
        refine W.exit ?_
        refine thenE_x ?_
        refine thenE_x ?_
        refine inB_here ?_
        cases hX424
        refine thenE_n ?_
        exact ⟨ho440, ho442, C447, ha446⟩
    · skip
      rintro env_ w_ ⟨ho419, ho420, C423, ha422⟩
      refine W.seq ?_
      refine W.region rfl ?_
      refine WL.val (Yl.loadVA (g := g373) (off := 0) (o := 0) (cs := x421.map (Value.int .u8)) (us := x421.map (Value.int .u8)) ho420 Tryd.underlying33 rfl (sz_of sz33 (by first | (simp only [List.length_append, List.length_map, List.length_cons, List.length_nil, ha422]; done) | simp [ha422])) (Ctx.sub_of [] [CH.row g53 0 (x216.map (Value.int .u32)), p38, p46, CH.row g8 0 ((List.replicate 32 (0 : Int)).map (Value.int .u8))] C423) (take_all _)) ?_
      obtain ⟨w467, hy468, C469⟩ := ev_set (P := Tryd.prog) (ps1 := [CH.row g373 0 (x421.map (Value.int .u8)), CH.row g53 0 (x216.map (Value.int .u32)), p38, p46]) (ps2 := []) (t := 33) (o := 0) ((List.replicate 32 (0 : Int)).map (Value.int .u8)) [] ((List.replicate 32 (0 : Int)).map (Value.int .u8)) [] (x421.map (Value.int .u8)) (.agg (List.toArray (x421.map (Value.int .u8)))) C423 (by first | (simp only [List.length_append, List.length_map, List.length_cons, List.length_nil, (List.length_replicate ..), ha422]; done) | simp [(List.length_replicate ..), ha422]) (by first | (simp only [List.length_append, List.length_map, List.length_cons, List.length_nil, (List.length_replicate ..), ha422]; done) | simp [(List.length_replicate ..), ha422]) (by first | (simp only [List.length_append, List.length_map, List.length_cons, List.length_nil, (List.length_replicate ..), ha422]; done) | simp [(List.length_replicate ..), ha422]) rfl (one_ints _ _) (sz_of sz33 (by first | (simp only [List.length_append, List.length_map, List.length_cons, List.length_nil, ha422]; done) | simp [ha422]))
      have C470 : Ctx _ _ _ _ F [CH.row g373 0 (x421.map (Value.int .u8)), CH.row g53 0 (x216.map (Value.int .u32)), p38, p46, CH.row g8 0 (x421.map (Value.int .u8))] := (by simpa using C469)
      refine WL.skip (hy468 _ _ _ _ ho419 rfl) ?_
      refine WL.done ?_
      refine W.ret ?_
      have C471 : Ctx _ _ _ _ F [CH.row g53 0 (x216.map (Value.int .u32)), p38, p46, CH.row g8 0 (x421.map (Value.int .u8))] := Ctx.drop [] [CH.row g53 0 (x216.map (Value.int .u32)), p38, p46, CH.row g8 0 (x421.map (Value.int .u8))] C470
      have C472 : Ctx _ _ _ _ F [p38, p46, CH.row g8 0 (x421.map (Value.int .u8))] := Ctx.drop [] [p38, p46, CH.row g8 0 (x421.map (Value.int .u8))] C471
      have C473 : Ctx _ _ _ _ F [p46, CH.row g8 0 (x421.map (Value.int .u8))] := Ctx.drop [] [p46, CH.row g8 0 (x421.map (Value.int .u8))] C472
      have C474 : Ctx _ _ _ _ F [CH.row g8 0 (x421.map (Value.int .u8))] := Ctx.drop [] [CH.row g8 0 (x421.map (Value.int .u8))] C473
      have C475 : Ctx _ _ _ _ F [] := Ctx.drop [] [] C474
      have e476 := Option.some.inj H
      subst e476
      exact post_r (resEC rfl ((.cell ho419 (run_loadVA2 (g := g8) (off := 0) (o := 0) (cs := x421.map (Value.int .u8)) (us := x421.map (Value.int .u8)) Tryd.underlying33 rfl (sz_of sz33 (by first | (simp only [List.length_append, List.length_map, List.length_cons, List.length_nil, ha422]; done) | simp [ha422])) (Ctx.sub_of [CH.row g373 0 (x421.map (Value.int .u8)), CH.row g53 0 (x216.map (Value.int .u32)), p38, p46] [] C470) (take_all _)) .nil))) ⟨rfl, C475, ha422⟩
def juratref02_Join.f (k : Nat) (a0 : List Int) (a1 : List Int) : Option (List Int) := if a0.length * 1 ≤ 140737488355328 then (if (a0.length + a1.length) * 1 ≤ 140737488355328 then (some (a0 ++ a1)) else none) else none
set_option maxRecDepth 100000 in
set_option maxHeartbeats 4000000 in
theorem juratref02_Join.calls (k : Nat) (w : World) (F : CH) (A1 : Option Addr) (c2 : Nat) (n3 : Nat) (a0 : List Int) (A8 : Option Addr) (c9 : Nat) (n10 : Nat) (a1 : List Int) (hp : Pre w F []) (hn4 : n3 = a0.length) (hl5 : a0.length ≤ c2) (hm6 : c2 ≤ maxLen) (hS7 : Sl (Kd.int .u8) F F A1 a0) (hn11 : n10 = a1.length) (hl12 : a1.length ≤ c9) (hm13 : c9 ≤ maxLen) (hS14 : Sl (Kd.int .u8) F F A8 a1) (r0_ : List Int) (H : juratref02_Join.f k a0 a1 = some r0_) :
    Calls Tryd.prog 55 #[.slice A1 n3 c2, .slice A8 n10 c9] w fun e w' => ∃ (A47 : Option Addr) (c48 : Nat) (n49 : Nat) (p51 : CH), e = .returned (.slice A47 n49 c48) ∧ Ctx w F (domL []) w' F [p51] ∧ n49 = r0_.length ∧ Row (Kd.int .u8) F p51 (.slice A47 n49 c48) r0_ := by
  have C := Ctx.start hp
  generalize hD : domL [] = D at C ⊢
  unfold juratref02_Join.f at H
  refine Calls.ofW Tryd.func55 rfl (by simp [Tryd.ntmps55]) ?_
  refine W.seq ?_
  refine W.region rfl ?_
  refine WL.val (Yl.assign (v := .slice none 0 0) rfl) ?_
  refine WL.done ?_
  refine W.seq ?_
  refine W.region rfl ?_
  obtain ⟨A15, c16, n17, p18, w19, hn20, hy21, C22, hR23⟩ := ev_lit0 (P := Tryd.prog) 5 (Kd.int .u8) C Tryd.underlying28 ti5
  refine WL.val (hy21 _ _) ?_
  refine WL.val (Yl.move (v := .slice A1 n3 c2) rfl) ?_
  obtain ⟨hc24, H⟩ := guardE H
  obtain ⟨A25, c26, n27, p28, w29, hn30, hy31, C32, hR33⟩ := ev_append' (P := Tryd.prog) (cb := c2) 5 (Kd.int .u8) [] [] C22 hR23 hn4 hS7 C22.fro Tryd.underlying28 ti5 rfl zo5 (by decide) (by decide) (by simpa using hc24)
  have C34 : Ctx _ _ _ _ F [p28] := C32
  rw [List.nil_append] at hn30 hR33
  refine WL.val (hy31 _ _ _ _ rfl rfl) ?_
  refine WL.val (Yl.assign (v := .slice A25 n27 c26) rfl) ?_
  refine WL.done ?_
  refine W.seq ?_
  refine W.region rfl ?_
  refine WL.val (Yl.move (v := .slice A25 n27 c26) rfl) ?_
  refine WL.val (Yl.move (v := .slice A8 n10 c9) rfl) ?_
  obtain ⟨hc35, H⟩ := guardE H
  obtain ⟨A36, c37, n38, p39, w40, hn41, hy42, C43, hR44⟩ := ev_append' (P := Tryd.prog) (cb := c9) 5 (Kd.int .u8) [] [] C34 hR33 hn11 hS14 C34.fro Tryd.underlying28 ti5 rfl zo5 (by decide) (by decide) (by simpa using hc35)
  have C45 : Ctx _ _ _ _ F [p39] := C43
  refine WL.val (hy42 _ _ _ _ rfl rfl) ?_
  refine WL.val (Yl.assign (v := .slice A36 n38 c37) rfl) ?_
  refine WL.done ?_
  refine W.ret ?_
  have e46 := Option.some.inj H
  subst e46
  exact post_r (resE1 rfl rfl) ⟨A36, c37, n38, p39, rfl, C45, hn41, hR44⟩
def juratref03_Bytes.l1 : Nat → List Int → List Int → Int → Option (List Int)
  | 0, _, _, _ => none
  | k + 1, a0, x77, x85 => if x85 < 32 then (if 0 ≤ x85 ∧ x85 < (32 : Int) then (if (x77.length + 1) * 1 ≤ 140737488355328 then (juratref03_Bytes.l1 k a0 (x77 ++ [a0.getD x85.toNat 0]) (wi64 (x85 + 1))) else none) else none) else (some x77)
def juratref03_Bytes.f (k : Nat) (a0 : List Int) : Option (List Int) := (juratref03_Bytes.l1 k a0 ([] : List Int) 0).bind fun x66 => some x66
set_option maxRecDepth 100000 in
set_option maxHeartbeats 4000000 in
theorem juratref03_Bytes.calls (k : Nat) (w : World) (F : CH) (a0 : List Int) (hp : Pre w F []) (ha1 : a0.length = 32) (r0_ : List Int) (H : juratref03_Bytes.f k a0 = some r0_) :
    Calls Tryd.prog 54 #[.agg (List.toArray (a0.map (Value.int .u8)))] w fun e w' => ∃ (A136 : Option Addr) (c137 : Nat) (n138 : Nat) (p140 : CH), e = .returned (.slice A136 n138 c137) ∧ Ctx w F (domL []) w' F [p140] ∧ n138 = r0_.length ∧ Row (Kd.int .u8) F p140 (.slice A136 n138 c137) r0_ := by
  have C := Ctx.start hp
  generalize hD : domL [] = D at C ⊢
  unfold juratref03_Bytes.f at H
  refine Calls.ofW Tryd.func54 rfl (by simp [Tryd.ntmps54]) ?_
  refine W.seq ?_
  refine W.region rfl ?_
  obtain ⟨g2, w3, hy4, C5⟩ := ev_box (P := Tryd.prog) 33 (.agg (List.toArray (a0.map (Value.int .u8)))) (a0.map (Value.int .u8)) C rfl
  refine WL.val (hy4 _ _ _ rfl) ?_
  refine WL.val (Yl.assign (v := .slice none 0 0) rfl) ?_
  refine WL.done ?_
  refine W.seq ?_
  refine W.region rfl ?_
  refine WL.val (Yl.assign (v := .slice none 0 0) rfl) ?_
  refine WL.done ?_
  refine W.seq ?_
  refine W.seq ?_
  refine W.region rfl ?_
  refine WL.val (Yl.assign (v := .int .i64 0) rfl) ?_
  refine WL.done ?_
  obtain ⟨x66, hX74, H⟩ := bindE H
  refine W.cutM (fun env_ w_ => ∃ (A67 : Option Addr) (c68 : Nat) (n69 : Nat) (p71 : CH), env_ 3 = .slice A67 n69 c68 ∧ Ctx w F D w_ F [p71, CH.row g2 0 (a0.map (Value.int .u8))] ∧ n69 = x66.length ∧ Row (Kd.int .u8) F p71 (.slice A67 n69 c68) x66) ?_ ?_
  · skip
    refine W.block ?_
    have C110 : Ctx _ _ _ _ F [CH.emp, CH.row g2 0 (a0.map (Value.int .u8))] := Ctx.emp C5
    refine W.loop (fun g_ env_ w_ => ∃ (x77 : List Int) (x85 : Int) (A78 : Option Addr) (c79 : Nat) (n80 : Nat) (p82 : CH), env_ 1 = .pointer (some ⟨g2, 0, none⟩) ∧ env_ 3 = .slice A78 n80 c79 ∧ env_ 4 = .int .i64 x85 ∧ Ctx w F D w_ F [p82, CH.row g2 0 (a0.map (Value.int .u8))] ∧ n80 = x77.length ∧ Row (Kd.int .u8) F p82 (.slice A78 n80 c79) x77 ∧ juratref03_Bytes.l1 g_ a0 x77 x85 = some x66) k ⟨([] : List Int), 0, none, 0, 0, CH.emp, rfl, rfl, rfl, C110, rfl, (Row.nil _ _), hX74⟩ ?_
    clear hX74
    rintro g_ env_ w_ ⟨x77, x85, A78, c79, n80, p82, ho75, ho76, ho84, C86, hn81, hR83, hX74⟩
    rcases g_ with _ | k109
    · exact absurd hX74 (by simp [juratref03_Bytes.l1])
    rw [juratref03_Bytes.l1] at hX74
    refine W.seq ?_
    refine W.seq ?_
    refine W.region rfl ?_
    refine WL.val (Yl.move (v := .int .i64 x85) ho84) ?_
    refine WL.val (Yl.lss (m := x85) (n := 32) (q := decide (x85 < 32)) rfl rfl rfl) ?_
    refine WL.done ?_
    rcases iteE hX74 with ⟨hc111, hX74⟩ | ⟨hc111, hX74⟩
    · skip
      refine W.condT (congrArg Value.bool (decide_eq_true hc111)) ?_
      refine W.skip ?_
      refine W.seq ?_
      refine W.block ?_
      refine W.region rfl ?_
      refine WL.val (Yl.move (v := .slice A78 n80 c79) ho76) ?_
      refine WL.val (Yl.move (v := .int .i64 x85) ho84) ?_
      obtain ⟨hc112, hX74⟩ := guardE hX74
      refine WL.val (Yl.arrAddr (i := x85) ho75 rfl Tryd.underlying33 sz5 hc112) ?_
      refine WL.val (Yl.loadAr (k' := .u8) (g := g2) (off := 0) (o := 0) (cs := a0.map (Value.int .u8)) (pre := []) (post := []) (a := a0) (i := x85) rfl Tryd.underlying5 rfl (Ctx.sub_of [p82] [] C86) (by first | (simp only [List.length_append, List.length_map, List.length_cons, List.length_nil, ha1]; done) | simp [ha1]) (by first | (simp only [List.length_append, List.length_map, List.length_cons, List.length_nil, ha1]; done) | simp [ha1]) (by have := ha1; have := hc112; omega)) ?_
      obtain ⟨A113, c114, n115, p116, w117, hn118, hy119, C120, hR121⟩ := ev_lit1' (P := Tryd.prog) 5 (Kd.int .u8) C86 Tryd.underlying28 ti5 ⟨by decide, by decide⟩ (a0.getD x85.toNat 0) (.int .u8 (a0.getD x85.toNat 0)) rfl
      refine WL.val (hy119 _ _ _ rfl) ?_
      obtain ⟨hc122, hX74⟩ := guardE hX74
      obtain ⟨A123, c124, n125, p126, w127, hn128, hy129, C130, hR131⟩ := ev_append' (P := Tryd.prog) (cb := c114) 5 (Kd.int .u8) [p116] [CH.row g2 0 (a0.map (Value.int .u8))] C120 hR83 hn118 (Row.sl hR121) (Ctx.sub_of [] [p82, CH.row g2 0 (a0.map (Value.int .u8))] C120) Tryd.underlying28 ti5 rfl zo5 (by decide) (by decide) (by simpa using hc122)
      have C132 : Ctx _ _ _ _ F [p116, p126, CH.row g2 0 (a0.map (Value.int .u8))] := C130
      refine WL.val (hy129 _ _ _ _ rfl rfl) ?_
      refine WL.val (Yl.assign (v := .slice A123 n125 c124) rfl) ?_
      refine WL.done ?_
      refine inB_n ?_
      refine W.region rfl ?_
      refine WL.val (Yl.move (v := .int .i64 x85) ho84) ?_
      refine WL.val (Yl.add (m := x85) (n := 1) (r := wi64 (x85 + 1)) rfl rfl rfl) ?_
      refine WL.val (Yl.assign (v := .int .i64 (wi64 (x85 + 1))) rfl) ?_
      refine WL.done ?_
      have C133 : Ctx _ _ _ _ F [p126, CH.row g2 0 (a0.map (Value.int .u8))] := Ctx.drop [] [p126, CH.row g2 0 (a0.map (Value.int .u8))] C132
      exact thenE_n ⟨k109, Nat.lt_succ_self _, x77 ++ [a0.getD x85.toNat 0], wi64 (x85 + 1), A123, c124, n125, p126, ho75, rfl, rfl, C133, hn128, hR131, hX74⟩
    · skip
      refine W.condF (congrArg Value.bool (decide_eq_false hc111)) ?_
      refine W.exit ?_
      refine thenE_x ?_
      refine thenE_x ?_
      refine inB_here ?_
      cases hX74
      refine thenE_n ?_
      exact ⟨A78, c79, n80, p82, ho76, C86, hn81, hR83⟩
  · skip
    rintro env_ w_ ⟨A67, c68, n69, p71, ho65, C73, hn70, hR72⟩
    refine W.seq ?_
    refine W.region rfl ?_
    refine WL.val (Yl.move (v := .slice A67 n69 c68) ho65) ?_
    refine WL.val (Yl.assign (v := .slice A67 n69 c68) rfl) ?_
    refine WL.done ?_
    refine W.ret ?_
    have C134 : Ctx _ _ _ _ F [p71] := Ctx.drop [p71] [] C73
    have e135 := Option.some.inj H
    subst e135
    exact post_r (resE1 rfl rfl) ⟨A67, c68, n69, p71, rfl, C134, hn70, hR72⟩
end Go.Proofs.YthdlfclkcdnenaaDoor
