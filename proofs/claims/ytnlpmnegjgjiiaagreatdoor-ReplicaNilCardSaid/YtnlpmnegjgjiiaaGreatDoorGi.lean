/- Functions of the program: each as a plain function of numbers and lists, and the proof that the program's own comes to it. Nothing is assumed but what each theorem says. -/
import Derived.Test.YtnlpmnegjgjiiaaGreatDoorGa
namespace Go.Proofs.YtnlpmnegjgjiiaaGreatDoor
open Go.RowKit Go.WG
set_option linter.unusedVariables false
set_option linter.unusedSimpArgs false

/-! ### jurat/sha.Block: function 172 -/
def sha_Block.l1 : Nat → List Int → Int → List Int → Option (List Int)
  | 0, _, _, _ => none
  | k + 1, a1, x334, x335 => if x334 < 64 then (if x334 < 16 then ((bits_Word.f k a1 (wi64 (4 * x334))).bind fun ⟨r411, r412⟩ => if 0 ≤ x334 ∧ x334 < (64 : Int) then (sha_Block.l1 k a1 (wi64 (x334 + 1)) (x335.set x334.toNat r411)) else none) else (if 0 ≤ (wi64 (x334 - 15)) ∧ (wi64 (x334 - 15)) < (64 : Int) then (if 0 ≤ (wi64 (x334 - 2)) ∧ (wi64 (x334 - 2)) < (64 : Int) then (if 0 ≤ (wi64 (x334 - 16)) ∧ (wi64 (x334 - 16)) < (64 : Int) then (if 0 ≤ (wi64 (x334 - 7)) ∧ (wi64 (x334 - 7)) < (64 : Int) then ((bits_Rot.f k (x335.getD (wi64 (x334 - 15)).toNat 0) 7).bind fun r455 => (bits_Rot.f k (x335.getD (wi64 (x334 - 15)).toNat 0) 18).bind fun r459 => (bits_Rot.f k (x335.getD (wi64 (x334 - 2)).toNat 0) 17).bind fun r463 => (bits_Rot.f k (x335.getD (wi64 (x334 - 2)).toNat 0) 19).bind fun r467 => if 0 ≤ x334 ∧ x334 < (64 : Int) then (sha_Block.l1 k a1 (wi64 (x334 + 1)) (x335.set x334.toNat (wu32 ((wu32 ((wu32 ((x335.getD (wi64 (x334 - 16)).toNat 0) + (x335.getD (wi64 (x334 - 7)).toNat 0))) + (bitsOp .xor .u32 (bitsOp .xor .u32 r455 r459) (shrOp .u32 (x335.getD (wi64 (x334 - 15)).toNat 0) 3)))) + (bitsOp .xor .u32 (bitsOp .xor .u32 r463 r467) (shrOp .u32 (x335.getD (wi64 (x334 - 2)).toNat 0) 10)))))) else none) else none) else none) else none) else none)) else (some x335)
def sha_Block.l2 : Nat → List Int → Int → Int → Int → Int → Int → Int → Int → Int → Int → Option (Int × Int × Int × Int × Int × Int × Int × Int)
  | 0, _, _, _, _, _, _, _, _, _, _ => none
  | k + 1, x249, x569, x571, x573, x575, x577, x579, x581, x583, x586 => if x586 < 64 then (if 0 ≤ x586 ∧ x586 < (64 : Int) then ((bits_Rot.f k x577 6).bind fun r614 => (bits_Rot.f k x577 11).bind fun r616 => (bits_Rot.f k x577 25).bind fun r618 => (bits_Rot.f k x569 2).bind fun r622 => (bits_Rot.f k x569 13).bind fun r626 => (bits_Rot.f k x569 22).bind fun r630 => sha_Block.l2 k x249 (wu32 ((wu32 ((wu32 ((wu32 ((wu32 (x583 + (bitsOp .xor .u32 (bitsOp .xor .u32 r614 r616) r618))) + (bitsOp .xor .u32 x581 (bitsOp .and .u32 x577 (bitsOp .xor .u32 x579 x581))))) + (glob3.getD x586.toNat 0))) + (x249.getD x586.toNat 0))) + (wu32 ((bitsOp .xor .u32 (bitsOp .xor .u32 r622 r626) r630) + (bitsOp .or .u32 (bitsOp .and .u32 x569 x571) (bitsOp .and .u32 x573 (bitsOp .or .u32 x569 x571))))))) x569 x571 x573 (wu32 (x575 + (wu32 ((wu32 ((wu32 ((wu32 (x583 + (bitsOp .xor .u32 (bitsOp .xor .u32 r614 r616) r618))) + (bitsOp .xor .u32 x581 (bitsOp .and .u32 x577 (bitsOp .xor .u32 x579 x581))))) + (glob3.getD x586.toNat 0))) + (x249.getD x586.toNat 0))))) x577 x579 x581 (wi64 (x586 + 1))) else none) else (some (x569, x571, x573, x575, x577, x579, x581, x583))
def sha_Block.f (k : Nat) (a0 : List Int) (a1 : List Int) : Option ((List Int) × Int) := if (a1.length : Int) = 64 then ((sha_Block.l1 k a1 0 (List.replicate 64 (0 : Int))).bind fun x249 => (sha_Block.l2 k x249 (a0.getD (0 : Int).toNat 0) (a0.getD (1 : Int).toNat 0) (a0.getD (2 : Int).toNat 0) (a0.getD (3 : Int).toNat 0) (a0.getD (4 : Int).toNat 0) (a0.getD (5 : Int).toNat 0) (a0.getD (6 : Int).toNat 0) (a0.getD (7 : Int).toNat 0) 0).bind fun ⟨x549, x551, x553, x555, x557, x559, x561, x563⟩ => some ([wu32 ((a0.getD (0 : Int).toNat 0) + x549), wu32 ((a0.getD (1 : Int).toNat 0) + x551), wu32 ((a0.getD (2 : Int).toNat 0) + x553), wu32 ((a0.getD (3 : Int).toNat 0) + x555), wu32 ((a0.getD (4 : Int).toNat 0) + x557), wu32 ((a0.getD (5 : Int).toNat 0) + x559), wu32 ((a0.getD (6 : Int).toNat 0) + x561), wu32 ((a0.getD (7 : Int).toNat 0) + x563)], 0)) else (some ((List.replicate 8 (0 : Int)), 1))
set_option maxRecDepth 100000 in
set_option maxHeartbeats 4000000 in
theorem sha_Block.calls (k : Nat) (w : World) (F : CH) (a0 : List Int) (A2 : Option Addr) (c3 : Nat) (n4 : Nat) (a1 : List Int) (hp : Pre w F []) (ha1 : a0.length = 8) (hn5 : n4 = a1.length) (hl6 : a1.length ≤ c3) (hm7 : c3 ≤ maxLen) (hS8 : Sl (Kd.int .u8) F F A2 a1) (hG3 : CH.le (CH.row 3 0 (glob3.map (Value.int .u32))) F) (r0_ : List Int) (r1_ : Int) (H : sha_Block.f k a0 a1 = some (r0_, r1_)) :
    Calls Tryz.prog 172 #[.agg (List.toArray (a0.map (Value.int .u32))), .slice A2 n4 c3] w fun e w' => e = .returned (.tuple #[(.agg (List.toArray (r0_.map (Value.int .u32)))), (.int .i64 r1_)]) ∧ Ctx w F (domL []) w' F [] ∧ r0_.length = 8 := by
  have C := Ctx.start hp
  generalize hD : domL [] = D at C ⊢
  unfold sha_Block.f at H
  refine Calls.ofW Tryz.func172 rfl (by simp [Tryz.ntmps172]) ?_
  refine W.seq ?_
  refine W.region rfl ?_
  obtain ⟨g9, w10, hy11, C12⟩ := ev_box (P := Tryz.prog) 248 (.agg (List.toArray (a0.map (Value.int .u32)))) (a0.map (Value.int .u32)) C rfl
  refine WL.val (hy11 _ _ _ rfl) ?_
  obtain ⟨g13, w14, hy15, C16⟩ := ev_alloc (P := Tryz.prog) (e := 248) ((List.replicate 8 (0 : Int)).map (Value.int .u32)) C12 zr248 rfl
  refine WL.val (hy15 _ _) ?_
  refine WL.val (Yl.assign (v := .int .i64 0) rfl) ?_
  refine WL.done ?_
  refine W.seq ?_
  refine W.seq ?_
  refine W.region rfl ?_
  refine WL.val (Yl.move (v := .slice A2 n4 c3) rfl) ?_
  refine WL.val (Yl.lenN (A := A2) (l := n4) (q := c3) (n := (a1.length : Int)) rfl Tryz.underlying30 (by omega)) ?_
  refine WL.val (Yl.neq (m := (a1.length : Int)) (n := 64) (q := !decide ((a1.length : Int) = 64)) rfl rfl rfl) ?_
  refine WL.done ?_
  rcases iteE H with ⟨hc17, H⟩ | ⟨hc17, H⟩
  · skip
    refine W.condF (congrArg Value.bool (ndec_t hc17)) ?_
    refine W.skip ?_
    refine W.seq ?_
    refine W.region rfl ?_
    obtain ⟨g18, w19, hy20, C21⟩ := ev_alloc (P := Tryz.prog) (e := 309) ((List.replicate 64 (0 : Int)).map (Value.int .u32)) C16 zr309 rfl
    refine WL.val (hy20 _ _) ?_
    refine WL.done ?_
    refine W.seq ?_
    refine W.seq ?_
    refine W.region rfl ?_
    refine WL.val (Yl.move (v := .int .i64 0) rfl) ?_
    refine WL.done ?_
    obtain ⟨x249, hX252, H⟩ := bindE H
    refine W.cutM (fun env_ w_ => env_ 2 = .pointer (some ⟨g9, 0, none⟩) ∧ env_ 4 = .pointer (some ⟨g13, 0, none⟩) ∧ env_ 6 = .pointer (some ⟨g18, 0, none⟩) ∧ Ctx w F D w_ F [CH.row g18 0 (x249.map (Value.int .u32)), CH.row g13 0 ((List.replicate 8 (0 : Int)).map (Value.int .u32)), CH.row g9 0 (a0.map (Value.int .u32))] ∧ x249.length = 64) ?_ ?_
    · skip
      refine W.block ?_
      refine W.loop (fun g_ env_ w_ => ∃ (x334 : Int) (x335 : List Int), env_ 1 = .slice A2 n4 c3 ∧ env_ 2 = .pointer (some ⟨g9, 0, none⟩) ∧ env_ 4 = .pointer (some ⟨g13, 0, none⟩) ∧ env_ 6 = .pointer (some ⟨g18, 0, none⟩) ∧ env_ 26 = .int .i64 x334 ∧ Ctx w F D w_ F [CH.row g18 0 (x335.map (Value.int .u32)), CH.row g13 0 ((List.replicate 8 (0 : Int)).map (Value.int .u32)), CH.row g9 0 (a0.map (Value.int .u32))] ∧ x335.length = 64 ∧ sha_Block.l1 g_ a1 x334 x335 = some x249) k ⟨0, (List.replicate 64 (0 : Int)), rfl, rfl, rfl, rfl, rfl, C21, (List.length_replicate ..), hX252⟩ ?_
      clear hX252
      rintro g_ env_ w_ ⟨x334, x335, ho329, ho330, ho331, ho332, ho333, C337, ha336, hX252⟩
      rcases g_ with _ | k407
      · exact absurd hX252 (by simp [sha_Block.l1])
      rw [sha_Block.l1] at hX252
      refine W.seq ?_
      refine W.region rfl ?_
      refine WL.val (Yl.lss (m := x334) (n := 64) (q := decide (x334 < 64)) ho333 rfl rfl) ?_
      refine WL.done ?_
      refine W.seq ?_
      rcases iteE hX252 with ⟨hc408, hX252⟩ | ⟨hc408, hX252⟩
      · skip
        refine W.condT (congrArg Value.bool (decide_eq_true hc408)) ?_
        refine W.skip ?_
        refine W.seq ?_
        refine W.block ?_
        refine W.seq ?_
        refine W.region rfl ?_
        refine WL.val (Yl.move (v := .int .i64 x334) ho333) ?_
        refine WL.val (Yl.assign (v := .int .i64 x334) rfl) ?_
        refine WL.done ?_
        refine W.seq ?_
        refine W.seq ?_
        refine W.region rfl ?_
        refine WL.val (Yl.move (v := .int .i64 x334) rfl) ?_
        refine WL.val (Yl.lss (m := x334) (n := 16) (q := decide (x334 < 16)) rfl rfl rfl) ?_
        refine WL.done ?_
        rcases iteE hX252 with ⟨hc409, hX252⟩ | ⟨hc409, hX252⟩
        · skip
          refine W.condT (congrArg Value.bool (decide_eq_true hc409)) ?_
          refine W.seq ?_
          refine W.region rfl ?_
          refine WL.val (Yl.move (v := .int .i64 x334) rfl) ?_
          refine WL.val (Yl.move (v := .slice A2 n4 c3) ho329) ?_
          refine WL.val (Yl.move (v := .int .i64 x334) rfl) ?_
          refine WL.val (Yl.mul (m := 4) (n := x334) (r := wi64 (4 * x334)) rfl rfl rfl) ?_
          obtain ⟨⟨r411, r412⟩, hg410, hX252⟩ := bindE hX252
          refine WL.call (args := #[.slice A2 n4 c3, .int .i64 (wi64 (4 * x334))]) (Yenter.fn Tryz.func221 (by kernel_rfl) rfl (argsE (.cons rfl (.cons rfl .nil)))) (bits_Word.calls k407 _ F A2 c3 n4 a1 (wi64 (4 * x334)) C337.pre0 hn5 hl6 hm7 hS8 r411 r412 hg410) ?_
          rintro e_ w_ ⟨rfl, ⟨m413, rfl⟩⟩
          refine ⟨_, rfl, ?_⟩
          have C414 := Ctx.drewN C337 m413
          refine WL.val (Yl.move (v := .tuple #[(.int .u32 r411), (.int .i64 r412)]) rfl) ?_
          refine WL.val (Yl.extract (v := .int .u32 r411) rfl rfl) ?_
          refine WL.val (Yl.extract (v := .int .i64 r412) rfl rfl) ?_
          obtain ⟨hc415, hX252⟩ := guardE hX252
          refine WL.val (Yl.arrAddr (i := x334) ho332 rfl Tryz.underlying309 sz247 hc415) ?_
          have ha416 : (x335.set x334.toNat r411).length = 64 := by rw [List.length_set]; exact ha336
          obtain ⟨w417, hy418, C419⟩ := ev_setAr' (P := Tryz.prog) (ps1 := []) (ps2 := [CH.row g13 0 ((List.replicate 8 (0 : Int)).map (Value.int .u32)), CH.row g9 0 (a0.map (Value.int .u32))]) (t := 247) (o := 0) (x335.map (Value.int .u32)) ((x335.set x334.toNat r411).map (Value.int .u32)) [] [] x335 .u32 x334 r411 C414 (by first | (simp only [List.length_append, List.length_map, List.length_cons, List.length_nil, ha336]; done) | simp [ha336]) (by first | (simp only [List.length_append, List.length_map, List.length_cons, List.length_nil, ha336]; done) | simp [ha336]) (by first | (simp only [List.length_append, List.length_map, List.length_cons, List.length_nil, ha336]; done) | simp [ha336]) (by have := ha336; have := hc415; omega) sz247
          have C420 : Ctx _ _ _ _ _ [CH.row g18 0 ((x335.set x334.toNat r411).map (Value.int .u32)), CH.row g13 0 ((List.replicate 8 (0 : Int)).map (Value.int .u32)), CH.row g9 0 (a0.map (Value.int .u32))] := C419
          refine WL.skip (hy418 _ _ _ _ rfl rfl) ?_
          refine WL.done ?_
          refine W.exit ?_
          refine thenE_x ?_
          refine inB_here ?_
          refine W.region rfl ?_
          refine WL.val (Yl.add (m := x334) (n := 1) (r := wi64 (x334 + 1)) ho333 rfl rfl) ?_
          refine WL.val (Yl.move (v := .int .i64 (wi64 (x334 + 1))) rfl) ?_
          refine WL.done ?_
          exact thenE_n ⟨k407, Nat.lt_succ_self _, wi64 (x334 + 1), x335.set x334.toNat r411, ho329, ho330, ho331, ho332, rfl, C420, ha416, hX252⟩
        · skip
          refine W.condF (congrArg Value.bool (decide_eq_false hc409)) ?_
          refine W.skip ?_
          refine W.seq ?_
          refine W.region_quiet (by kernel_rfl) (by kernel_rfl) rfl ?_
          refine WQ.vl (fun _ => Yl.move (v := .int .i64 x334) rfl) ?_
          refine WQ.vl (fun _ => Yl.sub (m := x334) (n := 15) (r := wi64 (x334 - 15)) rfl rfl rfl) ?_
          obtain ⟨hc421, hX252⟩ := guardE hX252
          refine WQ.vl (fun _ => Yl.arrAddr (i := wi64 (x334 - 15)) ho332 rfl Tryz.underlying309 sz247 hc421) ?_
          refine WQ.vl (fun _ => Yl.loadAr (k' := .u32) (g := g18) (off := 0) (o := 0) (cs := x335.map (Value.int .u32)) (pre := []) (post := []) (a := x335) (i := wi64 (x334 - 15)) rfl Tryz.underlying247 rfl (Ctx.subI 0 (C337.drewN _) rfl) (by first | (simp only [List.length_append, List.length_map, List.length_cons, List.length_nil, ha336]; done) | simp [ha336]) (by first | (simp only [List.length_append, List.length_map, List.length_cons, List.length_nil, ha336]; done) | simp [ha336]) (by have := ha336; have := hc421; omega)) ?_
          refine WQ.vl (fun _ => Yl.move (v := .int .i64 x334) rfl) ?_
          refine WQ.vl (fun _ => Yl.sub (m := x334) (n := 2) (r := wi64 (x334 - 2)) rfl rfl rfl) ?_
          obtain ⟨hc422, hX252⟩ := guardE hX252
          refine WQ.vl (fun _ => Yl.arrAddr (i := wi64 (x334 - 2)) ho332 rfl Tryz.underlying309 sz247 hc422) ?_
          refine WQ.vl (fun _ => Yl.loadAr (k' := .u32) (g := g18) (off := 0) (o := 0) (cs := x335.map (Value.int .u32)) (pre := []) (post := []) (a := x335) (i := wi64 (x334 - 2)) rfl Tryz.underlying247 rfl (Ctx.subI 0 (C337.drewN _) rfl) (by first | (simp only [List.length_append, List.length_map, List.length_cons, List.length_nil, ha336]; done) | simp [ha336]) (by first | (simp only [List.length_append, List.length_map, List.length_cons, List.length_nil, ha336]; done) | simp [ha336]) (by have := ha336; have := hc422; omega)) ?_
          refine WQ.vl (fun _ => Yl.assign (v := .int .u32 (x335.getD (wi64 (x334 - 15)).toNat 0)) rfl) ?_
          refine WQ.vl (fun _ => Yl.assign (v := .int .u32 (x335.getD (wi64 (x334 - 2)).toNat 0)) rfl) ?_
          refine WQ.done (fun nq423 => ?_)
          have C424 := Ctx.drewN C337 nq423
          refine W.regionA [([29], CH.row g18 0 (x335.map (Value.int .u32)))] (by kernel_rfl) ?_
          have C449 := Ctx.drewN C424 1
          refine WA.takes [(0, none), (1, none), (2, none), (3, none), (4, some 0), (5, none), (6, none), (7, none), (8, some 0), (9, none), (10, none), (12, none), (15, none), (16, none), (19, none), (21, none), (24, none), (25, none)] ⟨(Ctx.subI 0 C449 rfl), trivial⟩ (by kernel_rfl) ?_
          refine WT.val rfl (fun _ hC_ => Yl.move (v := .int .i64 x334) rfl) ?_
          refine WT.val rfl (fun _ hC_ => Yl.move (v := .int .i64 x334) rfl) ?_
          refine WT.val rfl (fun _ hC_ => Yl.sub (m := x334) (n := 16) (r := wi64 (x334 - 16)) rfl rfl rfl) ?_
          obtain ⟨hc452, hX252⟩ := guardE hX252
          refine WT.val rfl (fun _ hC_ => Yl.arrAddr (i := wi64 (x334 - 16)) ho332 rfl Tryz.underlying309 sz247 hc452) ?_
          refine WT.val rfl (fun _ hC_ => Yl.loadAr (k' := .u32) (g := g18) (off := 0) (o := 0) (cs := x335.map (Value.int .u32)) (pre := []) (post := []) (a := x335) (i := wi64 (x334 - 16)) rfl Tryz.underlying247 rfl (show Sub (CH.row g18 0 (x335.map (Value.int .u32))) _ from hC_) (by first | (simp only [List.length_append, List.length_map, List.length_cons, List.length_nil, ha336]; done) | simp [ha336]) (by first | (simp only [List.length_append, List.length_map, List.length_cons, List.length_nil, ha336]; done) | simp [ha336]) (by have := ha336; have := hc452; omega)) ?_
          refine WT.val rfl (fun _ hC_ => Yl.move (v := .int .i64 x334) rfl) ?_
          refine WT.val rfl (fun _ hC_ => Yl.sub (m := x334) (n := 7) (r := wi64 (x334 - 7)) rfl rfl rfl) ?_
          obtain ⟨hc453, hX252⟩ := guardE hX252
          refine WT.val rfl (fun _ hC_ => Yl.arrAddr (i := wi64 (x334 - 7)) ho332 rfl Tryz.underlying309 sz247 hc453) ?_
          refine WT.val rfl (fun _ hC_ => Yl.loadAr (k' := .u32) (g := g18) (off := 0) (o := 0) (cs := x335.map (Value.int .u32)) (pre := []) (post := []) (a := x335) (i := wi64 (x334 - 7)) rfl Tryz.underlying247 rfl (show Sub (CH.row g18 0 (x335.map (Value.int .u32))) _ from hC_) (by first | (simp only [List.length_append, List.length_map, List.length_cons, List.length_nil, ha336]; done) | simp [ha336]) (by first | (simp only [List.length_append, List.length_map, List.length_cons, List.length_nil, ha336]; done) | simp [ha336]) (by have := ha336; have := hc453; omega)) ?_
          refine WT.val rfl (fun _ hC_ => Yl.add (m := x335.getD (wi64 (x334 - 16)).toNat 0) (n := x335.getD (wi64 (x334 - 7)).toNat 0) (r := wu32 ((x335.getD (wi64 (x334 - 16)).toNat 0) + (x335.getD (wi64 (x334 - 7)).toNat 0))) rfl rfl rfl) ?_
          refine WT.val rfl (fun _ hC_ => Yl.move (v := .int .u32 (x335.getD (wi64 (x334 - 15)).toNat 0)) rfl) ?_
          refine WT.val rfl (fun _ hC_ => Yl.move (v := .int .u32 (x335.getD (wi64 (x334 - 15)).toNat 0)) rfl) ?_
          refine WT.val rfl (fun _ hC_ => Yl.move (v := .int .u32 (x335.getD (wi64 (x334 - 15)).toNat 0)) rfl) ?_
          refine WT.val rfl (fun _ hC_ => Yl.shr (m := x335.getD (wi64 (x334 - 15)).toNat 0) (n := 3) (r := shrOp .u32 (x335.getD (wi64 (x334 - 15)).toNat 0) 3) rfl rfl (by decide) rfl) ?_
          refine WT.val rfl (fun _ hC_ => Yl.move (v := .int .u32 (x335.getD (wi64 (x334 - 2)).toNat 0)) rfl) ?_
          refine WT.val rfl (fun _ hC_ => Yl.move (v := .int .u32 (x335.getD (wi64 (x334 - 2)).toNat 0)) rfl) ?_
          refine WT.val rfl (fun _ hC_ => Yl.move (v := .int .u32 (x335.getD (wi64 (x334 - 2)).toNat 0)) rfl) ?_
          refine WT.val rfl (fun _ hC_ => Yl.shr (m := x335.getD (wi64 (x334 - 2)).toNat 0) (n := 10) (r := shrOp .u32 (x335.getD (wi64 (x334 - 2)).toNat 0) 10) rfl rfl (by decide) rfl) ?_
          refine WT.done ?_
          obtain ⟨r455, hg454, hX252⟩ := bindE hX252
          refine WA.up1 11 (by kernel_rfl) (Up.call (args := #[.int .u32 (x335.getD (wi64 (x334 - 15)).toNat 0), .int .i64 7]) rfl (by kernel_rfl) rfl (Yenter.fn Tryz.func222 (by kernel_rfl) rfl (argsE (.cons rfl (.cons rfl .nil)))) (bits_Rot.calls k407 _ F (x335.getD (wi64 (x334 - 15)).toNat 0) 7 C449.pre0  r455 hg454) ?_)
          rintro e_ w_ ⟨rfl, ⟨m456, rfl⟩⟩
          have C457 := Ctx.drewN C449 m456
          refine ⟨_, rfl, ⟨(Ctx.subI 0 C457 rfl), trivial⟩, ?_⟩
          obtain ⟨r459, hg458, hX252⟩ := bindE hX252
          refine WA.up1 13 (by kernel_rfl) (Up.call (args := #[.int .u32 (x335.getD (wi64 (x334 - 15)).toNat 0), .int .i64 18]) rfl (by kernel_rfl) rfl (Yenter.fn Tryz.func222 (by kernel_rfl) rfl (argsE (.cons rfl (.cons rfl .nil)))) (bits_Rot.calls k407 _ F (x335.getD (wi64 (x334 - 15)).toNat 0) 18 C457.pre0  r459 hg458) ?_)
          rintro e_ w_ ⟨rfl, ⟨m460, rfl⟩⟩
          have C461 := Ctx.drewN C457 m460
          refine ⟨_, rfl, ⟨(Ctx.subI 0 C461 rfl), trivial⟩, ?_⟩
          refine WA.takes [(14, none), (17, none), (18, none)] ⟨(Ctx.subI 0 C461 rfl), trivial⟩ (by kernel_rfl) ?_
          refine WT.val rfl (fun _ hC_ => Yl.xor (m := r455) (n := r459) (r := bitsOp .xor .u32 r455 r459) rfl rfl rfl) ?_
          refine WT.val rfl (fun _ hC_ => Yl.xor (m := bitsOp .xor .u32 r455 r459) (n := shrOp .u32 (x335.getD (wi64 (x334 - 15)).toNat 0) 3) (r := bitsOp .xor .u32 (bitsOp .xor .u32 r455 r459) (shrOp .u32 (x335.getD (wi64 (x334 - 15)).toNat 0) 3)) rfl rfl rfl) ?_
          refine WT.val rfl (fun _ hC_ => Yl.add (m := wu32 ((x335.getD (wi64 (x334 - 16)).toNat 0) + (x335.getD (wi64 (x334 - 7)).toNat 0))) (n := bitsOp .xor .u32 (bitsOp .xor .u32 r455 r459) (shrOp .u32 (x335.getD (wi64 (x334 - 15)).toNat 0) 3)) (r := wu32 ((wu32 ((x335.getD (wi64 (x334 - 16)).toNat 0) + (x335.getD (wi64 (x334 - 7)).toNat 0))) + (bitsOp .xor .u32 (bitsOp .xor .u32 r455 r459) (shrOp .u32 (x335.getD (wi64 (x334 - 15)).toNat 0) 3)))) rfl rfl rfl) ?_
          refine WT.done ?_
          obtain ⟨r463, hg462, hX252⟩ := bindE hX252
          refine WA.up1 20 (by kernel_rfl) (Up.call (args := #[.int .u32 (x335.getD (wi64 (x334 - 2)).toNat 0), .int .i64 17]) rfl (by kernel_rfl) rfl (Yenter.fn Tryz.func222 (by kernel_rfl) rfl (argsE (.cons rfl (.cons rfl .nil)))) (bits_Rot.calls k407 _ F (x335.getD (wi64 (x334 - 2)).toNat 0) 17 C461.pre0  r463 hg462) ?_)
          rintro e_ w_ ⟨rfl, ⟨m464, rfl⟩⟩
          have C465 := Ctx.drewN C461 m464
          refine ⟨_, rfl, ⟨(Ctx.subI 0 C465 rfl), trivial⟩, ?_⟩
          obtain ⟨r467, hg466, hX252⟩ := bindE hX252
          refine WA.up1 22 (by kernel_rfl) (Up.call (args := #[.int .u32 (x335.getD (wi64 (x334 - 2)).toNat 0), .int .i64 19]) rfl (by kernel_rfl) rfl (Yenter.fn Tryz.func222 (by kernel_rfl) rfl (argsE (.cons rfl (.cons rfl .nil)))) (bits_Rot.calls k407 _ F (x335.getD (wi64 (x334 - 2)).toNat 0) 19 C465.pre0  r467 hg466) ?_)
          rintro e_ w_ ⟨rfl, ⟨m468, rfl⟩⟩
          have C469 := Ctx.drewN C465 m468
          refine ⟨_, rfl, ⟨(Ctx.subI 0 C469 rfl), trivial⟩, ?_⟩
          refine WA.takes [(23, none), (26, none), (27, none), (28, none)] ⟨(Ctx.subI 0 C469 rfl), trivial⟩ (by kernel_rfl) ?_
          refine WT.val rfl (fun _ hC_ => Yl.xor (m := r463) (n := r467) (r := bitsOp .xor .u32 r463 r467) rfl rfl rfl) ?_
          refine WT.val rfl (fun _ hC_ => Yl.xor (m := bitsOp .xor .u32 r463 r467) (n := shrOp .u32 (x335.getD (wi64 (x334 - 2)).toNat 0) 10) (r := bitsOp .xor .u32 (bitsOp .xor .u32 r463 r467) (shrOp .u32 (x335.getD (wi64 (x334 - 2)).toNat 0) 10)) rfl rfl rfl) ?_
          refine WT.val rfl (fun _ hC_ => Yl.add (m := wu32 ((wu32 ((x335.getD (wi64 (x334 - 16)).toNat 0) + (x335.getD (wi64 (x334 - 7)).toNat 0))) + (bitsOp .xor .u32 (bitsOp .xor .u32 r455 r459) (shrOp .u32 (x335.getD (wi64 (x334 - 15)).toNat 0) 3)))) (n := bitsOp .xor .u32 (bitsOp .xor .u32 r463 r467) (shrOp .u32 (x335.getD (wi64 (x334 - 2)).toNat 0) 10)) (r := wu32 ((wu32 ((wu32 ((x335.getD (wi64 (x334 - 16)).toNat 0) + (x335.getD (wi64 (x334 - 7)).toNat 0))) + (bitsOp .xor .u32 (bitsOp .xor .u32 r455 r459) (shrOp .u32 (x335.getD (wi64 (x334 - 15)).toNat 0) 3)))) + (bitsOp .xor .u32 (bitsOp .xor .u32 r463 r467) (shrOp .u32 (x335.getD (wi64 (x334 - 2)).toNat 0) 10)))) rfl rfl rfl) ?_
          obtain ⟨hc471, hX252⟩ := guardE hX252
          refine WT.val rfl (fun _ hC_ => Yl.arrAddr (i := x334) ho332 rfl Tryz.underlying309 sz247 hc471) ?_
          refine WT.done ?_
          have ha472 : (x335.set x334.toNat (wu32 ((wu32 ((wu32 ((x335.getD (wi64 (x334 - 16)).toNat 0) + (x335.getD (wi64 (x334 - 7)).toNat 0))) + (bitsOp .xor .u32 (bitsOp .xor .u32 r455 r459) (shrOp .u32 (x335.getD (wi64 (x334 - 15)).toNat 0) 3)))) + (bitsOp .xor .u32 (bitsOp .xor .u32 r463 r467) (shrOp .u32 (x335.getD (wi64 (x334 - 2)).toNat 0) 10))))).length = 64 := by rw [List.length_set]; exact ha336
          obtain ⟨w473, hy474, C475⟩ := ev_setAr' (P := Tryz.prog) (ps1 := []) (ps2 := [CH.row g13 0 ((List.replicate 8 (0 : Int)).map (Value.int .u32)), CH.row g9 0 (a0.map (Value.int .u32))]) (t := 247) (o := 0) (x335.map (Value.int .u32)) ((x335.set x334.toNat (wu32 ((wu32 ((wu32 ((x335.getD (wi64 (x334 - 16)).toNat 0) + (x335.getD (wi64 (x334 - 7)).toNat 0))) + (bitsOp .xor .u32 (bitsOp .xor .u32 r455 r459) (shrOp .u32 (x335.getD (wi64 (x334 - 15)).toNat 0) 3)))) + (bitsOp .xor .u32 (bitsOp .xor .u32 r463 r467) (shrOp .u32 (x335.getD (wi64 (x334 - 2)).toNat 0) 10))))).map (Value.int .u32)) [] [] x335 .u32 x334 (wu32 ((wu32 ((wu32 ((x335.getD (wi64 (x334 - 16)).toNat 0) + (x335.getD (wi64 (x334 - 7)).toNat 0))) + (bitsOp .xor .u32 (bitsOp .xor .u32 r455 r459) (shrOp .u32 (x335.getD (wi64 (x334 - 15)).toNat 0) 3)))) + (bitsOp .xor .u32 (bitsOp .xor .u32 r463 r467) (shrOp .u32 (x335.getD (wi64 (x334 - 2)).toNat 0) 10)))) C469 (by first | (simp only [List.length_append, List.length_map, List.length_cons, List.length_nil, ha336]; done) | simp [ha336]) (by first | (simp only [List.length_append, List.length_map, List.length_cons, List.length_nil, ha336]; done) | simp [ha336]) (by first | (simp only [List.length_append, List.length_map, List.length_cons, List.length_nil, ha336]; done) | simp [ha336]) (by have := ha336; have := hc471; omega) sz247
          have C476 : Ctx _ _ _ _ _ [CH.row g18 0 ((x335.set x334.toNat (wu32 ((wu32 ((wu32 ((x335.getD (wi64 (x334 - 16)).toNat 0) + (x335.getD (wi64 (x334 - 7)).toNat 0))) + (bitsOp .xor .u32 (bitsOp .xor .u32 r455 r459) (shrOp .u32 (x335.getD (wi64 (x334 - 15)).toNat 0) 3)))) + (bitsOp .xor .u32 (bitsOp .xor .u32 r463 r467) (shrOp .u32 (x335.getD (wi64 (x334 - 2)).toNat 0) 10))))).map (Value.int .u32)), CH.row g13 0 ((List.replicate 8 (0 : Int)).map (Value.int .u32)), CH.row g9 0 (a0.map (Value.int .u32))] := C475
          refine WA.up1 29 (by kernel_rfl) (Up.skip rfl rfl (hy474 _ _ _ _ rfl rfl) ⟨trivial, trivial⟩ ?_)
          refine WA.done (by kernel_rfl) ?_
          refine inB_n ?_
          refine W.region rfl ?_
          refine WL.val (Yl.add (m := x334) (n := 1) (r := wi64 (x334 + 1)) ho333 rfl rfl) ?_
          refine WL.val (Yl.move (v := .int .i64 (wi64 (x334 + 1))) rfl) ?_
          refine WL.done ?_
          exact thenE_n ⟨k407, Nat.lt_succ_self _, wi64 (x334 + 1), x335.set x334.toNat (wu32 ((wu32 ((wu32 ((x335.getD (wi64 (x334 - 16)).toNat 0) + (x335.getD (wi64 (x334 - 7)).toNat 0))) + (bitsOp .xor .u32 (bitsOp .xor .u32 r455 r459) (shrOp .u32 (x335.getD (wi64 (x334 - 15)).toNat 0) 3)))) + (bitsOp .xor .u32 (bitsOp .xor .u32 r463 r467) (shrOp .u32 (x335.getD (wi64 (x334 - 2)).toNat 0) 10)))), ho329, ho330, ho331, ho332, rfl, C476, ha472, hX252⟩
      · skip
        refine W.condF (congrArg Value.bool (decide_eq_false hc408)) ?_
        refine W.exit ?_
        refine thenE_x ?_
        refine thenE_x ?_
        refine inB_here ?_
        cases hX252
        refine thenE_n ?_
        exact ⟨ho330, ho331, ho332, C337, ha336⟩
    · skip
      rintro env_ w_ ⟨ho246, ho247, ho248, C251, ha250⟩
      refine W.seq ?_
      refine W.region_quiet (by kernel_rfl) (by kernel_rfl) rfl ?_
      refine WQ.vl (fun _ => Yl.arrAddr (i := 0) ho246 rfl Tryz.underlying248 sz247 (show 0 ≤ (0 : Int) ∧ (0 : Int) < (8 : Int) from by decide)) ?_
      refine WQ.vl (fun _ => Yl.loadAr (k' := .u32) (g := g9) (off := 0) (o := 0) (cs := a0.map (Value.int .u32)) (pre := []) (post := []) (a := a0) (i := 0) rfl Tryz.underlying247 rfl (Ctx.subI 2 (C251.drewN _) rfl) (by first | (simp only [List.length_append, List.length_map, List.length_cons, List.length_nil, ha1]; done) | simp [ha1]) (by first | (simp only [List.length_append, List.length_map, List.length_cons, List.length_nil, ha1]; done) | simp [ha1]) (by have := ha1; have := (show 0 ≤ (0 : Int) ∧ (0 : Int) < (8 : Int) from by decide); omega)) ?_
      refine WQ.vl (fun _ => Yl.arrAddr (i := 1) ho246 rfl Tryz.underlying248 sz247 (show 0 ≤ (1 : Int) ∧ (1 : Int) < (8 : Int) from by decide)) ?_
      refine WQ.vl (fun _ => Yl.loadAr (k' := .u32) (g := g9) (off := 0) (o := 0) (cs := a0.map (Value.int .u32)) (pre := []) (post := []) (a := a0) (i := 1) rfl Tryz.underlying247 rfl (Ctx.subI 2 (C251.drewN _) rfl) (by first | (simp only [List.length_append, List.length_map, List.length_cons, List.length_nil, ha1]; done) | simp [ha1]) (by first | (simp only [List.length_append, List.length_map, List.length_cons, List.length_nil, ha1]; done) | simp [ha1]) (by have := ha1; have := (show 0 ≤ (1 : Int) ∧ (1 : Int) < (8 : Int) from by decide); omega)) ?_
      refine WQ.vl (fun _ => Yl.arrAddr (i := 2) ho246 rfl Tryz.underlying248 sz247 (show 0 ≤ (2 : Int) ∧ (2 : Int) < (8 : Int) from by decide)) ?_
      refine WQ.vl (fun _ => Yl.loadAr (k' := .u32) (g := g9) (off := 0) (o := 0) (cs := a0.map (Value.int .u32)) (pre := []) (post := []) (a := a0) (i := 2) rfl Tryz.underlying247 rfl (Ctx.subI 2 (C251.drewN _) rfl) (by first | (simp only [List.length_append, List.length_map, List.length_cons, List.length_nil, ha1]; done) | simp [ha1]) (by first | (simp only [List.length_append, List.length_map, List.length_cons, List.length_nil, ha1]; done) | simp [ha1]) (by have := ha1; have := (show 0 ≤ (2 : Int) ∧ (2 : Int) < (8 : Int) from by decide); omega)) ?_
      refine WQ.vl (fun _ => Yl.arrAddr (i := 3) ho246 rfl Tryz.underlying248 sz247 (show 0 ≤ (3 : Int) ∧ (3 : Int) < (8 : Int) from by decide)) ?_
      refine WQ.vl (fun _ => Yl.loadAr (k' := .u32) (g := g9) (off := 0) (o := 0) (cs := a0.map (Value.int .u32)) (pre := []) (post := []) (a := a0) (i := 3) rfl Tryz.underlying247 rfl (Ctx.subI 2 (C251.drewN _) rfl) (by first | (simp only [List.length_append, List.length_map, List.length_cons, List.length_nil, ha1]; done) | simp [ha1]) (by first | (simp only [List.length_append, List.length_map, List.length_cons, List.length_nil, ha1]; done) | simp [ha1]) (by have := ha1; have := (show 0 ≤ (3 : Int) ∧ (3 : Int) < (8 : Int) from by decide); omega)) ?_
      refine WQ.vl (fun _ => Yl.arrAddr (i := 4) ho246 rfl Tryz.underlying248 sz247 (show 0 ≤ (4 : Int) ∧ (4 : Int) < (8 : Int) from by decide)) ?_
      refine WQ.vl (fun _ => Yl.loadAr (k' := .u32) (g := g9) (off := 0) (o := 0) (cs := a0.map (Value.int .u32)) (pre := []) (post := []) (a := a0) (i := 4) rfl Tryz.underlying247 rfl (Ctx.subI 2 (C251.drewN _) rfl) (by first | (simp only [List.length_append, List.length_map, List.length_cons, List.length_nil, ha1]; done) | simp [ha1]) (by first | (simp only [List.length_append, List.length_map, List.length_cons, List.length_nil, ha1]; done) | simp [ha1]) (by have := ha1; have := (show 0 ≤ (4 : Int) ∧ (4 : Int) < (8 : Int) from by decide); omega)) ?_
      refine WQ.vl (fun _ => Yl.arrAddr (i := 5) ho246 rfl Tryz.underlying248 sz247 (show 0 ≤ (5 : Int) ∧ (5 : Int) < (8 : Int) from by decide)) ?_
      refine WQ.vl (fun _ => Yl.loadAr (k' := .u32) (g := g9) (off := 0) (o := 0) (cs := a0.map (Value.int .u32)) (pre := []) (post := []) (a := a0) (i := 5) rfl Tryz.underlying247 rfl (Ctx.subI 2 (C251.drewN _) rfl) (by first | (simp only [List.length_append, List.length_map, List.length_cons, List.length_nil, ha1]; done) | simp [ha1]) (by first | (simp only [List.length_append, List.length_map, List.length_cons, List.length_nil, ha1]; done) | simp [ha1]) (by have := ha1; have := (show 0 ≤ (5 : Int) ∧ (5 : Int) < (8 : Int) from by decide); omega)) ?_
      refine WQ.vl (fun _ => Yl.arrAddr (i := 6) ho246 rfl Tryz.underlying248 sz247 (show 0 ≤ (6 : Int) ∧ (6 : Int) < (8 : Int) from by decide)) ?_
      refine WQ.vl (fun _ => Yl.loadAr (k' := .u32) (g := g9) (off := 0) (o := 0) (cs := a0.map (Value.int .u32)) (pre := []) (post := []) (a := a0) (i := 6) rfl Tryz.underlying247 rfl (Ctx.subI 2 (C251.drewN _) rfl) (by first | (simp only [List.length_append, List.length_map, List.length_cons, List.length_nil, ha1]; done) | simp [ha1]) (by first | (simp only [List.length_append, List.length_map, List.length_cons, List.length_nil, ha1]; done) | simp [ha1]) (by have := ha1; have := (show 0 ≤ (6 : Int) ∧ (6 : Int) < (8 : Int) from by decide); omega)) ?_
      refine WQ.vl (fun _ => Yl.arrAddr (i := 7) ho246 rfl Tryz.underlying248 sz247 (show 0 ≤ (7 : Int) ∧ (7 : Int) < (8 : Int) from by decide)) ?_
      refine WQ.vl (fun _ => Yl.loadAr (k' := .u32) (g := g9) (off := 0) (o := 0) (cs := a0.map (Value.int .u32)) (pre := []) (post := []) (a := a0) (i := 7) rfl Tryz.underlying247 rfl (Ctx.subI 2 (C251.drewN _) rfl) (by first | (simp only [List.length_append, List.length_map, List.length_cons, List.length_nil, ha1]; done) | simp [ha1]) (by first | (simp only [List.length_append, List.length_map, List.length_cons, List.length_nil, ha1]; done) | simp [ha1]) (by have := ha1; have := (show 0 ≤ (7 : Int) ∧ (7 : Int) < (8 : Int) from by decide); omega)) ?_
      refine WQ.vl (fun _ => Yl.assign (v := .int .u32 (a0.getD (0 : Int).toNat 0)) rfl) ?_
      refine WQ.vl (fun _ => Yl.assign (v := .int .u32 (a0.getD (1 : Int).toNat 0)) rfl) ?_
      refine WQ.vl (fun _ => Yl.assign (v := .int .u32 (a0.getD (2 : Int).toNat 0)) rfl) ?_
      refine WQ.vl (fun _ => Yl.assign (v := .int .u32 (a0.getD (3 : Int).toNat 0)) rfl) ?_
      refine WQ.vl (fun _ => Yl.assign (v := .int .u32 (a0.getD (4 : Int).toNat 0)) rfl) ?_
      refine WQ.vl (fun _ => Yl.assign (v := .int .u32 (a0.getD (5 : Int).toNat 0)) rfl) ?_
      refine WQ.vl (fun _ => Yl.assign (v := .int .u32 (a0.getD (6 : Int).toNat 0)) rfl) ?_
      refine WQ.vl (fun _ => Yl.assign (v := .int .u32 (a0.getD (7 : Int).toNat 0)) rfl) ?_
      refine WQ.done (fun nq477 => ?_)
      have C478 := Ctx.drewN C251 nq477
      refine W.seq ?_
      refine W.seq ?_
      refine W.region rfl ?_
      refine WL.val (Yl.loadVA (g := g18) (off := 0) (o := 0) (cs := x249.map (Value.int .u32)) (us := x249.map (Value.int .u32)) ho248 Tryz.underlying309 rfl (sz_of sz309 (by first | (simp only [List.length_append, List.length_map, List.length_cons, List.length_nil, ha250]; done) | simp [ha250])) (Ctx.subI 0 C478 rfl) (take_all _)) ?_
      refine WL.val (Yl.move (v := .int .i64 0) rfl) ?_
      refine WL.done ?_
      obtain ⟨⟨x549, x551, x553, x555, x557, x559, x561, x563⟩, hX565, H⟩ := bindE H
      refine W.cutM (fun env_ w_ => env_ 2 = .pointer (some ⟨g9, 0, none⟩) ∧ env_ 4 = .pointer (some ⟨g13, 0, none⟩) ∧ env_ 10 = .int .u32 x549 ∧ env_ 11 = .int .u32 x551 ∧ env_ 12 = .int .u32 x553 ∧ env_ 13 = .int .u32 x555 ∧ env_ 14 = .int .u32 x557 ∧ env_ 15 = .int .u32 x559 ∧ env_ 16 = .int .u32 x561 ∧ env_ 17 = .int .u32 x563 ∧ Ctx w F D w_ F [CH.row g18 0 (x249.map (Value.int .u32)), CH.row g13 0 ((List.replicate 8 (0 : Int)).map (Value.int .u32)), CH.row g9 0 (a0.map (Value.int .u32))]) ?_ ?_
      · skip
        refine W.block ?_
        refine W.loop (fun g_ env_ w_ => ∃ (x569 : Int) (x571 : Int) (x573 : Int) (x575 : Int) (x577 : Int) (x579 : Int) (x581 : Int) (x583 : Int) (x586 : Int), env_ 2 = .pointer (some ⟨g9, 0, none⟩) ∧ env_ 4 = .pointer (some ⟨g13, 0, none⟩) ∧ env_ 10 = .int .u32 x569 ∧ env_ 11 = .int .u32 x571 ∧ env_ 12 = .int .u32 x573 ∧ env_ 13 = .int .u32 x575 ∧ env_ 14 = .int .u32 x577 ∧ env_ 15 = .int .u32 x579 ∧ env_ 16 = .int .u32 x581 ∧ env_ 17 = .int .u32 x583 ∧ env_ 94 = .agg (List.toArray (x249.map (Value.int .u32))) ∧ env_ 95 = .int .i64 x586 ∧ Ctx w F D w_ F [CH.row g18 0 (x249.map (Value.int .u32)), CH.row g13 0 ((List.replicate 8 (0 : Int)).map (Value.int .u32)), CH.row g9 0 (a0.map (Value.int .u32))] ∧ sha_Block.l2 g_ x249 x569 x571 x573 x575 x577 x579 x581 x583 x586 = some (x549, x551, x553, x555, x557, x559, x561, x563)) k ⟨a0.getD (0 : Int).toNat 0, a0.getD (1 : Int).toNat 0, a0.getD (2 : Int).toNat 0, a0.getD (3 : Int).toNat 0, a0.getD (4 : Int).toNat 0, a0.getD (5 : Int).toNat 0, a0.getD (6 : Int).toNat 0, a0.getD (7 : Int).toNat 0, 0, ho246, ho247, rfl, rfl, rfl, rfl, rfl, rfl, rfl, rfl, rfl, rfl, C478, hX565⟩ ?_
        clear hX565
        rintro g_ env_ w_ ⟨x569, x571, x573, x575, x577, x579, x581, x583, x586, ho566, ho567, ho568, ho570, ho572, ho574, ho576, ho578, ho580, ho582, ho584, ho585, C587, hX565⟩
        rcases g_ with _ | k610
        · exact absurd hX565 (by simp [sha_Block.l2])
        rw [sha_Block.l2] at hX565
        refine W.seq ?_
        refine W.region rfl ?_
        refine WL.val (Yl.lss (m := x586) (n := 64) (q := decide (x586 < 64)) ho585 rfl rfl) ?_
        refine WL.done ?_
        refine W.seq ?_
        rcases iteE hX565 with ⟨hc611, hX565⟩ | ⟨hc611, hX565⟩
        · skip
          refine W.condT (congrArg Value.bool (decide_eq_true hc611)) ?_
          refine W.skip ?_
          refine W.seq ?_
          refine W.block ?_
          refine W.seq ?_
          refine W.region rfl ?_
          refine WL.val (Yl.move (v := .int .i64 x586) ho585) ?_
          obtain ⟨hc612, hX565⟩ := guardE hX565
          refine WL.val (Yl.indexAgg (k' := .u32) (a := x249) (i := x586) ho584 ho585 Tryz.underlying309 Tryz.underlying247 sz247 ha250 (by have := ha250; have := hc612; omega)) ?_
          refine WL.val (Yl.assign (v := .int .i64 x586) rfl) ?_
          refine WL.val (Yl.assign (v := .int .u32 (x249.getD x586.toNat 0)) rfl) ?_
          refine WL.done ?_
          refine W.seq ?_
          refine W.region_quiet (by kernel_rfl) (by kernel_rfl) rfl ?_
          refine WQ.vl (fun _ => Yl.move (v := .int .u32 x583) ho582) ?_
          refine WQ.vl (fun _ => Yl.move (v := .int .u32 x577) ho576) ?_
          obtain ⟨r614, hg613, hX565⟩ := bindE hX565
          refine WQ.call (v := .int .u32 r614) (f := 222) (args := #[.int .u32 x577, .int .i64 6]) (fun _ hw => by obtain ⟨_, rfl⟩ := hw; exact (Yenter.fn Tryz.func222 (by kernel_rfl) rfl (argsE (.cons rfl (.cons rfl .nil))))) (fun _ hw => by obtain ⟨n_, rfl⟩ := hw; exact (bits_Rot.calls k610 _ F x577 6 (C587.drewN n_).pre0  r614 hg613).mono (fun _ _ ⟨he, m_, hm_⟩ => ⟨he, n_ + m_, by rw [hm_, World.drewN_drewN]⟩)) ?_
          refine WQ.vl (fun _ => Yl.move (v := .int .u32 x577) ho576) ?_
          obtain ⟨r616, hg615, hX565⟩ := bindE hX565
          refine WQ.call (v := .int .u32 r616) (f := 222) (args := #[.int .u32 x577, .int .i64 11]) (fun _ hw => by obtain ⟨_, rfl⟩ := hw; exact (Yenter.fn Tryz.func222 (by kernel_rfl) rfl (argsE (.cons rfl (.cons rfl .nil))))) (fun _ hw => by obtain ⟨n_, rfl⟩ := hw; exact (bits_Rot.calls k610 _ F x577 11 (C587.drewN n_).pre0  r616 hg615).mono (fun _ _ ⟨he, m_, hm_⟩ => ⟨he, n_ + m_, by rw [hm_, World.drewN_drewN]⟩)) ?_
          refine WQ.vl (fun _ => Yl.xor (m := r614) (n := r616) (r := bitsOp .xor .u32 r614 r616) rfl rfl rfl) ?_
          refine WQ.vl (fun _ => Yl.move (v := .int .u32 x577) ho576) ?_
          obtain ⟨r618, hg617, hX565⟩ := bindE hX565
          refine WQ.call (v := .int .u32 r618) (f := 222) (args := #[.int .u32 x577, .int .i64 25]) (fun _ hw => by obtain ⟨_, rfl⟩ := hw; exact (Yenter.fn Tryz.func222 (by kernel_rfl) rfl (argsE (.cons rfl (.cons rfl .nil))))) (fun _ hw => by obtain ⟨n_, rfl⟩ := hw; exact (bits_Rot.calls k610 _ F x577 25 (C587.drewN n_).pre0  r618 hg617).mono (fun _ _ ⟨he, m_, hm_⟩ => ⟨he, n_ + m_, by rw [hm_, World.drewN_drewN]⟩)) ?_
          refine WQ.vl (fun _ => Yl.xor (m := bitsOp .xor .u32 r614 r616) (n := r618) (r := bitsOp .xor .u32 (bitsOp .xor .u32 r614 r616) r618) rfl rfl rfl) ?_
          refine WQ.vl (fun _ => Yl.add (m := x583) (n := bitsOp .xor .u32 (bitsOp .xor .u32 r614 r616) r618) (r := wu32 (x583 + (bitsOp .xor .u32 (bitsOp .xor .u32 r614 r616) r618))) rfl rfl rfl) ?_
          refine WQ.vl (fun _ => Yl.move (v := .int .u32 x581) ho580) ?_
          refine WQ.vl (fun _ => Yl.move (v := .int .u32 x577) ho576) ?_
          refine WQ.vl (fun _ => Yl.move (v := .int .u32 x579) ho578) ?_
          refine WQ.vl (fun _ => Yl.move (v := .int .u32 x581) ho580) ?_
          refine WQ.vl (fun _ => Yl.xor (m := x579) (n := x581) (r := bitsOp .xor .u32 x579 x581) rfl rfl rfl) ?_
          refine WQ.vl (fun _ => Yl.and (m := x577) (n := bitsOp .xor .u32 x579 x581) (r := bitsOp .and .u32 x577 (bitsOp .xor .u32 x579 x581)) rfl rfl rfl) ?_
          refine WQ.vl (fun _ => Yl.xor (m := x581) (n := bitsOp .and .u32 x577 (bitsOp .xor .u32 x579 x581)) (r := bitsOp .xor .u32 x581 (bitsOp .and .u32 x577 (bitsOp .xor .u32 x579 x581))) rfl rfl rfl) ?_
          refine WQ.vl (fun _ => Yl.add (m := wu32 (x583 + (bitsOp .xor .u32 (bitsOp .xor .u32 r614 r616) r618))) (n := bitsOp .xor .u32 x581 (bitsOp .and .u32 x577 (bitsOp .xor .u32 x579 x581))) (r := wu32 ((wu32 (x583 + (bitsOp .xor .u32 (bitsOp .xor .u32 r614 r616) r618))) + (bitsOp .xor .u32 x581 (bitsOp .and .u32 x577 (bitsOp .xor .u32 x579 x581))))) rfl rfl rfl) ?_
          refine WQ.vl (fun _ => Yl.move (v := .int .i64 x586) rfl) ?_
          refine WQ.vl (fun _ => Yl.arrAddr (i := x586) rfl rfl Tryz.underlying309 sz247 hc612) ?_
          refine WQ.vl (fun _ => Yl.loadAr (k' := .u32) (g := 3) (off := 0) (o := 0) (cs := glob3.map (Value.int .u32)) (pre := []) (post := []) (a := glob3) (i := x586) rfl Tryz.underlying247 rfl (Sub.mono ((C587.drewN _).fro) hG3) (by first | (simp only [List.length_append, List.length_map, List.length_cons, List.length_nil, glob3_len]; done) | simp [glob3_len]) (by first | (simp only [List.length_append, List.length_map, List.length_cons, List.length_nil, glob3_len]; done) | simp [glob3_len]) (by have := glob3_len; have := hc612; omega)) ?_
          refine WQ.vl (fun _ => Yl.add (m := wu32 ((wu32 (x583 + (bitsOp .xor .u32 (bitsOp .xor .u32 r614 r616) r618))) + (bitsOp .xor .u32 x581 (bitsOp .and .u32 x577 (bitsOp .xor .u32 x579 x581))))) (n := glob3.getD x586.toNat 0) (r := wu32 ((wu32 ((wu32 (x583 + (bitsOp .xor .u32 (bitsOp .xor .u32 r614 r616) r618))) + (bitsOp .xor .u32 x581 (bitsOp .and .u32 x577 (bitsOp .xor .u32 x579 x581))))) + (glob3.getD x586.toNat 0))) rfl rfl rfl) ?_
          refine WQ.vl (fun _ => Yl.move (v := .int .u32 (x249.getD x586.toNat 0)) rfl) ?_
          refine WQ.vl (fun _ => Yl.add (m := wu32 ((wu32 ((wu32 (x583 + (bitsOp .xor .u32 (bitsOp .xor .u32 r614 r616) r618))) + (bitsOp .xor .u32 x581 (bitsOp .and .u32 x577 (bitsOp .xor .u32 x579 x581))))) + (glob3.getD x586.toNat 0))) (n := x249.getD x586.toNat 0) (r := wu32 ((wu32 ((wu32 ((wu32 (x583 + (bitsOp .xor .u32 (bitsOp .xor .u32 r614 r616) r618))) + (bitsOp .xor .u32 x581 (bitsOp .and .u32 x577 (bitsOp .xor .u32 x579 x581))))) + (glob3.getD x586.toNat 0))) + (x249.getD x586.toNat 0))) rfl rfl rfl) ?_
          refine WQ.vl (fun _ => Yl.assign (v := .int .u32 (wu32 ((wu32 ((wu32 ((wu32 (x583 + (bitsOp .xor .u32 (bitsOp .xor .u32 r614 r616) r618))) + (bitsOp .xor .u32 x581 (bitsOp .and .u32 x577 (bitsOp .xor .u32 x579 x581))))) + (glob3.getD x586.toNat 0))) + (x249.getD x586.toNat 0)))) rfl) ?_
          refine WQ.done (fun nq619 => ?_)
          have C620 := Ctx.drewN C587 nq619
          refine W.seq ?_
          refine W.region rfl ?_
          refine WL.val (Yl.move (v := .int .u32 x569) ho568) ?_
          obtain ⟨r622, hg621, hX565⟩ := bindE hX565
          refine WL.call (args := #[.int .u32 x569, .int .i64 2]) (Yenter.fn Tryz.func222 (by kernel_rfl) rfl (argsE (.cons rfl (.cons rfl .nil)))) (bits_Rot.calls k610 _ F x569 2 C620.pre0  r622 hg621) ?_
          rintro e_ w_ ⟨rfl, ⟨m623, rfl⟩⟩
          refine ⟨_, rfl, ?_⟩
          have C624 := Ctx.drewN C620 m623
          refine WL.val (Yl.move (v := .int .u32 x569) ho568) ?_
          obtain ⟨r626, hg625, hX565⟩ := bindE hX565
          refine WL.call (args := #[.int .u32 x569, .int .i64 13]) (Yenter.fn Tryz.func222 (by kernel_rfl) rfl (argsE (.cons rfl (.cons rfl .nil)))) (bits_Rot.calls k610 _ F x569 13 C624.pre0  r626 hg625) ?_
          rintro e_ w_ ⟨rfl, ⟨m627, rfl⟩⟩
          refine ⟨_, rfl, ?_⟩
          have C628 := Ctx.drewN C624 m627
          refine WL.val (Yl.xor (m := r622) (n := r626) (r := bitsOp .xor .u32 r622 r626) rfl rfl rfl) ?_
          refine WL.val (Yl.move (v := .int .u32 x569) ho568) ?_
          obtain ⟨r630, hg629, hX565⟩ := bindE hX565
          refine WL.call (args := #[.int .u32 x569, .int .i64 22]) (Yenter.fn Tryz.func222 (by kernel_rfl) rfl (argsE (.cons rfl (.cons rfl .nil)))) (bits_Rot.calls k610 _ F x569 22 C628.pre0  r630 hg629) ?_
          rintro e_ w_ ⟨rfl, ⟨m631, rfl⟩⟩
          refine ⟨_, rfl, ?_⟩
          have C632 := Ctx.drewN C628 m631
          refine WL.val (Yl.xor (m := bitsOp .xor .u32 r622 r626) (n := r630) (r := bitsOp .xor .u32 (bitsOp .xor .u32 r622 r626) r630) rfl rfl rfl) ?_
          refine WL.val (Yl.move (v := .int .u32 x569) ho568) ?_
          refine WL.val (Yl.move (v := .int .u32 x571) ho570) ?_
          refine WL.val (Yl.and (m := x569) (n := x571) (r := bitsOp .and .u32 x569 x571) rfl rfl rfl) ?_
          refine WL.val (Yl.move (v := .int .u32 x573) ho572) ?_
          refine WL.val (Yl.move (v := .int .u32 x569) ho568) ?_
          refine WL.val (Yl.move (v := .int .u32 x571) ho570) ?_
          refine WL.val (Yl.or (m := x569) (n := x571) (r := bitsOp .or .u32 x569 x571) rfl rfl rfl) ?_
          refine WL.val (Yl.and (m := x573) (n := bitsOp .or .u32 x569 x571) (r := bitsOp .and .u32 x573 (bitsOp .or .u32 x569 x571)) rfl rfl rfl) ?_
          refine WL.val (Yl.or (m := bitsOp .and .u32 x569 x571) (n := bitsOp .and .u32 x573 (bitsOp .or .u32 x569 x571)) (r := bitsOp .or .u32 (bitsOp .and .u32 x569 x571) (bitsOp .and .u32 x573 (bitsOp .or .u32 x569 x571))) rfl rfl rfl) ?_
          refine WL.val (Yl.add (m := bitsOp .xor .u32 (bitsOp .xor .u32 r622 r626) r630) (n := bitsOp .or .u32 (bitsOp .and .u32 x569 x571) (bitsOp .and .u32 x573 (bitsOp .or .u32 x569 x571))) (r := wu32 ((bitsOp .xor .u32 (bitsOp .xor .u32 r622 r626) r630) + (bitsOp .or .u32 (bitsOp .and .u32 x569 x571) (bitsOp .and .u32 x573 (bitsOp .or .u32 x569 x571))))) rfl rfl rfl) ?_
          refine WL.val (Yl.assign (v := .int .u32 (wu32 ((bitsOp .xor .u32 (bitsOp .xor .u32 r622 r626) r630) + (bitsOp .or .u32 (bitsOp .and .u32 x569 x571) (bitsOp .and .u32 x573 (bitsOp .or .u32 x569 x571)))))) rfl) ?_
          refine WL.done ?_
          refine W.region rfl ?_
          refine WL.val (Yl.move (v := .int .u32 (wu32 ((wu32 ((wu32 ((wu32 (x583 + (bitsOp .xor .u32 (bitsOp .xor .u32 r614 r616) r618))) + (bitsOp .xor .u32 x581 (bitsOp .and .u32 x577 (bitsOp .xor .u32 x579 x581))))) + (glob3.getD x586.toNat 0))) + (x249.getD x586.toNat 0)))) rfl) ?_
          refine WL.val (Yl.move (v := .int .u32 (wu32 ((bitsOp .xor .u32 (bitsOp .xor .u32 r622 r626) r630) + (bitsOp .or .u32 (bitsOp .and .u32 x569 x571) (bitsOp .and .u32 x573 (bitsOp .or .u32 x569 x571)))))) rfl) ?_
          refine WL.val (Yl.add (m := wu32 ((wu32 ((wu32 ((wu32 (x583 + (bitsOp .xor .u32 (bitsOp .xor .u32 r614 r616) r618))) + (bitsOp .xor .u32 x581 (bitsOp .and .u32 x577 (bitsOp .xor .u32 x579 x581))))) + (glob3.getD x586.toNat 0))) + (x249.getD x586.toNat 0))) (n := wu32 ((bitsOp .xor .u32 (bitsOp .xor .u32 r622 r626) r630) + (bitsOp .or .u32 (bitsOp .and .u32 x569 x571) (bitsOp .and .u32 x573 (bitsOp .or .u32 x569 x571))))) (r := wu32 ((wu32 ((wu32 ((wu32 ((wu32 (x583 + (bitsOp .xor .u32 (bitsOp .xor .u32 r614 r616) r618))) + (bitsOp .xor .u32 x581 (bitsOp .and .u32 x577 (bitsOp .xor .u32 x579 x581))))) + (glob3.getD x586.toNat 0))) + (x249.getD x586.toNat 0))) + (wu32 ((bitsOp .xor .u32 (bitsOp .xor .u32 r622 r626) r630) + (bitsOp .or .u32 (bitsOp .and .u32 x569 x571) (bitsOp .and .u32 x573 (bitsOp .or .u32 x569 x571))))))) rfl rfl rfl) ?_
          refine WL.val (Yl.move (v := .int .u32 x569) ho568) ?_
          refine WL.val (Yl.move (v := .int .u32 x571) ho570) ?_
          refine WL.val (Yl.move (v := .int .u32 x573) ho572) ?_
          refine WL.val (Yl.move (v := .int .u32 x575) ho574) ?_
          refine WL.val (Yl.move (v := .int .u32 (wu32 ((wu32 ((wu32 ((wu32 (x583 + (bitsOp .xor .u32 (bitsOp .xor .u32 r614 r616) r618))) + (bitsOp .xor .u32 x581 (bitsOp .and .u32 x577 (bitsOp .xor .u32 x579 x581))))) + (glob3.getD x586.toNat 0))) + (x249.getD x586.toNat 0)))) rfl) ?_
          refine WL.val (Yl.add (m := x575) (n := wu32 ((wu32 ((wu32 ((wu32 (x583 + (bitsOp .xor .u32 (bitsOp .xor .u32 r614 r616) r618))) + (bitsOp .xor .u32 x581 (bitsOp .and .u32 x577 (bitsOp .xor .u32 x579 x581))))) + (glob3.getD x586.toNat 0))) + (x249.getD x586.toNat 0))) (r := wu32 (x575 + (wu32 ((wu32 ((wu32 ((wu32 (x583 + (bitsOp .xor .u32 (bitsOp .xor .u32 r614 r616) r618))) + (bitsOp .xor .u32 x581 (bitsOp .and .u32 x577 (bitsOp .xor .u32 x579 x581))))) + (glob3.getD x586.toNat 0))) + (x249.getD x586.toNat 0))))) rfl rfl rfl) ?_
          refine WL.val (Yl.move (v := .int .u32 x577) ho576) ?_
          refine WL.val (Yl.move (v := .int .u32 x579) ho578) ?_
          refine WL.val (Yl.move (v := .int .u32 x581) ho580) ?_
          refine WL.val (Yl.assign (v := .int .u32 (wu32 ((wu32 ((wu32 ((wu32 ((wu32 (x583 + (bitsOp .xor .u32 (bitsOp .xor .u32 r614 r616) r618))) + (bitsOp .xor .u32 x581 (bitsOp .and .u32 x577 (bitsOp .xor .u32 x579 x581))))) + (glob3.getD x586.toNat 0))) + (x249.getD x586.toNat 0))) + (wu32 ((bitsOp .xor .u32 (bitsOp .xor .u32 r622 r626) r630) + (bitsOp .or .u32 (bitsOp .and .u32 x569 x571) (bitsOp .and .u32 x573 (bitsOp .or .u32 x569 x571)))))))) rfl) ?_
          refine WL.val (Yl.assign (v := .int .u32 x569) rfl) ?_
          refine WL.val (Yl.assign (v := .int .u32 x571) rfl) ?_
          refine WL.val (Yl.assign (v := .int .u32 x573) rfl) ?_
          refine WL.val (Yl.assign (v := .int .u32 (wu32 (x575 + (wu32 ((wu32 ((wu32 ((wu32 (x583 + (bitsOp .xor .u32 (bitsOp .xor .u32 r614 r616) r618))) + (bitsOp .xor .u32 x581 (bitsOp .and .u32 x577 (bitsOp .xor .u32 x579 x581))))) + (glob3.getD x586.toNat 0))) + (x249.getD x586.toNat 0)))))) rfl) ?_
          refine WL.val (Yl.assign (v := .int .u32 x577) rfl) ?_
          refine WL.val (Yl.assign (v := .int .u32 x579) rfl) ?_
          refine WL.val (Yl.assign (v := .int .u32 x581) rfl) ?_
          refine WL.done ?_
          refine inB_n ?_
          refine W.region rfl ?_
          refine WL.val (Yl.add (m := x586) (n := 1) (r := wi64 (x586 + 1)) ho585 rfl rfl) ?_
          refine WL.val (Yl.move (v := .int .i64 (wi64 (x586 + 1))) rfl) ?_
          refine WL.done ?_
          exact thenE_n ⟨k610, Nat.lt_succ_self _, wu32 ((wu32 ((wu32 ((wu32 ((wu32 (x583 + (bitsOp .xor .u32 (bitsOp .xor .u32 r614 r616) r618))) + (bitsOp .xor .u32 x581 (bitsOp .and .u32 x577 (bitsOp .xor .u32 x579 x581))))) + (glob3.getD x586.toNat 0))) + (x249.getD x586.toNat 0))) + (wu32 ((bitsOp .xor .u32 (bitsOp .xor .u32 r622 r626) r630) + (bitsOp .or .u32 (bitsOp .and .u32 x569 x571) (bitsOp .and .u32 x573 (bitsOp .or .u32 x569 x571)))))), x569, x571, x573, wu32 (x575 + (wu32 ((wu32 ((wu32 ((wu32 (x583 + (bitsOp .xor .u32 (bitsOp .xor .u32 r614 r616) r618))) + (bitsOp .xor .u32 x581 (bitsOp .and .u32 x577 (bitsOp .xor .u32 x579 x581))))) + (glob3.getD x586.toNat 0))) + (x249.getD x586.toNat 0)))), x577, x579, x581, wi64 (x586 + 1), ho566, ho567, rfl, rfl, rfl, rfl, rfl, rfl, rfl, rfl, ho584, rfl, C632, hX565⟩
        · skip
          refine W.condF (congrArg Value.bool (decide_eq_false hc611)) ?_
          refine W.exit ?_
          refine thenE_x ?_
          refine thenE_x ?_
          refine inB_here ?_
          cases hX565
          refine thenE_n ?_
          exact ⟨ho566, ho567, ho568, ho570, ho572, ho574, ho576, ho578, ho580, ho582, C587⟩
      · skip
        rintro env_ w_ ⟨ho546, ho547, ho548, ho550, ho552, ho554, ho556, ho558, ho560, ho562, C564⟩
        refine W.seq ?_
        refine W.region rfl ?_
        refine WL.val (Yl.arrAddr (i := 0) ho546 rfl Tryz.underlying248 sz247 (show 0 ≤ (0 : Int) ∧ (0 : Int) < (8 : Int) from by decide)) ?_
        refine WL.val (Yl.loadAr (k' := .u32) (g := g9) (off := 0) (o := 0) (cs := a0.map (Value.int .u32)) (pre := []) (post := []) (a := a0) (i := 0) rfl Tryz.underlying247 rfl (Ctx.subI 2 C564 rfl) (by first | (simp only [List.length_append, List.length_map, List.length_cons, List.length_nil, ha1]; done) | simp [ha1]) (by first | (simp only [List.length_append, List.length_map, List.length_cons, List.length_nil, ha1]; done) | simp [ha1]) (by have := ha1; have := (show 0 ≤ (0 : Int) ∧ (0 : Int) < (8 : Int) from by decide); omega)) ?_
        refine WL.val (Yl.move (v := .int .u32 x549) ho548) ?_
        refine WL.val (Yl.add (m := a0.getD (0 : Int).toNat 0) (n := x549) (r := wu32 ((a0.getD (0 : Int).toNat 0) + x549)) rfl rfl rfl) ?_
        refine WL.val (Yl.arrAddr (i := 1) ho546 rfl Tryz.underlying248 sz247 (show 0 ≤ (1 : Int) ∧ (1 : Int) < (8 : Int) from by decide)) ?_
        refine WL.val (Yl.loadAr (k' := .u32) (g := g9) (off := 0) (o := 0) (cs := a0.map (Value.int .u32)) (pre := []) (post := []) (a := a0) (i := 1) rfl Tryz.underlying247 rfl (Ctx.subI 2 C564 rfl) (by first | (simp only [List.length_append, List.length_map, List.length_cons, List.length_nil, ha1]; done) | simp [ha1]) (by first | (simp only [List.length_append, List.length_map, List.length_cons, List.length_nil, ha1]; done) | simp [ha1]) (by have := ha1; have := (show 0 ≤ (1 : Int) ∧ (1 : Int) < (8 : Int) from by decide); omega)) ?_
        refine WL.val (Yl.move (v := .int .u32 x551) ho550) ?_
        refine WL.val (Yl.add (m := a0.getD (1 : Int).toNat 0) (n := x551) (r := wu32 ((a0.getD (1 : Int).toNat 0) + x551)) rfl rfl rfl) ?_
        refine WL.val (Yl.arrAddr (i := 2) ho546 rfl Tryz.underlying248 sz247 (show 0 ≤ (2 : Int) ∧ (2 : Int) < (8 : Int) from by decide)) ?_
        refine WL.val (Yl.loadAr (k' := .u32) (g := g9) (off := 0) (o := 0) (cs := a0.map (Value.int .u32)) (pre := []) (post := []) (a := a0) (i := 2) rfl Tryz.underlying247 rfl (Ctx.subI 2 C564 rfl) (by first | (simp only [List.length_append, List.length_map, List.length_cons, List.length_nil, ha1]; done) | simp [ha1]) (by first | (simp only [List.length_append, List.length_map, List.length_cons, List.length_nil, ha1]; done) | simp [ha1]) (by have := ha1; have := (show 0 ≤ (2 : Int) ∧ (2 : Int) < (8 : Int) from by decide); omega)) ?_
        refine WL.val (Yl.move (v := .int .u32 x553) ho552) ?_
        refine WL.val (Yl.add (m := a0.getD (2 : Int).toNat 0) (n := x553) (r := wu32 ((a0.getD (2 : Int).toNat 0) + x553)) rfl rfl rfl) ?_
        refine WL.val (Yl.arrAddr (i := 3) ho546 rfl Tryz.underlying248 sz247 (show 0 ≤ (3 : Int) ∧ (3 : Int) < (8 : Int) from by decide)) ?_
        refine WL.val (Yl.loadAr (k' := .u32) (g := g9) (off := 0) (o := 0) (cs := a0.map (Value.int .u32)) (pre := []) (post := []) (a := a0) (i := 3) rfl Tryz.underlying247 rfl (Ctx.subI 2 C564 rfl) (by first | (simp only [List.length_append, List.length_map, List.length_cons, List.length_nil, ha1]; done) | simp [ha1]) (by first | (simp only [List.length_append, List.length_map, List.length_cons, List.length_nil, ha1]; done) | simp [ha1]) (by have := ha1; have := (show 0 ≤ (3 : Int) ∧ (3 : Int) < (8 : Int) from by decide); omega)) ?_
        refine WL.val (Yl.move (v := .int .u32 x555) ho554) ?_
        refine WL.val (Yl.add (m := a0.getD (3 : Int).toNat 0) (n := x555) (r := wu32 ((a0.getD (3 : Int).toNat 0) + x555)) rfl rfl rfl) ?_
        refine WL.val (Yl.arrAddr (i := 4) ho546 rfl Tryz.underlying248 sz247 (show 0 ≤ (4 : Int) ∧ (4 : Int) < (8 : Int) from by decide)) ?_
        refine WL.val (Yl.loadAr (k' := .u32) (g := g9) (off := 0) (o := 0) (cs := a0.map (Value.int .u32)) (pre := []) (post := []) (a := a0) (i := 4) rfl Tryz.underlying247 rfl (Ctx.subI 2 C564 rfl) (by first | (simp only [List.length_append, List.length_map, List.length_cons, List.length_nil, ha1]; done) | simp [ha1]) (by first | (simp only [List.length_append, List.length_map, List.length_cons, List.length_nil, ha1]; done) | simp [ha1]) (by have := ha1; have := (show 0 ≤ (4 : Int) ∧ (4 : Int) < (8 : Int) from by decide); omega)) ?_
        refine WL.val (Yl.move (v := .int .u32 x557) ho556) ?_
        refine WL.val (Yl.add (m := a0.getD (4 : Int).toNat 0) (n := x557) (r := wu32 ((a0.getD (4 : Int).toNat 0) + x557)) rfl rfl rfl) ?_
        refine WL.val (Yl.arrAddr (i := 5) ho546 rfl Tryz.underlying248 sz247 (show 0 ≤ (5 : Int) ∧ (5 : Int) < (8 : Int) from by decide)) ?_
        refine WL.val (Yl.loadAr (k' := .u32) (g := g9) (off := 0) (o := 0) (cs := a0.map (Value.int .u32)) (pre := []) (post := []) (a := a0) (i := 5) rfl Tryz.underlying247 rfl (Ctx.subI 2 C564 rfl) (by first | (simp only [List.length_append, List.length_map, List.length_cons, List.length_nil, ha1]; done) | simp [ha1]) (by first | (simp only [List.length_append, List.length_map, List.length_cons, List.length_nil, ha1]; done) | simp [ha1]) (by have := ha1; have := (show 0 ≤ (5 : Int) ∧ (5 : Int) < (8 : Int) from by decide); omega)) ?_
        refine WL.val (Yl.move (v := .int .u32 x559) ho558) ?_
        refine WL.val (Yl.add (m := a0.getD (5 : Int).toNat 0) (n := x559) (r := wu32 ((a0.getD (5 : Int).toNat 0) + x559)) rfl rfl rfl) ?_
        refine WL.val (Yl.arrAddr (i := 6) ho546 rfl Tryz.underlying248 sz247 (show 0 ≤ (6 : Int) ∧ (6 : Int) < (8 : Int) from by decide)) ?_
        refine WL.val (Yl.loadAr (k' := .u32) (g := g9) (off := 0) (o := 0) (cs := a0.map (Value.int .u32)) (pre := []) (post := []) (a := a0) (i := 6) rfl Tryz.underlying247 rfl (Ctx.subI 2 C564 rfl) (by first | (simp only [List.length_append, List.length_map, List.length_cons, List.length_nil, ha1]; done) | simp [ha1]) (by first | (simp only [List.length_append, List.length_map, List.length_cons, List.length_nil, ha1]; done) | simp [ha1]) (by have := ha1; have := (show 0 ≤ (6 : Int) ∧ (6 : Int) < (8 : Int) from by decide); omega)) ?_
        refine WL.val (Yl.move (v := .int .u32 x561) ho560) ?_
        refine WL.val (Yl.add (m := a0.getD (6 : Int).toNat 0) (n := x561) (r := wu32 ((a0.getD (6 : Int).toNat 0) + x561)) rfl rfl rfl) ?_
        refine WL.val (Yl.arrAddr (i := 7) ho546 rfl Tryz.underlying248 sz247 (show 0 ≤ (7 : Int) ∧ (7 : Int) < (8 : Int) from by decide)) ?_
        refine WL.val (Yl.loadAr (k' := .u32) (g := g9) (off := 0) (o := 0) (cs := a0.map (Value.int .u32)) (pre := []) (post := []) (a := a0) (i := 7) rfl Tryz.underlying247 rfl (Ctx.subI 2 C564 rfl) (by first | (simp only [List.length_append, List.length_map, List.length_cons, List.length_nil, ha1]; done) | simp [ha1]) (by first | (simp only [List.length_append, List.length_map, List.length_cons, List.length_nil, ha1]; done) | simp [ha1]) (by have := ha1; have := (show 0 ≤ (7 : Int) ∧ (7 : Int) < (8 : Int) from by decide); omega)) ?_
        refine WL.val (Yl.move (v := .int .u32 x563) ho562) ?_
        refine WL.val (Yl.add (m := a0.getD (7 : Int).toNat 0) (n := x563) (r := wu32 ((a0.getD (7 : Int).toNat 0) + x563)) rfl rfl rfl) ?_
        refine WL.val (Yl.buildArr (vs := mkParts 0 (List.map (Value.int .u32) [wu32 ((a0.getD (0 : Int).toNat 0) + x549), wu32 ((a0.getD (1 : Int).toNat 0) + x551), wu32 ((a0.getD (2 : Int).toNat 0) + x553), wu32 ((a0.getD (3 : Int).toNat 0) + x555), wu32 ((a0.getD (4 : Int).toNat 0) + x557), wu32 ((a0.getD (5 : Int).toNat 0) + x559), wu32 ((a0.getD (6 : Int).toNat 0) + x561), wu32 ((a0.getD (7 : Int).toNat 0) + x563)])) (cs := List.toArray ([wu32 ((a0.getD (0 : Int).toNat 0) + x549), wu32 ((a0.getD (1 : Int).toNat 0) + x551), wu32 ((a0.getD (2 : Int).toNat 0) + x553), wu32 ((a0.getD (3 : Int).toNat 0) + x555), wu32 ((a0.getD (4 : Int).toNat 0) + x557), wu32 ((a0.getD (5 : Int).toNat 0) + x559), wu32 ((a0.getD (6 : Int).toNat 0) + x561), wu32 ((a0.getD (7 : Int).toNat 0) + x563)].map (Value.int .u32))) Tryz.underlying248 sz247 zr248 (partsB ((.cons rfl (.cons rfl (.cons rfl (.cons rfl (.cons rfl (.cons rfl (.cons rfl (.cons rfl .nil)))))))))) (fill_ints .u32 _ _ _ rfl rfl)) ?_
        obtain ⟨w633, hy634, C635⟩ := ev_set (P := Tryz.prog) (ps1 := [CH.row g18 0 (x249.map (Value.int .u32))]) (ps2 := [CH.row g9 0 (a0.map (Value.int .u32))]) (t := 248) (o := 0) ((List.replicate 8 (0 : Int)).map (Value.int .u32)) [] ((List.replicate 8 (0 : Int)).map (Value.int .u32)) [] ([wu32 ((a0.getD (0 : Int).toNat 0) + x549), wu32 ((a0.getD (1 : Int).toNat 0) + x551), wu32 ((a0.getD (2 : Int).toNat 0) + x553), wu32 ((a0.getD (3 : Int).toNat 0) + x555), wu32 ((a0.getD (4 : Int).toNat 0) + x557), wu32 ((a0.getD (5 : Int).toNat 0) + x559), wu32 ((a0.getD (6 : Int).toNat 0) + x561), wu32 ((a0.getD (7 : Int).toNat 0) + x563)].map (Value.int .u32)) (.agg (List.toArray ([wu32 ((a0.getD (0 : Int).toNat 0) + x549), wu32 ((a0.getD (1 : Int).toNat 0) + x551), wu32 ((a0.getD (2 : Int).toNat 0) + x553), wu32 ((a0.getD (3 : Int).toNat 0) + x555), wu32 ((a0.getD (4 : Int).toNat 0) + x557), wu32 ((a0.getD (5 : Int).toNat 0) + x559), wu32 ((a0.getD (6 : Int).toNat 0) + x561), wu32 ((a0.getD (7 : Int).toNat 0) + x563)].map (Value.int .u32)))) C564 (by first | (simp only [List.length_append, List.length_map, List.length_cons, List.length_nil, (List.length_replicate ..)]; done) | simp [(List.length_replicate ..)]) (by first | (simp only [List.length_append, List.length_map, List.length_cons, List.length_nil, (List.length_replicate ..)]; done) | simp [(List.length_replicate ..)]) (by first | (simp only [List.length_append, List.length_map, List.length_cons, List.length_nil, (List.length_replicate ..)]; done) | simp [(List.length_replicate ..)]) rfl (one_ints _ _) (sz_of sz248 (by first | (simp only [List.length_append, List.length_map, List.length_cons, List.length_nil]; done) | simp))
        have C636 : Ctx _ _ _ _ _ [CH.row g18 0 (x249.map (Value.int .u32)), CH.row g13 0 ([wu32 ((a0.getD (0 : Int).toNat 0) + x549), wu32 ((a0.getD (1 : Int).toNat 0) + x551), wu32 ((a0.getD (2 : Int).toNat 0) + x553), wu32 ((a0.getD (3 : Int).toNat 0) + x555), wu32 ((a0.getD (4 : Int).toNat 0) + x557), wu32 ((a0.getD (5 : Int).toNat 0) + x559), wu32 ((a0.getD (6 : Int).toNat 0) + x561), wu32 ((a0.getD (7 : Int).toNat 0) + x563)].map (Value.int .u32)), CH.row g9 0 (a0.map (Value.int .u32))] := (by simpa using C635)
        refine WL.skip (hy634 _ _ _ _ ho547 rfl) ?_
        refine WL.val (Yl.assign (v := .int .i64 0) rfl) ?_
        refine WL.done ?_
        refine W.ret ?_
        have C637 : Ctx _ _ _ _ _ [] := Ctx.pick [] C636 rfl
        simp only [Option.some.injEq, Prod.mk.injEq] at H
        obtain ⟨e638, e639⟩ := H
        subst e638 e639
        exact post_r (resET rfl ((.cell ho547 (run_loadVA2 (g := g13) (off := 0) (o := 0) (cs := [wu32 ((a0.getD (0 : Int).toNat 0) + x549), wu32 ((a0.getD (1 : Int).toNat 0) + x551), wu32 ((a0.getD (2 : Int).toNat 0) + x553), wu32 ((a0.getD (3 : Int).toNat 0) + x555), wu32 ((a0.getD (4 : Int).toNat 0) + x557), wu32 ((a0.getD (5 : Int).toNat 0) + x559), wu32 ((a0.getD (6 : Int).toNat 0) + x561), wu32 ((a0.getD (7 : Int).toNat 0) + x563)].map (Value.int .u32)) (us := [wu32 ((a0.getD (0 : Int).toNat 0) + x549), wu32 ((a0.getD (1 : Int).toNat 0) + x551), wu32 ((a0.getD (2 : Int).toNat 0) + x553), wu32 ((a0.getD (3 : Int).toNat 0) + x555), wu32 ((a0.getD (4 : Int).toNat 0) + x557), wu32 ((a0.getD (5 : Int).toNat 0) + x559), wu32 ((a0.getD (6 : Int).toNat 0) + x561), wu32 ((a0.getD (7 : Int).toNat 0) + x563)].map (Value.int .u32)) Tryz.underlying248 rfl (sz_of sz248 (by first | (simp only [List.length_append, List.length_map, List.length_cons, List.length_nil]; done) | simp)) (Ctx.subI 1 C636 rfl) (take_all _)) (.tmp rfl .nil))) rfl) ⟨rfl, C637, rfl⟩
  · skip
    refine W.condT (congrArg Value.bool (ndec_f hc17)) ?_
    refine W.seq ?_
    refine W.region rfl ?_
    refine WL.val (Yl.buildArr (cs := List.toArray ((List.replicate 8 (0 : Int)).map (Value.int .u32))) Tryz.underlying248 sz247 zr248 (partsB .nil) rfl) ?_
    obtain ⟨w640, hy641, C642⟩ := ev_set (P := Tryz.prog) (ps1 := []) (ps2 := [CH.row g9 0 (a0.map (Value.int .u32))]) (t := 248) (o := 0) ((List.replicate 8 (0 : Int)).map (Value.int .u32)) [] ((List.replicate 8 (0 : Int)).map (Value.int .u32)) [] ((List.replicate 8 (0 : Int)).map (Value.int .u32)) (.agg (List.toArray ((List.replicate 8 (0 : Int)).map (Value.int .u32)))) C16 (by first | (simp only [List.length_append, List.length_map, List.length_cons, List.length_nil, (List.length_replicate ..)]; done) | simp [(List.length_replicate ..)]) (by first | (simp only [List.length_append, List.length_map, List.length_cons, List.length_nil, (List.length_replicate ..)]; done) | simp [(List.length_replicate ..)]) (by first | (simp only [List.length_append, List.length_map, List.length_cons, List.length_nil, (List.length_replicate ..)]; done) | simp [(List.length_replicate ..)]) rfl (one_ints _ _) (sz_of sz248 (by first | (simp only [List.length_append, List.length_map, List.length_cons, List.length_nil, (List.length_replicate ..)]; done) | simp [(List.length_replicate ..)]))
    have C643 : Ctx _ _ _ _ _ [CH.row g13 0 ((List.replicate 8 (0 : Int)).map (Value.int .u32)), CH.row g9 0 (a0.map (Value.int .u32))] := (by simpa using C642)
    refine WL.skip (hy641 _ _ _ _ rfl rfl) ?_
    refine WL.val (Yl.assign (v := .int .i64 1) rfl) ?_
    refine WL.done ?_
    refine W.ret ?_
    refine thenE_r ?_
    have C644 : Ctx _ _ _ _ _ [] := Ctx.pick [] C643 rfl
    simp only [Option.some.injEq, Prod.mk.injEq] at H
    obtain ⟨e645, e646⟩ := H
    subst e645 e646
    exact post_r (resET rfl ((.cell rfl (run_loadVA2 (g := g13) (off := 0) (o := 0) (cs := (List.replicate 8 (0 : Int)).map (Value.int .u32)) (us := (List.replicate 8 (0 : Int)).map (Value.int .u32)) Tryz.underlying248 rfl (sz_of sz248 (by first | (simp only [List.length_append, List.length_map, List.length_cons, List.length_nil, (List.length_replicate ..)]; done) | simp [(List.length_replicate ..)])) (Ctx.subI 0 C643 rfl) (take_all _)) (.tmp rfl .nil))) rfl) ⟨rfl, C644, (List.length_replicate ..)⟩
end Go.Proofs.YtnlpmnegjgjiiaaGreatDoor
