/- Functions of the program: each as a plain function of numbers and lists, and the proof that the program's own comes to it. Nothing is assumed but what each theorem says. -/
import Derived.Test.YthdlfclkcdnenaaDoorTGa
namespace Go.Proofs.YthdlfclkcdnenaaDoor
open Go.RowKit Go.WG
set_option linter.unusedVariables false
set_option linter.unusedSimpArgs false
def sha_Block.l1 : Nat → List Int → Int → List Int → Option (List Int)
  | 0, _, _, _ => none
  | k + 1, a1, x322, x323 => if x322 < 64 then (if x322 < 16 then ((bits_Word.f k a1 (wi64 (4 * x322))).bind fun ⟨r396, r397⟩ => if 0 ≤ x322 ∧ x322 < (64 : Int) then (sha_Block.l1 k a1 (wi64 (x322 + 1)) (x323.set x322.toNat r396)) else none) else (if 0 ≤ (wi64 (x322 - 15)) ∧ (wi64 (x322 - 15)) < (64 : Int) then (if 0 ≤ (wi64 (x322 - 2)) ∧ (wi64 (x322 - 2)) < (64 : Int) then (if 0 ≤ (wi64 (x322 - 16)) ∧ (wi64 (x322 - 16)) < (64 : Int) then (if 0 ≤ (wi64 (x322 - 7)) ∧ (wi64 (x322 - 7)) < (64 : Int) then ((bits_Rot.f k (x323.getD (wi64 (x322 - 15)).toNat 0) 7).bind fun r438 => (bits_Rot.f k (x323.getD (wi64 (x322 - 15)).toNat 0) 18).bind fun r442 => (bits_Rot.f k (x323.getD (wi64 (x322 - 2)).toNat 0) 17).bind fun r446 => (bits_Rot.f k (x323.getD (wi64 (x322 - 2)).toNat 0) 19).bind fun r450 => if 0 ≤ x322 ∧ x322 < (64 : Int) then (sha_Block.l1 k a1 (wi64 (x322 + 1)) (x323.set x322.toNat (wu32 ((wu32 ((wu32 ((x323.getD (wi64 (x322 - 16)).toNat 0) + (x323.getD (wi64 (x322 - 7)).toNat 0))) + (bitsOp .xor .u32 (bitsOp .xor .u32 r438 r442) (shrOp .u32 (x323.getD (wi64 (x322 - 15)).toNat 0) 3)))) + (bitsOp .xor .u32 (bitsOp .xor .u32 r446 r450) (shrOp .u32 (x323.getD (wi64 (x322 - 2)).toNat 0) 10)))))) else none) else none) else none) else none) else none)) else (some x323)
def sha_Block.l2 : Nat → List Int → Int → Int → Int → Int → Int → Int → Int → Int → Int → Option (Int × Int × Int × Int × Int × Int × Int × Int)
  | 0, _, _, _, _, _, _, _, _, _, _ => none
  | k + 1, x240, x551, x553, x555, x557, x559, x561, x563, x565, x568 => if x568 < 64 then (if 0 ≤ x568 ∧ x568 < (64 : Int) then ((bits_Rot.f k x559 6).bind fun r596 => (bits_Rot.f k x559 11).bind fun r598 => (bits_Rot.f k x559 25).bind fun r600 => (bits_Rot.f k x551 2).bind fun r604 => (bits_Rot.f k x551 13).bind fun r608 => (bits_Rot.f k x551 22).bind fun r612 => sha_Block.l2 k x240 (wu32 ((wu32 ((wu32 ((wu32 ((wu32 (x565 + (bitsOp .xor .u32 (bitsOp .xor .u32 r596 r598) r600))) + (bitsOp .xor .u32 x563 (bitsOp .and .u32 x559 (bitsOp .xor .u32 x561 x563))))) + (glob3.getD x568.toNat 0))) + (x240.getD x568.toNat 0))) + (wu32 ((bitsOp .xor .u32 (bitsOp .xor .u32 r604 r608) r612) + (bitsOp .or .u32 (bitsOp .and .u32 x551 x553) (bitsOp .and .u32 x555 (bitsOp .or .u32 x551 x553))))))) x551 x553 x555 (wu32 (x557 + (wu32 ((wu32 ((wu32 ((wu32 (x565 + (bitsOp .xor .u32 (bitsOp .xor .u32 r596 r598) r600))) + (bitsOp .xor .u32 x563 (bitsOp .and .u32 x559 (bitsOp .xor .u32 x561 x563))))) + (glob3.getD x568.toNat 0))) + (x240.getD x568.toNat 0))))) x559 x561 x563 (wi64 (x568 + 1))) else none) else (some (x551, x553, x555, x557, x559, x561, x563, x565))
def sha_Block.f (k : Nat) (a0 : List Int) (a1 : List Int) : Option ((List Int) × Int) := if (a1.length : Int) = 64 then ((sha_Block.l1 k a1 0 (List.replicate 64 (0 : Int))).bind fun x240 => (sha_Block.l2 k x240 (a0.getD (0 : Int).toNat 0) (a0.getD (1 : Int).toNat 0) (a0.getD (2 : Int).toNat 0) (a0.getD (3 : Int).toNat 0) (a0.getD (4 : Int).toNat 0) (a0.getD (5 : Int).toNat 0) (a0.getD (6 : Int).toNat 0) (a0.getD (7 : Int).toNat 0) 0).bind fun ⟨x531, x533, x535, x537, x539, x541, x543, x545⟩ => some ([wu32 ((a0.getD (0 : Int).toNat 0) + x531), wu32 ((a0.getD (1 : Int).toNat 0) + x533), wu32 ((a0.getD (2 : Int).toNat 0) + x535), wu32 ((a0.getD (3 : Int).toNat 0) + x537), wu32 ((a0.getD (4 : Int).toNat 0) + x539), wu32 ((a0.getD (5 : Int).toNat 0) + x541), wu32 ((a0.getD (6 : Int).toNat 0) + x543), wu32 ((a0.getD (7 : Int).toNat 0) + x545)], 0)) else (some ((List.replicate 8 (0 : Int)), 1))
set_option maxRecDepth 100000 in
set_option maxHeartbeats 4000000 in
theorem sha_Block.calls (k : Nat) (w : World) (F : CH) (a0 : List Int) (A2 : Option Addr) (c3 : Nat) (n4 : Nat) (a1 : List Int) (hp : Pre w F []) (ha1 : a0.length = 8) (hn5 : n4 = a1.length) (hl6 : a1.length ≤ c3) (hm7 : c3 ≤ maxLen) (hS8 : Sl (Kd.int .u8) F F A2 a1) (hG3 : CH.le (CH.row 3 0 (glob3.map (Value.int .u32))) F) (r0_ : List Int) (r1_ : Int) (H : sha_Block.f k a0 a1 = some (r0_, r1_)) :
    Calls Tryd.prog 72 #[.agg (List.toArray (a0.map (Value.int .u32))), .slice A2 n4 c3] w fun e w' => e = .returned (.tuple #[(.agg (List.toArray (r0_.map (Value.int .u32)))), (.int .i64 r1_)]) ∧ Ctx w F (domL []) w' F [] ∧ r0_.length = 8 := by
  have C := Ctx.start hp
  generalize hD : domL [] = D at C ⊢
  unfold sha_Block.f at H
  refine Calls.ofW Tryd.func72 rfl (by simp [Tryd.ntmps72]) ?_
  refine W.seq ?_
  refine W.region rfl ?_
  obtain ⟨g9, w10, hy11, C12⟩ := ev_box (P := Tryd.prog) 102 (.agg (List.toArray (a0.map (Value.int .u32)))) (a0.map (Value.int .u32)) C rfl
  refine WL.val (hy11 _ _ _ rfl) ?_
  obtain ⟨g13, w14, hy15, C16⟩ := ev_alloc (P := Tryd.prog) (e := 102) ((List.replicate 8 (0 : Int)).map (Value.int .u32)) C12 zr102 rfl
  refine WL.val (hy15 _ _) ?_
  refine WL.val (Yl.assign (v := .int .i64 0) rfl) ?_
  refine WL.done ?_
  refine W.seq ?_
  refine W.seq ?_
  refine W.region rfl ?_
  refine WL.val (Yl.move (v := .slice A2 n4 c3) rfl) ?_
  refine WL.val (Yl.lenN (A := A2) (l := n4) (q := c3) (n := (a1.length : Int)) rfl Tryd.underlying28 (by omega)) ?_
  refine WL.val (Yl.neq (m := (a1.length : Int)) (n := 64) (q := !decide ((a1.length : Int) = 64)) rfl rfl rfl) ?_
  refine WL.done ?_
  rcases iteE H with ⟨hc17, H⟩ | ⟨hc17, H⟩
  · skip
    refine W.condF (congrArg Value.bool (ndec_t hc17)) ?_
    refine W.skip ?_
    refine W.seq ?_
    refine W.region rfl ?_
    obtain ⟨g18, w19, hy20, C21⟩ := ev_alloc (P := Tryd.prog) (e := 114) ((List.replicate 64 (0 : Int)).map (Value.int .u32)) C16 zr114 rfl
    refine WL.val (hy20 _ _) ?_
    refine WL.done ?_
    refine W.seq ?_
    refine W.seq ?_
    refine W.region rfl ?_
    refine WL.val (Yl.move (v := .int .i64 0) rfl) ?_
    refine WL.done ?_
    obtain ⟨x240, hX243, H⟩ := bindE H
    refine W.cutM (fun env_ w_ => env_ 2 = .pointer (some ⟨g9, 0, none⟩) ∧ env_ 4 = .pointer (some ⟨g13, 0, none⟩) ∧ env_ 6 = .pointer (some ⟨g18, 0, none⟩) ∧ Ctx w F D w_ F [CH.row g18 0 (x240.map (Value.int .u32)), CH.row g13 0 ((List.replicate 8 (0 : Int)).map (Value.int .u32)), CH.row g9 0 (a0.map (Value.int .u32))] ∧ x240.length = 64) ?_ ?_
    · skip
      refine W.block ?_
      refine W.loop (fun g_ env_ w_ => ∃ (x322 : Int) (x323 : List Int), env_ 1 = .slice A2 n4 c3 ∧ env_ 2 = .pointer (some ⟨g9, 0, none⟩) ∧ env_ 4 = .pointer (some ⟨g13, 0, none⟩) ∧ env_ 6 = .pointer (some ⟨g18, 0, none⟩) ∧ env_ 26 = .int .i64 x322 ∧ Ctx w F D w_ F [CH.row g18 0 (x323.map (Value.int .u32)), CH.row g13 0 ((List.replicate 8 (0 : Int)).map (Value.int .u32)), CH.row g9 0 (a0.map (Value.int .u32))] ∧ x323.length = 64 ∧ sha_Block.l1 g_ a1 x322 x323 = some x240) k ⟨0, (List.replicate 64 (0 : Int)), rfl, rfl, rfl, rfl, rfl, C21, (List.length_replicate ..), hX243⟩ ?_
      clear hX243
      rintro g_ env_ w_ ⟨x322, x323, ho317, ho318, ho319, ho320, ho321, C325, ha324, hX243⟩
      rcases g_ with _ | k392
      · exact absurd hX243 (by simp [sha_Block.l1])
      rw [sha_Block.l1] at hX243
      refine W.seq ?_
      refine W.region rfl ?_
      refine WL.val (Yl.lss (m := x322) (n := 64) (q := decide (x322 < 64)) ho321 rfl rfl) ?_
      refine WL.done ?_
      refine W.seq ?_
      rcases iteE hX243 with ⟨hc393, hX243⟩ | ⟨hc393, hX243⟩
      · skip
        refine W.condT (congrArg Value.bool (decide_eq_true hc393)) ?_
        refine W.skip ?_
        refine W.seq ?_
        refine W.block ?_
        refine W.seq ?_
        refine W.region rfl ?_
        refine WL.val (Yl.move (v := .int .i64 x322) ho321) ?_
        refine WL.val (Yl.assign (v := .int .i64 x322) rfl) ?_
        refine WL.done ?_
        refine W.seq ?_
        refine W.seq ?_
        refine W.region rfl ?_
        refine WL.val (Yl.move (v := .int .i64 x322) rfl) ?_
        refine WL.val (Yl.lss (m := x322) (n := 16) (q := decide (x322 < 16)) rfl rfl rfl) ?_
        refine WL.done ?_
        rcases iteE hX243 with ⟨hc394, hX243⟩ | ⟨hc394, hX243⟩
        · skip
          refine W.condT (congrArg Value.bool (decide_eq_true hc394)) ?_
          refine W.seq ?_
          refine W.region rfl ?_
          refine WL.val (Yl.move (v := .int .i64 x322) rfl) ?_
          refine WL.val (Yl.move (v := .slice A2 n4 c3) ho317) ?_
          refine WL.val (Yl.move (v := .int .i64 x322) rfl) ?_
          refine WL.val (Yl.mul (m := 4) (n := x322) (r := wi64 (4 * x322)) rfl rfl rfl) ?_
          obtain ⟨⟨r396, r397⟩, hg395, hX243⟩ := bindE hX243
          refine WL.call (args := #[.slice A2 n4 c3, .int .i64 (wi64 (4 * x322))]) (Yenter.fn Tryd.func80 (by kernel_rfl) rfl (argsE (.cons rfl (.cons rfl .nil)))) (bits_Word.calls k392 _ F A2 c3 n4 a1 (wi64 (4 * x322)) C325.pre0 hn5 hl6 hm7 hS8 r396 r397 hg395) ?_
          rintro e_ w_ ⟨rfl, ⟨m398, rfl⟩⟩
          refine ⟨_, rfl, ?_⟩
          have C399 := Ctx.drewN C325 m398
          refine WL.val (Yl.move (v := .tuple #[(.int .u32 r396), (.int .i64 r397)]) rfl) ?_
          refine WL.val (Yl.extract (v := .int .u32 r396) rfl rfl) ?_
          refine WL.val (Yl.extract (v := .int .i64 r397) rfl rfl) ?_
          obtain ⟨hc400, hX243⟩ := guardE hX243
          refine WL.val (Yl.arrAddr (i := x322) ho320 rfl Tryd.underlying114 sz101 hc400) ?_
          have ha401 : (x323.set x322.toNat r396).length = 64 := by rw [List.length_set]; exact ha324
          obtain ⟨w402, hy403, C404⟩ := ev_setAr' (P := Tryd.prog) (ps1 := []) (ps2 := [CH.row g13 0 ((List.replicate 8 (0 : Int)).map (Value.int .u32)), CH.row g9 0 (a0.map (Value.int .u32))]) (t := 101) (o := 0) (x323.map (Value.int .u32)) ((x323.set x322.toNat r396).map (Value.int .u32)) [] [] x323 .u32 x322 r396 C399 (by first | (simp only [List.length_append, List.length_map, List.length_cons, List.length_nil, ha324]; done) | simp [ha324]) (by first | (simp only [List.length_append, List.length_map, List.length_cons, List.length_nil, ha324]; done) | simp [ha324]) (by first | (simp only [List.length_append, List.length_map, List.length_cons, List.length_nil, ha324]; done) | simp [ha324]) (by have := ha324; have := hc400; omega) sz101
          have C405 : Ctx _ _ _ _ F [CH.row g18 0 ((x323.set x322.toNat r396).map (Value.int .u32)), CH.row g13 0 ((List.replicate 8 (0 : Int)).map (Value.int .u32)), CH.row g9 0 (a0.map (Value.int .u32))] := C404
          refine WL.skip (hy403 _ _ _ _ rfl rfl) ?_
          refine WL.done ?_
          refine W.exit ?_
          refine thenE_x ?_
          refine inB_here ?_
          refine W.region rfl ?_
          refine WL.val (Yl.add (m := x322) (n := 1) (r := wi64 (x322 + 1)) ho321 rfl rfl) ?_
          refine WL.val (Yl.move (v := .int .i64 (wi64 (x322 + 1))) rfl) ?_
          refine WL.done ?_
          exact thenE_n ⟨k392, Nat.lt_succ_self _, wi64 (x322 + 1), x323.set x322.toNat r396, ho317, ho318, ho319, ho320, rfl, C405, ha401, hX243⟩
        · skip
          refine W.condF (congrArg Value.bool (decide_eq_false hc394)) ?_
          refine W.skip ?_
          refine W.seq ?_
          refine W.region_quiet (by kernel_rfl) (by kernel_rfl) rfl ?_
          refine WQ.val (fun _ hw => by obtain ⟨_, rfl⟩ := hw; exact Yl.move (v := .int .i64 x322) rfl) ?_
          refine WQ.val (fun _ hw => by obtain ⟨_, rfl⟩ := hw; exact Yl.sub (m := x322) (n := 15) (r := wi64 (x322 - 15)) rfl rfl rfl) ?_
          obtain ⟨hc406, hX243⟩ := guardE hX243
          refine WQ.val (fun _ hw => by obtain ⟨_, rfl⟩ := hw; exact Yl.arrAddr (i := wi64 (x322 - 15)) ho320 rfl Tryd.underlying114 sz101 hc406) ?_
          refine WQ.val (fun _ hw => by obtain ⟨_, rfl⟩ := hw; exact Yl.loadAr (k' := .u32) (g := g18) (off := 0) (o := 0) (cs := x323.map (Value.int .u32)) (pre := []) (post := []) (a := x323) (i := wi64 (x322 - 15)) rfl Tryd.underlying101 rfl (Ctx.sub_of [] [CH.row g13 0 ((List.replicate 8 (0 : Int)).map (Value.int .u32)), CH.row g9 0 (a0.map (Value.int .u32))] (C325.drewN _)) (by first | (simp only [List.length_append, List.length_map, List.length_cons, List.length_nil, ha324]; done) | simp [ha324]) (by first | (simp only [List.length_append, List.length_map, List.length_cons, List.length_nil, ha324]; done) | simp [ha324]) (by have := ha324; have := hc406; omega)) ?_
          refine WQ.val (fun _ hw => by obtain ⟨_, rfl⟩ := hw; exact Yl.move (v := .int .i64 x322) rfl) ?_
          refine WQ.val (fun _ hw => by obtain ⟨_, rfl⟩ := hw; exact Yl.sub (m := x322) (n := 2) (r := wi64 (x322 - 2)) rfl rfl rfl) ?_
          obtain ⟨hc407, hX243⟩ := guardE hX243
          refine WQ.val (fun _ hw => by obtain ⟨_, rfl⟩ := hw; exact Yl.arrAddr (i := wi64 (x322 - 2)) ho320 rfl Tryd.underlying114 sz101 hc407) ?_
          refine WQ.val (fun _ hw => by obtain ⟨_, rfl⟩ := hw; exact Yl.loadAr (k' := .u32) (g := g18) (off := 0) (o := 0) (cs := x323.map (Value.int .u32)) (pre := []) (post := []) (a := x323) (i := wi64 (x322 - 2)) rfl Tryd.underlying101 rfl (Ctx.sub_of [] [CH.row g13 0 ((List.replicate 8 (0 : Int)).map (Value.int .u32)), CH.row g9 0 (a0.map (Value.int .u32))] (C325.drewN _)) (by first | (simp only [List.length_append, List.length_map, List.length_cons, List.length_nil, ha324]; done) | simp [ha324]) (by first | (simp only [List.length_append, List.length_map, List.length_cons, List.length_nil, ha324]; done) | simp [ha324]) (by have := ha324; have := hc407; omega)) ?_
          refine WQ.val (fun _ hw => by obtain ⟨_, rfl⟩ := hw; exact Yl.assign (v := .int .u32 (x323.getD (wi64 (x322 - 15)).toNat 0)) rfl) ?_
          refine WQ.val (fun _ hw => by obtain ⟨_, rfl⟩ := hw; exact Yl.assign (v := .int .u32 (x323.getD (wi64 (x322 - 2)).toNat 0)) rfl) ?_
          refine WQ.done (fun nq408 => ?_)
          have C409 := Ctx.drewN C325 nq408
          refine W.regionA [([29], CH.row g18 0 (x323.map (Value.int .u32)))] (by kernel_rfl) ?_
          have C434 := Ctx.drewN C409 1
          refine WA.take none [] 0 rfl (by kernel_rfl) (by kernel_rfl) (show _ = #[true, false, false, false, false, false, false, false, false, false, false, false, false, false, false, false, false, false, false, false, false, false, false, false, false, false, false, false, false, false] from rfl) trivial ⟨(Ctx.sub_of [] [CH.row g13 0 ((List.replicate 8 (0 : Int)).map (Value.int .u32)), CH.row g9 0 (a0.map (Value.int .u32))] C434), trivial⟩ (fun _ hC_ => Yl.move (v := .int .i64 x322) rfl) ?_
          refine WA.take none [] 1 rfl (by kernel_rfl) (by kernel_rfl) (show _ = #[true, true, false, false, false, false, false, false, false, false, false, false, false, false, false, false, false, false, false, false, false, false, false, false, false, false, false, false, false, false] from rfl) trivial ⟨(Ctx.sub_of [] [CH.row g13 0 ((List.replicate 8 (0 : Int)).map (Value.int .u32)), CH.row g9 0 (a0.map (Value.int .u32))] C434), trivial⟩ (fun _ hC_ => Yl.move (v := .int .i64 x322) rfl) ?_
          refine WA.take none [] 2 rfl (by kernel_rfl) (by kernel_rfl) (show _ = #[true, true, true, false, false, false, false, false, false, false, false, false, false, false, false, false, false, false, false, false, false, false, false, false, false, false, false, false, false, false] from rfl) trivial ⟨(Ctx.sub_of [] [CH.row g13 0 ((List.replicate 8 (0 : Int)).map (Value.int .u32)), CH.row g9 0 (a0.map (Value.int .u32))] C434), trivial⟩ (fun _ hC_ => Yl.sub (m := x322) (n := 16) (r := wi64 (x322 - 16)) rfl rfl rfl) ?_
          obtain ⟨hc435, hX243⟩ := guardE hX243
          refine WA.take none [] 3 rfl (by kernel_rfl) (by kernel_rfl) (show _ = #[true, true, true, true, false, false, false, false, false, false, false, false, false, false, false, false, false, false, false, false, false, false, false, false, false, false, false, false, false, false] from rfl) trivial ⟨(Ctx.sub_of [] [CH.row g13 0 ((List.replicate 8 (0 : Int)).map (Value.int .u32)), CH.row g9 0 (a0.map (Value.int .u32))] C434), trivial⟩ (fun _ hC_ => Yl.arrAddr (i := wi64 (x322 - 16)) ho320 rfl Tryd.underlying114 sz101 hc435) ?_
          refine WA.take (some 0) [9, 18, 27, 28, 29] 4 rfl (by kernel_rfl) (by kernel_rfl) (show _ = #[true, true, true, true, true, false, false, false, false, false, false, false, false, false, false, false, false, false, false, false, false, false, false, false, false, false, false, false, false, false] from rfl) (Ctx.sub_of [] [CH.row g13 0 ((List.replicate 8 (0 : Int)).map (Value.int .u32)), CH.row g9 0 (a0.map (Value.int .u32))] C434) ⟨(Ctx.sub_of [] [CH.row g13 0 ((List.replicate 8 (0 : Int)).map (Value.int .u32)), CH.row g9 0 (a0.map (Value.int .u32))] C434), trivial⟩ (fun _ hC_ => Yl.loadAr (k' := .u32) (g := g18) (off := 0) (o := 0) (cs := x323.map (Value.int .u32)) (pre := []) (post := []) (a := x323) (i := wi64 (x322 - 16)) rfl Tryd.underlying101 rfl (show Sub (CH.row g18 0 (x323.map (Value.int .u32))) _ from hC_) (by first | (simp only [List.length_append, List.length_map, List.length_cons, List.length_nil, ha324]; done) | simp [ha324]) (by first | (simp only [List.length_append, List.length_map, List.length_cons, List.length_nil, ha324]; done) | simp [ha324]) (by have := ha324; have := hc435; omega)) ?_
          refine WA.take none [] 5 rfl (by kernel_rfl) (by kernel_rfl) (show _ = #[true, true, true, true, true, true, false, false, false, false, false, false, false, false, false, false, false, false, false, false, false, false, false, false, false, false, false, false, false, false] from rfl) trivial ⟨(Ctx.sub_of [] [CH.row g13 0 ((List.replicate 8 (0 : Int)).map (Value.int .u32)), CH.row g9 0 (a0.map (Value.int .u32))] C434), trivial⟩ (fun _ hC_ => Yl.move (v := .int .i64 x322) rfl) ?_
          refine WA.take none [] 6 rfl (by kernel_rfl) (by kernel_rfl) (show _ = #[true, true, true, true, true, true, true, false, false, false, false, false, false, false, false, false, false, false, false, false, false, false, false, false, false, false, false, false, false, false] from rfl) trivial ⟨(Ctx.sub_of [] [CH.row g13 0 ((List.replicate 8 (0 : Int)).map (Value.int .u32)), CH.row g9 0 (a0.map (Value.int .u32))] C434), trivial⟩ (fun _ hC_ => Yl.sub (m := x322) (n := 7) (r := wi64 (x322 - 7)) rfl rfl rfl) ?_
          obtain ⟨hc436, hX243⟩ := guardE hX243
          refine WA.take none [] 7 rfl (by kernel_rfl) (by kernel_rfl) (show _ = #[true, true, true, true, true, true, true, true, false, false, false, false, false, false, false, false, false, false, false, false, false, false, false, false, false, false, false, false, false, false] from rfl) trivial ⟨(Ctx.sub_of [] [CH.row g13 0 ((List.replicate 8 (0 : Int)).map (Value.int .u32)), CH.row g9 0 (a0.map (Value.int .u32))] C434), trivial⟩ (fun _ hC_ => Yl.arrAddr (i := wi64 (x322 - 7)) ho320 rfl Tryd.underlying114 sz101 hc436) ?_
          refine WA.take (some 0) [9, 18, 27, 28, 29] 8 rfl (by kernel_rfl) (by kernel_rfl) (show _ = #[true, true, true, true, true, true, true, true, true, false, false, false, false, false, false, false, false, false, false, false, false, false, false, false, false, false, false, false, false, false] from rfl) (Ctx.sub_of [] [CH.row g13 0 ((List.replicate 8 (0 : Int)).map (Value.int .u32)), CH.row g9 0 (a0.map (Value.int .u32))] C434) ⟨(Ctx.sub_of [] [CH.row g13 0 ((List.replicate 8 (0 : Int)).map (Value.int .u32)), CH.row g9 0 (a0.map (Value.int .u32))] C434), trivial⟩ (fun _ hC_ => Yl.loadAr (k' := .u32) (g := g18) (off := 0) (o := 0) (cs := x323.map (Value.int .u32)) (pre := []) (post := []) (a := x323) (i := wi64 (x322 - 7)) rfl Tryd.underlying101 rfl (show Sub (CH.row g18 0 (x323.map (Value.int .u32))) _ from hC_) (by first | (simp only [List.length_append, List.length_map, List.length_cons, List.length_nil, ha324]; done) | simp [ha324]) (by first | (simp only [List.length_append, List.length_map, List.length_cons, List.length_nil, ha324]; done) | simp [ha324]) (by have := ha324; have := hc436; omega)) ?_
          refine WA.take none [] 9 rfl (by kernel_rfl) (by kernel_rfl) (show _ = #[true, true, true, true, true, true, true, true, true, true, false, false, false, false, false, false, false, false, false, false, false, false, false, false, false, false, false, false, false, false] from rfl) trivial ⟨(Ctx.sub_of [] [CH.row g13 0 ((List.replicate 8 (0 : Int)).map (Value.int .u32)), CH.row g9 0 (a0.map (Value.int .u32))] C434), trivial⟩ (fun _ hC_ => Yl.add (m := x323.getD (wi64 (x322 - 16)).toNat 0) (n := x323.getD (wi64 (x322 - 7)).toNat 0) (r := wu32 ((x323.getD (wi64 (x322 - 16)).toNat 0) + (x323.getD (wi64 (x322 - 7)).toNat 0))) rfl rfl rfl) ?_
          refine WA.take none [] 10 rfl (by kernel_rfl) (by kernel_rfl) (show _ = #[true, true, true, true, true, true, true, true, true, true, true, false, false, false, false, false, false, false, false, false, false, false, false, false, false, false, false, false, false, false] from rfl) trivial ⟨(Ctx.sub_of [] [CH.row g13 0 ((List.replicate 8 (0 : Int)).map (Value.int .u32)), CH.row g9 0 (a0.map (Value.int .u32))] C434), trivial⟩ (fun _ hC_ => Yl.move (v := .int .u32 (x323.getD (wi64 (x322 - 15)).toNat 0)) rfl) ?_
          refine WA.take none [] 12 rfl (by kernel_rfl) (by kernel_rfl) (show _ = #[true, true, true, true, true, true, true, true, true, true, true, false, true, false, false, false, false, false, false, false, false, false, false, false, false, false, false, false, false, false] from rfl) trivial ⟨(Ctx.sub_of [] [CH.row g13 0 ((List.replicate 8 (0 : Int)).map (Value.int .u32)), CH.row g9 0 (a0.map (Value.int .u32))] C434), trivial⟩ (fun _ hC_ => Yl.move (v := .int .u32 (x323.getD (wi64 (x322 - 15)).toNat 0)) rfl) ?_
          refine WA.take none [] 15 rfl (by kernel_rfl) (by kernel_rfl) (show _ = #[true, true, true, true, true, true, true, true, true, true, true, false, true, false, false, true, false, false, false, false, false, false, false, false, false, false, false, false, false, false] from rfl) trivial ⟨(Ctx.sub_of [] [CH.row g13 0 ((List.replicate 8 (0 : Int)).map (Value.int .u32)), CH.row g9 0 (a0.map (Value.int .u32))] C434), trivial⟩ (fun _ hC_ => Yl.move (v := .int .u32 (x323.getD (wi64 (x322 - 15)).toNat 0)) rfl) ?_
          refine WA.take none [] 16 rfl (by kernel_rfl) (by kernel_rfl) (show _ = #[true, true, true, true, true, true, true, true, true, true, true, false, true, false, false, true, true, false, false, false, false, false, false, false, false, false, false, false, false, false] from rfl) trivial ⟨(Ctx.sub_of [] [CH.row g13 0 ((List.replicate 8 (0 : Int)).map (Value.int .u32)), CH.row g9 0 (a0.map (Value.int .u32))] C434), trivial⟩ (fun _ hC_ => Yl.shr (m := x323.getD (wi64 (x322 - 15)).toNat 0) (n := 3) (r := shrOp .u32 (x323.getD (wi64 (x322 - 15)).toNat 0) 3) rfl rfl (by decide) rfl) ?_
          refine WA.take none [] 19 rfl (by kernel_rfl) (by kernel_rfl) (show _ = #[true, true, true, true, true, true, true, true, true, true, true, false, true, false, false, true, true, false, false, true, false, false, false, false, false, false, false, false, false, false] from rfl) trivial ⟨(Ctx.sub_of [] [CH.row g13 0 ((List.replicate 8 (0 : Int)).map (Value.int .u32)), CH.row g9 0 (a0.map (Value.int .u32))] C434), trivial⟩ (fun _ hC_ => Yl.move (v := .int .u32 (x323.getD (wi64 (x322 - 2)).toNat 0)) rfl) ?_
          refine WA.take none [] 21 rfl (by kernel_rfl) (by kernel_rfl) (show _ = #[true, true, true, true, true, true, true, true, true, true, true, false, true, false, false, true, true, false, false, true, false, true, false, false, false, false, false, false, false, false] from rfl) trivial ⟨(Ctx.sub_of [] [CH.row g13 0 ((List.replicate 8 (0 : Int)).map (Value.int .u32)), CH.row g9 0 (a0.map (Value.int .u32))] C434), trivial⟩ (fun _ hC_ => Yl.move (v := .int .u32 (x323.getD (wi64 (x322 - 2)).toNat 0)) rfl) ?_
          refine WA.take none [] 24 rfl (by kernel_rfl) (by kernel_rfl) (show _ = #[true, true, true, true, true, true, true, true, true, true, true, false, true, false, false, true, true, false, false, true, false, true, false, false, true, false, false, false, false, false] from rfl) trivial ⟨(Ctx.sub_of [] [CH.row g13 0 ((List.replicate 8 (0 : Int)).map (Value.int .u32)), CH.row g9 0 (a0.map (Value.int .u32))] C434), trivial⟩ (fun _ hC_ => Yl.move (v := .int .u32 (x323.getD (wi64 (x322 - 2)).toNat 0)) rfl) ?_
          refine WA.take none [] 25 rfl (by kernel_rfl) (by kernel_rfl) (show _ = #[true, true, true, true, true, true, true, true, true, true, true, false, true, false, false, true, true, false, false, true, false, true, false, false, true, true, false, false, false, false] from rfl) trivial ⟨(Ctx.sub_of [] [CH.row g13 0 ((List.replicate 8 (0 : Int)).map (Value.int .u32)), CH.row g9 0 (a0.map (Value.int .u32))] C434), trivial⟩ (fun _ hC_ => Yl.shr (m := x323.getD (wi64 (x322 - 2)).toNat 0) (n := 10) (r := shrOp .u32 (x323.getD (wi64 (x322 - 2)).toNat 0) 10) rfl rfl (by decide) rfl) ?_
          obtain ⟨r438, hg437, hX243⟩ := bindE hX243
          refine WA.up1 11 (by kernel_rfl) (Up.call (args := #[.int .u32 (x323.getD (wi64 (x322 - 15)).toNat 0), .int .i64 7]) rfl (by kernel_rfl) (show _ = #[true, true, true, true, true, true, true, true, true, true, true, true, true, false, false, true, true, false, false, true, false, true, false, false, true, true, false, false, false, false] from rfl) (Yenter.fn Tryd.func81 (by kernel_rfl) rfl (argsE (.cons rfl (.cons rfl .nil)))) (bits_Rot.calls k392 _ F (x323.getD (wi64 (x322 - 15)).toNat 0) 7 C434.pre0  r438 hg437) ?_)
          rintro e_ w_ ⟨rfl, ⟨m439, rfl⟩⟩
          have C440 := Ctx.drewN C434 m439
          refine ⟨_, rfl, ⟨(Ctx.sub_of [] [CH.row g13 0 ((List.replicate 8 (0 : Int)).map (Value.int .u32)), CH.row g9 0 (a0.map (Value.int .u32))] C440), trivial⟩, ?_⟩
          obtain ⟨r442, hg441, hX243⟩ := bindE hX243
          refine WA.up1 13 (by kernel_rfl) (Up.call (args := #[.int .u32 (x323.getD (wi64 (x322 - 15)).toNat 0), .int .i64 18]) rfl (by kernel_rfl) (show _ = #[true, true, true, true, true, true, true, true, true, true, true, true, true, true, false, true, true, false, false, true, false, true, false, false, true, true, false, false, false, false] from rfl) (Yenter.fn Tryd.func81 (by kernel_rfl) rfl (argsE (.cons rfl (.cons rfl .nil)))) (bits_Rot.calls k392 _ F (x323.getD (wi64 (x322 - 15)).toNat 0) 18 C440.pre0  r442 hg441) ?_)
          rintro e_ w_ ⟨rfl, ⟨m443, rfl⟩⟩
          have C444 := Ctx.drewN C440 m443
          refine ⟨_, rfl, ⟨(Ctx.sub_of [] [CH.row g13 0 ((List.replicate 8 (0 : Int)).map (Value.int .u32)), CH.row g9 0 (a0.map (Value.int .u32))] C444), trivial⟩, ?_⟩
          refine WA.take none [] 14 rfl (by kernel_rfl) (by kernel_rfl) (show _ = #[true, true, true, true, true, true, true, true, true, true, true, true, true, true, true, true, true, false, false, true, false, true, false, false, true, true, false, false, false, false] from rfl) trivial ⟨(Ctx.sub_of [] [CH.row g13 0 ((List.replicate 8 (0 : Int)).map (Value.int .u32)), CH.row g9 0 (a0.map (Value.int .u32))] C444), trivial⟩ (fun _ hC_ => Yl.xor (m := r438) (n := r442) (r := bitsOp .xor .u32 r438 r442) rfl rfl rfl) ?_
          refine WA.take none [] 17 rfl (by kernel_rfl) (by kernel_rfl) (show _ = #[true, true, true, true, true, true, true, true, true, true, true, true, true, true, true, true, true, true, false, true, false, true, false, false, true, true, false, false, false, false] from rfl) trivial ⟨(Ctx.sub_of [] [CH.row g13 0 ((List.replicate 8 (0 : Int)).map (Value.int .u32)), CH.row g9 0 (a0.map (Value.int .u32))] C444), trivial⟩ (fun _ hC_ => Yl.xor (m := bitsOp .xor .u32 r438 r442) (n := shrOp .u32 (x323.getD (wi64 (x322 - 15)).toNat 0) 3) (r := bitsOp .xor .u32 (bitsOp .xor .u32 r438 r442) (shrOp .u32 (x323.getD (wi64 (x322 - 15)).toNat 0) 3)) rfl rfl rfl) ?_
          refine WA.take none [] 18 rfl (by kernel_rfl) (by kernel_rfl) (show _ = #[true, true, true, true, true, true, true, true, true, true, true, true, true, true, true, true, true, true, true, true, false, true, false, false, true, true, false, false, false, false] from rfl) trivial ⟨(Ctx.sub_of [] [CH.row g13 0 ((List.replicate 8 (0 : Int)).map (Value.int .u32)), CH.row g9 0 (a0.map (Value.int .u32))] C444), trivial⟩ (fun _ hC_ => Yl.add (m := wu32 ((x323.getD (wi64 (x322 - 16)).toNat 0) + (x323.getD (wi64 (x322 - 7)).toNat 0))) (n := bitsOp .xor .u32 (bitsOp .xor .u32 r438 r442) (shrOp .u32 (x323.getD (wi64 (x322 - 15)).toNat 0) 3)) (r := wu32 ((wu32 ((x323.getD (wi64 (x322 - 16)).toNat 0) + (x323.getD (wi64 (x322 - 7)).toNat 0))) + (bitsOp .xor .u32 (bitsOp .xor .u32 r438 r442) (shrOp .u32 (x323.getD (wi64 (x322 - 15)).toNat 0) 3)))) rfl rfl rfl) ?_
          obtain ⟨r446, hg445, hX243⟩ := bindE hX243
          refine WA.up1 20 (by kernel_rfl) (Up.call (args := #[.int .u32 (x323.getD (wi64 (x322 - 2)).toNat 0), .int .i64 17]) rfl (by kernel_rfl) (show _ = #[true, true, true, true, true, true, true, true, true, true, true, true, true, true, true, true, true, true, true, true, true, true, false, false, true, true, false, false, false, false] from rfl) (Yenter.fn Tryd.func81 (by kernel_rfl) rfl (argsE (.cons rfl (.cons rfl .nil)))) (bits_Rot.calls k392 _ F (x323.getD (wi64 (x322 - 2)).toNat 0) 17 C444.pre0  r446 hg445) ?_)
          rintro e_ w_ ⟨rfl, ⟨m447, rfl⟩⟩
          have C448 := Ctx.drewN C444 m447
          refine ⟨_, rfl, ⟨(Ctx.sub_of [] [CH.row g13 0 ((List.replicate 8 (0 : Int)).map (Value.int .u32)), CH.row g9 0 (a0.map (Value.int .u32))] C448), trivial⟩, ?_⟩
          obtain ⟨r450, hg449, hX243⟩ := bindE hX243
          refine WA.up1 22 (by kernel_rfl) (Up.call (args := #[.int .u32 (x323.getD (wi64 (x322 - 2)).toNat 0), .int .i64 19]) rfl (by kernel_rfl) (show _ = #[true, true, true, true, true, true, true, true, true, true, true, true, true, true, true, true, true, true, true, true, true, true, true, false, true, true, false, false, false, false] from rfl) (Yenter.fn Tryd.func81 (by kernel_rfl) rfl (argsE (.cons rfl (.cons rfl .nil)))) (bits_Rot.calls k392 _ F (x323.getD (wi64 (x322 - 2)).toNat 0) 19 C448.pre0  r450 hg449) ?_)
          rintro e_ w_ ⟨rfl, ⟨m451, rfl⟩⟩
          have C452 := Ctx.drewN C448 m451
          refine ⟨_, rfl, ⟨(Ctx.sub_of [] [CH.row g13 0 ((List.replicate 8 (0 : Int)).map (Value.int .u32)), CH.row g9 0 (a0.map (Value.int .u32))] C452), trivial⟩, ?_⟩
          refine WA.take none [] 23 rfl (by kernel_rfl) (by kernel_rfl) (show _ = #[true, true, true, true, true, true, true, true, true, true, true, true, true, true, true, true, true, true, true, true, true, true, true, true, true, true, false, false, false, false] from rfl) trivial ⟨(Ctx.sub_of [] [CH.row g13 0 ((List.replicate 8 (0 : Int)).map (Value.int .u32)), CH.row g9 0 (a0.map (Value.int .u32))] C452), trivial⟩ (fun _ hC_ => Yl.xor (m := r446) (n := r450) (r := bitsOp .xor .u32 r446 r450) rfl rfl rfl) ?_
          refine WA.take none [] 26 rfl (by kernel_rfl) (by kernel_rfl) (show _ = #[true, true, true, true, true, true, true, true, true, true, true, true, true, true, true, true, true, true, true, true, true, true, true, true, true, true, true, false, false, false] from rfl) trivial ⟨(Ctx.sub_of [] [CH.row g13 0 ((List.replicate 8 (0 : Int)).map (Value.int .u32)), CH.row g9 0 (a0.map (Value.int .u32))] C452), trivial⟩ (fun _ hC_ => Yl.xor (m := bitsOp .xor .u32 r446 r450) (n := shrOp .u32 (x323.getD (wi64 (x322 - 2)).toNat 0) 10) (r := bitsOp .xor .u32 (bitsOp .xor .u32 r446 r450) (shrOp .u32 (x323.getD (wi64 (x322 - 2)).toNat 0) 10)) rfl rfl rfl) ?_
          refine WA.take none [] 27 rfl (by kernel_rfl) (by kernel_rfl) (show _ = #[true, true, true, true, true, true, true, true, true, true, true, true, true, true, true, true, true, true, true, true, true, true, true, true, true, true, true, true, false, false] from rfl) trivial ⟨(Ctx.sub_of [] [CH.row g13 0 ((List.replicate 8 (0 : Int)).map (Value.int .u32)), CH.row g9 0 (a0.map (Value.int .u32))] C452), trivial⟩ (fun _ hC_ => Yl.add (m := wu32 ((wu32 ((x323.getD (wi64 (x322 - 16)).toNat 0) + (x323.getD (wi64 (x322 - 7)).toNat 0))) + (bitsOp .xor .u32 (bitsOp .xor .u32 r438 r442) (shrOp .u32 (x323.getD (wi64 (x322 - 15)).toNat 0) 3)))) (n := bitsOp .xor .u32 (bitsOp .xor .u32 r446 r450) (shrOp .u32 (x323.getD (wi64 (x322 - 2)).toNat 0) 10)) (r := wu32 ((wu32 ((wu32 ((x323.getD (wi64 (x322 - 16)).toNat 0) + (x323.getD (wi64 (x322 - 7)).toNat 0))) + (bitsOp .xor .u32 (bitsOp .xor .u32 r438 r442) (shrOp .u32 (x323.getD (wi64 (x322 - 15)).toNat 0) 3)))) + (bitsOp .xor .u32 (bitsOp .xor .u32 r446 r450) (shrOp .u32 (x323.getD (wi64 (x322 - 2)).toNat 0) 10)))) rfl rfl rfl) ?_
          obtain ⟨hc453, hX243⟩ := guardE hX243
          refine WA.take none [] 28 rfl (by kernel_rfl) (by kernel_rfl) (show _ = #[true, true, true, true, true, true, true, true, true, true, true, true, true, true, true, true, true, true, true, true, true, true, true, true, true, true, true, true, true, false] from rfl) trivial ⟨(Ctx.sub_of [] [CH.row g13 0 ((List.replicate 8 (0 : Int)).map (Value.int .u32)), CH.row g9 0 (a0.map (Value.int .u32))] C452), trivial⟩ (fun _ hC_ => Yl.arrAddr (i := x322) ho320 rfl Tryd.underlying114 sz101 hc453) ?_
          have ha454 : (x323.set x322.toNat (wu32 ((wu32 ((wu32 ((x323.getD (wi64 (x322 - 16)).toNat 0) + (x323.getD (wi64 (x322 - 7)).toNat 0))) + (bitsOp .xor .u32 (bitsOp .xor .u32 r438 r442) (shrOp .u32 (x323.getD (wi64 (x322 - 15)).toNat 0) 3)))) + (bitsOp .xor .u32 (bitsOp .xor .u32 r446 r450) (shrOp .u32 (x323.getD (wi64 (x322 - 2)).toNat 0) 10))))).length = 64 := by rw [List.length_set]; exact ha324
          obtain ⟨w455, hy456, C457⟩ := ev_setAr' (P := Tryd.prog) (ps1 := []) (ps2 := [CH.row g13 0 ((List.replicate 8 (0 : Int)).map (Value.int .u32)), CH.row g9 0 (a0.map (Value.int .u32))]) (t := 101) (o := 0) (x323.map (Value.int .u32)) ((x323.set x322.toNat (wu32 ((wu32 ((wu32 ((x323.getD (wi64 (x322 - 16)).toNat 0) + (x323.getD (wi64 (x322 - 7)).toNat 0))) + (bitsOp .xor .u32 (bitsOp .xor .u32 r438 r442) (shrOp .u32 (x323.getD (wi64 (x322 - 15)).toNat 0) 3)))) + (bitsOp .xor .u32 (bitsOp .xor .u32 r446 r450) (shrOp .u32 (x323.getD (wi64 (x322 - 2)).toNat 0) 10))))).map (Value.int .u32)) [] [] x323 .u32 x322 (wu32 ((wu32 ((wu32 ((x323.getD (wi64 (x322 - 16)).toNat 0) + (x323.getD (wi64 (x322 - 7)).toNat 0))) + (bitsOp .xor .u32 (bitsOp .xor .u32 r438 r442) (shrOp .u32 (x323.getD (wi64 (x322 - 15)).toNat 0) 3)))) + (bitsOp .xor .u32 (bitsOp .xor .u32 r446 r450) (shrOp .u32 (x323.getD (wi64 (x322 - 2)).toNat 0) 10)))) C452 (by first | (simp only [List.length_append, List.length_map, List.length_cons, List.length_nil, ha324]; done) | simp [ha324]) (by first | (simp only [List.length_append, List.length_map, List.length_cons, List.length_nil, ha324]; done) | simp [ha324]) (by first | (simp only [List.length_append, List.length_map, List.length_cons, List.length_nil, ha324]; done) | simp [ha324]) (by have := ha324; have := hc453; omega) sz101
          have C458 : Ctx _ _ _ _ F [CH.row g18 0 ((x323.set x322.toNat (wu32 ((wu32 ((wu32 ((x323.getD (wi64 (x322 - 16)).toNat 0) + (x323.getD (wi64 (x322 - 7)).toNat 0))) + (bitsOp .xor .u32 (bitsOp .xor .u32 r438 r442) (shrOp .u32 (x323.getD (wi64 (x322 - 15)).toNat 0) 3)))) + (bitsOp .xor .u32 (bitsOp .xor .u32 r446 r450) (shrOp .u32 (x323.getD (wi64 (x322 - 2)).toNat 0) 10))))).map (Value.int .u32)), CH.row g13 0 ((List.replicate 8 (0 : Int)).map (Value.int .u32)), CH.row g9 0 (a0.map (Value.int .u32))] := C457
          refine WA.up1 29 (by kernel_rfl) (Up.skip rfl (show _ = #[true, true, true, true, true, true, true, true, true, true, true, true, true, true, true, true, true, true, true, true, true, true, true, true, true, true, true, true, true, true] from rfl) (hy456 _ _ _ _ rfl rfl) ⟨trivial, trivial⟩ ?_)
          refine WA.done (by kernel_rfl) ?_
          refine inB_n ?_
          refine W.region rfl ?_
          refine WL.val (Yl.add (m := x322) (n := 1) (r := wi64 (x322 + 1)) ho321 rfl rfl) ?_
          refine WL.val (Yl.move (v := .int .i64 (wi64 (x322 + 1))) rfl) ?_
          refine WL.done ?_
          exact thenE_n ⟨k392, Nat.lt_succ_self _, wi64 (x322 + 1), x323.set x322.toNat (wu32 ((wu32 ((wu32 ((x323.getD (wi64 (x322 - 16)).toNat 0) + (x323.getD (wi64 (x322 - 7)).toNat 0))) + (bitsOp .xor .u32 (bitsOp .xor .u32 r438 r442) (shrOp .u32 (x323.getD (wi64 (x322 - 15)).toNat 0) 3)))) + (bitsOp .xor .u32 (bitsOp .xor .u32 r446 r450) (shrOp .u32 (x323.getD (wi64 (x322 - 2)).toNat 0) 10)))), ho317, ho318, ho319, ho320, rfl, C458, ha454, hX243⟩
      · skip
        refine W.condF (congrArg Value.bool (decide_eq_false hc393)) ?_
        refine W.exit ?_
        refine thenE_x ?_
        refine thenE_x ?_
        refine inB_here ?_
        cases hX243
        refine thenE_n ?_
        exact ⟨ho318, ho319, ho320, C325, ha324⟩
    · skip
      rintro env_ w_ ⟨ho237, ho238, ho239, C242, ha241⟩
      refine W.seq ?_
      refine W.region_quiet (by kernel_rfl) (by kernel_rfl) rfl ?_
      refine WQ.val (fun _ hw => by obtain ⟨_, rfl⟩ := hw; exact Yl.arrAddr (i := 0) ho237 rfl Tryd.underlying102 sz101 (show 0 ≤ (0 : Int) ∧ (0 : Int) < (8 : Int) from by decide)) ?_
      refine WQ.val (fun _ hw => by obtain ⟨_, rfl⟩ := hw; exact Yl.loadAr (k' := .u32) (g := g9) (off := 0) (o := 0) (cs := a0.map (Value.int .u32)) (pre := []) (post := []) (a := a0) (i := 0) rfl Tryd.underlying101 rfl (Ctx.sub_of [CH.row g18 0 (x240.map (Value.int .u32)), CH.row g13 0 ((List.replicate 8 (0 : Int)).map (Value.int .u32))] [] (C242.drewN _)) (by first | (simp only [List.length_append, List.length_map, List.length_cons, List.length_nil, ha1]; done) | simp [ha1]) (by first | (simp only [List.length_append, List.length_map, List.length_cons, List.length_nil, ha1]; done) | simp [ha1]) (by have := ha1; have := (show 0 ≤ (0 : Int) ∧ (0 : Int) < (8 : Int) from by decide); omega)) ?_
      refine WQ.val (fun _ hw => by obtain ⟨_, rfl⟩ := hw; exact Yl.arrAddr (i := 1) ho237 rfl Tryd.underlying102 sz101 (show 0 ≤ (1 : Int) ∧ (1 : Int) < (8 : Int) from by decide)) ?_
      refine WQ.val (fun _ hw => by obtain ⟨_, rfl⟩ := hw; exact Yl.loadAr (k' := .u32) (g := g9) (off := 0) (o := 0) (cs := a0.map (Value.int .u32)) (pre := []) (post := []) (a := a0) (i := 1) rfl Tryd.underlying101 rfl (Ctx.sub_of [CH.row g18 0 (x240.map (Value.int .u32)), CH.row g13 0 ((List.replicate 8 (0 : Int)).map (Value.int .u32))] [] (C242.drewN _)) (by first | (simp only [List.length_append, List.length_map, List.length_cons, List.length_nil, ha1]; done) | simp [ha1]) (by first | (simp only [List.length_append, List.length_map, List.length_cons, List.length_nil, ha1]; done) | simp [ha1]) (by have := ha1; have := (show 0 ≤ (1 : Int) ∧ (1 : Int) < (8 : Int) from by decide); omega)) ?_
      refine WQ.val (fun _ hw => by obtain ⟨_, rfl⟩ := hw; exact Yl.arrAddr (i := 2) ho237 rfl Tryd.underlying102 sz101 (show 0 ≤ (2 : Int) ∧ (2 : Int) < (8 : Int) from by decide)) ?_
      refine WQ.val (fun _ hw => by obtain ⟨_, rfl⟩ := hw; exact Yl.loadAr (k' := .u32) (g := g9) (off := 0) (o := 0) (cs := a0.map (Value.int .u32)) (pre := []) (post := []) (a := a0) (i := 2) rfl Tryd.underlying101 rfl (Ctx.sub_of [CH.row g18 0 (x240.map (Value.int .u32)), CH.row g13 0 ((List.replicate 8 (0 : Int)).map (Value.int .u32))] [] (C242.drewN _)) (by first | (simp only [List.length_append, List.length_map, List.length_cons, List.length_nil, ha1]; done) | simp [ha1]) (by first | (simp only [List.length_append, List.length_map, List.length_cons, List.length_nil, ha1]; done) | simp [ha1]) (by have := ha1; have := (show 0 ≤ (2 : Int) ∧ (2 : Int) < (8 : Int) from by decide); omega)) ?_
      refine WQ.val (fun _ hw => by obtain ⟨_, rfl⟩ := hw; exact Yl.arrAddr (i := 3) ho237 rfl Tryd.underlying102 sz101 (show 0 ≤ (3 : Int) ∧ (3 : Int) < (8 : Int) from by decide)) ?_
      refine WQ.val (fun _ hw => by obtain ⟨_, rfl⟩ := hw; exact Yl.loadAr (k' := .u32) (g := g9) (off := 0) (o := 0) (cs := a0.map (Value.int .u32)) (pre := []) (post := []) (a := a0) (i := 3) rfl Tryd.underlying101 rfl (Ctx.sub_of [CH.row g18 0 (x240.map (Value.int .u32)), CH.row g13 0 ((List.replicate 8 (0 : Int)).map (Value.int .u32))] [] (C242.drewN _)) (by first | (simp only [List.length_append, List.length_map, List.length_cons, List.length_nil, ha1]; done) | simp [ha1]) (by first | (simp only [List.length_append, List.length_map, List.length_cons, List.length_nil, ha1]; done) | simp [ha1]) (by have := ha1; have := (show 0 ≤ (3 : Int) ∧ (3 : Int) < (8 : Int) from by decide); omega)) ?_
      refine WQ.val (fun _ hw => by obtain ⟨_, rfl⟩ := hw; exact Yl.arrAddr (i := 4) ho237 rfl Tryd.underlying102 sz101 (show 0 ≤ (4 : Int) ∧ (4 : Int) < (8 : Int) from by decide)) ?_
      refine WQ.val (fun _ hw => by obtain ⟨_, rfl⟩ := hw; exact Yl.loadAr (k' := .u32) (g := g9) (off := 0) (o := 0) (cs := a0.map (Value.int .u32)) (pre := []) (post := []) (a := a0) (i := 4) rfl Tryd.underlying101 rfl (Ctx.sub_of [CH.row g18 0 (x240.map (Value.int .u32)), CH.row g13 0 ((List.replicate 8 (0 : Int)).map (Value.int .u32))] [] (C242.drewN _)) (by first | (simp only [List.length_append, List.length_map, List.length_cons, List.length_nil, ha1]; done) | simp [ha1]) (by first | (simp only [List.length_append, List.length_map, List.length_cons, List.length_nil, ha1]; done) | simp [ha1]) (by have := ha1; have := (show 0 ≤ (4 : Int) ∧ (4 : Int) < (8 : Int) from by decide); omega)) ?_
      refine WQ.val (fun _ hw => by obtain ⟨_, rfl⟩ := hw; exact Yl.arrAddr (i := 5) ho237 rfl Tryd.underlying102 sz101 (show 0 ≤ (5 : Int) ∧ (5 : Int) < (8 : Int) from by decide)) ?_
      refine WQ.val (fun _ hw => by obtain ⟨_, rfl⟩ := hw; exact Yl.loadAr (k' := .u32) (g := g9) (off := 0) (o := 0) (cs := a0.map (Value.int .u32)) (pre := []) (post := []) (a := a0) (i := 5) rfl Tryd.underlying101 rfl (Ctx.sub_of [CH.row g18 0 (x240.map (Value.int .u32)), CH.row g13 0 ((List.replicate 8 (0 : Int)).map (Value.int .u32))] [] (C242.drewN _)) (by first | (simp only [List.length_append, List.length_map, List.length_cons, List.length_nil, ha1]; done) | simp [ha1]) (by first | (simp only [List.length_append, List.length_map, List.length_cons, List.length_nil, ha1]; done) | simp [ha1]) (by have := ha1; have := (show 0 ≤ (5 : Int) ∧ (5 : Int) < (8 : Int) from by decide); omega)) ?_
      refine WQ.val (fun _ hw => by obtain ⟨_, rfl⟩ := hw; exact Yl.arrAddr (i := 6) ho237 rfl Tryd.underlying102 sz101 (show 0 ≤ (6 : Int) ∧ (6 : Int) < (8 : Int) from by decide)) ?_
      refine WQ.val (fun _ hw => by obtain ⟨_, rfl⟩ := hw; exact Yl.loadAr (k' := .u32) (g := g9) (off := 0) (o := 0) (cs := a0.map (Value.int .u32)) (pre := []) (post := []) (a := a0) (i := 6) rfl Tryd.underlying101 rfl (Ctx.sub_of [CH.row g18 0 (x240.map (Value.int .u32)), CH.row g13 0 ((List.replicate 8 (0 : Int)).map (Value.int .u32))] [] (C242.drewN _)) (by first | (simp only [List.length_append, List.length_map, List.length_cons, List.length_nil, ha1]; done) | simp [ha1]) (by first | (simp only [List.length_append, List.length_map, List.length_cons, List.length_nil, ha1]; done) | simp [ha1]) (by have := ha1; have := (show 0 ≤ (6 : Int) ∧ (6 : Int) < (8 : Int) from by decide); omega)) ?_
      refine WQ.val (fun _ hw => by obtain ⟨_, rfl⟩ := hw; exact Yl.arrAddr (i := 7) ho237 rfl Tryd.underlying102 sz101 (show 0 ≤ (7 : Int) ∧ (7 : Int) < (8 : Int) from by decide)) ?_
      refine WQ.val (fun _ hw => by obtain ⟨_, rfl⟩ := hw; exact Yl.loadAr (k' := .u32) (g := g9) (off := 0) (o := 0) (cs := a0.map (Value.int .u32)) (pre := []) (post := []) (a := a0) (i := 7) rfl Tryd.underlying101 rfl (Ctx.sub_of [CH.row g18 0 (x240.map (Value.int .u32)), CH.row g13 0 ((List.replicate 8 (0 : Int)).map (Value.int .u32))] [] (C242.drewN _)) (by first | (simp only [List.length_append, List.length_map, List.length_cons, List.length_nil, ha1]; done) | simp [ha1]) (by first | (simp only [List.length_append, List.length_map, List.length_cons, List.length_nil, ha1]; done) | simp [ha1]) (by have := ha1; have := (show 0 ≤ (7 : Int) ∧ (7 : Int) < (8 : Int) from by decide); omega)) ?_
      refine WQ.val (fun _ hw => by obtain ⟨_, rfl⟩ := hw; exact Yl.assign (v := .int .u32 (a0.getD (0 : Int).toNat 0)) rfl) ?_
      refine WQ.val (fun _ hw => by obtain ⟨_, rfl⟩ := hw; exact Yl.assign (v := .int .u32 (a0.getD (1 : Int).toNat 0)) rfl) ?_
      refine WQ.val (fun _ hw => by obtain ⟨_, rfl⟩ := hw; exact Yl.assign (v := .int .u32 (a0.getD (2 : Int).toNat 0)) rfl) ?_
      refine WQ.val (fun _ hw => by obtain ⟨_, rfl⟩ := hw; exact Yl.assign (v := .int .u32 (a0.getD (3 : Int).toNat 0)) rfl) ?_
      refine WQ.val (fun _ hw => by obtain ⟨_, rfl⟩ := hw; exact Yl.assign (v := .int .u32 (a0.getD (4 : Int).toNat 0)) rfl) ?_
      refine WQ.val (fun _ hw => by obtain ⟨_, rfl⟩ := hw; exact Yl.assign (v := .int .u32 (a0.getD (5 : Int).toNat 0)) rfl) ?_
      refine WQ.val (fun _ hw => by obtain ⟨_, rfl⟩ := hw; exact Yl.assign (v := .int .u32 (a0.getD (6 : Int).toNat 0)) rfl) ?_
      refine WQ.val (fun _ hw => by obtain ⟨_, rfl⟩ := hw; exact Yl.assign (v := .int .u32 (a0.getD (7 : Int).toNat 0)) rfl) ?_
      refine WQ.done (fun nq459 => ?_)
      have C460 := Ctx.drewN C242 nq459
      refine W.seq ?_
      refine W.seq ?_
      refine W.region rfl ?_
      refine WL.val (Yl.loadVA (g := g18) (off := 0) (o := 0) (cs := x240.map (Value.int .u32)) (us := x240.map (Value.int .u32)) ho239 Tryd.underlying114 rfl (sz_of sz114 (by first | (simp only [List.length_append, List.length_map, List.length_cons, List.length_nil, ha241]; done) | simp [ha241])) (Ctx.sub_of [] [CH.row g13 0 ((List.replicate 8 (0 : Int)).map (Value.int .u32)), CH.row g9 0 (a0.map (Value.int .u32))] C460) (take_all _)) ?_
      refine WL.val (Yl.move (v := .int .i64 0) rfl) ?_
      refine WL.done ?_
      obtain ⟨⟨x531, x533, x535, x537, x539, x541, x543, x545⟩, hX547, H⟩ := bindE H
      refine W.cutM (fun env_ w_ => env_ 2 = .pointer (some ⟨g9, 0, none⟩) ∧ env_ 4 = .pointer (some ⟨g13, 0, none⟩) ∧ env_ 10 = .int .u32 x531 ∧ env_ 11 = .int .u32 x533 ∧ env_ 12 = .int .u32 x535 ∧ env_ 13 = .int .u32 x537 ∧ env_ 14 = .int .u32 x539 ∧ env_ 15 = .int .u32 x541 ∧ env_ 16 = .int .u32 x543 ∧ env_ 17 = .int .u32 x545 ∧ Ctx w F D w_ F [CH.row g18 0 (x240.map (Value.int .u32)), CH.row g13 0 ((List.replicate 8 (0 : Int)).map (Value.int .u32)), CH.row g9 0 (a0.map (Value.int .u32))]) ?_ ?_
      · skip
        refine W.block ?_
        refine W.loop (fun g_ env_ w_ => ∃ (x551 : Int) (x553 : Int) (x555 : Int) (x557 : Int) (x559 : Int) (x561 : Int) (x563 : Int) (x565 : Int) (x568 : Int), env_ 2 = .pointer (some ⟨g9, 0, none⟩) ∧ env_ 4 = .pointer (some ⟨g13, 0, none⟩) ∧ env_ 10 = .int .u32 x551 ∧ env_ 11 = .int .u32 x553 ∧ env_ 12 = .int .u32 x555 ∧ env_ 13 = .int .u32 x557 ∧ env_ 14 = .int .u32 x559 ∧ env_ 15 = .int .u32 x561 ∧ env_ 16 = .int .u32 x563 ∧ env_ 17 = .int .u32 x565 ∧ env_ 94 = .agg (List.toArray (x240.map (Value.int .u32))) ∧ env_ 95 = .int .i64 x568 ∧ Ctx w F D w_ F [CH.row g18 0 (x240.map (Value.int .u32)), CH.row g13 0 ((List.replicate 8 (0 : Int)).map (Value.int .u32)), CH.row g9 0 (a0.map (Value.int .u32))] ∧ sha_Block.l2 g_ x240 x551 x553 x555 x557 x559 x561 x563 x565 x568 = some (x531, x533, x535, x537, x539, x541, x543, x545)) k ⟨a0.getD (0 : Int).toNat 0, a0.getD (1 : Int).toNat 0, a0.getD (2 : Int).toNat 0, a0.getD (3 : Int).toNat 0, a0.getD (4 : Int).toNat 0, a0.getD (5 : Int).toNat 0, a0.getD (6 : Int).toNat 0, a0.getD (7 : Int).toNat 0, 0, ho237, ho238, rfl, rfl, rfl, rfl, rfl, rfl, rfl, rfl, rfl, rfl, C460, hX547⟩ ?_
        clear hX547
        rintro g_ env_ w_ ⟨x551, x553, x555, x557, x559, x561, x563, x565, x568, ho548, ho549, ho550, ho552, ho554, ho556, ho558, ho560, ho562, ho564, ho566, ho567, C569, hX547⟩
        rcases g_ with _ | k592
        · exact absurd hX547 (by simp [sha_Block.l2])
        rw [sha_Block.l2] at hX547
        refine W.seq ?_
        refine W.region rfl ?_
        refine WL.val (Yl.lss (m := x568) (n := 64) (q := decide (x568 < 64)) ho567 rfl rfl) ?_
        refine WL.done ?_
        refine W.seq ?_
        rcases iteE hX547 with ⟨hc593, hX547⟩ | ⟨hc593, hX547⟩
        · skip
          refine W.condT (congrArg Value.bool (decide_eq_true hc593)) ?_
          refine W.skip ?_
          refine W.seq ?_
          refine W.block ?_
          refine W.seq ?_
          refine W.region rfl ?_
          refine WL.val (Yl.move (v := .int .i64 x568) ho567) ?_
          obtain ⟨hc594, hX547⟩ := guardE hX547
          refine WL.val (Yl.indexAgg (k' := .u32) (a := x240) (i := x568) ho566 ho567 Tryd.underlying114 Tryd.underlying101 sz101 ha241 (by have := ha241; have := hc594; omega)) ?_
          refine WL.val (Yl.assign (v := .int .i64 x568) rfl) ?_
          refine WL.val (Yl.assign (v := .int .u32 (x240.getD x568.toNat 0)) rfl) ?_
          refine WL.done ?_
          refine W.seq ?_
          refine W.region_quiet (by kernel_rfl) (by kernel_rfl) rfl ?_
          refine WQ.val (fun _ hw => by obtain ⟨_, rfl⟩ := hw; exact Yl.move (v := .int .u32 x565) ho564) ?_
          refine WQ.val (fun _ hw => by obtain ⟨_, rfl⟩ := hw; exact Yl.move (v := .int .u32 x559) ho558) ?_
          obtain ⟨r596, hg595, hX547⟩ := bindE hX547
          refine WQ.call (v := .int .u32 r596) (f := 81) (args := #[.int .u32 x559, .int .i64 6]) (fun _ hw => by obtain ⟨_, rfl⟩ := hw; exact (Yenter.fn Tryd.func81 (by kernel_rfl) rfl (argsE (.cons rfl (.cons rfl .nil))))) (fun _ hw => by obtain ⟨n_, rfl⟩ := hw; exact (bits_Rot.calls k592 _ F x559 6 (C569.drewN n_).pre0  r596 hg595).mono (fun _ _ ⟨he, m_, hm_⟩ => ⟨he, n_ + m_, by rw [hm_, World.drewN_drewN]⟩)) ?_
          refine WQ.val (fun _ hw => by obtain ⟨_, rfl⟩ := hw; exact Yl.move (v := .int .u32 x559) ho558) ?_
          obtain ⟨r598, hg597, hX547⟩ := bindE hX547
          refine WQ.call (v := .int .u32 r598) (f := 81) (args := #[.int .u32 x559, .int .i64 11]) (fun _ hw => by obtain ⟨_, rfl⟩ := hw; exact (Yenter.fn Tryd.func81 (by kernel_rfl) rfl (argsE (.cons rfl (.cons rfl .nil))))) (fun _ hw => by obtain ⟨n_, rfl⟩ := hw; exact (bits_Rot.calls k592 _ F x559 11 (C569.drewN n_).pre0  r598 hg597).mono (fun _ _ ⟨he, m_, hm_⟩ => ⟨he, n_ + m_, by rw [hm_, World.drewN_drewN]⟩)) ?_
          refine WQ.val (fun _ hw => by obtain ⟨_, rfl⟩ := hw; exact Yl.xor (m := r596) (n := r598) (r := bitsOp .xor .u32 r596 r598) rfl rfl rfl) ?_
          refine WQ.val (fun _ hw => by obtain ⟨_, rfl⟩ := hw; exact Yl.move (v := .int .u32 x559) ho558) ?_
          obtain ⟨r600, hg599, hX547⟩ := bindE hX547
          refine WQ.call (v := .int .u32 r600) (f := 81) (args := #[.int .u32 x559, .int .i64 25]) (fun _ hw => by obtain ⟨_, rfl⟩ := hw; exact (Yenter.fn Tryd.func81 (by kernel_rfl) rfl (argsE (.cons rfl (.cons rfl .nil))))) (fun _ hw => by obtain ⟨n_, rfl⟩ := hw; exact (bits_Rot.calls k592 _ F x559 25 (C569.drewN n_).pre0  r600 hg599).mono (fun _ _ ⟨he, m_, hm_⟩ => ⟨he, n_ + m_, by rw [hm_, World.drewN_drewN]⟩)) ?_
          refine WQ.val (fun _ hw => by obtain ⟨_, rfl⟩ := hw; exact Yl.xor (m := bitsOp .xor .u32 r596 r598) (n := r600) (r := bitsOp .xor .u32 (bitsOp .xor .u32 r596 r598) r600) rfl rfl rfl) ?_
          refine WQ.val (fun _ hw => by obtain ⟨_, rfl⟩ := hw; exact Yl.add (m := x565) (n := bitsOp .xor .u32 (bitsOp .xor .u32 r596 r598) r600) (r := wu32 (x565 + (bitsOp .xor .u32 (bitsOp .xor .u32 r596 r598) r600))) rfl rfl rfl) ?_
          refine WQ.val (fun _ hw => by obtain ⟨_, rfl⟩ := hw; exact Yl.move (v := .int .u32 x563) ho562) ?_
          refine WQ.val (fun _ hw => by obtain ⟨_, rfl⟩ := hw; exact Yl.move (v := .int .u32 x559) ho558) ?_
          refine WQ.val (fun _ hw => by obtain ⟨_, rfl⟩ := hw; exact Yl.move (v := .int .u32 x561) ho560) ?_
          refine WQ.val (fun _ hw => by obtain ⟨_, rfl⟩ := hw; exact Yl.move (v := .int .u32 x563) ho562) ?_
          refine WQ.val (fun _ hw => by obtain ⟨_, rfl⟩ := hw; exact Yl.xor (m := x561) (n := x563) (r := bitsOp .xor .u32 x561 x563) rfl rfl rfl) ?_
          refine WQ.val (fun _ hw => by obtain ⟨_, rfl⟩ := hw; exact Yl.and (m := x559) (n := bitsOp .xor .u32 x561 x563) (r := bitsOp .and .u32 x559 (bitsOp .xor .u32 x561 x563)) rfl rfl rfl) ?_
          refine WQ.val (fun _ hw => by obtain ⟨_, rfl⟩ := hw; exact Yl.xor (m := x563) (n := bitsOp .and .u32 x559 (bitsOp .xor .u32 x561 x563)) (r := bitsOp .xor .u32 x563 (bitsOp .and .u32 x559 (bitsOp .xor .u32 x561 x563))) rfl rfl rfl) ?_
          refine WQ.val (fun _ hw => by obtain ⟨_, rfl⟩ := hw; exact Yl.add (m := wu32 (x565 + (bitsOp .xor .u32 (bitsOp .xor .u32 r596 r598) r600))) (n := bitsOp .xor .u32 x563 (bitsOp .and .u32 x559 (bitsOp .xor .u32 x561 x563))) (r := wu32 ((wu32 (x565 + (bitsOp .xor .u32 (bitsOp .xor .u32 r596 r598) r600))) + (bitsOp .xor .u32 x563 (bitsOp .and .u32 x559 (bitsOp .xor .u32 x561 x563))))) rfl rfl rfl) ?_
          refine WQ.val (fun _ hw => by obtain ⟨_, rfl⟩ := hw; exact Yl.move (v := .int .i64 x568) rfl) ?_
          refine WQ.val (fun _ hw => by obtain ⟨_, rfl⟩ := hw; exact Yl.arrAddr (i := x568) rfl rfl Tryd.underlying114 sz101 hc594) ?_
          refine WQ.val (fun _ hw => by obtain ⟨_, rfl⟩ := hw; exact Yl.loadAr (k' := .u32) (g := 3) (off := 0) (o := 0) (cs := glob3.map (Value.int .u32)) (pre := []) (post := []) (a := glob3) (i := x568) rfl Tryd.underlying101 rfl (Sub.mono ((C569.drewN _).fro) hG3) (by first | (simp only [List.length_append, List.length_map, List.length_cons, List.length_nil, glob3_len]; done) | simp [glob3_len]) (by first | (simp only [List.length_append, List.length_map, List.length_cons, List.length_nil, glob3_len]; done) | simp [glob3_len]) (by have := glob3_len; have := hc594; omega)) ?_
          refine WQ.val (fun _ hw => by obtain ⟨_, rfl⟩ := hw; exact Yl.add (m := wu32 ((wu32 (x565 + (bitsOp .xor .u32 (bitsOp .xor .u32 r596 r598) r600))) + (bitsOp .xor .u32 x563 (bitsOp .and .u32 x559 (bitsOp .xor .u32 x561 x563))))) (n := glob3.getD x568.toNat 0) (r := wu32 ((wu32 ((wu32 (x565 + (bitsOp .xor .u32 (bitsOp .xor .u32 r596 r598) r600))) + (bitsOp .xor .u32 x563 (bitsOp .and .u32 x559 (bitsOp .xor .u32 x561 x563))))) + (glob3.getD x568.toNat 0))) rfl rfl rfl) ?_
          refine WQ.val (fun _ hw => by obtain ⟨_, rfl⟩ := hw; exact Yl.move (v := .int .u32 (x240.getD x568.toNat 0)) rfl) ?_
          refine WQ.val (fun _ hw => by obtain ⟨_, rfl⟩ := hw; exact Yl.add (m := wu32 ((wu32 ((wu32 (x565 + (bitsOp .xor .u32 (bitsOp .xor .u32 r596 r598) r600))) + (bitsOp .xor .u32 x563 (bitsOp .and .u32 x559 (bitsOp .xor .u32 x561 x563))))) + (glob3.getD x568.toNat 0))) (n := x240.getD x568.toNat 0) (r := wu32 ((wu32 ((wu32 ((wu32 (x565 + (bitsOp .xor .u32 (bitsOp .xor .u32 r596 r598) r600))) + (bitsOp .xor .u32 x563 (bitsOp .and .u32 x559 (bitsOp .xor .u32 x561 x563))))) + (glob3.getD x568.toNat 0))) + (x240.getD x568.toNat 0))) rfl rfl rfl) ?_
          refine WQ.val (fun _ hw => by obtain ⟨_, rfl⟩ := hw; exact Yl.assign (v := .int .u32 (wu32 ((wu32 ((wu32 ((wu32 (x565 + (bitsOp .xor .u32 (bitsOp .xor .u32 r596 r598) r600))) + (bitsOp .xor .u32 x563 (bitsOp .and .u32 x559 (bitsOp .xor .u32 x561 x563))))) + (glob3.getD x568.toNat 0))) + (x240.getD x568.toNat 0)))) rfl) ?_
          refine WQ.done (fun nq601 => ?_)
          have C602 := Ctx.drewN C569 nq601
          refine W.seq ?_
          refine W.region rfl ?_
          refine WL.val (Yl.move (v := .int .u32 x551) ho550) ?_
          obtain ⟨r604, hg603, hX547⟩ := bindE hX547
          refine WL.call (args := #[.int .u32 x551, .int .i64 2]) (Yenter.fn Tryd.func81 (by kernel_rfl) rfl (argsE (.cons rfl (.cons rfl .nil)))) (bits_Rot.calls k592 _ F x551 2 C602.pre0  r604 hg603) ?_
          rintro e_ w_ ⟨rfl, ⟨m605, rfl⟩⟩
          refine ⟨_, rfl, ?_⟩
          have C606 := Ctx.drewN C602 m605
          refine WL.val (Yl.move (v := .int .u32 x551) ho550) ?_
          obtain ⟨r608, hg607, hX547⟩ := bindE hX547
          refine WL.call (args := #[.int .u32 x551, .int .i64 13]) (Yenter.fn Tryd.func81 (by kernel_rfl) rfl (argsE (.cons rfl (.cons rfl .nil)))) (bits_Rot.calls k592 _ F x551 13 C606.pre0  r608 hg607) ?_
          rintro e_ w_ ⟨rfl, ⟨m609, rfl⟩⟩
          refine ⟨_, rfl, ?_⟩
          have C610 := Ctx.drewN C606 m609
          refine WL.val (Yl.xor (m := r604) (n := r608) (r := bitsOp .xor .u32 r604 r608) rfl rfl rfl) ?_
          refine WL.val (Yl.move (v := .int .u32 x551) ho550) ?_
          obtain ⟨r612, hg611, hX547⟩ := bindE hX547
          refine WL.call (args := #[.int .u32 x551, .int .i64 22]) (Yenter.fn Tryd.func81 (by kernel_rfl) rfl (argsE (.cons rfl (.cons rfl .nil)))) (bits_Rot.calls k592 _ F x551 22 C610.pre0  r612 hg611) ?_
          rintro e_ w_ ⟨rfl, ⟨m613, rfl⟩⟩
          refine ⟨_, rfl, ?_⟩
          have C614 := Ctx.drewN C610 m613
          refine WL.val (Yl.xor (m := bitsOp .xor .u32 r604 r608) (n := r612) (r := bitsOp .xor .u32 (bitsOp .xor .u32 r604 r608) r612) rfl rfl rfl) ?_
          refine WL.val (Yl.move (v := .int .u32 x551) ho550) ?_
          refine WL.val (Yl.move (v := .int .u32 x553) ho552) ?_
          refine WL.val (Yl.and (m := x551) (n := x553) (r := bitsOp .and .u32 x551 x553) rfl rfl rfl) ?_
          refine WL.val (Yl.move (v := .int .u32 x555) ho554) ?_
          refine WL.val (Yl.move (v := .int .u32 x551) ho550) ?_
          refine WL.val (Yl.move (v := .int .u32 x553) ho552) ?_
          refine WL.val (Yl.or (m := x551) (n := x553) (r := bitsOp .or .u32 x551 x553) rfl rfl rfl) ?_
          refine WL.val (Yl.and (m := x555) (n := bitsOp .or .u32 x551 x553) (r := bitsOp .and .u32 x555 (bitsOp .or .u32 x551 x553)) rfl rfl rfl) ?_
          refine WL.val (Yl.or (m := bitsOp .and .u32 x551 x553) (n := bitsOp .and .u32 x555 (bitsOp .or .u32 x551 x553)) (r := bitsOp .or .u32 (bitsOp .and .u32 x551 x553) (bitsOp .and .u32 x555 (bitsOp .or .u32 x551 x553))) rfl rfl rfl) ?_
          refine WL.val (Yl.add (m := bitsOp .xor .u32 (bitsOp .xor .u32 r604 r608) r612) (n := bitsOp .or .u32 (bitsOp .and .u32 x551 x553) (bitsOp .and .u32 x555 (bitsOp .or .u32 x551 x553))) (r := wu32 ((bitsOp .xor .u32 (bitsOp .xor .u32 r604 r608) r612) + (bitsOp .or .u32 (bitsOp .and .u32 x551 x553) (bitsOp .and .u32 x555 (bitsOp .or .u32 x551 x553))))) rfl rfl rfl) ?_
          refine WL.val (Yl.assign (v := .int .u32 (wu32 ((bitsOp .xor .u32 (bitsOp .xor .u32 r604 r608) r612) + (bitsOp .or .u32 (bitsOp .and .u32 x551 x553) (bitsOp .and .u32 x555 (bitsOp .or .u32 x551 x553)))))) rfl) ?_
          refine WL.done ?_
          refine W.region rfl ?_
          refine WL.val (Yl.move (v := .int .u32 (wu32 ((wu32 ((wu32 ((wu32 (x565 + (bitsOp .xor .u32 (bitsOp .xor .u32 r596 r598) r600))) + (bitsOp .xor .u32 x563 (bitsOp .and .u32 x559 (bitsOp .xor .u32 x561 x563))))) + (glob3.getD x568.toNat 0))) + (x240.getD x568.toNat 0)))) rfl) ?_
          refine WL.val (Yl.move (v := .int .u32 (wu32 ((bitsOp .xor .u32 (bitsOp .xor .u32 r604 r608) r612) + (bitsOp .or .u32 (bitsOp .and .u32 x551 x553) (bitsOp .and .u32 x555 (bitsOp .or .u32 x551 x553)))))) rfl) ?_
          refine WL.val (Yl.add (m := wu32 ((wu32 ((wu32 ((wu32 (x565 + (bitsOp .xor .u32 (bitsOp .xor .u32 r596 r598) r600))) + (bitsOp .xor .u32 x563 (bitsOp .and .u32 x559 (bitsOp .xor .u32 x561 x563))))) + (glob3.getD x568.toNat 0))) + (x240.getD x568.toNat 0))) (n := wu32 ((bitsOp .xor .u32 (bitsOp .xor .u32 r604 r608) r612) + (bitsOp .or .u32 (bitsOp .and .u32 x551 x553) (bitsOp .and .u32 x555 (bitsOp .or .u32 x551 x553))))) (r := wu32 ((wu32 ((wu32 ((wu32 ((wu32 (x565 + (bitsOp .xor .u32 (bitsOp .xor .u32 r596 r598) r600))) + (bitsOp .xor .u32 x563 (bitsOp .and .u32 x559 (bitsOp .xor .u32 x561 x563))))) + (glob3.getD x568.toNat 0))) + (x240.getD x568.toNat 0))) + (wu32 ((bitsOp .xor .u32 (bitsOp .xor .u32 r604 r608) r612) + (bitsOp .or .u32 (bitsOp .and .u32 x551 x553) (bitsOp .and .u32 x555 (bitsOp .or .u32 x551 x553))))))) rfl rfl rfl) ?_
          refine WL.val (Yl.move (v := .int .u32 x551) ho550) ?_
          refine WL.val (Yl.move (v := .int .u32 x553) ho552) ?_
          refine WL.val (Yl.move (v := .int .u32 x555) ho554) ?_
          refine WL.val (Yl.move (v := .int .u32 x557) ho556) ?_
          refine WL.val (Yl.move (v := .int .u32 (wu32 ((wu32 ((wu32 ((wu32 (x565 + (bitsOp .xor .u32 (bitsOp .xor .u32 r596 r598) r600))) + (bitsOp .xor .u32 x563 (bitsOp .and .u32 x559 (bitsOp .xor .u32 x561 x563))))) + (glob3.getD x568.toNat 0))) + (x240.getD x568.toNat 0)))) rfl) ?_
          refine WL.val (Yl.add (m := x557) (n := wu32 ((wu32 ((wu32 ((wu32 (x565 + (bitsOp .xor .u32 (bitsOp .xor .u32 r596 r598) r600))) + (bitsOp .xor .u32 x563 (bitsOp .and .u32 x559 (bitsOp .xor .u32 x561 x563))))) + (glob3.getD x568.toNat 0))) + (x240.getD x568.toNat 0))) (r := wu32 (x557 + (wu32 ((wu32 ((wu32 ((wu32 (x565 + (bitsOp .xor .u32 (bitsOp .xor .u32 r596 r598) r600))) + (bitsOp .xor .u32 x563 (bitsOp .and .u32 x559 (bitsOp .xor .u32 x561 x563))))) + (glob3.getD x568.toNat 0))) + (x240.getD x568.toNat 0))))) rfl rfl rfl) ?_
          refine WL.val (Yl.move (v := .int .u32 x559) ho558) ?_
          refine WL.val (Yl.move (v := .int .u32 x561) ho560) ?_
          refine WL.val (Yl.move (v := .int .u32 x563) ho562) ?_
          refine WL.val (Yl.assign (v := .int .u32 (wu32 ((wu32 ((wu32 ((wu32 ((wu32 (x565 + (bitsOp .xor .u32 (bitsOp .xor .u32 r596 r598) r600))) + (bitsOp .xor .u32 x563 (bitsOp .and .u32 x559 (bitsOp .xor .u32 x561 x563))))) + (glob3.getD x568.toNat 0))) + (x240.getD x568.toNat 0))) + (wu32 ((bitsOp .xor .u32 (bitsOp .xor .u32 r604 r608) r612) + (bitsOp .or .u32 (bitsOp .and .u32 x551 x553) (bitsOp .and .u32 x555 (bitsOp .or .u32 x551 x553)))))))) rfl) ?_
          refine WL.val (Yl.assign (v := .int .u32 x551) rfl) ?_
          refine WL.val (Yl.assign (v := .int .u32 x553) rfl) ?_
          refine WL.val (Yl.assign (v := .int .u32 x555) rfl) ?_
          refine WL.val (Yl.assign (v := .int .u32 (wu32 (x557 + (wu32 ((wu32 ((wu32 ((wu32 (x565 + (bitsOp .xor .u32 (bitsOp .xor .u32 r596 r598) r600))) + (bitsOp .xor .u32 x563 (bitsOp .and .u32 x559 (bitsOp .xor .u32 x561 x563))))) + (glob3.getD x568.toNat 0))) + (x240.getD x568.toNat 0)))))) rfl) ?_
          refine WL.val (Yl.assign (v := .int .u32 x559) rfl) ?_
          refine WL.val (Yl.assign (v := .int .u32 x561) rfl) ?_
          refine WL.val (Yl.assign (v := .int .u32 x563) rfl) ?_
          refine WL.done ?_
          refine inB_n ?_
          refine W.region rfl ?_
          refine WL.val (Yl.add (m := x568) (n := 1) (r := wi64 (x568 + 1)) ho567 rfl rfl) ?_
          refine WL.val (Yl.move (v := .int .i64 (wi64 (x568 + 1))) rfl) ?_
          refine WL.done ?_
          exact thenE_n ⟨k592, Nat.lt_succ_self _, wu32 ((wu32 ((wu32 ((wu32 ((wu32 (x565 + (bitsOp .xor .u32 (bitsOp .xor .u32 r596 r598) r600))) + (bitsOp .xor .u32 x563 (bitsOp .and .u32 x559 (bitsOp .xor .u32 x561 x563))))) + (glob3.getD x568.toNat 0))) + (x240.getD x568.toNat 0))) + (wu32 ((bitsOp .xor .u32 (bitsOp .xor .u32 r604 r608) r612) + (bitsOp .or .u32 (bitsOp .and .u32 x551 x553) (bitsOp .and .u32 x555 (bitsOp .or .u32 x551 x553)))))), x551, x553, x555, wu32 (x557 + (wu32 ((wu32 ((wu32 ((wu32 (x565 + (bitsOp .xor .u32 (bitsOp .xor .u32 r596 r598) r600))) + (bitsOp .xor .u32 x563 (bitsOp .and .u32 x559 (bitsOp .xor .u32 x561 x563))))) + (glob3.getD x568.toNat 0))) + (x240.getD x568.toNat 0)))), x559, x561, x563, wi64 (x568 + 1), ho548, ho549, rfl, rfl, rfl, rfl, rfl, rfl, rfl, rfl, ho566, rfl, C614, hX547⟩
        · skip
          refine W.condF (congrArg Value.bool (decide_eq_false hc593)) ?_
          refine W.exit ?_
          refine thenE_x ?_
          refine thenE_x ?_
          refine inB_here ?_
          cases hX547
          refine thenE_n ?_
          exact ⟨ho548, ho549, ho550, ho552, ho554, ho556, ho558, ho560, ho562, ho564, C569⟩
      · skip
        rintro env_ w_ ⟨ho528, ho529, ho530, ho532, ho534, ho536, ho538, ho540, ho542, ho544, C546⟩
        refine W.seq ?_
        refine W.region rfl ?_
        refine WL.val (Yl.arrAddr (i := 0) ho528 rfl Tryd.underlying102 sz101 (show 0 ≤ (0 : Int) ∧ (0 : Int) < (8 : Int) from by decide)) ?_
        refine WL.val (Yl.loadAr (k' := .u32) (g := g9) (off := 0) (o := 0) (cs := a0.map (Value.int .u32)) (pre := []) (post := []) (a := a0) (i := 0) rfl Tryd.underlying101 rfl (Ctx.sub_of [CH.row g18 0 (x240.map (Value.int .u32)), CH.row g13 0 ((List.replicate 8 (0 : Int)).map (Value.int .u32))] [] C546) (by first | (simp only [List.length_append, List.length_map, List.length_cons, List.length_nil, ha1]; done) | simp [ha1]) (by first | (simp only [List.length_append, List.length_map, List.length_cons, List.length_nil, ha1]; done) | simp [ha1]) (by have := ha1; have := (show 0 ≤ (0 : Int) ∧ (0 : Int) < (8 : Int) from by decide); omega)) ?_
        refine WL.val (Yl.move (v := .int .u32 x531) ho530) ?_
        refine WL.val (Yl.add (m := a0.getD (0 : Int).toNat 0) (n := x531) (r := wu32 ((a0.getD (0 : Int).toNat 0) + x531)) rfl rfl rfl) ?_
        refine WL.val (Yl.arrAddr (i := 1) ho528 rfl Tryd.underlying102 sz101 (show 0 ≤ (1 : Int) ∧ (1 : Int) < (8 : Int) from by decide)) ?_
        refine WL.val (Yl.loadAr (k' := .u32) (g := g9) (off := 0) (o := 0) (cs := a0.map (Value.int .u32)) (pre := []) (post := []) (a := a0) (i := 1) rfl Tryd.underlying101 rfl (Ctx.sub_of [CH.row g18 0 (x240.map (Value.int .u32)), CH.row g13 0 ((List.replicate 8 (0 : Int)).map (Value.int .u32))] [] C546) (by first | (simp only [List.length_append, List.length_map, List.length_cons, List.length_nil, ha1]; done) | simp [ha1]) (by first | (simp only [List.length_append, List.length_map, List.length_cons, List.length_nil, ha1]; done) | simp [ha1]) (by have := ha1; have := (show 0 ≤ (1 : Int) ∧ (1 : Int) < (8 : Int) from by decide); omega)) ?_
        refine WL.val (Yl.move (v := .int .u32 x533) ho532) ?_
        refine WL.val (Yl.add (m := a0.getD (1 : Int).toNat 0) (n := x533) (r := wu32 ((a0.getD (1 : Int).toNat 0) + x533)) rfl rfl rfl) ?_
        refine WL.val (Yl.arrAddr (i := 2) ho528 rfl Tryd.underlying102 sz101 (show 0 ≤ (2 : Int) ∧ (2 : Int) < (8 : Int) from by decide)) ?_
        refine WL.val (Yl.loadAr (k' := .u32) (g := g9) (off := 0) (o := 0) (cs := a0.map (Value.int .u32)) (pre := []) (post := []) (a := a0) (i := 2) rfl Tryd.underlying101 rfl (Ctx.sub_of [CH.row g18 0 (x240.map (Value.int .u32)), CH.row g13 0 ((List.replicate 8 (0 : Int)).map (Value.int .u32))] [] C546) (by first | (simp only [List.length_append, List.length_map, List.length_cons, List.length_nil, ha1]; done) | simp [ha1]) (by first | (simp only [List.length_append, List.length_map, List.length_cons, List.length_nil, ha1]; done) | simp [ha1]) (by have := ha1; have := (show 0 ≤ (2 : Int) ∧ (2 : Int) < (8 : Int) from by decide); omega)) ?_
        refine WL.val (Yl.move (v := .int .u32 x535) ho534) ?_
        refine WL.val (Yl.add (m := a0.getD (2 : Int).toNat 0) (n := x535) (r := wu32 ((a0.getD (2 : Int).toNat 0) + x535)) rfl rfl rfl) ?_
        refine WL.val (Yl.arrAddr (i := 3) ho528 rfl Tryd.underlying102 sz101 (show 0 ≤ (3 : Int) ∧ (3 : Int) < (8 : Int) from by decide)) ?_
        refine WL.val (Yl.loadAr (k' := .u32) (g := g9) (off := 0) (o := 0) (cs := a0.map (Value.int .u32)) (pre := []) (post := []) (a := a0) (i := 3) rfl Tryd.underlying101 rfl (Ctx.sub_of [CH.row g18 0 (x240.map (Value.int .u32)), CH.row g13 0 ((List.replicate 8 (0 : Int)).map (Value.int .u32))] [] C546) (by first | (simp only [List.length_append, List.length_map, List.length_cons, List.length_nil, ha1]; done) | simp [ha1]) (by first | (simp only [List.length_append, List.length_map, List.length_cons, List.length_nil, ha1]; done) | simp [ha1]) (by have := ha1; have := (show 0 ≤ (3 : Int) ∧ (3 : Int) < (8 : Int) from by decide); omega)) ?_
        refine WL.val (Yl.move (v := .int .u32 x537) ho536) ?_
        refine WL.val (Yl.add (m := a0.getD (3 : Int).toNat 0) (n := x537) (r := wu32 ((a0.getD (3 : Int).toNat 0) + x537)) rfl rfl rfl) ?_
        refine WL.val (Yl.arrAddr (i := 4) ho528 rfl Tryd.underlying102 sz101 (show 0 ≤ (4 : Int) ∧ (4 : Int) < (8 : Int) from by decide)) ?_
        refine WL.val (Yl.loadAr (k' := .u32) (g := g9) (off := 0) (o := 0) (cs := a0.map (Value.int .u32)) (pre := []) (post := []) (a := a0) (i := 4) rfl Tryd.underlying101 rfl (Ctx.sub_of [CH.row g18 0 (x240.map (Value.int .u32)), CH.row g13 0 ((List.replicate 8 (0 : Int)).map (Value.int .u32))] [] C546) (by first | (simp only [List.length_append, List.length_map, List.length_cons, List.length_nil, ha1]; done) | simp [ha1]) (by first | (simp only [List.length_append, List.length_map, List.length_cons, List.length_nil, ha1]; done) | simp [ha1]) (by have := ha1; have := (show 0 ≤ (4 : Int) ∧ (4 : Int) < (8 : Int) from by decide); omega)) ?_
        refine WL.val (Yl.move (v := .int .u32 x539) ho538) ?_
        refine WL.val (Yl.add (m := a0.getD (4 : Int).toNat 0) (n := x539) (r := wu32 ((a0.getD (4 : Int).toNat 0) + x539)) rfl rfl rfl) ?_
        refine WL.val (Yl.arrAddr (i := 5) ho528 rfl Tryd.underlying102 sz101 (show 0 ≤ (5 : Int) ∧ (5 : Int) < (8 : Int) from by decide)) ?_
        refine WL.val (Yl.loadAr (k' := .u32) (g := g9) (off := 0) (o := 0) (cs := a0.map (Value.int .u32)) (pre := []) (post := []) (a := a0) (i := 5) rfl Tryd.underlying101 rfl (Ctx.sub_of [CH.row g18 0 (x240.map (Value.int .u32)), CH.row g13 0 ((List.replicate 8 (0 : Int)).map (Value.int .u32))] [] C546) (by first | (simp only [List.length_append, List.length_map, List.length_cons, List.length_nil, ha1]; done) | simp [ha1]) (by first | (simp only [List.length_append, List.length_map, List.length_cons, List.length_nil, ha1]; done) | simp [ha1]) (by have := ha1; have := (show 0 ≤ (5 : Int) ∧ (5 : Int) < (8 : Int) from by decide); omega)) ?_
        refine WL.val (Yl.move (v := .int .u32 x541) ho540) ?_
        refine WL.val (Yl.add (m := a0.getD (5 : Int).toNat 0) (n := x541) (r := wu32 ((a0.getD (5 : Int).toNat 0) + x541)) rfl rfl rfl) ?_
        refine WL.val (Yl.arrAddr (i := 6) ho528 rfl Tryd.underlying102 sz101 (show 0 ≤ (6 : Int) ∧ (6 : Int) < (8 : Int) from by decide)) ?_
        refine WL.val (Yl.loadAr (k' := .u32) (g := g9) (off := 0) (o := 0) (cs := a0.map (Value.int .u32)) (pre := []) (post := []) (a := a0) (i := 6) rfl Tryd.underlying101 rfl (Ctx.sub_of [CH.row g18 0 (x240.map (Value.int .u32)), CH.row g13 0 ((List.replicate 8 (0 : Int)).map (Value.int .u32))] [] C546) (by first | (simp only [List.length_append, List.length_map, List.length_cons, List.length_nil, ha1]; done) | simp [ha1]) (by first | (simp only [List.length_append, List.length_map, List.length_cons, List.length_nil, ha1]; done) | simp [ha1]) (by have := ha1; have := (show 0 ≤ (6 : Int) ∧ (6 : Int) < (8 : Int) from by decide); omega)) ?_
        refine WL.val (Yl.move (v := .int .u32 x543) ho542) ?_
        refine WL.val (Yl.add (m := a0.getD (6 : Int).toNat 0) (n := x543) (r := wu32 ((a0.getD (6 : Int).toNat 0) + x543)) rfl rfl rfl) ?_
        refine WL.val (Yl.arrAddr (i := 7) ho528 rfl Tryd.underlying102 sz101 (show 0 ≤ (7 : Int) ∧ (7 : Int) < (8 : Int) from by decide)) ?_
        refine WL.val (Yl.loadAr (k' := .u32) (g := g9) (off := 0) (o := 0) (cs := a0.map (Value.int .u32)) (pre := []) (post := []) (a := a0) (i := 7) rfl Tryd.underlying101 rfl (Ctx.sub_of [CH.row g18 0 (x240.map (Value.int .u32)), CH.row g13 0 ((List.replicate 8 (0 : Int)).map (Value.int .u32))] [] C546) (by first | (simp only [List.length_append, List.length_map, List.length_cons, List.length_nil, ha1]; done) | simp [ha1]) (by first | (simp only [List.length_append, List.length_map, List.length_cons, List.length_nil, ha1]; done) | simp [ha1]) (by have := ha1; have := (show 0 ≤ (7 : Int) ∧ (7 : Int) < (8 : Int) from by decide); omega)) ?_
        refine WL.val (Yl.move (v := .int .u32 x545) ho544) ?_
        refine WL.val (Yl.add (m := a0.getD (7 : Int).toNat 0) (n := x545) (r := wu32 ((a0.getD (7 : Int).toNat 0) + x545)) rfl rfl rfl) ?_
        refine WL.val (Yl.buildArr (vs := mkParts 0 (List.map (Value.int .u32) [wu32 ((a0.getD (0 : Int).toNat 0) + x531), wu32 ((a0.getD (1 : Int).toNat 0) + x533), wu32 ((a0.getD (2 : Int).toNat 0) + x535), wu32 ((a0.getD (3 : Int).toNat 0) + x537), wu32 ((a0.getD (4 : Int).toNat 0) + x539), wu32 ((a0.getD (5 : Int).toNat 0) + x541), wu32 ((a0.getD (6 : Int).toNat 0) + x543), wu32 ((a0.getD (7 : Int).toNat 0) + x545)])) (cs := List.toArray ([wu32 ((a0.getD (0 : Int).toNat 0) + x531), wu32 ((a0.getD (1 : Int).toNat 0) + x533), wu32 ((a0.getD (2 : Int).toNat 0) + x535), wu32 ((a0.getD (3 : Int).toNat 0) + x537), wu32 ((a0.getD (4 : Int).toNat 0) + x539), wu32 ((a0.getD (5 : Int).toNat 0) + x541), wu32 ((a0.getD (6 : Int).toNat 0) + x543), wu32 ((a0.getD (7 : Int).toNat 0) + x545)].map (Value.int .u32))) Tryd.underlying102 sz101 zr102 (partsB ((.cons rfl (.cons rfl (.cons rfl (.cons rfl (.cons rfl (.cons rfl (.cons rfl (.cons rfl .nil)))))))))) (fill_ints .u32 _ _ _ rfl rfl)) ?_
        obtain ⟨w615, hy616, C617⟩ := ev_set (P := Tryd.prog) (ps1 := [CH.row g18 0 (x240.map (Value.int .u32))]) (ps2 := [CH.row g9 0 (a0.map (Value.int .u32))]) (t := 102) (o := 0) ((List.replicate 8 (0 : Int)).map (Value.int .u32)) [] ((List.replicate 8 (0 : Int)).map (Value.int .u32)) [] ([wu32 ((a0.getD (0 : Int).toNat 0) + x531), wu32 ((a0.getD (1 : Int).toNat 0) + x533), wu32 ((a0.getD (2 : Int).toNat 0) + x535), wu32 ((a0.getD (3 : Int).toNat 0) + x537), wu32 ((a0.getD (4 : Int).toNat 0) + x539), wu32 ((a0.getD (5 : Int).toNat 0) + x541), wu32 ((a0.getD (6 : Int).toNat 0) + x543), wu32 ((a0.getD (7 : Int).toNat 0) + x545)].map (Value.int .u32)) (.agg (List.toArray ([wu32 ((a0.getD (0 : Int).toNat 0) + x531), wu32 ((a0.getD (1 : Int).toNat 0) + x533), wu32 ((a0.getD (2 : Int).toNat 0) + x535), wu32 ((a0.getD (3 : Int).toNat 0) + x537), wu32 ((a0.getD (4 : Int).toNat 0) + x539), wu32 ((a0.getD (5 : Int).toNat 0) + x541), wu32 ((a0.getD (6 : Int).toNat 0) + x543), wu32 ((a0.getD (7 : Int).toNat 0) + x545)].map (Value.int .u32)))) C546 (by first | (simp only [List.length_append, List.length_map, List.length_cons, List.length_nil, (List.length_replicate ..)]; done) | simp [(List.length_replicate ..)]) (by first | (simp only [List.length_append, List.length_map, List.length_cons, List.length_nil, (List.length_replicate ..)]; done) | simp [(List.length_replicate ..)]) (by first | (simp only [List.length_append, List.length_map, List.length_cons, List.length_nil, (List.length_replicate ..)]; done) | simp [(List.length_replicate ..)]) rfl (one_ints _ _) (sz_of sz102 (by first | (simp only [List.length_append, List.length_map, List.length_cons, List.length_nil]; done) | simp))
        have C618 : Ctx _ _ _ _ F [CH.row g18 0 (x240.map (Value.int .u32)), CH.row g13 0 ([wu32 ((a0.getD (0 : Int).toNat 0) + x531), wu32 ((a0.getD (1 : Int).toNat 0) + x533), wu32 ((a0.getD (2 : Int).toNat 0) + x535), wu32 ((a0.getD (3 : Int).toNat 0) + x537), wu32 ((a0.getD (4 : Int).toNat 0) + x539), wu32 ((a0.getD (5 : Int).toNat 0) + x541), wu32 ((a0.getD (6 : Int).toNat 0) + x543), wu32 ((a0.getD (7 : Int).toNat 0) + x545)].map (Value.int .u32)), CH.row g9 0 (a0.map (Value.int .u32))] := (by simpa using C617)
        refine WL.skip (hy616 _ _ _ _ ho529 rfl) ?_
        refine WL.val (Yl.assign (v := .int .i64 0) rfl) ?_
        refine WL.done ?_
        refine W.ret ?_
        have C619 : Ctx _ _ _ _ F [CH.row g13 0 ([wu32 ((a0.getD (0 : Int).toNat 0) + x531), wu32 ((a0.getD (1 : Int).toNat 0) + x533), wu32 ((a0.getD (2 : Int).toNat 0) + x535), wu32 ((a0.getD (3 : Int).toNat 0) + x537), wu32 ((a0.getD (4 : Int).toNat 0) + x539), wu32 ((a0.getD (5 : Int).toNat 0) + x541), wu32 ((a0.getD (6 : Int).toNat 0) + x543), wu32 ((a0.getD (7 : Int).toNat 0) + x545)].map (Value.int .u32)), CH.row g9 0 (a0.map (Value.int .u32))] := Ctx.drop [] [CH.row g13 0 ([wu32 ((a0.getD (0 : Int).toNat 0) + x531), wu32 ((a0.getD (1 : Int).toNat 0) + x533), wu32 ((a0.getD (2 : Int).toNat 0) + x535), wu32 ((a0.getD (3 : Int).toNat 0) + x537), wu32 ((a0.getD (4 : Int).toNat 0) + x539), wu32 ((a0.getD (5 : Int).toNat 0) + x541), wu32 ((a0.getD (6 : Int).toNat 0) + x543), wu32 ((a0.getD (7 : Int).toNat 0) + x545)].map (Value.int .u32)), CH.row g9 0 (a0.map (Value.int .u32))] C618
        have C620 : Ctx _ _ _ _ F [CH.row g9 0 (a0.map (Value.int .u32))] := Ctx.drop [] [CH.row g9 0 (a0.map (Value.int .u32))] C619
        have C621 : Ctx _ _ _ _ F [] := Ctx.drop [] [] C620
        simp only [Option.some.injEq, Prod.mk.injEq] at H
        obtain ⟨e622, e623⟩ := H
        subst e622 e623
        exact post_r (resET rfl ((.cell ho529 (run_loadVA2 (g := g13) (off := 0) (o := 0) (cs := [wu32 ((a0.getD (0 : Int).toNat 0) + x531), wu32 ((a0.getD (1 : Int).toNat 0) + x533), wu32 ((a0.getD (2 : Int).toNat 0) + x535), wu32 ((a0.getD (3 : Int).toNat 0) + x537), wu32 ((a0.getD (4 : Int).toNat 0) + x539), wu32 ((a0.getD (5 : Int).toNat 0) + x541), wu32 ((a0.getD (6 : Int).toNat 0) + x543), wu32 ((a0.getD (7 : Int).toNat 0) + x545)].map (Value.int .u32)) (us := [wu32 ((a0.getD (0 : Int).toNat 0) + x531), wu32 ((a0.getD (1 : Int).toNat 0) + x533), wu32 ((a0.getD (2 : Int).toNat 0) + x535), wu32 ((a0.getD (3 : Int).toNat 0) + x537), wu32 ((a0.getD (4 : Int).toNat 0) + x539), wu32 ((a0.getD (5 : Int).toNat 0) + x541), wu32 ((a0.getD (6 : Int).toNat 0) + x543), wu32 ((a0.getD (7 : Int).toNat 0) + x545)].map (Value.int .u32)) Tryd.underlying102 rfl (sz_of sz102 (by first | (simp only [List.length_append, List.length_map, List.length_cons, List.length_nil]; done) | simp)) (Ctx.sub_of [CH.row g18 0 (x240.map (Value.int .u32))] [CH.row g9 0 (a0.map (Value.int .u32))] C618) (take_all _)) (.tmp rfl .nil))) rfl) ⟨rfl, C621, rfl⟩
  · skip
    refine W.condT (congrArg Value.bool (ndec_f hc17)) ?_
    refine W.seq ?_
    refine W.region rfl ?_
    refine WL.val (Yl.buildArr (cs := List.toArray ((List.replicate 8 (0 : Int)).map (Value.int .u32))) Tryd.underlying102 sz101 zr102 (partsB .nil) rfl) ?_
    obtain ⟨w624, hy625, C626⟩ := ev_set (P := Tryd.prog) (ps1 := []) (ps2 := [CH.row g9 0 (a0.map (Value.int .u32))]) (t := 102) (o := 0) ((List.replicate 8 (0 : Int)).map (Value.int .u32)) [] ((List.replicate 8 (0 : Int)).map (Value.int .u32)) [] ((List.replicate 8 (0 : Int)).map (Value.int .u32)) (.agg (List.toArray ((List.replicate 8 (0 : Int)).map (Value.int .u32)))) C16 (by first | (simp only [List.length_append, List.length_map, List.length_cons, List.length_nil, (List.length_replicate ..)]; done) | simp [(List.length_replicate ..)]) (by first | (simp only [List.length_append, List.length_map, List.length_cons, List.length_nil, (List.length_replicate ..)]; done) | simp [(List.length_replicate ..)]) (by first | (simp only [List.length_append, List.length_map, List.length_cons, List.length_nil, (List.length_replicate ..)]; done) | simp [(List.length_replicate ..)]) rfl (one_ints _ _) (sz_of sz102 (by first | (simp only [List.length_append, List.length_map, List.length_cons, List.length_nil, (List.length_replicate ..)]; done) | simp [(List.length_replicate ..)]))
    have C627 : Ctx _ _ _ _ F [CH.row g13 0 ((List.replicate 8 (0 : Int)).map (Value.int .u32)), CH.row g9 0 (a0.map (Value.int .u32))] := (by simpa using C626)
    refine WL.skip (hy625 _ _ _ _ rfl rfl) ?_
    refine WL.val (Yl.assign (v := .int .i64 1) rfl) ?_
    refine WL.done ?_
    refine W.ret ?_
    refine thenE_r ?_
    have C628 : Ctx _ _ _ _ F [CH.row g9 0 (a0.map (Value.int .u32))] := Ctx.drop [] [CH.row g9 0 (a0.map (Value.int .u32))] C627
    have C629 : Ctx _ _ _ _ F [] := Ctx.drop [] [] C628
    simp only [Option.some.injEq, Prod.mk.injEq] at H
    obtain ⟨e630, e631⟩ := H
    subst e630 e631
    exact post_r (resET rfl ((.cell rfl (run_loadVA2 (g := g13) (off := 0) (o := 0) (cs := (List.replicate 8 (0 : Int)).map (Value.int .u32)) (us := (List.replicate 8 (0 : Int)).map (Value.int .u32)) Tryd.underlying102 rfl (sz_of sz102 (by first | (simp only [List.length_append, List.length_map, List.length_cons, List.length_nil, (List.length_replicate ..)]; done) | simp [(List.length_replicate ..)])) (Ctx.sub_of [] [CH.row g9 0 (a0.map (Value.int .u32))] C627) (take_all _)) (.tmp rfl .nil))) rfl) ⟨rfl, C629, (List.length_replicate ..)⟩
end Go.Proofs.YthdlfclkcdnenaaDoor
