/- Functions of the program: each as a plain function of numbers and lists, and the proof that the program's own comes to it. Nothing is assumed but what each theorem says. -/
import Derived.Test.YtnlpmnegjgjiiaaGreatDoorGi
namespace Go.Proofs.YtnlpmnegjgjiiaaGreatDoor
open Go.RowKit Go.WG
set_option linter.unusedVariables false
set_option linter.unusedSimpArgs false

/-! ### jurat/sha.New: function 126 -/
def sha_New.f (k : Nat)  : Option THash := some (⟨glob1, ([] : List Int), 0⟩ : THash)
set_option maxRecDepth 100000 in
set_option maxHeartbeats 4000000 in
theorem sha_New.calls (k : Nat) (w : World) (F : CH)  (hp : Pre w F []) (hG1 : CH.le (CH.row 1 0 (glob1.map (Value.int .u32))) F) (r0_ : THash) (H : sha_New.f k  = some r0_) :
    Calls Tryz.prog 126 #[] w fun e w' => ∃ (g7 : Nat) (o8 : Nat) (A10 : Option Addr) (c11 : Nat) (n12 : Nat) (p14 : CH), e = .returned (.pointer (some ⟨g7, o8, none⟩)) ∧ Ctx w F (domL []) w' F [CH.row g7 o8 (r0_.words.map (Value.int .u32) ++ [.slice A10 n12 c11, .int .i64 r0_.n]), p14] ∧ r0_.words.length = 8 ∧ n12 = r0_.rest.length ∧ Row (Kd.int .u8) F p14 (.slice A10 n12 c11) r0_.rest := by
  have C := Ctx.start hp
  generalize hD : domL [] = D at C ⊢
  unfold sha_New.f at H
  refine Calls.ofW Tryz.func126 rfl (by simp [Tryz.ntmps126]) ?_
  refine W.seq ?_
  refine W.region rfl ?_
  refine WL.val (Yl.assign (v := .pointer none) rfl) ?_
  refine WL.done ?_
  refine W.seq ?_
  refine W.region rfl ?_
  refine WL.val (Yl.loadVA (g := 1) (off := 0) (o := 0) (cs := glob1.map (Value.int .u32)) (us := glob1.map (Value.int .u32)) rfl Tryz.underlying248 rfl (sz_of sz248 (by first | (simp only [List.length_append, List.length_map, List.length_cons, List.length_nil, glob1_len]; done) | simp [glob1_len])) (Sub.mono (C.fro) hG1) (take_all _)) ?_
  refine WL.val (Yl.build (places := [(0, 8), (8, 1), (9, 1)]) (cs := List.toArray (glob1.map (Value.int .u32) ++ [.slice none 0 0, .int .i64 0])) Tryz.underlying306 zr306 (pl306 _ Tryz.underlying306) (partsB (.cons rfl .nil)) (Fills.run (a := (List.replicate 8 (0 : Int)).map (Value.int .u32) ++ [.slice none 0 0, .int .i64 0]) (c := glob1.map (Value.int .u32) ++ [.slice none 0 0, .int .i64 0]) (.seg (off := 0) (n := 8) (us := glob1.map (Value.int .u32)) (b := glob1.map (Value.int .u32) ++ [.slice none 0 0, .int .i64 0]) (pre := []) (z := (List.replicate 8 (0 : Int)).map (Value.int .u32)) (post := [.slice none 0 0, .int .i64 0]) rfl rfl (by simp [(List.length_replicate ..), glob1_len]) (by simp) (by simp) (by simp [(List.length_replicate ..), glob1_len]) (by simp [(List.length_replicate ..), glob1_len]) .nil))) ?_
  obtain ⟨g1, w2, hy3, C4⟩ := ev_box (P := Tryz.prog) 306 (.agg (List.toArray (glob1.map (Value.int .u32) ++ [.slice none 0 0, .int .i64 0]))) (glob1.map (Value.int .u32) ++ [.slice none 0 0, .int .i64 0]) C rfl
  refine WL.val (hy3 _ _ _ rfl) ?_
  refine WL.val (Yl.assign (v := .pointer (some ⟨g1, 0, none⟩)) rfl) ?_
  refine WL.done ?_
  refine W.ret ?_
  have C5 : Ctx _ _ _ _ _ [CH.row g1 0 (glob1.map (Value.int .u32) ++ [.slice none 0 0, .int .i64 0]), CH.emp] := Ctx.pick [0, 1] C4 rfl
  have e6 := Option.some.inj H
  subst e6
  exact post_r (resE1 rfl rfl) ⟨g1, 0, none, 0, 0, CH.emp, rfl, C5, glob1_len, rfl, (Row.nil _ _)⟩
/-! ### (*jurat/sha.Hash).Write: function 127 -/
def sha_Hash_Write.l1 : Nat → THash → Option THash
  | 0, _ => none
  | k + 1, x302 => if (x302.rest.length : Int) ≥ 64 then (if 0 ≤ (64 : Int) ∧ (64 : Int) ≤ (x302.rest.length : Int) then ((sha_Block.f k x302.words (x302.rest.take (64 : Int).toNat)).bind fun ⟨r405, r406⟩ => if 0 ≤ (64 : Int) ∧ (64 : Int) ≤ (x302.rest.length : Int) ∧ (x302.rest.length : Int) ≤ (x302.rest.length : Int) then (sha_Hash_Write.l1 k (⟨r405, x302.rest.drop ((64 : Int).toNat), x302.n⟩ : THash)) else none) else none) else (some x302)
def sha_Hash_Write.f (k : Nat) (a0 : THash) (a1 : List Int) : Option THash := if (a0.rest.length + a1.length + (a0.rest.length + a1.length) / 4 + 192) * 1 ≤ 281474976710656 then ((sha_Hash_Write.l1 k (⟨a0.words, a0.rest ++ a1, wi64 (a0.n + (a1.length : Int))⟩ : THash)).bind fun x229 => some x229) else none
set_option maxRecDepth 100000 in
set_option maxHeartbeats 4000000 in
theorem sha_Hash_Write.calls (k : Nat) (w : World) (F : CH) (g1 : Nat) (o2 : Nat) (A4 : Option Addr) (c5 : Nat) (n6 : Nat) (p8 : CH) (a0 : THash) (A10 : Option Addr) (c11 : Nat) (n12 : Nat) (a1 : List Int) (hp : Pre w F [CH.row g1 o2 (a0.words.map (Value.int .u32) ++ [.slice A4 n6 c5, .int .i64 a0.n]), p8]) (ha3 : a0.words.length = 8) (hn7 : n6 = a0.rest.length) (hR9 : Row (Kd.int .u8) F p8 (.slice A4 n6 c5) a0.rest) (hn13 : n12 = a1.length) (hl14 : a1.length ≤ c11) (hm15 : c11 ≤ maxLen) (hS16 : Sl (Kd.int .u8) F F A10 a1) (hG3 : CH.le (CH.row 3 0 (glob3.map (Value.int .u32))) F) (r0_ : THash) (H : sha_Hash_Write.f k a0 a1 = some r0_) :
    Calls Tryz.prog 127 #[.pointer (some ⟨g1, o2, none⟩), .slice A10 n12 c11] w fun e w' => ∃ (A434 : Option Addr) (c435 : Nat) (n436 : Nat) (p438 : CH), e = .returned (.tuple #[]) ∧ Ctx w F (domL [CH.row g1 o2 (a0.words.map (Value.int .u32) ++ [.slice A4 n6 c5, .int .i64 a0.n]), p8]) w' F [CH.row g1 o2 (r0_.words.map (Value.int .u32) ++ [.slice A434 n436 c435, .int .i64 r0_.n]), p438] ∧ r0_.words.length = 8 ∧ n436 = r0_.rest.length ∧ Row (Kd.int .u8) F p438 (.slice A434 n436 c435) r0_.rest := by
  have C := Ctx.start hp
  generalize hD : domL [CH.row g1 o2 (a0.words.map (Value.int .u32) ++ [.slice A4 n6 c5, .int .i64 a0.n]), p8] = D at C ⊢
  unfold sha_Hash_Write.f at H
  refine Calls.ofW Tryz.func127 rfl (by simp [Tryz.ntmps127]) ?_
  refine W.seq ?_
  refine W.seq ?_
  refine W.region rfl ?_
  refine WL.val (Yl.move (v := .pointer (some ⟨g1, o2, none⟩)) rfl) ?_
  refine WL.val (Yl.ptrEqSN rfl rfl Tryz.underlying244) ?_
  refine WL.done ?_
  refine W.condF rfl ?_
  refine W.skip ?_
  refine W.seq ?_
  refine W.region rfl ?_
  refine WL.val (Yl.move (v := .pointer (some ⟨g1, o2, none⟩)) rfl) ?_
  refine WL.val (Yl.nilCheck rfl) ?_
  refine WL.val (Yl.fieldAddr (i := 2) rfl Tryz.underlying306 rfl sz3) ?_
  refine WL.val (Yl.loadV (g := g1) (off := o2) (o := 9) (cs := a0.words.map (Value.int .u32) ++ [.slice A4 n6 c5, .int .i64 a0.n]) (v := .int .i64 a0.n) rfl Tryz.underlying3 rfl (Ctx.subI 0 C rfl) (by simp [List.getElem?_append, ha3])) ?_
  refine WL.val (Yl.move (v := .slice A10 n12 c11) rfl) ?_
  refine WL.val (Yl.lenN (A := A10) (l := n12) (q := c11) (n := (a1.length : Int)) rfl Tryz.underlying30 (by omega)) ?_
  refine WL.val (Yl.add (m := a0.n) (n := (a1.length : Int)) (r := wi64 (a0.n + (a1.length : Int))) rfl rfl rfl) ?_
  refine WL.val (Yl.nilCheck rfl) ?_
  refine WL.val (Yl.fieldAddr (i := 2) rfl Tryz.underlying306 rfl sz3) ?_
  obtain ⟨w17, hy18, C19⟩ := ev_set (P := Tryz.prog) (ps1 := []) (ps2 := [p8]) (t := 3) (o := 9) (a0.words.map (Value.int .u32) ++ [.slice A4 n6 c5, .int .i64 a0.n]) (a0.words.map (Value.int .u32) ++ [.slice A4 n6 c5]) [.int .i64 a0.n] [] [.int .i64 (wi64 (a0.n + (a1.length : Int)))] (.int .i64 (wi64 (a0.n + (a1.length : Int)))) C (by first | (simp only [List.length_append, List.length_map, List.length_cons, List.length_nil, ha3]; done) | simp [ha3]) (by first | (simp only [List.length_append, List.length_map, List.length_cons, List.length_nil, ha3]; done) | simp [ha3]) (by first | (simp only [List.length_append, List.length_map, List.length_cons, List.length_nil, ha3]; done) | simp [ha3]) rfl (ones_of rfl) sz3
  have C20 : Ctx _ _ _ _ _ [CH.row g1 o2 (a0.words.map (Value.int .u32) ++ [.slice A4 n6 c5, .int .i64 (wi64 (a0.n + (a1.length : Int)))]), p8] := (by simpa using C19)
  refine WL.skip (hy18 _ _ _ _ rfl rfl) ?_
  refine WL.done ?_
  refine W.seq ?_
  refine W.region rfl ?_
  refine WL.val (Yl.move (v := .pointer (some ⟨g1, o2, none⟩)) rfl) ?_
  refine WL.val (Yl.move (v := .pointer (some ⟨g1, o2, none⟩)) rfl) ?_
  refine WL.val (Yl.nilCheck rfl) ?_
  refine WL.val (Yl.fieldAddr (i := 1) rfl Tryz.underlying306 rfl sz30) ?_
  refine WL.val (Yl.loadV (g := g1) (off := o2) (o := 8) (cs := a0.words.map (Value.int .u32) ++ [.slice A4 n6 c5, .int .i64 (wi64 (a0.n + (a1.length : Int)))]) (v := .slice A4 n6 c5) rfl Tryz.underlying30 rfl (Ctx.subI 0 C20 rfl) (by simp [List.getElem?_append, ha3])) ?_
  refine WL.val (Yl.move (v := .slice A10 n12 c11) rfl) ?_
  obtain ⟨hc21, H⟩ := guardE H
  obtain ⟨A22, c23, n24, p25, w26, hn27, hy28, C29, hR30⟩ := ev_append' (P := Tryz.prog) (cb := c11) 5 (Kd.int .u8) [CH.row g1 o2 (a0.words.map (Value.int .u32) ++ [.slice A4 n6 c5, .int .i64 (wi64 (a0.n + (a1.length : Int)))])] [] C20 hR9 hn13 hS16 C20.fro Tryz.underlying30 ti5 rfl zo5 (by decide) (by decide) (by simpa using hc21)
  have C31 : Ctx _ _ _ _ _ [CH.row g1 o2 (a0.words.map (Value.int .u32) ++ [.slice A4 n6 c5, .int .i64 (wi64 (a0.n + (a1.length : Int)))]), p25] := C29
  refine WL.val (hy28 _ _ _ _ rfl rfl) ?_
  refine WL.val (Yl.nilCheck rfl) ?_
  refine WL.val (Yl.fieldAddr (i := 1) rfl Tryz.underlying306 rfl sz30) ?_
  obtain ⟨w32, hy33, C34⟩ := ev_set (P := Tryz.prog) (ps1 := []) (ps2 := [p25]) (t := 30) (o := 8) (a0.words.map (Value.int .u32) ++ [.slice A4 n6 c5, .int .i64 (wi64 (a0.n + (a1.length : Int)))]) (a0.words.map (Value.int .u32)) [.slice A4 n6 c5] [.int .i64 (wi64 (a0.n + (a1.length : Int)))] [.slice A22 n24 c23] (.slice A22 n24 c23) C31 (by first | (simp only [List.length_append, List.length_map, List.length_cons, List.length_nil, ha3]; done) | simp [ha3]) (by first | (simp only [List.length_append, List.length_map, List.length_cons, List.length_nil, ha3]; done) | simp [ha3]) (by first | (simp only [List.length_append, List.length_map, List.length_cons, List.length_nil, ha3]; done) | simp [ha3]) rfl (ones_of rfl) sz30
  have C35 : Ctx _ _ _ _ _ [CH.row g1 o2 (a0.words.map (Value.int .u32) ++ [.slice A22 n24 c23, .int .i64 (wi64 (a0.n + (a1.length : Int)))]), p25] := (by simpa using C34)
  refine WL.skip (hy33 _ _ _ _ rfl rfl) ?_
  refine WL.done ?_
  obtain ⟨x229, hX238, H⟩ := bindE H
  refine W.cutM (fun env_ w_ => ∃ (A231 : Option Addr) (c232 : Nat) (n233 : Nat) (p235 : CH), Ctx w F D w_ F [CH.row g1 o2 (x229.words.map (Value.int .u32) ++ [.slice A231 n233 c232, .int .i64 x229.n]), p235] ∧ x229.words.length = 8 ∧ n233 = x229.rest.length ∧ Row (Kd.int .u8) F p235 (.slice A231 n233 c232) x229.rest) ?_ ?_
  · skip
    refine W.block ?_
    refine W.loop (fun g_ env_ w_ => ∃ (x302 : THash) (A304 : Option Addr) (c305 : Nat) (n306 : Nat) (p308 : CH), env_ 0 = .pointer (some ⟨g1, o2, none⟩) ∧ Ctx w F D w_ F [CH.row g1 o2 (x302.words.map (Value.int .u32) ++ [.slice A304 n306 c305, .int .i64 x302.n]), p308] ∧ x302.words.length = 8 ∧ n306 = x302.rest.length ∧ Row (Kd.int .u8) F p308 (.slice A304 n306 c305) x302.rest ∧ sha_Hash_Write.l1 g_ x302 = some x229) k ⟨(⟨a0.words, a0.rest ++ a1, wi64 (a0.n + (a1.length : Int))⟩ : THash), A22, c23, n24, p25, rfl, C35, ha3, hn27, hR30, hX238⟩ ?_
    clear hX238
    rintro g_ env_ w_ ⟨x302, A304, c305, n306, p308, ho301, C310, ha303, hn307, hR309, hX238⟩
    rcases g_ with _ | k371
    · exact absurd hX238 (by simp [sha_Hash_Write.l1])
    rw [sha_Hash_Write.l1] at hX238
    refine W.seq ?_
    refine W.seq ?_
    refine W.region rfl ?_
    refine WL.val (Yl.move (v := .pointer (some ⟨g1, o2, none⟩)) ho301) ?_
    refine WL.val (Yl.nilCheck rfl) ?_
    refine WL.val (Yl.fieldAddr (i := 1) rfl Tryz.underlying306 rfl sz30) ?_
    refine WL.val (Yl.loadV (g := g1) (off := o2) (o := 8) (cs := x302.words.map (Value.int .u32) ++ [.slice A304 n306 c305, .int .i64 x302.n]) (v := .slice A304 n306 c305) rfl Tryz.underlying30 rfl (Ctx.subI 0 C310 rfl) (by simp [List.getElem?_append, ha303])) ?_
    refine WL.val (Yl.lenN (A := A304) (l := n306) (q := c305) (n := (x302.rest.length : Int)) rfl Tryz.underlying30 (by omega)) ?_
    refine WL.val (Yl.geq (m := (x302.rest.length : Int)) (n := 64) (q := decide ((x302.rest.length : Int) ≥ 64)) rfl rfl rfl) ?_
    refine WL.done ?_
    rcases iteE hX238 with ⟨hc372, hX238⟩ | ⟨hc372, hX238⟩
    · skip
      refine W.condT (congrArg Value.bool (decide_eq_true hc372)) ?_
      refine W.skip ?_
      refine W.block ?_
      refine W.seq ?_
      refine W.regionA [([10, 16], CH.row g1 o2 (x302.words.map (Value.int .u32) ++ [.slice A304 n306 c305, .int .i64 x302.n]))] (by kernel_rfl) ?_
      have C391 := Ctx.drewN C310 1
      refine WA.takes [(0, none), (1, none), (2, none), (3, none), (4, some 0), (5, none), (6, none), (7, none), (8, some 0), (9, none)] ⟨(Ctx.subI 0 C391 rfl), trivial⟩ (by kernel_rfl) ?_
      refine WT.val rfl (fun _ hC_ => Yl.move (v := .pointer (some ⟨g1, o2, none⟩)) ho301) ?_
      refine WT.val rfl (fun _ hC_ => Yl.move (v := .pointer (some ⟨g1, o2, none⟩)) ho301) ?_
      refine WT.val rfl (fun _ hC_ => Yl.nilCheck rfl) ?_
      refine WT.val rfl (fun _ hC_ => Yl.fieldAddr (i := 0) rfl Tryz.underlying306 rfl sz248) ?_
      refine WT.val rfl (fun _ hC_ => Yl.loadVA (g := g1) (off := o2) (o := 0) (cs := x302.words.map (Value.int .u32) ++ [.slice A304 n306 c305, .int .i64 x302.n]) (us := x302.words.map (Value.int .u32)) rfl Tryz.underlying248 rfl (sz_of sz248 (by first | (simp only [List.length_append, List.length_map, List.length_cons, List.length_nil, ha303]; done) | simp [ha303])) (show Sub (CH.row g1 o2 (x302.words.map (Value.int .u32) ++ [.slice A304 n306 c305, .int .i64 x302.n])) _ from hC_) (take_mid (pre := []) (us := x302.words.map (Value.int .u32)) (post := [.slice A304 n306 c305, .int .i64 x302.n]) (by first | (simp only [List.length_append, List.length_map, List.length_cons, List.length_nil, ha303]; done) | simp [ha303]) (by first | (simp only [List.length_append, List.length_map, List.length_cons, List.length_nil, ha303]; done) | simp [ha303]))) ?_
      refine WT.val rfl (fun _ hC_ => Yl.move (v := .pointer (some ⟨g1, o2, none⟩)) ho301) ?_
      refine WT.val rfl (fun _ hC_ => Yl.nilCheck rfl) ?_
      refine WT.val rfl (fun _ hC_ => Yl.fieldAddr (i := 1) rfl Tryz.underlying306 rfl sz30) ?_
      refine WT.val rfl (fun _ hC_ => Yl.loadV (g := g1) (off := o2) (o := 8) (cs := x302.words.map (Value.int .u32) ++ [.slice A304 n306 c305, .int .i64 x302.n]) (v := .slice A304 n306 c305) rfl Tryz.underlying30 rfl (show Sub (CH.row g1 o2 (x302.words.map (Value.int .u32) ++ [.slice A304 n306 c305, .int .i64 x302.n])) _ from hC_) (by simp [List.getElem?_append, ha303])) ?_
      obtain ⟨hc396, hX238⟩ := guardE hX238
      have hl399 := (Row.len_le hR309).1
      obtain ⟨hn397, hR398⟩ := Row.take hR309 (64 : Int).toNat (by omega)
      refine WT.val rfl (fun _ hC_ => Yl.sliceHi rfl Tryz.underlying30 sz5 rfl ⟨hc396.1, by omega⟩) ?_
      refine WT.done ?_
      obtain ⟨F400, le401, lp402, C403⟩ := Ctx.fzI 1 C391 rfl
      replace C403 : Ctx _ _ _ _ _ [CH.row g1 o2 (x302.words.map (Value.int .u32) ++ [.slice A304 n306 c305, .int .i64 x302.n])] := C403
      obtain ⟨⟨r405, r406⟩, hg404, hX238⟩ := bindE hX238
      refine WA.up1 10 (by kernel_rfl) (Up.call (args := #[.agg (List.toArray (x302.words.map (Value.int .u32))), .slice A304 ((64 : Int).toNat) c305]) rfl (by kernel_rfl) rfl (Yenter.fn Tryz.func172 (by kernel_rfl) rfl (argsE (.cons rfl (.cons rfl .nil)))) (sha_Block.calls k371 _ F400 x302.words A304 c305 ((64 : Int).toNat) (x302.rest.take (64 : Int).toNat) (Ctx.pre (qs := []) (rest := [CH.row g1 o2 (x302.words.map (Value.int .u32) ++ [.slice A304 n306 c305, .int .i64 x302.n])]) C403) ha303 hn397 (Row.len_le hR398).1 (Row.len_le hR398).2.1 (Sl.mono (Row.sl hR398) le401 lp402) (CH.le_trans hG3 (CH.le_trans (CH.le_refl _) le401)) r405 r406 hg404) ?_)
      rintro e_ w_ ⟨rfl, C408, ha407⟩
      have C409 : Ctx _ _ _ _ _ [CH.row g1 o2 (x302.words.map (Value.int .u32) ++ [.slice A304 n306 c305, .int .i64 x302.n]), p308] := Ctx.callL (qs := []) (rest := [CH.row g1 o2 (x302.words.map (Value.int .u32) ++ [.slice A304 n306 c305, .int .i64 x302.n]), p308]) C391 le401 C408
      refine ⟨_, rfl, ⟨trivial, trivial⟩, ?_⟩
      refine WA.takes [(11, none), (12, none), (13, none), (14, none), (15, none)] ⟨(Ctx.subI 0 C409 rfl), trivial⟩ (by kernel_rfl) ?_
      refine WT.val rfl (fun _ hC_ => Yl.move (v := .tuple #[(.agg (List.toArray (r405.map (Value.int .u32)))), (.int .i64 r406)]) rfl) ?_
      refine WT.val rfl (fun _ hC_ => Yl.extract (v := .agg (List.toArray (r405.map (Value.int .u32)))) rfl rfl) ?_
      refine WT.val rfl (fun _ hC_ => Yl.extract (v := .int .i64 r406) rfl rfl) ?_
      refine WT.val rfl (fun _ hC_ => Yl.nilCheck rfl) ?_
      refine WT.val rfl (fun _ hC_ => Yl.fieldAddr (i := 0) rfl Tryz.underlying306 rfl sz248) ?_
      refine WT.done ?_
      obtain ⟨w410, hy411, C412⟩ := ev_set (P := Tryz.prog) (ps1 := []) (ps2 := [p308]) (t := 248) (o := 0) (x302.words.map (Value.int .u32) ++ [.slice A304 n306 c305, .int .i64 x302.n]) [] (x302.words.map (Value.int .u32)) [.slice A304 n306 c305, .int .i64 x302.n] (r405.map (Value.int .u32)) (.agg (List.toArray (r405.map (Value.int .u32)))) C409 (by first | (simp only [List.length_append, List.length_map, List.length_cons, List.length_nil, ha303, ha407]; done) | simp [ha303, ha407]) (by first | (simp only [List.length_append, List.length_map, List.length_cons, List.length_nil, ha303, ha407]; done) | simp [ha303, ha407]) (by first | (simp only [List.length_append, List.length_map, List.length_cons, List.length_nil, ha303, ha407]; done) | simp [ha303, ha407]) rfl (one_ints _ _) (sz_of sz248 (by first | (simp only [List.length_append, List.length_map, List.length_cons, List.length_nil, ha407]; done) | simp [ha407]))
      have C413 : Ctx _ _ _ _ _ [CH.row g1 o2 (r405.map (Value.int .u32) ++ [.slice A304 n306 c305, .int .i64 x302.n]), p308] := (by simpa using C412)
      refine WA.up1 16 (by kernel_rfl) (Up.skip rfl rfl (hy411 _ _ _ _ rfl rfl) ⟨trivial, trivial⟩ ?_)
      refine WA.done (by kernel_rfl) ?_
      refine W.region rfl ?_
      refine WL.val (Yl.move (v := .pointer (some ⟨g1, o2, none⟩)) ho301) ?_
      refine WL.val (Yl.move (v := .pointer (some ⟨g1, o2, none⟩)) ho301) ?_
      refine WL.val (Yl.nilCheck rfl) ?_
      refine WL.val (Yl.fieldAddr (i := 1) rfl Tryz.underlying306 rfl sz30) ?_
      refine WL.val (Yl.loadV (g := g1) (off := o2) (o := 8) (cs := r405.map (Value.int .u32) ++ [.slice A304 n306 c305, .int .i64 x302.n]) (v := .slice A304 n306 c305) rfl Tryz.underlying30 rfl (Ctx.subI 0 C413 rfl) (by simp [List.getElem?_append, ha407])) ?_
      obtain ⟨hc414, hX238⟩ := guardE hX238
      obtain ⟨A415, c416, n417, p424, hv418, hn419, hR425, lp426⟩ := Row.tail hR309 ((64 : Int).toNat) (by omega)
      have hl423 : x302.rest.length ≤ c305 ∧ c305 ≤ maxLen := ⟨(Row.len_le hR309).1, (Row.len_le hR309).2.1⟩
      rw [hn307] at hv418
      refine WL.val (Yl.slice ((64 : Int).toNat) x302.rest.length c305 rfl Tryz.underlying30 sz5 rfl (hn307).symm (OB.mk rfl (by omega)) (by simp) (by omega) (by omega) (by omega) hv418) ?_
      refine WL.val (Yl.nilCheck rfl) ?_
      refine WL.val (Yl.fieldAddr (i := 1) rfl Tryz.underlying306 rfl sz30) ?_
      have C427 : Ctx _ _ _ _ _ [CH.row g1 o2 (r405.map (Value.int .u32) ++ [.slice A304 n306 c305, .int .i64 x302.n]), p424] := Ctx.shrink [CH.row g1 o2 (r405.map (Value.int .u32) ++ [.slice A304 n306 c305, .int .i64 x302.n])] [] lp426 C413
      obtain ⟨w428, hy429, C430⟩ := ev_set (P := Tryz.prog) (ps1 := []) (ps2 := [p424]) (t := 30) (o := 8) (r405.map (Value.int .u32) ++ [.slice A304 n306 c305, .int .i64 x302.n]) (r405.map (Value.int .u32)) [.slice A304 n306 c305] [.int .i64 x302.n] [.slice A415 n417 c416] (.slice A415 n417 c416) C427 (by first | (simp only [List.length_append, List.length_map, List.length_cons, List.length_nil, ha407]; done) | simp [ha407]) (by first | (simp only [List.length_append, List.length_map, List.length_cons, List.length_nil, ha407]; done) | simp [ha407]) (by first | (simp only [List.length_append, List.length_map, List.length_cons, List.length_nil, ha407]; done) | simp [ha407]) rfl (ones_of rfl) sz30
      have C431 : Ctx _ _ _ _ _ [CH.row g1 o2 (r405.map (Value.int .u32) ++ [.slice A415 n417 c416, .int .i64 x302.n]), p424] := (by simpa using C430)
      refine WL.skip (hy429 _ _ _ _ rfl rfl) ?_
      refine WL.done ?_
      refine inB_n ?_
      exact thenE_n ⟨k371, Nat.lt_succ_self _, (⟨r405, x302.rest.drop ((64 : Int).toNat), x302.n⟩ : THash), A415, c416, n417, p424, ho301, C431, ha407, hn419, hR425, hX238⟩
    · skip
      refine W.condF (congrArg Value.bool (decide_eq_false hc372)) ?_
      refine W.exit ?_
      refine thenE_x ?_
      refine thenE_x ?_
      refine inB_here ?_
      cases hX238
      refine thenE_n ?_
      exact ⟨A304, c305, n306, p308, C310, ha303, hn307, hR309⟩
  · skip
    rintro env_ w_ ⟨A231, c232, n233, p235, C237, ha230, hn234, hR236⟩
    have e432 := Option.some.inj H
    subst e432
    exact post_n (resE0 rfl ) ⟨A231, c232, n233, p235, rfl, C237, ha230, hn234, hR236⟩
/-! ### (*jurat/sha.Hash).Clone: function 173 -/
def sha_Hash_Clone.f (k : Nat) (a0 : THash) : Option THash := if (a0.rest.length + a0.rest.length / 4 + 192) * 1 ≤ 281474976710656 then (some (⟨a0.words, a0.rest, a0.n⟩ : THash)) else none
set_option maxRecDepth 100000 in
set_option maxHeartbeats 4000000 in
theorem sha_Hash_Clone.calls (k : Nat) (w : World) (F : CH) (g1 : Nat) (o2 : Nat) (A4 : Option Addr) (c5 : Nat) (n6 : Nat) (a0 : THash) (hp : Pre w F []) (ha3 : a0.words.length = 8) (hn7 : n6 = a0.rest.length) (hl8 : a0.rest.length ≤ c5) (hm9 : c5 ≤ maxLen) (hS10 : Sl (Kd.int .u8) F F A4 a0.rest) (hg11 : CH.le (CH.row g1 o2 (a0.words.map (Value.int .u32) ++ [.slice A4 n6 c5, .int .i64 a0.n])) F) (r0_ : THash) (H : sha_Hash_Clone.f k a0 = some r0_) :
    Calls Tryz.prog 173 #[.pointer (some ⟨g1, o2, none⟩)] w fun e w' => ∃ (g62 : Nat) (o63 : Nat) (A65 : Option Addr) (c66 : Nat) (n67 : Nat) (p69 : CH), e = .returned (.pointer (some ⟨g62, o63, none⟩)) ∧ Ctx w F (domL []) w' F [CH.row g62 o63 (r0_.words.map (Value.int .u32) ++ [.slice A65 n67 c66, .int .i64 r0_.n]), p69] ∧ r0_.words.length = 8 ∧ n67 = r0_.rest.length ∧ Row (Kd.int .u8) F p69 (.slice A65 n67 c66) r0_.rest := by
  have C := Ctx.start hp
  generalize hD : domL [] = D at C ⊢
  unfold sha_Hash_Clone.f at H
  refine Calls.ofW Tryz.func173 rfl (by simp [Tryz.ntmps173]) ?_
  refine W.seq ?_
  refine W.region rfl ?_
  refine WL.val (Yl.assign (v := .pointer none) rfl) ?_
  refine WL.done ?_
  refine W.seq ?_
  refine W.seq ?_
  refine W.region rfl ?_
  refine WL.val (Yl.move (v := .pointer (some ⟨g1, o2, none⟩)) rfl) ?_
  refine WL.val (Yl.ptrEqSN rfl rfl Tryz.underlying244) ?_
  refine WL.done ?_
  refine W.condF rfl ?_
  refine W.skip ?_
  refine W.seq ?_
  refine W.regionA [([15], F)] (by kernel_rfl) ?_
  have C36 := Ctx.drewN C 1
  refine WA.takes [(0, none), (1, none), (2, none), (3, some 0), (5, none), (6, none), (7, none), (8, some 0), (10, none), (11, none), (12, none), (13, some 0)] ⟨(C36.fro), trivial⟩ (by kernel_rfl) ?_
  refine WT.val rfl (fun _ hC_ => Yl.move (v := .pointer (some ⟨g1, o2, none⟩)) rfl) ?_
  refine WT.val rfl (fun _ hC_ => Yl.nilCheck rfl) ?_
  refine WT.val rfl (fun _ hC_ => Yl.fieldAddr (i := 0) rfl Tryz.underlying306 rfl sz248) ?_
  refine WT.val rfl (fun _ hC_ => Yl.loadVA (g := g1) (off := o2) (o := 0) (cs := a0.words.map (Value.int .u32) ++ [.slice A4 n6 c5, .int .i64 a0.n]) (us := a0.words.map (Value.int .u32)) rfl Tryz.underlying248 rfl (sz_of sz248 (by first | (simp only [List.length_append, List.length_map, List.length_cons, List.length_nil, ha3]; done) | simp [ha3])) (Sub.mono (Sub.mono (show Sub F _ from hC_) (CH.le_refl _)) hg11) (take_mid (pre := []) (us := a0.words.map (Value.int .u32)) (post := [.slice A4 n6 c5, .int .i64 a0.n]) (by first | (simp only [List.length_append, List.length_map, List.length_cons, List.length_nil, ha3]; done) | simp [ha3]) (by first | (simp only [List.length_append, List.length_map, List.length_cons, List.length_nil, ha3]; done) | simp [ha3]))) ?_
  refine WT.val rfl (fun _ hC_ => Yl.move (v := .pointer (some ⟨g1, o2, none⟩)) rfl) ?_
  refine WT.val rfl (fun _ hC_ => Yl.nilCheck rfl) ?_
  refine WT.val rfl (fun _ hC_ => Yl.fieldAddr (i := 1) rfl Tryz.underlying306 rfl sz30) ?_
  refine WT.val rfl (fun _ hC_ => Yl.loadV (g := g1) (off := o2) (o := 8) (cs := a0.words.map (Value.int .u32) ++ [.slice A4 n6 c5, .int .i64 a0.n]) (v := .slice A4 n6 c5) rfl Tryz.underlying30 rfl (Sub.mono (Sub.mono (show Sub F _ from hC_) (CH.le_refl _)) hg11) (by simp [List.getElem?_append, ha3])) ?_
  refine WT.val rfl (fun _ hC_ => Yl.move (v := .pointer (some ⟨g1, o2, none⟩)) rfl) ?_
  refine WT.val rfl (fun _ hC_ => Yl.nilCheck rfl) ?_
  refine WT.val rfl (fun _ hC_ => Yl.fieldAddr (i := 2) rfl Tryz.underlying306 rfl sz3) ?_
  refine WT.val rfl (fun _ hC_ => Yl.loadV (g := g1) (off := o2) (o := 9) (cs := a0.words.map (Value.int .u32) ++ [.slice A4 n6 c5, .int .i64 a0.n]) (v := .int .i64 a0.n) rfl Tryz.underlying3 rfl (Sub.mono (Sub.mono (show Sub F _ from hC_) (CH.le_refl _)) hg11) (by simp [List.getElem?_append, ha3])) ?_
  refine WT.done ?_
  obtain ⟨A37, c38, n39, p40, w41, hn42, hy43, C44, hR45⟩ := ev_lit0 (P := Tryz.prog) 5 (Kd.int .u8) C36 Tryz.underlying30 ti5
  refine WA.up1 4 (by kernel_rfl) (Up.val rfl rfl rfl (hy43 _ _) ⟨(C44.fro), trivial⟩ ?_)
  obtain ⟨hc46, H⟩ := guardE H
  obtain ⟨A47, c48, n49, p50, w51, hn52, hy53, C54, hR55⟩ := ev_append' (P := Tryz.prog) (cb := c5) 5 (Kd.int .u8) [] [] C44 hR45 hn7 hS10 C44.fro Tryz.underlying30 ti5 rfl zo5 (by decide) (by decide) (by simpa using hc46)
  have C56 : Ctx _ _ _ _ _ [p50] := C54
  rw [List.nil_append] at hn52 hR55
  refine WA.up1 9 (by kernel_rfl) (Up.val rfl rfl rfl (hy53 _ _ _ _ rfl rfl) ⟨(C56.fro), trivial⟩ ?_)
  refine WA.take none [] 14 rfl (by kernel_rfl) (by kernel_rfl) rfl trivial ⟨(C56.fro), trivial⟩ (fun _ hC_ => Yl.build (places := [(0, 8), (8, 1), (9, 1)]) (cs := List.toArray (a0.words.map (Value.int .u32) ++ [.slice A47 n49 c48, .int .i64 a0.n])) Tryz.underlying306 zr306 (pl306 _ Tryz.underlying306) (partsB (.cons rfl (.cons rfl (.cons rfl .nil)))) (Fills.run (a := (List.replicate 8 (0 : Int)).map (Value.int .u32) ++ [.slice none 0 0, .int .i64 0]) (c := a0.words.map (Value.int .u32) ++ [.slice A47 n49 c48, .int .i64 a0.n]) (.seg (off := 0) (n := 8) (us := a0.words.map (Value.int .u32)) (b := a0.words.map (Value.int .u32) ++ [.slice none 0 0, .int .i64 0]) (pre := []) (z := (List.replicate 8 (0 : Int)).map (Value.int .u32)) (post := [.slice none 0 0, .int .i64 0]) rfl rfl (by simp [(List.length_replicate ..), ha3]) (by simp) (by simp) (by simp [(List.length_replicate ..), ha3]) (by simp [(List.length_replicate ..), ha3]) (.seg (off := 8) (n := 1) (us := [.slice A47 n49 c48]) (b := a0.words.map (Value.int .u32) ++ [.slice A47 n49 c48, .int .i64 0]) (pre := a0.words.map (Value.int .u32)) (z := [.slice none 0 0]) (post := [.int .i64 0]) rfl rfl (by simp [ha3]) (by simp) (by simp) (by simp [ha3]) (by simp [ha3]) (.seg (off := 9) (n := 1) (us := [.int .i64 a0.n]) (b := a0.words.map (Value.int .u32) ++ [.slice A47 n49 c48, .int .i64 a0.n]) (pre := a0.words.map (Value.int .u32) ++ [.slice A47 n49 c48]) (z := [.int .i64 0]) (post := []) rfl rfl (by simp [ha3]) (by simp) (by simp) (by simp [ha3]) (by simp [ha3]) .nil))))) ?_
  obtain ⟨g57, w58, hy59, C60⟩ := ev_box (P := Tryz.prog) 306 (.agg (List.toArray (a0.words.map (Value.int .u32) ++ [.slice A47 n49 c48, .int .i64 a0.n]))) (a0.words.map (Value.int .u32) ++ [.slice A47 n49 c48, .int .i64 a0.n]) C56 rfl
  refine WA.up1 15 (by kernel_rfl) (Up.val rfl rfl rfl (hy59 _ _ _ rfl) ⟨trivial, trivial⟩ ?_)
  refine WA.take none [] 16 rfl (by kernel_rfl) (by kernel_rfl) rfl trivial ⟨trivial, trivial⟩ (fun _ hC_ => Yl.assign (v := .pointer (some ⟨g57, 0, none⟩)) rfl) ?_
  refine WA.done (by kernel_rfl) ?_
  refine W.ret ?_
  have e61 := Option.some.inj H
  subst e61
  exact post_r (resE1 rfl rfl) ⟨g57, 0, A47, c48, n49, p50, rfl, C60, ha3, hn52, hR55⟩
/-! ### (*jurat/sha.Hash).Sum: function 128 -/
def sha_Hash_Sum.l1 : Nat → THash → Int → List Int → Option (List Int)
  | 0, _, _, _ => none
  | k + 1, r50, x129, x130 => if x129 < 32 then (if 0 ≤ (shrOp .i64 x129 2) ∧ (shrOp .i64 x129 2) < (8 : Int) then (if 0 ≤ (wi64 (24 - (shlOp .i64 (bitsOp .and .i64 x129 3) 3))) then (if 0 ≤ x129 ∧ x129 < (32 : Int) then (sha_Hash_Sum.l1 k r50 (wi64 (x129 + 1)) (x130.set x129.toNat (wu8 (shrOp .u32 (r50.words.getD (shrOp .i64 x129 2).toNat 0) (wi64 (24 - (shlOp .i64 (bitsOp .and .i64 x129 3) 3))))))) else none) else none) else none) else (some x130)
def sha_Hash_Sum.f (k : Nat) (a0 : THash) : Option (List Int) := (sha_Hash_Clone.f k a0).bind fun r21 => (sha_Pad.f k a0.n).bind fun ⟨r34, r35⟩ => (sha_Hash_Write.f k r21 r34).bind fun r50 => (sha_Hash_Sum.l1 k r50 0 (List.replicate 32 (0 : Int))).bind fun x106 => some x106
set_option maxRecDepth 100000 in
set_option maxHeartbeats 4000000 in
theorem sha_Hash_Sum.calls (k : Nat) (w : World) (F : CH) (g1 : Nat) (o2 : Nat) (A4 : Option Addr) (c5 : Nat) (n6 : Nat) (a0 : THash) (hp : Pre w F []) (ha3 : a0.words.length = 8) (hn7 : n6 = a0.rest.length) (hl8 : a0.rest.length ≤ c5) (hm9 : c5 ≤ maxLen) (hS10 : Sl (Kd.int .u8) F F A4 a0.rest) (hg11 : CH.le (CH.row g1 o2 (a0.words.map (Value.int .u32) ++ [.slice A4 n6 c5, .int .i64 a0.n])) F) (hG3 : CH.le (CH.row 3 0 (glob3.map (Value.int .u32))) F) (r0_ : List Int) (H : sha_Hash_Sum.f k a0 = some r0_) :
    Calls Tryz.prog 128 #[.pointer (some ⟨g1, o2, none⟩)] w fun e w' => e = .returned (.agg (List.toArray (r0_.map (Value.int .u8)))) ∧ Ctx w F (domL []) w' F [] ∧ r0_.length = 32 := by
  have C := Ctx.start hp
  generalize hD : domL [] = D at C ⊢
  unfold sha_Hash_Sum.f at H
  refine Calls.ofW Tryz.func128 rfl (by simp [Tryz.ntmps128]) ?_
  refine W.seq ?_
  refine W.region rfl ?_
  obtain ⟨g12, w13, hy14, C15⟩ := ev_alloc (P := Tryz.prog) (e := 23) ((List.replicate 32 (0 : Int)).map (Value.int .u8)) C zr23 rfl
  refine WL.val (hy14 _ _) ?_
  refine WL.done ?_
  refine W.seq ?_
  refine W.region rfl ?_
  obtain ⟨g16, w17, hy18, C19⟩ := ev_alloc (P := Tryz.prog) (e := 23) ((List.replicate 32 (0 : Int)).map (Value.int .u8)) C15 zr23 rfl
  refine WL.val (hy18 _ _) ?_
  refine WL.done ?_
  refine W.seq ?_
  refine W.seq ?_
  refine W.region rfl ?_
  refine WL.val (Yl.move (v := .pointer (some ⟨g1, o2, none⟩)) rfl) ?_
  refine WL.val (Yl.ptrEqSN rfl rfl Tryz.underlying244) ?_
  refine WL.done ?_
  refine W.condF rfl ?_
  refine W.skip ?_
  refine W.seq ?_
  refine W.region rfl ?_
  refine WL.val (Yl.move (v := .pointer (some ⟨g1, o2, none⟩)) rfl) ?_
  obtain ⟨r21, hg20, H⟩ := bindE H
  refine WL.call (args := #[.pointer (some ⟨g1, o2, none⟩)]) (Yenter.fn Tryz.func173 (by kernel_rfl) rfl (argsE (.cons rfl .nil))) (sha_Hash_Clone.calls k _ F g1 o2 A4 c5 n6 a0 (Ctx.pre (qs := []) (rest := [CH.row g16 0 ((List.replicate 32 (0 : Int)).map (Value.int .u8)), CH.row g12 0 ((List.replicate 32 (0 : Int)).map (Value.int .u8))]) C19) ha3 hn7 hl8 hm9 hS10 (CH.le_trans hg11 (CH.le_trans (CH.le_refl _) (CH.le_refl _))) r21 hg20) ?_
  rintro e_ w_ ⟨g22, o23, A25, c26, n27, p29, rfl, C31, ha24, hn28, hR30⟩
  refine ⟨_, rfl, ?_⟩
  have C32 : Ctx _ _ _ _ _ [CH.row g22 o23 (r21.words.map (Value.int .u32) ++ [.slice A25 n27 c26, .int .i64 r21.n]), p29, CH.row g16 0 ((List.replicate 32 (0 : Int)).map (Value.int .u8)), CH.row g12 0 ((List.replicate 32 (0 : Int)).map (Value.int .u8))] := Ctx.call (qs := []) (rest := [CH.row g16 0 ((List.replicate 32 (0 : Int)).map (Value.int .u8)), CH.row g12 0 ((List.replicate 32 (0 : Int)).map (Value.int .u8))]) C19 C31
  refine WL.val (Yl.assign (v := .pointer (some ⟨g22, o23, none⟩)) rfl) ?_
  refine WL.done ?_
  refine W.seq ?_
  refine W.region rfl ?_
  refine WL.val (Yl.move (v := .pointer (some ⟨g1, o2, none⟩)) rfl) ?_
  refine WL.val (Yl.nilCheck rfl) ?_
  refine WL.val (Yl.fieldAddr (i := 2) rfl Tryz.underlying306 rfl sz3) ?_
  refine WL.val (Yl.loadV (g := g1) (off := o2) (o := 9) (cs := a0.words.map (Value.int .u32) ++ [.slice A4 n6 c5, .int .i64 a0.n]) (v := .int .i64 a0.n) rfl Tryz.underlying3 rfl (Sub.mono (C32.fro) hg11) (by simp [List.getElem?_append, ha3])) ?_
  obtain ⟨⟨r34, r35⟩, hg33, H⟩ := bindE H
  refine WL.call (args := #[.int .i64 a0.n]) (Yenter.fn Tryz.func174 (by kernel_rfl) rfl (argsE (.cons rfl .nil))) (sha_Pad.calls k _ F a0.n (Ctx.pre (qs := []) (rest := [CH.row g22 o23 (r21.words.map (Value.int .u32) ++ [.slice A25 n27 c26, .int .i64 r21.n]), p29, CH.row g16 0 ((List.replicate 32 (0 : Int)).map (Value.int .u8)), CH.row g12 0 ((List.replicate 32 (0 : Int)).map (Value.int .u8))]) C32)  r34 r35 hg33) ?_
  rintro e_ w_ ⟨A36, c37, n38, p40, rfl, C42, hn39, hR41⟩
  refine ⟨_, rfl, ?_⟩
  have C43 : Ctx _ _ _ _ _ [p40, CH.row g22 o23 (r21.words.map (Value.int .u32) ++ [.slice A25 n27 c26, .int .i64 r21.n]), p29, CH.row g16 0 ((List.replicate 32 (0 : Int)).map (Value.int .u8)), CH.row g12 0 ((List.replicate 32 (0 : Int)).map (Value.int .u8))] := Ctx.call (qs := []) (rest := [CH.row g22 o23 (r21.words.map (Value.int .u32) ++ [.slice A25 n27 c26, .int .i64 r21.n]), p29, CH.row g16 0 ((List.replicate 32 (0 : Int)).map (Value.int .u8)), CH.row g12 0 ((List.replicate 32 (0 : Int)).map (Value.int .u8))]) C32 C42
  refine WL.val (Yl.move (v := .tuple #[(.slice A36 n38 c37), (.int .i64 r35)]) rfl) ?_
  refine WL.val (Yl.extract (v := .slice A36 n38 c37) rfl rfl) ?_
  refine WL.val (Yl.extract (v := .int .i64 r35) rfl rfl) ?_
  refine WL.val (Yl.assign (v := .slice A36 n38 c37) rfl) ?_
  refine WL.val (Yl.assign (v := .int .i64 r35) rfl) ?_
  refine WL.done ?_
  refine W.seq ?_
  refine W.region rfl ?_
  refine WL.val (Yl.move (v := .pointer (some ⟨g22, o23, none⟩)) rfl) ?_
  refine WL.val (Yl.move (v := .slice A36 n38 c37) rfl) ?_
  have C44 : Ctx _ _ _ _ _ [CH.row g22 o23 (r21.words.map (Value.int .u32) ++ [.slice A25 n27 c26, .int .i64 r21.n]), p29, p40, CH.row g16 0 ((List.replicate 32 (0 : Int)).map (Value.int .u8)), CH.row g12 0 ((List.replicate 32 (0 : Int)).map (Value.int .u8))] := Ctx.pick [1, 2, 0, 3, 4] C43 rfl
  obtain ⟨F45, le46, lp47, C48⟩ := Ctx.fzI 2 C44 rfl
  replace C48 : Ctx _ _ _ _ _ [CH.row g22 o23 (r21.words.map (Value.int .u32) ++ [.slice A25 n27 c26, .int .i64 r21.n]), p29, CH.row g16 0 ((List.replicate 32 (0 : Int)).map (Value.int .u8)), CH.row g12 0 ((List.replicate 32 (0 : Int)).map (Value.int .u8))] := C48
  obtain ⟨r50, hg49, H⟩ := bindE H
  refine WL.call (args := #[.pointer (some ⟨g22, o23, none⟩), .slice A36 n38 c37]) (Yenter.fn Tryz.func127 (by kernel_rfl) rfl (argsE (.cons rfl (.cons rfl .nil)))) (sha_Hash_Write.calls k _ F45 g22 o23 A25 c26 n27 p29 r21 A36 c37 n38 r34 (Ctx.pre (qs := [CH.row g22 o23 (r21.words.map (Value.int .u32) ++ [.slice A25 n27 c26, .int .i64 r21.n]), p29]) (rest := [CH.row g16 0 ((List.replicate 32 (0 : Int)).map (Value.int .u8)), CH.row g12 0 ((List.replicate 32 (0 : Int)).map (Value.int .u8))]) C48) ha24 hn28 hR30 hn39 (Row.len_le hR41).1 (Row.len_le hR41).2.1 (Sl.mono (Row.sl hR41) le46 lp47) (CH.le_trans hG3 (CH.le_trans (CH.le_refl _) le46)) r50 hg49) ?_
  rintro e_ w_ ⟨A52, c53, n54, p56, rfl, C58, ha51, hn55, hR57⟩
  refine ⟨_, rfl, ?_⟩
  have hR59 : Row (Kd.int .u8) F p56 (.slice A52 n54 c53) r50.rest := hR57
  have C60 : Ctx _ _ _ _ _ [CH.row g22 o23 (r50.words.map (Value.int .u32) ++ [.slice A52 n54 c53, .int .i64 r50.n]), p56, p40, CH.row g16 0 ((List.replicate 32 (0 : Int)).map (Value.int .u8)), CH.row g12 0 ((List.replicate 32 (0 : Int)).map (Value.int .u8))] := Ctx.callL (qs := [CH.row g22 o23 (r21.words.map (Value.int .u32) ++ [.slice A25 n27 c26, .int .i64 r21.n]), p29]) (rest := [p40, CH.row g16 0 ((List.replicate 32 (0 : Int)).map (Value.int .u8)), CH.row g12 0 ((List.replicate 32 (0 : Int)).map (Value.int .u8))]) C44 le46 C58
  refine WL.done ?_
  refine W.seq ?_
  refine W.seq ?_
  refine W.region rfl ?_
  refine WL.val (Yl.move (v := .int .i64 0) rfl) ?_
  refine WL.done ?_
  obtain ⟨x106, hX109, H⟩ := bindE H
  refine W.cutM (fun env_ w_ => env_ 2 = .pointer (some ⟨g12, 0, none⟩) ∧ env_ 3 = .pointer (some ⟨g16, 0, none⟩) ∧ Ctx w F D w_ F [CH.row g16 0 (x106.map (Value.int .u8)), CH.row g22 o23 (r50.words.map (Value.int .u32) ++ [.slice A52 n54 c53, .int .i64 r50.n]), p56, p40, CH.row g12 0 ((List.replicate 32 (0 : Int)).map (Value.int .u8))] ∧ x106.length = 32) ?_ ?_
  · skip
    refine W.block ?_
    have C143 : Ctx _ _ _ _ _ [CH.row g16 0 ((List.replicate 32 (0 : Int)).map (Value.int .u8)), CH.row g22 o23 (r50.words.map (Value.int .u32) ++ [.slice A52 n54 c53, .int .i64 r50.n]), p56, p40, CH.row g12 0 ((List.replicate 32 (0 : Int)).map (Value.int .u8))] := Ctx.pick [3, 0, 1, 2, 4] C60 rfl
    refine W.loop (fun g_ env_ w_ => ∃ (x129 : Int) (x130 : List Int), env_ 2 = .pointer (some ⟨g12, 0, none⟩) ∧ env_ 3 = .pointer (some ⟨g16, 0, none⟩) ∧ env_ 4 = .pointer (some ⟨g22, o23, none⟩) ∧ env_ 24 = .int .i64 x129 ∧ Ctx w F D w_ F [CH.row g16 0 (x130.map (Value.int .u8)), CH.row g22 o23 (r50.words.map (Value.int .u32) ++ [.slice A52 n54 c53, .int .i64 r50.n]), p56, p40, CH.row g12 0 ((List.replicate 32 (0 : Int)).map (Value.int .u8))] ∧ x130.length = 32 ∧ sha_Hash_Sum.l1 g_ r50 x129 x130 = some x106) k ⟨0, (List.replicate 32 (0 : Int)), rfl, rfl, rfl, rfl, C143, (List.length_replicate ..), hX109⟩ ?_
    clear hX109
    rintro g_ env_ w_ ⟨x129, x130, ho125, ho126, ho127, ho128, C132, ha131, hX109⟩
    rcases g_ with _ | k142
    · exact absurd hX109 (by simp [sha_Hash_Sum.l1])
    rw [sha_Hash_Sum.l1] at hX109
    refine W.seq ?_
    refine W.region rfl ?_
    refine WL.val (Yl.lss (m := x129) (n := 32) (q := decide (x129 < 32)) ho128 rfl rfl) ?_
    refine WL.done ?_
    refine W.seq ?_
    rcases iteE hX109 with ⟨hc144, hX109⟩ | ⟨hc144, hX109⟩
    · skip
      refine W.condT (congrArg Value.bool (decide_eq_true hc144)) ?_
      refine W.skip ?_
      refine W.seq ?_
      refine W.block ?_
      refine W.seq ?_
      refine W.region rfl ?_
      refine WL.val (Yl.move (v := .int .i64 x129) ho128) ?_
      refine WL.val (Yl.assign (v := .int .i64 x129) rfl) ?_
      refine WL.done ?_
      refine W.region rfl ?_
      refine WL.val (Yl.move (v := .int .i64 x129) rfl) ?_
      refine WL.val (Yl.move (v := .pointer (some ⟨g22, o23, none⟩)) ho127) ?_
      refine WL.val (Yl.move (v := .int .i64 x129) rfl) ?_
      refine WL.val (Yl.shr (m := x129) (n := 2) (r := shrOp .i64 x129 2) rfl rfl (by decide) rfl) ?_
      refine WL.val (Yl.nilCheck rfl) ?_
      refine WL.val (Yl.fieldAddr (i := 0) rfl Tryz.underlying306 rfl sz248) ?_
      obtain ⟨hc145, hX109⟩ := guardE hX109
      refine WL.val (Yl.arrAddr (i := shrOp .i64 x129 2) rfl rfl Tryz.underlying248 sz247 hc145) ?_
      refine WL.val (Yl.loadAr (k' := .u32) (g := g22) (off := o23) (o := 0) (cs := r50.words.map (Value.int .u32) ++ [.slice A52 n54 c53, .int .i64 r50.n]) (pre := []) (post := [.slice A52 n54 c53, .int .i64 r50.n]) (a := r50.words) (i := shrOp .i64 x129 2) rfl Tryz.underlying247 rfl (Ctx.subI 1 C132 rfl) (by first | (simp only [List.length_append, List.length_map, List.length_cons, List.length_nil, ha51]; done) | simp [ha51]) (by first | (simp only [List.length_append, List.length_map, List.length_cons, List.length_nil, ha51]; done) | simp [ha51]) (by have := ha51; have := hc145; omega)) ?_
      refine WL.val (Yl.move (v := .int .i64 x129) rfl) ?_
      refine WL.val (Yl.and (m := x129) (n := 3) (r := bitsOp .and .i64 x129 3) rfl rfl rfl) ?_
      refine WL.val (Yl.shl (m := bitsOp .and .i64 x129 3) (n := 3) (r := shlOp .i64 (bitsOp .and .i64 x129 3) 3) rfl rfl (by decide) rfl) ?_
      refine WL.val (Yl.sub (m := 24) (n := shlOp .i64 (bitsOp .and .i64 x129 3) 3) (r := wi64 (24 - (shlOp .i64 (bitsOp .and .i64 x129 3) 3))) rfl rfl rfl) ?_
      obtain ⟨hc146, hX109⟩ := guardE hX109
      refine WL.val (Yl.shr (m := r50.words.getD (shrOp .i64 x129 2).toNat 0) (n := wi64 (24 - (shlOp .i64 (bitsOp .and .i64 x129 3) 3))) (r := shrOp .u32 (r50.words.getD (shrOp .i64 x129 2).toNat 0) (wi64 (24 - (shlOp .i64 (bitsOp .and .i64 x129 3) 3)))) rfl rfl hc146 rfl) ?_
      refine WL.val (Yl.conv (m := shrOp .u32 (r50.words.getD (shrOp .i64 x129 2).toNat 0) (wi64 (24 - (shlOp .i64 (bitsOp .and .i64 x129 3) 3)))) (r := wu8 (shrOp .u32 (r50.words.getD (shrOp .i64 x129 2).toNat 0) (wi64 (24 - (shlOp .i64 (bitsOp .and .i64 x129 3) 3))))) rfl Tryz.underlying247 Tryz.underlying5 rfl) ?_
      obtain ⟨hc147, hX109⟩ := guardE hX109
      refine WL.val (Yl.arrAddr (i := x129) ho126 rfl Tryz.underlying23 sz5 hc147) ?_
      have ha148 : (x130.set x129.toNat (wu8 (shrOp .u32 (r50.words.getD (shrOp .i64 x129 2).toNat 0) (wi64 (24 - (shlOp .i64 (bitsOp .and .i64 x129 3) 3)))))).length = 32 := by rw [List.length_set]; exact ha131
      obtain ⟨w149, hy150, C151⟩ := ev_setAr' (P := Tryz.prog) (ps1 := []) (ps2 := [CH.row g22 o23 (r50.words.map (Value.int .u32) ++ [.slice A52 n54 c53, .int .i64 r50.n]), p56, p40, CH.row g12 0 ((List.replicate 32 (0 : Int)).map (Value.int .u8))]) (t := 5) (o := 0) (x130.map (Value.int .u8)) ((x130.set x129.toNat (wu8 (shrOp .u32 (r50.words.getD (shrOp .i64 x129 2).toNat 0) (wi64 (24 - (shlOp .i64 (bitsOp .and .i64 x129 3) 3)))))).map (Value.int .u8)) [] [] x130 .u8 x129 (wu8 (shrOp .u32 (r50.words.getD (shrOp .i64 x129 2).toNat 0) (wi64 (24 - (shlOp .i64 (bitsOp .and .i64 x129 3) 3))))) C132 (by first | (simp only [List.length_append, List.length_map, List.length_cons, List.length_nil, ha131]; done) | simp [ha131]) (by first | (simp only [List.length_append, List.length_map, List.length_cons, List.length_nil, ha131]; done) | simp [ha131]) (by first | (simp only [List.length_append, List.length_map, List.length_cons, List.length_nil, ha131]; done) | simp [ha131]) (by have := ha131; have := hc147; omega) sz5
      have C152 : Ctx _ _ _ _ _ [CH.row g16 0 ((x130.set x129.toNat (wu8 (shrOp .u32 (r50.words.getD (shrOp .i64 x129 2).toNat 0) (wi64 (24 - (shlOp .i64 (bitsOp .and .i64 x129 3) 3)))))).map (Value.int .u8)), CH.row g22 o23 (r50.words.map (Value.int .u32) ++ [.slice A52 n54 c53, .int .i64 r50.n]), p56, p40, CH.row g12 0 ((List.replicate 32 (0 : Int)).map (Value.int .u8))] := C151
      refine WL.skip (hy150 _ _ _ _ rfl rfl) ?_
      refine WL.done ?_
      refine inB_n ?_
      refine W.region rfl ?_
      refine WL.val (Yl.add (m := x129) (n := 1) (r := wi64 (x129 + 1)) ho128 rfl rfl) ?_
      refine WL.val (Yl.move (v := .int .i64 (wi64 (x129 + 1))) rfl) ?_
      refine WL.done ?_
      exact thenE_n ⟨k142, Nat.lt_succ_self _, wi64 (x129 + 1), x130.set x129.toNat (wu8 (shrOp .u32 (r50.words.getD (shrOp .i64 x129 2).toNat 0) (wi64 (24 - (shlOp .i64 (bitsOp .and .i64 x129 3) 3))))), ho125, ho126, ho127, rfl, C152, ha148, hX109⟩
    · skip
      refine W.condF (congrArg Value.bool (decide_eq_false hc144)) ?_
      refine W.exit ?_
      refine thenE_x ?_
      refine thenE_x ?_
      refine inB_here ?_
      cases hX109
      refine thenE_n ?_
      exact ⟨ho125, ho126, C132, ha131⟩
  · skip
    rintro env_ w_ ⟨ho104, ho105, C108, ha107⟩
    refine W.seq ?_
    refine W.region rfl ?_
    refine WL.val (Yl.loadVA (g := g16) (off := 0) (o := 0) (cs := x106.map (Value.int .u8)) (us := x106.map (Value.int .u8)) ho105 Tryz.underlying23 rfl (sz_of sz23 (by first | (simp only [List.length_append, List.length_map, List.length_cons, List.length_nil, ha107]; done) | simp [ha107])) (Ctx.subI 0 C108 rfl) (take_all _)) ?_
    obtain ⟨w153, hy154, C155⟩ := ev_set (P := Tryz.prog) (ps1 := [CH.row g16 0 (x106.map (Value.int .u8)), CH.row g22 o23 (r50.words.map (Value.int .u32) ++ [.slice A52 n54 c53, .int .i64 r50.n]), p56, p40]) (ps2 := []) (t := 23) (o := 0) ((List.replicate 32 (0 : Int)).map (Value.int .u8)) [] ((List.replicate 32 (0 : Int)).map (Value.int .u8)) [] (x106.map (Value.int .u8)) (.agg (List.toArray (x106.map (Value.int .u8)))) C108 (by first | (simp only [List.length_append, List.length_map, List.length_cons, List.length_nil, (List.length_replicate ..), ha107]; done) | simp [(List.length_replicate ..), ha107]) (by first | (simp only [List.length_append, List.length_map, List.length_cons, List.length_nil, (List.length_replicate ..), ha107]; done) | simp [(List.length_replicate ..), ha107]) (by first | (simp only [List.length_append, List.length_map, List.length_cons, List.length_nil, (List.length_replicate ..), ha107]; done) | simp [(List.length_replicate ..), ha107]) rfl (one_ints _ _) (sz_of sz23 (by first | (simp only [List.length_append, List.length_map, List.length_cons, List.length_nil, ha107]; done) | simp [ha107]))
    have C156 : Ctx _ _ _ _ _ [CH.row g16 0 (x106.map (Value.int .u8)), CH.row g22 o23 (r50.words.map (Value.int .u32) ++ [.slice A52 n54 c53, .int .i64 r50.n]), p56, p40, CH.row g12 0 (x106.map (Value.int .u8))] := (by simpa using C155)
    refine WL.skip (hy154 _ _ _ _ ho104 rfl) ?_
    refine WL.done ?_
    refine W.ret ?_
    have C157 : Ctx _ _ _ _ _ [] := Ctx.pick [] C156 rfl
    have e158 := Option.some.inj H
    subst e158
    exact post_r (resEC rfl ((.cell ho104 (run_loadVA2 (g := g12) (off := 0) (o := 0) (cs := x106.map (Value.int .u8)) (us := x106.map (Value.int .u8)) Tryz.underlying23 rfl (sz_of sz23 (by first | (simp only [List.length_append, List.length_map, List.length_cons, List.length_nil, ha107]; done) | simp [ha107])) (Ctx.subI 4 C156 rfl) (take_all _)) .nil))) ⟨rfl, C157, ha107⟩
/-! ### jurat/sha.Sum: function 125 -/
def sha_Sum.f (k : Nat) (a0 : List Int) : Option (List Int) := (sha_New.f k ).bind fun r13 => (sha_Hash_Write.f k r13 a0).bind fun r26 => (sha_Hash_Sum.f k r26).bind fun r45 => some r45
set_option maxRecDepth 100000 in
set_option maxHeartbeats 4000000 in
theorem sha_Sum.calls (k : Nat) (w : World) (F : CH) (A1 : Option Addr) (c2 : Nat) (n3 : Nat) (a0 : List Int) (hp : Pre w F []) (hn4 : n3 = a0.length) (hl5 : a0.length ≤ c2) (hm6 : c2 ≤ maxLen) (hS7 : Sl (Kd.int .u8) F F A1 a0) (hG1 : CH.le (CH.row 1 0 (glob1.map (Value.int .u32))) F) (hG3 : CH.le (CH.row 3 0 (glob3.map (Value.int .u32))) F) (r0_ : List Int) (H : sha_Sum.f k a0 = some r0_) :
    Calls Tryz.prog 125 #[.slice A1 n3 c2] w fun e w' => e = .returned (.agg (List.toArray (r0_.map (Value.int .u8)))) ∧ Ctx w F (domL []) w' F [] ∧ r0_.length = 32 := by
  have C := Ctx.start hp
  generalize hD : domL [] = D at C ⊢
  unfold sha_Sum.f at H
  refine Calls.ofW Tryz.func125 rfl (by simp [Tryz.ntmps125]) ?_
  refine W.seq ?_
  refine W.region rfl ?_
  obtain ⟨g8, w9, hy10, C11⟩ := ev_alloc (P := Tryz.prog) (e := 23) ((List.replicate 32 (0 : Int)).map (Value.int .u8)) C zr23 rfl
  refine WL.val (hy10 _ _) ?_
  refine WL.done ?_
  refine W.seq ?_
  refine W.region rfl ?_
  obtain ⟨r13, hg12, H⟩ := bindE H
  refine WL.call (args := #[]) (Yenter.fn Tryz.func126 (by kernel_rfl) rfl (argsE .nil)) (sha_New.calls k _ F  (Ctx.pre (qs := []) (rest := [CH.row g8 0 ((List.replicate 32 (0 : Int)).map (Value.int .u8))]) C11) (CH.le_trans hG1 (CH.le_trans (CH.le_refl _) (CH.le_refl _))) r13 hg12) ?_
  rintro e_ w_ ⟨g14, o15, A17, c18, n19, p21, rfl, C23, ha16, hn20, hR22⟩
  refine ⟨_, rfl, ?_⟩
  have C24 : Ctx _ _ _ _ _ [CH.row g14 o15 (r13.words.map (Value.int .u32) ++ [.slice A17 n19 c18, .int .i64 r13.n]), p21, CH.row g8 0 ((List.replicate 32 (0 : Int)).map (Value.int .u8))] := Ctx.call (qs := []) (rest := [CH.row g8 0 ((List.replicate 32 (0 : Int)).map (Value.int .u8))]) C11 C23
  refine WL.val (Yl.assign (v := .pointer (some ⟨g14, o15, none⟩)) rfl) ?_
  refine WL.done ?_
  refine W.seq ?_
  refine W.region rfl ?_
  refine WL.val (Yl.move (v := .pointer (some ⟨g14, o15, none⟩)) rfl) ?_
  refine WL.val (Yl.move (v := .slice A1 n3 c2) rfl) ?_
  obtain ⟨r26, hg25, H⟩ := bindE H
  refine WL.call (args := #[.pointer (some ⟨g14, o15, none⟩), .slice A1 n3 c2]) (Yenter.fn Tryz.func127 (by kernel_rfl) rfl (argsE (.cons rfl (.cons rfl .nil)))) (sha_Hash_Write.calls k _ F g14 o15 A17 c18 n19 p21 r13 A1 c2 n3 a0 (Ctx.pre (qs := [CH.row g14 o15 (r13.words.map (Value.int .u32) ++ [.slice A17 n19 c18, .int .i64 r13.n]), p21]) (rest := [CH.row g8 0 ((List.replicate 32 (0 : Int)).map (Value.int .u8))]) C24) ha16 hn20 hR22 hn4 hl5 hm6 hS7 (CH.le_trans hG3 (CH.le_trans (CH.le_refl _) (CH.le_refl _))) r26 hg25) ?_
  rintro e_ w_ ⟨A28, c29, n30, p32, rfl, C34, ha27, hn31, hR33⟩
  refine ⟨_, rfl, ?_⟩
  have C35 : Ctx _ _ _ _ _ [CH.row g14 o15 (r26.words.map (Value.int .u32) ++ [.slice A28 n30 c29, .int .i64 r26.n]), p32, CH.row g8 0 ((List.replicate 32 (0 : Int)).map (Value.int .u8))] := Ctx.call (qs := [CH.row g14 o15 (r13.words.map (Value.int .u32) ++ [.slice A17 n19 c18, .int .i64 r13.n]), p21]) (rest := [CH.row g8 0 ((List.replicate 32 (0 : Int)).map (Value.int .u8))]) C24 C34
  refine WL.done ?_
  refine W.seq ?_
  refine W.region rfl ?_
  refine WL.val (Yl.move (v := .pointer (some ⟨g14, o15, none⟩)) rfl) ?_
  obtain ⟨F36, le37, lp38, (C39 : Ctx _ _ _ _ _ [p32, CH.row g8 0 ((List.replicate 32 (0 : Int)).map (Value.int .u8))])⟩ := Ctx.fzI 0 C35 rfl
  obtain ⟨F40, le41, lp42, (C43 : Ctx _ _ _ _ _ [CH.row g8 0 ((List.replicate 32 (0 : Int)).map (Value.int .u8))])⟩ := Ctx.fzI 0 C39 rfl
  obtain ⟨r45, hg44, H⟩ := bindE H
  refine WL.call (args := #[.pointer (some ⟨g14, o15, none⟩)]) (Yenter.fn Tryz.func128 (by kernel_rfl) rfl (argsE (.cons rfl .nil))) (sha_Hash_Sum.calls k _ F40 g14 o15 A28 c29 n30 r26 (Ctx.pre (qs := []) (rest := [CH.row g8 0 ((List.replicate 32 (0 : Int)).map (Value.int .u8))]) C43) ha27 hn31 (Row.len_le hR33).1 (Row.len_le hR33).2.1 (Sl.mono (Row.sl hR33) (CH.le_trans le37 le41) lp42) (CH.le_trans lp38 le41) (CH.le_trans hG3 (CH.le_trans (CH.le_refl _) (CH.le_trans le37 le41))) r45 hg44) ?_
  rintro e_ w_ ⟨rfl, C47, ha46⟩
  refine ⟨_, rfl, ?_⟩
  have C48 : Ctx _ _ _ _ _ [CH.row g14 o15 (r26.words.map (Value.int .u32) ++ [.slice A28 n30 c29, .int .i64 r26.n]), p32, CH.row g8 0 ((List.replicate 32 (0 : Int)).map (Value.int .u8))] := Ctx.callL (qs := []) (rest := [CH.row g14 o15 (r26.words.map (Value.int .u32) ++ [.slice A28 n30 c29, .int .i64 r26.n]), p32, CH.row g8 0 ((List.replicate 32 (0 : Int)).map (Value.int .u8))]) C35 (CH.le_trans le37 le41) C47
  obtain ⟨w49, hy50, C51⟩ := ev_set (P := Tryz.prog) (ps1 := [CH.row g14 o15 (r26.words.map (Value.int .u32) ++ [.slice A28 n30 c29, .int .i64 r26.n]), p32]) (ps2 := []) (t := 23) (o := 0) ((List.replicate 32 (0 : Int)).map (Value.int .u8)) [] ((List.replicate 32 (0 : Int)).map (Value.int .u8)) [] (r45.map (Value.int .u8)) (.agg (List.toArray (r45.map (Value.int .u8)))) C48 (by first | (simp only [List.length_append, List.length_map, List.length_cons, List.length_nil, (List.length_replicate ..), ha46]; done) | simp [(List.length_replicate ..), ha46]) (by first | (simp only [List.length_append, List.length_map, List.length_cons, List.length_nil, (List.length_replicate ..), ha46]; done) | simp [(List.length_replicate ..), ha46]) (by first | (simp only [List.length_append, List.length_map, List.length_cons, List.length_nil, (List.length_replicate ..), ha46]; done) | simp [(List.length_replicate ..), ha46]) rfl (one_ints _ _) (sz_of sz23 (by first | (simp only [List.length_append, List.length_map, List.length_cons, List.length_nil, ha46]; done) | simp [ha46]))
  have C52 : Ctx _ _ _ _ _ [CH.row g14 o15 (r26.words.map (Value.int .u32) ++ [.slice A28 n30 c29, .int .i64 r26.n]), p32, CH.row g8 0 (r45.map (Value.int .u8))] := (by simpa using C51)
  refine WL.skip (hy50 _ _ _ _ rfl rfl) ?_
  refine WL.done ?_
  refine W.ret ?_
  have C53 : Ctx _ _ _ _ _ [] := Ctx.pick [] C52 rfl
  have e54 := Option.some.inj H
  subst e54
  exact post_r (resEC rfl ((.cell rfl (run_loadVA2 (g := g8) (off := 0) (o := 0) (cs := r45.map (Value.int .u8)) (us := r45.map (Value.int .u8)) Tryz.underlying23 rfl (sz_of sz23 (by first | (simp only [List.length_append, List.length_map, List.length_cons, List.length_nil, ha46]; done) | simp [ha46])) (Ctx.subI 2 C52 rfl) (take_all _)) .nil))) ⟨rfl, C53, ha46⟩
end Go.Proofs.YtnlpmnegjgjiiaaGreatDoor
