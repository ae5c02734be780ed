/- Functions of the program: each as a plain function of numbers and lists, and the proof that the program's own comes to it. Nothing is assumed but what each theorem says. -/
import Derived.Test.YthdlfclkcdnenaaDoorTGi
namespace Go.Proofs.YthdlfclkcdnenaaDoor
open Go.RowKit Go.WG
set_option linter.unusedVariables false
set_option linter.unusedSimpArgs false
def sha_New.f (k : Nat)  : Option THash := some (⟨glob1, ([] : List Int), 0⟩ : THash)
set_option maxRecDepth 100000 in
set_option maxHeartbeats 4000000 in
theorem sha_New.calls (k : Nat) (w : World) (F : CH)  (hp : Pre w F []) (hG1 : CH.le (CH.row 1 0 (glob1.map (Value.int .u32))) F) (r0_ : THash) (H : sha_New.f k  = some r0_) :
    Calls Tryd.prog 65 #[] w fun e w' => ∃ (g8 : Nat) (o9 : Nat) (A11 : Option Addr) (c12 : Nat) (n13 : Nat) (p15 : CH), e = .returned (.pointer (some ⟨g8, o9, none⟩)) ∧ Ctx w F (domL []) w' F [CH.row g8 o9 (r0_.words.map (Value.int .u32) ++ [.slice A11 n13 c12, .int .i64 r0_.n]), p15] ∧ r0_.words.length = 8 ∧ n13 = r0_.rest.length ∧ Row (Kd.int .u8) F p15 (.slice A11 n13 c12) r0_.rest := by
  have C := Ctx.start hp
  generalize hD : domL [] = D at C ⊢
  unfold sha_New.f at H
  refine Calls.ofW Tryd.func65 rfl (by simp [Tryd.ntmps65]) ?_
  refine W.seq ?_
  refine W.region rfl ?_
  refine WL.val (Yl.assign (v := .pointer none) rfl) ?_
  refine WL.done ?_
  refine W.seq ?_
  refine W.region rfl ?_
  refine WL.val (Yl.loadVA (g := 1) (off := 0) (o := 0) (cs := glob1.map (Value.int .u32)) (us := glob1.map (Value.int .u32)) rfl Tryd.underlying102 rfl (sz_of sz102 (by first | (simp only [List.length_append, List.length_map, List.length_cons, List.length_nil, glob1_len]; done) | simp [glob1_len])) (Sub.mono (C.fro) hG1) (take_all _)) ?_
  refine WL.val (Yl.build (places := [(0, 8), (8, 1), (9, 1)]) (cs := List.toArray (glob1.map (Value.int .u32) ++ [.slice none 0 0, .int .i64 0])) Tryd.underlying109 zr109 (pl109 _ Tryd.underlying109) (partsB (.cons rfl .nil)) (Fills.run (a := (List.replicate 8 (0 : Int)).map (Value.int .u32) ++ [.slice none 0 0, .int .i64 0]) (c := glob1.map (Value.int .u32) ++ [.slice none 0 0, .int .i64 0]) (.seg (off := 0) (n := 8) (us := glob1.map (Value.int .u32)) (b := glob1.map (Value.int .u32) ++ [.slice none 0 0, .int .i64 0]) (pre := []) (z := (List.replicate 8 (0 : Int)).map (Value.int .u32)) (post := [.slice none 0 0, .int .i64 0]) rfl rfl (by simp [(List.length_replicate ..), glob1_len]) (by simp) (by simp) (by simp [(List.length_replicate ..), glob1_len]) (by simp [(List.length_replicate ..), glob1_len]) .nil))) ?_
  obtain ⟨g1, w2, hy3, C4⟩ := ev_box (P := Tryd.prog) 109 (.agg (List.toArray (glob1.map (Value.int .u32) ++ [.slice none 0 0, .int .i64 0]))) (glob1.map (Value.int .u32) ++ [.slice none 0 0, .int .i64 0]) C rfl
  refine WL.val (hy3 _ _ _ rfl) ?_
  refine WL.val (Yl.assign (v := .pointer (some ⟨g1, 0, none⟩)) rfl) ?_
  refine WL.done ?_
  refine W.ret ?_
  have C5 : Ctx _ _ _ _ F [CH.emp, CH.row g1 0 (glob1.map (Value.int .u32) ++ [.slice none 0 0, .int .i64 0])] := Ctx.emp C4
  have C6 : Ctx _ _ _ _ F [CH.row g1 0 (glob1.map (Value.int .u32) ++ [.slice none 0 0, .int .i64 0]), CH.emp] := Ctx.swap [] [] C5
  have e7 := Option.some.inj H
  subst e7
  exact post_r (resE1 rfl rfl) ⟨g1, 0, none, 0, 0, CH.emp, rfl, C6, glob1_len, rfl, (Row.nil _ _)⟩
def sha_Hash_Write.l1 : Nat → THash → Option THash
  | 0, _ => none
  | k + 1, x278 => if (x278.rest.length : Int) ≥ 64 then (if 0 ≤ (64 : Int) ∧ (64 : Int) ≤ (x278.rest.length : Int) then ((sha_Block.f k x278.words (x278.rest.take (64 : Int).toNat)).bind fun ⟨r369, r370⟩ => if 0 ≤ (64 : Int) ∧ (64 : Int) ≤ (x278.rest.length : Int) ∧ (x278.rest.length : Int) ≤ (x278.rest.length : Int) then (sha_Hash_Write.l1 k (⟨r369, x278.rest.drop ((64 : Int).toNat), x278.n⟩ : THash)) else none) else none) else (some x278)
def sha_Hash_Write.f (k : Nat) (a0 : THash) (a1 : List Int) : Option THash := if (a0.rest.length + a1.length) * 1 ≤ 140737488355328 then ((sha_Hash_Write.l1 k (⟨a0.words, a0.rest ++ a1, wi64 (a0.n + (a1.length : Int))⟩ : THash)).bind fun x211 => some x211) else none
set_option maxRecDepth 100000 in
set_option maxHeartbeats 4000000 in
theorem sha_Hash_Write.calls (k : Nat) (w : World) (F : CH) (g1 : Nat) (o2 : Nat) (A4 : Option Addr) (c5 : Nat) (n6 : Nat) (p8 : CH) (a0 : THash) (A10 : Option Addr) (c11 : Nat) (n12 : Nat) (a1 : List Int) (hp : Pre w F [CH.row g1 o2 (a0.words.map (Value.int .u32) ++ [.slice A4 n6 c5, .int .i64 a0.n]), p8]) (ha3 : a0.words.length = 8) (hn7 : n6 = a0.rest.length) (hR9 : Row (Kd.int .u8) F p8 (.slice A4 n6 c5) a0.rest) (hn13 : n12 = a1.length) (hl14 : a1.length ≤ c11) (hm15 : c11 ≤ maxLen) (hS16 : Sl (Kd.int .u8) F F A10 a1) (hG3 : CH.le (CH.row 3 0 (glob3.map (Value.int .u32))) F) (r0_ : THash) (H : sha_Hash_Write.f k a0 a1 = some r0_) :
    Calls Tryd.prog 66 #[.pointer (some ⟨g1, o2, none⟩), .slice A10 n12 c11] w fun e w' => ∃ (A398 : Option Addr) (c399 : Nat) (n400 : Nat) (p402 : CH), e = .returned (.tuple #[]) ∧ Ctx w F (domL [CH.row g1 o2 (a0.words.map (Value.int .u32) ++ [.slice A4 n6 c5, .int .i64 a0.n]), p8]) w' F [CH.row g1 o2 (r0_.words.map (Value.int .u32) ++ [.slice A398 n400 c399, .int .i64 r0_.n]), p402] ∧ r0_.words.length = 8 ∧ n400 = r0_.rest.length ∧ Row (Kd.int .u8) F p402 (.slice A398 n400 c399) r0_.rest := by
  have C := Ctx.start hp
  generalize hD : domL [CH.row g1 o2 (a0.words.map (Value.int .u32) ++ [.slice A4 n6 c5, .int .i64 a0.n]), p8] = D at C ⊢
  unfold sha_Hash_Write.f at H
  refine Calls.ofW Tryd.func66 rfl (by simp [Tryd.ntmps66]) ?_
  refine W.seq ?_
  refine W.seq ?_
  refine W.region rfl ?_
  refine WL.val (Yl.move (v := .pointer (some ⟨g1, o2, none⟩)) rfl) ?_
  refine WL.val (Yl.ptrEqSN rfl rfl Tryd.underlying96) ?_
  refine WL.done ?_
  refine W.condF rfl ?_
  refine W.skip ?_
  refine W.seq ?_
  refine W.region rfl ?_
  refine WL.val (Yl.move (v := .pointer (some ⟨g1, o2, none⟩)) rfl) ?_
  refine WL.val (Yl.nilCheck rfl) ?_
  refine WL.val (Yl.fieldAddr (i := 2) rfl Tryd.underlying109 rfl sz3) ?_
  refine WL.val (Yl.loadV (g := g1) (off := o2) (o := 9) (cs := a0.words.map (Value.int .u32) ++ [.slice A4 n6 c5, .int .i64 a0.n]) (v := .int .i64 a0.n) rfl Tryd.underlying3 rfl (Ctx.sub_of [] [p8] C) (by simp [List.getElem?_append, ha3])) ?_
  refine WL.val (Yl.move (v := .slice A10 n12 c11) rfl) ?_
  refine WL.val (Yl.lenN (A := A10) (l := n12) (q := c11) (n := (a1.length : Int)) rfl Tryd.underlying28 (by omega)) ?_
  refine WL.val (Yl.add (m := a0.n) (n := (a1.length : Int)) (r := wi64 (a0.n + (a1.length : Int))) rfl rfl rfl) ?_
  refine WL.val (Yl.nilCheck rfl) ?_
  refine WL.val (Yl.fieldAddr (i := 2) rfl Tryd.underlying109 rfl sz3) ?_
  obtain ⟨w17, hy18, C19⟩ := ev_set (P := Tryd.prog) (ps1 := []) (ps2 := [p8]) (t := 3) (o := 9) (a0.words.map (Value.int .u32) ++ [.slice A4 n6 c5, .int .i64 a0.n]) (a0.words.map (Value.int .u32) ++ [.slice A4 n6 c5]) [.int .i64 a0.n] [] [.int .i64 (wi64 (a0.n + (a1.length : Int)))] (.int .i64 (wi64 (a0.n + (a1.length : Int)))) C (by first | (simp only [List.length_append, List.length_map, List.length_cons, List.length_nil, ha3]; done) | simp [ha3]) (by first | (simp only [List.length_append, List.length_map, List.length_cons, List.length_nil, ha3]; done) | simp [ha3]) (by first | (simp only [List.length_append, List.length_map, List.length_cons, List.length_nil, ha3]; done) | simp [ha3]) rfl (by simp [Value.oneCell']) sz3
  have C20 : Ctx _ _ _ _ F [CH.row g1 o2 (a0.words.map (Value.int .u32) ++ [.slice A4 n6 c5, .int .i64 (wi64 (a0.n + (a1.length : Int)))]), p8] := (by simpa using C19)
  refine WL.skip (hy18 _ _ _ _ rfl rfl) ?_
  refine WL.done ?_
  refine W.seq ?_
  refine W.region rfl ?_
  refine WL.val (Yl.move (v := .pointer (some ⟨g1, o2, none⟩)) rfl) ?_
  refine WL.val (Yl.move (v := .pointer (some ⟨g1, o2, none⟩)) rfl) ?_
  refine WL.val (Yl.nilCheck rfl) ?_
  refine WL.val (Yl.fieldAddr (i := 1) rfl Tryd.underlying109 rfl sz28) ?_
  refine WL.val (Yl.loadV (g := g1) (off := o2) (o := 8) (cs := a0.words.map (Value.int .u32) ++ [.slice A4 n6 c5, .int .i64 (wi64 (a0.n + (a1.length : Int)))]) (v := .slice A4 n6 c5) rfl Tryd.underlying28 rfl (Ctx.sub_of [] [p8] C20) (by simp [List.getElem?_append, ha3])) ?_
  refine WL.val (Yl.move (v := .slice A10 n12 c11) rfl) ?_
  obtain ⟨hc21, H⟩ := guardE H
  obtain ⟨A22, c23, n24, p25, w26, hn27, hy28, C29, hR30⟩ := ev_append' (P := Tryd.prog) (cb := c11) 5 (Kd.int .u8) [CH.row g1 o2 (a0.words.map (Value.int .u32) ++ [.slice A4 n6 c5, .int .i64 (wi64 (a0.n + (a1.length : Int)))])] [] C20 hR9 hn13 hS16 C20.fro Tryd.underlying28 ti5 rfl zo5 (by decide) (by decide) (by simpa using hc21)
  have C31 : Ctx _ _ _ _ F [CH.row g1 o2 (a0.words.map (Value.int .u32) ++ [.slice A4 n6 c5, .int .i64 (wi64 (a0.n + (a1.length : Int)))]), p25] := C29
  refine WL.val (hy28 _ _ _ _ rfl rfl) ?_
  refine WL.val (Yl.nilCheck rfl) ?_
  refine WL.val (Yl.fieldAddr (i := 1) rfl Tryd.underlying109 rfl sz28) ?_
  obtain ⟨w32, hy33, C34⟩ := ev_set (P := Tryd.prog) (ps1 := []) (ps2 := [p25]) (t := 28) (o := 8) (a0.words.map (Value.int .u32) ++ [.slice A4 n6 c5, .int .i64 (wi64 (a0.n + (a1.length : Int)))]) (a0.words.map (Value.int .u32)) [.slice A4 n6 c5] [.int .i64 (wi64 (a0.n + (a1.length : Int)))] [.slice A22 n24 c23] (.slice A22 n24 c23) C31 (by first | (simp only [List.length_append, List.length_map, List.length_cons, List.length_nil, ha3]; done) | simp [ha3]) (by first | (simp only [List.length_append, List.length_map, List.length_cons, List.length_nil, ha3]; done) | simp [ha3]) (by first | (simp only [List.length_append, List.length_map, List.length_cons, List.length_nil, ha3]; done) | simp [ha3]) rfl (by simp [Value.oneCell']) sz28
  have C35 : Ctx _ _ _ _ F [CH.row g1 o2 (a0.words.map (Value.int .u32) ++ [.slice A22 n24 c23, .int .i64 (wi64 (a0.n + (a1.length : Int)))]), p25] := (by simpa using C34)
  refine WL.skip (hy33 _ _ _ _ rfl rfl) ?_
  refine WL.done ?_
  obtain ⟨x211, hX220, H⟩ := bindE H
  refine W.cutM (fun env_ w_ => ∃ (A213 : Option Addr) (c214 : Nat) (n215 : Nat) (p217 : CH), Ctx w F D w_ F [CH.row g1 o2 (x211.words.map (Value.int .u32) ++ [.slice A213 n215 c214, .int .i64 x211.n]), p217] ∧ x211.words.length = 8 ∧ n215 = x211.rest.length ∧ Row (Kd.int .u8) F p217 (.slice A213 n215 c214) x211.rest) ?_ ?_
  · skip
    refine W.block ?_
    refine W.loop (fun g_ env_ w_ => ∃ (x278 : THash) (A280 : Option Addr) (c281 : Nat) (n282 : Nat) (p284 : CH), env_ 0 = .pointer (some ⟨g1, o2, none⟩) ∧ Ctx w F D w_ F [CH.row g1 o2 (x278.words.map (Value.int .u32) ++ [.slice A280 n282 c281, .int .i64 x278.n]), p284] ∧ x278.words.length = 8 ∧ n282 = x278.rest.length ∧ Row (Kd.int .u8) F p284 (.slice A280 n282 c281) x278.rest ∧ sha_Hash_Write.l1 g_ x278 = some x211) k ⟨(⟨a0.words, a0.rest ++ a1, wi64 (a0.n + (a1.length : Int))⟩ : THash), A22, c23, n24, p25, rfl, C35, ha3, hn27, hR30, hX220⟩ ?_
    clear hX220
    rintro g_ env_ w_ ⟨x278, A280, c281, n282, p284, ho277, C286, ha279, hn283, hR285, hX220⟩
    rcases g_ with _ | k341
    · exact absurd hX220 (by simp [sha_Hash_Write.l1])
    rw [sha_Hash_Write.l1] at hX220
    refine W.seq ?_
    refine W.seq ?_
    refine W.region rfl ?_
    refine WL.val (Yl.move (v := .pointer (some ⟨g1, o2, none⟩)) ho277) ?_
    refine WL.val (Yl.nilCheck rfl) ?_
    refine WL.val (Yl.fieldAddr (i := 1) rfl Tryd.underlying109 rfl sz28) ?_
    refine WL.val (Yl.loadV (g := g1) (off := o2) (o := 8) (cs := x278.words.map (Value.int .u32) ++ [.slice A280 n282 c281, .int .i64 x278.n]) (v := .slice A280 n282 c281) rfl Tryd.underlying28 rfl (Ctx.sub_of [] [p284] C286) (by simp [List.getElem?_append, ha279])) ?_
    refine WL.val (Yl.lenN (A := A280) (l := n282) (q := c281) (n := (x278.rest.length : Int)) rfl Tryd.underlying28 (by omega)) ?_
    refine WL.val (Yl.geq (m := (x278.rest.length : Int)) (n := 64) (q := decide ((x278.rest.length : Int) ≥ 64)) rfl rfl rfl) ?_
    refine WL.done ?_
    rcases iteE hX220 with ⟨hc342, hX220⟩ | ⟨hc342, hX220⟩
    · skip
      refine W.condT (congrArg Value.bool (decide_eq_true hc342)) ?_
      refine W.skip ?_
      refine W.block ?_
      refine W.seq ?_
      refine W.regionA [([10, 16], CH.row g1 o2 (x278.words.map (Value.int .u32) ++ [.slice A280 n282 c281, .int .i64 x278.n]))] (by kernel_rfl) ?_
      have C360 := Ctx.drewN C286 1
      refine WA.take none [] 0 rfl (by kernel_rfl) (by kernel_rfl) (show _ = #[true, false, false, false, false, false, false, false, false, false, false, false, false, false, false, false, false] from rfl) trivial ⟨(Ctx.sub_of [] [p284] C360), trivial⟩ (fun _ hC_ => Yl.move (v := .pointer (some ⟨g1, o2, none⟩)) ho277) ?_
      refine WA.take none [] 1 rfl (by kernel_rfl) (by kernel_rfl) (show _ = #[true, true, false, false, false, false, false, false, false, false, false, false, false, false, false, false, false] from rfl) trivial ⟨(Ctx.sub_of [] [p284] C360), trivial⟩ (fun _ hC_ => Yl.move (v := .pointer (some ⟨g1, o2, none⟩)) ho277) ?_
      refine WA.take none [] 2 rfl (by kernel_rfl) (by kernel_rfl) (show _ = #[true, true, true, false, false, false, false, false, false, false, false, false, false, false, false, false, false] from rfl) trivial ⟨(Ctx.sub_of [] [p284] C360), trivial⟩ (fun _ hC_ => Yl.nilCheck rfl) ?_
      refine WA.take none [] 3 rfl (by kernel_rfl) (by kernel_rfl) (show _ = #[true, true, true, true, false, false, false, false, false, false, false, false, false, false, false, false, false] from rfl) trivial ⟨(Ctx.sub_of [] [p284] C360), trivial⟩ (fun _ hC_ => Yl.fieldAddr (i := 0) rfl Tryd.underlying109 rfl sz102) ?_
      refine WA.take (some 0) [10, 11, 12, 13, 14, 15, 16] 4 rfl (by kernel_rfl) (by kernel_rfl) (show _ = #[true, true, true, true, true, false, false, false, false, false, false, false, false, false, false, false, false] from rfl) (Ctx.sub_of [] [p284] C360) ⟨(Ctx.sub_of [] [p284] C360), trivial⟩ (fun _ hC_ => Yl.loadVA (g := g1) (off := o2) (o := 0) (cs := x278.words.map (Value.int .u32) ++ [.slice A280 n282 c281, .int .i64 x278.n]) (us := x278.words.map (Value.int .u32)) rfl Tryd.underlying102 rfl (sz_of sz102 (by first | (simp only [List.length_append, List.length_map, List.length_cons, List.length_nil, ha279]; done) | simp [ha279])) (show Sub (CH.row g1 o2 (x278.words.map (Value.int .u32) ++ [.slice A280 n282 c281, .int .i64 x278.n])) _ from hC_) (take_mid (pre := []) (us := x278.words.map (Value.int .u32)) (post := [.slice A280 n282 c281, .int .i64 x278.n]) (by first | (simp only [List.length_append, List.length_map, List.length_cons, List.length_nil, ha279]; done) | simp [ha279]) (by first | (simp only [List.length_append, List.length_map, List.length_cons, List.length_nil, ha279]; done) | simp [ha279]))) ?_
      refine WA.take none [] 5 rfl (by kernel_rfl) (by kernel_rfl) (show _ = #[true, true, true, true, true, true, false, false, false, false, false, false, false, false, false, false, false] from rfl) trivial ⟨(Ctx.sub_of [] [p284] C360), trivial⟩ (fun _ hC_ => Yl.move (v := .pointer (some ⟨g1, o2, none⟩)) ho277) ?_
      refine WA.take none [] 6 rfl (by kernel_rfl) (by kernel_rfl) (show _ = #[true, true, true, true, true, true, true, false, false, false, false, false, false, false, false, false, false] from rfl) trivial ⟨(Ctx.sub_of [] [p284] C360), trivial⟩ (fun _ hC_ => Yl.nilCheck rfl) ?_
      refine WA.take none [] 7 rfl (by kernel_rfl) (by kernel_rfl) (show _ = #[true, true, true, true, true, true, true, true, false, false, false, false, false, false, false, false, false] from rfl) trivial ⟨(Ctx.sub_of [] [p284] C360), trivial⟩ (fun _ hC_ => Yl.fieldAddr (i := 1) rfl Tryd.underlying109 rfl sz28) ?_
      refine WA.take (some 0) [9, 10, 11, 12, 13, 14, 15, 16] 8 rfl (by kernel_rfl) (by kernel_rfl) (show _ = #[true, true, true, true, true, true, true, true, true, false, false, false, false, false, false, false, false] from rfl) (Ctx.sub_of [] [p284] C360) ⟨(Ctx.sub_of [] [p284] C360), trivial⟩ (fun _ hC_ => Yl.loadV (g := g1) (off := o2) (o := 8) (cs := x278.words.map (Value.int .u32) ++ [.slice A280 n282 c281, .int .i64 x278.n]) (v := .slice A280 n282 c281) rfl Tryd.underlying28 rfl (show Sub (CH.row g1 o2 (x278.words.map (Value.int .u32) ++ [.slice A280 n282 c281, .int .i64 x278.n])) _ from hC_) (by simp [List.getElem?_append, ha279])) ?_
      obtain ⟨hc361, hX220⟩ := guardE hX220
      have hl364 := (Row.len_le hR285).1
      obtain ⟨hn362, hR363⟩ := Row.take hR285 (64 : Int).toNat (by omega)
      refine WA.take none [] 9 rfl (by kernel_rfl) (by kernel_rfl) (show _ = #[true, true, true, true, true, true, true, true, true, true, false, false, false, false, false, false, false] from rfl) trivial ⟨(Ctx.sub_of [] [p284] C360), trivial⟩ (fun _ hC_ => Yl.sliceHi rfl Tryd.underlying28 sz5 rfl ⟨hc361.1, by omega⟩) ?_
      have le365 : CH.le F (CH.join F p284) := CH.le_joinL _ _
      have lp366 : CH.le p284 (CH.join F p284) := CH.le_joinR (Ctx.dis_of [CH.row g1 o2 (x278.words.map (Value.int .u32) ++ [.slice A280 n282 c281, .int .i64 x278.n])] [] C360)
      have C367 : Ctx _ _ _ _ (CH.join F p284) [CH.row g1 o2 (x278.words.map (Value.int .u32) ++ [.slice A280 n282 c281, .int .i64 x278.n])] := Ctx.freeze [CH.row g1 o2 (x278.words.map (Value.int .u32) ++ [.slice A280 n282 c281, .int .i64 x278.n])] [] C360
      obtain ⟨⟨r369, r370⟩, hg368, hX220⟩ := bindE hX220
      refine WA.up1 10 (by kernel_rfl) (Up.call (args := #[.agg (List.toArray (x278.words.map (Value.int .u32))), .slice A280 ((64 : Int).toNat) c281]) rfl (by kernel_rfl) (show _ = #[true, true, true, true, true, true, true, true, true, true, true, false, false, false, false, false, false] from rfl) (Yenter.fn Tryd.func72 (by kernel_rfl) rfl (argsE (.cons rfl (.cons rfl .nil)))) (sha_Block.calls k341 _ (CH.join F p284) x278.words A280 c281 ((64 : Int).toNat) (x278.rest.take (64 : Int).toNat) (Ctx.pre (qs := []) (rest := [CH.row g1 o2 (x278.words.map (Value.int .u32) ++ [.slice A280 n282 c281, .int .i64 x278.n])]) C367) ha279 hn362 (Row.len_le hR363).1 (Row.len_le hR363).2.1 (Sl.mono (Row.sl hR363) le365 lp366) (CH.le_trans hG3 (CH.le_trans (CH.le_refl _) le365)) r369 r370 hg368) ?_)
      rintro e_ w_ ⟨rfl, C372, ha371⟩
      have C373 : Ctx _ _ _ _ F [CH.row g1 o2 (x278.words.map (Value.int .u32) ++ [.slice A280 n282 c281, .int .i64 x278.n]), p284] := Ctx.callL (qs := []) (rest := [CH.row g1 o2 (x278.words.map (Value.int .u32) ++ [.slice A280 n282 c281, .int .i64 x278.n]), p284]) C360 le365 C372
      refine ⟨_, rfl, ⟨trivial, trivial⟩, ?_⟩
      refine WA.take none [] 11 rfl (by kernel_rfl) (by kernel_rfl) (show _ = #[true, true, true, true, true, true, true, true, true, true, true, true, false, false, false, false, false] from rfl) trivial ⟨trivial, trivial⟩ (fun _ hC_ => Yl.move (v := .tuple #[(.agg (List.toArray (r369.map (Value.int .u32)))), (.int .i64 r370)]) rfl) ?_
      refine WA.take none [] 12 rfl (by kernel_rfl) (by kernel_rfl) (show _ = #[true, true, true, true, true, true, true, true, true, true, true, true, true, false, false, false, false] from rfl) trivial ⟨trivial, trivial⟩ (fun _ hC_ => Yl.extract (v := .agg (List.toArray (r369.map (Value.int .u32)))) rfl rfl) ?_
      refine WA.take none [] 13 rfl (by kernel_rfl) (by kernel_rfl) (show _ = #[true, true, true, true, true, true, true, true, true, true, true, true, true, true, false, false, false] from rfl) trivial ⟨trivial, trivial⟩ (fun _ hC_ => Yl.extract (v := .int .i64 r370) rfl rfl) ?_
      refine WA.take none [] 14 rfl (by kernel_rfl) (by kernel_rfl) (show _ = #[true, true, true, true, true, true, true, true, true, true, true, true, true, true, true, false, false] from rfl) trivial ⟨trivial, trivial⟩ (fun _ hC_ => Yl.nilCheck rfl) ?_
      refine WA.take none [] 15 rfl (by kernel_rfl) (by kernel_rfl) (show _ = #[true, true, true, true, true, true, true, true, true, true, true, true, true, true, true, true, false] from rfl) trivial ⟨trivial, trivial⟩ (fun _ hC_ => Yl.fieldAddr (i := 0) rfl Tryd.underlying109 rfl sz102) ?_
      obtain ⟨w374, hy375, C376⟩ := ev_set (P := Tryd.prog) (ps1 := []) (ps2 := [p284]) (t := 102) (o := 0) (x278.words.map (Value.int .u32) ++ [.slice A280 n282 c281, .int .i64 x278.n]) [] (x278.words.map (Value.int .u32)) [.slice A280 n282 c281, .int .i64 x278.n] (r369.map (Value.int .u32)) (.agg (List.toArray (r369.map (Value.int .u32)))) C373 (by first | (simp only [List.length_append, List.length_map, List.length_cons, List.length_nil, ha279, ha371]; done) | simp [ha279, ha371]) (by first | (simp only [List.length_append, List.length_map, List.length_cons, List.length_nil, ha279, ha371]; done) | simp [ha279, ha371]) (by first | (simp only [List.length_append, List.length_map, List.length_cons, List.length_nil, ha279, ha371]; done) | simp [ha279, ha371]) rfl (one_ints _ _) (sz_of sz102 (by first | (simp only [List.length_append, List.length_map, List.length_cons, List.length_nil, ha371]; done) | simp [ha371]))
      have C377 : Ctx _ _ _ _ F [CH.row g1 o2 (r369.map (Value.int .u32) ++ [.slice A280 n282 c281, .int .i64 x278.n]), p284] := (by simpa using C376)
      refine WA.up1 16 (by kernel_rfl) (Up.skip rfl (show _ = #[true, true, true, true, true, true, true, true, true, true, true, true, true, true, true, true, true] from rfl) (hy375 _ _ _ _ rfl rfl) ⟨trivial, trivial⟩ ?_)
      refine WA.done (by kernel_rfl) ?_
      refine W.region rfl ?_
      refine WL.val (Yl.move (v := .pointer (some ⟨g1, o2, none⟩)) ho277) ?_
      refine WL.val (Yl.move (v := .pointer (some ⟨g1, o2, none⟩)) ho277) ?_
      refine WL.val (Yl.nilCheck rfl) ?_
      refine WL.val (Yl.fieldAddr (i := 1) rfl Tryd.underlying109 rfl sz28) ?_
      refine WL.val (Yl.loadV (g := g1) (off := o2) (o := 8) (cs := r369.map (Value.int .u32) ++ [.slice A280 n282 c281, .int .i64 x278.n]) (v := .slice A280 n282 c281) rfl Tryd.underlying28 rfl (Ctx.sub_of [] [p284] C377) (by simp [List.getElem?_append, ha371])) ?_
      obtain ⟨hc378, hX220⟩ := guardE hX220
      obtain ⟨A379, c380, n381, p388, hv382, hn383, hR389, lp390⟩ := Row.tail hR285 ((64 : Int).toNat) (by omega)
      have hl387 : x278.rest.length ≤ c281 ∧ c281 ≤ maxLen := ⟨(Row.len_le hR285).1, (Row.len_le hR285).2.1⟩
      rw [hn283] at hv382
      refine WL.val (Yl.slice ((64 : Int).toNat) x278.rest.length c281 rfl Tryd.underlying28 sz5 rfl (hn283).symm (OB.mk rfl (by omega)) (by simp) (by omega) (by omega) (by omega) hv382) ?_
      refine WL.val (Yl.nilCheck rfl) ?_
      refine WL.val (Yl.fieldAddr (i := 1) rfl Tryd.underlying109 rfl sz28) ?_
      have C391 : Ctx _ _ _ _ F [CH.row g1 o2 (r369.map (Value.int .u32) ++ [.slice A280 n282 c281, .int .i64 x278.n]), p388] := Ctx.shrink [CH.row g1 o2 (r369.map (Value.int .u32) ++ [.slice A280 n282 c281, .int .i64 x278.n])] [] lp390 C377
      obtain ⟨w392, hy393, C394⟩ := ev_set (P := Tryd.prog) (ps1 := []) (ps2 := [p388]) (t := 28) (o := 8) (r369.map (Value.int .u32) ++ [.slice A280 n282 c281, .int .i64 x278.n]) (r369.map (Value.int .u32)) [.slice A280 n282 c281] [.int .i64 x278.n] [.slice A379 n381 c380] (.slice A379 n381 c380) C391 (by first | (simp only [List.length_append, List.length_map, List.length_cons, List.length_nil, ha371]; done) | simp [ha371]) (by first | (simp only [List.length_append, List.length_map, List.length_cons, List.length_nil, ha371]; done) | simp [ha371]) (by first | (simp only [List.length_append, List.length_map, List.length_cons, List.length_nil, ha371]; done) | simp [ha371]) rfl (by simp [Value.oneCell']) sz28
      have C395 : Ctx _ _ _ _ F [CH.row g1 o2 (r369.map (Value.int .u32) ++ [.slice A379 n381 c380, .int .i64 x278.n]), p388] := (by simpa using C394)
      refine WL.skip (hy393 _ _ _ _ rfl rfl) ?_
      refine WL.done ?_
      refine inB_n ?_
      exact thenE_n ⟨k341, Nat.lt_succ_self _, (⟨r369, x278.rest.drop ((64 : Int).toNat), x278.n⟩ : THash), A379, c380, n381, p388, ho277, C395, ha371, hn383, hR389, hX220⟩
    · skip
      refine W.condF (congrArg Value.bool (decide_eq_false hc342)) ?_
      refine W.exit ?_
      refine thenE_x ?_
      refine thenE_x ?_
      refine inB_here ?_
      cases hX220
      refine thenE_n ?_
      exact ⟨A280, c281, n282, p284, C286, ha279, hn283, hR285⟩
  · skip
    rintro env_ w_ ⟨A213, c214, n215, p217, C219, ha212, hn216, hR218⟩
    have e396 := Option.some.inj H
    subst e396
    exact post_n (resE0 rfl ) ⟨A213, c214, n215, p217, rfl, C219, ha212, hn216, hR218⟩
def sha_Hash_Clone.f (k : Nat) (a0 : THash) : Option THash := if a0.rest.length * 1 ≤ 140737488355328 then (some (⟨a0.words, a0.rest, a0.n⟩ : THash)) else none
set_option maxRecDepth 100000 in
set_option maxHeartbeats 4000000 in
theorem sha_Hash_Clone.calls (k : Nat) (w : World) (F : CH) (g1 : Nat) (o2 : Nat) (A4 : Option Addr) (c5 : Nat) (n6 : Nat) (a0 : THash) (hp : Pre w F []) (ha3 : a0.words.length = 8) (hn7 : n6 = a0.rest.length) (hl8 : a0.rest.length ≤ c5) (hm9 : c5 ≤ maxLen) (hS10 : Sl (Kd.int .u8) F F A4 a0.rest) (hg11 : CH.le (CH.row g1 o2 (a0.words.map (Value.int .u32) ++ [.slice A4 n6 c5, .int .i64 a0.n])) F) (r0_ : THash) (H : sha_Hash_Clone.f k a0 = some r0_) :
    Calls Tryd.prog 73 #[.pointer (some ⟨g1, o2, none⟩)] w fun e w' => ∃ (g62 : Nat) (o63 : Nat) (A65 : Option Addr) (c66 : Nat) (n67 : Nat) (p69 : CH), e = .returned (.pointer (some ⟨g62, o63, none⟩)) ∧ Ctx w F (domL []) w' F [CH.row g62 o63 (r0_.words.map (Value.int .u32) ++ [.slice A65 n67 c66, .int .i64 r0_.n]), p69] ∧ r0_.words.length = 8 ∧ n67 = r0_.rest.length ∧ Row (Kd.int .u8) F p69 (.slice A65 n67 c66) r0_.rest := by
  have C := Ctx.start hp
  generalize hD : domL [] = D at C ⊢
  unfold sha_Hash_Clone.f at H
  refine Calls.ofW Tryd.func73 rfl (by simp [Tryd.ntmps73]) ?_
  refine W.seq ?_
  refine W.region rfl ?_
  refine WL.val (Yl.assign (v := .pointer none) rfl) ?_
  refine WL.done ?_
  refine W.seq ?_
  refine W.seq ?_
  refine W.region rfl ?_
  refine WL.val (Yl.move (v := .pointer (some ⟨g1, o2, none⟩)) rfl) ?_
  refine WL.val (Yl.ptrEqSN rfl rfl Tryd.underlying96) ?_
  refine WL.done ?_
  refine W.condF rfl ?_
  refine W.skip ?_
  refine W.seq ?_
  refine W.regionA [([15], F)] (by kernel_rfl) ?_
  have C36 := Ctx.drewN C 1
  refine WA.take none [] 0 rfl (by kernel_rfl) (by kernel_rfl) (show _ = #[true, false, false, false, false, false, false, false, false, false, false, false, false, false, false, false, false] from rfl) trivial ⟨(C36.fro), trivial⟩ (fun _ hC_ => Yl.move (v := .pointer (some ⟨g1, o2, none⟩)) rfl) ?_
  refine WA.take none [] 1 rfl (by kernel_rfl) (by kernel_rfl) (show _ = #[true, true, false, false, false, false, false, false, false, false, false, false, false, false, false, false, false] from rfl) trivial ⟨(C36.fro), trivial⟩ (fun _ hC_ => Yl.nilCheck rfl) ?_
  refine WA.take none [] 2 rfl (by kernel_rfl) (by kernel_rfl) (show _ = #[true, true, true, false, false, false, false, false, false, false, false, false, false, false, false, false, false] from rfl) trivial ⟨(C36.fro), trivial⟩ (fun _ hC_ => Yl.fieldAddr (i := 0) rfl Tryd.underlying109 rfl sz102) ?_
  refine WA.take (some 0) [14, 15, 16] 3 rfl (by kernel_rfl) (by kernel_rfl) (show _ = #[true, true, true, true, false, false, false, false, false, false, false, false, false, false, false, false, false] from rfl) (C36.fro) ⟨(C36.fro), trivial⟩ (fun _ hC_ => Yl.loadVA (g := g1) (off := o2) (o := 0) (cs := a0.words.map (Value.int .u32) ++ [.slice A4 n6 c5, .int .i64 a0.n]) (us := a0.words.map (Value.int .u32)) rfl Tryd.underlying102 rfl (sz_of sz102 (by first | (simp only [List.length_append, List.length_map, List.length_cons, List.length_nil, ha3]; done) | simp [ha3])) (Sub.mono (Sub.mono (show Sub F _ from hC_) (CH.le_refl _)) hg11) (take_mid (pre := []) (us := a0.words.map (Value.int .u32)) (post := [.slice A4 n6 c5, .int .i64 a0.n]) (by first | (simp only [List.length_append, List.length_map, List.length_cons, List.length_nil, ha3]; done) | simp [ha3]) (by first | (simp only [List.length_append, List.length_map, List.length_cons, List.length_nil, ha3]; done) | simp [ha3]))) ?_
  refine WA.take none [] 5 rfl (by kernel_rfl) (by kernel_rfl) (show _ = #[true, true, true, true, false, true, false, false, false, false, false, false, false, false, false, false, false] from rfl) trivial ⟨(C36.fro), trivial⟩ (fun _ hC_ => Yl.move (v := .pointer (some ⟨g1, o2, none⟩)) rfl) ?_
  refine WA.take none [] 6 rfl (by kernel_rfl) (by kernel_rfl) (show _ = #[true, true, true, true, false, true, true, false, false, false, false, false, false, false, false, false, false] from rfl) trivial ⟨(C36.fro), trivial⟩ (fun _ hC_ => Yl.nilCheck rfl) ?_
  refine WA.take none [] 7 rfl (by kernel_rfl) (by kernel_rfl) (show _ = #[true, true, true, true, false, true, true, true, false, false, false, false, false, false, false, false, false] from rfl) trivial ⟨(C36.fro), trivial⟩ (fun _ hC_ => Yl.fieldAddr (i := 1) rfl Tryd.underlying109 rfl sz28) ?_
  refine WA.take (some 0) [9, 14, 15, 16] 8 rfl (by kernel_rfl) (by kernel_rfl) (show _ = #[true, true, true, true, false, true, true, true, true, false, false, false, false, false, false, false, false] from rfl) (C36.fro) ⟨(C36.fro), trivial⟩ (fun _ hC_ => Yl.loadV (g := g1) (off := o2) (o := 8) (cs := a0.words.map (Value.int .u32) ++ [.slice A4 n6 c5, .int .i64 a0.n]) (v := .slice A4 n6 c5) rfl Tryd.underlying28 rfl (Sub.mono (Sub.mono (show Sub F _ from hC_) (CH.le_refl _)) hg11) (by simp [List.getElem?_append, ha3])) ?_
  refine WA.take none [] 10 rfl (by kernel_rfl) (by kernel_rfl) (show _ = #[true, true, true, true, false, true, true, true, true, false, true, false, false, false, false, false, false] from rfl) trivial ⟨(C36.fro), trivial⟩ (fun _ hC_ => Yl.move (v := .pointer (some ⟨g1, o2, none⟩)) rfl) ?_
  refine WA.take none [] 11 rfl (by kernel_rfl) (by kernel_rfl) (show _ = #[true, true, true, true, false, true, true, true, true, false, true, true, false, false, false, false, false] from rfl) trivial ⟨(C36.fro), trivial⟩ (fun _ hC_ => Yl.nilCheck rfl) ?_
  refine WA.take none [] 12 rfl (by kernel_rfl) (by kernel_rfl) (show _ = #[true, true, true, true, false, true, true, true, true, false, true, true, true, false, false, false, false] from rfl) trivial ⟨(C36.fro), trivial⟩ (fun _ hC_ => Yl.fieldAddr (i := 2) rfl Tryd.underlying109 rfl sz3) ?_
  refine WA.take (some 0) [14, 15, 16] 13 rfl (by kernel_rfl) (by kernel_rfl) (show _ = #[true, true, true, true, false, true, true, true, true, false, true, true, true, true, false, false, false] from rfl) (C36.fro) ⟨(C36.fro), trivial⟩ (fun _ hC_ => Yl.loadV (g := g1) (off := o2) (o := 9) (cs := a0.words.map (Value.int .u32) ++ [.slice A4 n6 c5, .int .i64 a0.n]) (v := .int .i64 a0.n) rfl Tryd.underlying3 rfl (Sub.mono (Sub.mono (show Sub F _ from hC_) (CH.le_refl _)) hg11) (by simp [List.getElem?_append, ha3])) ?_
  obtain ⟨A37, c38, n39, p40, w41, hn42, hy43, C44, hR45⟩ := ev_lit0 (P := Tryd.prog) 5 (Kd.int .u8) C36 Tryd.underlying28 ti5
  refine WA.up1 4 (by kernel_rfl) (Up.val rfl rfl (show _ = #[true, true, true, true, true, true, true, true, true, false, true, true, true, true, false, false, false] from rfl) (hy43 _ _) ⟨(C44.fro), trivial⟩ ?_)
  obtain ⟨hc46, H⟩ := guardE H
  obtain ⟨A47, c48, n49, p50, w51, hn52, hy53, C54, hR55⟩ := ev_append' (P := Tryd.prog) (cb := c5) 5 (Kd.int .u8) [] [] C44 hR45 hn7 hS10 C44.fro Tryd.underlying28 ti5 rfl zo5 (by decide) (by decide) (by simpa using hc46)
  have C56 : Ctx _ _ _ _ F [p50] := C54
  rw [List.nil_append] at hn52 hR55
  refine WA.up1 9 (by kernel_rfl) (Up.val rfl rfl (show _ = #[true, true, true, true, true, true, true, true, true, true, true, true, true, true, false, false, false] from rfl) (hy53 _ _ _ _ rfl rfl) ⟨(C56.fro), trivial⟩ ?_)
  refine WA.take none [] 14 rfl (by kernel_rfl) (by kernel_rfl) (show _ = #[true, true, true, true, true, true, true, true, true, true, true, true, true, true, true, false, false] from rfl) trivial ⟨(C56.fro), trivial⟩ (fun _ hC_ => Yl.build (places := [(0, 8), (8, 1), (9, 1)]) (cs := List.toArray (a0.words.map (Value.int .u32) ++ [.slice A47 n49 c48, .int .i64 a0.n])) Tryd.underlying109 zr109 (pl109 _ Tryd.underlying109) (partsB (.cons rfl (.cons rfl (.cons rfl .nil)))) (Fills.run (a := (List.replicate 8 (0 : Int)).map (Value.int .u32) ++ [.slice none 0 0, .int .i64 0]) (c := a0.words.map (Value.int .u32) ++ [.slice A47 n49 c48, .int .i64 a0.n]) (.seg (off := 0) (n := 8) (us := a0.words.map (Value.int .u32)) (b := a0.words.map (Value.int .u32) ++ [.slice none 0 0, .int .i64 0]) (pre := []) (z := (List.replicate 8 (0 : Int)).map (Value.int .u32)) (post := [.slice none 0 0, .int .i64 0]) rfl rfl (by simp [(List.length_replicate ..), ha3]) (by simp) (by simp) (by simp [(List.length_replicate ..), ha3]) (by simp [(List.length_replicate ..), ha3]) (.seg (off := 8) (n := 1) (us := [.slice A47 n49 c48]) (b := a0.words.map (Value.int .u32) ++ [.slice A47 n49 c48, .int .i64 0]) (pre := a0.words.map (Value.int .u32)) (z := [.slice none 0 0]) (post := [.int .i64 0]) rfl rfl (by simp [ha3]) (by simp) (by simp) (by simp [ha3]) (by simp [ha3]) (.seg (off := 9) (n := 1) (us := [.int .i64 a0.n]) (b := a0.words.map (Value.int .u32) ++ [.slice A47 n49 c48, .int .i64 a0.n]) (pre := a0.words.map (Value.int .u32) ++ [.slice A47 n49 c48]) (z := [.int .i64 0]) (post := []) rfl rfl (by simp [ha3]) (by simp) (by simp) (by simp [ha3]) (by simp [ha3]) .nil))))) ?_
  obtain ⟨g57, w58, hy59, C60⟩ := ev_box (P := Tryd.prog) 109 (.agg (List.toArray (a0.words.map (Value.int .u32) ++ [.slice A47 n49 c48, .int .i64 a0.n]))) (a0.words.map (Value.int .u32) ++ [.slice A47 n49 c48, .int .i64 a0.n]) C56 rfl
  refine WA.up1 15 (by kernel_rfl) (Up.val rfl rfl (show _ = #[true, true, true, true, true, true, true, true, true, true, true, true, true, true, true, true, false] from rfl) (hy59 _ _ _ rfl) ⟨trivial, trivial⟩ ?_)
  refine WA.take none [] 16 rfl (by kernel_rfl) (by kernel_rfl) (show _ = #[true, true, true, true, true, true, true, true, true, true, true, true, true, true, true, true, true] from rfl) trivial ⟨trivial, trivial⟩ (fun _ hC_ => Yl.assign (v := .pointer (some ⟨g57, 0, none⟩)) rfl) ?_
  refine WA.done (by kernel_rfl) ?_
  refine W.ret ?_
  have e61 := Option.some.inj H
  subst e61
  exact post_r (resE1 rfl rfl) ⟨g57, 0, A47, c48, n49, p50, rfl, C60, ha3, hn52, hR55⟩
def sha_Hash_Sum.l1 : Nat → THash → Int → List Int → Option (List Int)
  | 0, _, _, _ => none
  | k + 1, r50, x131, x132 => if x131 < 32 then (if 0 ≤ (shrOp .i64 x131 2) ∧ (shrOp .i64 x131 2) < (8 : Int) then (if 0 ≤ (wi64 (24 - (shlOp .i64 (bitsOp .and .i64 x131 3) 3))) then (if 0 ≤ x131 ∧ x131 < (32 : Int) then (sha_Hash_Sum.l1 k r50 (wi64 (x131 + 1)) (x132.set x131.toNat (wu8 (shrOp .u32 (r50.words.getD (shrOp .i64 x131 2).toNat 0) (wi64 (24 - (shlOp .i64 (bitsOp .and .i64 x131 3) 3))))))) else none) else none) else none) else (some x132)
def sha_Hash_Sum.f (k : Nat) (a0 : THash) : Option (List Int) := (sha_Hash_Clone.f k a0).bind fun r21 => (sha_Pad.f k a0.n).bind fun ⟨r34, r35⟩ => (sha_Hash_Write.f k r21 r34).bind fun r50 => (sha_Hash_Sum.l1 k r50 0 (List.replicate 32 (0 : Int))).bind fun x108 => some x108
set_option maxRecDepth 100000 in
set_option maxHeartbeats 4000000 in
theorem sha_Hash_Sum.calls (k : Nat) (w : World) (F : CH) (g1 : Nat) (o2 : Nat) (A4 : Option Addr) (c5 : Nat) (n6 : Nat) (a0 : THash) (hp : Pre w F []) (ha3 : a0.words.length = 8) (hn7 : n6 = a0.rest.length) (hl8 : a0.rest.length ≤ c5) (hm9 : c5 ≤ maxLen) (hS10 : Sl (Kd.int .u8) F F A4 a0.rest) (hg11 : CH.le (CH.row g1 o2 (a0.words.map (Value.int .u32) ++ [.slice A4 n6 c5, .int .i64 a0.n])) F) (hG3 : CH.le (CH.row 3 0 (glob3.map (Value.int .u32))) F) (r0_ : List Int) (H : sha_Hash_Sum.f k a0 = some r0_) :
    Calls Tryd.prog 67 #[.pointer (some ⟨g1, o2, none⟩)] w fun e w' => e = .returned (.agg (List.toArray (r0_.map (Value.int .u8)))) ∧ Ctx w F (domL []) w' F [] ∧ r0_.length = 32 := by
  have C := Ctx.start hp
  generalize hD : domL [] = D at C ⊢
  unfold sha_Hash_Sum.f at H
  refine Calls.ofW Tryd.func67 rfl (by simp [Tryd.ntmps67]) ?_
  refine W.seq ?_
  refine W.region rfl ?_
  obtain ⟨g12, w13, hy14, C15⟩ := ev_alloc (P := Tryd.prog) (e := 33) ((List.replicate 32 (0 : Int)).map (Value.int .u8)) C zr33 rfl
  refine WL.val (hy14 _ _) ?_
  refine WL.done ?_
  refine W.seq ?_
  refine W.region rfl ?_
  obtain ⟨g16, w17, hy18, C19⟩ := ev_alloc (P := Tryd.prog) (e := 33) ((List.replicate 32 (0 : Int)).map (Value.int .u8)) C15 zr33 rfl
  refine WL.val (hy18 _ _) ?_
  refine WL.done ?_
  refine W.seq ?_
  refine W.seq ?_
  refine W.region rfl ?_
  refine WL.val (Yl.move (v := .pointer (some ⟨g1, o2, none⟩)) rfl) ?_
  refine WL.val (Yl.ptrEqSN rfl rfl Tryd.underlying96) ?_
  refine WL.done ?_
  refine W.condF rfl ?_
  refine W.skip ?_
  refine W.seq ?_
  refine W.region rfl ?_
  refine WL.val (Yl.move (v := .pointer (some ⟨g1, o2, none⟩)) rfl) ?_
  obtain ⟨r21, hg20, H⟩ := bindE H
  refine WL.call (args := #[.pointer (some ⟨g1, o2, none⟩)]) (Yenter.fn Tryd.func73 (by kernel_rfl) rfl (argsE (.cons rfl .nil))) (sha_Hash_Clone.calls k _ F g1 o2 A4 c5 n6 a0 (Ctx.pre (qs := []) (rest := [CH.row g16 0 ((List.replicate 32 (0 : Int)).map (Value.int .u8)), CH.row g12 0 ((List.replicate 32 (0 : Int)).map (Value.int .u8))]) C19) ha3 hn7 hl8 hm9 hS10 (CH.le_trans hg11 (CH.le_trans (CH.le_refl _) (CH.le_refl _))) r21 hg20) ?_
  rintro e_ w_ ⟨g22, o23, A25, c26, n27, p29, rfl, C31, ha24, hn28, hR30⟩
  refine ⟨_, rfl, ?_⟩
  have C32 : Ctx _ _ _ _ F [CH.row g22 o23 (r21.words.map (Value.int .u32) ++ [.slice A25 n27 c26, .int .i64 r21.n]), p29, CH.row g16 0 ((List.replicate 32 (0 : Int)).map (Value.int .u8)), CH.row g12 0 ((List.replicate 32 (0 : Int)).map (Value.int .u8))] := Ctx.call (qs := []) (rest := [CH.row g16 0 ((List.replicate 32 (0 : Int)).map (Value.int .u8)), CH.row g12 0 ((List.replicate 32 (0 : Int)).map (Value.int .u8))]) C19 C31
  refine WL.val (Yl.assign (v := .pointer (some ⟨g22, o23, none⟩)) rfl) ?_
  refine WL.done ?_
  refine W.seq ?_
  refine W.region rfl ?_
  refine WL.val (Yl.move (v := .pointer (some ⟨g1, o2, none⟩)) rfl) ?_
  refine WL.val (Yl.nilCheck rfl) ?_
  refine WL.val (Yl.fieldAddr (i := 2) rfl Tryd.underlying109 rfl sz3) ?_
  refine WL.val (Yl.loadV (g := g1) (off := o2) (o := 9) (cs := a0.words.map (Value.int .u32) ++ [.slice A4 n6 c5, .int .i64 a0.n]) (v := .int .i64 a0.n) rfl Tryd.underlying3 rfl (Sub.mono (C32.fro) hg11) (by simp [List.getElem?_append, ha3])) ?_
  obtain ⟨⟨r34, r35⟩, hg33, H⟩ := bindE H
  refine WL.call (args := #[.int .i64 a0.n]) (Yenter.fn Tryd.func74 (by kernel_rfl) rfl (argsE (.cons rfl .nil))) (sha_Pad.calls k _ F a0.n (Ctx.pre (qs := []) (rest := [CH.row g22 o23 (r21.words.map (Value.int .u32) ++ [.slice A25 n27 c26, .int .i64 r21.n]), p29, CH.row g16 0 ((List.replicate 32 (0 : Int)).map (Value.int .u8)), CH.row g12 0 ((List.replicate 32 (0 : Int)).map (Value.int .u8))]) C32)  r34 r35 hg33) ?_
  rintro e_ w_ ⟨A36, c37, n38, p40, rfl, C42, hn39, hR41⟩
  refine ⟨_, rfl, ?_⟩
  have C43 : Ctx _ _ _ _ F [p40, CH.row g22 o23 (r21.words.map (Value.int .u32) ++ [.slice A25 n27 c26, .int .i64 r21.n]), p29, CH.row g16 0 ((List.replicate 32 (0 : Int)).map (Value.int .u8)), CH.row g12 0 ((List.replicate 32 (0 : Int)).map (Value.int .u8))] := Ctx.call (qs := []) (rest := [CH.row g22 o23 (r21.words.map (Value.int .u32) ++ [.slice A25 n27 c26, .int .i64 r21.n]), p29, CH.row g16 0 ((List.replicate 32 (0 : Int)).map (Value.int .u8)), CH.row g12 0 ((List.replicate 32 (0 : Int)).map (Value.int .u8))]) C32 C42
  refine WL.val (Yl.move (v := .tuple #[(.slice A36 n38 c37), (.int .i64 r35)]) rfl) ?_
  refine WL.val (Yl.extract (v := .slice A36 n38 c37) rfl rfl) ?_
  refine WL.val (Yl.extract (v := .int .i64 r35) rfl rfl) ?_
  refine WL.val (Yl.assign (v := .slice A36 n38 c37) rfl) ?_
  refine WL.val (Yl.assign (v := .int .i64 r35) rfl) ?_
  refine WL.done ?_
  refine W.seq ?_
  refine W.region rfl ?_
  refine WL.val (Yl.move (v := .pointer (some ⟨g22, o23, none⟩)) rfl) ?_
  refine WL.val (Yl.move (v := .slice A36 n38 c37) rfl) ?_
  have C44 : Ctx _ _ _ _ F [CH.row g22 o23 (r21.words.map (Value.int .u32) ++ [.slice A25 n27 c26, .int .i64 r21.n]), p40, p29, CH.row g16 0 ((List.replicate 32 (0 : Int)).map (Value.int .u8)), CH.row g12 0 ((List.replicate 32 (0 : Int)).map (Value.int .u8))] := Ctx.swap [] [p29, CH.row g16 0 ((List.replicate 32 (0 : Int)).map (Value.int .u8)), CH.row g12 0 ((List.replicate 32 (0 : Int)).map (Value.int .u8))] C43
  have C45 : Ctx _ _ _ _ F [CH.row g22 o23 (r21.words.map (Value.int .u32) ++ [.slice A25 n27 c26, .int .i64 r21.n]), p29, p40, CH.row g16 0 ((List.replicate 32 (0 : Int)).map (Value.int .u8)), CH.row g12 0 ((List.replicate 32 (0 : Int)).map (Value.int .u8))] := Ctx.swap [CH.row g22 o23 (r21.words.map (Value.int .u32) ++ [.slice A25 n27 c26, .int .i64 r21.n])] [CH.row g16 0 ((List.replicate 32 (0 : Int)).map (Value.int .u8)), CH.row g12 0 ((List.replicate 32 (0 : Int)).map (Value.int .u8))] C44
  have le46 : CH.le F (CH.join F p40) := CH.le_joinL _ _
  have lp47 : CH.le p40 (CH.join F p40) := CH.le_joinR (Ctx.dis_of [CH.row g22 o23 (r21.words.map (Value.int .u32) ++ [.slice A25 n27 c26, .int .i64 r21.n]), p29] [CH.row g16 0 ((List.replicate 32 (0 : Int)).map (Value.int .u8)), CH.row g12 0 ((List.replicate 32 (0 : Int)).map (Value.int .u8))] C45)
  have C48 : Ctx _ _ _ _ (CH.join F p40) [CH.row g22 o23 (r21.words.map (Value.int .u32) ++ [.slice A25 n27 c26, .int .i64 r21.n]), p29, CH.row g16 0 ((List.replicate 32 (0 : Int)).map (Value.int .u8)), CH.row g12 0 ((List.replicate 32 (0 : Int)).map (Value.int .u8))] := Ctx.freeze [CH.row g22 o23 (r21.words.map (Value.int .u32) ++ [.slice A25 n27 c26, .int .i64 r21.n]), p29] [CH.row g16 0 ((List.replicate 32 (0 : Int)).map (Value.int .u8)), CH.row g12 0 ((List.replicate 32 (0 : Int)).map (Value.int .u8))] C45
  obtain ⟨r50, hg49, H⟩ := bindE H
  refine WL.call (args := #[.pointer (some ⟨g22, o23, none⟩), .slice A36 n38 c37]) (Yenter.fn Tryd.func66 (by kernel_rfl) rfl (argsE (.cons rfl (.cons rfl .nil)))) (sha_Hash_Write.calls k _ (CH.join F p40) g22 o23 A25 c26 n27 p29 r21 A36 c37 n38 r34 (Ctx.pre (qs := [CH.row g22 o23 (r21.words.map (Value.int .u32) ++ [.slice A25 n27 c26, .int .i64 r21.n]), p29]) (rest := [CH.row g16 0 ((List.replicate 32 (0 : Int)).map (Value.int .u8)), CH.row g12 0 ((List.replicate 32 (0 : Int)).map (Value.int .u8))]) C48) ha24 hn28 hR30 hn39 (Row.len_le hR41).1 (Row.len_le hR41).2.1 (Sl.mono (Row.sl hR41) le46 lp47) (CH.le_trans hG3 (CH.le_trans (CH.le_refl _) le46)) r50 hg49) ?_
  rintro e_ w_ ⟨A52, c53, n54, p56, rfl, C58, ha51, hn55, hR57⟩
  refine ⟨_, rfl, ?_⟩
  have hR59 : Row (Kd.int .u8) F p56 (.slice A52 n54 c53) r50.rest := hR57
  have C60 : Ctx _ _ _ _ F [CH.row g22 o23 (r50.words.map (Value.int .u32) ++ [.slice A52 n54 c53, .int .i64 r50.n]), p56, p40, CH.row g16 0 ((List.replicate 32 (0 : Int)).map (Value.int .u8)), CH.row g12 0 ((List.replicate 32 (0 : Int)).map (Value.int .u8))] := Ctx.callL (qs := [CH.row g22 o23 (r21.words.map (Value.int .u32) ++ [.slice A25 n27 c26, .int .i64 r21.n]), p29]) (rest := [p40, CH.row g16 0 ((List.replicate 32 (0 : Int)).map (Value.int .u8)), CH.row g12 0 ((List.replicate 32 (0 : Int)).map (Value.int .u8))]) C45 le46 C58
  refine WL.done ?_
  refine W.seq ?_
  refine W.seq ?_
  refine W.region rfl ?_
  refine WL.val (Yl.move (v := .int .i64 0) rfl) ?_
  refine WL.done ?_
  obtain ⟨x108, hX111, H⟩ := bindE H
  refine W.cutM (fun env_ w_ => env_ 2 = .pointer (some ⟨g12, 0, none⟩) ∧ env_ 3 = .pointer (some ⟨g16, 0, none⟩) ∧ Ctx w F D w_ F [CH.row g16 0 (x108.map (Value.int .u8)), CH.row g22 o23 (r50.words.map (Value.int .u32) ++ [.slice A52 n54 c53, .int .i64 r50.n]), p56, p40, CH.row g12 0 ((List.replicate 32 (0 : Int)).map (Value.int .u8))] ∧ x108.length = 32) ?_ ?_
  · skip
    refine W.block ?_
    have C145 : Ctx _ _ _ _ F [CH.row g22 o23 (r50.words.map (Value.int .u32) ++ [.slice A52 n54 c53, .int .i64 r50.n]), p56, CH.row g16 0 ((List.replicate 32 (0 : Int)).map (Value.int .u8)), p40, CH.row g12 0 ((List.replicate 32 (0 : Int)).map (Value.int .u8))] := Ctx.swap [CH.row g22 o23 (r50.words.map (Value.int .u32) ++ [.slice A52 n54 c53, .int .i64 r50.n]), p56] [CH.row g12 0 ((List.replicate 32 (0 : Int)).map (Value.int .u8))] C60
    have C146 : Ctx _ _ _ _ F [CH.row g22 o23 (r50.words.map (Value.int .u32) ++ [.slice A52 n54 c53, .int .i64 r50.n]), CH.row g16 0 ((List.replicate 32 (0 : Int)).map (Value.int .u8)), p56, p40, CH.row g12 0 ((List.replicate 32 (0 : Int)).map (Value.int .u8))] := Ctx.swap [CH.row g22 o23 (r50.words.map (Value.int .u32) ++ [.slice A52 n54 c53, .int .i64 r50.n])] [p40, CH.row g12 0 ((List.replicate 32 (0 : Int)).map (Value.int .u8))] C145
    have C147 : Ctx _ _ _ _ F [CH.row g16 0 ((List.replicate 32 (0 : Int)).map (Value.int .u8)), CH.row g22 o23 (r50.words.map (Value.int .u32) ++ [.slice A52 n54 c53, .int .i64 r50.n]), p56, p40, CH.row g12 0 ((List.replicate 32 (0 : Int)).map (Value.int .u8))] := Ctx.swap [] [p56, p40, CH.row g12 0 ((List.replicate 32 (0 : Int)).map (Value.int .u8))] C146
    refine W.loop (fun g_ env_ w_ => ∃ (x131 : Int) (x132 : List Int), env_ 2 = .pointer (some ⟨g12, 0, none⟩) ∧ env_ 3 = .pointer (some ⟨g16, 0, none⟩) ∧ env_ 4 = .pointer (some ⟨g22, o23, none⟩) ∧ env_ 24 = .int .i64 x131 ∧ Ctx w F D w_ F [CH.row g16 0 (x132.map (Value.int .u8)), CH.row g22 o23 (r50.words.map (Value.int .u32) ++ [.slice A52 n54 c53, .int .i64 r50.n]), p56, p40, CH.row g12 0 ((List.replicate 32 (0 : Int)).map (Value.int .u8))] ∧ x132.length = 32 ∧ sha_Hash_Sum.l1 g_ r50 x131 x132 = some x108) k ⟨0, (List.replicate 32 (0 : Int)), rfl, rfl, rfl, rfl, C147, (List.length_replicate ..), hX111⟩ ?_
    clear hX111
    rintro g_ env_ w_ ⟨x131, x132, ho127, ho128, ho129, ho130, C134, ha133, hX111⟩
    rcases g_ with _ | k144
    · exact absurd hX111 (by simp [sha_Hash_Sum.l1])
    rw [sha_Hash_Sum.l1] at hX111
    refine W.seq ?_
    refine W.region rfl ?_
    refine WL.val (Yl.lss (m := x131) (n := 32) (q := decide (x131 < 32)) ho130 rfl rfl) ?_
    refine WL.done ?_
    refine W.seq ?_
    rcases iteE hX111 with ⟨hc148, hX111⟩ | ⟨hc148, hX111⟩
    · skip
      refine W.condT (congrArg Value.bool (decide_eq_true hc148)) ?_
      refine W.skip ?_
      refine W.seq ?_
      refine W.block ?_
      refine W.seq ?_
      refine W.region rfl ?_
      refine WL.val (Yl.move (v := .int .i64 x131) ho130) ?_
      refine WL.val (Yl.assign (v := .int .i64 x131) rfl) ?_
      refine WL.done ?_
      refine W.region rfl ?_
      refine WL.val (Yl.move (v := .int .i64 x131) rfl) ?_
      refine WL.val (Yl.move (v := .pointer (some ⟨g22, o23, none⟩)) ho129) ?_
      refine WL.val (Yl.move (v := .int .i64 x131) rfl) ?_
      refine WL.val (Yl.shr (m := x131) (n := 2) (r := shrOp .i64 x131 2) rfl rfl (by decide) rfl) ?_
      refine WL.val (Yl.nilCheck rfl) ?_
      refine WL.val (Yl.fieldAddr (i := 0) rfl Tryd.underlying109 rfl sz102) ?_
      obtain ⟨hc149, hX111⟩ := guardE hX111
      refine WL.val (Yl.arrAddr (i := shrOp .i64 x131 2) rfl rfl Tryd.underlying102 sz101 hc149) ?_
      refine WL.val (Yl.loadAr (k' := .u32) (g := g22) (off := o23) (o := 0) (cs := r50.words.map (Value.int .u32) ++ [.slice A52 n54 c53, .int .i64 r50.n]) (pre := []) (post := [.slice A52 n54 c53, .int .i64 r50.n]) (a := r50.words) (i := shrOp .i64 x131 2) rfl Tryd.underlying101 rfl (Ctx.sub_of [CH.row g16 0 (x132.map (Value.int .u8))] [p56, p40, CH.row g12 0 ((List.replicate 32 (0 : Int)).map (Value.int .u8))] C134) (by first | (simp only [List.length_append, List.length_map, List.length_cons, List.length_nil, ha51]; done) | simp [ha51]) (by first | (simp only [List.length_append, List.length_map, List.length_cons, List.length_nil, ha51]; done) | simp [ha51]) (by have := ha51; have := hc149; omega)) ?_
      refine WL.val (Yl.move (v := .int .i64 x131) rfl) ?_
      refine WL.val (Yl.and (m := x131) (n := 3) (r := bitsOp .and .i64 x131 3) rfl rfl rfl) ?_
      refine WL.val (Yl.shl (m := bitsOp .and .i64 x131 3) (n := 3) (r := shlOp .i64 (bitsOp .and .i64 x131 3) 3) rfl rfl (by decide) rfl) ?_
      refine WL.val (Yl.sub (m := 24) (n := shlOp .i64 (bitsOp .and .i64 x131 3) 3) (r := wi64 (24 - (shlOp .i64 (bitsOp .and .i64 x131 3) 3))) rfl rfl rfl) ?_
      obtain ⟨hc150, hX111⟩ := guardE hX111
      refine WL.val (Yl.shr (m := r50.words.getD (shrOp .i64 x131 2).toNat 0) (n := wi64 (24 - (shlOp .i64 (bitsOp .and .i64 x131 3) 3))) (r := shrOp .u32 (r50.words.getD (shrOp .i64 x131 2).toNat 0) (wi64 (24 - (shlOp .i64 (bitsOp .and .i64 x131 3) 3)))) rfl rfl hc150 rfl) ?_
      refine WL.val (Yl.conv (m := shrOp .u32 (r50.words.getD (shrOp .i64 x131 2).toNat 0) (wi64 (24 - (shlOp .i64 (bitsOp .and .i64 x131 3) 3)))) (r := wu8 (shrOp .u32 (r50.words.getD (shrOp .i64 x131 2).toNat 0) (wi64 (24 - (shlOp .i64 (bitsOp .and .i64 x131 3) 3))))) rfl Tryd.underlying101 Tryd.underlying5 rfl) ?_
      obtain ⟨hc151, hX111⟩ := guardE hX111
      refine WL.val (Yl.arrAddr (i := x131) ho128 rfl Tryd.underlying33 sz5 hc151) ?_
      have ha152 : (x132.set x131.toNat (wu8 (shrOp .u32 (r50.words.getD (shrOp .i64 x131 2).toNat 0) (wi64 (24 - (shlOp .i64 (bitsOp .and .i64 x131 3) 3)))))).length = 32 := by rw [List.length_set]; exact ha133
      obtain ⟨w153, hy154, C155⟩ := ev_setAr' (P := Tryd.prog) (ps1 := []) (ps2 := [CH.row g22 o23 (r50.words.map (Value.int .u32) ++ [.slice A52 n54 c53, .int .i64 r50.n]), p56, p40, CH.row g12 0 ((List.replicate 32 (0 : Int)).map (Value.int .u8))]) (t := 5) (o := 0) (x132.map (Value.int .u8)) ((x132.set x131.toNat (wu8 (shrOp .u32 (r50.words.getD (shrOp .i64 x131 2).toNat 0) (wi64 (24 - (shlOp .i64 (bitsOp .and .i64 x131 3) 3)))))).map (Value.int .u8)) [] [] x132 .u8 x131 (wu8 (shrOp .u32 (r50.words.getD (shrOp .i64 x131 2).toNat 0) (wi64 (24 - (shlOp .i64 (bitsOp .and .i64 x131 3) 3))))) C134 (by first | (simp only [List.length_append, List.length_map, List.length_cons, List.length_nil, ha133]; done) | simp [ha133]) (by first | (simp only [List.length_append, List.length_map, List.length_cons, List.length_nil, ha133]; done) | simp [ha133]) (by first | (simp only [List.length_append, List.length_map, List.length_cons, List.length_nil, ha133]; done) | simp [ha133]) (by have := ha133; have := hc151; omega) sz5
      have C156 : Ctx _ _ _ _ F [CH.row g16 0 ((x132.set x131.toNat (wu8 (shrOp .u32 (r50.words.getD (shrOp .i64 x131 2).toNat 0) (wi64 (24 - (shlOp .i64 (bitsOp .and .i64 x131 3) 3)))))).map (Value.int .u8)), CH.row g22 o23 (r50.words.map (Value.int .u32) ++ [.slice A52 n54 c53, .int .i64 r50.n]), p56, p40, CH.row g12 0 ((List.replicate 32 (0 : Int)).map (Value.int .u8))] := C155
      refine WL.skip (hy154 _ _ _ _ rfl rfl) ?_
      refine WL.done ?_
      refine inB_n ?_
      refine W.region rfl ?_
      refine WL.val (Yl.add (m := x131) (n := 1) (r := wi64 (x131 + 1)) ho130 rfl rfl) ?_
      refine WL.val (Yl.move (v := .int .i64 (wi64 (x131 + 1))) rfl) ?_
      refine WL.done ?_
      exact thenE_n ⟨k144, Nat.lt_succ_self _, wi64 (x131 + 1), x132.set x131.toNat (wu8 (shrOp .u32 (r50.words.getD (shrOp .i64 x131 2).toNat 0) (wi64 (24 - (shlOp .i64 (bitsOp .and .i64 x131 3) 3))))), ho127, ho128, ho129, rfl, C156, ha152, hX111⟩
    · skip
      refine W.condF (congrArg Value.bool (decide_eq_false hc148)) ?_
      refine W.exit ?_
      refine thenE_x ?_
      refine thenE_x ?_
      refine inB_here ?_
      cases hX111
      refine thenE_n ?_
      exact ⟨ho127, ho128, C134, ha133⟩
  · skip
    rintro env_ w_ ⟨ho106, ho107, C110, ha109⟩
    refine W.seq ?_
    refine W.region rfl ?_
    refine WL.val (Yl.loadVA (g := g16) (off := 0) (o := 0) (cs := x108.map (Value.int .u8)) (us := x108.map (Value.int .u8)) ho107 Tryd.underlying33 rfl (sz_of sz33 (by first | (simp only [List.length_append, List.length_map, List.length_cons, List.length_nil, ha109]; done) | simp [ha109])) (Ctx.sub_of [] [CH.row g22 o23 (r50.words.map (Value.int .u32) ++ [.slice A52 n54 c53, .int .i64 r50.n]), p56, p40, CH.row g12 0 ((List.replicate 32 (0 : Int)).map (Value.int .u8))] C110) (take_all _)) ?_
    obtain ⟨w157, hy158, C159⟩ := ev_set (P := Tryd.prog) (ps1 := [CH.row g16 0 (x108.map (Value.int .u8)), CH.row g22 o23 (r50.words.map (Value.int .u32) ++ [.slice A52 n54 c53, .int .i64 r50.n]), p56, p40]) (ps2 := []) (t := 33) (o := 0) ((List.replicate 32 (0 : Int)).map (Value.int .u8)) [] ((List.replicate 32 (0 : Int)).map (Value.int .u8)) [] (x108.map (Value.int .u8)) (.agg (List.toArray (x108.map (Value.int .u8)))) C110 (by first | (simp only [List.length_append, List.length_map, List.length_cons, List.length_nil, (List.length_replicate ..), ha109]; done) | simp [(List.length_replicate ..), ha109]) (by first | (simp only [List.length_append, List.length_map, List.length_cons, List.length_nil, (List.length_replicate ..), ha109]; done) | simp [(List.length_replicate ..), ha109]) (by first | (simp only [List.length_append, List.length_map, List.length_cons, List.length_nil, (List.length_replicate ..), ha109]; done) | simp [(List.length_replicate ..), ha109]) rfl (one_ints _ _) (sz_of sz33 (by first | (simp only [List.length_append, List.length_map, List.length_cons, List.length_nil, ha109]; done) | simp [ha109]))
    have C160 : Ctx _ _ _ _ F [CH.row g16 0 (x108.map (Value.int .u8)), CH.row g22 o23 (r50.words.map (Value.int .u32) ++ [.slice A52 n54 c53, .int .i64 r50.n]), p56, p40, CH.row g12 0 (x108.map (Value.int .u8))] := (by simpa using C159)
    refine WL.skip (hy158 _ _ _ _ ho106 rfl) ?_
    refine WL.done ?_
    refine W.ret ?_
    have C161 : Ctx _ _ _ _ F [CH.row g22 o23 (r50.words.map (Value.int .u32) ++ [.slice A52 n54 c53, .int .i64 r50.n]), p56, p40, CH.row g12 0 (x108.map (Value.int .u8))] := Ctx.drop [] [CH.row g22 o23 (r50.words.map (Value.int .u32) ++ [.slice A52 n54 c53, .int .i64 r50.n]), p56, p40, CH.row g12 0 (x108.map (Value.int .u8))] C160
    have C162 : Ctx _ _ _ _ F [p56, p40, CH.row g12 0 (x108.map (Value.int .u8))] := Ctx.drop [] [p56, p40, CH.row g12 0 (x108.map (Value.int .u8))] C161
    have C163 : Ctx _ _ _ _ F [p40, CH.row g12 0 (x108.map (Value.int .u8))] := Ctx.drop [] [p40, CH.row g12 0 (x108.map (Value.int .u8))] C162
    have C164 : Ctx _ _ _ _ F [CH.row g12 0 (x108.map (Value.int .u8))] := Ctx.drop [] [CH.row g12 0 (x108.map (Value.int .u8))] C163
    have C165 : Ctx _ _ _ _ F [] := Ctx.drop [] [] C164
    have e166 := Option.some.inj H
    subst e166
    exact post_r (resEC rfl ((.cell ho106 (run_loadVA2 (g := g12) (off := 0) (o := 0) (cs := x108.map (Value.int .u8)) (us := x108.map (Value.int .u8)) Tryd.underlying33 rfl (sz_of sz33 (by first | (simp only [List.length_append, List.length_map, List.length_cons, List.length_nil, ha109]; done) | simp [ha109])) (Ctx.sub_of [CH.row g16 0 (x108.map (Value.int .u8)), CH.row g22 o23 (r50.words.map (Value.int .u32) ++ [.slice A52 n54 c53, .int .i64 r50.n]), p56, p40] [] C160) (take_all _)) .nil))) ⟨rfl, C165, ha109⟩
def sha_Sum.f (k : Nat) (a0 : List Int) : Option (List Int) := (sha_New.f k ).bind fun r13 => (sha_Hash_Write.f k r13 a0).bind fun r26 => (sha_Hash_Sum.f k r26).bind fun r43 => some r43
set_option maxRecDepth 100000 in
set_option maxHeartbeats 4000000 in
theorem sha_Sum.calls (k : Nat) (w : World) (F : CH) (A1 : Option Addr) (c2 : Nat) (n3 : Nat) (a0 : List Int) (hp : Pre w F []) (hn4 : n3 = a0.length) (hl5 : a0.length ≤ c2) (hm6 : c2 ≤ maxLen) (hS7 : Sl (Kd.int .u8) F F A1 a0) (hG1 : CH.le (CH.row 1 0 (glob1.map (Value.int .u32))) F) (hG3 : CH.le (CH.row 3 0 (glob3.map (Value.int .u32))) F) (r0_ : List Int) (H : sha_Sum.f k a0 = some r0_) :
    Calls Tryd.prog 50 #[.slice A1 n3 c2] w fun e w' => e = .returned (.agg (List.toArray (r0_.map (Value.int .u8)))) ∧ Ctx w F (domL []) w' F [] ∧ r0_.length = 32 := by
  have C := Ctx.start hp
  generalize hD : domL [] = D at C ⊢
  unfold sha_Sum.f at H
  refine Calls.ofW Tryd.func50 rfl (by simp [Tryd.ntmps50]) ?_
  refine W.seq ?_
  refine W.region rfl ?_
  obtain ⟨g8, w9, hy10, C11⟩ := ev_alloc (P := Tryd.prog) (e := 33) ((List.replicate 32 (0 : Int)).map (Value.int .u8)) C zr33 rfl
  refine WL.val (hy10 _ _) ?_
  refine WL.done ?_
  refine W.seq ?_
  refine W.region rfl ?_
  obtain ⟨r13, hg12, H⟩ := bindE H
  refine WL.call (args := #[]) (Yenter.fn Tryd.func65 (by kernel_rfl) rfl (argsE .nil)) (sha_New.calls k _ F  (Ctx.pre (qs := []) (rest := [CH.row g8 0 ((List.replicate 32 (0 : Int)).map (Value.int .u8))]) C11) (CH.le_trans hG1 (CH.le_trans (CH.le_refl _) (CH.le_refl _))) r13 hg12) ?_
  rintro e_ w_ ⟨g14, o15, A17, c18, n19, p21, rfl, C23, ha16, hn20, hR22⟩
  refine ⟨_, rfl, ?_⟩
  have C24 : Ctx _ _ _ _ F [CH.row g14 o15 (r13.words.map (Value.int .u32) ++ [.slice A17 n19 c18, .int .i64 r13.n]), p21, CH.row g8 0 ((List.replicate 32 (0 : Int)).map (Value.int .u8))] := Ctx.call (qs := []) (rest := [CH.row g8 0 ((List.replicate 32 (0 : Int)).map (Value.int .u8))]) C11 C23
  refine WL.val (Yl.assign (v := .pointer (some ⟨g14, o15, none⟩)) rfl) ?_
  refine WL.done ?_
  refine W.seq ?_
  refine W.region rfl ?_
  refine WL.val (Yl.move (v := .pointer (some ⟨g14, o15, none⟩)) rfl) ?_
  refine WL.val (Yl.move (v := .slice A1 n3 c2) rfl) ?_
  obtain ⟨r26, hg25, H⟩ := bindE H
  refine WL.call (args := #[.pointer (some ⟨g14, o15, none⟩), .slice A1 n3 c2]) (Yenter.fn Tryd.func66 (by kernel_rfl) rfl (argsE (.cons rfl (.cons rfl .nil)))) (sha_Hash_Write.calls k _ F g14 o15 A17 c18 n19 p21 r13 A1 c2 n3 a0 (Ctx.pre (qs := [CH.row g14 o15 (r13.words.map (Value.int .u32) ++ [.slice A17 n19 c18, .int .i64 r13.n]), p21]) (rest := [CH.row g8 0 ((List.replicate 32 (0 : Int)).map (Value.int .u8))]) C24) ha16 hn20 hR22 hn4 hl5 hm6 hS7 (CH.le_trans hG3 (CH.le_trans (CH.le_refl _) (CH.le_refl _))) r26 hg25) ?_
  rintro e_ w_ ⟨A28, c29, n30, p32, rfl, C34, ha27, hn31, hR33⟩
  refine ⟨_, rfl, ?_⟩
  have C35 : Ctx _ _ _ _ F [CH.row g14 o15 (r26.words.map (Value.int .u32) ++ [.slice A28 n30 c29, .int .i64 r26.n]), p32, CH.row g8 0 ((List.replicate 32 (0 : Int)).map (Value.int .u8))] := Ctx.call (qs := [CH.row g14 o15 (r13.words.map (Value.int .u32) ++ [.slice A17 n19 c18, .int .i64 r13.n]), p21]) (rest := [CH.row g8 0 ((List.replicate 32 (0 : Int)).map (Value.int .u8))]) C24 C34
  refine WL.done ?_
  refine W.seq ?_
  refine W.region rfl ?_
  refine WL.val (Yl.move (v := .pointer (some ⟨g14, o15, none⟩)) rfl) ?_
  have le36 : CH.le F (CH.join F (CH.row g14 o15 (r26.words.map (Value.int .u32) ++ [.slice A28 n30 c29, .int .i64 r26.n]))) := CH.le_joinL _ _
  have lp37 : CH.le (CH.row g14 o15 (r26.words.map (Value.int .u32) ++ [.slice A28 n30 c29, .int .i64 r26.n])) (CH.join F (CH.row g14 o15 (r26.words.map (Value.int .u32) ++ [.slice A28 n30 c29, .int .i64 r26.n]))) := CH.le_joinR (Ctx.dis_of [] [p32, CH.row g8 0 ((List.replicate 32 (0 : Int)).map (Value.int .u8))] C35)
  have C38 : Ctx _ _ _ _ (CH.join F (CH.row g14 o15 (r26.words.map (Value.int .u32) ++ [.slice A28 n30 c29, .int .i64 r26.n]))) [p32, CH.row g8 0 ((List.replicate 32 (0 : Int)).map (Value.int .u8))] := Ctx.freeze [] [p32, CH.row g8 0 ((List.replicate 32 (0 : Int)).map (Value.int .u8))] C35
  have le39 : CH.le (CH.join F (CH.row g14 o15 (r26.words.map (Value.int .u32) ++ [.slice A28 n30 c29, .int .i64 r26.n]))) (CH.join (CH.join F (CH.row g14 o15 (r26.words.map (Value.int .u32) ++ [.slice A28 n30 c29, .int .i64 r26.n]))) p32) := CH.le_joinL _ _
  have lp40 : CH.le p32 (CH.join (CH.join F (CH.row g14 o15 (r26.words.map (Value.int .u32) ++ [.slice A28 n30 c29, .int .i64 r26.n]))) p32) := CH.le_joinR (Ctx.dis_of [] [CH.row g8 0 ((List.replicate 32 (0 : Int)).map (Value.int .u8))] C38)
  have C41 : Ctx _ _ _ _ (CH.join (CH.join F (CH.row g14 o15 (r26.words.map (Value.int .u32) ++ [.slice A28 n30 c29, .int .i64 r26.n]))) p32) [CH.row g8 0 ((List.replicate 32 (0 : Int)).map (Value.int .u8))] := Ctx.freeze [] [CH.row g8 0 ((List.replicate 32 (0 : Int)).map (Value.int .u8))] C38
  obtain ⟨r43, hg42, H⟩ := bindE H
  refine WL.call (args := #[.pointer (some ⟨g14, o15, none⟩)]) (Yenter.fn Tryd.func67 (by kernel_rfl) rfl (argsE (.cons rfl .nil))) (sha_Hash_Sum.calls k _ (CH.join (CH.join F (CH.row g14 o15 (r26.words.map (Value.int .u32) ++ [.slice A28 n30 c29, .int .i64 r26.n]))) p32) g14 o15 A28 c29 n30 r26 (Ctx.pre (qs := []) (rest := [CH.row g8 0 ((List.replicate 32 (0 : Int)).map (Value.int .u8))]) C41) ha27 hn31 (Row.len_le hR33).1 (Row.len_le hR33).2.1 (Sl.mono (Row.sl hR33) (CH.le_trans le36 le39) lp40) (CH.le_trans lp37 le39) (CH.le_trans hG3 (CH.le_trans (CH.le_refl _) (CH.le_trans le36 le39))) r43 hg42) ?_
  rintro e_ w_ ⟨rfl, C45, ha44⟩
  refine ⟨_, rfl, ?_⟩
  have C46 : Ctx _ _ _ _ F [CH.row g14 o15 (r26.words.map (Value.int .u32) ++ [.slice A28 n30 c29, .int .i64 r26.n]), p32, CH.row g8 0 ((List.replicate 32 (0 : Int)).map (Value.int .u8))] := Ctx.callL (qs := []) (rest := [CH.row g14 o15 (r26.words.map (Value.int .u32) ++ [.slice A28 n30 c29, .int .i64 r26.n]), p32, CH.row g8 0 ((List.replicate 32 (0 : Int)).map (Value.int .u8))]) C35 (CH.le_trans le36 le39) C45
  obtain ⟨w47, hy48, C49⟩ := ev_set (P := Tryd.prog) (ps1 := [CH.row g14 o15 (r26.words.map (Value.int .u32) ++ [.slice A28 n30 c29, .int .i64 r26.n]), p32]) (ps2 := []) (t := 33) (o := 0) ((List.replicate 32 (0 : Int)).map (Value.int .u8)) [] ((List.replicate 32 (0 : Int)).map (Value.int .u8)) [] (r43.map (Value.int .u8)) (.agg (List.toArray (r43.map (Value.int .u8)))) C46 (by first | (simp only [List.length_append, List.length_map, List.length_cons, List.length_nil, (List.length_replicate ..), ha44]; done) | simp [(List.length_replicate ..), ha44]) (by first | (simp only [List.length_append, List.length_map, List.length_cons, List.length_nil, (List.length_replicate ..), ha44]; done) | simp [(List.length_replicate ..), ha44]) (by first | (simp only [List.length_append, List.length_map, List.length_cons, List.length_nil, (List.length_replicate ..), ha44]; done) | simp [(List.length_replicate ..), ha44]) rfl (one_ints _ _) (sz_of sz33 (by first | (simp only [List.length_append, List.length_map, List.length_cons, List.length_nil, ha44]; done) | simp [ha44]))
  have C50 : Ctx _ _ _ _ F [CH.row g14 o15 (r26.words.map (Value.int .u32) ++ [.slice A28 n30 c29, .int .i64 r26.n]), p32, CH.row g8 0 (r43.map (Value.int .u8))] := (by simpa using C49)
  refine WL.skip (hy48 _ _ _ _ rfl rfl) ?_
  refine WL.done ?_
  refine W.ret ?_
  have C51 : Ctx _ _ _ _ F [p32, CH.row g8 0 (r43.map (Value.int .u8))] := Ctx.drop [] [p32, CH.row g8 0 (r43.map (Value.int .u8))] C50
  have C52 : Ctx _ _ _ _ F [CH.row g8 0 (r43.map (Value.int .u8))] := Ctx.drop [] [CH.row g8 0 (r43.map (Value.int .u8))] C51
  have C53 : Ctx _ _ _ _ F [] := Ctx.drop [] [] C52
  have e54 := Option.some.inj H
  subst e54
  exact post_r (resEC rfl ((.cell rfl (run_loadVA2 (g := g8) (off := 0) (o := 0) (cs := r43.map (Value.int .u8)) (us := r43.map (Value.int .u8)) Tryd.underlying33 rfl (sz_of sz33 (by first | (simp only [List.length_append, List.length_map, List.length_cons, List.length_nil, ha44]; done) | simp [ha44])) (Ctx.sub_of [CH.row g14 o15 (r26.words.map (Value.int .u32) ++ [.slice A28 n30 c29, .int .i64 r26.n]), p32] [] C50) (take_all _)) .nil))) ⟨rfl, C53, ha44⟩
end Go.Proofs.YthdlfclkcdnenaaDoor
