/- Functions of the program: each as a plain function of numbers and lists, and the proof that the program's own comes to it. Nothing is assumed but what each theorem says. -/
import Derived.Test.YthdlfclkcdnenaaDoorGh
namespace Go.Proofs.YthdlfclkcdnenaaDoor
open Go.RowKit Go.WG
set_option linter.unusedVariables false
set_option linter.unusedSimpArgs false

/-! ### jurat/juratlaw09.LedgerNil: function 15 -/
def juratlaw09_LedgerNil.f (k : Nat) (a0 : List Int) (a1 : Int) (a2 : Int) : Option Bool := (juratlaw09_own.f k a0).bind fun r9 => (ledger_Ledger_Append_nil.f k r9).bind fun ⟨r22, r23⟩ => (ledger_Ledger_Leaf_nil.f k a1).bind fun ⟨r27, r28⟩ => (ledger_Ledger_Head_nil.f k a2).bind fun ⟨r39, r40⟩ => (ledger_Ledger_Include_nil.f k a1 a2).bind fun ⟨r53, r54⟩ => (ledger_Ledger_Consist_nil.f k a1 a2).bind fun ⟨r64, r65⟩ => (if r23 = 2 then (if r28 = 2 then (if r40 = 2 then (if r54 = 2 then (if r65 = 2 then ((ledger_Ledger_Size_nil.f k ).bind fun r100 => if r100 = 0 then (if (wi64 ((wi64 ((r27.length : Int) + (r53.length : Int))) + (r64.length : Int))) = 0 then (if r39.Size = 0 ∧ r39.Root = (List.replicate 32 (0 : Int)) then ((juratlaw09_awake.f k ).bind fun r107 => some r107) else (some false)) else (some false)) else (some false)) else (some false)) else (some false)) else (some false)) else (some false)) else (some false)).bind fun x91 => some x91
set_option maxRecDepth 100000 in
set_option maxHeartbeats 4000000 in
theorem juratlaw09_LedgerNil.calls (k : Nat) (w : World) (F : CH) (A1 : Option Addr) (c2 : Nat) (n3 : Nat) (a0 : List Int) (a1 : Int) (a2 : Int) (hp : Pre w F []) (hn4 : n3 = a0.length) (hl5 : a0.length ≤ c2) (hm6 : c2 ≤ maxLen) (hS7 : Sl (Kd.int .u8) F F A1 a0) (hG1 : CH.le (CH.row 1 0 (glob1.map (Value.int .u32))) F) (hG3 : CH.le (CH.row 3 0 (glob3.map (Value.int .u32))) F) (r0_ : Bool) (H : juratlaw09_LedgerNil.f k a0 a1 a2 = some r0_) :
    Calls Tryd.prog 15 #[.slice A1 n3 c2, .int .i64 a1, .int .i64 a2] w fun e w' => e = .returned (.bool r0_) ∧ Ctx w F (domL []) w' F [] := by
  have C := Ctx.start hp
  generalize hD : domL [] = D at C ⊢
  unfold juratlaw09_LedgerNil.f at H
  refine Calls.ofW Tryd.func15 rfl (by simp [Tryd.ntmps15]) ?_
  refine W.seq ?_
  refine W.region rfl ?_
  refine WL.val (Yl.assign (v := .bool false) rfl) ?_
  refine WL.done ?_
  refine W.seq ?_
  refine W.region rfl ?_
  refine WL.val (Yl.assign (v := .pointer none) rfl) ?_
  refine WL.done ?_
  refine W.seq ?_
  refine W.region rfl ?_
  refine WL.val (Yl.move (v := .pointer none) rfl) ?_
  refine WL.val (Yl.move (v := .slice A1 n3 c2) rfl) ?_
  obtain ⟨r9, hg8, H⟩ := bindE H
  refine WL.call (args := #[.slice A1 n3 c2]) (Yenter.fn Tryd.func41 (by kernel_rfl) rfl (argsE (.cons rfl .nil))) (juratlaw09_own.calls k _ F A1 c2 n3 a0 (Ctx.pre (qs := []) (rest := []) C) hn4 hl5 hm6 hS7 r9 hg8) ?_
  rintro e_ w_ ⟨A10, c11, n12, p14, rfl, C16, hn13, hR15⟩
  refine ⟨_, rfl, ?_⟩
  have C17 : Ctx _ _ _ _ F [p14] := Ctx.call (qs := []) (rest := []) C C16
  have le18 : CH.le F (CH.join F p14) := CH.le_joinL _ _
  have lp19 : CH.le p14 (CH.join F p14) := CH.le_joinR (Ctx.dis_of [] [] C17)
  have C20 : Ctx _ _ _ _ (CH.join F p14) [] := Ctx.freeze [] [] C17
  obtain ⟨⟨r22, r23⟩, hg21, H⟩ := bindE H
  refine WL.call (args := #[.pointer none, .slice A10 n12 c11]) (Yenter.fn Tryd.func19 (by kernel_rfl) rfl (argsE (.cons rfl (.cons rfl .nil)))) (ledger_Ledger_Append_nil.calls k _ (CH.join F p14) A10 c11 n12 r9 C20.pre0 hn13 (Row.len_le hR15).1 (Row.len_le hR15).2.1 (Sl.mono (Row.sl hR15) le18 lp19) (CH.le_trans hG1 (CH.le_trans (CH.le_refl _) le18)) (CH.le_trans hG3 (CH.le_trans (CH.le_refl _) le18)) r22 r23 hg21) ?_
  rintro e_ w_ ⟨rfl, ⟨m24, rfl⟩⟩
  refine ⟨_, rfl, ?_⟩
  have C25 := Ctx.drewN C17 m24
  refine WL.val (Yl.move (v := .tuple #[(.int .i64 r22), (.int .i64 r23)]) rfl) ?_
  refine WL.val (Yl.extract (v := .int .i64 r22) rfl rfl) ?_
  refine WL.val (Yl.extract (v := .int .i64 r23) rfl rfl) ?_
  refine WL.val (Yl.assign (v := .int .i64 r22) rfl) ?_
  refine WL.val (Yl.assign (v := .int .i64 r23) rfl) ?_
  refine WL.done ?_
  refine W.seq ?_
  refine W.region rfl ?_
  refine WL.val (Yl.move (v := .pointer none) rfl) ?_
  refine WL.val (Yl.move (v := .int .i64 a1) rfl) ?_
  obtain ⟨⟨r27, r28⟩, hg26, H⟩ := bindE H
  refine WL.call (args := #[.pointer none, .int .i64 a1]) (Yenter.fn Tryd.func42 (by kernel_rfl) rfl (argsE (.cons rfl (.cons rfl .nil)))) (ledger_Ledger_Leaf_nil.calls k _ F a1 C25.pre0  r27 r28 hg26) ?_
  rintro e_ w_ ⟨A29, c30, n31, rfl, ⟨m36, rfl⟩, hn32, hl33, hm34, hS35⟩
  refine ⟨_, rfl, ?_⟩
  have C37 := Ctx.drewN C25 m36
  refine WL.val (Yl.move (v := .tuple #[(.slice A29 n31 c30), (.int .i64 r28)]) rfl) ?_
  refine WL.val (Yl.extract (v := .slice A29 n31 c30) rfl rfl) ?_
  refine WL.val (Yl.extract (v := .int .i64 r28) rfl rfl) ?_
  refine WL.val (Yl.assign (v := .slice A29 n31 c30) rfl) ?_
  refine WL.val (Yl.assign (v := .int .i64 r28) rfl) ?_
  refine WL.done ?_
  refine W.seq ?_
  refine W.region rfl ?_
  refine WL.val (Yl.move (v := .pointer none) rfl) ?_
  refine WL.val (Yl.move (v := .int .i64 a2) rfl) ?_
  obtain ⟨⟨r39, r40⟩, hg38, H⟩ := bindE H
  refine WL.call (args := #[.pointer none, .int .i64 a2]) (Yenter.fn Tryd.func39 (by kernel_rfl) rfl (argsE (.cons rfl (.cons rfl .nil)))) (ledger_Ledger_Head_nil.calls k _ F a2 (Ctx.pre (qs := []) (rest := [p14]) C37) (CH.le_trans hG1 (CH.le_trans (CH.le_refl _) (CH.le_refl _))) (CH.le_trans hG3 (CH.le_trans (CH.le_refl _) (CH.le_refl _))) r39 r40 hg38) ?_
  rintro e_ w_ ⟨rfl, C42, ha41⟩
  refine ⟨_, rfl, ?_⟩
  have C43 : Ctx _ _ _ _ F [p14] := Ctx.call (qs := []) (rest := [p14]) C37 C42
  refine WL.val (Yl.move (v := .tuple #[(.agg (List.toArray ([.int .i64 r39.Size] ++ (r39.Root.map (Value.int .u8))))), (.int .i64 r40)]) rfl) ?_
  refine WL.val (Yl.extract (v := .agg (List.toArray ([.int .i64 r39.Size] ++ (r39.Root.map (Value.int .u8))))) rfl rfl) ?_
  refine WL.val (Yl.extract (v := .int .i64 r40) rfl rfl) ?_
  obtain ⟨g44, w45, hy46, C47⟩ := ev_alloc (P := Tryd.prog) (e := 53) ([.int .i64 0] ++ ((List.replicate 32 (0 : Int)).map (Value.int .u8))) C43 zr53 rfl
  refine WL.val (hy46 _ _) ?_
  obtain ⟨w48, hy49, C50⟩ := ev_set (P := Tryd.prog) (ps1 := []) (ps2 := [p14]) (t := 53) (o := 0) ([.int .i64 0] ++ ((List.replicate 32 (0 : Int)).map (Value.int .u8))) [] ([.int .i64 0] ++ ((List.replicate 32 (0 : Int)).map (Value.int .u8))) [] ([.int .i64 r39.Size] ++ (r39.Root.map (Value.int .u8))) (.agg (List.toArray ([.int .i64 r39.Size] ++ (r39.Root.map (Value.int .u8))))) C47 (by first | (simp only [List.length_append, List.length_map, List.length_cons, List.length_nil, (List.length_replicate ..), ha41]; done) | simp [(List.length_replicate ..), ha41]) (by first | (simp only [List.length_append, List.length_map, List.length_cons, List.length_nil, (List.length_replicate ..), ha41]; done) | simp [(List.length_replicate ..), ha41]) (by first | (simp only [List.length_append, List.length_map, List.length_cons, List.length_nil, (List.length_replicate ..), ha41]; done) | simp [(List.length_replicate ..), ha41]) rfl (ones_append (by simp [Value.oneCell']) (one_ints _ _)) (sz_of sz53 (by first | (simp only [List.length_append, List.length_map, List.length_cons, List.length_nil, ha41]; done) | simp [ha41]))
  have C51 : Ctx _ _ _ _ F [CH.row g44 0 ([.int .i64 r39.Size] ++ (r39.Root.map (Value.int .u8))), p14] := (by simpa using C50)
  refine WL.skip (hy49 _ _ _ _ rfl rfl) ?_
  refine WL.val (Yl.assign (v := .int .i64 r40) rfl) ?_
  refine WL.done ?_
  refine W.seq ?_
  refine W.region rfl ?_
  refine WL.val (Yl.move (v := .pointer none) rfl) ?_
  refine WL.val (Yl.move (v := .int .i64 a1) rfl) ?_
  refine WL.val (Yl.move (v := .int .i64 a2) rfl) ?_
  obtain ⟨⟨r53, r54⟩, hg52, H⟩ := bindE H
  refine WL.call (args := #[.pointer none, .int .i64 a1, .int .i64 a2]) (Yenter.fn Tryd.func40 (by kernel_rfl) rfl (argsE (.cons rfl (.cons rfl (.cons rfl .nil))))) (ledger_Ledger_Include_nil.calls k _ F a1 a2 (Ctx.pre (qs := []) (rest := [CH.row g44 0 ([.int .i64 r39.Size] ++ (r39.Root.map (Value.int .u8))), p14]) C51) (CH.le_trans hG1 (CH.le_trans (CH.le_refl _) (CH.le_refl _))) (CH.le_trans hG3 (CH.le_trans (CH.le_refl _) (CH.le_refl _))) r53 r54 hg52) ?_
  rintro e_ w_ ⟨A55, c56, n57, p59, rfl, C61, hn58, hR60⟩
  refine ⟨_, rfl, ?_⟩
  have C62 : Ctx _ _ _ _ F [p59, CH.row g44 0 ([.int .i64 r39.Size] ++ (r39.Root.map (Value.int .u8))), p14] := Ctx.call (qs := []) (rest := [CH.row g44 0 ([.int .i64 r39.Size] ++ (r39.Root.map (Value.int .u8))), p14]) C51 C61
  refine WL.val (Yl.move (v := .tuple #[(.slice A55 n57 c56), (.int .i64 r54)]) rfl) ?_
  refine WL.val (Yl.extract (v := .slice A55 n57 c56) rfl rfl) ?_
  refine WL.val (Yl.extract (v := .int .i64 r54) rfl rfl) ?_
  refine WL.val (Yl.assign (v := .slice A55 n57 c56) rfl) ?_
  refine WL.val (Yl.assign (v := .int .i64 r54) rfl) ?_
  refine WL.done ?_
  refine W.seq ?_
  refine W.region rfl ?_
  refine WL.val (Yl.move (v := .pointer none) rfl) ?_
  refine WL.val (Yl.move (v := .int .i64 a1) rfl) ?_
  refine WL.val (Yl.move (v := .int .i64 a2) rfl) ?_
  obtain ⟨⟨r64, r65⟩, hg63, H⟩ := bindE H
  refine WL.call (args := #[.pointer none, .int .i64 a1, .int .i64 a2]) (Yenter.fn Tryd.func48 (by kernel_rfl) rfl (argsE (.cons rfl (.cons rfl (.cons rfl .nil))))) (ledger_Ledger_Consist_nil.calls k _ F a1 a2 (Ctx.pre (qs := []) (rest := [p59, CH.row g44 0 ([.int .i64 r39.Size] ++ (r39.Root.map (Value.int .u8))), p14]) C62) (CH.le_trans hG1 (CH.le_trans (CH.le_refl _) (CH.le_refl _))) (CH.le_trans hG3 (CH.le_trans (CH.le_refl _) (CH.le_refl _))) r64 r65 hg63) ?_
  rintro e_ w_ ⟨A66, c67, n68, p70, rfl, C72, hn69, hR71⟩
  refine ⟨_, rfl, ?_⟩
  have C73 : Ctx _ _ _ _ F [p70, p59, CH.row g44 0 ([.int .i64 r39.Size] ++ (r39.Root.map (Value.int .u8))), p14] := Ctx.call (qs := []) (rest := [p59, CH.row g44 0 ([.int .i64 r39.Size] ++ (r39.Root.map (Value.int .u8))), p14]) C62 C72
  refine WL.val (Yl.move (v := .tuple #[(.slice A66 n68 c67), (.int .i64 r65)]) rfl) ?_
  refine WL.val (Yl.extract (v := .slice A66 n68 c67) rfl rfl) ?_
  refine WL.val (Yl.extract (v := .int .i64 r65) rfl rfl) ?_
  refine WL.val (Yl.assign (v := .slice A66 n68 c67) rfl) ?_
  refine WL.val (Yl.assign (v := .int .i64 r65) rfl) ?_
  refine WL.done ?_
  refine W.seq ?_
  obtain ⟨x91, hX93, H⟩ := bindE H
  refine W.cutM (fun env_ w_ => env_ 6 = .bool x91 ∧ Ctx w F D w_ F [p70, p59, CH.row g44 0 ([.int .i64 r39.Size] ++ (r39.Root.map (Value.int .u8))), p14]) ?_ ?_
  · skip
    refine W.region rfl ?_
    refine WL.val (Yl.move (v := .int .i64 r23) rfl) ?_
    refine WL.val (Yl.eql (m := r23) (n := 2) (q := decide (r23 = 2)) rfl rfl rfl) ?_
    refine WL.val (Yl.move (v := .bool (decide (r23 = 2))) rfl) ?_
    rcases iteE hX93 with ⟨hc94, hX93⟩ | ⟨hc94, hX93⟩
    · skip
      refine WL.on rfl (congrArg Value.bool (decide_eq_true hc94)) ?_
      refine WL.val (Yl.move (v := .int .i64 r28) rfl) ?_
      refine WL.on rfl (congrArg Value.bool (decide_eq_true hc94)) ?_
      refine WL.val (Yl.eql (m := r28) (n := 2) (q := decide (r28 = 2)) rfl rfl rfl) ?_
      refine WL.val (Yl.pickT (v := .bool (decide (r28 = 2))) (congrArg Value.bool (decide_eq_true hc94)) rfl) ?_
      refine WL.val (Yl.move (v := .bool (decide (r28 = 2))) rfl) ?_
      rcases iteE hX93 with ⟨hc95, hX93⟩ | ⟨hc95, hX93⟩
      · skip
        refine WL.on rfl (congrArg Value.bool (decide_eq_true hc95)) ?_
        refine WL.val (Yl.move (v := .int .i64 r40) rfl) ?_
        refine WL.on rfl (congrArg Value.bool (decide_eq_true hc95)) ?_
        refine WL.val (Yl.eql (m := r40) (n := 2) (q := decide (r40 = 2)) rfl rfl rfl) ?_
        refine WL.val (Yl.pickT (v := .bool (decide (r40 = 2))) (congrArg Value.bool (decide_eq_true hc95)) rfl) ?_
        refine WL.val (Yl.move (v := .bool (decide (r40 = 2))) rfl) ?_
        rcases iteE hX93 with ⟨hc96, hX93⟩ | ⟨hc96, hX93⟩
        · skip
          refine WL.on rfl (congrArg Value.bool (decide_eq_true hc96)) ?_
          refine WL.val (Yl.move (v := .int .i64 r54) rfl) ?_
          refine WL.on rfl (congrArg Value.bool (decide_eq_true hc96)) ?_
          refine WL.val (Yl.eql (m := r54) (n := 2) (q := decide (r54 = 2)) rfl rfl rfl) ?_
          refine WL.val (Yl.pickT (v := .bool (decide (r54 = 2))) (congrArg Value.bool (decide_eq_true hc96)) rfl) ?_
          refine WL.val (Yl.move (v := .bool (decide (r54 = 2))) rfl) ?_
          rcases iteE hX93 with ⟨hc97, hX93⟩ | ⟨hc97, hX93⟩
          · skip
            refine WL.on rfl (congrArg Value.bool (decide_eq_true hc97)) ?_
            refine WL.val (Yl.move (v := .int .i64 r65) rfl) ?_
            refine WL.on rfl (congrArg Value.bool (decide_eq_true hc97)) ?_
            refine WL.val (Yl.eql (m := r65) (n := 2) (q := decide (r65 = 2)) rfl rfl rfl) ?_
            refine WL.val (Yl.pickT (v := .bool (decide (r65 = 2))) (congrArg Value.bool (decide_eq_true hc97)) rfl) ?_
            refine WL.val (Yl.move (v := .bool (decide (r65 = 2))) rfl) ?_
            rcases iteE hX93 with ⟨hc98, hX93⟩ | ⟨hc98, hX93⟩
            · skip
              refine WL.on rfl (congrArg Value.bool (decide_eq_true hc98)) ?_
              refine WL.val (Yl.move (v := .pointer none) rfl) ?_
              refine WL.on rfl (congrArg Value.bool (decide_eq_true hc98)) ?_
              obtain ⟨r100, hg99, hX93⟩ := bindE hX93
              refine WL.call (args := #[.pointer none]) (Yenter.fn Tryd.func20 (by kernel_rfl) rfl (argsE (.cons rfl .nil))) (ledger_Ledger_Size_nil.calls k _ F  C73.pre0  r100 hg99) ?_
              rintro e_ w_ ⟨rfl, ⟨m101, rfl⟩⟩
              refine ⟨_, rfl, ?_⟩
              have C102 := Ctx.drewN C73 m101
              refine WL.on rfl (congrArg Value.bool (decide_eq_true hc98)) ?_
              refine WL.val (Yl.eql (m := r100) (n := 0) (q := decide (r100 = 0)) rfl rfl rfl) ?_
              refine WL.val (Yl.pickT (v := .bool (decide (r100 = 0))) (congrArg Value.bool (decide_eq_true hc98)) rfl) ?_
              refine WL.val (Yl.move (v := .bool (decide (r100 = 0))) rfl) ?_
              rcases iteE hX93 with ⟨hc103, hX93⟩ | ⟨hc103, hX93⟩
              · skip
                refine WL.on rfl (congrArg Value.bool (decide_eq_true hc103)) ?_
                refine WL.val (Yl.move (v := .slice A29 n31 c30) rfl) ?_
                refine WL.on rfl (congrArg Value.bool (decide_eq_true hc103)) ?_
                refine WL.val (Yl.lenN (A := A29) (l := n31) (q := c30) (n := (r27.length : Int)) rfl Tryd.underlying28 (by omega)) ?_
                refine WL.on rfl (congrArg Value.bool (decide_eq_true hc103)) ?_
                refine WL.val (Yl.move (v := .slice A55 n57 c56) rfl) ?_
                refine WL.on rfl (congrArg Value.bool (decide_eq_true hc103)) ?_
                refine WL.val (Yl.lenN (A := A55) (l := n57) (q := c56) (n := (r53.length : Int)) rfl Tryd.underlying31 (by omega)) ?_
                refine WL.on rfl (congrArg Value.bool (decide_eq_true hc103)) ?_
                refine WL.val (Yl.add (m := (r27.length : Int)) (n := (r53.length : Int)) (r := wi64 ((r27.length : Int) + (r53.length : Int))) rfl rfl rfl) ?_
                refine WL.on rfl (congrArg Value.bool (decide_eq_true hc103)) ?_
                refine WL.val (Yl.move (v := .slice A66 n68 c67) rfl) ?_
                refine WL.on rfl (congrArg Value.bool (decide_eq_true hc103)) ?_
                refine WL.val (Yl.lenN (A := A66) (l := n68) (q := c67) (n := (r64.length : Int)) rfl Tryd.underlying31 (by omega)) ?_
                refine WL.on rfl (congrArg Value.bool (decide_eq_true hc103)) ?_
                refine WL.val (Yl.add (m := wi64 ((r27.length : Int) + (r53.length : Int))) (n := (r64.length : Int)) (r := wi64 ((wi64 ((r27.length : Int) + (r53.length : Int))) + (r64.length : Int))) rfl rfl rfl) ?_
                refine WL.on rfl (congrArg Value.bool (decide_eq_true hc103)) ?_
                refine WL.val (Yl.eql (m := wi64 ((wi64 ((r27.length : Int) + (r53.length : Int))) + (r64.length : Int))) (n := 0) (q := decide ((wi64 ((wi64 ((r27.length : Int) + (r53.length : Int))) + (r64.length : Int))) = 0)) rfl rfl rfl) ?_
                refine WL.val (Yl.pickT (v := .bool (decide ((wi64 ((wi64 ((r27.length : Int) + (r53.length : Int))) + (r64.length : Int))) = 0))) (congrArg Value.bool (decide_eq_true hc103)) rfl) ?_
                refine WL.val (Yl.move (v := .bool (decide ((wi64 ((wi64 ((r27.length : Int) + (r53.length : Int))) + (r64.length : Int))) = 0))) rfl) ?_
                rcases iteE hX93 with ⟨hc104, hX93⟩ | ⟨hc104, hX93⟩
                · skip
                  refine WL.on rfl (congrArg Value.bool (decide_eq_true hc104)) ?_
                  refine WL.val (Yl.loadVA (g := g44) (off := 0) (o := 0) (cs := [.int .i64 r39.Size] ++ (r39.Root.map (Value.int .u8))) (us := [.int .i64 r39.Size] ++ (r39.Root.map (Value.int .u8))) rfl Tryd.underlying53 rfl (sz_of sz53 (by first | (simp only [List.length_append, List.length_map, List.length_cons, List.length_nil, ha41]; done) | simp [ha41])) (Ctx.sub_of [p70, p59] [p14] C102) (take_all _)) ?_
                  refine WL.on rfl (congrArg Value.bool (decide_eq_true hc104)) ?_
                  refine WL.val (Yl.build (places := [(0, 1), (1, 32)]) (cs := List.toArray ([.int .i64 0] ++ ((List.replicate 32 (0 : Int)).map (Value.int .u8)))) Tryd.underlying53 zr53 (pl53 _ Tryd.underlying53) (partsB .nil) (Fills.run (a := [.int .i64 0] ++ ((List.replicate 32 (0 : Int)).map (Value.int .u8))) (c := [.int .i64 0] ++ ((List.replicate 32 (0 : Int)).map (Value.int .u8))) .nil)) ?_
                  refine WL.on rfl (congrArg Value.bool (decide_eq_true hc104)) ?_
                  refine WL.val (Yl.aeql (n := 3) (xs := [.int .i64 r39.Size] ++ (r39.Root.map (Value.int .u8))) (ys := [.int .i64 0] ++ ((List.replicate 32 (0 : Int)).map (Value.int .u8))) rfl rfl eg53 (EqV.struct (n := 2) Tryd.underlying53 sh53 (EqFs.cons (by decide) (PartE.one (v := .int .i64 r39.Size) Tryd.underlying3 rfl (by simp [List.getElem?_append, ha41])) (PartE.one (v := .int .i64 0) Tryd.underlying3 rfl (by simp [List.getElem?_append, (List.length_replicate ..)])) (EqV.le (EqV.int Tryd.underlying3) (by decide)) (EqFs.one (by decide) (PartE.agg Tryd.underlying33 rfl (sz_of sz33 (by first | (simp only [List.length_append, List.length_map, List.length_cons, List.length_nil, ha41]; done) | simp [ha41])) (take_mid (pre := [.int .i64 r39.Size]) (us := r39.Root.map (Value.int .u8)) (post := []) (by first | (simp only [List.length_append, List.length_map, List.length_cons, List.length_nil, ha41]; done) | simp [ha41]) (by first | (simp only [List.length_append, List.length_map, List.length_cons, List.length_nil, ha41]; done) | simp [ha41]))) (PartE.agg Tryd.underlying33 rfl (sz_of sz33 (by first | (simp only [List.length_append, List.length_map, List.length_cons, List.length_nil, (List.length_replicate ..)]; done) | simp [(List.length_replicate ..)])) (take_mid (pre := [.int .i64 0]) (us := (List.replicate 32 (0 : Int)).map (Value.int .u8)) (post := []) (by first | (simp only [List.length_append, List.length_map, List.length_cons, List.length_nil, (List.length_replicate ..)]; done) | simp [(List.length_replicate ..)]) (by first | (simp only [List.length_append, List.length_map, List.length_cons, List.length_nil, (List.length_replicate ..)]; done) | simp [(List.length_replicate ..)]))) (EqV.arrI Tryd.underlying33 Tryd.underlying5 sz5 ha41 (List.length_replicate ..))))) (by decide)) ?_
                  refine WL.val (Yl.pickT (v := .bool (decide (r39.Size = 0 ∧ r39.Root = (List.replicate 32 (0 : Int))))) (congrArg Value.bool (decide_eq_true hc104)) rfl) ?_
                  refine WL.val (Yl.move (v := .bool (decide (r39.Size = 0 ∧ r39.Root = (List.replicate 32 (0 : Int))))) rfl) ?_
                  rcases iteE hX93 with ⟨hc105, hX93⟩ | ⟨hc105, hX93⟩
                  · skip
                    refine WL.on rfl (congrArg Value.bool (decide_eq_true hc105)) ?_
                    obtain ⟨r107, hg106, hX93⟩ := bindE hX93
                    refine WL.call (args := #[]) (Yenter.fn Tryd.func17 (by kernel_rfl) rfl (argsE .nil)) (juratlaw09_awake.calls k _ F  (Ctx.pre (qs := []) (rest := [p70, p59, CH.row g44 0 ([.int .i64 r39.Size] ++ (r39.Root.map (Value.int .u8))), p14]) C102) (CH.le_trans hG1 (CH.le_trans (CH.le_refl _) (CH.le_refl _))) (CH.le_trans hG3 (CH.le_trans (CH.le_refl _) (CH.le_refl _))) r107 hg106) ?_
                    rintro e_ w_ ⟨rfl, C108⟩
                    refine ⟨_, rfl, ?_⟩
                    have C109 : Ctx _ _ _ _ F [p70, p59, CH.row g44 0 ([.int .i64 r39.Size] ++ (r39.Root.map (Value.int .u8))), p14] := Ctx.call (qs := []) (rest := [p70, p59, CH.row g44 0 ([.int .i64 r39.Size] ++ (r39.Root.map (Value.int .u8))), p14]) C102 C108
                    refine WL.val (Yl.pickT (v := .bool r107) (congrArg Value.bool (decide_eq_true hc105)) rfl) ?_
                    refine WL.val (Yl.assign (v := .bool r107) rfl) ?_
                    refine WL.done ?_
                    cases hX93
                    refine thenE_n ?_
                    exact ⟨rfl, C109⟩
                  · skip
                    refine WL.off rfl (congrArg Value.bool (decide_eq_false hc105)) ?_
                    refine WL.val (Yl.pickF (v := .bool false) (congrArg Value.bool (decide_eq_false hc105)) rfl) ?_
                    refine WL.val (Yl.assign (v := .bool false) rfl) ?_
                    refine WL.done ?_
                    cases hX93
                    refine thenE_n ?_
                    exact ⟨rfl, C102⟩
                · skip
                  refine WL.off rfl (congrArg Value.bool (decide_eq_false hc104)) ?_
                  refine WL.off rfl (congrArg Value.bool (decide_eq_false hc104)) ?_
                  refine WL.off rfl (congrArg Value.bool (decide_eq_false hc104)) ?_
                  refine WL.val (Yl.pickF (v := .bool false) (congrArg Value.bool (decide_eq_false hc104)) rfl) ?_
                  refine WL.val (Yl.move (v := .bool false) rfl) ?_
                  refine WL.off rfl rfl ?_
                  refine WL.val (Yl.pickF (v := .bool false) rfl rfl) ?_
                  refine WL.val (Yl.assign (v := .bool false) rfl) ?_
                  refine WL.done ?_
                  cases hX93
                  refine thenE_n ?_
                  exact ⟨rfl, C102⟩
              · skip
                refine WL.off rfl (congrArg Value.bool (decide_eq_false hc103)) ?_
                refine WL.off rfl (congrArg Value.bool (decide_eq_false hc103)) ?_
                refine WL.off rfl (congrArg Value.bool (decide_eq_false hc103)) ?_
                refine WL.off rfl (congrArg Value.bool (decide_eq_false hc103)) ?_
                refine WL.off rfl (congrArg Value.bool (decide_eq_false hc103)) ?_
                refine WL.off rfl (congrArg Value.bool (decide_eq_false hc103)) ?_
                refine WL.off rfl (congrArg Value.bool (decide_eq_false hc103)) ?_
                refine WL.off rfl (congrArg Value.bool (decide_eq_false hc103)) ?_
                refine WL.off rfl (congrArg Value.bool (decide_eq_false hc103)) ?_
                refine WL.val (Yl.pickF (v := .bool false) (congrArg Value.bool (decide_eq_false hc103)) rfl) ?_
                refine WL.val (Yl.move (v := .bool false) rfl) ?_
                refine WL.off rfl rfl ?_
                refine WL.off rfl rfl ?_
                refine WL.off rfl rfl ?_
                refine WL.val (Yl.pickF (v := .bool false) rfl rfl) ?_
                refine WL.val (Yl.move (v := .bool false) rfl) ?_
                refine WL.off rfl rfl ?_
                refine WL.val (Yl.pickF (v := .bool false) rfl rfl) ?_
                refine WL.val (Yl.assign (v := .bool false) rfl) ?_
                refine WL.done ?_
                cases hX93
                refine thenE_n ?_
                exact ⟨rfl, C102⟩
            · skip
              refine WL.off rfl (congrArg Value.bool (decide_eq_false hc98)) ?_
              refine WL.off rfl (congrArg Value.bool (decide_eq_false hc98)) ?_
              refine WL.off rfl (congrArg Value.bool (decide_eq_false hc98)) ?_
              refine WL.val (Yl.pickF (v := .bool false) (congrArg Value.bool (decide_eq_false hc98)) rfl) ?_
              refine WL.val (Yl.move (v := .bool false) rfl) ?_
              refine WL.off rfl rfl ?_
              refine WL.off rfl rfl ?_
              refine WL.off rfl rfl ?_
              refine WL.off rfl rfl ?_
              refine WL.off rfl rfl ?_
              refine WL.off rfl rfl ?_
              refine WL.off rfl rfl ?_
              refine WL.off rfl rfl ?_
              refine WL.off rfl rfl ?_
              refine WL.val (Yl.pickF (v := .bool false) rfl rfl) ?_
              refine WL.val (Yl.move (v := .bool false) rfl) ?_
              refine WL.off rfl rfl ?_
              refine WL.off rfl rfl ?_
              refine WL.off rfl rfl ?_
              refine WL.val (Yl.pickF (v := .bool false) rfl rfl) ?_
              refine WL.val (Yl.move (v := .bool false) rfl) ?_
              refine WL.off rfl rfl ?_
              refine WL.val (Yl.pickF (v := .bool false) rfl rfl) ?_
              refine WL.val (Yl.assign (v := .bool false) rfl) ?_
              refine WL.done ?_
              cases hX93
              refine thenE_n ?_
              exact ⟨rfl, C73⟩
          · skip
            refine WL.off rfl (congrArg Value.bool (decide_eq_false hc97)) ?_
            refine WL.off rfl (congrArg Value.bool (decide_eq_false hc97)) ?_
            refine WL.val (Yl.pickF (v := .bool false) (congrArg Value.bool (decide_eq_false hc97)) rfl) ?_
            refine WL.val (Yl.move (v := .bool false) rfl) ?_
            refine WL.off rfl rfl ?_
            refine WL.off rfl rfl ?_
            refine WL.off rfl rfl ?_
            refine WL.val (Yl.pickF (v := .bool false) rfl rfl) ?_
            refine WL.val (Yl.move (v := .bool false) rfl) ?_
            refine WL.off rfl rfl ?_
            refine WL.off rfl rfl ?_
            refine WL.off rfl rfl ?_
            refine WL.off rfl rfl ?_
            refine WL.off rfl rfl ?_
            refine WL.off rfl rfl ?_
            refine WL.off rfl rfl ?_
            refine WL.off rfl rfl ?_
            refine WL.off rfl rfl ?_
            refine WL.val (Yl.pickF (v := .bool false) rfl rfl) ?_
            refine WL.val (Yl.move (v := .bool false) rfl) ?_
            refine WL.off rfl rfl ?_
            refine WL.off rfl rfl ?_
            refine WL.off rfl rfl ?_
            refine WL.val (Yl.pickF (v := .bool false) rfl rfl) ?_
            refine WL.val (Yl.move (v := .bool false) rfl) ?_
            refine WL.off rfl rfl ?_
            refine WL.val (Yl.pickF (v := .bool false) rfl rfl) ?_
            refine WL.val (Yl.assign (v := .bool false) rfl) ?_
            refine WL.done ?_
            cases hX93
            refine thenE_n ?_
            exact ⟨rfl, C73⟩
        · skip
          refine WL.off rfl (congrArg Value.bool (decide_eq_false hc96)) ?_
          refine WL.off rfl (congrArg Value.bool (decide_eq_false hc96)) ?_
          refine WL.val (Yl.pickF (v := .bool false) (congrArg Value.bool (decide_eq_false hc96)) rfl) ?_
          refine WL.val (Yl.move (v := .bool false) rfl) ?_
          refine WL.off rfl rfl ?_
          refine WL.off rfl rfl ?_
          refine WL.val (Yl.pickF (v := .bool false) rfl rfl) ?_
          refine WL.val (Yl.move (v := .bool false) rfl) ?_
          refine WL.off rfl rfl ?_
          refine WL.off rfl rfl ?_
          refine WL.off rfl rfl ?_
          refine WL.val (Yl.pickF (v := .bool false) rfl rfl) ?_
          refine WL.val (Yl.move (v := .bool false) rfl) ?_
          refine WL.off rfl rfl ?_
          refine WL.off rfl rfl ?_
          refine WL.off rfl rfl ?_
          refine WL.off rfl rfl ?_
          refine WL.off rfl rfl ?_
          refine WL.off rfl rfl ?_
          refine WL.off rfl rfl ?_
          refine WL.off rfl rfl ?_
          refine WL.off rfl rfl ?_
          refine WL.val (Yl.pickF (v := .bool false) rfl rfl) ?_
          refine WL.val (Yl.move (v := .bool false) rfl) ?_
          refine WL.off rfl rfl ?_
          refine WL.off rfl rfl ?_
          refine WL.off rfl rfl ?_
          refine WL.val (Yl.pickF (v := .bool false) rfl rfl) ?_
          refine WL.val (Yl.move (v := .bool false) rfl) ?_
          refine WL.off rfl rfl ?_
          refine WL.val (Yl.pickF (v := .bool false) rfl rfl) ?_
          refine WL.val (Yl.assign (v := .bool false) rfl) ?_
          refine WL.done ?_
          cases hX93
          refine thenE_n ?_
          exact ⟨rfl, C73⟩
      · skip
        refine WL.off rfl (congrArg Value.bool (decide_eq_false hc95)) ?_
        refine WL.off rfl (congrArg Value.bool (decide_eq_false hc95)) ?_
        refine WL.val (Yl.pickF (v := .bool false) (congrArg Value.bool (decide_eq_false hc95)) rfl) ?_
        refine WL.val (Yl.move (v := .bool false) rfl) ?_
        refine WL.off rfl rfl ?_
        refine WL.off rfl rfl ?_
        refine WL.val (Yl.pickF (v := .bool false) rfl rfl) ?_
        refine WL.val (Yl.move (v := .bool false) rfl) ?_
        refine WL.off rfl rfl ?_
        refine WL.off rfl rfl ?_
        refine WL.val (Yl.pickF (v := .bool false) rfl rfl) ?_
        refine WL.val (Yl.move (v := .bool false) rfl) ?_
        refine WL.off rfl rfl ?_
        refine WL.off rfl rfl ?_
        refine WL.off rfl rfl ?_
        refine WL.val (Yl.pickF (v := .bool false) rfl rfl) ?_
        refine WL.val (Yl.move (v := .bool false) rfl) ?_
        refine WL.off rfl rfl ?_
        refine WL.off rfl rfl ?_
        refine WL.off rfl rfl ?_
        refine WL.off rfl rfl ?_
        refine WL.off rfl rfl ?_
        refine WL.off rfl rfl ?_
        refine WL.off rfl rfl ?_
        refine WL.off rfl rfl ?_
        refine WL.off rfl rfl ?_
        refine WL.val (Yl.pickF (v := .bool false) rfl rfl) ?_
        refine WL.val (Yl.move (v := .bool false) rfl) ?_
        refine WL.off rfl rfl ?_
        refine WL.off rfl rfl ?_
        refine WL.off rfl rfl ?_
        refine WL.val (Yl.pickF (v := .bool false) rfl rfl) ?_
        refine WL.val (Yl.move (v := .bool false) rfl) ?_
        refine WL.off rfl rfl ?_
        refine WL.val (Yl.pickF (v := .bool false) rfl rfl) ?_
        refine WL.val (Yl.assign (v := .bool false) rfl) ?_
        refine WL.done ?_
        cases hX93
        refine thenE_n ?_
        exact ⟨rfl, C73⟩
    · skip
      refine WL.off rfl (congrArg Value.bool (decide_eq_false hc94)) ?_
      refine WL.off rfl (congrArg Value.bool (decide_eq_false hc94)) ?_
      refine WL.val (Yl.pickF (v := .bool false) (congrArg Value.bool (decide_eq_false hc94)) rfl) ?_
      refine WL.val (Yl.move (v := .bool false) rfl) ?_
      refine WL.off rfl rfl ?_
      refine WL.off rfl rfl ?_
      refine WL.val (Yl.pickF (v := .bool false) rfl rfl) ?_
      refine WL.val (Yl.move (v := .bool false) rfl) ?_
      refine WL.off rfl rfl ?_
      refine WL.off rfl rfl ?_
      refine WL.val (Yl.pickF (v := .bool false) rfl rfl) ?_
      refine WL.val (Yl.move (v := .bool false) rfl) ?_
      refine WL.off rfl rfl ?_
      refine WL.off rfl rfl ?_
      refine WL.val (Yl.pickF (v := .bool false) rfl rfl) ?_
      refine WL.val (Yl.move (v := .bool false) rfl) ?_
      refine WL.off rfl rfl ?_
      refine WL.off rfl rfl ?_
      refine WL.off rfl rfl ?_
      refine WL.val (Yl.pickF (v := .bool false) rfl rfl) ?_
      refine WL.val (Yl.move (v := .bool false) rfl) ?_
      refine WL.off rfl rfl ?_
      refine WL.off rfl rfl ?_
      refine WL.off rfl rfl ?_
      refine WL.off rfl rfl ?_
      refine WL.off rfl rfl ?_
      refine WL.off rfl rfl ?_
      refine WL.off rfl rfl ?_
      refine WL.off rfl rfl ?_
      refine WL.off rfl rfl ?_
      refine WL.val (Yl.pickF (v := .bool false) rfl rfl) ?_
      refine WL.val (Yl.move (v := .bool false) rfl) ?_
      refine WL.off rfl rfl ?_
      refine WL.off rfl rfl ?_
      refine WL.off rfl rfl ?_
      refine WL.val (Yl.pickF (v := .bool false) rfl rfl) ?_
      refine WL.val (Yl.move (v := .bool false) rfl) ?_
      refine WL.off rfl rfl ?_
      refine WL.val (Yl.pickF (v := .bool false) rfl rfl) ?_
      refine WL.val (Yl.assign (v := .bool false) rfl) ?_
      refine WL.done ?_
      cases hX93
      refine thenE_n ?_
      exact ⟨rfl, C73⟩
  · skip
    rintro env_ w_ ⟨ho90, C92⟩
    refine W.ret ?_
    have C110 : Ctx _ _ _ _ F [p59, CH.row g44 0 ([.int .i64 r39.Size] ++ (r39.Root.map (Value.int .u8))), p14] := Ctx.drop [] [p59, CH.row g44 0 ([.int .i64 r39.Size] ++ (r39.Root.map (Value.int .u8))), p14] C92
    have C111 : Ctx _ _ _ _ F [CH.row g44 0 ([.int .i64 r39.Size] ++ (r39.Root.map (Value.int .u8))), p14] := Ctx.drop [] [CH.row g44 0 ([.int .i64 r39.Size] ++ (r39.Root.map (Value.int .u8))), p14] C110
    have C112 : Ctx _ _ _ _ F [p14] := Ctx.drop [] [p14] C111
    have C113 : Ctx _ _ _ _ F [] := Ctx.drop [] [] C112
    have e114 := Option.some.inj H
    subst e114
    exact post_r (resE1 rfl ho90) ⟨rfl, C113⟩
end Go.Proofs.YthdlfclkcdnenaaDoor
