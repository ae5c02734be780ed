/- Functions of the program: each as a plain function of numbers and lists, and the proof that the program's own comes to it. Nothing is assumed but what each theorem says. -/
import Derived.Test.YthdlfclkcdnenaaDoorGg
namespace Go.Proofs.YthdlfclkcdnenaaDoor
open Go.RowKit Go.WG
set_option linter.unusedVariables false
set_option linter.unusedSimpArgs false

/-! ### jurat/juratlaw08.ProofGrows: function 5 -/
def juratlaw08_ProofGrows.l1 : Nat → List (List Int) → Int → Option Int
  | 0, _, _ => none
  | k + 1, a0, x219 => if (wi64 (2 * x219)) < (a0.length : Int) then (juratlaw08_ProofGrows.l1 k a0 (wi64 (2 * x219))) else (some x219)
def juratlaw08_ProofGrows.f (k : Nat) (a0 : List (List Int)) (a1 : List Int) : Option Bool := (if (a0.length : Int) > 200 then (some (true)) else (some (decide ((a0.length : Int) < 2)))).bind fun g13 => if g13 = true then (((proof_Root.f k [a1]).bind fun r189 => if r189 = a1 then ((juratlaw08_awake.f k ).bind fun r195 => some r195) else (some false)).bind fun x117 => some x117) else ((juratlaw08_ProofGrows.l1 k a0 1).bind fun x213 => (juratlaw08_own.f k a0).bind fun r225 => (proof_Root.f k r225).bind fun r238 => if 0 ≤ x213 ∧ x213 ≤ (a0.length : Int) then (if 0 ≤ x213 ∧ x213 ≤ (a0.length : Int) ∧ (a0.length : Int) ≤ (a0.length : Int) then ((juratlaw08_own.f k (a0.take x213.toNat)).bind fun r319 => (proof_Root.f k r319).bind fun r332 => (juratlaw08_own.f k (a0.drop x213.toNat)).bind fun r337 => (proof_Root.f k r337).bind fun r350 => (proof_Node.f k r332 r350).bind fun r355 => if r238 = r355 then ((if (wi64 (2 * x213)) = (a0.length : Int) then ((juratlaw08_own.f k a0).bind fun rs799_7_0 => if (rs799_7_0.length + [a1].length) * 32 ≤ 140737488355328 then ((proof_Root.f k (rs799_7_0 ++ [a1])).bind fun r937 => (proof_Node.f k r238 a1).bind fun r942 => if r937 = r942 then ((juratlaw08_awake.f k ).bind fun r948 => some r948) else (some false)) else none) else ((juratlaw08_awake.f k ).bind fun r965 => some r965)).bind fun x661 => some x661) else (some false)) else none) else none)
set_option maxRecDepth 100000 in
set_option maxHeartbeats 4000000 in
theorem juratlaw08_ProofGrows.calls (k : Nat) (w : World) (F : CH) (A1 : Option Addr) (c2 : Nat) (n3 : Nat) (a0 : List (List Int)) (a1 : List Int) (hp : Pre w F []) (hn4 : n3 = a0.length) (hl5 : a0.length ≤ c2) (hm6 : c2 ≤ maxLen) (hS7 : Sl (Kd.arrI 32 .u8) F F A1 a0) (ha8 : a1.length = 32) (hG1 : CH.le (CH.row 1 0 (glob1.map (Value.int .u32))) F) (hG3 : CH.le (CH.row 3 0 (glob3.map (Value.int .u32))) F) (r0_ : Bool) (H : juratlaw08_ProofGrows.f k a0 a1 = some r0_) :
    Calls Tryd.prog 5 #[.slice A1 n3 c2, .agg (List.toArray (a1.map (Value.int .u8)))] w fun e w' => e = .returned (.bool r0_) ∧ Ctx w F (domL []) w' F [] := by
  have C := Ctx.start hp
  generalize hD : domL [] = D at C ⊢
  unfold juratlaw08_ProofGrows.f at H
  refine Calls.ofW Tryd.func5 rfl (by simp [Tryd.ntmps5]) ?_
  refine W.seq ?_
  refine W.region rfl ?_
  obtain ⟨g9, w10, hy11, C12⟩ := ev_box (P := Tryd.prog) 33 (.agg (List.toArray (a1.map (Value.int .u8)))) (a1.map (Value.int .u8)) C rfl
  refine WL.val (hy11 _ _ _ rfl) ?_
  refine WL.val (Yl.assign (v := .bool false) rfl) ?_
  refine WL.done ?_
  refine W.seq ?_
  refine W.seq ?_
  refine W.region rfl ?_
  refine WL.val (Yl.move (v := .slice A1 n3 c2) rfl) ?_
  refine WL.val (Yl.lenN (A := A1) (l := n3) (q := c2) (n := (a0.length : Int)) rfl Tryd.underlying31 (by omega)) ?_
  refine WL.val (Yl.gtr (m := (a0.length : Int)) (n := 200) (q := decide ((a0.length : Int) > 200)) rfl rfl rfl) ?_
  refine WL.val (Yl.move (v := .bool (decide ((a0.length : Int) > 200))) rfl) ?_
  obtain ⟨g13, HE14, H⟩ := bindE H
  refine WL.cut (fun env_ w_ => env_ 14 = .bool g13 ∧ env_ 0 = .slice A1 n3 c2 ∧ env_ 3 = .pointer (some ⟨g9, 0, none⟩) ∧ Ctx w F D w_ F [CH.row g9 0 (a1.map (Value.int .u8))]) ?_ ?_
  · skip
    rcases iteE HE14 with ⟨hc15, HE14⟩ | ⟨hc15, HE14⟩
    · skip
      refine WL.off rfl (congrArg Value.bool (decide_eq_true hc15)) ?_
      refine WL.off rfl (congrArg Value.bool (decide_eq_true hc15)) ?_
      refine WL.off rfl (congrArg Value.bool (decide_eq_true hc15)) ?_
      refine WL.val (Yl.pickT (v := .bool true) (congrArg Value.bool (decide_eq_true hc15)) rfl) ?_
      cases HE14
      exact WL.done ⟨rfl, rfl, rfl, C12⟩
    · skip
      refine WL.on rfl (congrArg Value.bool (decide_eq_false hc15)) ?_
      refine WL.val (Yl.move (v := .slice A1 n3 c2) rfl) ?_
      refine WL.on rfl (congrArg Value.bool (decide_eq_false hc15)) ?_
      refine WL.val (Yl.lenN (A := A1) (l := n3) (q := c2) (n := (a0.length : Int)) rfl Tryd.underlying31 (by omega)) ?_
      refine WL.on rfl (congrArg Value.bool (decide_eq_false hc15)) ?_
      refine WL.val (Yl.lss (m := (a0.length : Int)) (n := 2) (q := decide ((a0.length : Int) < 2)) rfl rfl rfl) ?_
      refine WL.val (Yl.pickF (v := .bool (decide ((a0.length : Int) < 2))) (congrArg Value.bool (decide_eq_false hc15)) rfl) ?_
      cases HE14
      exact WL.done ⟨rfl, rfl, rfl, C12⟩
  · skip
    rintro env_ w_ ⟨ho16, ho17, ho18, C19⟩
    rcases iteE H with ⟨hc20, H⟩ | ⟨hc20, H⟩
    · skip
      refine W.condT (ho16.trans (congrArg Value.bool hc20)) ?_
      refine W.seq ?_
      obtain ⟨x117, hX119, H⟩ := bindE H
      refine W.cutM (fun env_ w_ => env_ 4 = .bool x117 ∧ Ctx w F D w_ F [CH.row g9 0 (a1.map (Value.int .u8))]) ?_ ?_
      · skip
        refine W.regionA [([6], CH.row g9 0 (a1.map (Value.int .u8)))] (by kernel_rfl) ?_
        have C175 := Ctx.drewN C19 1
        refine WA.take (some 0) [1, 2, 4, 5, 6, 7, 8] 0 rfl (by kernel_rfl) (by kernel_rfl) (show _ = #[true, false, false, false, false, false, false, false, false] from rfl) (Ctx.sub_of [] [] C175) ⟨(Ctx.sub_of [] [] C175), trivial⟩ (fun _ hC_ => Yl.loadVA (g := g9) (off := 0) (o := 0) (cs := a1.map (Value.int .u8)) (us := a1.map (Value.int .u8)) ho18 Tryd.underlying33 rfl (sz_of sz33 (by first | (simp only [List.length_append, List.length_map, List.length_cons, List.length_nil, ha8]; done) | simp [ha8])) (show Sub (CH.row g9 0 (a1.map (Value.int .u8))) _ from hC_) (take_all _)) ?_
        refine WA.take (some 0) [4, 5, 6, 7, 8] 3 rfl (by kernel_rfl) (by kernel_rfl) (show _ = #[true, false, false, true, false, false, false, false, false] from rfl) (Ctx.sub_of [] [] C175) ⟨(Ctx.sub_of [] [] C175), trivial⟩ (fun _ hC_ => Yl.loadVA (g := g9) (off := 0) (o := 0) (cs := a1.map (Value.int .u8)) (us := a1.map (Value.int .u8)) ho18 Tryd.underlying33 rfl (sz_of sz33 (by first | (simp only [List.length_append, List.length_map, List.length_cons, List.length_nil, ha8]; done) | simp [ha8])) (show Sub (CH.row g9 0 (a1.map (Value.int .u8))) _ from hC_) (take_all _)) ?_
        obtain ⟨A176, c177, n178, p179, w180, hn181, hy182, C183, hR184⟩ := ev_lit1' (P := Tryd.prog) 33 (Kd.arrI 32 .u8) C175 Tryd.underlying31 ti33 ⟨by decide, by decide⟩ a1 (.agg (List.toArray (a1.map (Value.int .u8)))) ⟨rfl, ha8⟩
        refine WA.up1 1 (by kernel_rfl) (Up.val rfl rfl (show _ = #[true, true, false, true, false, false, false, false, false] from rfl) (hy182 _ _ _ rfl) ⟨(Ctx.sub_of [p179] [] C183), trivial⟩ ?_)
        have le185 : CH.le F (CH.join F p179) := CH.le_joinL _ _
        have lp186 : CH.le p179 (CH.join F p179) := CH.le_joinR (Ctx.dis_of [] [CH.row g9 0 (a1.map (Value.int .u8))] C183)
        have C187 : Ctx _ _ _ _ (CH.join F p179) [CH.row g9 0 (a1.map (Value.int .u8))] := Ctx.freeze [] [CH.row g9 0 (a1.map (Value.int .u8))] C183
        obtain ⟨r189, hg188, hX119⟩ := bindE hX119
        refine WA.up1 2 (by kernel_rfl) (Up.call (args := #[.slice A176 n178 c177]) rfl (by kernel_rfl) (show _ = #[true, true, true, true, false, false, false, false, false] from rfl) (Yenter.fn Tryd.func22 (by kernel_rfl) rfl (argsE (.cons rfl .nil))) (proof_Root.calls k _ (CH.join F p179) A176 c177 n178 [a1] (Ctx.pre (qs := []) (rest := [CH.row g9 0 (a1.map (Value.int .u8))]) C187) hn181 (Row.len_le hR184).1 (Row.len_le hR184).2.1 (Sl.mono (Row.sl hR184) le185 lp186) (CH.le_trans hG1 (CH.le_trans (CH.le_refl _) le185)) (CH.le_trans hG3 (CH.le_trans (CH.le_refl _) le185)) r189 hg188) ?_)
        rintro e_ w_ ⟨rfl, C191, ha190⟩
        have C192 : Ctx _ _ _ _ F [p179, CH.row g9 0 (a1.map (Value.int .u8))] := Ctx.callL (qs := []) (rest := [p179, CH.row g9 0 (a1.map (Value.int .u8))]) C183 le185 C191
        refine ⟨_, rfl, ⟨(Ctx.sub_of [p179] [] C192), trivial⟩, ?_⟩
        refine WA.take none [] 4 rfl (by kernel_rfl) (by kernel_rfl) (show _ = #[true, true, true, true, true, false, false, false, false] from rfl) trivial ⟨(Ctx.sub_of [p179] [] C192), trivial⟩ (fun _ hC_ => Yl.aeql (n := 2) (xs := r189.map (Value.int .u8)) (ys := a1.map (Value.int .u8)) rfl rfl eg33 (EqV.arrI Tryd.underlying33 Tryd.underlying5 sz5 ha190 ha8) (by decide)) ?_
        refine WA.take none [] 5 rfl (by kernel_rfl) (by kernel_rfl) (show _ = #[true, true, true, true, true, true, false, false, false] from rfl) trivial ⟨(Ctx.sub_of [p179] [] C192), trivial⟩ (fun _ hC_ => Yl.move (v := .bool (decide (r189 = a1))) rfl) ?_
        rcases iteE hX119 with ⟨hc193, hX119⟩ | ⟨hc193, hX119⟩
        · skip
          obtain ⟨r195, hg194, hX119⟩ := bindE hX119
          refine WA.up1 6 (by kernel_rfl) (Up.callG (args := #[]) rfl rfl (congrArg Value.bool (decide_eq_true hc193)) (by kernel_rfl) (show _ = #[true, true, true, true, true, true, true, false, false] from rfl) (Yenter.fn Tryd.func21 (by kernel_rfl) rfl (argsE .nil)) (juratlaw08_awake.calls k _ F  (Ctx.pre (qs := []) (rest := [p179, CH.row g9 0 (a1.map (Value.int .u8))]) C192) (CH.le_trans hG1 (CH.le_trans (CH.le_refl _) (CH.le_refl _))) (CH.le_trans hG3 (CH.le_trans (CH.le_refl _) (CH.le_refl _))) r195 hg194) ?_)
          rintro e_ w_ ⟨rfl, C196⟩
          have C197 : Ctx _ _ _ _ F [p179, CH.row g9 0 (a1.map (Value.int .u8))] := Ctx.call (qs := []) (rest := [p179, CH.row g9 0 (a1.map (Value.int .u8))]) C192 C196
          refine ⟨_, rfl, ⟨trivial, trivial⟩, ?_⟩
          refine WA.take none [] 7 rfl (by kernel_rfl) (by kernel_rfl) (show _ = #[true, true, true, true, true, true, true, true, false] from rfl) trivial ⟨trivial, trivial⟩ (fun _ hC_ => Yl.pickT (v := .bool r195) (congrArg Value.bool (decide_eq_true hc193)) rfl) ?_
          refine WA.take none [] 8 rfl (by kernel_rfl) (by kernel_rfl) (show _ = #[true, true, true, true, true, true, true, true, true] from rfl) trivial ⟨trivial, trivial⟩ (fun _ hC_ => Yl.assign (v := .bool r195) rfl) ?_
          refine WA.done (by kernel_rfl) ?_
          have C198 : Ctx _ _ _ _ F [CH.row g9 0 (a1.map (Value.int .u8))] := Ctx.drop [] [CH.row g9 0 (a1.map (Value.int .u8))] C197
          cases hX119
          refine thenE_n ?_
          exact ⟨rfl, C198⟩
        · skip
          refine WA.up1Off 6 (by kernel_rfl) rfl rfl (congrArg Value.bool (decide_eq_false hc193)) rfl (show _ = #[true, true, true, true, true, true, true, false, false] from rfl) ⟨trivial, trivial⟩ ?_
          refine WA.take none [] 7 rfl (by kernel_rfl) (by kernel_rfl) (show _ = #[true, true, true, true, true, true, true, true, false] from rfl) trivial ⟨trivial, trivial⟩ (fun _ hC_ => Yl.pickF (v := .bool false) (congrArg Value.bool (decide_eq_false hc193)) rfl) ?_
          refine WA.take none [] 8 rfl (by kernel_rfl) (by kernel_rfl) (show _ = #[true, true, true, true, true, true, true, true, true] from rfl) trivial ⟨trivial, trivial⟩ (fun _ hC_ => Yl.assign (v := .bool false) rfl) ?_
          refine WA.done (by kernel_rfl) ?_
          have C199 : Ctx _ _ _ _ F [CH.row g9 0 (a1.map (Value.int .u8))] := Ctx.drop [] [CH.row g9 0 (a1.map (Value.int .u8))] C192
          cases hX119
          refine thenE_n ?_
          exact ⟨rfl, C199⟩
      · skip
        rintro env_ w_ ⟨ho116, C118⟩
        refine W.ret ?_
        refine thenE_r ?_
        have C200 : Ctx _ _ _ _ F [] := Ctx.drop [] [] C118
        have e201 := Option.some.inj H
        subst e201
        exact post_r (resE1 rfl ho116) ⟨rfl, C200⟩
    · skip
      refine W.condF (ho16.trans (congrArg Value.bool (Bool.eq_false_iff.2 hc20))) ?_
      refine W.skip ?_
      refine W.seq ?_
      refine W.region rfl ?_
      refine WL.val (Yl.assign (v := .int .i64 1) rfl) ?_
      refine WL.done ?_
      refine W.seq ?_
      obtain ⟨x213, hX215, H⟩ := bindE H
      refine W.cutM (fun env_ w_ => env_ 0 = .slice A1 n3 c2 ∧ env_ 3 = .pointer (some ⟨g9, 0, none⟩) ∧ env_ 5 = .int .i64 x213 ∧ Ctx w F D w_ F [CH.row g9 0 (a1.map (Value.int .u8))]) ?_ ?_
      · skip
        refine W.block ?_
        refine W.loop (fun g_ env_ w_ => ∃ (x219 : Int), env_ 0 = .slice A1 n3 c2 ∧ env_ 3 = .pointer (some ⟨g9, 0, none⟩) ∧ env_ 5 = .int .i64 x219 ∧ Ctx w F D w_ F [CH.row g9 0 (a1.map (Value.int .u8))] ∧ juratlaw08_ProofGrows.l1 g_ a0 x219 = some x213) k ⟨1, ho17, ho18, rfl, C19, hX215⟩ ?_
        clear hX215
        rintro g_ env_ w_ ⟨x219, ho216, ho217, ho218, C220, hX215⟩
        rcases g_ with _ | k222
        · exact absurd hX215 (by simp [juratlaw08_ProofGrows.l1])
        rw [juratlaw08_ProofGrows.l1] at hX215
        refine W.seq ?_
        refine W.seq ?_
        refine W.region rfl ?_
        refine WL.val (Yl.move (v := .int .i64 x219) ho218) ?_
        refine WL.val (Yl.mul (m := 2) (n := x219) (r := wi64 (2 * x219)) rfl rfl rfl) ?_
        refine WL.val (Yl.move (v := .slice A1 n3 c2) ho216) ?_
        refine WL.val (Yl.lenN (A := A1) (l := n3) (q := c2) (n := (a0.length : Int)) rfl Tryd.underlying31 (by omega)) ?_
        refine WL.val (Yl.lss (m := wi64 (2 * x219)) (n := (a0.length : Int)) (q := decide ((wi64 (2 * x219)) < (a0.length : Int))) rfl rfl rfl) ?_
        refine WL.done ?_
        rcases iteE hX215 with ⟨hc223, hX215⟩ | ⟨hc223, hX215⟩
        · skip
          refine W.condT (congrArg Value.bool (decide_eq_true hc223)) ?_
          refine W.skip ?_
          refine W.block ?_
          refine W.region rfl ?_
          refine WL.val (Yl.move (v := .int .i64 x219) ho218) ?_
          refine WL.val (Yl.mul (m := 2) (n := x219) (r := wi64 (2 * x219)) rfl rfl rfl) ?_
          refine WL.val (Yl.assign (v := .int .i64 (wi64 (2 * x219))) rfl) ?_
          refine WL.done ?_
          refine inB_n ?_
          exact thenE_n ⟨k222, Nat.lt_succ_self _, wi64 (2 * x219), ho216, ho217, rfl, C220, hX215⟩
        · skip
          refine W.condF (congrArg Value.bool (decide_eq_false hc223)) ?_
          refine W.exit ?_
          refine thenE_x ?_
          refine thenE_x ?_
          refine inB_here ?_
          cases hX215
          refine thenE_n ?_
          exact ⟨ho216, ho217, ho218, C220⟩
      · skip
        rintro env_ w_ ⟨ho210, ho211, ho212, C214⟩
        refine W.seq ?_
        refine W.region rfl ?_
        refine WL.val (Yl.move (v := .slice A1 n3 c2) ho210) ?_
        obtain ⟨r225, hg224, H⟩ := bindE H
        refine WL.call (args := #[.slice A1 n3 c2]) (Yenter.fn Tryd.func23 (by kernel_rfl) rfl (argsE (.cons rfl .nil))) (juratlaw08_own.calls k _ F A1 c2 n3 a0 (Ctx.pre (qs := []) (rest := [CH.row g9 0 (a1.map (Value.int .u8))]) C214) hn4 hl5 hm6 hS7 r225 hg224) ?_
        rintro e_ w_ ⟨A226, c227, n228, p230, rfl, C232, hn229, hR231⟩
        refine ⟨_, rfl, ?_⟩
        have C233 : Ctx _ _ _ _ F [p230, CH.row g9 0 (a1.map (Value.int .u8))] := Ctx.call (qs := []) (rest := [CH.row g9 0 (a1.map (Value.int .u8))]) C214 C232
        have le234 : CH.le F (CH.join F p230) := CH.le_joinL _ _
        have lp235 : CH.le p230 (CH.join F p230) := CH.le_joinR (Ctx.dis_of [] [CH.row g9 0 (a1.map (Value.int .u8))] C233)
        have C236 : Ctx _ _ _ _ (CH.join F p230) [CH.row g9 0 (a1.map (Value.int .u8))] := Ctx.freeze [] [CH.row g9 0 (a1.map (Value.int .u8))] C233
        obtain ⟨r238, hg237, H⟩ := bindE H
        refine WL.call (args := #[.slice A226 n228 c227]) (Yenter.fn Tryd.func22 (by kernel_rfl) rfl (argsE (.cons rfl .nil))) (proof_Root.calls k _ (CH.join F p230) A226 c227 n228 r225 (Ctx.pre (qs := []) (rest := [CH.row g9 0 (a1.map (Value.int .u8))]) C236) hn229 (Row.len_le hR231).1 (Row.len_le hR231).2.1 (Sl.mono (Row.sl hR231) le234 lp235) (CH.le_trans hG1 (CH.le_trans (CH.le_refl _) le234)) (CH.le_trans hG3 (CH.le_trans (CH.le_refl _) le234)) r238 hg237) ?_
        rintro e_ w_ ⟨rfl, C240, ha239⟩
        refine ⟨_, rfl, ?_⟩
        have C241 : Ctx _ _ _ _ F [p230, CH.row g9 0 (a1.map (Value.int .u8))] := Ctx.callL (qs := []) (rest := [p230, CH.row g9 0 (a1.map (Value.int .u8))]) C233 le234 C240
        obtain ⟨g242, w243, hy244, C245⟩ := ev_alloc (P := Tryd.prog) (e := 33) ((List.replicate 32 (0 : Int)).map (Value.int .u8)) C241 zr33 rfl
        refine WL.val (hy244 _ _) ?_
        obtain ⟨w246, hy247, C248⟩ := ev_set (P := Tryd.prog) (ps1 := []) (ps2 := [p230, CH.row g9 0 (a1.map (Value.int .u8))]) (t := 33) (o := 0) ((List.replicate 32 (0 : Int)).map (Value.int .u8)) [] ((List.replicate 32 (0 : Int)).map (Value.int .u8)) [] (r238.map (Value.int .u8)) (.agg (List.toArray (r238.map (Value.int .u8)))) C245 (by first | (simp only [List.length_append, List.length_map, List.length_cons, List.length_nil, (List.length_replicate ..), ha239]; done) | simp [(List.length_replicate ..), ha239]) (by first | (simp only [List.length_append, List.length_map, List.length_cons, List.length_nil, (List.length_replicate ..), ha239]; done) | simp [(List.length_replicate ..), ha239]) (by first | (simp only [List.length_append, List.length_map, List.length_cons, List.length_nil, (List.length_replicate ..), ha239]; done) | simp [(List.length_replicate ..), ha239]) rfl (one_ints _ _) (sz_of sz33 (by first | (simp only [List.length_append, List.length_map, List.length_cons, List.length_nil, ha239]; done) | simp [ha239]))
        have C249 : Ctx _ _ _ _ F [CH.row g242 0 (r238.map (Value.int .u8)), p230, CH.row g9 0 (a1.map (Value.int .u8))] := (by simpa using C248)
        refine WL.skip (hy247 _ _ _ _ rfl rfl) ?_
        refine WL.done ?_
        refine W.seq ?_
        refine W.seq ?_
        refine W.regionA [([], CH.row g242 0 (r238.map (Value.int .u8)))] (by kernel_rfl) ?_
        have C304 := Ctx.drewN C249 1
        refine WA.take (some 0) [12] 0 rfl (by kernel_rfl) (by kernel_rfl) (show _ = #[true, false, false, false, false, false, false, false, false, false, false, false, false] from rfl) (Ctx.sub_of [] [p230, CH.row g9 0 (a1.map (Value.int .u8))] C304) ⟨(Ctx.sub_of [] [p230, CH.row g9 0 (a1.map (Value.int .u8))] C304), trivial⟩ (fun _ hC_ => Yl.loadVA (g := g242) (off := 0) (o := 0) (cs := r238.map (Value.int .u8)) (us := r238.map (Value.int .u8)) rfl Tryd.underlying33 rfl (sz_of sz33 (by first | (simp only [List.length_append, List.length_map, List.length_cons, List.length_nil, ha239]; done) | simp [ha239])) (show Sub (CH.row g242 0 (r238.map (Value.int .u8))) _ from hC_) (take_all _)) ?_
        refine WA.take none [] 1 rfl (by kernel_rfl) (by kernel_rfl) (show _ = #[true, true, false, false, false, false, false, false, false, false, false, false, false] from rfl) trivial ⟨(Ctx.sub_of [] [p230, CH.row g9 0 (a1.map (Value.int .u8))] C304), trivial⟩ (fun _ hC_ => Yl.move (v := .slice A1 n3 c2) ho210) ?_
        refine WA.take none [] 2 rfl (by kernel_rfl) (by kernel_rfl) (show _ = #[true, true, true, false, false, false, false, false, false, false, false, false, false] from rfl) trivial ⟨(Ctx.sub_of [] [p230, CH.row g9 0 (a1.map (Value.int .u8))] C304), trivial⟩ (fun _ hC_ => Yl.move (v := .int .i64 x213) ho212) ?_
        obtain ⟨hc305, H⟩ := guardE H
        have hn306 : x213.toNat = (a0.take x213.toNat).length := by rw [List.length_take]; omega
        refine WA.take none [] 3 rfl (by kernel_rfl) (by kernel_rfl) (show _ = #[true, true, true, true, false, false, false, false, false, false, false, false, false] from rfl) trivial ⟨(Ctx.sub_of [] [p230, CH.row g9 0 (a1.map (Value.int .u8))] C304), trivial⟩ (fun _ hC_ => Yl.sliceHi rfl Tryd.underlying31 sz33 rfl ⟨hc305.1, by omega⟩) ?_
        refine WA.take none [] 6 rfl (by kernel_rfl) (by kernel_rfl) (show _ = #[true, true, true, true, false, false, true, false, false, false, false, false, false] from rfl) trivial ⟨(Ctx.sub_of [] [p230, CH.row g9 0 (a1.map (Value.int .u8))] C304), trivial⟩ (fun _ hC_ => Yl.move (v := .slice A1 n3 c2) ho210) ?_
        refine WA.take none [] 7 rfl (by kernel_rfl) (by kernel_rfl) (show _ = #[true, true, true, true, false, false, true, true, false, false, false, false, false] from rfl) trivial ⟨(Ctx.sub_of [] [p230, CH.row g9 0 (a1.map (Value.int .u8))] C304), trivial⟩ (fun _ hC_ => Yl.move (v := .int .i64 x213) ho212) ?_
        obtain ⟨hc308, H⟩ := guardE H
        have hl317 : a0.length ≤ c2 ∧ c2 ≤ maxLen := ⟨hl5, hm6⟩
        obtain ⟨A309, c310, n311, hv312, hn313, hl314, hm315, hS316⟩ := Sl.cut hS7 (c := c2) hl317.2 x213.toNat a0.length c2 (by omega) (by omega) (by omega) (by omega)
        rw [List.take_length] at hn313 hl314 hS316
        refine WA.take none [] 8 rfl (by kernel_rfl) (by kernel_rfl) (show _ = #[true, true, true, true, false, false, true, true, true, false, false, false, false] from rfl) trivial ⟨(Ctx.sub_of [] [p230, CH.row g9 0 (a1.map (Value.int .u8))] C304), trivial⟩ (fun _ hC_ => Yl.slice x213.toNat a0.length c2 rfl Tryd.underlying31 sz33 rfl (hn4).symm (OB.mk rfl (by omega)) (by simp) (by omega) (by omega) (by omega) hv312) ?_
        obtain ⟨r319, hg318, H⟩ := bindE H
        refine WA.up1 4 (by kernel_rfl) (Up.call (args := #[.slice A1 x213.toNat c2]) rfl (by kernel_rfl) (show _ = #[true, true, true, true, true, false, true, true, true, false, false, false, false] from rfl) (Yenter.fn Tryd.func23 (by kernel_rfl) rfl (argsE (.cons rfl .nil))) (juratlaw08_own.calls k _ F A1 c2 x213.toNat (a0.take x213.toNat) (Ctx.pre (qs := []) (rest := [CH.row g242 0 (r238.map (Value.int .u8)), p230, CH.row g9 0 (a1.map (Value.int .u8))]) C304) hn306 (by rw [List.length_take]; omega) hm6 (Sl.take hS7 _) r319 hg318) ?_)
        rintro e_ w_ ⟨A320, c321, n322, p324, rfl, C326, hn323, hR325⟩
        have C327 : Ctx _ _ _ _ F [p324, CH.row g242 0 (r238.map (Value.int .u8)), p230, CH.row g9 0 (a1.map (Value.int .u8))] := Ctx.call (qs := []) (rest := [CH.row g242 0 (r238.map (Value.int .u8)), p230, CH.row g9 0 (a1.map (Value.int .u8))]) C304 C326
        refine ⟨_, rfl, ⟨(Ctx.sub_of [p324] [p230, CH.row g9 0 (a1.map (Value.int .u8))] C327), trivial⟩, ?_⟩
        have le328 : CH.le F (CH.join F p324) := CH.le_joinL _ _
        have lp329 : CH.le p324 (CH.join F p324) := CH.le_joinR (Ctx.dis_of [] [CH.row g242 0 (r238.map (Value.int .u8)), p230, CH.row g9 0 (a1.map (Value.int .u8))] C327)
        have C330 : Ctx _ _ _ _ (CH.join F p324) [CH.row g242 0 (r238.map (Value.int .u8)), p230, CH.row g9 0 (a1.map (Value.int .u8))] := Ctx.freeze [] [CH.row g242 0 (r238.map (Value.int .u8)), p230, CH.row g9 0 (a1.map (Value.int .u8))] C327
        obtain ⟨r332, hg331, H⟩ := bindE H
        refine WA.up1 5 (by kernel_rfl) (Up.call (args := #[.slice A320 n322 c321]) rfl (by kernel_rfl) (show _ = #[true, true, true, true, true, true, true, true, true, false, false, false, false] from rfl) (Yenter.fn Tryd.func22 (by kernel_rfl) rfl (argsE (.cons rfl .nil))) (proof_Root.calls k _ (CH.join F p324) A320 c321 n322 r319 (Ctx.pre (qs := []) (rest := [CH.row g242 0 (r238.map (Value.int .u8)), p230, CH.row g9 0 (a1.map (Value.int .u8))]) C330) hn323 (Row.len_le hR325).1 (Row.len_le hR325).2.1 (Sl.mono (Row.sl hR325) le328 lp329) (CH.le_trans hG1 (CH.le_trans (CH.le_refl _) le328)) (CH.le_trans hG3 (CH.le_trans (CH.le_refl _) le328)) r332 hg331) ?_)
        rintro e_ w_ ⟨rfl, C334, ha333⟩
        have C335 : Ctx _ _ _ _ F [p324, CH.row g242 0 (r238.map (Value.int .u8)), p230, CH.row g9 0 (a1.map (Value.int .u8))] := Ctx.callL (qs := []) (rest := [p324, CH.row g242 0 (r238.map (Value.int .u8)), p230, CH.row g9 0 (a1.map (Value.int .u8))]) C327 le328 C334
        refine ⟨_, rfl, ⟨(Ctx.sub_of [p324] [p230, CH.row g9 0 (a1.map (Value.int .u8))] C335), trivial⟩, ?_⟩
        obtain ⟨r337, hg336, H⟩ := bindE H
        refine WA.up1 9 (by kernel_rfl) (Up.call (args := #[.slice A309 n311 c310]) rfl (by kernel_rfl) (show _ = #[true, true, true, true, true, true, true, true, true, true, false, false, false] from rfl) (Yenter.fn Tryd.func23 (by kernel_rfl) rfl (argsE (.cons rfl .nil))) (juratlaw08_own.calls k _ F A309 c310 n311 (a0.drop x213.toNat) (Ctx.pre (qs := []) (rest := [p324, CH.row g242 0 (r238.map (Value.int .u8)), p230, CH.row g9 0 (a1.map (Value.int .u8))]) C335) hn313 hl314 hm315 hS316 r337 hg336) ?_)
        rintro e_ w_ ⟨A338, c339, n340, p342, rfl, C344, hn341, hR343⟩
        have C345 : Ctx _ _ _ _ F [p342, p324, CH.row g242 0 (r238.map (Value.int .u8)), p230, CH.row g9 0 (a1.map (Value.int .u8))] := Ctx.call (qs := []) (rest := [p324, CH.row g242 0 (r238.map (Value.int .u8)), p230, CH.row g9 0 (a1.map (Value.int .u8))]) C335 C344
        refine ⟨_, rfl, ⟨(Ctx.sub_of [p342, p324] [p230, CH.row g9 0 (a1.map (Value.int .u8))] C345), trivial⟩, ?_⟩
        have le346 : CH.le F (CH.join F p342) := CH.le_joinL _ _
        have lp347 : CH.le p342 (CH.join F p342) := CH.le_joinR (Ctx.dis_of [] [p324, CH.row g242 0 (r238.map (Value.int .u8)), p230, CH.row g9 0 (a1.map (Value.int .u8))] C345)
        have C348 : Ctx _ _ _ _ (CH.join F p342) [p324, CH.row g242 0 (r238.map (Value.int .u8)), p230, CH.row g9 0 (a1.map (Value.int .u8))] := Ctx.freeze [] [p324, CH.row g242 0 (r238.map (Value.int .u8)), p230, CH.row g9 0 (a1.map (Value.int .u8))] C345
        obtain ⟨r350, hg349, H⟩ := bindE H
        refine WA.up1 10 (by kernel_rfl) (Up.call (args := #[.slice A338 n340 c339]) rfl (by kernel_rfl) (show _ = #[true, true, true, true, true, true, true, true, true, true, true, false, false] from rfl) (Yenter.fn Tryd.func22 (by kernel_rfl) rfl (argsE (.cons rfl .nil))) (proof_Root.calls k _ (CH.join F p342) A338 c339 n340 r337 (Ctx.pre (qs := []) (rest := [p324, CH.row g242 0 (r238.map (Value.int .u8)), p230, CH.row g9 0 (a1.map (Value.int .u8))]) C348) hn341 (Row.len_le hR343).1 (Row.len_le hR343).2.1 (Sl.mono (Row.sl hR343) le346 lp347) (CH.le_trans hG1 (CH.le_trans (CH.le_refl _) le346)) (CH.le_trans hG3 (CH.le_trans (CH.le_refl _) le346)) r350 hg349) ?_)
        rintro e_ w_ ⟨rfl, C352, ha351⟩
        have C353 : Ctx _ _ _ _ F [p342, p324, CH.row g242 0 (r238.map (Value.int .u8)), p230, CH.row g9 0 (a1.map (Value.int .u8))] := Ctx.callL (qs := []) (rest := [p342, p324, CH.row g242 0 (r238.map (Value.int .u8)), p230, CH.row g9 0 (a1.map (Value.int .u8))]) C345 le346 C352
        refine ⟨_, rfl, ⟨(Ctx.sub_of [p342, p324] [p230, CH.row g9 0 (a1.map (Value.int .u8))] C353), trivial⟩, ?_⟩
        obtain ⟨r355, hg354, H⟩ := bindE H
        refine WA.up1 11 (by kernel_rfl) (Up.call (args := #[.agg (List.toArray (r332.map (Value.int .u8))), .agg (List.toArray (r350.map (Value.int .u8)))]) rfl (by kernel_rfl) (show _ = #[true, true, true, true, true, true, true, true, true, true, true, true, false] from rfl) (Yenter.fn Tryd.func25 (by kernel_rfl) rfl (argsE (.cons rfl (.cons rfl .nil)))) (proof_Node.calls k _ F r332 r350 (Ctx.pre (qs := []) (rest := [p342, p324, CH.row g242 0 (r238.map (Value.int .u8)), p230, CH.row g9 0 (a1.map (Value.int .u8))]) C353) ha333 ha351 (CH.le_trans hG1 (CH.le_trans (CH.le_refl _) (CH.le_refl _))) (CH.le_trans hG3 (CH.le_trans (CH.le_refl _) (CH.le_refl _))) r355 hg354) ?_)
        rintro e_ w_ ⟨rfl, C357, ha356⟩
        have C358 : Ctx _ _ _ _ F [p342, p324, CH.row g242 0 (r238.map (Value.int .u8)), p230, CH.row g9 0 (a1.map (Value.int .u8))] := Ctx.call (qs := []) (rest := [p342, p324, CH.row g242 0 (r238.map (Value.int .u8)), p230, CH.row g9 0 (a1.map (Value.int .u8))]) C353 C357
        refine ⟨_, rfl, ⟨(Ctx.sub_of [p342, p324] [p230, CH.row g9 0 (a1.map (Value.int .u8))] C358), trivial⟩, ?_⟩
        refine WA.take none [] 12 rfl (by kernel_rfl) (by kernel_rfl) (show _ = #[true, true, true, true, true, true, true, true, true, true, true, true, true] from rfl) trivial ⟨(Ctx.sub_of [p342, p324] [p230, CH.row g9 0 (a1.map (Value.int .u8))] C358), trivial⟩ (fun _ hC_ => Yl.aneq (n := 2) (xs := r238.map (Value.int .u8)) (ys := r355.map (Value.int .u8)) rfl rfl eg33 (EqV.arrI Tryd.underlying33 Tryd.underlying5 sz5 ha239 ha356) (by decide) rfl) ?_
        refine WA.done (by kernel_rfl) ?_
        rcases iteE H with ⟨hc359, H⟩ | ⟨hc359, H⟩
        · skip
          refine W.condF (congrArg Value.bool (ndec_t hc359)) ?_
          refine W.skip ?_
          refine W.seq ?_
          obtain ⟨x661, hX663, H⟩ := bindE H
          refine W.cutM (fun env_ w_ => env_ 4 = .bool x661 ∧ Ctx w F D w_ F [p342, p324, CH.row g242 0 (r238.map (Value.int .u8)), p230, CH.row g9 0 (a1.map (Value.int .u8))]) ?_ ?_
          · skip
            rcases iteE hX663 with ⟨hc664, hX663⟩ | ⟨hc664, hX663⟩
            · skip
              refine W.regionA [([14, 18], CH.row g9 0 (a1.map (Value.int .u8))), ([14, 18], CH.row g242 0 (r238.map (Value.int .u8)))] (by kernel_rfl) ?_
              have C798 := Ctx.drewN C358 1
              refine WA.take none [] 0 rfl (by kernel_rfl) (by kernel_rfl) (show _ = #[true, false, false, false, false, false, false, false, false, false, false, false, false, false, false, false, false, false, false, false, false] from rfl) trivial ⟨(Ctx.sub_of [p342, p324, CH.row g242 0 (r238.map (Value.int .u8)), p230] [] C798), (Ctx.sub_of [p342, p324] [p230, CH.row g9 0 (a1.map (Value.int .u8))] C798), trivial⟩ (fun _ hC_ => Yl.move (v := .int .i64 x213) ho212) ?_
              refine WA.take none [] 1 rfl (by kernel_rfl) (by kernel_rfl) (show _ = #[true, true, false, false, false, false, false, false, false, false, false, false, false, false, false, false, false, false, false, false, false] from rfl) trivial ⟨(Ctx.sub_of [p342, p324, CH.row g242 0 (r238.map (Value.int .u8)), p230] [] C798), (Ctx.sub_of [p342, p324] [p230, CH.row g9 0 (a1.map (Value.int .u8))] C798), trivial⟩ (fun _ hC_ => Yl.mul (m := 2) (n := x213) (r := wi64 (2 * x213)) rfl rfl rfl) ?_
              refine WA.take none [] 2 rfl (by kernel_rfl) (by kernel_rfl) (show _ = #[true, true, true, false, false, false, false, false, false, false, false, false, false, false, false, false, false, false, false, false, false] from rfl) trivial ⟨(Ctx.sub_of [p342, p324, CH.row g242 0 (r238.map (Value.int .u8)), p230] [] C798), (Ctx.sub_of [p342, p324] [p230, CH.row g9 0 (a1.map (Value.int .u8))] C798), trivial⟩ (fun _ hC_ => Yl.move (v := .slice A1 n3 c2) ho210) ?_
              refine WA.take none [] 3 rfl (by kernel_rfl) (by kernel_rfl) (show _ = #[true, true, true, true, false, false, false, false, false, false, false, false, false, false, false, false, false, false, false, false, false] from rfl) trivial ⟨(Ctx.sub_of [p342, p324, CH.row g242 0 (r238.map (Value.int .u8)), p230] [] C798), (Ctx.sub_of [p342, p324] [p230, CH.row g9 0 (a1.map (Value.int .u8))] C798), trivial⟩ (fun _ hC_ => Yl.lenN (A := A1) (l := n3) (q := c2) (n := (a0.length : Int)) rfl Tryd.underlying31 (by omega)) ?_
              refine WA.take none [] 4 rfl (by kernel_rfl) (by kernel_rfl) (show _ = #[true, true, true, true, true, false, false, false, false, false, false, false, false, false, false, false, false, false, false, false, false] from rfl) trivial ⟨(Ctx.sub_of [p342, p324, CH.row g242 0 (r238.map (Value.int .u8)), p230] [] C798), (Ctx.sub_of [p342, p324] [p230, CH.row g9 0 (a1.map (Value.int .u8))] C798), trivial⟩ (fun _ hC_ => Yl.neq (m := wi64 (2 * x213)) (n := (a0.length : Int)) (q := !decide ((wi64 (2 * x213)) = (a0.length : Int))) rfl rfl rfl) ?_
              refine WA.take none [] 5 rfl (by kernel_rfl) (by kernel_rfl) (show _ = #[true, true, true, true, true, true, false, false, false, false, false, false, false, false, false, false, false, false, false, false, false] from rfl) trivial ⟨(Ctx.sub_of [p342, p324, CH.row g242 0 (r238.map (Value.int .u8)), p230] [] C798), (Ctx.sub_of [p342, p324] [p230, CH.row g9 0 (a1.map (Value.int .u8))] C798), trivial⟩ (fun _ hC_ => Yl.move (v := .bool (!decide ((wi64 (2 * x213)) = (a0.length : Int)))) rfl) ?_
              refine WA.takeOn none [] 6 rfl rfl (congrArg Value.bool (ndec_t hc664)) (by kernel_rfl) (by kernel_rfl) (show _ = #[true, true, true, true, true, true, true, false, false, false, false, false, false, false, false, false, false, false, false, false, false] from rfl) trivial ⟨(Ctx.sub_of [p342, p324, CH.row g242 0 (r238.map (Value.int .u8)), p230] [] C798), (Ctx.sub_of [p342, p324] [p230, CH.row g9 0 (a1.map (Value.int .u8))] C798), trivial⟩ (fun _ hC_ => Yl.move (v := .slice A1 n3 c2) ho210) ?_
              refine WA.takeOn (some 0) [9, 10, 11, 14, 15, 16, 17, 18, 19, 20] 8 rfl rfl (congrArg Value.bool (ndec_t hc664)) (by kernel_rfl) (by kernel_rfl) (show _ = #[true, true, true, true, true, true, true, false, true, false, false, false, false, false, false, false, false, false, false, false, false] from rfl) (Ctx.sub_of [p342, p324, CH.row g242 0 (r238.map (Value.int .u8)), p230] [] C798) ⟨(Ctx.sub_of [p342, p324, CH.row g242 0 (r238.map (Value.int .u8)), p230] [] C798), (Ctx.sub_of [p342, p324] [p230, CH.row g9 0 (a1.map (Value.int .u8))] C798), trivial⟩ (fun _ hC_ => Yl.loadVA (g := g9) (off := 0) (o := 0) (cs := a1.map (Value.int .u8)) (us := a1.map (Value.int .u8)) ho211 Tryd.underlying33 rfl (sz_of sz33 (by first | (simp only [List.length_append, List.length_map, List.length_cons, List.length_nil, ha8]; done) | simp [ha8])) (show Sub (CH.row g9 0 (a1.map (Value.int .u8))) _ from hC_) (take_all _)) ?_
              refine WA.takeOn (some 1) [14, 15, 16, 17, 18, 19, 20] 12 rfl rfl (congrArg Value.bool (ndec_t hc664)) (by kernel_rfl) (by kernel_rfl) (show _ = #[true, true, true, true, true, true, true, false, true, false, false, false, true, false, false, false, false, false, false, false, false] from rfl) (Ctx.sub_of [p342, p324] [p230, CH.row g9 0 (a1.map (Value.int .u8))] C798) ⟨(Ctx.sub_of [p342, p324, CH.row g242 0 (r238.map (Value.int .u8)), p230] [] C798), (Ctx.sub_of [p342, p324] [p230, CH.row g9 0 (a1.map (Value.int .u8))] C798), trivial⟩ (fun _ hC_ => Yl.loadVA (g := g242) (off := 0) (o := 0) (cs := r238.map (Value.int .u8)) (us := r238.map (Value.int .u8)) rfl Tryd.underlying33 rfl (sz_of sz33 (by first | (simp only [List.length_append, List.length_map, List.length_cons, List.length_nil, ha239]; done) | simp [ha239])) (show Sub (CH.row g242 0 (r238.map (Value.int .u8))) _ from hC_) (take_all _)) ?_
              refine WA.takeOn (some 0) [14, 15, 16, 17, 18, 19, 20] 13 rfl rfl (congrArg Value.bool (ndec_t hc664)) (by kernel_rfl) (by kernel_rfl) (show _ = #[true, true, true, true, true, true, true, false, true, false, false, false, true, true, false, false, false, false, false, false, false] from rfl) (Ctx.sub_of [p342, p324, CH.row g242 0 (r238.map (Value.int .u8)), p230] [] C798) ⟨(Ctx.sub_of [p342, p324, CH.row g242 0 (r238.map (Value.int .u8)), p230] [] C798), (Ctx.sub_of [p342, p324] [p230, CH.row g9 0 (a1.map (Value.int .u8))] C798), trivial⟩ (fun _ hC_ => Yl.loadVA (g := g9) (off := 0) (o := 0) (cs := a1.map (Value.int .u8)) (us := a1.map (Value.int .u8)) ho211 Tryd.underlying33 rfl (sz_of sz33 (by first | (simp only [List.length_append, List.length_map, List.length_cons, List.length_nil, ha8]; done) | simp [ha8])) (show Sub (CH.row g9 0 (a1.map (Value.int .u8))) _ from hC_) (take_all _)) ?_
              obtain ⟨rs799_7_0, rs799_7h, hX663⟩ := bindE hX663
              refine WA.joinAt (fun env_ w_ => ∃ (A870 : Option Addr) (c871 : Nat) (n872 : Nat) (p874 : CH) (A877 : Option Addr) (c878 : Nat) (n879 : Nat) (p881 : CH), env_ 51 = .bool (!decide ((wi64 (2 * x213)) = (a0.length : Int))) ∧ env_ 53 = .slice A870 n872 c871 ∧ env_ 55 = .slice A877 n879 c878 ∧ env_ 58 = .agg (List.toArray (r238.map (Value.int .u8))) ∧ env_ 59 = .agg (List.toArray (a1.map (Value.int .u8))) ∧ Ctx w F D w_ F [p874, p881, p342, p324, CH.row g242 0 (r238.map (Value.int .u8)), p230, CH.row g9 0 (a1.map (Value.int .u8))] ∧ n872 = rs799_7_0.length ∧ Row (Kd.arrI 32 .u8) F p874 (.slice A870 n872 c871) rs799_7_0 ∧ n879 = [a1].length ∧ Row (Kd.arrI 32 .u8) F p881 (.slice A877 n879 c878) [a1]) #[true, true, true, true, true, true, true, true, true, true, false, false, true, true, false, false, false, false, false, false, false] 9 ?_ ?_
              · skip
                intro kJ886
                refine WA.up2 7 9 (by kernel_rfl) ?_ ?_
                · skip
                  refine Up.callG (args := #[.slice A1 n3 c2]) rfl rfl (congrArg Value.bool (ndec_t hc664)) (by kernel_rfl) (show _ = #[true, true, true, true, true, true, true, true, true, false, false, false, true, true, false, false, false, false, false, false, false] from rfl) (Yenter.fn Tryd.func23 (by kernel_rfl) rfl (argsE (.cons rfl .nil))) (juratlaw08_own.calls k _ F A1 c2 n3 a0 (Ctx.pre (qs := []) (rest := [p342, p324, CH.row g242 0 (r238.map (Value.int .u8)), p230, CH.row g9 0 (a1.map (Value.int .u8))]) C798) hn4 hl5 hm6 hS7 rs799_7_0 rs799_7h) ?_
                  rintro e_ w_ ⟨A887, c888, n889, p891, rfl, C893, hn890, hR892⟩
                  have C894 : Ctx _ _ _ _ F [p891, p342, p324, CH.row g242 0 (r238.map (Value.int .u8)), p230, CH.row g9 0 (a1.map (Value.int .u8))] := Ctx.call (qs := []) (rest := [p342, p324, CH.row g242 0 (r238.map (Value.int .u8)), p230, CH.row g9 0 (a1.map (Value.int .u8))]) C798 C893
                  refine ⟨_, rfl, ⟨(Ctx.sub_of [p891, p342, p324, CH.row g242 0 (r238.map (Value.int .u8)), p230] [] C894), (Ctx.sub_of [p891, p342, p324] [p230, CH.row g9 0 (a1.map (Value.int .u8))] C894), trivial⟩, ?_⟩
                  obtain ⟨A895, c896, n897, p898, w899, hn900, hy901, C902, hR903⟩ := ev_lit1' (P := Tryd.prog) 33 (Kd.arrI 32 .u8) C894 Tryd.underlying31 ti33 ⟨by decide, by decide⟩ a1 (.agg (List.toArray (a1.map (Value.int .u8)))) ⟨rfl, ha8⟩
                  refine WA.up1 9 (by kernel_rfl) (Up.valG rfl rfl (congrArg Value.bool (ndec_t hc664)) rfl (show _ = #[true, true, true, true, true, true, true, true, true, true, false, false, true, true, false, false, false, false, false, false, false] from rfl) (hy901 _ _ _ rfl) ⟨(Ctx.sub_of [p898, p891, p342, p324, CH.row g242 0 (r238.map (Value.int .u8)), p230] [] C902), (Ctx.sub_of [p898, p891, p342, p324] [p230, CH.row g9 0 (a1.map (Value.int .u8))] C902), trivial⟩ ?_)
                  have C904 : Ctx _ _ _ _ F [p891, p898, p342, p324, CH.row g242 0 (r238.map (Value.int .u8)), p230, CH.row g9 0 (a1.map (Value.int .u8))] := Ctx.swap [] [p342, p324, CH.row g242 0 (r238.map (Value.int .u8)), p230, CH.row g9 0 (a1.map (Value.int .u8))] C902
                  exact kJ886 _ _ ⟨A887, c888, n889, p891, A895, c896, n897, p898, rfl, rfl, rfl, rfl, rfl, C904, hn890, hR892, hn900, hR903⟩
                · skip
                  obtain ⟨A905, c906, n907, p908, w909, hn910, hy911, C912, hR913⟩ := ev_lit1' (P := Tryd.prog) 33 (Kd.arrI 32 .u8) C798 Tryd.underlying31 ti33 ⟨by decide, by decide⟩ a1 (.agg (List.toArray (a1.map (Value.int .u8)))) ⟨rfl, ha8⟩
                  refine Up.valG rfl rfl (congrArg Value.bool (ndec_t hc664)) rfl (show _ = #[true, true, true, true, true, true, true, false, true, true, false, false, true, true, false, false, false, false, false, false, false] from rfl) (hy911 _ _ _ rfl) ⟨(Ctx.sub_of [p908, p342, p324, CH.row g242 0 (r238.map (Value.int .u8)), p230] [] C912), (Ctx.sub_of [p908, p342, p324] [p230, CH.row g9 0 (a1.map (Value.int .u8))] C912), trivial⟩ ?_
                  refine WA.up1 7 (by kernel_rfl) (Up.callG (args := #[.slice A1 n3 c2]) rfl rfl (congrArg Value.bool (ndec_t hc664)) (by kernel_rfl) (show _ = #[true, true, true, true, true, true, true, true, true, true, false, false, true, true, false, false, false, false, false, false, false] from rfl) (Yenter.fn Tryd.func23 (by kernel_rfl) rfl (argsE (.cons rfl .nil))) (juratlaw08_own.calls k _ F A1 c2 n3 a0 (Ctx.pre (qs := []) (rest := [p908, p342, p324, CH.row g242 0 (r238.map (Value.int .u8)), p230, CH.row g9 0 (a1.map (Value.int .u8))]) C912) hn4 hl5 hm6 hS7 rs799_7_0 rs799_7h) ?_)
                  rintro e_ w_ ⟨A914, c915, n916, p918, rfl, C920, hn917, hR919⟩
                  have C921 : Ctx _ _ _ _ F [p918, p908, p342, p324, CH.row g242 0 (r238.map (Value.int .u8)), p230, CH.row g9 0 (a1.map (Value.int .u8))] := Ctx.call (qs := []) (rest := [p908, p342, p324, CH.row g242 0 (r238.map (Value.int .u8)), p230, CH.row g9 0 (a1.map (Value.int .u8))]) C912 C920
                  refine ⟨_, rfl, ⟨(Ctx.sub_of [p918, p908, p342, p324, CH.row g242 0 (r238.map (Value.int .u8)), p230] [] C921), (Ctx.sub_of [p918, p908, p342, p324] [p230, CH.row g9 0 (a1.map (Value.int .u8))] C921), trivial⟩, ?_⟩
                  exact kJ886 _ _ ⟨A914, c915, n916, p918, A905, c906, n907, p908, rfl, rfl, rfl, rfl, rfl, C921, hn917, hR919, hn910, hR913⟩
              · skip
                rintro env_ w_ ⟨A870, c871, n872, p874, A877, c878, n879, p881, ho868, ho869, ho876, ho883, ho884, C885, hn873, hR875, hn880, hR882⟩
                obtain ⟨hc922, hX663⟩ := guardE hX663
                obtain ⟨A923, c924, n925, p926, w927, hn928, hy929, C930, hR931⟩ := ev_append' (P := Tryd.prog) (cb := c878) 33 (Kd.arrI 32 .u8) [] [p881, p342, p324, CH.row g242 0 (r238.map (Value.int .u8)), p230, CH.row g9 0 (a1.map (Value.int .u8))] C885 hR875 hn880 (Row.sl hR882) (Ctx.sub_of [p874] [p342, p324, CH.row g242 0 (r238.map (Value.int .u8)), p230, CH.row g9 0 (a1.map (Value.int .u8))] C885) Tryd.underlying31 ti33 rfl zo33 (by decide) (by decide) (by simpa using hc922)
                have C932 : Ctx _ _ _ _ F [p926, p881, p342, p324, CH.row g242 0 (r238.map (Value.int .u8)), p230, CH.row g9 0 (a1.map (Value.int .u8))] := C930
                refine WA.up1 10 (by kernel_rfl) (Up.valG rfl rfl (ho868.trans (congrArg Value.bool (ndec_t hc664))) rfl (show _ = #[true, true, true, true, true, true, true, true, true, true, true, false, true, true, false, false, false, false, false, false, false] from rfl) (hy929 _ _ _ _ ho869 ho876) ⟨(Ctx.sub_of [p926, p881, p342, p324, CH.row g242 0 (r238.map (Value.int .u8)), p230] [] C932), (Ctx.sub_of [p926, p881, p342, p324] [p230, CH.row g9 0 (a1.map (Value.int .u8))] C932), trivial⟩ ?_)
                have le933 : CH.le F (CH.join F p926) := CH.le_joinL _ _
                have lp934 : CH.le p926 (CH.join F p926) := CH.le_joinR (Ctx.dis_of [] [p881, p342, p324, CH.row g242 0 (r238.map (Value.int .u8)), p230, CH.row g9 0 (a1.map (Value.int .u8))] C932)
                have C935 : Ctx _ _ _ _ (CH.join F p926) [p881, p342, p324, CH.row g242 0 (r238.map (Value.int .u8)), p230, CH.row g9 0 (a1.map (Value.int .u8))] := Ctx.freeze [] [p881, p342, p324, CH.row g242 0 (r238.map (Value.int .u8)), p230, CH.row g9 0 (a1.map (Value.int .u8))] C932
                obtain ⟨r937, hg936, hX663⟩ := bindE hX663
                refine WA.up1 11 (by kernel_rfl) (Up.callG (args := #[.slice A923 n925 c924]) rfl rfl (ho868.trans (congrArg Value.bool (ndec_t hc664))) (by kernel_rfl) (show _ = #[true, true, true, true, true, true, true, true, true, true, true, true, true, true, false, false, false, false, false, false, false] from rfl) (Yenter.fn Tryd.func22 (by kernel_rfl) rfl (argsE (.cons rfl .nil))) (proof_Root.calls k _ (CH.join F p926) A923 c924 n925 (rs799_7_0 ++ [a1]) (Ctx.pre (qs := []) (rest := [p881, p342, p324, CH.row g242 0 (r238.map (Value.int .u8)), p230, CH.row g9 0 (a1.map (Value.int .u8))]) C935) hn928 (Row.len_le hR931).1 (Row.len_le hR931).2.1 (Sl.mono (Row.sl hR931) le933 lp934) (CH.le_trans hG1 (CH.le_trans (CH.le_refl _) le933)) (CH.le_trans hG3 (CH.le_trans (CH.le_refl _) le933)) r937 hg936) ?_)
                rintro e_ w_ ⟨rfl, C939, ha938⟩
                have C940 : Ctx _ _ _ _ F [p926, p881, p342, p324, CH.row g242 0 (r238.map (Value.int .u8)), p230, CH.row g9 0 (a1.map (Value.int .u8))] := Ctx.callL (qs := []) (rest := [p926, p881, p342, p324, CH.row g242 0 (r238.map (Value.int .u8)), p230, CH.row g9 0 (a1.map (Value.int .u8))]) C932 le933 C939
                refine ⟨_, rfl, ⟨(Ctx.sub_of [p926, p881, p342, p324, CH.row g242 0 (r238.map (Value.int .u8)), p230] [] C940), (Ctx.sub_of [p926, p881, p342, p324] [p230, CH.row g9 0 (a1.map (Value.int .u8))] C940), trivial⟩, ?_⟩
                obtain ⟨r942, hg941, hX663⟩ := bindE hX663
                refine WA.up1 14 (by kernel_rfl) (Up.callG (args := #[.agg (List.toArray (r238.map (Value.int .u8))), .agg (List.toArray (a1.map (Value.int .u8)))]) rfl rfl (ho868.trans (congrArg Value.bool (ndec_t hc664))) (by kernel_rfl) (show _ = #[true, true, true, true, true, true, true, true, true, true, true, true, true, true, true, false, false, false, false, false, false] from rfl) (Yenter.fn Tryd.func25 (by kernel_rfl) rfl (argsE (.cons ho883 (.cons ho884 .nil)))) (proof_Node.calls k _ F r238 a1 (Ctx.pre (qs := []) (rest := [p926, p881, p342, p324, CH.row g242 0 (r238.map (Value.int .u8)), p230, CH.row g9 0 (a1.map (Value.int .u8))]) C940) ha239 ha8 (CH.le_trans hG1 (CH.le_trans (CH.le_refl _) (CH.le_refl _))) (CH.le_trans hG3 (CH.le_trans (CH.le_refl _) (CH.le_refl _))) r942 hg941) ?_)
                rintro e_ w_ ⟨rfl, C944, ha943⟩
                have C945 : Ctx _ _ _ _ F [p926, p881, p342, p324, CH.row g242 0 (r238.map (Value.int .u8)), p230, CH.row g9 0 (a1.map (Value.int .u8))] := Ctx.call (qs := []) (rest := [p926, p881, p342, p324, CH.row g242 0 (r238.map (Value.int .u8)), p230, CH.row g9 0 (a1.map (Value.int .u8))]) C940 C944
                refine ⟨_, rfl, ⟨trivial, trivial, trivial⟩, ?_⟩
                refine WA.takeOn none [] 15 rfl rfl (ho868.trans (congrArg Value.bool (ndec_t hc664))) (by kernel_rfl) (by kernel_rfl) (show _ = #[true, true, true, true, true, true, true, true, true, true, true, true, true, true, true, true, false, false, false, false, false] from rfl) trivial ⟨trivial, trivial, trivial⟩ (fun _ hC_ => Yl.aeql (n := 2) (xs := r937.map (Value.int .u8)) (ys := r942.map (Value.int .u8)) rfl rfl eg33 (EqV.arrI Tryd.underlying33 Tryd.underlying5 sz5 ha938 ha943) (by decide)) ?_
                refine WA.take none [] 16 rfl (by kernel_rfl) (by kernel_rfl) (show _ = #[true, true, true, true, true, true, true, true, true, true, true, true, true, true, true, true, true, false, false, false, false] from rfl) trivial ⟨trivial, trivial, trivial⟩ (fun _ hC_ => Yl.pickF (v := .bool (decide (r937 = r942))) (ho868.trans (congrArg Value.bool (ndec_t hc664))) rfl) ?_
                refine WA.take none [] 17 rfl (by kernel_rfl) (by kernel_rfl) (show _ = #[true, true, true, true, true, true, true, true, true, true, true, true, true, true, true, true, true, true, false, false, false] from rfl) trivial ⟨trivial, trivial, trivial⟩ (fun _ hC_ => Yl.move (v := .bool (decide (r937 = r942))) rfl) ?_
                rcases iteE hX663 with ⟨hc946, hX663⟩ | ⟨hc946, hX663⟩
                · skip
                  obtain ⟨r948, hg947, hX663⟩ := bindE hX663
                  refine WA.up1 18 (by kernel_rfl) (Up.callG (args := #[]) rfl rfl (congrArg Value.bool (decide_eq_true hc946)) (by kernel_rfl) (show _ = #[true, true, true, true, true, true, true, true, true, true, true, true, true, true, true, true, true, true, true, false, false] from rfl) (Yenter.fn Tryd.func21 (by kernel_rfl) rfl (argsE .nil)) (juratlaw08_awake.calls k _ F  (Ctx.pre (qs := []) (rest := [p926, p881, p342, p324, CH.row g242 0 (r238.map (Value.int .u8)), p230, CH.row g9 0 (a1.map (Value.int .u8))]) C945) (CH.le_trans hG1 (CH.le_trans (CH.le_refl _) (CH.le_refl _))) (CH.le_trans hG3 (CH.le_trans (CH.le_refl _) (CH.le_refl _))) r948 hg947) ?_)
                  rintro e_ w_ ⟨rfl, C949⟩
                  have C950 : Ctx _ _ _ _ F [p926, p881, p342, p324, CH.row g242 0 (r238.map (Value.int .u8)), p230, CH.row g9 0 (a1.map (Value.int .u8))] := Ctx.call (qs := []) (rest := [p926, p881, p342, p324, CH.row g242 0 (r238.map (Value.int .u8)), p230, CH.row g9 0 (a1.map (Value.int .u8))]) C945 C949
                  refine ⟨_, rfl, ⟨trivial, trivial, trivial⟩, ?_⟩
                  refine WA.take none [] 19 rfl (by kernel_rfl) (by kernel_rfl) (show _ = #[true, true, true, true, true, true, true, true, true, true, true, true, true, true, true, true, true, true, true, true, false] from rfl) trivial ⟨trivial, trivial, trivial⟩ (fun _ hC_ => Yl.pickT (v := .bool r948) (congrArg Value.bool (decide_eq_true hc946)) rfl) ?_
                  refine WA.take none [] 20 rfl (by kernel_rfl) (by kernel_rfl) (show _ = #[true, true, true, true, true, true, true, true, true, true, true, true, true, true, true, true, true, true, true, true, true] from rfl) trivial ⟨trivial, trivial, trivial⟩ (fun _ hC_ => Yl.assign (v := .bool r948) rfl) ?_
                  refine WA.done (by kernel_rfl) ?_
                  have C951 : Ctx _ _ _ _ F [p881, p342, p324, CH.row g242 0 (r238.map (Value.int .u8)), p230, CH.row g9 0 (a1.map (Value.int .u8))] := Ctx.drop [] [p881, p342, p324, CH.row g242 0 (r238.map (Value.int .u8)), p230, CH.row g9 0 (a1.map (Value.int .u8))] C950
                  have C952 : Ctx _ _ _ _ F [p342, p324, CH.row g242 0 (r238.map (Value.int .u8)), p230, CH.row g9 0 (a1.map (Value.int .u8))] := Ctx.drop [] [p342, p324, CH.row g242 0 (r238.map (Value.int .u8)), p230, CH.row g9 0 (a1.map (Value.int .u8))] C951
                  cases hX663
                  refine thenE_n ?_
                  exact ⟨rfl, C952⟩
                · skip
                  refine WA.up1Off 18 (by kernel_rfl) rfl rfl (congrArg Value.bool (decide_eq_false hc946)) rfl (show _ = #[true, true, true, true, true, true, true, true, true, true, true, true, true, true, true, true, true, true, true, false, false] from rfl) ⟨trivial, trivial, trivial⟩ ?_
                  refine WA.take none [] 19 rfl (by kernel_rfl) (by kernel_rfl) (show _ = #[true, true, true, true, true, true, true, true, true, true, true, true, true, true, true, true, true, true, true, true, false] from rfl) trivial ⟨trivial, trivial, trivial⟩ (fun _ hC_ => Yl.pickF (v := .bool false) (congrArg Value.bool (decide_eq_false hc946)) rfl) ?_
                  refine WA.take none [] 20 rfl (by kernel_rfl) (by kernel_rfl) (show _ = #[true, true, true, true, true, true, true, true, true, true, true, true, true, true, true, true, true, true, true, true, true] from rfl) trivial ⟨trivial, trivial, trivial⟩ (fun _ hC_ => Yl.assign (v := .bool false) rfl) ?_
                  refine WA.done (by kernel_rfl) ?_
                  have C953 : Ctx _ _ _ _ F [p881, p342, p324, CH.row g242 0 (r238.map (Value.int .u8)), p230, CH.row g9 0 (a1.map (Value.int .u8))] := Ctx.drop [] [p881, p342, p324, CH.row g242 0 (r238.map (Value.int .u8)), p230, CH.row g9 0 (a1.map (Value.int .u8))] C945
                  have C954 : Ctx _ _ _ _ F [p342, p324, CH.row g242 0 (r238.map (Value.int .u8)), p230, CH.row g9 0 (a1.map (Value.int .u8))] := Ctx.drop [] [p342, p324, CH.row g242 0 (r238.map (Value.int .u8)), p230, CH.row g9 0 (a1.map (Value.int .u8))] C953
                  cases hX663
                  refine thenE_n ?_
                  exact ⟨rfl, C954⟩
            · skip
              refine W.regionA [] (by kernel_rfl) ?_
              have C963 := Ctx.drewN C358 1
              refine WA.take none [] 0 rfl (by kernel_rfl) (by kernel_rfl) (show _ = #[true, false, false, false, false, false, false, false, false, false, false, false, false, false, false, false, false, false, false, false, false] from rfl) trivial trivial (fun _ hC_ => Yl.move (v := .int .i64 x213) ho212) ?_
              refine WA.take none [] 1 rfl (by kernel_rfl) (by kernel_rfl) (show _ = #[true, true, false, false, false, false, false, false, false, false, false, false, false, false, false, false, false, false, false, false, false] from rfl) trivial trivial (fun _ hC_ => Yl.mul (m := 2) (n := x213) (r := wi64 (2 * x213)) rfl rfl rfl) ?_
              refine WA.take none [] 2 rfl (by kernel_rfl) (by kernel_rfl) (show _ = #[true, true, true, false, false, false, false, false, false, false, false, false, false, false, false, false, false, false, false, false, false] from rfl) trivial trivial (fun _ hC_ => Yl.move (v := .slice A1 n3 c2) ho210) ?_
              refine WA.take none [] 3 rfl (by kernel_rfl) (by kernel_rfl) (show _ = #[true, true, true, true, false, false, false, false, false, false, false, false, false, false, false, false, false, false, false, false, false] from rfl) trivial trivial (fun _ hC_ => Yl.lenN (A := A1) (l := n3) (q := c2) (n := (a0.length : Int)) rfl Tryd.underlying31 (by omega)) ?_
              refine WA.take none [] 4 rfl (by kernel_rfl) (by kernel_rfl) (show _ = #[true, true, true, true, true, false, false, false, false, false, false, false, false, false, false, false, false, false, false, false, false] from rfl) trivial trivial (fun _ hC_ => Yl.neq (m := wi64 (2 * x213)) (n := (a0.length : Int)) (q := !decide ((wi64 (2 * x213)) = (a0.length : Int))) rfl rfl rfl) ?_
              refine WA.take none [] 5 rfl (by kernel_rfl) (by kernel_rfl) (show _ = #[true, true, true, true, true, true, false, false, false, false, false, false, false, false, false, false, false, false, false, false, false] from rfl) trivial trivial (fun _ hC_ => Yl.move (v := .bool (!decide ((wi64 (2 * x213)) = (a0.length : Int)))) rfl) ?_
              refine WA.takeOff 6 rfl rfl (congrArg Value.bool (ndec_f hc664)) (by kernel_rfl) (by kernel_rfl) (show _ = #[true, true, true, true, true, true, true, false, false, false, false, false, false, false, false, false, false, false, false, false, false] from rfl) trivial ?_
              refine WA.takeOff 7 rfl rfl (congrArg Value.bool (ndec_f hc664)) (by kernel_rfl) (by kernel_rfl) (show _ = #[true, true, true, true, true, true, true, true, false, false, false, false, false, false, false, false, false, false, false, false, false] from rfl) trivial ?_
              refine WA.takeOff 8 rfl rfl (congrArg Value.bool (ndec_f hc664)) (by kernel_rfl) (by kernel_rfl) (show _ = #[true, true, true, true, true, true, true, true, true, false, false, false, false, false, false, false, false, false, false, false, false] from rfl) trivial ?_
              refine WA.takeOff 9 rfl rfl (congrArg Value.bool (ndec_f hc664)) (by kernel_rfl) (by kernel_rfl) (show _ = #[true, true, true, true, true, true, true, true, true, true, false, false, false, false, false, false, false, false, false, false, false] from rfl) trivial ?_
              refine WA.takeOff 10 rfl rfl (congrArg Value.bool (ndec_f hc664)) (by kernel_rfl) (by kernel_rfl) (show _ = #[true, true, true, true, true, true, true, true, true, true, true, false, false, false, false, false, false, false, false, false, false] from rfl) trivial ?_
              refine WA.takeOff 11 rfl rfl (congrArg Value.bool (ndec_f hc664)) (by kernel_rfl) (by kernel_rfl) (show _ = #[true, true, true, true, true, true, true, true, true, true, true, true, false, false, false, false, false, false, false, false, false] from rfl) trivial ?_
              refine WA.takeOff 12 rfl rfl (congrArg Value.bool (ndec_f hc664)) (by kernel_rfl) (by kernel_rfl) (show _ = #[true, true, true, true, true, true, true, true, true, true, true, true, true, false, false, false, false, false, false, false, false] from rfl) trivial ?_
              refine WA.takeOff 13 rfl rfl (congrArg Value.bool (ndec_f hc664)) (by kernel_rfl) (by kernel_rfl) (show _ = #[true, true, true, true, true, true, true, true, true, true, true, true, true, true, false, false, false, false, false, false, false] from rfl) trivial ?_
              refine WA.takeOff 14 rfl rfl (congrArg Value.bool (ndec_f hc664)) (by kernel_rfl) (by kernel_rfl) (show _ = #[true, true, true, true, true, true, true, true, true, true, true, true, true, true, true, false, false, false, false, false, false] from rfl) trivial ?_
              refine WA.takeOff 15 rfl rfl (congrArg Value.bool (ndec_f hc664)) (by kernel_rfl) (by kernel_rfl) (show _ = #[true, true, true, true, true, true, true, true, true, true, true, true, true, true, true, true, false, false, false, false, false] from rfl) trivial ?_
              refine WA.take none [] 16 rfl (by kernel_rfl) (by kernel_rfl) (show _ = #[true, true, true, true, true, true, true, true, true, true, true, true, true, true, true, true, true, false, false, false, false] from rfl) trivial trivial (fun _ hC_ => Yl.pickT (v := .bool true) (congrArg Value.bool (ndec_f hc664)) rfl) ?_
              refine WA.take none [] 17 rfl (by kernel_rfl) (by kernel_rfl) (show _ = #[true, true, true, true, true, true, true, true, true, true, true, true, true, true, true, true, true, true, false, false, false] from rfl) trivial trivial (fun _ hC_ => Yl.move (v := .bool true) rfl) ?_
              obtain ⟨r965, hg964, hX663⟩ := bindE hX663
              refine WA.up1 18 (by kernel_rfl) (Up.callG (args := #[]) rfl rfl rfl (by kernel_rfl) (show _ = #[true, true, true, true, true, true, true, true, true, true, true, true, true, true, true, true, true, true, true, false, false] from rfl) (Yenter.fn Tryd.func21 (by kernel_rfl) rfl (argsE .nil)) (juratlaw08_awake.calls k _ F  (Ctx.pre (qs := []) (rest := [p342, p324, CH.row g242 0 (r238.map (Value.int .u8)), p230, CH.row g9 0 (a1.map (Value.int .u8))]) C963) (CH.le_trans hG1 (CH.le_trans (CH.le_refl _) (CH.le_refl _))) (CH.le_trans hG3 (CH.le_trans (CH.le_refl _) (CH.le_refl _))) r965 hg964) ?_)
              rintro e_ w_ ⟨rfl, C966⟩
              have C967 : Ctx _ _ _ _ F [p342, p324, CH.row g242 0 (r238.map (Value.int .u8)), p230, CH.row g9 0 (a1.map (Value.int .u8))] := Ctx.call (qs := []) (rest := [p342, p324, CH.row g242 0 (r238.map (Value.int .u8)), p230, CH.row g9 0 (a1.map (Value.int .u8))]) C963 C966
              refine ⟨_, rfl, trivial, ?_⟩
              refine WA.take none [] 19 rfl (by kernel_rfl) (by kernel_rfl) (show _ = #[true, true, true, true, true, true, true, true, true, true, true, true, true, true, true, true, true, true, true, true, false] from rfl) trivial trivial (fun _ hC_ => Yl.pickT (v := .bool r965) rfl rfl) ?_
              refine WA.take none [] 20 rfl (by kernel_rfl) (by kernel_rfl) (show _ = #[true, true, true, true, true, true, true, true, true, true, true, true, true, true, true, true, true, true, true, true, true] from rfl) trivial trivial (fun _ hC_ => Yl.assign (v := .bool r965) rfl) ?_
              refine WA.done (by kernel_rfl) ?_
              cases hX663
              refine thenE_n ?_
              exact ⟨rfl, C967⟩
          · skip
            rintro env_ w_ ⟨ho660, C662⟩
            refine W.ret ?_
            have C968 : Ctx _ _ _ _ F [p324, CH.row g242 0 (r238.map (Value.int .u8)), p230, CH.row g9 0 (a1.map (Value.int .u8))] := Ctx.drop [] [p324, CH.row g242 0 (r238.map (Value.int .u8)), p230, CH.row g9 0 (a1.map (Value.int .u8))] C662
            have C969 : Ctx _ _ _ _ F [CH.row g242 0 (r238.map (Value.int .u8)), p230, CH.row g9 0 (a1.map (Value.int .u8))] := Ctx.drop [] [CH.row g242 0 (r238.map (Value.int .u8)), p230, CH.row g9 0 (a1.map (Value.int .u8))] C968
            have C970 : Ctx _ _ _ _ F [p230, CH.row g9 0 (a1.map (Value.int .u8))] := Ctx.drop [] [p230, CH.row g9 0 (a1.map (Value.int .u8))] C969
            have C971 : Ctx _ _ _ _ F [CH.row g9 0 (a1.map (Value.int .u8))] := Ctx.drop [] [CH.row g9 0 (a1.map (Value.int .u8))] C970
            have C972 : Ctx _ _ _ _ F [] := Ctx.drop [] [] C971
            have e973 := Option.some.inj H
            subst e973
            exact post_r (resE1 rfl ho660) ⟨rfl, C972⟩
        · skip
          refine W.condT (congrArg Value.bool (ndec_f hc359)) ?_
          refine W.seq ?_
          refine W.region rfl ?_
          refine WL.val (Yl.assign (v := .bool false) rfl) ?_
          refine WL.done ?_
          refine W.ret ?_
          refine thenE_r ?_
          have C974 : Ctx _ _ _ _ F [p324, CH.row g242 0 (r238.map (Value.int .u8)), p230, CH.row g9 0 (a1.map (Value.int .u8))] := Ctx.drop [] [p324, CH.row g242 0 (r238.map (Value.int .u8)), p230, CH.row g9 0 (a1.map (Value.int .u8))] C358
          have C975 : Ctx _ _ _ _ F [CH.row g242 0 (r238.map (Value.int .u8)), p230, CH.row g9 0 (a1.map (Value.int .u8))] := Ctx.drop [] [CH.row g242 0 (r238.map (Value.int .u8)), p230, CH.row g9 0 (a1.map (Value.int .u8))] C974
          have C976 : Ctx _ _ _ _ F [p230, CH.row g9 0 (a1.map (Value.int .u8))] := Ctx.drop [] [p230, CH.row g9 0 (a1.map (Value.int .u8))] C975
          have C977 : Ctx _ _ _ _ F [CH.row g9 0 (a1.map (Value.int .u8))] := Ctx.drop [] [CH.row g9 0 (a1.map (Value.int .u8))] C976
          have C978 : Ctx _ _ _ _ F [] := Ctx.drop [] [] C977
          have e979 := Option.some.inj H
          subst e979
          exact post_r (resE1 rfl rfl) ⟨rfl, C978⟩
end Go.Proofs.YthdlfclkcdnenaaDoor
