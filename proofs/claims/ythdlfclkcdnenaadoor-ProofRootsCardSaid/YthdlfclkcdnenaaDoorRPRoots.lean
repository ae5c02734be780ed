/- Functions of the program: each as a plain function of numbers and lists, and the proof that the program's own comes to it. Nothing is assumed but what each theorem says. -/
import Derived.Test.YthdlfclkcdnenaaDoorRGg
import Derived.Test.YthdlfclkcdnenaaDoorRGd
namespace Go.Proofs.YthdlfclkcdnenaaDoor
open Go.RowKit Go.WG
set_option linter.unusedVariables false
set_option linter.unusedSimpArgs false
def juratlaw08_ProofRoots.f (k : Nat) (a0 : List (List Int)) (a1 : List Int) (a2 : List Int) (a3 : List Int) : Option Bool := (if (a0.length : Int) > 100 then (some (true)) else (some (decide ((a3.length : Int) > 500)))).bind fun g25 => if g25 = true then ((juratlaw08_awake.f k ).bind fun r36 => some r36) else (((juratlaw08_own.f k a0).bind fun r377 => (proof_Root.f k r377).bind fun r390 => (juratref08_Root.f k a0).bind fun r395 => if r390 = r395 then ((proof_Node.f k a1 a2).bind fun r401 => (juratref08_Node.f k a1 a2).bind fun r406 => if r401 = r406 then (if a3.length * 1 ≤ 140737488355328 then ((proof_Leaf.f k a3).bind fun r435 => (juratref08_Leaf.f k a3).bind fun r440 => if r435 = r440 then ((juratlaw08_awake.f k ).bind fun r446 => some r446) else (some false)) else none) else (some false)) else (some false)).bind fun x256 => some x256)
set_option maxRecDepth 100000 in
set_option maxHeartbeats 4000000 in
theorem juratlaw08_ProofRoots.calls (k : Nat) (w : World) (F : CH) (A1 : Option Addr) (c2 : Nat) (n3 : Nat) (a0 : List (List Int)) (a1 : List Int) (a2 : List Int) (A10 : Option Addr) (c11 : Nat) (n12 : Nat) (a3 : List Int) (hp : Pre w F []) (hn4 : n3 = a0.length) (hl5 : a0.length ≤ c2) (hm6 : c2 ≤ maxLen) (hS7 : Sl (Kd.arrI 32 .u8) F F A1 a0) (ha8 : a1.length = 32) (ha9 : a2.length = 32) (hn13 : n12 = a3.length) (hl14 : a3.length ≤ c11) (hm15 : c11 ≤ maxLen) (hS16 : Sl (Kd.int .u8) F F A10 a3) (hG0 : CH.le (CH.row 0 0 (glob0.map (Value.int .u32))) F) (hG1 : CH.le (CH.row 1 0 (glob1.map (Value.int .u32))) F) (hG2 : CH.le (CH.row 2 0 (glob2.map (Value.int .u32))) F) (hG3 : CH.le (CH.row 3 0 (glob3.map (Value.int .u32))) F) (r0_ : Bool) (H : juratlaw08_ProofRoots.f k a0 a1 a2 a3 = some r0_) :
    Calls Tryd.prog 4 #[.slice A1 n3 c2, .agg (List.toArray (a1.map (Value.int .u8))), .agg (List.toArray (a2.map (Value.int .u8))), .slice A10 n12 c11] w fun e w' => e = .returned (.bool r0_) ∧ Ctx w F (domL []) w' F [] := by
  have C := Ctx.start hp
  generalize hD : domL [] = D at C ⊢
  unfold juratlaw08_ProofRoots.f at H
  refine Calls.ofW Tryd.func4 rfl (by simp [Tryd.ntmps4]) ?_
  refine W.seq ?_
  refine W.region rfl ?_
  obtain ⟨g17, w18, hy19, C20⟩ := ev_box (P := Tryd.prog) 33 (.agg (List.toArray (a1.map (Value.int .u8)))) (a1.map (Value.int .u8)) C rfl
  refine WL.val (hy19 _ _ _ rfl) ?_
  obtain ⟨g21, w22, hy23, C24⟩ := ev_box (P := Tryd.prog) 33 (.agg (List.toArray (a2.map (Value.int .u8)))) (a2.map (Value.int .u8)) C20 rfl
  refine WL.val (hy23 _ _ _ rfl) ?_
  refine WL.val (Yl.assign (v := .bool false) rfl) ?_
  refine WL.done ?_
  refine W.seq ?_
  refine W.seq ?_
  refine W.region rfl ?_
  refine WL.val (Yl.move (v := .slice A1 n3 c2) rfl) ?_
  refine WL.val (Yl.lenN (A := A1) (l := n3) (q := c2) (n := (a0.length : Int)) rfl Tryd.underlying31 (by omega)) ?_
  refine WL.val (Yl.gtr (m := (a0.length : Int)) (n := 100) (q := decide ((a0.length : Int) > 100)) rfl rfl rfl) ?_
  refine WL.val (Yl.move (v := .bool (decide ((a0.length : Int) > 100))) rfl) ?_
  obtain ⟨g25, HE26, H⟩ := bindE H
  refine WL.cut (fun env_ w_ => env_ 16 = .bool g25 ∧ env_ 0 = .slice A1 n3 c2 ∧ env_ 3 = .slice A10 n12 c11 ∧ env_ 5 = .pointer (some ⟨g17, 0, none⟩) ∧ env_ 6 = .pointer (some ⟨g21, 0, none⟩) ∧ Ctx w F D w_ F [CH.row g21 0 (a2.map (Value.int .u8)), CH.row g17 0 (a1.map (Value.int .u8))]) ?_ ?_
  · skip
    rcases iteE HE26 with ⟨hc27, HE26⟩ | ⟨hc27, HE26⟩
    · skip
      refine WL.off rfl (congrArg Value.bool (decide_eq_true hc27)) ?_
      refine WL.off rfl (congrArg Value.bool (decide_eq_true hc27)) ?_
      refine WL.off rfl (congrArg Value.bool (decide_eq_true hc27)) ?_
      refine WL.val (Yl.pickT (v := .bool true) (congrArg Value.bool (decide_eq_true hc27)) rfl) ?_
      cases HE26
      exact WL.done ⟨rfl, rfl, rfl, rfl, rfl, C24⟩
    · skip
      refine WL.on rfl (congrArg Value.bool (decide_eq_false hc27)) ?_
      refine WL.val (Yl.move (v := .slice A10 n12 c11) rfl) ?_
      refine WL.on rfl (congrArg Value.bool (decide_eq_false hc27)) ?_
      refine WL.val (Yl.lenN (A := A10) (l := n12) (q := c11) (n := (a3.length : Int)) rfl Tryd.underlying28 (by omega)) ?_
      refine WL.on rfl (congrArg Value.bool (decide_eq_false hc27)) ?_
      refine WL.val (Yl.gtr (m := (a3.length : Int)) (n := 500) (q := decide ((a3.length : Int) > 500)) rfl rfl rfl) ?_
      refine WL.val (Yl.pickF (v := .bool (decide ((a3.length : Int) > 500))) (congrArg Value.bool (decide_eq_false hc27)) rfl) ?_
      cases HE26
      exact WL.done ⟨rfl, rfl, rfl, rfl, rfl, C24⟩
  · skip
    rintro env_ w_ ⟨ho28, ho29, ho30, ho31, ho32, C33⟩
    rcases iteE H with ⟨hc34, H⟩ | ⟨hc34, H⟩
    · skip
      refine W.condT (ho28.trans (congrArg Value.bool hc34)) ?_
      refine W.seq ?_
      refine W.region rfl ?_
      obtain ⟨r36, hg35, H⟩ := bindE H
      refine WL.call (args := #[]) (Yenter.fn Tryd.func21 (by kernel_rfl) rfl (argsE .nil)) (juratlaw08_awake.calls k _ F  (Ctx.pre (qs := []) (rest := [CH.row g21 0 (a2.map (Value.int .u8)), CH.row g17 0 (a1.map (Value.int .u8))]) C33) (CH.le_trans hG1 (CH.le_trans (CH.le_refl _) (CH.le_refl _))) (CH.le_trans hG3 (CH.le_trans (CH.le_refl _) (CH.le_refl _))) r36 hg35) ?_
      rintro e_ w_ ⟨rfl, C37⟩
      refine ⟨_, rfl, ?_⟩
      have C38 : Ctx _ _ _ _ F [CH.row g21 0 (a2.map (Value.int .u8)), CH.row g17 0 (a1.map (Value.int .u8))] := Ctx.call (qs := []) (rest := [CH.row g21 0 (a2.map (Value.int .u8)), CH.row g17 0 (a1.map (Value.int .u8))]) C33 C37
      refine WL.val (Yl.assign (v := .bool r36) rfl) ?_
      refine WL.done ?_
      refine W.ret ?_
      refine thenE_r ?_
      have C39 : Ctx _ _ _ _ F [CH.row g17 0 (a1.map (Value.int .u8))] := Ctx.drop [] [CH.row g17 0 (a1.map (Value.int .u8))] C38
      have C40 : Ctx _ _ _ _ F [] := Ctx.drop [] [] C39
      have e41 := Option.some.inj H
      subst e41
      exact post_r (resE1 rfl rfl) ⟨rfl, C40⟩
    · skip
      refine W.condF (ho28.trans (congrArg Value.bool (Bool.eq_false_iff.2 hc34))) ?_
      refine W.skip ?_
      refine W.seq ?_
      obtain ⟨x256, hX258, H⟩ := bindE H
      refine W.cutM (fun env_ w_ => env_ 8 = .bool x256 ∧ Ctx w F D w_ F [CH.row g21 0 (a2.map (Value.int .u8)), CH.row g17 0 (a1.map (Value.int .u8))]) ?_ ?_
      · skip
        refine W.regionA [([12, 16, 18, 19, 21, 25], CH.row g17 0 (a1.map (Value.int .u8))), ([12, 16, 18, 19, 21, 25], CH.row g21 0 (a2.map (Value.int .u8)))] (by kernel_rfl) ?_
        have C375 := Ctx.drewN C33 1
        refine WA.take none [] 0 rfl (by kernel_rfl) (by kernel_rfl) (show _ = #[true, false, false, false, false, false, false, false, false, false, false, false, false, false, false, false, false, false, false, false, false, false, false, false, false, false, false, false] from rfl) trivial ⟨(Ctx.sub_of [CH.row g21 0 (a2.map (Value.int .u8))] [] C375), (Ctx.sub_of [] [CH.row g17 0 (a1.map (Value.int .u8))] C375), trivial⟩ (fun _ hC_ => Yl.move (v := .slice A1 n3 c2) ho29) ?_
        refine WA.take none [] 3 rfl (by kernel_rfl) (by kernel_rfl) (show _ = #[true, false, false, true, false, false, false, false, false, false, false, false, false, false, false, false, false, false, false, false, false, false, false, false, false, false, false, false] from rfl) trivial ⟨(Ctx.sub_of [CH.row g21 0 (a2.map (Value.int .u8))] [] C375), (Ctx.sub_of [] [CH.row g17 0 (a1.map (Value.int .u8))] C375), trivial⟩ (fun _ hC_ => Yl.move (v := .slice A1 n3 c2) ho29) ?_
        obtain ⟨r377, hg376, hX258⟩ := bindE hX258
        refine WA.up1 1 (by kernel_rfl) (Up.call (args := #[.slice A1 n3 c2]) rfl (by kernel_rfl) (show _ = #[true, true, false, true, false, false, false, false, false, false, false, false, false, false, false, false, false, false, false, false, false, false, false, false, false, false, false, false] from rfl) (Yenter.fn Tryd.func23 (by kernel_rfl) rfl (argsE (.cons rfl .nil))) (juratlaw08_own.calls k _ F A1 c2 n3 a0 (Ctx.pre (qs := []) (rest := [CH.row g21 0 (a2.map (Value.int .u8)), CH.row g17 0 (a1.map (Value.int .u8))]) C375) hn4 hl5 hm6 hS7 r377 hg376) ?_)
        rintro e_ w_ ⟨A378, c379, n380, p382, rfl, C384, hn381, hR383⟩
        have C385 : Ctx _ _ _ _ F [p382, CH.row g21 0 (a2.map (Value.int .u8)), CH.row g17 0 (a1.map (Value.int .u8))] := Ctx.call (qs := []) (rest := [CH.row g21 0 (a2.map (Value.int .u8)), CH.row g17 0 (a1.map (Value.int .u8))]) C375 C384
        refine ⟨_, rfl, ⟨(Ctx.sub_of [p382, CH.row g21 0 (a2.map (Value.int .u8))] [] C385), (Ctx.sub_of [p382] [CH.row g17 0 (a1.map (Value.int .u8))] C385), trivial⟩, ?_⟩
        have le386 : CH.le F (CH.join F p382) := CH.le_joinL _ _
        have lp387 : CH.le p382 (CH.join F p382) := CH.le_joinR (Ctx.dis_of [] [CH.row g21 0 (a2.map (Value.int .u8)), CH.row g17 0 (a1.map (Value.int .u8))] C385)
        have C388 : Ctx _ _ _ _ (CH.join F p382) [CH.row g21 0 (a2.map (Value.int .u8)), CH.row g17 0 (a1.map (Value.int .u8))] := Ctx.freeze [] [CH.row g21 0 (a2.map (Value.int .u8)), CH.row g17 0 (a1.map (Value.int .u8))] C385
        obtain ⟨r390, hg389, hX258⟩ := bindE hX258
        refine WA.up1 2 (by kernel_rfl) (Up.call (args := #[.slice A378 n380 c379]) rfl (by kernel_rfl) (show _ = #[true, true, true, true, false, false, false, false, false, false, false, false, false, false, false, false, false, false, false, false, false, false, false, false, false, false, false, false] from rfl) (Yenter.fn Tryd.func22 (by kernel_rfl) rfl (argsE (.cons rfl .nil))) (proof_Root.calls k _ (CH.join F p382) A378 c379 n380 r377 (Ctx.pre (qs := []) (rest := [CH.row g21 0 (a2.map (Value.int .u8)), CH.row g17 0 (a1.map (Value.int .u8))]) C388) hn381 (Row.len_le hR383).1 (Row.len_le hR383).2.1 (Sl.mono (Row.sl hR383) le386 lp387) (CH.le_trans hG1 (CH.le_trans (CH.le_refl _) le386)) (CH.le_trans hG3 (CH.le_trans (CH.le_refl _) le386)) r390 hg389) ?_)
        rintro e_ w_ ⟨rfl, C392, ha391⟩
        have C393 : Ctx _ _ _ _ F [p382, CH.row g21 0 (a2.map (Value.int .u8)), CH.row g17 0 (a1.map (Value.int .u8))] := Ctx.callL (qs := []) (rest := [p382, CH.row g21 0 (a2.map (Value.int .u8)), CH.row g17 0 (a1.map (Value.int .u8))]) C385 le386 C392
        refine ⟨_, rfl, ⟨(Ctx.sub_of [p382, CH.row g21 0 (a2.map (Value.int .u8))] [] C393), (Ctx.sub_of [p382] [CH.row g17 0 (a1.map (Value.int .u8))] C393), trivial⟩, ?_⟩
        obtain ⟨r395, hg394, hX258⟩ := bindE hX258
        refine WA.up1 4 (by kernel_rfl) (Up.call (args := #[.slice A1 n3 c2]) rfl (by kernel_rfl) (show _ = #[true, true, true, true, true, false, false, false, false, false, false, false, false, false, false, false, false, false, false, false, false, false, false, false, false, false, false, false] from rfl) (Yenter.fn Tryd.func24 (by kernel_rfl) rfl (argsE (.cons rfl .nil))) (juratref08_Root.calls k _ F A1 c2 n3 a0 (Ctx.pre (qs := []) (rest := [p382, CH.row g21 0 (a2.map (Value.int .u8)), CH.row g17 0 (a1.map (Value.int .u8))]) C393) hn4 hl5 hm6 hS7 (CH.le_trans hG0 (CH.le_trans (CH.le_refl _) (CH.le_refl _))) (CH.le_trans hG2 (CH.le_trans (CH.le_refl _) (CH.le_refl _))) r395 hg394) ?_)
        rintro e_ w_ ⟨rfl, C397, ha396⟩
        have C398 : Ctx _ _ _ _ F [p382, CH.row g21 0 (a2.map (Value.int .u8)), CH.row g17 0 (a1.map (Value.int .u8))] := Ctx.call (qs := []) (rest := [p382, CH.row g21 0 (a2.map (Value.int .u8)), CH.row g17 0 (a1.map (Value.int .u8))]) C393 C397
        refine ⟨_, rfl, ⟨(Ctx.sub_of [p382, CH.row g21 0 (a2.map (Value.int .u8))] [] C398), (Ctx.sub_of [p382] [CH.row g17 0 (a1.map (Value.int .u8))] C398), trivial⟩, ?_⟩
        refine WA.take none [] 5 rfl (by kernel_rfl) (by kernel_rfl) (show _ = #[true, true, true, true, true, true, false, false, false, false, false, false, false, false, false, false, false, false, false, false, false, false, false, false, false, false, false, false] from rfl) trivial ⟨(Ctx.sub_of [p382, CH.row g21 0 (a2.map (Value.int .u8))] [] C398), (Ctx.sub_of [p382] [CH.row g17 0 (a1.map (Value.int .u8))] C398), trivial⟩ (fun _ hC_ => Yl.aeql (n := 2) (xs := r390.map (Value.int .u8)) (ys := r395.map (Value.int .u8)) rfl rfl eg33 (EqV.arrI Tryd.underlying33 Tryd.underlying5 sz5 ha391 ha396) (by decide)) ?_
        refine WA.take none [] 6 rfl (by kernel_rfl) (by kernel_rfl) (show _ = #[true, true, true, true, true, true, true, false, false, false, false, false, false, false, false, false, false, false, false, false, false, false, false, false, false, false, false, false] from rfl) trivial ⟨(Ctx.sub_of [p382, CH.row g21 0 (a2.map (Value.int .u8))] [] C398), (Ctx.sub_of [p382] [CH.row g17 0 (a1.map (Value.int .u8))] C398), trivial⟩ (fun _ hC_ => Yl.move (v := .bool (decide (r390 = r395))) rfl) ?_
        rcases iteE hX258 with ⟨hc399, hX258⟩ | ⟨hc399, hX258⟩
        · skip
          refine WA.takeOn (some 0) [9, 12, 13, 14, 15, 16, 17, 18, 19, 20, 21, 22, 23, 24, 25, 26, 27] 7 rfl rfl (congrArg Value.bool (decide_eq_true hc399)) (by kernel_rfl) (by kernel_rfl) (show _ = #[true, true, true, true, true, true, true, true, false, false, false, false, false, false, false, false, false, false, false, false, false, false, false, false, false, false, false, false] from rfl) (Ctx.sub_of [p382, CH.row g21 0 (a2.map (Value.int .u8))] [] C398) ⟨(Ctx.sub_of [p382, CH.row g21 0 (a2.map (Value.int .u8))] [] C398), (Ctx.sub_of [p382] [CH.row g17 0 (a1.map (Value.int .u8))] C398), trivial⟩ (fun _ hC_ => Yl.loadVA (g := g17) (off := 0) (o := 0) (cs := a1.map (Value.int .u8)) (us := a1.map (Value.int .u8)) ho31 Tryd.underlying33 rfl (sz_of sz33 (by first | (simp only [List.length_append, List.length_map, List.length_cons, List.length_nil, ha8]; done) | simp [ha8])) (show Sub (CH.row g17 0 (a1.map (Value.int .u8))) _ from hC_) (take_all _)) ?_
          refine WA.takeOn (some 1) [9, 12, 13, 14, 15, 16, 17, 18, 19, 20, 21, 22, 23, 24, 25, 26, 27] 8 rfl rfl (congrArg Value.bool (decide_eq_true hc399)) (by kernel_rfl) (by kernel_rfl) (show _ = #[true, true, true, true, true, true, true, true, true, false, false, false, false, false, false, false, false, false, false, false, false, false, false, false, false, false, false, false] from rfl) (Ctx.sub_of [p382] [CH.row g17 0 (a1.map (Value.int .u8))] C398) ⟨(Ctx.sub_of [p382, CH.row g21 0 (a2.map (Value.int .u8))] [] C398), (Ctx.sub_of [p382] [CH.row g17 0 (a1.map (Value.int .u8))] C398), trivial⟩ (fun _ hC_ => Yl.loadVA (g := g21) (off := 0) (o := 0) (cs := a2.map (Value.int .u8)) (us := a2.map (Value.int .u8)) ho32 Tryd.underlying33 rfl (sz_of sz33 (by first | (simp only [List.length_append, List.length_map, List.length_cons, List.length_nil, ha9]; done) | simp [ha9])) (show Sub (CH.row g21 0 (a2.map (Value.int .u8))) _ from hC_) (take_all _)) ?_
          refine WA.takeOn (some 0) [12, 13, 14, 15, 16, 17, 18, 19, 20, 21, 22, 23, 24, 25, 26, 27] 10 rfl rfl (congrArg Value.bool (decide_eq_true hc399)) (by kernel_rfl) (by kernel_rfl) (show _ = #[true, true, true, true, true, true, true, true, true, false, true, false, false, false, false, false, false, false, false, false, false, false, false, false, false, false, false, false] from rfl) (Ctx.sub_of [p382, CH.row g21 0 (a2.map (Value.int .u8))] [] C398) ⟨(Ctx.sub_of [p382, CH.row g21 0 (a2.map (Value.int .u8))] [] C398), (Ctx.sub_of [p382] [CH.row g17 0 (a1.map (Value.int .u8))] C398), trivial⟩ (fun _ hC_ => Yl.loadVA (g := g17) (off := 0) (o := 0) (cs := a1.map (Value.int .u8)) (us := a1.map (Value.int .u8)) ho31 Tryd.underlying33 rfl (sz_of sz33 (by first | (simp only [List.length_append, List.length_map, List.length_cons, List.length_nil, ha8]; done) | simp [ha8])) (show Sub (CH.row g17 0 (a1.map (Value.int .u8))) _ from hC_) (take_all _)) ?_
          refine WA.takeOn (some 1) [12, 13, 14, 15, 16, 17, 18, 19, 20, 21, 22, 23, 24, 25, 26, 27] 11 rfl rfl (congrArg Value.bool (decide_eq_true hc399)) (by kernel_rfl) (by kernel_rfl) (show _ = #[true, true, true, true, true, true, true, true, true, false, true, true, false, false, false, false, false, false, false, false, false, false, false, false, false, false, false, false] from rfl) (Ctx.sub_of [p382] [CH.row g17 0 (a1.map (Value.int .u8))] C398) ⟨(Ctx.sub_of [p382, CH.row g21 0 (a2.map (Value.int .u8))] [] C398), (Ctx.sub_of [p382] [CH.row g17 0 (a1.map (Value.int .u8))] C398), trivial⟩ (fun _ hC_ => Yl.loadVA (g := g21) (off := 0) (o := 0) (cs := a2.map (Value.int .u8)) (us := a2.map (Value.int .u8)) ho32 Tryd.underlying33 rfl (sz_of sz33 (by first | (simp only [List.length_append, List.length_map, List.length_cons, List.length_nil, ha9]; done) | simp [ha9])) (show Sub (CH.row g21 0 (a2.map (Value.int .u8))) _ from hC_) (take_all _)) ?_
          obtain ⟨r401, hg400, hX258⟩ := bindE hX258
          refine WA.up1 9 (by kernel_rfl) (Up.callG (args := #[.agg (List.toArray (a1.map (Value.int .u8))), .agg (List.toArray (a2.map (Value.int .u8)))]) rfl rfl (congrArg Value.bool (decide_eq_true hc399)) (by kernel_rfl) (show _ = #[true, true, true, true, true, true, true, true, true, true, true, true, false, false, false, false, false, false, false, false, false, false, false, false, false, false, false, false] from rfl) (Yenter.fn Tryd.func25 (by kernel_rfl) rfl (argsE (.cons rfl (.cons rfl .nil)))) (proof_Node.calls k _ F a1 a2 (Ctx.pre (qs := []) (rest := [p382, CH.row g21 0 (a2.map (Value.int .u8)), CH.row g17 0 (a1.map (Value.int .u8))]) C398) ha8 ha9 (CH.le_trans hG1 (CH.le_trans (CH.le_refl _) (CH.le_refl _))) (CH.le_trans hG3 (CH.le_trans (CH.le_refl _) (CH.le_refl _))) r401 hg400) ?_)
          rintro e_ w_ ⟨rfl, C403, ha402⟩
          have C404 : Ctx _ _ _ _ F [p382, CH.row g21 0 (a2.map (Value.int .u8)), CH.row g17 0 (a1.map (Value.int .u8))] := Ctx.call (qs := []) (rest := [p382, CH.row g21 0 (a2.map (Value.int .u8)), CH.row g17 0 (a1.map (Value.int .u8))]) C398 C403
          refine ⟨_, rfl, ⟨(Ctx.sub_of [p382, CH.row g21 0 (a2.map (Value.int .u8))] [] C404), (Ctx.sub_of [p382] [CH.row g17 0 (a1.map (Value.int .u8))] C404), trivial⟩, ?_⟩
          obtain ⟨r406, hg405, hX258⟩ := bindE hX258
          refine WA.up1 12 (by kernel_rfl) (Up.callG (args := #[.agg (List.toArray (a1.map (Value.int .u8))), .agg (List.toArray (a2.map (Value.int .u8)))]) rfl rfl (congrArg Value.bool (decide_eq_true hc399)) (by kernel_rfl) (show _ = #[true, true, true, true, true, true, true, true, true, true, true, true, true, false, false, false, false, false, false, false, false, false, false, false, false, false, false, false] from rfl) (Yenter.fn Tryd.func26 (by kernel_rfl) rfl (argsE (.cons rfl (.cons rfl .nil)))) (juratref08_Node.calls k _ F a1 a2 (Ctx.pre (qs := []) (rest := [p382, CH.row g21 0 (a2.map (Value.int .u8)), CH.row g17 0 (a1.map (Value.int .u8))]) C404) ha8 ha9 (CH.le_trans hG0 (CH.le_trans (CH.le_refl _) (CH.le_refl _))) (CH.le_trans hG2 (CH.le_trans (CH.le_refl _) (CH.le_refl _))) r406 hg405) ?_)
          rintro e_ w_ ⟨rfl, C408, ha407⟩
          have C409 : Ctx _ _ _ _ F [p382, CH.row g21 0 (a2.map (Value.int .u8)), CH.row g17 0 (a1.map (Value.int .u8))] := Ctx.call (qs := []) (rest := [p382, CH.row g21 0 (a2.map (Value.int .u8)), CH.row g17 0 (a1.map (Value.int .u8))]) C404 C408
          refine ⟨_, rfl, ⟨trivial, trivial, trivial⟩, ?_⟩
          refine WA.takeOn none [] 13 rfl rfl (congrArg Value.bool (decide_eq_true hc399)) (by kernel_rfl) (by kernel_rfl) (show _ = #[true, true, true, true, true, true, true, true, true, true, true, true, true, true, false, false, false, false, false, false, false, false, false, false, false, false, false, false] from rfl) trivial ⟨trivial, trivial, trivial⟩ (fun _ hC_ => Yl.aeql (n := 2) (xs := r401.map (Value.int .u8)) (ys := r406.map (Value.int .u8)) rfl rfl eg33 (EqV.arrI Tryd.underlying33 Tryd.underlying5 sz5 ha402 ha407) (by decide)) ?_
          refine WA.take none [] 14 rfl (by kernel_rfl) (by kernel_rfl) (show _ = #[true, true, true, true, true, true, true, true, true, true, true, true, true, true, true, false, false, false, false, false, false, false, false, false, false, false, false, false] from rfl) trivial ⟨trivial, trivial, trivial⟩ (fun _ hC_ => Yl.pickT (v := .bool (decide (r401 = r406))) (congrArg Value.bool (decide_eq_true hc399)) rfl) ?_
          refine WA.take none [] 15 rfl (by kernel_rfl) (by kernel_rfl) (show _ = #[true, true, true, true, true, true, true, true, true, true, true, true, true, true, true, true, false, false, false, false, false, false, false, false, false, false, false, false] from rfl) trivial ⟨trivial, trivial, trivial⟩ (fun _ hC_ => Yl.move (v := .bool (decide (r401 = r406))) rfl) ?_
          rcases iteE hX258 with ⟨hc410, hX258⟩ | ⟨hc410, hX258⟩
          · skip
            refine WA.takeOn none [] 17 rfl rfl (congrArg Value.bool (decide_eq_true hc410)) (by kernel_rfl) (by kernel_rfl) (show _ = #[true, true, true, true, true, true, true, true, true, true, true, true, true, true, true, true, false, true, false, false, false, false, false, false, false, false, false, false] from rfl) trivial ⟨trivial, trivial, trivial⟩ (fun _ hC_ => Yl.move (v := .slice A10 n12 c11) ho30) ?_
            refine WA.takeOn none [] 20 rfl rfl (congrArg Value.bool (decide_eq_true hc410)) (by kernel_rfl) (by kernel_rfl) (show _ = #[true, true, true, true, true, true, true, true, true, true, true, true, true, true, true, true, false, true, false, false, true, false, false, false, false, false, false, false] from rfl) trivial ⟨trivial, trivial, trivial⟩ (fun _ hC_ => Yl.move (v := .slice A10 n12 c11) ho30) ?_
            obtain ⟨A411, c412, n413, p414, w415, hn416, hy417, C418, hR419⟩ := ev_lit0 (P := Tryd.prog) 5 (Kd.int .u8) C409 Tryd.underlying28 ti5
            refine WA.up1 16 (by kernel_rfl) (Up.valG rfl rfl (congrArg Value.bool (decide_eq_true hc410)) rfl (show _ = #[true, true, true, true, true, true, true, true, true, true, true, true, true, true, true, true, true, true, false, false, true, false, false, false, false, false, false, false] from rfl) (hy417 _ _) ⟨trivial, trivial, trivial⟩ ?_)
            obtain ⟨hc420, hX258⟩ := guardE hX258
            obtain ⟨A421, c422, n423, p424, w425, hn426, hy427, C428, hR429⟩ := ev_append' (P := Tryd.prog) (cb := c11) 5 (Kd.int .u8) [] [p382, CH.row g21 0 (a2.map (Value.int .u8)), CH.row g17 0 (a1.map (Value.int .u8))] C418 hR419 hn13 hS16 C418.fro Tryd.underlying28 ti5 rfl zo5 (by decide) (by decide) (by simpa using hc420)
            have C430 : Ctx _ _ _ _ F [p424, p382, CH.row g21 0 (a2.map (Value.int .u8)), CH.row g17 0 (a1.map (Value.int .u8))] := C428
            rw [List.nil_append] at hn426 hR429
            refine WA.up1 18 (by kernel_rfl) (Up.valG rfl rfl (congrArg Value.bool (decide_eq_true hc410)) rfl (show _ = #[true, true, true, true, true, true, true, true, true, true, true, true, true, true, true, true, true, true, true, false, true, false, false, false, false, false, false, false] from rfl) (hy427 _ _ _ _ rfl rfl) ⟨trivial, trivial, trivial⟩ ?_)
            have le431 : CH.le F (CH.join F p424) := CH.le_joinL _ _
            have lp432 : CH.le p424 (CH.join F p424) := CH.le_joinR (Ctx.dis_of [] [p382, CH.row g21 0 (a2.map (Value.int .u8)), CH.row g17 0 (a1.map (Value.int .u8))] C430)
            have C433 : Ctx _ _ _ _ (CH.join F p424) [p382, CH.row g21 0 (a2.map (Value.int .u8)), CH.row g17 0 (a1.map (Value.int .u8))] := Ctx.freeze [] [p382, CH.row g21 0 (a2.map (Value.int .u8)), CH.row g17 0 (a1.map (Value.int .u8))] C430
            obtain ⟨r435, hg434, hX258⟩ := bindE hX258
            refine WA.up1 19 (by kernel_rfl) (Up.callG (args := #[.slice A421 n423 c422]) rfl rfl (congrArg Value.bool (decide_eq_true hc410)) (by kernel_rfl) (show _ = #[true, true, true, true, true, true, true, true, true, true, true, true, true, true, true, true, true, true, true, true, true, false, false, false, false, false, false, false] from rfl) (Yenter.fn Tryd.func27 (by kernel_rfl) rfl (argsE (.cons rfl .nil))) (proof_Leaf.calls k _ (CH.join F p424) A421 c422 n423 a3 (Ctx.pre (qs := []) (rest := [p382, CH.row g21 0 (a2.map (Value.int .u8)), CH.row g17 0 (a1.map (Value.int .u8))]) C433) hn426 (Row.len_le hR429).1 (Row.len_le hR429).2.1 (Sl.mono (Row.sl hR429) le431 lp432) (CH.le_trans hG1 (CH.le_trans (CH.le_refl _) le431)) (CH.le_trans hG3 (CH.le_trans (CH.le_refl _) le431)) r435 hg434) ?_)
            rintro e_ w_ ⟨rfl, C437, ha436⟩
            have C438 : Ctx _ _ _ _ F [p424, p382, CH.row g21 0 (a2.map (Value.int .u8)), CH.row g17 0 (a1.map (Value.int .u8))] := Ctx.callL (qs := []) (rest := [p424, p382, CH.row g21 0 (a2.map (Value.int .u8)), CH.row g17 0 (a1.map (Value.int .u8))]) C430 le431 C437
            refine ⟨_, rfl, ⟨trivial, trivial, trivial⟩, ?_⟩
            obtain ⟨r440, hg439, hX258⟩ := bindE hX258
            refine WA.up1 21 (by kernel_rfl) (Up.callG (args := #[.slice A10 n12 c11]) rfl rfl (congrArg Value.bool (decide_eq_true hc410)) (by kernel_rfl) (show _ = #[true, true, true, true, true, true, true, true, true, true, true, true, true, true, true, true, true, true, true, true, true, true, false, false, false, false, false, false] from rfl) (Yenter.fn Tryd.func28 (by kernel_rfl) rfl (argsE (.cons rfl .nil))) (juratref08_Leaf.calls k _ F A10 c11 n12 a3 (Ctx.pre (qs := []) (rest := [p424, p382, CH.row g21 0 (a2.map (Value.int .u8)), CH.row g17 0 (a1.map (Value.int .u8))]) C438) hn13 hl14 hm15 hS16 (CH.le_trans hG0 (CH.le_trans (CH.le_refl _) (CH.le_refl _))) (CH.le_trans hG2 (CH.le_trans (CH.le_refl _) (CH.le_refl _))) r440 hg439) ?_)
            rintro e_ w_ ⟨rfl, C442, ha441⟩
            have C443 : Ctx _ _ _ _ F [p424, p382, CH.row g21 0 (a2.map (Value.int .u8)), CH.row g17 0 (a1.map (Value.int .u8))] := Ctx.call (qs := []) (rest := [p424, p382, CH.row g21 0 (a2.map (Value.int .u8)), CH.row g17 0 (a1.map (Value.int .u8))]) C438 C442
            refine ⟨_, rfl, ⟨trivial, trivial, trivial⟩, ?_⟩
            refine WA.takeOn none [] 22 rfl rfl (congrArg Value.bool (decide_eq_true hc410)) (by kernel_rfl) (by kernel_rfl) (show _ = #[true, true, true, true, true, true, true, true, true, true, true, true, true, true, true, true, true, true, true, true, true, true, true, false, false, false, false, false] from rfl) trivial ⟨trivial, trivial, trivial⟩ (fun _ hC_ => Yl.aeql (n := 2) (xs := r435.map (Value.int .u8)) (ys := r440.map (Value.int .u8)) rfl rfl eg33 (EqV.arrI Tryd.underlying33 Tryd.underlying5 sz5 ha436 ha441) (by decide)) ?_
            refine WA.take none [] 23 rfl (by kernel_rfl) (by kernel_rfl) (show _ = #[true, true, true, true, true, true, true, true, true, true, true, true, true, true, true, true, true, true, true, true, true, true, true, true, false, false, false, false] from rfl) trivial ⟨trivial, trivial, trivial⟩ (fun _ hC_ => Yl.pickT (v := .bool (decide (r435 = r440))) (congrArg Value.bool (decide_eq_true hc410)) rfl) ?_
            refine WA.take none [] 24 rfl (by kernel_rfl) (by kernel_rfl) (show _ = #[true, true, true, true, true, true, true, true, true, true, true, true, true, true, true, true, true, true, true, true, true, true, true, true, true, false, false, false] from rfl) trivial ⟨trivial, trivial, trivial⟩ (fun _ hC_ => Yl.move (v := .bool (decide (r435 = r440))) rfl) ?_
            rcases iteE hX258 with ⟨hc444, hX258⟩ | ⟨hc444, hX258⟩
            · skip
              obtain ⟨r446, hg445, hX258⟩ := bindE hX258
              refine WA.up1 25 (by kernel_rfl) (Up.callG (args := #[]) rfl rfl (congrArg Value.bool (decide_eq_true hc444)) (by kernel_rfl) (show _ = #[true, true, true, true, true, true, true, true, true, true, true, true, true, true, true, true, true, true, true, true, true, true, true, true, true, true, false, false] from rfl) (Yenter.fn Tryd.func21 (by kernel_rfl) rfl (argsE .nil)) (juratlaw08_awake.calls k _ F  (Ctx.pre (qs := []) (rest := [p424, p382, CH.row g21 0 (a2.map (Value.int .u8)), CH.row g17 0 (a1.map (Value.int .u8))]) C443) (CH.le_trans hG1 (CH.le_trans (CH.le_refl _) (CH.le_refl _))) (CH.le_trans hG3 (CH.le_trans (CH.le_refl _) (CH.le_refl _))) r446 hg445) ?_)
              rintro e_ w_ ⟨rfl, C447⟩
              have C448 : Ctx _ _ _ _ F [p424, p382, CH.row g21 0 (a2.map (Value.int .u8)), CH.row g17 0 (a1.map (Value.int .u8))] := Ctx.call (qs := []) (rest := [p424, p382, CH.row g21 0 (a2.map (Value.int .u8)), CH.row g17 0 (a1.map (Value.int .u8))]) C443 C447
              refine ⟨_, rfl, ⟨trivial, trivial, trivial⟩, ?_⟩
              refine WA.take none [] 26 rfl (by kernel_rfl) (by kernel_rfl) (show _ = #[true, true, true, true, true, true, true, true, true, true, true, true, true, true, true, true, true, true, true, true, true, true, true, true, true, true, true, false] from rfl) trivial ⟨trivial, trivial, trivial⟩ (fun _ hC_ => Yl.pickT (v := .bool r446) (congrArg Value.bool (decide_eq_true hc444)) rfl) ?_
              refine WA.take none [] 27 rfl (by kernel_rfl) (by kernel_rfl) (show _ = #[true, true, true, true, true, true, true, true, true, true, true, true, true, true, true, true, true, true, true, true, true, true, true, true, true, true, true, true] from rfl) trivial ⟨trivial, trivial, trivial⟩ (fun _ hC_ => Yl.assign (v := .bool r446) rfl) ?_
              refine WA.done (by kernel_rfl) ?_
              have C449 : Ctx _ _ _ _ F [p382, CH.row g21 0 (a2.map (Value.int .u8)), CH.row g17 0 (a1.map (Value.int .u8))] := Ctx.drop [] [p382, CH.row g21 0 (a2.map (Value.int .u8)), CH.row g17 0 (a1.map (Value.int .u8))] C448
              have C450 : Ctx _ _ _ _ F [CH.row g21 0 (a2.map (Value.int .u8)), CH.row g17 0 (a1.map (Value.int .u8))] := Ctx.drop [] [CH.row g21 0 (a2.map (Value.int .u8)), CH.row g17 0 (a1.map (Value.int .u8))] C449
              cases hX258
              refine thenE_n ?_
              exact ⟨rfl, C450⟩
            · skip
              refine WA.up1Off 25 (by kernel_rfl) rfl rfl (congrArg Value.bool (decide_eq_false hc444)) rfl (show _ = #[true, true, true, true, true, true, true, true, true, true, true, true, true, true, true, true, true, true, true, true, true, true, true, true, true, true, false, false] from rfl) ⟨trivial, trivial, trivial⟩ ?_
              refine WA.take none [] 26 rfl (by kernel_rfl) (by kernel_rfl) (show _ = #[true, true, true, true, true, true, true, true, true, true, true, true, true, true, true, true, true, true, true, true, true, true, true, true, true, true, true, false] from rfl) trivial ⟨trivial, trivial, trivial⟩ (fun _ hC_ => Yl.pickF (v := .bool false) (congrArg Value.bool (decide_eq_false hc444)) rfl) ?_
              refine WA.take none [] 27 rfl (by kernel_rfl) (by kernel_rfl) (show _ = #[true, true, true, true, true, true, true, true, true, true, true, true, true, true, true, true, true, true, true, true, true, true, true, true, true, true, true, true] from rfl) trivial ⟨trivial, trivial, trivial⟩ (fun _ hC_ => Yl.assign (v := .bool false) rfl) ?_
              refine WA.done (by kernel_rfl) ?_
              have C451 : Ctx _ _ _ _ F [p382, CH.row g21 0 (a2.map (Value.int .u8)), CH.row g17 0 (a1.map (Value.int .u8))] := Ctx.drop [] [p382, CH.row g21 0 (a2.map (Value.int .u8)), CH.row g17 0 (a1.map (Value.int .u8))] C443
              have C452 : Ctx _ _ _ _ F [CH.row g21 0 (a2.map (Value.int .u8)), CH.row g17 0 (a1.map (Value.int .u8))] := Ctx.drop [] [CH.row g21 0 (a2.map (Value.int .u8)), CH.row g17 0 (a1.map (Value.int .u8))] C451
              cases hX258
              refine thenE_n ?_
              exact ⟨rfl, C452⟩
          · skip
            refine WA.takeOff 17 rfl rfl (congrArg Value.bool (decide_eq_false hc410)) (by kernel_rfl) (by kernel_rfl) (show _ = #[true, true, true, true, true, true, true, true, true, true, true, true, true, true, true, true, false, true, false, false, false, false, false, false, false, false, false, false] from rfl) ⟨trivial, trivial, trivial⟩ ?_
            refine WA.takeOff 20 rfl rfl (congrArg Value.bool (decide_eq_false hc410)) (by kernel_rfl) (by kernel_rfl) (show _ = #[true, true, true, true, true, true, true, true, true, true, true, true, true, true, true, true, false, true, false, false, true, false, false, false, false, false, false, false] from rfl) ⟨trivial, trivial, trivial⟩ ?_
            refine WA.up1Off 16 (by kernel_rfl) rfl rfl (congrArg Value.bool (decide_eq_false hc410)) rfl (show _ = #[true, true, true, true, true, true, true, true, true, true, true, true, true, true, true, true, true, true, false, false, true, false, false, false, false, false, false, false] from rfl) ⟨trivial, trivial, trivial⟩ ?_
            refine WA.up1Off 18 (by kernel_rfl) rfl rfl (congrArg Value.bool (decide_eq_false hc410)) rfl (show _ = #[true, true, true, true, true, true, true, true, true, true, true, true, true, true, true, true, true, true, true, false, true, false, false, false, false, false, false, false] from rfl) ⟨trivial, trivial, trivial⟩ ?_
            refine WA.up1Off 19 (by kernel_rfl) rfl rfl (congrArg Value.bool (decide_eq_false hc410)) rfl (show _ = #[true, true, true, true, true, true, true, true, true, true, true, true, true, true, true, true, true, true, true, true, true, false, false, false, false, false, false, false] from rfl) ⟨trivial, trivial, trivial⟩ ?_
            refine WA.up1Off 21 (by kernel_rfl) rfl rfl (congrArg Value.bool (decide_eq_false hc410)) rfl (show _ = #[true, true, true, true, true, true, true, true, true, true, true, true, true, true, true, true, true, true, true, true, true, true, false, false, false, false, false, false] from rfl) ⟨trivial, trivial, trivial⟩ ?_
            refine WA.takeOff 22 rfl rfl (congrArg Value.bool (decide_eq_false hc410)) (by kernel_rfl) (by kernel_rfl) (show _ = #[true, true, true, true, true, true, true, true, true, true, true, true, true, true, true, true, true, true, true, true, true, true, true, false, false, false, false, false] from rfl) ⟨trivial, trivial, trivial⟩ ?_
            refine WA.take none [] 23 rfl (by kernel_rfl) (by kernel_rfl) (show _ = #[true, true, true, true, true, true, true, true, true, true, true, true, true, true, true, true, true, true, true, true, true, true, true, true, false, false, false, false] from rfl) trivial ⟨trivial, trivial, trivial⟩ (fun _ hC_ => Yl.pickF (v := .bool false) (congrArg Value.bool (decide_eq_false hc410)) rfl) ?_
            refine WA.take none [] 24 rfl (by kernel_rfl) (by kernel_rfl) (show _ = #[true, true, true, true, true, true, true, true, true, true, true, true, true, true, true, true, true, true, true, true, true, true, true, true, true, false, false, false] from rfl) trivial ⟨trivial, trivial, trivial⟩ (fun _ hC_ => Yl.move (v := .bool false) rfl) ?_
            refine WA.up1Off 25 (by kernel_rfl) rfl rfl rfl rfl (show _ = #[true, true, true, true, true, true, true, true, true, true, true, true, true, true, true, true, true, true, true, true, true, true, true, true, true, true, false, false] from rfl) ⟨trivial, trivial, trivial⟩ ?_
            refine WA.take none [] 26 rfl (by kernel_rfl) (by kernel_rfl) (show _ = #[true, true, true, true, true, true, true, true, true, true, true, true, true, true, true, true, true, true, true, true, true, true, true, true, true, true, true, false] from rfl) trivial ⟨trivial, trivial, trivial⟩ (fun _ hC_ => Yl.pickF (v := .bool false) rfl rfl) ?_
            refine WA.take none [] 27 rfl (by kernel_rfl) (by kernel_rfl) (show _ = #[true, true, true, true, true, true, true, true, true, true, true, true, true, true, true, true, true, true, true, true, true, true, true, true, true, true, true, true] from rfl) trivial ⟨trivial, trivial, trivial⟩ (fun _ hC_ => Yl.assign (v := .bool false) rfl) ?_
            refine WA.done (by kernel_rfl) ?_
            have C453 : Ctx _ _ _ _ F [CH.row g21 0 (a2.map (Value.int .u8)), CH.row g17 0 (a1.map (Value.int .u8))] := Ctx.drop [] [CH.row g21 0 (a2.map (Value.int .u8)), CH.row g17 0 (a1.map (Value.int .u8))] C409
            cases hX258
            refine thenE_n ?_
            exact ⟨rfl, C453⟩
        · skip
          refine WA.takeOff 7 rfl rfl (congrArg Value.bool (decide_eq_false hc399)) (by kernel_rfl) (by kernel_rfl) (show _ = #[true, true, true, true, true, true, true, true, false, false, false, false, false, false, false, false, false, false, false, false, false, false, false, false, false, false, false, false] from rfl) ⟨(Ctx.sub_of [p382, CH.row g21 0 (a2.map (Value.int .u8))] [] C398), (Ctx.sub_of [p382] [CH.row g17 0 (a1.map (Value.int .u8))] C398), trivial⟩ ?_
          refine WA.takeOff 8 rfl rfl (congrArg Value.bool (decide_eq_false hc399)) (by kernel_rfl) (by kernel_rfl) (show _ = #[true, true, true, true, true, true, true, true, true, false, false, false, false, false, false, false, false, false, false, false, false, false, false, false, false, false, false, false] from rfl) ⟨(Ctx.sub_of [p382, CH.row g21 0 (a2.map (Value.int .u8))] [] C398), (Ctx.sub_of [p382] [CH.row g17 0 (a1.map (Value.int .u8))] C398), trivial⟩ ?_
          refine WA.takeOff 9 rfl rfl (congrArg Value.bool (decide_eq_false hc399)) (by kernel_rfl) (by kernel_rfl) (show _ = #[true, true, true, true, true, true, true, true, true, true, false, false, false, false, false, false, false, false, false, false, false, false, false, false, false, false, false, false] from rfl) ⟨(Ctx.sub_of [p382, CH.row g21 0 (a2.map (Value.int .u8))] [] C398), (Ctx.sub_of [p382] [CH.row g17 0 (a1.map (Value.int .u8))] C398), trivial⟩ ?_
          refine WA.takeOff 10 rfl rfl (congrArg Value.bool (decide_eq_false hc399)) (by kernel_rfl) (by kernel_rfl) (show _ = #[true, true, true, true, true, true, true, true, true, true, true, false, false, false, false, false, false, false, false, false, false, false, false, false, false, false, false, false] from rfl) ⟨(Ctx.sub_of [p382, CH.row g21 0 (a2.map (Value.int .u8))] [] C398), (Ctx.sub_of [p382] [CH.row g17 0 (a1.map (Value.int .u8))] C398), trivial⟩ ?_
          refine WA.takeOff 11 rfl rfl (congrArg Value.bool (decide_eq_false hc399)) (by kernel_rfl) (by kernel_rfl) (show _ = #[true, true, true, true, true, true, true, true, true, true, true, true, false, false, false, false, false, false, false, false, false, false, false, false, false, false, false, false] from rfl) ⟨(Ctx.sub_of [p382, CH.row g21 0 (a2.map (Value.int .u8))] [] C398), (Ctx.sub_of [p382] [CH.row g17 0 (a1.map (Value.int .u8))] C398), trivial⟩ ?_
          refine WA.up1Off 12 (by kernel_rfl) rfl rfl (congrArg Value.bool (decide_eq_false hc399)) rfl (show _ = #[true, true, true, true, true, true, true, true, true, true, true, true, true, false, false, false, false, false, false, false, false, false, false, false, false, false, false, false] from rfl) ⟨trivial, trivial, trivial⟩ ?_
          refine WA.takeOff 13 rfl rfl (congrArg Value.bool (decide_eq_false hc399)) (by kernel_rfl) (by kernel_rfl) (show _ = #[true, true, true, true, true, true, true, true, true, true, true, true, true, true, false, false, false, false, false, false, false, false, false, false, false, false, false, false] from rfl) ⟨trivial, trivial, trivial⟩ ?_
          refine WA.take none [] 14 rfl (by kernel_rfl) (by kernel_rfl) (show _ = #[true, true, true, true, true, true, true, true, true, true, true, true, true, true, true, false, false, false, false, false, false, false, false, false, false, false, false, false] from rfl) trivial ⟨trivial, trivial, trivial⟩ (fun _ hC_ => Yl.pickF (v := .bool false) (congrArg Value.bool (decide_eq_false hc399)) rfl) ?_
          refine WA.take none [] 15 rfl (by kernel_rfl) (by kernel_rfl) (show _ = #[true, true, true, true, true, true, true, true, true, true, true, true, true, true, true, true, false, false, false, false, false, false, false, false, false, false, false, false] from rfl) trivial ⟨trivial, trivial, trivial⟩ (fun _ hC_ => Yl.move (v := .bool false) rfl) ?_
          refine WA.takeOff 17 rfl rfl rfl (by kernel_rfl) (by kernel_rfl) (show _ = #[true, true, true, true, true, true, true, true, true, true, true, true, true, true, true, true, false, true, false, false, false, false, false, false, false, false, false, false] from rfl) ⟨trivial, trivial, trivial⟩ ?_
          refine WA.takeOff 20 rfl rfl rfl (by kernel_rfl) (by kernel_rfl) (show _ = #[true, true, true, true, true, true, true, true, true, true, true, true, true, true, true, true, false, true, false, false, true, false, false, false, false, false, false, false] from rfl) ⟨trivial, trivial, trivial⟩ ?_
          refine WA.up1Off 16 (by kernel_rfl) rfl rfl rfl rfl (show _ = #[true, true, true, true, true, true, true, true, true, true, true, true, true, true, true, true, true, true, false, false, true, false, false, false, false, false, false, false] from rfl) ⟨trivial, trivial, trivial⟩ ?_
          refine WA.up1Off 18 (by kernel_rfl) rfl rfl rfl rfl (show _ = #[true, true, true, true, true, true, true, true, true, true, true, true, true, true, true, true, true, true, true, false, true, false, false, false, false, false, false, false] from rfl) ⟨trivial, trivial, trivial⟩ ?_
          refine WA.up1Off 19 (by kernel_rfl) rfl rfl rfl rfl (show _ = #[true, true, true, true, true, true, true, true, true, true, true, true, true, true, true, true, true, true, true, true, true, false, false, false, false, false, false, false] from rfl) ⟨trivial, trivial, trivial⟩ ?_
          refine WA.up1Off 21 (by kernel_rfl) rfl rfl rfl rfl (show _ = #[true, true, true, true, true, true, true, true, true, true, true, true, true, true, true, true, true, true, true, true, true, true, false, false, false, false, false, false] from rfl) ⟨trivial, trivial, trivial⟩ ?_
          refine WA.takeOff 22 rfl rfl rfl (by kernel_rfl) (by kernel_rfl) (show _ = #[true, true, true, true, true, true, true, true, true, true, true, true, true, true, true, true, true, true, true, true, true, true, true, false, false, false, false, false] from rfl) ⟨trivial, trivial, trivial⟩ ?_
          refine WA.take none [] 23 rfl (by kernel_rfl) (by kernel_rfl) (show _ = #[true, true, true, true, true, true, true, true, true, true, true, true, true, true, true, true, true, true, true, true, true, true, true, true, false, false, false, false] from rfl) trivial ⟨trivial, trivial, trivial⟩ (fun _ hC_ => Yl.pickF (v := .bool false) rfl rfl) ?_
          refine WA.take none [] 24 rfl (by kernel_rfl) (by kernel_rfl) (show _ = #[true, true, true, true, true, true, true, true, true, true, true, true, true, true, true, true, true, true, true, true, true, true, true, true, true, false, false, false] from rfl) trivial ⟨trivial, trivial, trivial⟩ (fun _ hC_ => Yl.move (v := .bool false) rfl) ?_
          refine WA.up1Off 25 (by kernel_rfl) rfl rfl rfl rfl (show _ = #[true, true, true, true, true, true, true, true, true, true, true, true, true, true, true, true, true, true, true, true, true, true, true, true, true, true, false, false] from rfl) ⟨trivial, trivial, trivial⟩ ?_
          refine WA.take none [] 26 rfl (by kernel_rfl) (by kernel_rfl) (show _ = #[true, true, true, true, true, true, true, true, true, true, true, true, true, true, true, true, true, true, true, true, true, true, true, true, true, true, true, false] from rfl) trivial ⟨trivial, trivial, trivial⟩ (fun _ hC_ => Yl.pickF (v := .bool false) rfl rfl) ?_
          refine WA.take none [] 27 rfl (by kernel_rfl) (by kernel_rfl) (show _ = #[true, true, true, true, true, true, true, true, true, true, true, true, true, true, true, true, true, true, true, true, true, true, true, true, true, true, true, true] from rfl) trivial ⟨trivial, trivial, trivial⟩ (fun _ hC_ => Yl.assign (v := .bool false) rfl) ?_
          refine WA.done (by kernel_rfl) ?_
          have C454 : Ctx _ _ _ _ F [CH.row g21 0 (a2.map (Value.int .u8)), CH.row g17 0 (a1.map (Value.int .u8))] := Ctx.drop [] [CH.row g21 0 (a2.map (Value.int .u8)), CH.row g17 0 (a1.map (Value.int .u8))] C398
          cases hX258
          refine thenE_n ?_
          exact ⟨rfl, C454⟩
      · skip
        rintro env_ w_ ⟨ho255, C257⟩
        refine W.ret ?_
        have C455 : Ctx _ _ _ _ F [CH.row g17 0 (a1.map (Value.int .u8))] := Ctx.drop [] [CH.row g17 0 (a1.map (Value.int .u8))] C257
        have C456 : Ctx _ _ _ _ F [] := Ctx.drop [] [] C455
        have e457 := Option.some.inj H
        subst e457
        exact post_r (resE1 rfl ho255) ⟨rfl, C456⟩
end Go.Proofs.YthdlfclkcdnenaaDoor
