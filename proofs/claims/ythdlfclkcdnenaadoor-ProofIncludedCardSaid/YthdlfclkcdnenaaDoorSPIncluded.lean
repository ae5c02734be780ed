/- Functions of the program: each as a plain function of numbers and lists, and the proof that the program's own comes to it. Nothing is assumed but what each theorem says. -/
import Derived.Test.YthdlfclkcdnenaaDoorSGg
import Derived.Test.YthdlfclkcdnenaaDoorSGd
namespace Go.Proofs.YthdlfclkcdnenaaDoor
open Go.RowKit Go.WG
set_option linter.unusedVariables false
set_option linter.unusedSimpArgs false
def juratlaw08_ProofIncluded.f (k : Nat) (a0 : List Int) (a1 : Int) (a2 : Int) (a3 : List (List Int)) (a4 : List Int) : Option Bool := if (a3.length : Int) > 80 then ((juratlaw08_awake.f k ).bind fun r20 => some r20) else (((juratlaw08_own.f k a3).bind fun r214 => (proof_Included.f k a0 a1 a2 r214 a4).bind fun r227 => (juratref08_Included.f k a0 a1 a2 a3 a4).bind fun r231 => if r227 = r231 then ((juratlaw08_awake.f k ).bind fun r236 => some r236) else (some false)).bind fun x142 => some x142)
set_option maxRecDepth 100000 in
set_option maxHeartbeats 4000000 in
theorem juratlaw08_ProofIncluded.calls (k : Nat) (w : World) (F : CH) (a0 : List Int) (a1 : Int) (a2 : Int) (A2 : Option Addr) (c3 : Nat) (n4 : Nat) (a3 : List (List Int)) (a4 : List Int) (hp : Pre w F []) (ha1 : a0.length = 32) (hn5 : n4 = a3.length) (hl6 : a3.length ≤ c3) (hm7 : c3 ≤ maxLen) (hS8 : Sl (Kd.arrI 32 .u8) F F A2 a3) (ha9 : a4.length = 32) (hG0 : CH.le (CH.row 0 0 (glob0.map (Value.int .u32))) F) (hG1 : CH.le (CH.row 1 0 (glob1.map (Value.int .u32))) F) (hG2 : CH.le (CH.row 2 0 (glob2.map (Value.int .u32))) F) (hG3 : CH.le (CH.row 3 0 (glob3.map (Value.int .u32))) F) (r0_ : Bool) (H : juratlaw08_ProofIncluded.f k a0 a1 a2 a3 a4 = some r0_) :
    Calls Tryd.prog 8 #[.agg (List.toArray (a0.map (Value.int .u8))), .int .i64 a1, .int .i64 a2, .slice A2 n4 c3, .agg (List.toArray (a4.map (Value.int .u8)))] w fun e w' => e = .returned (.bool r0_) ∧ Ctx w F (domL []) w' F [] := by
  have C := Ctx.start hp
  generalize hD : domL [] = D at C ⊢
  unfold juratlaw08_ProofIncluded.f at H
  refine Calls.ofW Tryd.func8 rfl (by simp [Tryd.ntmps8]) ?_
  refine W.seq ?_
  refine W.region rfl ?_
  obtain ⟨g10, w11, hy12, C13⟩ := ev_box (P := Tryd.prog) 33 (.agg (List.toArray (a0.map (Value.int .u8)))) (a0.map (Value.int .u8)) C rfl
  refine WL.val (hy12 _ _ _ rfl) ?_
  obtain ⟨g14, w15, hy16, C17⟩ := ev_box (P := Tryd.prog) 33 (.agg (List.toArray (a4.map (Value.int .u8)))) (a4.map (Value.int .u8)) C13 rfl
  refine WL.val (hy16 _ _ _ rfl) ?_
  refine WL.val (Yl.assign (v := .bool false) rfl) ?_
  refine WL.done ?_
  refine W.seq ?_
  refine W.seq ?_
  refine W.region rfl ?_
  refine WL.val (Yl.move (v := .slice A2 n4 c3) rfl) ?_
  refine WL.val (Yl.lenN (A := A2) (l := n4) (q := c3) (n := (a3.length : Int)) rfl Tryd.underlying31 (by omega)) ?_
  refine WL.val (Yl.gtr (m := (a3.length : Int)) (n := 80) (q := decide ((a3.length : Int) > 80)) rfl rfl rfl) ?_
  refine WL.done ?_
  rcases iteE H with ⟨hc18, H⟩ | ⟨hc18, H⟩
  · skip
    refine W.condT (congrArg Value.bool (decide_eq_true hc18)) ?_
    refine W.seq ?_
    refine W.region rfl ?_
    obtain ⟨r20, hg19, H⟩ := bindE H
    refine WL.call (args := #[]) (Yenter.fn Tryd.func21 (by kernel_rfl) rfl (argsE .nil)) (juratlaw08_awake.calls k _ F  (Ctx.pre (qs := []) (rest := [CH.row g14 0 (a4.map (Value.int .u8)), CH.row g10 0 (a0.map (Value.int .u8))]) C17) (CH.le_trans hG1 (CH.le_trans (CH.le_refl _) (CH.le_refl _))) (CH.le_trans hG3 (CH.le_trans (CH.le_refl _) (CH.le_refl _))) r20 hg19) ?_
    rintro e_ w_ ⟨rfl, C21⟩
    refine ⟨_, rfl, ?_⟩
    have C22 : Ctx _ _ _ _ F [CH.row g14 0 (a4.map (Value.int .u8)), CH.row g10 0 (a0.map (Value.int .u8))] := Ctx.call (qs := []) (rest := [CH.row g14 0 (a4.map (Value.int .u8)), CH.row g10 0 (a0.map (Value.int .u8))]) C17 C21
    refine WL.val (Yl.assign (v := .bool r20) rfl) ?_
    refine WL.done ?_
    refine W.ret ?_
    refine thenE_r ?_
    have C23 : Ctx _ _ _ _ F [CH.row g10 0 (a0.map (Value.int .u8))] := Ctx.drop [] [CH.row g10 0 (a0.map (Value.int .u8))] C22
    have C24 : Ctx _ _ _ _ F [] := Ctx.drop [] [] C23
    have e25 := Option.some.inj H
    subst e25
    exact post_r (resE1 rfl rfl) ⟨rfl, C24⟩
  · skip
    refine W.condF (congrArg Value.bool (decide_eq_false hc18)) ?_
    refine W.skip ?_
    refine W.seq ?_
    obtain ⟨x142, hX144, H⟩ := bindE H
    refine W.cutM (fun env_ w_ => env_ 10 = .bool x142 ∧ Ctx w F D w_ F [CH.row g14 0 (a4.map (Value.int .u8)), CH.row g10 0 (a0.map (Value.int .u8))]) ?_ ?_
    · skip
      refine W.regionA [([12, 15], CH.row g10 0 (a0.map (Value.int .u8))), ([12, 15], CH.row g14 0 (a4.map (Value.int .u8)))] (by kernel_rfl) ?_
      have C212 := Ctx.drewN C17 1
      refine WA.take (some 0) [6, 12, 13, 14, 15, 16, 17] 0 rfl (by kernel_rfl) (by kernel_rfl) (show _ = #[true, false, false, false, false, false, false, false, false, false, false, false, false, false, false, false, false, false] from rfl) (Ctx.sub_of [CH.row g14 0 (a4.map (Value.int .u8))] [] C212) ⟨(Ctx.sub_of [CH.row g14 0 (a4.map (Value.int .u8))] [] C212), (Ctx.sub_of [] [CH.row g10 0 (a0.map (Value.int .u8))] C212), trivial⟩ (fun _ hC_ => Yl.loadVA (g := g10) (off := 0) (o := 0) (cs := a0.map (Value.int .u8)) (us := a0.map (Value.int .u8)) rfl Tryd.underlying33 rfl (sz_of sz33 (by first | (simp only [List.length_append, List.length_map, List.length_cons, List.length_nil, ha1]; done) | simp [ha1])) (show Sub (CH.row g10 0 (a0.map (Value.int .u8))) _ from hC_) (take_all _)) ?_
      refine WA.take none [] 1 rfl (by kernel_rfl) (by kernel_rfl) (show _ = #[true, true, false, false, false, false, false, false, false, false, false, false, false, false, false, false, false, false] from rfl) trivial ⟨(Ctx.sub_of [CH.row g14 0 (a4.map (Value.int .u8))] [] C212), (Ctx.sub_of [] [CH.row g10 0 (a0.map (Value.int .u8))] C212), trivial⟩ (fun _ hC_ => Yl.move (v := .int .i64 a1) rfl) ?_
      refine WA.take none [] 2 rfl (by kernel_rfl) (by kernel_rfl) (show _ = #[true, true, true, false, false, false, false, false, false, false, false, false, false, false, false, false, false, false] from rfl) trivial ⟨(Ctx.sub_of [CH.row g14 0 (a4.map (Value.int .u8))] [] C212), (Ctx.sub_of [] [CH.row g10 0 (a0.map (Value.int .u8))] C212), trivial⟩ (fun _ hC_ => Yl.move (v := .int .i64 a2) rfl) ?_
      refine WA.take none [] 3 rfl (by kernel_rfl) (by kernel_rfl) (show _ = #[true, true, true, true, false, false, false, false, false, false, false, false, false, false, false, false, false, false] from rfl) trivial ⟨(Ctx.sub_of [CH.row g14 0 (a4.map (Value.int .u8))] [] C212), (Ctx.sub_of [] [CH.row g10 0 (a0.map (Value.int .u8))] C212), trivial⟩ (fun _ hC_ => Yl.move (v := .slice A2 n4 c3) rfl) ?_
      refine WA.take (some 1) [6, 12, 13, 14, 15, 16, 17] 5 rfl (by kernel_rfl) (by kernel_rfl) (show _ = #[true, true, true, true, false, true, false, false, false, false, false, false, false, false, false, false, false, false] from rfl) (Ctx.sub_of [] [CH.row g10 0 (a0.map (Value.int .u8))] C212) ⟨(Ctx.sub_of [CH.row g14 0 (a4.map (Value.int .u8))] [] C212), (Ctx.sub_of [] [CH.row g10 0 (a0.map (Value.int .u8))] C212), trivial⟩ (fun _ hC_ => Yl.loadVA (g := g14) (off := 0) (o := 0) (cs := a4.map (Value.int .u8)) (us := a4.map (Value.int .u8)) rfl Tryd.underlying33 rfl (sz_of sz33 (by first | (simp only [List.length_append, List.length_map, List.length_cons, List.length_nil, ha9]; done) | simp [ha9])) (show Sub (CH.row g14 0 (a4.map (Value.int .u8))) _ from hC_) (take_all _)) ?_
      refine WA.take (some 0) [12, 13, 14, 15, 16, 17] 7 rfl (by kernel_rfl) (by kernel_rfl) (show _ = #[true, true, true, true, false, true, false, true, false, false, false, false, false, false, false, false, false, false] from rfl) (Ctx.sub_of [CH.row g14 0 (a4.map (Value.int .u8))] [] C212) ⟨(Ctx.sub_of [CH.row g14 0 (a4.map (Value.int .u8))] [] C212), (Ctx.sub_of [] [CH.row g10 0 (a0.map (Value.int .u8))] C212), trivial⟩ (fun _ hC_ => Yl.loadVA (g := g10) (off := 0) (o := 0) (cs := a0.map (Value.int .u8)) (us := a0.map (Value.int .u8)) rfl Tryd.underlying33 rfl (sz_of sz33 (by first | (simp only [List.length_append, List.length_map, List.length_cons, List.length_nil, ha1]; done) | simp [ha1])) (show Sub (CH.row g10 0 (a0.map (Value.int .u8))) _ from hC_) (take_all _)) ?_
      refine WA.take none [] 8 rfl (by kernel_rfl) (by kernel_rfl) (show _ = #[true, true, true, true, false, true, false, true, true, false, false, false, false, false, false, false, false, false] from rfl) trivial ⟨(Ctx.sub_of [CH.row g14 0 (a4.map (Value.int .u8))] [] C212), (Ctx.sub_of [] [CH.row g10 0 (a0.map (Value.int .u8))] C212), trivial⟩ (fun _ hC_ => Yl.move (v := .int .i64 a1) rfl) ?_
      refine WA.take none [] 9 rfl (by kernel_rfl) (by kernel_rfl) (show _ = #[true, true, true, true, false, true, false, true, true, true, false, false, false, false, false, false, false, false] from rfl) trivial ⟨(Ctx.sub_of [CH.row g14 0 (a4.map (Value.int .u8))] [] C212), (Ctx.sub_of [] [CH.row g10 0 (a0.map (Value.int .u8))] C212), trivial⟩ (fun _ hC_ => Yl.move (v := .int .i64 a2) rfl) ?_
      refine WA.take none [] 10 rfl (by kernel_rfl) (by kernel_rfl) (show _ = #[true, true, true, true, false, true, false, true, true, true, true, false, false, false, false, false, false, false] from rfl) trivial ⟨(Ctx.sub_of [CH.row g14 0 (a4.map (Value.int .u8))] [] C212), (Ctx.sub_of [] [CH.row g10 0 (a0.map (Value.int .u8))] C212), trivial⟩ (fun _ hC_ => Yl.move (v := .slice A2 n4 c3) rfl) ?_
      refine WA.take (some 1) [12, 13, 14, 15, 16, 17] 11 rfl (by kernel_rfl) (by kernel_rfl) (show _ = #[true, true, true, true, false, true, false, true, true, true, true, true, false, false, false, false, false, false] from rfl) (Ctx.sub_of [] [CH.row g10 0 (a0.map (Value.int .u8))] C212) ⟨(Ctx.sub_of [CH.row g14 0 (a4.map (Value.int .u8))] [] C212), (Ctx.sub_of [] [CH.row g10 0 (a0.map (Value.int .u8))] C212), trivial⟩ (fun _ hC_ => Yl.loadVA (g := g14) (off := 0) (o := 0) (cs := a4.map (Value.int .u8)) (us := a4.map (Value.int .u8)) rfl Tryd.underlying33 rfl (sz_of sz33 (by first | (simp only [List.length_append, List.length_map, List.length_cons, List.length_nil, ha9]; done) | simp [ha9])) (show Sub (CH.row g14 0 (a4.map (Value.int .u8))) _ from hC_) (take_all _)) ?_
      obtain ⟨r214, hg213, hX144⟩ := bindE hX144
      refine WA.up1 4 (by kernel_rfl) (Up.call (args := #[.slice A2 n4 c3]) rfl (by kernel_rfl) (show _ = #[true, true, true, true, true, true, false, true, true, true, true, true, false, false, false, false, false, false] from rfl) (Yenter.fn Tryd.func23 (by kernel_rfl) rfl (argsE (.cons rfl .nil))) (juratlaw08_own.calls k _ F A2 c3 n4 a3 (Ctx.pre (qs := []) (rest := [CH.row g14 0 (a4.map (Value.int .u8)), CH.row g10 0 (a0.map (Value.int .u8))]) C212) hn5 hl6 hm7 hS8 r214 hg213) ?_)
      rintro e_ w_ ⟨A215, c216, n217, p219, rfl, C221, hn218, hR220⟩
      have C222 : Ctx _ _ _ _ F [p219, CH.row g14 0 (a4.map (Value.int .u8)), CH.row g10 0 (a0.map (Value.int .u8))] := Ctx.call (qs := []) (rest := [CH.row g14 0 (a4.map (Value.int .u8)), CH.row g10 0 (a0.map (Value.int .u8))]) C212 C221
      refine ⟨_, rfl, ⟨(Ctx.sub_of [p219, CH.row g14 0 (a4.map (Value.int .u8))] [] C222), (Ctx.sub_of [p219] [CH.row g10 0 (a0.map (Value.int .u8))] C222), trivial⟩, ?_⟩
      have le223 : CH.le F (CH.join F p219) := CH.le_joinL _ _
      have lp224 : CH.le p219 (CH.join F p219) := CH.le_joinR (Ctx.dis_of [] [CH.row g14 0 (a4.map (Value.int .u8)), CH.row g10 0 (a0.map (Value.int .u8))] C222)
      have C225 : Ctx _ _ _ _ (CH.join F p219) [CH.row g14 0 (a4.map (Value.int .u8)), CH.row g10 0 (a0.map (Value.int .u8))] := Ctx.freeze [] [CH.row g14 0 (a4.map (Value.int .u8)), CH.row g10 0 (a0.map (Value.int .u8))] C222
      obtain ⟨r227, hg226, hX144⟩ := bindE hX144
      refine WA.up1 6 (by kernel_rfl) (Up.call (args := #[.agg (List.toArray (a0.map (Value.int .u8))), .int .i64 a1, .int .i64 a2, .slice A215 n217 c216, .agg (List.toArray (a4.map (Value.int .u8)))]) rfl (by kernel_rfl) (show _ = #[true, true, true, true, true, true, true, true, true, true, true, true, false, false, false, false, false, false] from rfl) (Yenter.fn Tryd.func34 (by kernel_rfl) rfl (argsE (.cons rfl (.cons rfl (.cons rfl (.cons rfl (.cons rfl .nil))))))) (proof_Included.calls k _ (CH.join F p219) a0 a1 a2 A215 c216 n217 r214 a4 (Ctx.pre (qs := []) (rest := [CH.row g14 0 (a4.map (Value.int .u8)), CH.row g10 0 (a0.map (Value.int .u8))]) C225) ha1 hn218 (Row.len_le hR220).1 (Row.len_le hR220).2.1 (Sl.mono (Row.sl hR220) le223 lp224) ha9 (CH.le_trans hG1 (CH.le_trans (CH.le_refl _) le223)) (CH.le_trans hG3 (CH.le_trans (CH.le_refl _) le223)) r227 hg226) ?_)
      rintro e_ w_ ⟨rfl, C228⟩
      have C229 : Ctx _ _ _ _ F [p219, CH.row g14 0 (a4.map (Value.int .u8)), CH.row g10 0 (a0.map (Value.int .u8))] := Ctx.callL (qs := []) (rest := [p219, CH.row g14 0 (a4.map (Value.int .u8)), CH.row g10 0 (a0.map (Value.int .u8))]) C222 le223 C228
      refine ⟨_, rfl, ⟨(Ctx.sub_of [p219, CH.row g14 0 (a4.map (Value.int .u8))] [] C229), (Ctx.sub_of [p219] [CH.row g10 0 (a0.map (Value.int .u8))] C229), trivial⟩, ?_⟩
      obtain ⟨r231, hg230, hX144⟩ := bindE hX144
      refine WA.up1 12 (by kernel_rfl) (Up.call (args := #[.agg (List.toArray (a0.map (Value.int .u8))), .int .i64 a1, .int .i64 a2, .slice A2 n4 c3, .agg (List.toArray (a4.map (Value.int .u8)))]) rfl (by kernel_rfl) (show _ = #[true, true, true, true, true, true, true, true, true, true, true, true, true, false, false, false, false, false] from rfl) (Yenter.fn Tryd.func35 (by kernel_rfl) rfl (argsE (.cons rfl (.cons rfl (.cons rfl (.cons rfl (.cons rfl .nil))))))) (juratref08_Included.calls k _ F a0 a1 a2 A2 c3 n4 a3 a4 (Ctx.pre (qs := []) (rest := [p219, CH.row g14 0 (a4.map (Value.int .u8)), CH.row g10 0 (a0.map (Value.int .u8))]) C229) ha1 hn5 hl6 hm7 hS8 ha9 (CH.le_trans hG0 (CH.le_trans (CH.le_refl _) (CH.le_refl _))) (CH.le_trans hG2 (CH.le_trans (CH.le_refl _) (CH.le_refl _))) r231 hg230) ?_)
      rintro e_ w_ ⟨rfl, C232⟩
      have C233 : Ctx _ _ _ _ F [p219, CH.row g14 0 (a4.map (Value.int .u8)), CH.row g10 0 (a0.map (Value.int .u8))] := Ctx.call (qs := []) (rest := [p219, CH.row g14 0 (a4.map (Value.int .u8)), CH.row g10 0 (a0.map (Value.int .u8))]) C229 C232
      refine ⟨_, rfl, ⟨trivial, trivial, trivial⟩, ?_⟩
      refine WA.take none [] 13 rfl (by kernel_rfl) (by kernel_rfl) (show _ = #[true, true, true, true, true, true, true, true, true, true, true, true, true, true, false, false, false, false] from rfl) trivial ⟨trivial, trivial, trivial⟩ (fun _ hC_ => Yl.beqD (p := r227) (q := r231) rfl rfl Tryd.underlying4) ?_
      refine WA.take none [] 14 rfl (by kernel_rfl) (by kernel_rfl) (show _ = #[true, true, true, true, true, true, true, true, true, true, true, true, true, true, true, false, false, false] from rfl) trivial ⟨trivial, trivial, trivial⟩ (fun _ hC_ => Yl.move (v := .bool (decide (r227 = r231))) rfl) ?_
      rcases iteE hX144 with ⟨hc234, hX144⟩ | ⟨hc234, hX144⟩
      · skip
        obtain ⟨r236, hg235, hX144⟩ := bindE hX144
        refine WA.up1 15 (by kernel_rfl) (Up.callG (args := #[]) rfl rfl (congrArg Value.bool (decide_eq_true hc234)) (by kernel_rfl) (show _ = #[true, true, true, true, true, true, true, true, true, true, true, true, true, true, true, true, false, false] from rfl) (Yenter.fn Tryd.func21 (by kernel_rfl) rfl (argsE .nil)) (juratlaw08_awake.calls k _ F  (Ctx.pre (qs := []) (rest := [p219, CH.row g14 0 (a4.map (Value.int .u8)), CH.row g10 0 (a0.map (Value.int .u8))]) C233) (CH.le_trans hG1 (CH.le_trans (CH.le_refl _) (CH.le_refl _))) (CH.le_trans hG3 (CH.le_trans (CH.le_refl _) (CH.le_refl _))) r236 hg235) ?_)
        rintro e_ w_ ⟨rfl, C237⟩
        have C238 : Ctx _ _ _ _ F [p219, CH.row g14 0 (a4.map (Value.int .u8)), CH.row g10 0 (a0.map (Value.int .u8))] := Ctx.call (qs := []) (rest := [p219, CH.row g14 0 (a4.map (Value.int .u8)), CH.row g10 0 (a0.map (Value.int .u8))]) C233 C237
        refine ⟨_, rfl, ⟨trivial, trivial, trivial⟩, ?_⟩
        refine WA.take none [] 16 rfl (by kernel_rfl) (by kernel_rfl) (show _ = #[true, true, true, true, true, true, true, true, true, true, true, true, true, true, true, true, true, false] from rfl) trivial ⟨trivial, trivial, trivial⟩ (fun _ hC_ => Yl.pickT (v := .bool r236) (congrArg Value.bool (decide_eq_true hc234)) rfl) ?_
        refine WA.take none [] 17 rfl (by kernel_rfl) (by kernel_rfl) (show _ = #[true, true, true, true, true, true, true, true, true, true, true, true, true, true, true, true, true, true] from rfl) trivial ⟨trivial, trivial, trivial⟩ (fun _ hC_ => Yl.assign (v := .bool r236) rfl) ?_
        refine WA.done (by kernel_rfl) ?_
        have C239 : Ctx _ _ _ _ F [CH.row g14 0 (a4.map (Value.int .u8)), CH.row g10 0 (a0.map (Value.int .u8))] := Ctx.drop [] [CH.row g14 0 (a4.map (Value.int .u8)), CH.row g10 0 (a0.map (Value.int .u8))] C238
        cases hX144
        refine thenE_n ?_
        exact ⟨rfl, C239⟩
      · skip
        refine WA.up1Off 15 (by kernel_rfl) rfl rfl (congrArg Value.bool (decide_eq_false hc234)) rfl (show _ = #[true, true, true, true, true, true, true, true, true, true, true, true, true, true, true, true, false, false] from rfl) ⟨trivial, trivial, trivial⟩ ?_
        refine WA.take none [] 16 rfl (by kernel_rfl) (by kernel_rfl) (show _ = #[true, true, true, true, true, true, true, true, true, true, true, true, true, true, true, true, true, false] from rfl) trivial ⟨trivial, trivial, trivial⟩ (fun _ hC_ => Yl.pickF (v := .bool false) (congrArg Value.bool (decide_eq_false hc234)) rfl) ?_
        refine WA.take none [] 17 rfl (by kernel_rfl) (by kernel_rfl) (show _ = #[true, true, true, true, true, true, true, true, true, true, true, true, true, true, true, true, true, true] from rfl) trivial ⟨trivial, trivial, trivial⟩ (fun _ hC_ => Yl.assign (v := .bool false) rfl) ?_
        refine WA.done (by kernel_rfl) ?_
        have C240 : Ctx _ _ _ _ F [CH.row g14 0 (a4.map (Value.int .u8)), CH.row g10 0 (a0.map (Value.int .u8))] := Ctx.drop [] [CH.row g14 0 (a4.map (Value.int .u8)), CH.row g10 0 (a0.map (Value.int .u8))] C233
        cases hX144
        refine thenE_n ?_
        exact ⟨rfl, C240⟩
    · skip
      rintro env_ w_ ⟨ho141, C143⟩
      refine W.ret ?_
      have C241 : Ctx _ _ _ _ F [CH.row g10 0 (a0.map (Value.int .u8))] := Ctx.drop [] [CH.row g10 0 (a0.map (Value.int .u8))] C143
      have C242 : Ctx _ _ _ _ F [] := Ctx.drop [] [] C241
      have e243 := Option.some.inj H
      subst e243
      exact post_r (resE1 rfl ho141) ⟨rfl, C242⟩
end Go.Proofs.YthdlfclkcdnenaaDoor
