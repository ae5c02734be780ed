/- Functions of the program: each as a plain function of numbers and lists, and the proof that the program's own comes to it. Nothing is assumed but what each theorem says. -/
import Derived.Test.YthdlfclkcdnenaaDoorGh
import Derived.Test.YthdlfclkcdnenaaDoorGl
namespace Go.Proofs.YthdlfclkcdnenaaDoor
open Go.RowKit Go.WG
set_option linter.unusedVariables false
set_option linter.unusedSimpArgs false

/-! ### jurat/juratlaw09.LedgerStays: function 14 -/
def juratlaw09_LedgerStays.l1 : Nat → List (List Int) → Int → TLedger → Option (Sum TLedger Bool)
  | 0, _, _, _ => none
  | k + 1, a1, x506, x507 => if x506 < (a1.length : Int) then (if 0 ≤ x506 ∧ x506 < (a1.length : Int) then (if ((a1.getD x506.toNat []).length : Int) > 500 then ((juratlaw09_awake.f k ).bind fun r615 => some (Sum.inr r615)) else ((juratlaw09_own.f k (a1.getD x506.toNat [])).bind fun r626 => (ledger_Ledger_Append.f k x507 r626).bind fun ⟨r647, r648, r649⟩ => juratlaw09_LedgerStays.l1 k a1 (wi64 (x506 + 1)) r649)) else none) else (some (Sum.inl x507))
def juratlaw09_LedgerStays.l2 : Nat → List (List Int) → TLedger → Int → Option (Sum Unit Bool)
  | 0, _, _, _ => none
  | k + 1, a0, x389, x897 => if x897 < (a0.length : Int) then ((ledger_Ledger_Leaf.f k x389 x897).bind fun ⟨r964, r965⟩ => (if r965 = 0 then (if 0 ≤ x897 ∧ x897 < (a0.length : Int) then ((juratref01_Same.f k r964 (a0.getD x897.toNat [])).bind fun r997 => some (!r997)) else none) else (some (true))).bind fun g975 => if g975 = true then (some (Sum.inr false)) else (juratlaw09_LedgerStays.l2 k a0 x389 (wi64 (x897 + 1)))) else (some (Sum.inl ()))
def juratlaw09_LedgerStays.f (k : Nat) (a0 : List (List Int)) (a1 : List (List Int)) (a2 : Int) (a3 : Int) : Option Bool := (juratlaw09_made.f k a0).bind fun ⟨r16, r17⟩ => (if r17 = true then (some (decide ((a1.length : Int) > 100))) else (some (true))).bind fun g36 => if g36 = true then ((juratlaw09_awake.f k ).bind fun r48 => some r48) else (if (wu64 (wi64 ((a0.length : Int) + 1))) ≠ 0 then ((ledger_Ledger_Head.f k r16 (wi64 ((wu64 a3).tmod (wu64 (wi64 ((a0.length : Int) + 1)))))).bind fun ⟨r66, r67⟩ => (ledger_Ledger_Include.f k r16 a2 (wi64 ((wu64 a3).tmod (wu64 (wi64 ((a0.length : Int) + 1)))))).bind fun ⟨r89, r90⟩ => (ledger_Ledger_Consist.f k r16 a2 (wi64 ((wu64 a3).tmod (wu64 (wi64 ((a0.length : Int) + 1)))))).bind fun ⟨r110, r111⟩ => (juratlaw09_LedgerStays.l1 k a1 0 r16).bind fun o_ => sumE o_ (fun x389 => (ledger_Ledger_Head.f k x389 (wi64 ((wu64 a3).tmod (wu64 (wi64 ((a0.length : Int) + 1)))))).bind fun ⟨r680, r681⟩ => (ledger_Ledger_Include.f k x389 a2 (wi64 ((wu64 a3).tmod (wu64 (wi64 ((a0.length : Int) + 1)))))).bind fun ⟨r703, r704⟩ => (ledger_Ledger_Consist.f k x389 a2 (wi64 ((wu64 a3).tmod (wu64 (wi64 ((a0.length : Int) + 1)))))).bind fun ⟨r724, r725⟩ => (if r67 = r681 then (if r90 = r704 then (if r111 = r725 then (if r66.Size = r680.Size ∧ r66.Root = r680.Root then ((juratref05_Same.f k r89 r703).bind fun r748 => if r748 = true then ((juratref05_Same.f k r110 r724).bind fun r759 => if r759 = true then (some (!decide (r67 = 0))) else (some (true))) else (some (true))) else (some (true))) else (some (true))) else (some (true))) else (some (true))).bind fun g735 => if g735 = true then (some false) else ((juratlaw09_LedgerStays.l2 k a0 x389 0).bind fun o_ => sumE o_ (fun _ => (juratlaw09_awake.f k ).bind fun r1019 => some r1019) (fun p_ => some p_))) (fun p_ => some p_)) else none)
set_option maxRecDepth 100000 in
set_option maxHeartbeats 4000000 in
theorem juratlaw09_LedgerStays.calls (k : Nat) (w : World) (F : CH) (A1 : Option Addr) (c2 : Nat) (n3 : Nat) (a0 : List (List Int)) (A8 : Option Addr) (c9 : Nat) (n10 : Nat) (a1 : List (List Int)) (a2 : Int) (a3 : Int) (hp : Pre w F []) (hn4 : n3 = a0.length) (hl5 : a0.length ≤ c2) (hm6 : c2 ≤ maxLen) (hS7 : Sl (Kd.slice (Kd.int .u8)) F F A1 a0) (hn11 : n10 = a1.length) (hl12 : a1.length ≤ c9) (hm13 : c9 ≤ maxLen) (hS14 : Sl (Kd.slice (Kd.int .u8)) F F A8 a1) (hG1 : CH.le (CH.row 1 0 (glob1.map (Value.int .u32))) F) (hG3 : CH.le (CH.row 3 0 (glob3.map (Value.int .u32))) F) (r0_ : Bool) (H : juratlaw09_LedgerStays.f k a0 a1 a2 a3 = some r0_) :
    Calls Tryd.prog 14 #[.slice A1 n3 c2, .slice A8 n10 c9, .int .i64 a2, .int .i64 a3] w fun e w' => e = .returned (.bool r0_) ∧ Ctx w F (domL []) w' F [] := by
  have C := Ctx.start hp
  generalize hD : domL [] = D at C ⊢
  unfold juratlaw09_LedgerStays.f at H
  refine Calls.ofW Tryd.func14 rfl (by simp [Tryd.ntmps14]) ?_
  refine W.seq ?_
  refine W.region rfl ?_
  refine WL.val (Yl.assign (v := .bool false) rfl) ?_
  refine WL.done ?_
  refine W.seq ?_
  refine W.region rfl ?_
  refine WL.val (Yl.move (v := .slice A1 n3 c2) rfl) ?_
  obtain ⟨⟨r16, r17⟩, hg15, H⟩ := bindE H
  refine WL.call (args := #[.slice A1 n3 c2]) (Yenter.fn Tryd.func38 (by kernel_rfl) rfl (argsE (.cons rfl .nil))) (juratlaw09_made.calls k _ F A1 c2 n3 a0 (Ctx.pre (qs := []) (rest := []) C) hn4 hl5 hm6 hS7 (CH.le_trans hG1 (CH.le_trans (CH.le_refl _) (CH.le_refl _))) (CH.le_trans hG3 (CH.le_trans (CH.le_refl _) (CH.le_refl _))) r16 r17 hg15) ?_
  rintro e_ w_ ⟨F18, g20, o21, A22, c23, n24, p26, A28, c29, n30, p32, rfl, le19, C34, hn25, hR27, hn31, hR33⟩
  refine ⟨_, rfl, ?_⟩
  have C35 : Ctx _ _ _ _ F18 [CH.row g20 o21 [.slice A22 n24 c23, .slice A28 n30 c29], p26, p32] := Ctx.call (qs := []) (rest := []) C C34
  refine WL.val (Yl.move (v := .tuple #[(.pointer (some ⟨g20, o21, none⟩)), (.bool r17)]) rfl) ?_
  refine WL.val (Yl.extract (v := .pointer (some ⟨g20, o21, none⟩)) rfl rfl) ?_
  refine WL.val (Yl.extract (v := .bool r17) rfl rfl) ?_
  refine WL.val (Yl.assign (v := .pointer (some ⟨g20, o21, none⟩)) rfl) ?_
  refine WL.val (Yl.assign (v := .bool r17) rfl) ?_
  refine WL.done ?_
  refine W.seq ?_
  refine W.seq ?_
  refine W.region rfl ?_
  refine WL.val (Yl.move (v := .bool r17) rfl) ?_
  refine WL.val (Yl.not (p := r17) (q := !r17) rfl rfl) ?_
  refine WL.val (Yl.move (v := .bool (!r17)) rfl) ?_
  obtain ⟨g36, HE37, H⟩ := bindE H
  refine WL.cut (fun env_ w_ => env_ 38 = .bool g36 ∧ env_ 0 = .slice A1 n3 c2 ∧ env_ 1 = .slice A8 n10 c9 ∧ env_ 2 = .int .i64 a2 ∧ env_ 3 = .int .i64 a3 ∧ env_ 9 = .pointer (some ⟨g20, o21, none⟩) ∧ Ctx w F D w_ F18 [CH.row g20 o21 [.slice A22 n24 c23, .slice A28 n30 c29], p26, p32]) ?_ ?_
  · skip
    rcases iteE HE37 with ⟨hc38, HE37⟩ | ⟨hc38, HE37⟩
    · skip
      refine WL.on rfl (congrArg Value.bool (nb_t hc38)) ?_
      refine WL.val (Yl.move (v := .slice A8 n10 c9) rfl) ?_
      refine WL.on rfl (congrArg Value.bool (nb_t hc38)) ?_
      refine WL.val (Yl.lenN (A := A8) (l := n10) (q := c9) (n := (a1.length : Int)) rfl Tryd.underlying49 (by omega)) ?_
      refine WL.on rfl (congrArg Value.bool (nb_t hc38)) ?_
      refine WL.val (Yl.gtr (m := (a1.length : Int)) (n := 100) (q := decide ((a1.length : Int) > 100)) rfl rfl rfl) ?_
      refine WL.val (Yl.pickF (v := .bool (decide ((a1.length : Int) > 100))) (congrArg Value.bool (nb_t hc38)) rfl) ?_
      cases HE37
      exact WL.done ⟨rfl, rfl, rfl, rfl, rfl, rfl, C35⟩
    · skip
      refine WL.off rfl (congrArg Value.bool (nb_f hc38)) ?_
      refine WL.off rfl (congrArg Value.bool (nb_f hc38)) ?_
      refine WL.off rfl (congrArg Value.bool (nb_f hc38)) ?_
      refine WL.val (Yl.pickT (v := .bool true) (congrArg Value.bool (nb_f hc38)) rfl) ?_
      cases HE37
      exact WL.done ⟨rfl, rfl, rfl, rfl, rfl, rfl, C35⟩
  · skip
    rintro env_ w_ ⟨ho39, ho40, ho41, ho42, ho43, ho44, C45⟩
    rcases iteE H with ⟨hc46, H⟩ | ⟨hc46, H⟩
    · skip
      refine W.condT (ho39.trans (congrArg Value.bool hc46)) ?_
      refine W.seq ?_
      refine W.region rfl ?_
      obtain ⟨r48, hg47, H⟩ := bindE H
      refine WL.call (args := #[]) (Yenter.fn Tryd.func17 (by kernel_rfl) rfl (argsE .nil)) (juratlaw09_awake.calls k _ F18  (Ctx.pre (qs := []) (rest := [CH.row g20 o21 [.slice A22 n24 c23, .slice A28 n30 c29], p26, p32]) C45) (CH.le_trans hG1 (CH.le_trans le19 (CH.le_refl _))) (CH.le_trans hG3 (CH.le_trans le19 (CH.le_refl _))) r48 hg47) ?_
      rintro e_ w_ ⟨rfl, C49⟩
      refine ⟨_, rfl, ?_⟩
      have C50 : Ctx _ _ _ _ F18 [CH.row g20 o21 [.slice A22 n24 c23, .slice A28 n30 c29], p26, p32] := Ctx.call (qs := []) (rest := [CH.row g20 o21 [.slice A22 n24 c23, .slice A28 n30 c29], p26, p32]) C45 C49
      refine WL.val (Yl.assign (v := .bool r48) rfl) ?_
      refine WL.done ?_
      refine W.ret ?_
      refine thenE_r ?_
      have C51 : Ctx _ _ _ _ F18 [p26, p32] := Ctx.drop [] [p26, p32] C50
      have C52 : Ctx _ _ _ _ F18 [p32] := Ctx.drop [] [p32] C51
      have C53 : Ctx _ _ _ _ F18 [] := Ctx.drop [] [] C52
      have e54 := Option.some.inj H
      subst e54
      exact post_r (resE1 rfl rfl) ⟨rfl, (Ctx.weak C53 (CH.le_refl _))⟩
    · skip
      refine W.condF (ho39.trans (congrArg Value.bool (Bool.eq_false_iff.2 hc46))) ?_
      refine W.skip ?_
      refine W.seq ?_
      refine W.region rfl ?_
      refine WL.val (Yl.move (v := .int .i64 a3) ho43) ?_
      refine WL.val (Yl.conv (m := a3) (r := wu64 a3) rfl Tryd.underlying3 Tryd.underlying46 rfl) ?_
      refine WL.val (Yl.move (v := .slice A1 n3 c2) ho40) ?_
      refine WL.val (Yl.lenN (A := A1) (l := n3) (q := c2) (n := (a0.length : Int)) rfl Tryd.underlying49 (by omega)) ?_
      refine WL.val (Yl.add (m := (a0.length : Int)) (n := 1) (r := wi64 ((a0.length : Int) + 1)) rfl rfl rfl) ?_
      refine WL.val (Yl.conv (m := wi64 ((a0.length : Int) + 1)) (r := wu64 (wi64 ((a0.length : Int) + 1))) rfl Tryd.underlying3 Tryd.underlying46 rfl) ?_
      obtain ⟨hc55, H⟩ := guardE H
      refine WL.val (Yl.rem (m := wu64 a3) (n := wu64 (wi64 ((a0.length : Int) + 1))) (r := (wu64 a3).tmod (wu64 (wi64 ((a0.length : Int) + 1)))) rfl rfl hc55 rfl) ?_
      refine WL.val (Yl.conv (m := (wu64 a3).tmod (wu64 (wi64 ((a0.length : Int) + 1)))) (r := wi64 ((wu64 a3).tmod (wu64 (wi64 ((a0.length : Int) + 1))))) rfl Tryd.underlying46 Tryd.underlying3 rfl) ?_
      refine WL.val (Yl.assign (v := .int .i64 (wi64 ((wu64 a3).tmod (wu64 (wi64 ((a0.length : Int) + 1)))))) rfl) ?_
      refine WL.done ?_
      refine W.seq ?_
      refine W.region rfl ?_
      refine WL.val (Yl.move (v := .pointer (some ⟨g20, o21, none⟩)) ho44) ?_
      refine WL.val (Yl.move (v := .int .i64 (wi64 ((wu64 a3).tmod (wu64 (wi64 ((a0.length : Int) + 1)))))) rfl) ?_
      have le56 : CH.le F18 (CH.join F18 (CH.row g20 o21 [.slice A22 n24 c23, .slice A28 n30 c29])) := CH.le_joinL _ _
      have lp57 : CH.le (CH.row g20 o21 [.slice A22 n24 c23, .slice A28 n30 c29]) (CH.join F18 (CH.row g20 o21 [.slice A22 n24 c23, .slice A28 n30 c29])) := CH.le_joinR (Ctx.dis_of [] [p26, p32] C45)
      have C58 : Ctx _ _ _ _ (CH.join F18 (CH.row g20 o21 [.slice A22 n24 c23, .slice A28 n30 c29])) [p26, p32] := Ctx.freeze [] [p26, p32] C45
      have le59 : CH.le (CH.join F18 (CH.row g20 o21 [.slice A22 n24 c23, .slice A28 n30 c29])) (CH.join (CH.join F18 (CH.row g20 o21 [.slice A22 n24 c23, .slice A28 n30 c29])) p26) := CH.le_joinL _ _
      have lp60 : CH.le p26 (CH.join (CH.join F18 (CH.row g20 o21 [.slice A22 n24 c23, .slice A28 n30 c29])) p26) := CH.le_joinR (Ctx.dis_of [] [p32] C58)
      have C61 : Ctx _ _ _ _ (CH.join (CH.join F18 (CH.row g20 o21 [.slice A22 n24 c23, .slice A28 n30 c29])) p26) [p32] := Ctx.freeze [] [p32] C58
      have le62 : CH.le (CH.join (CH.join F18 (CH.row g20 o21 [.slice A22 n24 c23, .slice A28 n30 c29])) p26) (CH.join (CH.join (CH.join F18 (CH.row g20 o21 [.slice A22 n24 c23, .slice A28 n30 c29])) p26) p32) := CH.le_joinL _ _
      have lp63 : CH.le p32 (CH.join (CH.join (CH.join F18 (CH.row g20 o21 [.slice A22 n24 c23, .slice A28 n30 c29])) p26) p32) := CH.le_joinR (Ctx.dis_of [] [] C61)
      have C64 : Ctx _ _ _ _ (CH.join (CH.join (CH.join F18 (CH.row g20 o21 [.slice A22 n24 c23, .slice A28 n30 c29])) p26) p32) [] := Ctx.freeze [] [] C61
      obtain ⟨⟨r66, r67⟩, hg65, H⟩ := bindE H
      refine WL.call (args := #[.pointer (some ⟨g20, o21, none⟩), .int .i64 (wi64 ((wu64 a3).tmod (wu64 (wi64 ((a0.length : Int) + 1)))))]) (Yenter.fn Tryd.func39 (by kernel_rfl) rfl (argsE (.cons rfl (.cons rfl .nil)))) (ledger_Ledger_Head.calls k _ (CH.join (CH.join (CH.join F18 (CH.row g20 o21 [.slice A22 n24 c23, .slice A28 n30 c29])) p26) p32) g20 o21 A22 c23 n24 A28 c29 n30 r16 (wi64 ((wu64 a3).tmod (wu64 (wi64 ((a0.length : Int) + 1))))) (Ctx.pre (qs := []) (rest := []) C64) hn25 (Row.len_le hR27).1 (Row.len_le hR27).2.1 (Sl.mono (Row.sl hR27) (CH.le_trans (CH.le_trans le56 le59) le62) (CH.le_trans lp60 le62)) hn31 (Row.len_le hR33).1 (Row.len_le hR33).2.1 (Sl.mono (Row.sl hR33) (CH.le_trans (CH.le_trans le56 le59) le62) lp63) (CH.le_trans (CH.le_trans lp57 le59) le62) (CH.le_trans hG1 (CH.le_trans le19 (CH.le_trans (CH.le_trans le56 le59) le62))) (CH.le_trans hG3 (CH.le_trans le19 (CH.le_trans (CH.le_trans le56 le59) le62))) r66 r67 hg65) ?_
      rintro e_ w_ ⟨rfl, C69, ha68⟩
      refine ⟨_, rfl, ?_⟩
      have C70 : Ctx _ _ _ _ F18 [CH.row g20 o21 [.slice A22 n24 c23, .slice A28 n30 c29], p26, p32] := Ctx.callL (qs := []) (rest := [CH.row g20 o21 [.slice A22 n24 c23, .slice A28 n30 c29], p26, p32]) C45 (CH.le_trans (CH.le_trans le56 le59) le62) C69
      refine WL.val (Yl.move (v := .tuple #[(.agg (List.toArray ([.int .i64 r66.Size] ++ (r66.Root.map (Value.int .u8))))), (.int .i64 r67)]) rfl) ?_
      refine WL.val (Yl.extract (v := .agg (List.toArray ([.int .i64 r66.Size] ++ (r66.Root.map (Value.int .u8))))) rfl rfl) ?_
      refine WL.val (Yl.extract (v := .int .i64 r67) rfl rfl) ?_
      obtain ⟨g71, w72, hy73, C74⟩ := ev_alloc (P := Tryd.prog) (e := 53) ([.int .i64 0] ++ ((List.replicate 32 (0 : Int)).map (Value.int .u8))) C70 zr53 rfl
      refine WL.val (hy73 _ _) ?_
      obtain ⟨w75, hy76, C77⟩ := ev_set (P := Tryd.prog) (ps1 := []) (ps2 := [CH.row g20 o21 [.slice A22 n24 c23, .slice A28 n30 c29], p26, p32]) (t := 53) (o := 0) ([.int .i64 0] ++ ((List.replicate 32 (0 : Int)).map (Value.int .u8))) [] ([.int .i64 0] ++ ((List.replicate 32 (0 : Int)).map (Value.int .u8))) [] ([.int .i64 r66.Size] ++ (r66.Root.map (Value.int .u8))) (.agg (List.toArray ([.int .i64 r66.Size] ++ (r66.Root.map (Value.int .u8))))) C74 (by first | (simp only [List.length_append, List.length_map, List.length_cons, List.length_nil, (List.length_replicate ..), ha68]; done) | simp [(List.length_replicate ..), ha68]) (by first | (simp only [List.length_append, List.length_map, List.length_cons, List.length_nil, (List.length_replicate ..), ha68]; done) | simp [(List.length_replicate ..), ha68]) (by first | (simp only [List.length_append, List.length_map, List.length_cons, List.length_nil, (List.length_replicate ..), ha68]; done) | simp [(List.length_replicate ..), ha68]) rfl (ones_append (by simp [Value.oneCell']) (one_ints _ _)) (sz_of sz53 (by first | (simp only [List.length_append, List.length_map, List.length_cons, List.length_nil, ha68]; done) | simp [ha68]))
      have C78 : Ctx _ _ _ _ F18 [CH.row g71 0 ([.int .i64 r66.Size] ++ (r66.Root.map (Value.int .u8))), CH.row g20 o21 [.slice A22 n24 c23, .slice A28 n30 c29], p26, p32] := (by simpa using C77)
      refine WL.skip (hy76 _ _ _ _ rfl rfl) ?_
      refine WL.val (Yl.assign (v := .int .i64 r67) rfl) ?_
      refine WL.done ?_
      refine W.seq ?_
      refine W.region rfl ?_
      refine WL.val (Yl.move (v := .pointer (some ⟨g20, o21, none⟩)) ho44) ?_
      refine WL.val (Yl.move (v := .int .i64 a2) ho42) ?_
      refine WL.val (Yl.move (v := .int .i64 (wi64 ((wu64 a3).tmod (wu64 (wi64 ((a0.length : Int) + 1)))))) rfl) ?_
      have le79 : CH.le F18 (CH.join F18 (CH.row g20 o21 [.slice A22 n24 c23, .slice A28 n30 c29])) := CH.le_joinL _ _
      have lp80 : CH.le (CH.row g20 o21 [.slice A22 n24 c23, .slice A28 n30 c29]) (CH.join F18 (CH.row g20 o21 [.slice A22 n24 c23, .slice A28 n30 c29])) := CH.le_joinR (Ctx.dis_of [CH.row g71 0 ([.int .i64 r66.Size] ++ (r66.Root.map (Value.int .u8)))] [p26, p32] C78)
      have C81 : Ctx _ _ _ _ (CH.join F18 (CH.row g20 o21 [.slice A22 n24 c23, .slice A28 n30 c29])) [CH.row g71 0 ([.int .i64 r66.Size] ++ (r66.Root.map (Value.int .u8))), p26, p32] := Ctx.freeze [CH.row g71 0 ([.int .i64 r66.Size] ++ (r66.Root.map (Value.int .u8)))] [p26, p32] C78
      have le82 : CH.le (CH.join F18 (CH.row g20 o21 [.slice A22 n24 c23, .slice A28 n30 c29])) (CH.join (CH.join F18 (CH.row g20 o21 [.slice A22 n24 c23, .slice A28 n30 c29])) p26) := CH.le_joinL _ _
      have lp83 : CH.le p26 (CH.join (CH.join F18 (CH.row g20 o21 [.slice A22 n24 c23, .slice A28 n30 c29])) p26) := CH.le_joinR (Ctx.dis_of [CH.row g71 0 ([.int .i64 r66.Size] ++ (r66.Root.map (Value.int .u8)))] [p32] C81)
      have C84 : Ctx _ _ _ _ (CH.join (CH.join F18 (CH.row g20 o21 [.slice A22 n24 c23, .slice A28 n30 c29])) p26) [CH.row g71 0 ([.int .i64 r66.Size] ++ (r66.Root.map (Value.int .u8))), p32] := Ctx.freeze [CH.row g71 0 ([.int .i64 r66.Size] ++ (r66.Root.map (Value.int .u8)))] [p32] C81
      have le85 : CH.le (CH.join (CH.join F18 (CH.row g20 o21 [.slice A22 n24 c23, .slice A28 n30 c29])) p26) (CH.join (CH.join (CH.join F18 (CH.row g20 o21 [.slice A22 n24 c23, .slice A28 n30 c29])) p26) p32) := CH.le_joinL _ _
      have lp86 : CH.le p32 (CH.join (CH.join (CH.join F18 (CH.row g20 o21 [.slice A22 n24 c23, .slice A28 n30 c29])) p26) p32) := CH.le_joinR (Ctx.dis_of [CH.row g71 0 ([.int .i64 r66.Size] ++ (r66.Root.map (Value.int .u8)))] [] C84)
      have C87 : Ctx _ _ _ _ (CH.join (CH.join (CH.join F18 (CH.row g20 o21 [.slice A22 n24 c23, .slice A28 n30 c29])) p26) p32) [CH.row g71 0 ([.int .i64 r66.Size] ++ (r66.Root.map (Value.int .u8)))] := Ctx.freeze [CH.row g71 0 ([.int .i64 r66.Size] ++ (r66.Root.map (Value.int .u8)))] [] C84
      obtain ⟨⟨r89, r90⟩, hg88, H⟩ := bindE H
      refine WL.call (args := #[.pointer (some ⟨g20, o21, none⟩), .int .i64 a2, .int .i64 (wi64 ((wu64 a3).tmod (wu64 (wi64 ((a0.length : Int) + 1)))))]) (Yenter.fn Tryd.func40 (by kernel_rfl) rfl (argsE (.cons rfl (.cons rfl (.cons rfl .nil))))) (ledger_Ledger_Include.calls k _ (CH.join (CH.join (CH.join F18 (CH.row g20 o21 [.slice A22 n24 c23, .slice A28 n30 c29])) p26) p32) g20 o21 A22 c23 n24 A28 c29 n30 r16 a2 (wi64 ((wu64 a3).tmod (wu64 (wi64 ((a0.length : Int) + 1))))) (Ctx.pre (qs := []) (rest := [CH.row g71 0 ([.int .i64 r66.Size] ++ (r66.Root.map (Value.int .u8)))]) C87) hn25 (Row.len_le hR27).1 (Row.len_le hR27).2.1 (Sl.mono (Row.sl hR27) (CH.le_trans (CH.le_trans le79 le82) le85) (CH.le_trans lp83 le85)) hn31 (Row.len_le hR33).1 (Row.len_le hR33).2.1 (Sl.mono (Row.sl hR33) (CH.le_trans (CH.le_trans le79 le82) le85) lp86) (CH.le_trans (CH.le_trans lp80 le82) le85) (CH.le_trans hG1 (CH.le_trans le19 (CH.le_trans (CH.le_trans le79 le82) le85))) (CH.le_trans hG3 (CH.le_trans le19 (CH.le_trans (CH.le_trans le79 le82) le85))) r89 r90 hg88) ?_
      rintro e_ w_ ⟨A91, c92, n93, p95, rfl, C97, hn94, hR96⟩
      refine ⟨_, rfl, ?_⟩
      have hR98 : Row (Kd.arrI 32 .u8) F18 p95 (.slice A91 n93 c92) r89 := hR96
      have C99 : Ctx _ _ _ _ F18 [p95, CH.row g71 0 ([.int .i64 r66.Size] ++ (r66.Root.map (Value.int .u8))), CH.row g20 o21 [.slice A22 n24 c23, .slice A28 n30 c29], p26, p32] := Ctx.callL (qs := []) (rest := [CH.row g71 0 ([.int .i64 r66.Size] ++ (r66.Root.map (Value.int .u8))), CH.row g20 o21 [.slice A22 n24 c23, .slice A28 n30 c29], p26, p32]) C78 (CH.le_trans (CH.le_trans le79 le82) le85) C97
      refine WL.val (Yl.move (v := .tuple #[(.slice A91 n93 c92), (.int .i64 r90)]) rfl) ?_
      refine WL.val (Yl.extract (v := .slice A91 n93 c92) rfl rfl) ?_
      refine WL.val (Yl.extract (v := .int .i64 r90) rfl rfl) ?_
      refine WL.val (Yl.assign (v := .slice A91 n93 c92) rfl) ?_
      refine WL.val (Yl.assign (v := .int .i64 r90) rfl) ?_
      refine WL.done ?_
      refine W.seq ?_
      refine W.region rfl ?_
      refine WL.val (Yl.move (v := .pointer (some ⟨g20, o21, none⟩)) ho44) ?_
      refine WL.val (Yl.move (v := .int .i64 a2) ho42) ?_
      refine WL.val (Yl.move (v := .int .i64 (wi64 ((wu64 a3).tmod (wu64 (wi64 ((a0.length : Int) + 1)))))) rfl) ?_
      have le100 : CH.le F18 (CH.join F18 (CH.row g20 o21 [.slice A22 n24 c23, .slice A28 n30 c29])) := CH.le_joinL _ _
      have lp101 : CH.le (CH.row g20 o21 [.slice A22 n24 c23, .slice A28 n30 c29]) (CH.join F18 (CH.row g20 o21 [.slice A22 n24 c23, .slice A28 n30 c29])) := CH.le_joinR (Ctx.dis_of [p95, CH.row g71 0 ([.int .i64 r66.Size] ++ (r66.Root.map (Value.int .u8)))] [p26, p32] C99)
      have C102 : Ctx _ _ _ _ (CH.join F18 (CH.row g20 o21 [.slice A22 n24 c23, .slice A28 n30 c29])) [p95, CH.row g71 0 ([.int .i64 r66.Size] ++ (r66.Root.map (Value.int .u8))), p26, p32] := Ctx.freeze [p95, CH.row g71 0 ([.int .i64 r66.Size] ++ (r66.Root.map (Value.int .u8)))] [p26, p32] C99
      have le103 : CH.le (CH.join F18 (CH.row g20 o21 [.slice A22 n24 c23, .slice A28 n30 c29])) (CH.join (CH.join F18 (CH.row g20 o21 [.slice A22 n24 c23, .slice A28 n30 c29])) p26) := CH.le_joinL _ _
      have lp104 : CH.le p26 (CH.join (CH.join F18 (CH.row g20 o21 [.slice A22 n24 c23, .slice A28 n30 c29])) p26) := CH.le_joinR (Ctx.dis_of [p95, CH.row g71 0 ([.int .i64 r66.Size] ++ (r66.Root.map (Value.int .u8)))] [p32] C102)
      have C105 : Ctx _ _ _ _ (CH.join (CH.join F18 (CH.row g20 o21 [.slice A22 n24 c23, .slice A28 n30 c29])) p26) [p95, CH.row g71 0 ([.int .i64 r66.Size] ++ (r66.Root.map (Value.int .u8))), p32] := Ctx.freeze [p95, CH.row g71 0 ([.int .i64 r66.Size] ++ (r66.Root.map (Value.int .u8)))] [p32] C102
      have le106 : CH.le (CH.join (CH.join F18 (CH.row g20 o21 [.slice A22 n24 c23, .slice A28 n30 c29])) p26) (CH.join (CH.join (CH.join F18 (CH.row g20 o21 [.slice A22 n24 c23, .slice A28 n30 c29])) p26) p32) := CH.le_joinL _ _
      have lp107 : CH.le p32 (CH.join (CH.join (CH.join F18 (CH.row g20 o21 [.slice A22 n24 c23, .slice A28 n30 c29])) p26) p32) := CH.le_joinR (Ctx.dis_of [p95, CH.row g71 0 ([.int .i64 r66.Size] ++ (r66.Root.map (Value.int .u8)))] [] C105)
      have C108 : Ctx _ _ _ _ (CH.join (CH.join (CH.join F18 (CH.row g20 o21 [.slice A22 n24 c23, .slice A28 n30 c29])) p26) p32) [p95, CH.row g71 0 ([.int .i64 r66.Size] ++ (r66.Root.map (Value.int .u8)))] := Ctx.freeze [p95, CH.row g71 0 ([.int .i64 r66.Size] ++ (r66.Root.map (Value.int .u8)))] [] C105
      obtain ⟨⟨r110, r111⟩, hg109, H⟩ := bindE H
      refine WL.call (args := #[.pointer (some ⟨g20, o21, none⟩), .int .i64 a2, .int .i64 (wi64 ((wu64 a3).tmod (wu64 (wi64 ((a0.length : Int) + 1)))))]) (Yenter.fn Tryd.func48 (by kernel_rfl) rfl (argsE (.cons rfl (.cons rfl (.cons rfl .nil))))) (ledger_Ledger_Consist.calls k _ (CH.join (CH.join (CH.join F18 (CH.row g20 o21 [.slice A22 n24 c23, .slice A28 n30 c29])) p26) p32) g20 o21 A22 c23 n24 A28 c29 n30 r16 a2 (wi64 ((wu64 a3).tmod (wu64 (wi64 ((a0.length : Int) + 1))))) (Ctx.pre (qs := []) (rest := [p95, CH.row g71 0 ([.int .i64 r66.Size] ++ (r66.Root.map (Value.int .u8)))]) C108) hn25 (Row.len_le hR27).1 (Row.len_le hR27).2.1 (Sl.mono (Row.sl hR27) (CH.le_trans (CH.le_trans le100 le103) le106) (CH.le_trans lp104 le106)) hn31 (Row.len_le hR33).1 (Row.len_le hR33).2.1 (Sl.mono (Row.sl hR33) (CH.le_trans (CH.le_trans le100 le103) le106) lp107) (CH.le_trans (CH.le_trans lp101 le103) le106) (CH.le_trans hG1 (CH.le_trans le19 (CH.le_trans (CH.le_trans le100 le103) le106))) (CH.le_trans hG3 (CH.le_trans le19 (CH.le_trans (CH.le_trans le100 le103) le106))) r110 r111 hg109) ?_
      rintro e_ w_ ⟨A112, c113, n114, p116, rfl, C118, hn115, hR117⟩
      refine ⟨_, rfl, ?_⟩
      have hR119 : Row (Kd.arrI 32 .u8) F18 p116 (.slice A112 n114 c113) r110 := hR117
      have C120 : Ctx _ _ _ _ F18 [p116, p95, CH.row g71 0 ([.int .i64 r66.Size] ++ (r66.Root.map (Value.int .u8))), CH.row g20 o21 [.slice A22 n24 c23, .slice A28 n30 c29], p26, p32] := Ctx.callL (qs := []) (rest := [p95, CH.row g71 0 ([.int .i64 r66.Size] ++ (r66.Root.map (Value.int .u8))), CH.row g20 o21 [.slice A22 n24 c23, .slice A28 n30 c29], p26, p32]) C99 (CH.le_trans (CH.le_trans le100 le103) le106) C118
      refine WL.val (Yl.move (v := .tuple #[(.slice A112 n114 c113), (.int .i64 r111)]) rfl) ?_
      refine WL.val (Yl.extract (v := .slice A112 n114 c113) rfl rfl) ?_
      refine WL.val (Yl.extract (v := .int .i64 r111) rfl rfl) ?_
      refine WL.val (Yl.assign (v := .slice A112 n114 c113) rfl) ?_
      refine WL.val (Yl.assign (v := .int .i64 r111) rfl) ?_
      refine WL.done ?_
      refine W.seq ?_
      refine W.seq ?_
      refine W.region rfl ?_
      refine WL.val (Yl.assign (v := .int .i64 0) rfl) ?_
      refine WL.done ?_
      obtain ⟨o404, hX403, H⟩ := bindE H
      refine W.cutM (fun env_ w_ => ∃ (x389 : TLedger) (F377 : CH) (A390 : Option Addr) (c391 : Nat) (n392 : Nat) (p394 : CH) (A396 : Option Addr) (c397 : Nat) (n398 : Nat) (p400 : CH), env_ 0 = .slice A1 n3 c2 ∧ env_ 2 = .int .i64 a2 ∧ env_ 3 = .int .i64 (wi64 ((wu64 a3).tmod (wu64 (wi64 ((a0.length : Int) + 1))))) ∧ env_ 9 = .pointer (some ⟨g20, o21, none⟩) ∧ env_ 11 = .pointer (some ⟨g71, 0, none⟩) ∧ env_ 12 = .int .i64 r67 ∧ env_ 13 = .slice A91 n93 c92 ∧ env_ 14 = .int .i64 r90 ∧ env_ 15 = .slice A112 n114 c113 ∧ env_ 16 = .int .i64 r111 ∧ Ctx w F D w_ F377 [CH.row g20 o21 [.slice A390 n392 c391, .slice A396 n398 c397], p394, p400, p116, p95, CH.row g71 0 ([.int .i64 r66.Size] ++ (r66.Root.map (Value.int .u8)))] ∧ CH.le F18 F377 ∧ n392 = x389.digests.sums.length ∧ Row (Kd.arrI 32 .u8) F377 p394 (.slice A390 n392 c391) x389.digests.sums ∧ n398 = x389.leaves.length ∧ Row (Kd.slice (Kd.int .u8)) F377 p400 (.slice A396 n398 c397) x389.leaves ∧ o404 = Sum.inl x389) ?_ ?_
      · skip
        refine W.block ?_
        have C586 : Ctx _ _ _ _ F18 [p116, p95, CH.row g20 o21 [.slice A22 n24 c23, .slice A28 n30 c29], CH.row g71 0 ([.int .i64 r66.Size] ++ (r66.Root.map (Value.int .u8))), p26, p32] := Ctx.swap [p116, p95] [p26, p32] C120
        have C587 : Ctx _ _ _ _ F18 [p116, CH.row g20 o21 [.slice A22 n24 c23, .slice A28 n30 c29], p95, CH.row g71 0 ([.int .i64 r66.Size] ++ (r66.Root.map (Value.int .u8))), p26, p32] := Ctx.swap [p116] [CH.row g71 0 ([.int .i64 r66.Size] ++ (r66.Root.map (Value.int .u8))), p26, p32] C586
        have C588 : Ctx _ _ _ _ F18 [CH.row g20 o21 [.slice A22 n24 c23, .slice A28 n30 c29], p116, p95, CH.row g71 0 ([.int .i64 r66.Size] ++ (r66.Root.map (Value.int .u8))), p26, p32] := Ctx.swap [] [p95, CH.row g71 0 ([.int .i64 r66.Size] ++ (r66.Root.map (Value.int .u8))), p26, p32] C587
        have C589 : Ctx _ _ _ _ F18 [CH.row g20 o21 [.slice A22 n24 c23, .slice A28 n30 c29], p116, p95, p26, CH.row g71 0 ([.int .i64 r66.Size] ++ (r66.Root.map (Value.int .u8))), p32] := Ctx.swap [CH.row g20 o21 [.slice A22 n24 c23, .slice A28 n30 c29], p116, p95] [p32] C588
        have C590 : Ctx _ _ _ _ F18 [CH.row g20 o21 [.slice A22 n24 c23, .slice A28 n30 c29], p116, p26, p95, CH.row g71 0 ([.int .i64 r66.Size] ++ (r66.Root.map (Value.int .u8))), p32] := Ctx.swap [CH.row g20 o21 [.slice A22 n24 c23, .slice A28 n30 c29], p116] [CH.row g71 0 ([.int .i64 r66.Size] ++ (r66.Root.map (Value.int .u8))), p32] C589
        have C591 : Ctx _ _ _ _ F18 [CH.row g20 o21 [.slice A22 n24 c23, .slice A28 n30 c29], p26, p116, p95, CH.row g71 0 ([.int .i64 r66.Size] ++ (r66.Root.map (Value.int .u8))), p32] := Ctx.swap [CH.row g20 o21 [.slice A22 n24 c23, .slice A28 n30 c29]] [p95, CH.row g71 0 ([.int .i64 r66.Size] ++ (r66.Root.map (Value.int .u8))), p32] C590
        have C592 : Ctx _ _ _ _ F18 [CH.row g20 o21 [.slice A22 n24 c23, .slice A28 n30 c29], p26, p116, p95, p32, CH.row g71 0 ([.int .i64 r66.Size] ++ (r66.Root.map (Value.int .u8)))] := Ctx.swap [CH.row g20 o21 [.slice A22 n24 c23, .slice A28 n30 c29], p26, p116, p95] [] C591
        have C593 : Ctx _ _ _ _ F18 [CH.row g20 o21 [.slice A22 n24 c23, .slice A28 n30 c29], p26, p116, p32, p95, CH.row g71 0 ([.int .i64 r66.Size] ++ (r66.Root.map (Value.int .u8)))] := Ctx.swap [CH.row g20 o21 [.slice A22 n24 c23, .slice A28 n30 c29], p26, p116] [CH.row g71 0 ([.int .i64 r66.Size] ++ (r66.Root.map (Value.int .u8)))] C592
        have C594 : Ctx _ _ _ _ F18 [CH.row g20 o21 [.slice A22 n24 c23, .slice A28 n30 c29], p26, p32, p116, p95, CH.row g71 0 ([.int .i64 r66.Size] ++ (r66.Root.map (Value.int .u8)))] := Ctx.swap [CH.row g20 o21 [.slice A22 n24 c23, .slice A28 n30 c29], p26] [p95, CH.row g71 0 ([.int .i64 r66.Size] ++ (r66.Root.map (Value.int .u8)))] C593
        refine W.loop (fun g_ env_ w_ => ∃ (x506 : Int) (x507 : TLedger) (F492 : CH) (A508 : Option Addr) (c509 : Nat) (n510 : Nat) (p512 : CH) (A514 : Option Addr) (c515 : Nat) (n516 : Nat) (p518 : CH), env_ 0 = .slice A1 n3 c2 ∧ env_ 1 = .slice A8 n10 c9 ∧ env_ 2 = .int .i64 a2 ∧ env_ 3 = .int .i64 (wi64 ((wu64 a3).tmod (wu64 (wi64 ((a0.length : Int) + 1))))) ∧ env_ 9 = .pointer (some ⟨g20, o21, none⟩) ∧ env_ 11 = .pointer (some ⟨g71, 0, none⟩) ∧ env_ 12 = .int .i64 r67 ∧ env_ 13 = .slice A91 n93 c92 ∧ env_ 14 = .int .i64 r90 ∧ env_ 15 = .slice A112 n114 c113 ∧ env_ 16 = .int .i64 r111 ∧ env_ 17 = .int .i64 x506 ∧ Ctx w F D w_ F492 [CH.row g20 o21 [.slice A508 n510 c509, .slice A514 n516 c515], p512, p518, p116, p95, CH.row g71 0 ([.int .i64 r66.Size] ++ (r66.Root.map (Value.int .u8)))] ∧ CH.le F18 F492 ∧ n510 = x507.digests.sums.length ∧ Row (Kd.arrI 32 .u8) F492 p512 (.slice A508 n510 c509) x507.digests.sums ∧ n516 = x507.leaves.length ∧ Row (Kd.slice (Kd.int .u8)) F492 p518 (.slice A514 n516 c515) x507.leaves ∧ juratlaw09_LedgerStays.l1 g_ a1 x506 x507 = some o404) k ⟨0, r16, F18, A22, c23, n24, p26, A28, c29, n30, p32, ho40, ho41, ho42, rfl, ho44, rfl, rfl, rfl, rfl, rfl, rfl, rfl, C594, (CH.le_refl _), hn25, hR27, hn31, hR33, hX403⟩ ?_
        clear hX403
        rintro g_ env_ w_ ⟨x506, x507, F492, A508, c509, n510, p512, A514, c515, n516, p518, ho494, ho495, ho496, ho497, ho498, ho499, ho500, ho501, ho502, ho503, ho504, ho505, C520, le493, hn511, hR513, hn517, hR519, hX403⟩
        rcases g_ with _ | k585
        · exact absurd hX403 (by simp [juratlaw09_LedgerStays.l1])
        rw [juratlaw09_LedgerStays.l1] at hX403
        have hR595 := Row.mono hR98 le493
        have hR596 := Row.mono hR119 le493
        refine W.seq ?_
        refine W.seq ?_
        refine W.region rfl ?_
        refine WL.val (Yl.move (v := .int .i64 x506) ho505) ?_
        refine WL.val (Yl.move (v := .slice A8 n10 c9) ho495) ?_
        refine WL.val (Yl.lenN (A := A8) (l := n10) (q := c9) (n := (a1.length : Int)) rfl Tryd.underlying49 (by omega)) ?_
        refine WL.val (Yl.lss (m := x506) (n := (a1.length : Int)) (q := decide (x506 < (a1.length : Int))) rfl rfl rfl) ?_
        refine WL.done ?_
        rcases iteE hX403 with ⟨hc597, hX403⟩ | ⟨hc597, hX403⟩
        · skip
          refine W.condT (congrArg Value.bool (decide_eq_true hc597)) ?_
          refine W.skip ?_
          refine W.seq ?_
          refine W.block ?_
          refine W.seq ?_
          refine W.seq ?_
          refine W.region rfl ?_
          refine WL.val (Yl.move (v := .slice A8 n10 c9) ho495) ?_
          refine WL.val (Yl.move (v := .int .i64 x506) ho505) ?_
          obtain ⟨hc598, hX403⟩ := guardE hX403
          obtain ⟨b599, of600, hA601, he602⟩ := hS14 (by omega)
          refine WL.val (Yl.elemAddr (i := x506) rfl rfl hA601 Tryd.underlying49 sz28 (by omega)) ?_
          obtain ⟨cs603, hr604, hx605⟩ := he602 x506.toNat _ (getD_some (d := []) (by omega))
          obtain ⟨A606, c607, rfl, hl610, hm611, hS612⟩ := hr604
          refine WL.val (Yl.load (v := .slice A606 ((a1.getD x506.toNat []).length) c607) rfl Tryd.underlying28 rfl (((C520.fro.mono (CH.le_trans le19 le493))).cell (hx605 0 _ rfl))) ?_
          refine WL.val (Yl.lenN (A := A606) (l := (a1.getD x506.toNat []).length) (q := c607) (n := ((a1.getD x506.toNat []).length : Int)) rfl Tryd.underlying28 (by omega)) ?_
          refine WL.val (Yl.gtr (m := ((a1.getD x506.toNat []).length : Int)) (n := 500) (q := decide (((a1.getD x506.toNat []).length : Int) > 500)) rfl rfl rfl) ?_
          refine WL.done ?_
          rcases iteE hX403 with ⟨hc613, hX403⟩ | ⟨hc613, hX403⟩
          · skip
            refine W.condT (congrArg Value.bool (decide_eq_true hc613)) ?_
            refine W.seq ?_
            refine W.region rfl ?_
            obtain ⟨r615, hg614, hX403⟩ := bindE hX403
            refine WL.call (args := #[]) (Yenter.fn Tryd.func17 (by kernel_rfl) rfl (argsE .nil)) (juratlaw09_awake.calls k585 _ F492  (Ctx.pre (qs := []) (rest := [CH.row g20 o21 [.slice A508 n510 c509, .slice A514 n516 c515], p512, p518, p116, p95, CH.row g71 0 ([.int .i64 r66.Size] ++ (r66.Root.map (Value.int .u8)))]) C520) (CH.le_trans hG1 (CH.le_trans (CH.le_trans le19 le493) (CH.le_refl _))) (CH.le_trans hG3 (CH.le_trans (CH.le_trans le19 le493) (CH.le_refl _))) r615 hg614) ?_
            rintro e_ w_ ⟨rfl, C616⟩
            refine ⟨_, rfl, ?_⟩
            have C617 : Ctx _ _ _ _ F492 [CH.row g20 o21 [.slice A508 n510 c509, .slice A514 n516 c515], p512, p518, p116, p95, CH.row g71 0 ([.int .i64 r66.Size] ++ (r66.Root.map (Value.int .u8)))] := Ctx.call (qs := []) (rest := [CH.row g20 o21 [.slice A508 n510 c509, .slice A514 n516 c515], p512, p518, p116, p95, CH.row g71 0 ([.int .i64 r66.Size] ++ (r66.Root.map (Value.int .u8)))]) C520 C616
            refine WL.val (Yl.assign (v := .bool r615) rfl) ?_
            refine WL.done ?_
            refine W.ret ?_
            refine thenE_r ?_
            refine inB_r ?_
            refine thenE_r ?_
            refine thenE_r ?_
            refine inB_r ?_
            refine thenE_r ?_
            refine thenE_r ?_
            cases hX403
            replace H := sumE_r H
            have C618 : Ctx _ _ _ _ F492 [p512, p518, p116, p95, CH.row g71 0 ([.int .i64 r66.Size] ++ (r66.Root.map (Value.int .u8)))] := Ctx.drop [] [p512, p518, p116, p95, CH.row g71 0 ([.int .i64 r66.Size] ++ (r66.Root.map (Value.int .u8)))] C617
            have C619 : Ctx _ _ _ _ F492 [p518, p116, p95, CH.row g71 0 ([.int .i64 r66.Size] ++ (r66.Root.map (Value.int .u8)))] := Ctx.drop [] [p518, p116, p95, CH.row g71 0 ([.int .i64 r66.Size] ++ (r66.Root.map (Value.int .u8)))] C618
            have C620 : Ctx _ _ _ _ F492 [p116, p95, CH.row g71 0 ([.int .i64 r66.Size] ++ (r66.Root.map (Value.int .u8)))] := Ctx.drop [] [p116, p95, CH.row g71 0 ([.int .i64 r66.Size] ++ (r66.Root.map (Value.int .u8)))] C619
            have C621 : Ctx _ _ _ _ F492 [p95, CH.row g71 0 ([.int .i64 r66.Size] ++ (r66.Root.map (Value.int .u8)))] := Ctx.drop [] [p95, CH.row g71 0 ([.int .i64 r66.Size] ++ (r66.Root.map (Value.int .u8)))] C620
            have C622 : Ctx _ _ _ _ F492 [CH.row g71 0 ([.int .i64 r66.Size] ++ (r66.Root.map (Value.int .u8)))] := Ctx.drop [] [CH.row g71 0 ([.int .i64 r66.Size] ++ (r66.Root.map (Value.int .u8)))] C621
            have C623 : Ctx _ _ _ _ F492 [] := Ctx.drop [] [] C622
            have e624 := Option.some.inj H
            subst e624
            exact post_r (resE1 rfl rfl) ⟨rfl, (Ctx.weak C623 (CH.le_refl _))⟩
          · skip
            refine W.condF (congrArg Value.bool (decide_eq_false hc613)) ?_
            refine W.skip ?_
            refine W.region rfl ?_
            refine WL.val (Yl.move (v := .pointer (some ⟨g20, o21, none⟩)) ho498) ?_
            refine WL.val (Yl.move (v := .slice A8 n10 c9) ho495) ?_
            refine WL.val (Yl.move (v := .int .i64 x506) ho505) ?_
            refine WL.val (Yl.elemAddr (i := x506) rfl rfl hA601 Tryd.underlying49 sz28 (by omega)) ?_
            refine WL.val (Yl.load (v := .slice A606 ((a1.getD x506.toNat []).length) c607) rfl Tryd.underlying28 rfl (((C520.fro.mono (CH.le_trans le19 le493))).cell (hx605 0 _ rfl))) ?_
            obtain ⟨r626, hg625, hX403⟩ := bindE hX403
            refine WL.call (args := #[.slice A606 ((a1.getD x506.toNat []).length) c607]) (Yenter.fn Tryd.func41 (by kernel_rfl) rfl (argsE (.cons rfl .nil))) (juratlaw09_own.calls k585 _ F492 A606 c607 ((a1.getD x506.toNat []).length) (a1.getD x506.toNat []) (Ctx.pre (qs := []) (rest := [CH.row g20 o21 [.slice A508 n510 c509, .slice A514 n516 c515], p512, p518, p116, p95, CH.row g71 0 ([.int .i64 r66.Size] ++ (r66.Root.map (Value.int .u8)))]) C520) rfl hl610 hm611 (Sl.mono hS612 (CH.le_trans le19 le493) (CH.le_trans le19 le493)) r626 hg625) ?_
            rintro e_ w_ ⟨A627, c628, n629, p631, rfl, C633, hn630, hR632⟩
            refine ⟨_, rfl, ?_⟩
            have C634 : Ctx _ _ _ _ F492 [p631, CH.row g20 o21 [.slice A508 n510 c509, .slice A514 n516 c515], p512, p518, p116, p95, CH.row g71 0 ([.int .i64 r66.Size] ++ (r66.Root.map (Value.int .u8)))] := Ctx.call (qs := []) (rest := [CH.row g20 o21 [.slice A508 n510 c509, .slice A514 n516 c515], p512, p518, p116, p95, CH.row g71 0 ([.int .i64 r66.Size] ++ (r66.Root.map (Value.int .u8)))]) C520 C633
            have hd635 := Ctx.dis_of [] [CH.row g20 o21 [.slice A508 n510 c509, .slice A514 n516 c515], p512, p518, p116, p95, CH.row g71 0 ([.int .i64 r66.Size] ++ (r66.Root.map (Value.int .u8)))] C634
            have C638 : Ctx _ _ _ _ (CH.join F492 p631) [CH.row g20 o21 [.slice A508 n510 c509, .slice A514 n516 c515], p512, p518, p116, p95, CH.row g71 0 ([.int .i64 r66.Size] ++ (r66.Root.map (Value.int .u8)))] := Ctx.freeze [] [CH.row g20 o21 [.slice A508 n510 c509, .slice A514 n516 c515], p512, p518, p116, p95, CH.row g71 0 ([.int .i64 r66.Size] ++ (r66.Root.map (Value.int .u8)))] C634
            have le637 := CH.le_joinL F492 p631
            obtain ⟨hl639, hm640, hS641⟩ := Row.freeze' hR632 hd635
            have hR642 := Row.mono hR595 le637
            have hR643 := Row.mono hR596 le637
            have hR644 := Row.mono hR513 le637
            have hR645 := Row.mono hR519 le637
            obtain ⟨⟨r647, r648, r649⟩, hg646, hX403⟩ := bindE hX403
            refine WL.call (args := #[.pointer (some ⟨g20, o21, none⟩), .slice A627 n629 c628]) (Yenter.fn Tryd.func19 (by kernel_rfl) rfl (argsE (.cons rfl (.cons rfl .nil)))) (ledger_Ledger_Append.calls k585 _ (CH.join F492 p631) g20 o21 A508 c509 n510 p512 A514 c515 n516 p518 x507 A627 c628 n629 r626 (Ctx.pre (qs := [CH.row g20 o21 [.slice A508 n510 c509, .slice A514 n516 c515], p512, p518]) (rest := [p116, p95, CH.row g71 0 ([.int .i64 r66.Size] ++ (r66.Root.map (Value.int .u8)))]) C638) hn511 hR644 hn517 hR645 hn630 hl639 hm640 hS641 (CH.le_trans hG1 (CH.le_trans (CH.le_trans le19 (CH.le_trans le493 le637)) (CH.le_refl _))) (CH.le_trans hG3 (CH.le_trans (CH.le_trans le19 (CH.le_trans le493 le637)) (CH.le_refl _))) r647 r648 r649 hg646) ?_
            rintro e_ w_ ⟨F650, A652, c653, n654, p656, A658, c659, n660, p662, rfl, le651, C664, hn655, hR657, hn661, hR663⟩
            refine ⟨_, rfl, ?_⟩
            have C665 : Ctx _ _ _ _ F650 [CH.row g20 o21 [.slice A652 n654 c653, .slice A658 n660 c659], p656, p662, p116, p95, CH.row g71 0 ([.int .i64 r66.Size] ++ (r66.Root.map (Value.int .u8)))] := Ctx.call (qs := [CH.row g20 o21 [.slice A508 n510 c509, .slice A514 n516 c515], p512, p518]) (rest := [p116, p95, CH.row g71 0 ([.int .i64 r66.Size] ++ (r66.Root.map (Value.int .u8)))]) C638 C664
            have hR666 := Row.mono hR642 le651
            have hR667 := Row.mono hR643 le651
            refine WL.done ?_
            refine inB_n ?_
            refine W.region rfl ?_
            refine WL.val (Yl.move (v := .int .i64 x506) ho505) ?_
            refine WL.val (Yl.add (m := x506) (n := 1) (r := wi64 (x506 + 1)) rfl rfl rfl) ?_
            refine WL.val (Yl.assign (v := .int .i64 (wi64 (x506 + 1))) rfl) ?_
            refine WL.done ?_
            exact thenE_n ⟨k585, Nat.lt_succ_self _, wi64 (x506 + 1), r649, F650, A652, c653, n654, p656, A658, c659, n660, p662, ho494, ho495, ho496, ho497, ho498, ho499, ho500, ho501, ho502, ho503, ho504, rfl, C665, (CH.le_trans le493 (CH.le_trans le637 le651)), hn655, hR657, hn661, hR663, hX403⟩
        · skip
          refine W.condF (congrArg Value.bool (decide_eq_false hc597)) ?_
          refine W.exit ?_
          refine thenE_x ?_
          refine thenE_x ?_
          refine inB_here ?_
          cases hX403
          refine thenE_n ?_
          exact ⟨x507, F492, A508, c509, n510, p512, A514, c515, n516, p518, ho494, ho496, ho497, ho498, ho499, ho500, ho501, ho502, ho503, ho504, C520, le493, hn511, hR513, hn517, hR519, rfl⟩
      · skip
        rintro env_ w_ ⟨x389, F377, A390, c391, n392, p394, A396, c397, n398, p400, ho379, ho380, ho381, ho382, ho383, ho384, ho385, ho386, ho387, ho388, C402, le378, hn393, hR395, hn399, hR401, rfl⟩
        have hR668 := Row.mono hR98 le378
        have hR669 := Row.mono hR119 le378
        replace H := sumE_l H
        refine W.seq ?_
        refine W.region rfl ?_
        refine WL.val (Yl.move (v := .pointer (some ⟨g20, o21, none⟩)) ho382) ?_
        refine WL.val (Yl.move (v := .int .i64 (wi64 ((wu64 a3).tmod (wu64 (wi64 ((a0.length : Int) + 1)))))) ho381) ?_
        have le670 : CH.le F377 (CH.join F377 (CH.row g20 o21 [.slice A390 n392 c391, .slice A396 n398 c397])) := CH.le_joinL _ _
        have lp671 : CH.le (CH.row g20 o21 [.slice A390 n392 c391, .slice A396 n398 c397]) (CH.join F377 (CH.row g20 o21 [.slice A390 n392 c391, .slice A396 n398 c397])) := CH.le_joinR (Ctx.dis_of [] [p394, p400, p116, p95, CH.row g71 0 ([.int .i64 r66.Size] ++ (r66.Root.map (Value.int .u8)))] C402)
        have C672 : Ctx _ _ _ _ (CH.join F377 (CH.row g20 o21 [.slice A390 n392 c391, .slice A396 n398 c397])) [p394, p400, p116, p95, CH.row g71 0 ([.int .i64 r66.Size] ++ (r66.Root.map (Value.int .u8)))] := Ctx.freeze [] [p394, p400, p116, p95, CH.row g71 0 ([.int .i64 r66.Size] ++ (r66.Root.map (Value.int .u8)))] C402
        have le673 : CH.le (CH.join F377 (CH.row g20 o21 [.slice A390 n392 c391, .slice A396 n398 c397])) (CH.join (CH.join F377 (CH.row g20 o21 [.slice A390 n392 c391, .slice A396 n398 c397])) p394) := CH.le_joinL _ _
        have lp674 : CH.le p394 (CH.join (CH.join F377 (CH.row g20 o21 [.slice A390 n392 c391, .slice A396 n398 c397])) p394) := CH.le_joinR (Ctx.dis_of [] [p400, p116, p95, CH.row g71 0 ([.int .i64 r66.Size] ++ (r66.Root.map (Value.int .u8)))] C672)
        have C675 : Ctx _ _ _ _ (CH.join (CH.join F377 (CH.row g20 o21 [.slice A390 n392 c391, .slice A396 n398 c397])) p394) [p400, p116, p95, CH.row g71 0 ([.int .i64 r66.Size] ++ (r66.Root.map (Value.int .u8)))] := Ctx.freeze [] [p400, p116, p95, CH.row g71 0 ([.int .i64 r66.Size] ++ (r66.Root.map (Value.int .u8)))] C672
        have le676 : CH.le (CH.join (CH.join F377 (CH.row g20 o21 [.slice A390 n392 c391, .slice A396 n398 c397])) p394) (CH.join (CH.join (CH.join F377 (CH.row g20 o21 [.slice A390 n392 c391, .slice A396 n398 c397])) p394) p400) := CH.le_joinL _ _
        have lp677 : CH.le p400 (CH.join (CH.join (CH.join F377 (CH.row g20 o21 [.slice A390 n392 c391, .slice A396 n398 c397])) p394) p400) := CH.le_joinR (Ctx.dis_of [] [p116, p95, CH.row g71 0 ([.int .i64 r66.Size] ++ (r66.Root.map (Value.int .u8)))] C675)
        have C678 : Ctx _ _ _ _ (CH.join (CH.join (CH.join F377 (CH.row g20 o21 [.slice A390 n392 c391, .slice A396 n398 c397])) p394) p400) [p116, p95, CH.row g71 0 ([.int .i64 r66.Size] ++ (r66.Root.map (Value.int .u8)))] := Ctx.freeze [] [p116, p95, CH.row g71 0 ([.int .i64 r66.Size] ++ (r66.Root.map (Value.int .u8)))] C675
        obtain ⟨⟨r680, r681⟩, hg679, H⟩ := bindE H
        refine WL.call (args := #[.pointer (some ⟨g20, o21, none⟩), .int .i64 (wi64 ((wu64 a3).tmod (wu64 (wi64 ((a0.length : Int) + 1)))))]) (Yenter.fn Tryd.func39 (by kernel_rfl) rfl (argsE (.cons rfl (.cons rfl .nil)))) (ledger_Ledger_Head.calls k _ (CH.join (CH.join (CH.join F377 (CH.row g20 o21 [.slice A390 n392 c391, .slice A396 n398 c397])) p394) p400) g20 o21 A390 c391 n392 A396 c397 n398 x389 (wi64 ((wu64 a3).tmod (wu64 (wi64 ((a0.length : Int) + 1))))) (Ctx.pre (qs := []) (rest := [p116, p95, CH.row g71 0 ([.int .i64 r66.Size] ++ (r66.Root.map (Value.int .u8)))]) C678) hn393 (Row.len_le hR395).1 (Row.len_le hR395).2.1 (Sl.mono (Row.sl hR395) (CH.le_trans (CH.le_trans le670 le673) le676) (CH.le_trans lp674 le676)) hn399 (Row.len_le hR401).1 (Row.len_le hR401).2.1 (Sl.mono (Row.sl hR401) (CH.le_trans (CH.le_trans le670 le673) le676) lp677) (CH.le_trans (CH.le_trans lp671 le673) le676) (CH.le_trans hG1 (CH.le_trans (CH.le_trans le19 le378) (CH.le_trans (CH.le_trans le670 le673) le676))) (CH.le_trans hG3 (CH.le_trans (CH.le_trans le19 le378) (CH.le_trans (CH.le_trans le670 le673) le676))) r680 r681 hg679) ?_
        rintro e_ w_ ⟨rfl, C683, ha682⟩
        refine ⟨_, rfl, ?_⟩
        have C684 : Ctx _ _ _ _ F377 [CH.row g20 o21 [.slice A390 n392 c391, .slice A396 n398 c397], p394, p400, p116, p95, CH.row g71 0 ([.int .i64 r66.Size] ++ (r66.Root.map (Value.int .u8)))] := Ctx.callL (qs := []) (rest := [CH.row g20 o21 [.slice A390 n392 c391, .slice A396 n398 c397], p394, p400, p116, p95, CH.row g71 0 ([.int .i64 r66.Size] ++ (r66.Root.map (Value.int .u8)))]) C402 (CH.le_trans (CH.le_trans le670 le673) le676) C683
        refine WL.val (Yl.move (v := .tuple #[(.agg (List.toArray ([.int .i64 r680.Size] ++ (r680.Root.map (Value.int .u8))))), (.int .i64 r681)]) rfl) ?_
        refine WL.val (Yl.extract (v := .agg (List.toArray ([.int .i64 r680.Size] ++ (r680.Root.map (Value.int .u8))))) rfl rfl) ?_
        refine WL.val (Yl.extract (v := .int .i64 r681) rfl rfl) ?_
        obtain ⟨g685, w686, hy687, C688⟩ := ev_alloc (P := Tryd.prog) (e := 53) ([.int .i64 0] ++ ((List.replicate 32 (0 : Int)).map (Value.int .u8))) C684 zr53 rfl
        refine WL.val (hy687 _ _) ?_
        obtain ⟨w689, hy690, C691⟩ := ev_set (P := Tryd.prog) (ps1 := []) (ps2 := [CH.row g20 o21 [.slice A390 n392 c391, .slice A396 n398 c397], p394, p400, p116, p95, CH.row g71 0 ([.int .i64 r66.Size] ++ (r66.Root.map (Value.int .u8)))]) (t := 53) (o := 0) ([.int .i64 0] ++ ((List.replicate 32 (0 : Int)).map (Value.int .u8))) [] ([.int .i64 0] ++ ((List.replicate 32 (0 : Int)).map (Value.int .u8))) [] ([.int .i64 r680.Size] ++ (r680.Root.map (Value.int .u8))) (.agg (List.toArray ([.int .i64 r680.Size] ++ (r680.Root.map (Value.int .u8))))) C688 (by first | (simp only [List.length_append, List.length_map, List.length_cons, List.length_nil, (List.length_replicate ..), ha682]; done) | simp [(List.length_replicate ..), ha682]) (by first | (simp only [List.length_append, List.length_map, List.length_cons, List.length_nil, (List.length_replicate ..), ha682]; done) | simp [(List.length_replicate ..), ha682]) (by first | (simp only [List.length_append, List.length_map, List.length_cons, List.length_nil, (List.length_replicate ..), ha682]; done) | simp [(List.length_replicate ..), ha682]) rfl (ones_append (by simp [Value.oneCell']) (one_ints _ _)) (sz_of sz53 (by first | (simp only [List.length_append, List.length_map, List.length_cons, List.length_nil, ha682]; done) | simp [ha682]))
        have C692 : Ctx _ _ _ _ F377 [CH.row g685 0 ([.int .i64 r680.Size] ++ (r680.Root.map (Value.int .u8))), CH.row g20 o21 [.slice A390 n392 c391, .slice A396 n398 c397], p394, p400, p116, p95, CH.row g71 0 ([.int .i64 r66.Size] ++ (r66.Root.map (Value.int .u8)))] := (by simpa using C691)
        refine WL.skip (hy690 _ _ _ _ rfl rfl) ?_
        refine WL.val (Yl.assign (v := .int .i64 r681) rfl) ?_
        refine WL.done ?_
        refine W.seq ?_
        refine W.region rfl ?_
        refine WL.val (Yl.move (v := .pointer (some ⟨g20, o21, none⟩)) ho382) ?_
        refine WL.val (Yl.move (v := .int .i64 a2) ho380) ?_
        refine WL.val (Yl.move (v := .int .i64 (wi64 ((wu64 a3).tmod (wu64 (wi64 ((a0.length : Int) + 1)))))) ho381) ?_
        have le693 : CH.le F377 (CH.join F377 (CH.row g20 o21 [.slice A390 n392 c391, .slice A396 n398 c397])) := CH.le_joinL _ _
        have lp694 : CH.le (CH.row g20 o21 [.slice A390 n392 c391, .slice A396 n398 c397]) (CH.join F377 (CH.row g20 o21 [.slice A390 n392 c391, .slice A396 n398 c397])) := CH.le_joinR (Ctx.dis_of [CH.row g685 0 ([.int .i64 r680.Size] ++ (r680.Root.map (Value.int .u8)))] [p394, p400, p116, p95, CH.row g71 0 ([.int .i64 r66.Size] ++ (r66.Root.map (Value.int .u8)))] C692)
        have C695 : Ctx _ _ _ _ (CH.join F377 (CH.row g20 o21 [.slice A390 n392 c391, .slice A396 n398 c397])) [CH.row g685 0 ([.int .i64 r680.Size] ++ (r680.Root.map (Value.int .u8))), p394, p400, p116, p95, CH.row g71 0 ([.int .i64 r66.Size] ++ (r66.Root.map (Value.int .u8)))] := Ctx.freeze [CH.row g685 0 ([.int .i64 r680.Size] ++ (r680.Root.map (Value.int .u8)))] [p394, p400, p116, p95, CH.row g71 0 ([.int .i64 r66.Size] ++ (r66.Root.map (Value.int .u8)))] C692
        have le696 : CH.le (CH.join F377 (CH.row g20 o21 [.slice A390 n392 c391, .slice A396 n398 c397])) (CH.join (CH.join F377 (CH.row g20 o21 [.slice A390 n392 c391, .slice A396 n398 c397])) p394) := CH.le_joinL _ _
        have lp697 : CH.le p394 (CH.join (CH.join F377 (CH.row g20 o21 [.slice A390 n392 c391, .slice A396 n398 c397])) p394) := CH.le_joinR (Ctx.dis_of [CH.row g685 0 ([.int .i64 r680.Size] ++ (r680.Root.map (Value.int .u8)))] [p400, p116, p95, CH.row g71 0 ([.int .i64 r66.Size] ++ (r66.Root.map (Value.int .u8)))] C695)
        have C698 : Ctx _ _ _ _ (CH.join (CH.join F377 (CH.row g20 o21 [.slice A390 n392 c391, .slice A396 n398 c397])) p394) [CH.row g685 0 ([.int .i64 r680.Size] ++ (r680.Root.map (Value.int .u8))), p400, p116, p95, CH.row g71 0 ([.int .i64 r66.Size] ++ (r66.Root.map (Value.int .u8)))] := Ctx.freeze [CH.row g685 0 ([.int .i64 r680.Size] ++ (r680.Root.map (Value.int .u8)))] [p400, p116, p95, CH.row g71 0 ([.int .i64 r66.Size] ++ (r66.Root.map (Value.int .u8)))] C695
        have le699 : CH.le (CH.join (CH.join F377 (CH.row g20 o21 [.slice A390 n392 c391, .slice A396 n398 c397])) p394) (CH.join (CH.join (CH.join F377 (CH.row g20 o21 [.slice A390 n392 c391, .slice A396 n398 c397])) p394) p400) := CH.le_joinL _ _
        have lp700 : CH.le p400 (CH.join (CH.join (CH.join F377 (CH.row g20 o21 [.slice A390 n392 c391, .slice A396 n398 c397])) p394) p400) := CH.le_joinR (Ctx.dis_of [CH.row g685 0 ([.int .i64 r680.Size] ++ (r680.Root.map (Value.int .u8)))] [p116, p95, CH.row g71 0 ([.int .i64 r66.Size] ++ (r66.Root.map (Value.int .u8)))] C698)
        have C701 : Ctx _ _ _ _ (CH.join (CH.join (CH.join F377 (CH.row g20 o21 [.slice A390 n392 c391, .slice A396 n398 c397])) p394) p400) [CH.row g685 0 ([.int .i64 r680.Size] ++ (r680.Root.map (Value.int .u8))), p116, p95, CH.row g71 0 ([.int .i64 r66.Size] ++ (r66.Root.map (Value.int .u8)))] := Ctx.freeze [CH.row g685 0 ([.int .i64 r680.Size] ++ (r680.Root.map (Value.int .u8)))] [p116, p95, CH.row g71 0 ([.int .i64 r66.Size] ++ (r66.Root.map (Value.int .u8)))] C698
        obtain ⟨⟨r703, r704⟩, hg702, H⟩ := bindE H
        refine WL.call (args := #[.pointer (some ⟨g20, o21, none⟩), .int .i64 a2, .int .i64 (wi64 ((wu64 a3).tmod (wu64 (wi64 ((a0.length : Int) + 1)))))]) (Yenter.fn Tryd.func40 (by kernel_rfl) rfl (argsE (.cons rfl (.cons rfl (.cons rfl .nil))))) (ledger_Ledger_Include.calls k _ (CH.join (CH.join (CH.join F377 (CH.row g20 o21 [.slice A390 n392 c391, .slice A396 n398 c397])) p394) p400) g20 o21 A390 c391 n392 A396 c397 n398 x389 a2 (wi64 ((wu64 a3).tmod (wu64 (wi64 ((a0.length : Int) + 1))))) (Ctx.pre (qs := []) (rest := [CH.row g685 0 ([.int .i64 r680.Size] ++ (r680.Root.map (Value.int .u8))), p116, p95, CH.row g71 0 ([.int .i64 r66.Size] ++ (r66.Root.map (Value.int .u8)))]) C701) hn393 (Row.len_le hR395).1 (Row.len_le hR395).2.1 (Sl.mono (Row.sl hR395) (CH.le_trans (CH.le_trans le693 le696) le699) (CH.le_trans lp697 le699)) hn399 (Row.len_le hR401).1 (Row.len_le hR401).2.1 (Sl.mono (Row.sl hR401) (CH.le_trans (CH.le_trans le693 le696) le699) lp700) (CH.le_trans (CH.le_trans lp694 le696) le699) (CH.le_trans hG1 (CH.le_trans (CH.le_trans le19 le378) (CH.le_trans (CH.le_trans le693 le696) le699))) (CH.le_trans hG3 (CH.le_trans (CH.le_trans le19 le378) (CH.le_trans (CH.le_trans le693 le696) le699))) r703 r704 hg702) ?_
        rintro e_ w_ ⟨A705, c706, n707, p709, rfl, C711, hn708, hR710⟩
        refine ⟨_, rfl, ?_⟩
        have hR712 : Row (Kd.arrI 32 .u8) F377 p709 (.slice A705 n707 c706) r703 := hR710
        have C713 : Ctx _ _ _ _ F377 [p709, CH.row g685 0 ([.int .i64 r680.Size] ++ (r680.Root.map (Value.int .u8))), CH.row g20 o21 [.slice A390 n392 c391, .slice A396 n398 c397], p394, p400, p116, p95, CH.row g71 0 ([.int .i64 r66.Size] ++ (r66.Root.map (Value.int .u8)))] := Ctx.callL (qs := []) (rest := [CH.row g685 0 ([.int .i64 r680.Size] ++ (r680.Root.map (Value.int .u8))), CH.row g20 o21 [.slice A390 n392 c391, .slice A396 n398 c397], p394, p400, p116, p95, CH.row g71 0 ([.int .i64 r66.Size] ++ (r66.Root.map (Value.int .u8)))]) C692 (CH.le_trans (CH.le_trans le693 le696) le699) C711
        refine WL.val (Yl.move (v := .tuple #[(.slice A705 n707 c706), (.int .i64 r704)]) rfl) ?_
        refine WL.val (Yl.extract (v := .slice A705 n707 c706) rfl rfl) ?_
        refine WL.val (Yl.extract (v := .int .i64 r704) rfl rfl) ?_
        refine WL.val (Yl.assign (v := .slice A705 n707 c706) rfl) ?_
        refine WL.val (Yl.assign (v := .int .i64 r704) rfl) ?_
        refine WL.done ?_
        refine W.seq ?_
        refine W.region rfl ?_
        refine WL.val (Yl.move (v := .pointer (some ⟨g20, o21, none⟩)) ho382) ?_
        refine WL.val (Yl.move (v := .int .i64 a2) ho380) ?_
        refine WL.val (Yl.move (v := .int .i64 (wi64 ((wu64 a3).tmod (wu64 (wi64 ((a0.length : Int) + 1)))))) ho381) ?_
        have le714 : CH.le F377 (CH.join F377 (CH.row g20 o21 [.slice A390 n392 c391, .slice A396 n398 c397])) := CH.le_joinL _ _
        have lp715 : CH.le (CH.row g20 o21 [.slice A390 n392 c391, .slice A396 n398 c397]) (CH.join F377 (CH.row g20 o21 [.slice A390 n392 c391, .slice A396 n398 c397])) := CH.le_joinR (Ctx.dis_of [p709, CH.row g685 0 ([.int .i64 r680.Size] ++ (r680.Root.map (Value.int .u8)))] [p394, p400, p116, p95, CH.row g71 0 ([.int .i64 r66.Size] ++ (r66.Root.map (Value.int .u8)))] C713)
        have C716 : Ctx _ _ _ _ (CH.join F377 (CH.row g20 o21 [.slice A390 n392 c391, .slice A396 n398 c397])) [p709, CH.row g685 0 ([.int .i64 r680.Size] ++ (r680.Root.map (Value.int .u8))), p394, p400, p116, p95, CH.row g71 0 ([.int .i64 r66.Size] ++ (r66.Root.map (Value.int .u8)))] := Ctx.freeze [p709, CH.row g685 0 ([.int .i64 r680.Size] ++ (r680.Root.map (Value.int .u8)))] [p394, p400, p116, p95, CH.row g71 0 ([.int .i64 r66.Size] ++ (r66.Root.map (Value.int .u8)))] C713
        have le717 : CH.le (CH.join F377 (CH.row g20 o21 [.slice A390 n392 c391, .slice A396 n398 c397])) (CH.join (CH.join F377 (CH.row g20 o21 [.slice A390 n392 c391, .slice A396 n398 c397])) p394) := CH.le_joinL _ _
        have lp718 : CH.le p394 (CH.join (CH.join F377 (CH.row g20 o21 [.slice A390 n392 c391, .slice A396 n398 c397])) p394) := CH.le_joinR (Ctx.dis_of [p709, CH.row g685 0 ([.int .i64 r680.Size] ++ (r680.Root.map (Value.int .u8)))] [p400, p116, p95, CH.row g71 0 ([.int .i64 r66.Size] ++ (r66.Root.map (Value.int .u8)))] C716)
        have C719 : Ctx _ _ _ _ (CH.join (CH.join F377 (CH.row g20 o21 [.slice A390 n392 c391, .slice A396 n398 c397])) p394) [p709, CH.row g685 0 ([.int .i64 r680.Size] ++ (r680.Root.map (Value.int .u8))), p400, p116, p95, CH.row g71 0 ([.int .i64 r66.Size] ++ (r66.Root.map (Value.int .u8)))] := Ctx.freeze [p709, CH.row g685 0 ([.int .i64 r680.Size] ++ (r680.Root.map (Value.int .u8)))] [p400, p116, p95, CH.row g71 0 ([.int .i64 r66.Size] ++ (r66.Root.map (Value.int .u8)))] C716
        have le720 : CH.le (CH.join (CH.join F377 (CH.row g20 o21 [.slice A390 n392 c391, .slice A396 n398 c397])) p394) (CH.join (CH.join (CH.join F377 (CH.row g20 o21 [.slice A390 n392 c391, .slice A396 n398 c397])) p394) p400) := CH.le_joinL _ _
        have lp721 : CH.le p400 (CH.join (CH.join (CH.join F377 (CH.row g20 o21 [.slice A390 n392 c391, .slice A396 n398 c397])) p394) p400) := CH.le_joinR (Ctx.dis_of [p709, CH.row g685 0 ([.int .i64 r680.Size] ++ (r680.Root.map (Value.int .u8)))] [p116, p95, CH.row g71 0 ([.int .i64 r66.Size] ++ (r66.Root.map (Value.int .u8)))] C719)
        have C722 : Ctx _ _ _ _ (CH.join (CH.join (CH.join F377 (CH.row g20 o21 [.slice A390 n392 c391, .slice A396 n398 c397])) p394) p400) [p709, CH.row g685 0 ([.int .i64 r680.Size] ++ (r680.Root.map (Value.int .u8))), p116, p95, CH.row g71 0 ([.int .i64 r66.Size] ++ (r66.Root.map (Value.int .u8)))] := Ctx.freeze [p709, CH.row g685 0 ([.int .i64 r680.Size] ++ (r680.Root.map (Value.int .u8)))] [p116, p95, CH.row g71 0 ([.int .i64 r66.Size] ++ (r66.Root.map (Value.int .u8)))] C719
        obtain ⟨⟨r724, r725⟩, hg723, H⟩ := bindE H
        refine WL.call (args := #[.pointer (some ⟨g20, o21, none⟩), .int .i64 a2, .int .i64 (wi64 ((wu64 a3).tmod (wu64 (wi64 ((a0.length : Int) + 1)))))]) (Yenter.fn Tryd.func48 (by kernel_rfl) rfl (argsE (.cons rfl (.cons rfl (.cons rfl .nil))))) (ledger_Ledger_Consist.calls k _ (CH.join (CH.join (CH.join F377 (CH.row g20 o21 [.slice A390 n392 c391, .slice A396 n398 c397])) p394) p400) g20 o21 A390 c391 n392 A396 c397 n398 x389 a2 (wi64 ((wu64 a3).tmod (wu64 (wi64 ((a0.length : Int) + 1))))) (Ctx.pre (qs := []) (rest := [p709, CH.row g685 0 ([.int .i64 r680.Size] ++ (r680.Root.map (Value.int .u8))), p116, p95, CH.row g71 0 ([.int .i64 r66.Size] ++ (r66.Root.map (Value.int .u8)))]) C722) hn393 (Row.len_le hR395).1 (Row.len_le hR395).2.1 (Sl.mono (Row.sl hR395) (CH.le_trans (CH.le_trans le714 le717) le720) (CH.le_trans lp718 le720)) hn399 (Row.len_le hR401).1 (Row.len_le hR401).2.1 (Sl.mono (Row.sl hR401) (CH.le_trans (CH.le_trans le714 le717) le720) lp721) (CH.le_trans (CH.le_trans lp715 le717) le720) (CH.le_trans hG1 (CH.le_trans (CH.le_trans le19 le378) (CH.le_trans (CH.le_trans le714 le717) le720))) (CH.le_trans hG3 (CH.le_trans (CH.le_trans le19 le378) (CH.le_trans (CH.le_trans le714 le717) le720))) r724 r725 hg723) ?_
        rintro e_ w_ ⟨A726, c727, n728, p730, rfl, C732, hn729, hR731⟩
        refine ⟨_, rfl, ?_⟩
        have hR733 : Row (Kd.arrI 32 .u8) F377 p730 (.slice A726 n728 c727) r724 := hR731
        have C734 : Ctx _ _ _ _ F377 [p730, p709, CH.row g685 0 ([.int .i64 r680.Size] ++ (r680.Root.map (Value.int .u8))), CH.row g20 o21 [.slice A390 n392 c391, .slice A396 n398 c397], p394, p400, p116, p95, CH.row g71 0 ([.int .i64 r66.Size] ++ (r66.Root.map (Value.int .u8)))] := Ctx.callL (qs := []) (rest := [p709, CH.row g685 0 ([.int .i64 r680.Size] ++ (r680.Root.map (Value.int .u8))), CH.row g20 o21 [.slice A390 n392 c391, .slice A396 n398 c397], p394, p400, p116, p95, CH.row g71 0 ([.int .i64 r66.Size] ++ (r66.Root.map (Value.int .u8)))]) C713 (CH.le_trans (CH.le_trans le714 le717) le720) C732
        refine WL.val (Yl.move (v := .tuple #[(.slice A726 n728 c727), (.int .i64 r725)]) rfl) ?_
        refine WL.val (Yl.extract (v := .slice A726 n728 c727) rfl rfl) ?_
        refine WL.val (Yl.extract (v := .int .i64 r725) rfl rfl) ?_
        refine WL.val (Yl.assign (v := .slice A726 n728 c727) rfl) ?_
        refine WL.val (Yl.assign (v := .int .i64 r725) rfl) ?_
        refine WL.done ?_
        refine W.seq ?_
        refine W.seq ?_
        refine W.region rfl ?_
        refine WL.val (Yl.move (v := .int .i64 r67) ho384) ?_
        refine WL.val (Yl.move (v := .int .i64 r681) rfl) ?_
        refine WL.val (Yl.neq (m := r67) (n := r681) (q := !decide (r67 = r681)) rfl rfl rfl) ?_
        refine WL.val (Yl.move (v := .bool (!decide (r67 = r681))) rfl) ?_
        obtain ⟨g735, HE736, H⟩ := bindE H
        refine WL.cut (fun env_ w_ => env_ 141 = .bool g735 ∧ env_ 0 = .slice A1 n3 c2 ∧ env_ 9 = .pointer (some ⟨g20, o21, none⟩) ∧ Ctx w F D w_ F377 [p730, p709, CH.row g685 0 ([.int .i64 r680.Size] ++ (r680.Root.map (Value.int .u8))), CH.row g20 o21 [.slice A390 n392 c391, .slice A396 n398 c397], p394, p400, p116, p95, CH.row g71 0 ([.int .i64 r66.Size] ++ (r66.Root.map (Value.int .u8)))]) ?_ ?_
        · skip
          rcases iteE HE736 with ⟨hc737, HE736⟩ | ⟨hc737, HE736⟩
          · skip
            refine WL.on rfl (congrArg Value.bool (ndec_t hc737)) ?_
            refine WL.val (Yl.move (v := .int .i64 r90) ho386) ?_
            refine WL.on rfl (congrArg Value.bool (ndec_t hc737)) ?_
            refine WL.val (Yl.move (v := .int .i64 r704) rfl) ?_
            refine WL.on rfl (congrArg Value.bool (ndec_t hc737)) ?_
            refine WL.val (Yl.neq (m := r90) (n := r704) (q := !decide (r90 = r704)) rfl rfl rfl) ?_
            refine WL.val (Yl.pickF (v := .bool (!decide (r90 = r704))) (congrArg Value.bool (ndec_t hc737)) rfl) ?_
            refine WL.val (Yl.move (v := .bool (!decide (r90 = r704))) rfl) ?_
            rcases iteE HE736 with ⟨hc738, HE736⟩ | ⟨hc738, HE736⟩
            · skip
              refine WL.on rfl (congrArg Value.bool (ndec_t hc738)) ?_
              refine WL.val (Yl.move (v := .int .i64 r111) ho388) ?_
              refine WL.on rfl (congrArg Value.bool (ndec_t hc738)) ?_
              refine WL.val (Yl.move (v := .int .i64 r725) rfl) ?_
              refine WL.on rfl (congrArg Value.bool (ndec_t hc738)) ?_
              refine WL.val (Yl.neq (m := r111) (n := r725) (q := !decide (r111 = r725)) rfl rfl rfl) ?_
              refine WL.val (Yl.pickF (v := .bool (!decide (r111 = r725))) (congrArg Value.bool (ndec_t hc738)) rfl) ?_
              refine WL.val (Yl.move (v := .bool (!decide (r111 = r725))) rfl) ?_
              rcases iteE HE736 with ⟨hc739, HE736⟩ | ⟨hc739, HE736⟩
              · skip
                refine WL.on rfl (congrArg Value.bool (ndec_t hc739)) ?_
                refine WL.val (Yl.loadVA (g := g71) (off := 0) (o := 0) (cs := [.int .i64 r66.Size] ++ (r66.Root.map (Value.int .u8))) (us := [.int .i64 r66.Size] ++ (r66.Root.map (Value.int .u8))) ho383 Tryd.underlying53 rfl (sz_of sz53 (by first | (simp only [List.length_append, List.length_map, List.length_cons, List.length_nil, ha68]; done) | simp [ha68])) (Ctx.sub_of [p730, p709, CH.row g685 0 ([.int .i64 r680.Size] ++ (r680.Root.map (Value.int .u8))), CH.row g20 o21 [.slice A390 n392 c391, .slice A396 n398 c397], p394, p400, p116, p95] [] C734) (take_all _)) ?_
                refine WL.on rfl (congrArg Value.bool (ndec_t hc739)) ?_
                refine WL.val (Yl.loadVA (g := g685) (off := 0) (o := 0) (cs := [.int .i64 r680.Size] ++ (r680.Root.map (Value.int .u8))) (us := [.int .i64 r680.Size] ++ (r680.Root.map (Value.int .u8))) rfl Tryd.underlying53 rfl (sz_of sz53 (by first | (simp only [List.length_append, List.length_map, List.length_cons, List.length_nil, ha682]; done) | simp [ha682])) (Ctx.sub_of [p730, p709] [CH.row g20 o21 [.slice A390 n392 c391, .slice A396 n398 c397], p394, p400, p116, p95, CH.row g71 0 ([.int .i64 r66.Size] ++ (r66.Root.map (Value.int .u8)))] C734) (take_all _)) ?_
                refine WL.on rfl (congrArg Value.bool (ndec_t hc739)) ?_
                refine WL.val (Yl.aneq (n := 3) (xs := [.int .i64 r66.Size] ++ (r66.Root.map (Value.int .u8))) (ys := [.int .i64 r680.Size] ++ (r680.Root.map (Value.int .u8))) rfl rfl eg53 (EqV.struct (n := 2) Tryd.underlying53 sh53 (EqFs.cons (by decide) (PartE.one (v := .int .i64 r66.Size) Tryd.underlying3 rfl (by simp [List.getElem?_append, ha68])) (PartE.one (v := .int .i64 r680.Size) Tryd.underlying3 rfl (by simp [List.getElem?_append, ha682])) (EqV.le (EqV.int Tryd.underlying3) (by decide)) (EqFs.one (by decide) (PartE.agg Tryd.underlying33 rfl (sz_of sz33 (by first | (simp only [List.length_append, List.length_map, List.length_cons, List.length_nil, ha68]; done) | simp [ha68])) (take_mid (pre := [.int .i64 r66.Size]) (us := r66.Root.map (Value.int .u8)) (post := []) (by first | (simp only [List.length_append, List.length_map, List.length_cons, List.length_nil, ha68]; done) | simp [ha68]) (by first | (simp only [List.length_append, List.length_map, List.length_cons, List.length_nil, ha68]; done) | simp [ha68]))) (PartE.agg Tryd.underlying33 rfl (sz_of sz33 (by first | (simp only [List.length_append, List.length_map, List.length_cons, List.length_nil, ha682]; done) | simp [ha682])) (take_mid (pre := [.int .i64 r680.Size]) (us := r680.Root.map (Value.int .u8)) (post := []) (by first | (simp only [List.length_append, List.length_map, List.length_cons, List.length_nil, ha682]; done) | simp [ha682]) (by first | (simp only [List.length_append, List.length_map, List.length_cons, List.length_nil, ha682]; done) | simp [ha682]))) (EqV.arrI Tryd.underlying33 Tryd.underlying5 sz5 ha68 ha682)))) (by decide) rfl) ?_
                refine WL.val (Yl.pickF (v := .bool (!decide (r66.Size = r680.Size ∧ r66.Root = r680.Root))) (congrArg Value.bool (ndec_t hc739)) rfl) ?_
                refine WL.val (Yl.move (v := .bool (!decide (r66.Size = r680.Size ∧ r66.Root = r680.Root))) rfl) ?_
                rcases iteE HE736 with ⟨hc740, HE736⟩ | ⟨hc740, HE736⟩
                · skip
                  refine WL.on rfl (congrArg Value.bool (ndec_t hc740)) ?_
                  refine WL.val (Yl.move (v := .slice A91 n93 c92) ho385) ?_
                  refine WL.on rfl (congrArg Value.bool (ndec_t hc740)) ?_
                  refine WL.val (Yl.move (v := .slice A705 n707 c706) rfl) ?_
                  refine WL.on rfl (congrArg Value.bool (ndec_t hc740)) ?_
                  have le741 : CH.le F377 (CH.join F377 p95) := CH.le_joinL _ _
                  have lp742 : CH.le p95 (CH.join F377 p95) := CH.le_joinR (Ctx.dis_of [p730, p709, CH.row g685 0 ([.int .i64 r680.Size] ++ (r680.Root.map (Value.int .u8))), CH.row g20 o21 [.slice A390 n392 c391, .slice A396 n398 c397], p394, p400, p116] [CH.row g71 0 ([.int .i64 r66.Size] ++ (r66.Root.map (Value.int .u8)))] C734)
                  have C743 : Ctx _ _ _ _ (CH.join F377 p95) [p730, p709, CH.row g685 0 ([.int .i64 r680.Size] ++ (r680.Root.map (Value.int .u8))), CH.row g20 o21 [.slice A390 n392 c391, .slice A396 n398 c397], p394, p400, p116, CH.row g71 0 ([.int .i64 r66.Size] ++ (r66.Root.map (Value.int .u8)))] := Ctx.freeze [p730, p709, CH.row g685 0 ([.int .i64 r680.Size] ++ (r680.Root.map (Value.int .u8))), CH.row g20 o21 [.slice A390 n392 c391, .slice A396 n398 c397], p394, p400, p116] [CH.row g71 0 ([.int .i64 r66.Size] ++ (r66.Root.map (Value.int .u8)))] C734
                  have le744 : CH.le (CH.join F377 p95) (CH.join (CH.join F377 p95) p709) := CH.le_joinL _ _
                  have lp745 : CH.le p709 (CH.join (CH.join F377 p95) p709) := CH.le_joinR (Ctx.dis_of [p730] [CH.row g685 0 ([.int .i64 r680.Size] ++ (r680.Root.map (Value.int .u8))), CH.row g20 o21 [.slice A390 n392 c391, .slice A396 n398 c397], p394, p400, p116, CH.row g71 0 ([.int .i64 r66.Size] ++ (r66.Root.map (Value.int .u8)))] C743)
                  have C746 : Ctx _ _ _ _ (CH.join (CH.join F377 p95) p709) [p730, CH.row g685 0 ([.int .i64 r680.Size] ++ (r680.Root.map (Value.int .u8))), CH.row g20 o21 [.slice A390 n392 c391, .slice A396 n398 c397], p394, p400, p116, CH.row g71 0 ([.int .i64 r66.Size] ++ (r66.Root.map (Value.int .u8)))] := Ctx.freeze [p730] [CH.row g685 0 ([.int .i64 r680.Size] ++ (r680.Root.map (Value.int .u8))), CH.row g20 o21 [.slice A390 n392 c391, .slice A396 n398 c397], p394, p400, p116, CH.row g71 0 ([.int .i64 r66.Size] ++ (r66.Root.map (Value.int .u8)))] C743
                  obtain ⟨r748, hg747, HE736⟩ := bindE HE736
                  refine WL.call (args := #[.slice A91 n93 c92, .slice A705 n707 c706]) (Yenter.fn Tryd.func33 (by kernel_rfl) rfl (argsE (.cons rfl (.cons rfl .nil)))) (juratref05_Same.calls k _ (CH.join (CH.join F377 p95) p709) A91 c92 n93 r89 A705 c706 n707 r703 C746.pre0 hn94 (Row.len_le hR668).1 (Row.len_le hR668).2.1 (Sl.mono (Row.sl hR668) (CH.le_trans le741 le744) (CH.le_trans lp742 le744)) hn708 (Row.len_le hR712).1 (Row.len_le hR712).2.1 (Sl.mono (Row.sl hR712) (CH.le_trans le741 le744) lp745) r748 hg747) ?_
                  rintro e_ w_ ⟨rfl, ⟨m749, rfl⟩⟩
                  refine ⟨_, rfl, ?_⟩
                  have C750 := Ctx.drewN C734 m749
                  refine WL.on rfl (congrArg Value.bool (ndec_t hc740)) ?_
                  refine WL.val (Yl.not (p := r748) (q := !r748) rfl rfl) ?_
                  refine WL.val (Yl.pickF (v := .bool (!r748)) (congrArg Value.bool (ndec_t hc740)) rfl) ?_
                  refine WL.val (Yl.move (v := .bool (!r748)) rfl) ?_
                  rcases iteE HE736 with ⟨hc751, HE736⟩ | ⟨hc751, HE736⟩
                  · skip
                    refine WL.on rfl (congrArg Value.bool (nb_t hc751)) ?_
                    refine WL.val (Yl.move (v := .slice A112 n114 c113) ho387) ?_
                    refine WL.on rfl (congrArg Value.bool (nb_t hc751)) ?_
                    refine WL.val (Yl.move (v := .slice A726 n728 c727) rfl) ?_
                    refine WL.on rfl (congrArg Value.bool (nb_t hc751)) ?_
                    have le752 : CH.le F377 (CH.join F377 p116) := CH.le_joinL _ _
                    have lp753 : CH.le p116 (CH.join F377 p116) := CH.le_joinR (Ctx.dis_of [p730, p709, CH.row g685 0 ([.int .i64 r680.Size] ++ (r680.Root.map (Value.int .u8))), CH.row g20 o21 [.slice A390 n392 c391, .slice A396 n398 c397], p394, p400] [p95, CH.row g71 0 ([.int .i64 r66.Size] ++ (r66.Root.map (Value.int .u8)))] C750)
                    have C754 : Ctx _ _ _ _ (CH.join F377 p116) [p730, p709, CH.row g685 0 ([.int .i64 r680.Size] ++ (r680.Root.map (Value.int .u8))), CH.row g20 o21 [.slice A390 n392 c391, .slice A396 n398 c397], p394, p400, p95, CH.row g71 0 ([.int .i64 r66.Size] ++ (r66.Root.map (Value.int .u8)))] := Ctx.freeze [p730, p709, CH.row g685 0 ([.int .i64 r680.Size] ++ (r680.Root.map (Value.int .u8))), CH.row g20 o21 [.slice A390 n392 c391, .slice A396 n398 c397], p394, p400] [p95, CH.row g71 0 ([.int .i64 r66.Size] ++ (r66.Root.map (Value.int .u8)))] C750
                    have le755 : CH.le (CH.join F377 p116) (CH.join (CH.join F377 p116) p730) := CH.le_joinL _ _
                    have lp756 : CH.le p730 (CH.join (CH.join F377 p116) p730) := CH.le_joinR (Ctx.dis_of [] [p709, CH.row g685 0 ([.int .i64 r680.Size] ++ (r680.Root.map (Value.int .u8))), CH.row g20 o21 [.slice A390 n392 c391, .slice A396 n398 c397], p394, p400, p95, CH.row g71 0 ([.int .i64 r66.Size] ++ (r66.Root.map (Value.int .u8)))] C754)
                    have C757 : Ctx _ _ _ _ (CH.join (CH.join F377 p116) p730) [p709, CH.row g685 0 ([.int .i64 r680.Size] ++ (r680.Root.map (Value.int .u8))), CH.row g20 o21 [.slice A390 n392 c391, .slice A396 n398 c397], p394, p400, p95, CH.row g71 0 ([.int .i64 r66.Size] ++ (r66.Root.map (Value.int .u8)))] := Ctx.freeze [] [p709, CH.row g685 0 ([.int .i64 r680.Size] ++ (r680.Root.map (Value.int .u8))), CH.row g20 o21 [.slice A390 n392 c391, .slice A396 n398 c397], p394, p400, p95, CH.row g71 0 ([.int .i64 r66.Size] ++ (r66.Root.map (Value.int .u8)))] C754
                    obtain ⟨r759, hg758, HE736⟩ := bindE HE736
                    refine WL.call (args := #[.slice A112 n114 c113, .slice A726 n728 c727]) (Yenter.fn Tryd.func33 (by kernel_rfl) rfl (argsE (.cons rfl (.cons rfl .nil)))) (juratref05_Same.calls k _ (CH.join (CH.join F377 p116) p730) A112 c113 n114 r110 A726 c727 n728 r724 C757.pre0 hn115 (Row.len_le hR669).1 (Row.len_le hR669).2.1 (Sl.mono (Row.sl hR669) (CH.le_trans le752 le755) (CH.le_trans lp753 le755)) hn729 (Row.len_le hR733).1 (Row.len_le hR733).2.1 (Sl.mono (Row.sl hR733) (CH.le_trans le752 le755) lp756) r759 hg758) ?_
                    rintro e_ w_ ⟨rfl, ⟨m760, rfl⟩⟩
                    refine ⟨_, rfl, ?_⟩
                    have C761 := Ctx.drewN C750 m760
                    refine WL.on rfl (congrArg Value.bool (nb_t hc751)) ?_
                    refine WL.val (Yl.not (p := r759) (q := !r759) rfl rfl) ?_
                    refine WL.val (Yl.pickF (v := .bool (!r759)) (congrArg Value.bool (nb_t hc751)) rfl) ?_
                    refine WL.val (Yl.move (v := .bool (!r759)) rfl) ?_
                    rcases iteE HE736 with ⟨hc762, HE736⟩ | ⟨hc762, HE736⟩
                    · skip
                      refine WL.on rfl (congrArg Value.bool (nb_t hc762)) ?_
                      refine WL.val (Yl.move (v := .int .i64 r67) ho384) ?_
                      refine WL.on rfl (congrArg Value.bool (nb_t hc762)) ?_
                      refine WL.val (Yl.neq (m := r67) (n := 0) (q := !decide (r67 = 0)) rfl rfl rfl) ?_
                      refine WL.val (Yl.pickF (v := .bool (!decide (r67 = 0))) (congrArg Value.bool (nb_t hc762)) rfl) ?_
                      cases HE736
                      exact WL.done ⟨rfl, ho379, ho382, C761⟩
                    · skip
                      refine WL.off rfl (congrArg Value.bool (nb_f hc762)) ?_
                      refine WL.off rfl (congrArg Value.bool (nb_f hc762)) ?_
                      refine WL.val (Yl.pickT (v := .bool true) (congrArg Value.bool (nb_f hc762)) rfl) ?_
                      cases HE736
                      exact WL.done ⟨rfl, ho379, ho382, C761⟩
                  · skip
                    refine WL.off rfl (congrArg Value.bool (nb_f hc751)) ?_
                    refine WL.off rfl (congrArg Value.bool (nb_f hc751)) ?_
                    refine WL.off rfl (congrArg Value.bool (nb_f hc751)) ?_
                    refine WL.off rfl (congrArg Value.bool (nb_f hc751)) ?_
                    refine WL.val (Yl.pickT (v := .bool true) (congrArg Value.bool (nb_f hc751)) rfl) ?_
                    refine WL.val (Yl.move (v := .bool true) rfl) ?_
                    refine WL.off rfl rfl ?_
                    refine WL.off rfl rfl ?_
                    refine WL.val (Yl.pickT (v := .bool true) rfl rfl) ?_
                    cases HE736
                    exact WL.done ⟨rfl, ho379, ho382, C750⟩
                · skip
                  refine WL.off rfl (congrArg Value.bool (ndec_f hc740)) ?_
                  refine WL.off rfl (congrArg Value.bool (ndec_f hc740)) ?_
                  refine WL.off rfl (congrArg Value.bool (ndec_f hc740)) ?_
                  refine WL.off rfl (congrArg Value.bool (ndec_f hc740)) ?_
                  refine WL.val (Yl.pickT (v := .bool true) (congrArg Value.bool (ndec_f hc740)) rfl) ?_
                  refine WL.val (Yl.move (v := .bool true) rfl) ?_
                  refine WL.off rfl rfl ?_
                  refine WL.off rfl rfl ?_
                  refine WL.off rfl rfl ?_
                  refine WL.off rfl rfl ?_
                  refine WL.val (Yl.pickT (v := .bool true) rfl rfl) ?_
                  refine WL.val (Yl.move (v := .bool true) rfl) ?_
                  refine WL.off rfl rfl ?_
                  refine WL.off rfl rfl ?_
                  refine WL.val (Yl.pickT (v := .bool true) rfl rfl) ?_
                  cases HE736
                  exact WL.done ⟨rfl, ho379, ho382, C734⟩
              · skip
                refine WL.off rfl (congrArg Value.bool (ndec_f hc739)) ?_
                refine WL.off rfl (congrArg Value.bool (ndec_f hc739)) ?_
                refine WL.off rfl (congrArg Value.bool (ndec_f hc739)) ?_
                refine WL.val (Yl.pickT (v := .bool true) (congrArg Value.bool (ndec_f hc739)) rfl) ?_
                refine WL.val (Yl.move (v := .bool true) rfl) ?_
                refine WL.off rfl rfl ?_
                refine WL.off rfl rfl ?_
                refine WL.off rfl rfl ?_
                refine WL.off rfl rfl ?_
                refine WL.val (Yl.pickT (v := .bool true) rfl rfl) ?_
                refine WL.val (Yl.move (v := .bool true) rfl) ?_
                refine WL.off rfl rfl ?_
                refine WL.off rfl rfl ?_
                refine WL.off rfl rfl ?_
                refine WL.off rfl rfl ?_
                refine WL.val (Yl.pickT (v := .bool true) rfl rfl) ?_
                refine WL.val (Yl.move (v := .bool true) rfl) ?_
                refine WL.off rfl rfl ?_
                refine WL.off rfl rfl ?_
                refine WL.val (Yl.pickT (v := .bool true) rfl rfl) ?_
                cases HE736
                exact WL.done ⟨rfl, ho379, ho382, C734⟩
            · skip
              refine WL.off rfl (congrArg Value.bool (ndec_f hc738)) ?_
              refine WL.off rfl (congrArg Value.bool (ndec_f hc738)) ?_
              refine WL.off rfl (congrArg Value.bool (ndec_f hc738)) ?_
              refine WL.val (Yl.pickT (v := .bool true) (congrArg Value.bool (ndec_f hc738)) rfl) ?_
              refine WL.val (Yl.move (v := .bool true) rfl) ?_
              refine WL.off rfl rfl ?_
              refine WL.off rfl rfl ?_
              refine WL.off rfl rfl ?_
              refine WL.val (Yl.pickT (v := .bool true) rfl rfl) ?_
              refine WL.val (Yl.move (v := .bool true) rfl) ?_
              refine WL.off rfl rfl ?_
              refine WL.off rfl rfl ?_
              refine WL.off rfl rfl ?_
              refine WL.off rfl rfl ?_
              refine WL.val (Yl.pickT (v := .bool true) rfl rfl) ?_
              refine WL.val (Yl.move (v := .bool true) rfl) ?_
              refine WL.off rfl rfl ?_
              refine WL.off rfl rfl ?_
              refine WL.off rfl rfl ?_
              refine WL.off rfl rfl ?_
              refine WL.val (Yl.pickT (v := .bool true) rfl rfl) ?_
              refine WL.val (Yl.move (v := .bool true) rfl) ?_
              refine WL.off rfl rfl ?_
              refine WL.off rfl rfl ?_
              refine WL.val (Yl.pickT (v := .bool true) rfl rfl) ?_
              cases HE736
              exact WL.done ⟨rfl, ho379, ho382, C734⟩
          · skip
            refine WL.off rfl (congrArg Value.bool (ndec_f hc737)) ?_
            refine WL.off rfl (congrArg Value.bool (ndec_f hc737)) ?_
            refine WL.off rfl (congrArg Value.bool (ndec_f hc737)) ?_
            refine WL.val (Yl.pickT (v := .bool true) (congrArg Value.bool (ndec_f hc737)) rfl) ?_
            refine WL.val (Yl.move (v := .bool true) rfl) ?_
            refine WL.off rfl rfl ?_
            refine WL.off rfl rfl ?_
            refine WL.off rfl rfl ?_
            refine WL.val (Yl.pickT (v := .bool true) rfl rfl) ?_
            refine WL.val (Yl.move (v := .bool true) rfl) ?_
            refine WL.off rfl rfl ?_
            refine WL.off rfl rfl ?_
            refine WL.off rfl rfl ?_
            refine WL.val (Yl.pickT (v := .bool true) rfl rfl) ?_
            refine WL.val (Yl.move (v := .bool true) rfl) ?_
            refine WL.off rfl rfl ?_
            refine WL.off rfl rfl ?_
            refine WL.off rfl rfl ?_
            refine WL.off rfl rfl ?_
            refine WL.val (Yl.pickT (v := .bool true) rfl rfl) ?_
            refine WL.val (Yl.move (v := .bool true) rfl) ?_
            refine WL.off rfl rfl ?_
            refine WL.off rfl rfl ?_
            refine WL.off rfl rfl ?_
            refine WL.off rfl rfl ?_
            refine WL.val (Yl.pickT (v := .bool true) rfl rfl) ?_
            refine WL.val (Yl.move (v := .bool true) rfl) ?_
            refine WL.off rfl rfl ?_
            refine WL.off rfl rfl ?_
            refine WL.val (Yl.pickT (v := .bool true) rfl rfl) ?_
            cases HE736
            exact WL.done ⟨rfl, ho379, ho382, C734⟩
        · skip
          rintro env_ w_ ⟨ho763, ho764, ho765, C766⟩
          rcases iteE H with ⟨hc767, H⟩ | ⟨hc767, H⟩
          · skip
            refine W.condT (ho763.trans (congrArg Value.bool hc767)) ?_
            refine W.seq ?_
            refine W.region rfl ?_
            refine WL.val (Yl.assign (v := .bool false) rfl) ?_
            refine WL.done ?_
            refine W.ret ?_
            refine thenE_r ?_
            have C768 : Ctx _ _ _ _ F377 [p709, CH.row g685 0 ([.int .i64 r680.Size] ++ (r680.Root.map (Value.int .u8))), CH.row g20 o21 [.slice A390 n392 c391, .slice A396 n398 c397], p394, p400, p116, p95, CH.row g71 0 ([.int .i64 r66.Size] ++ (r66.Root.map (Value.int .u8)))] := Ctx.drop [] [p709, CH.row g685 0 ([.int .i64 r680.Size] ++ (r680.Root.map (Value.int .u8))), CH.row g20 o21 [.slice A390 n392 c391, .slice A396 n398 c397], p394, p400, p116, p95, CH.row g71 0 ([.int .i64 r66.Size] ++ (r66.Root.map (Value.int .u8)))] C766
            have C769 : Ctx _ _ _ _ F377 [CH.row g685 0 ([.int .i64 r680.Size] ++ (r680.Root.map (Value.int .u8))), CH.row g20 o21 [.slice A390 n392 c391, .slice A396 n398 c397], p394, p400, p116, p95, CH.row g71 0 ([.int .i64 r66.Size] ++ (r66.Root.map (Value.int .u8)))] := Ctx.drop [] [CH.row g685 0 ([.int .i64 r680.Size] ++ (r680.Root.map (Value.int .u8))), CH.row g20 o21 [.slice A390 n392 c391, .slice A396 n398 c397], p394, p400, p116, p95, CH.row g71 0 ([.int .i64 r66.Size] ++ (r66.Root.map (Value.int .u8)))] C768
            have C770 : Ctx _ _ _ _ F377 [CH.row g20 o21 [.slice A390 n392 c391, .slice A396 n398 c397], p394, p400, p116, p95, CH.row g71 0 ([.int .i64 r66.Size] ++ (r66.Root.map (Value.int .u8)))] := Ctx.drop [] [CH.row g20 o21 [.slice A390 n392 c391, .slice A396 n398 c397], p394, p400, p116, p95, CH.row g71 0 ([.int .i64 r66.Size] ++ (r66.Root.map (Value.int .u8)))] C769
            have C771 : Ctx _ _ _ _ F377 [p394, p400, p116, p95, CH.row g71 0 ([.int .i64 r66.Size] ++ (r66.Root.map (Value.int .u8)))] := Ctx.drop [] [p394, p400, p116, p95, CH.row g71 0 ([.int .i64 r66.Size] ++ (r66.Root.map (Value.int .u8)))] C770
            have C772 : Ctx _ _ _ _ F377 [p400, p116, p95, CH.row g71 0 ([.int .i64 r66.Size] ++ (r66.Root.map (Value.int .u8)))] := Ctx.drop [] [p400, p116, p95, CH.row g71 0 ([.int .i64 r66.Size] ++ (r66.Root.map (Value.int .u8)))] C771
            have C773 : Ctx _ _ _ _ F377 [p116, p95, CH.row g71 0 ([.int .i64 r66.Size] ++ (r66.Root.map (Value.int .u8)))] := Ctx.drop [] [p116, p95, CH.row g71 0 ([.int .i64 r66.Size] ++ (r66.Root.map (Value.int .u8)))] C772
            have C774 : Ctx _ _ _ _ F377 [p95, CH.row g71 0 ([.int .i64 r66.Size] ++ (r66.Root.map (Value.int .u8)))] := Ctx.drop [] [p95, CH.row g71 0 ([.int .i64 r66.Size] ++ (r66.Root.map (Value.int .u8)))] C773
            have C775 : Ctx _ _ _ _ F377 [CH.row g71 0 ([.int .i64 r66.Size] ++ (r66.Root.map (Value.int .u8)))] := Ctx.drop [] [CH.row g71 0 ([.int .i64 r66.Size] ++ (r66.Root.map (Value.int .u8)))] C774
            have C776 : Ctx _ _ _ _ F377 [] := Ctx.drop [] [] C775
            have e777 := Option.some.inj H
            subst e777
            exact post_r (resE1 rfl rfl) ⟨rfl, (Ctx.weak C776 (CH.le_refl _))⟩
          · skip
            refine W.condF (ho763.trans (congrArg Value.bool (Bool.eq_false_iff.2 hc767))) ?_
            refine W.skip ?_
            refine W.seq ?_
            refine W.seq ?_
            refine W.region rfl ?_
            refine WL.val (Yl.assign (v := .int .i64 0) rfl) ?_
            refine WL.done ?_
            obtain ⟨o893, hX892, H⟩ := bindE H
            refine W.cutM (fun env_ w_ => Ctx w F D w_ F377 [p730, p709, CH.row g685 0 ([.int .i64 r680.Size] ++ (r680.Root.map (Value.int .u8))), CH.row g20 o21 [.slice A390 n392 c391, .slice A396 n398 c397], p394, p400, p116, p95, CH.row g71 0 ([.int .i64 r66.Size] ++ (r66.Root.map (Value.int .u8)))] ∧ o893 = Sum.inl ()) ?_ ?_
            · skip
              refine W.block ?_
              refine W.loop (fun g_ env_ w_ => ∃ (x897 : Int), env_ 0 = .slice A1 n3 c2 ∧ env_ 9 = .pointer (some ⟨g20, o21, none⟩) ∧ env_ 24 = .int .i64 x897 ∧ Ctx w F D w_ F377 [p730, p709, CH.row g685 0 ([.int .i64 r680.Size] ++ (r680.Root.map (Value.int .u8))), CH.row g20 o21 [.slice A390 n392 c391, .slice A396 n398 c397], p394, p400, p116, p95, CH.row g71 0 ([.int .i64 r66.Size] ++ (r66.Root.map (Value.int .u8)))] ∧ juratlaw09_LedgerStays.l2 g_ a0 x389 x897 = some o893) k ⟨0, ho764, ho765, rfl, C766, hX892⟩ ?_
              clear hX892
              rintro g_ env_ w_ ⟨x897, ho894, ho895, ho896, C898, hX892⟩
              rcases g_ with _ | k952
              · exact absurd hX892 (by simp [juratlaw09_LedgerStays.l2])
              rw [juratlaw09_LedgerStays.l2] at hX892
              refine W.seq ?_
              refine W.seq ?_
              refine W.region rfl ?_
              refine WL.val (Yl.move (v := .int .i64 x897) ho896) ?_
              refine WL.val (Yl.move (v := .slice A1 n3 c2) ho894) ?_
              refine WL.val (Yl.lenN (A := A1) (l := n3) (q := c2) (n := (a0.length : Int)) rfl Tryd.underlying49 (by omega)) ?_
              refine WL.val (Yl.lss (m := x897) (n := (a0.length : Int)) (q := decide (x897 < (a0.length : Int))) rfl rfl rfl) ?_
              refine WL.done ?_
              rcases iteE hX892 with ⟨hc953, hX892⟩ | ⟨hc953, hX892⟩
              · skip
                refine W.condT (congrArg Value.bool (decide_eq_true hc953)) ?_
                refine W.skip ?_
                refine W.seq ?_
                refine W.block ?_
                refine W.seq ?_
                refine W.region rfl ?_
                refine WL.val (Yl.move (v := .pointer (some ⟨g20, o21, none⟩)) ho895) ?_
                refine WL.val (Yl.move (v := .int .i64 x897) ho896) ?_
                have le954 : CH.le F377 (CH.join F377 (CH.row g20 o21 [.slice A390 n392 c391, .slice A396 n398 c397])) := CH.le_joinL _ _
                have lp955 : CH.le (CH.row g20 o21 [.slice A390 n392 c391, .slice A396 n398 c397]) (CH.join F377 (CH.row g20 o21 [.slice A390 n392 c391, .slice A396 n398 c397])) := CH.le_joinR (Ctx.dis_of [p730, p709, CH.row g685 0 ([.int .i64 r680.Size] ++ (r680.Root.map (Value.int .u8)))] [p394, p400, p116, p95, CH.row g71 0 ([.int .i64 r66.Size] ++ (r66.Root.map (Value.int .u8)))] C898)
                have C956 : Ctx _ _ _ _ (CH.join F377 (CH.row g20 o21 [.slice A390 n392 c391, .slice A396 n398 c397])) [p730, p709, CH.row g685 0 ([.int .i64 r680.Size] ++ (r680.Root.map (Value.int .u8))), p394, p400, p116, p95, CH.row g71 0 ([.int .i64 r66.Size] ++ (r66.Root.map (Value.int .u8)))] := Ctx.freeze [p730, p709, CH.row g685 0 ([.int .i64 r680.Size] ++ (r680.Root.map (Value.int .u8)))] [p394, p400, p116, p95, CH.row g71 0 ([.int .i64 r66.Size] ++ (r66.Root.map (Value.int .u8)))] C898
                have le957 : CH.le (CH.join F377 (CH.row g20 o21 [.slice A390 n392 c391, .slice A396 n398 c397])) (CH.join (CH.join F377 (CH.row g20 o21 [.slice A390 n392 c391, .slice A396 n398 c397])) p394) := CH.le_joinL _ _
                have lp958 : CH.le p394 (CH.join (CH.join F377 (CH.row g20 o21 [.slice A390 n392 c391, .slice A396 n398 c397])) p394) := CH.le_joinR (Ctx.dis_of [p730, p709, CH.row g685 0 ([.int .i64 r680.Size] ++ (r680.Root.map (Value.int .u8)))] [p400, p116, p95, CH.row g71 0 ([.int .i64 r66.Size] ++ (r66.Root.map (Value.int .u8)))] C956)
                have C959 : Ctx _ _ _ _ (CH.join (CH.join F377 (CH.row g20 o21 [.slice A390 n392 c391, .slice A396 n398 c397])) p394) [p730, p709, CH.row g685 0 ([.int .i64 r680.Size] ++ (r680.Root.map (Value.int .u8))), p400, p116, p95, CH.row g71 0 ([.int .i64 r66.Size] ++ (r66.Root.map (Value.int .u8)))] := Ctx.freeze [p730, p709, CH.row g685 0 ([.int .i64 r680.Size] ++ (r680.Root.map (Value.int .u8)))] [p400, p116, p95, CH.row g71 0 ([.int .i64 r66.Size] ++ (r66.Root.map (Value.int .u8)))] C956
                have le960 : CH.le (CH.join (CH.join F377 (CH.row g20 o21 [.slice A390 n392 c391, .slice A396 n398 c397])) p394) (CH.join (CH.join (CH.join F377 (CH.row g20 o21 [.slice A390 n392 c391, .slice A396 n398 c397])) p394) p400) := CH.le_joinL _ _
                have lp961 : CH.le p400 (CH.join (CH.join (CH.join F377 (CH.row g20 o21 [.slice A390 n392 c391, .slice A396 n398 c397])) p394) p400) := CH.le_joinR (Ctx.dis_of [p730, p709, CH.row g685 0 ([.int .i64 r680.Size] ++ (r680.Root.map (Value.int .u8)))] [p116, p95, CH.row g71 0 ([.int .i64 r66.Size] ++ (r66.Root.map (Value.int .u8)))] C959)
                have C962 : Ctx _ _ _ _ (CH.join (CH.join (CH.join F377 (CH.row g20 o21 [.slice A390 n392 c391, .slice A396 n398 c397])) p394) p400) [p730, p709, CH.row g685 0 ([.int .i64 r680.Size] ++ (r680.Root.map (Value.int .u8))), p116, p95, CH.row g71 0 ([.int .i64 r66.Size] ++ (r66.Root.map (Value.int .u8)))] := Ctx.freeze [p730, p709, CH.row g685 0 ([.int .i64 r680.Size] ++ (r680.Root.map (Value.int .u8)))] [p116, p95, CH.row g71 0 ([.int .i64 r66.Size] ++ (r66.Root.map (Value.int .u8)))] C959
                obtain ⟨⟨r964, r965⟩, hg963, hX892⟩ := bindE hX892
                refine WL.call (args := #[.pointer (some ⟨g20, o21, none⟩), .int .i64 x897]) (Yenter.fn Tryd.func42 (by kernel_rfl) rfl (argsE (.cons rfl (.cons rfl .nil)))) (ledger_Ledger_Leaf.calls k952 _ (CH.join (CH.join (CH.join F377 (CH.row g20 o21 [.slice A390 n392 c391, .slice A396 n398 c397])) p394) p400) g20 o21 A390 c391 n392 A396 c397 n398 x389 x897 (Ctx.pre (qs := []) (rest := [p730, p709, CH.row g685 0 ([.int .i64 r680.Size] ++ (r680.Root.map (Value.int .u8))), p116, p95, CH.row g71 0 ([.int .i64 r66.Size] ++ (r66.Root.map (Value.int .u8)))]) C962) hn393 (Row.len_le hR395).1 (Row.len_le hR395).2.1 (Sl.mono (Row.sl hR395) (CH.le_trans (CH.le_trans le954 le957) le960) (CH.le_trans lp958 le960)) hn399 (Row.len_le hR401).1 (Row.len_le hR401).2.1 (Sl.mono (Row.sl hR401) (CH.le_trans (CH.le_trans le954 le957) le960) lp961) (CH.le_trans (CH.le_trans lp955 le957) le960) r964 r965 hg963) ?_
                rintro e_ w_ ⟨A966, c967, n968, p970, rfl, C972, hn969, hR971⟩
                refine ⟨_, rfl, ?_⟩
                have hR973 : Row (Kd.int .u8) F377 p970 (.slice A966 n968 c967) r964 := hR971
                have C974 : Ctx _ _ _ _ F377 [p970, p730, p709, CH.row g685 0 ([.int .i64 r680.Size] ++ (r680.Root.map (Value.int .u8))), CH.row g20 o21 [.slice A390 n392 c391, .slice A396 n398 c397], p394, p400, p116, p95, CH.row g71 0 ([.int .i64 r66.Size] ++ (r66.Root.map (Value.int .u8)))] := Ctx.callL (qs := []) (rest := [p730, p709, CH.row g685 0 ([.int .i64 r680.Size] ++ (r680.Root.map (Value.int .u8))), CH.row g20 o21 [.slice A390 n392 c391, .slice A396 n398 c397], p394, p400, p116, p95, CH.row g71 0 ([.int .i64 r66.Size] ++ (r66.Root.map (Value.int .u8)))]) C898 (CH.le_trans (CH.le_trans le954 le957) le960) C972
                refine WL.val (Yl.move (v := .tuple #[(.slice A966 n968 c967), (.int .i64 r965)]) rfl) ?_
                refine WL.val (Yl.extract (v := .slice A966 n968 c967) rfl rfl) ?_
                refine WL.val (Yl.extract (v := .int .i64 r965) rfl rfl) ?_
                refine WL.val (Yl.assign (v := .slice A966 n968 c967) rfl) ?_
                refine WL.val (Yl.assign (v := .int .i64 r965) rfl) ?_
                refine WL.done ?_
                refine W.seq ?_
                refine W.region rfl ?_
                refine WL.val (Yl.move (v := .int .i64 r965) rfl) ?_
                refine WL.val (Yl.neq (m := r965) (n := 0) (q := !decide (r965 = 0)) rfl rfl rfl) ?_
                refine WL.val (Yl.move (v := .bool (!decide (r965 = 0))) rfl) ?_
                obtain ⟨g975, HE976, hX892⟩ := bindE hX892
                refine WL.cut (fun env_ w_ => env_ 164 = .bool g975 ∧ env_ 0 = .slice A1 n3 c2 ∧ env_ 9 = .pointer (some ⟨g20, o21, none⟩) ∧ env_ 24 = .int .i64 x897 ∧ Ctx w F D w_ F377 [p970, p730, p709, CH.row g685 0 ([.int .i64 r680.Size] ++ (r680.Root.map (Value.int .u8))), CH.row g20 o21 [.slice A390 n392 c391, .slice A396 n398 c397], p394, p400, p116, p95, CH.row g71 0 ([.int .i64 r66.Size] ++ (r66.Root.map (Value.int .u8)))]) ?_ ?_
                · skip
                  rcases iteE HE976 with ⟨hc977, HE976⟩ | ⟨hc977, HE976⟩
                  · skip
                    refine WL.on rfl (congrArg Value.bool (ndec_t hc977)) ?_
                    refine WL.val (Yl.move (v := .slice A966 n968 c967) rfl) ?_
                    refine WL.on rfl (congrArg Value.bool (ndec_t hc977)) ?_
                    refine WL.val (Yl.move (v := .slice A1 n3 c2) ho894) ?_
                    refine WL.on rfl (congrArg Value.bool (ndec_t hc977)) ?_
                    refine WL.val (Yl.move (v := .int .i64 x897) ho896) ?_
                    refine WL.on rfl (congrArg Value.bool (ndec_t hc977)) ?_
                    obtain ⟨hc978, HE976⟩ := guardE HE976
                    obtain ⟨b979, of980, hA981, he982⟩ := hS7 (by omega)
                    refine WL.val (Yl.elemAddr (i := x897) rfl rfl hA981 Tryd.underlying49 sz28 (by omega)) ?_
                    refine WL.on rfl (congrArg Value.bool (ndec_t hc977)) ?_
                    obtain ⟨cs983, hr984, hx985⟩ := he982 x897.toNat _ (getD_some (d := []) (by omega))
                    obtain ⟨A986, c987, rfl, hl990, hm991, hS992⟩ := hr984
                    refine WL.val (Yl.load (v := .slice A986 ((a0.getD x897.toNat []).length) c987) rfl Tryd.underlying28 rfl (((C974.fro.mono (CH.le_trans le19 le378))).cell (hx985 0 _ rfl))) ?_
                    refine WL.on rfl (congrArg Value.bool (ndec_t hc977)) ?_
                    have le993 : CH.le F377 (CH.join F377 p970) := CH.le_joinL _ _
                    have lp994 : CH.le p970 (CH.join F377 p970) := CH.le_joinR (Ctx.dis_of [] [p730, p709, CH.row g685 0 ([.int .i64 r680.Size] ++ (r680.Root.map (Value.int .u8))), CH.row g20 o21 [.slice A390 n392 c391, .slice A396 n398 c397], p394, p400, p116, p95, CH.row g71 0 ([.int .i64 r66.Size] ++ (r66.Root.map (Value.int .u8)))] C974)
                    have C995 : Ctx _ _ _ _ (CH.join F377 p970) [p730, p709, CH.row g685 0 ([.int .i64 r680.Size] ++ (r680.Root.map (Value.int .u8))), CH.row g20 o21 [.slice A390 n392 c391, .slice A396 n398 c397], p394, p400, p116, p95, CH.row g71 0 ([.int .i64 r66.Size] ++ (r66.Root.map (Value.int .u8)))] := Ctx.freeze [] [p730, p709, CH.row g685 0 ([.int .i64 r680.Size] ++ (r680.Root.map (Value.int .u8))), CH.row g20 o21 [.slice A390 n392 c391, .slice A396 n398 c397], p394, p400, p116, p95, CH.row g71 0 ([.int .i64 r66.Size] ++ (r66.Root.map (Value.int .u8)))] C974
                    obtain ⟨r997, hg996, HE976⟩ := bindE HE976
                    refine WL.call (args := #[.slice A966 n968 c967, .slice A986 ((a0.getD x897.toNat []).length) c987]) (Yenter.fn Tryd.func43 (by kernel_rfl) rfl (argsE (.cons rfl (.cons rfl .nil)))) (juratref01_Same.calls k952 _ (CH.join F377 p970) A966 c967 n968 r964 A986 c987 ((a0.getD x897.toNat []).length) (a0.getD x897.toNat []) C995.pre0 hn969 (Row.len_le hR973).1 (Row.len_le hR973).2.1 (Sl.mono (Row.sl hR973) le993 lp994) rfl hl990 hm991 (Sl.mono hS992 (CH.le_trans (CH.le_trans le19 le378) le993) (CH.le_trans (CH.le_trans le19 le378) le993)) r997 hg996) ?_
                    rintro e_ w_ ⟨rfl, ⟨m998, rfl⟩⟩
                    refine ⟨_, rfl, ?_⟩
                    have C999 := Ctx.drewN C974 m998
                    refine WL.on rfl (congrArg Value.bool (ndec_t hc977)) ?_
                    refine WL.val (Yl.not (p := r997) (q := !r997) rfl rfl) ?_
                    refine WL.val (Yl.pickF (v := .bool (!r997)) (congrArg Value.bool (ndec_t hc977)) rfl) ?_
                    cases HE976
                    exact WL.done ⟨rfl, ho894, ho895, ho896, C999⟩
                  · skip
                    refine WL.off rfl (congrArg Value.bool (ndec_f hc977)) ?_
                    refine WL.off rfl (congrArg Value.bool (ndec_f hc977)) ?_
                    refine WL.off rfl (congrArg Value.bool (ndec_f hc977)) ?_
                    refine WL.off rfl (congrArg Value.bool (ndec_f hc977)) ?_
                    refine WL.off rfl (congrArg Value.bool (ndec_f hc977)) ?_
                    refine WL.off rfl (congrArg Value.bool (ndec_f hc977)) ?_
                    refine WL.off rfl (congrArg Value.bool (ndec_f hc977)) ?_
                    refine WL.val (Yl.pickT (v := .bool true) (congrArg Value.bool (ndec_f hc977)) rfl) ?_
                    cases HE976
                    exact WL.done ⟨rfl, ho894, ho895, ho896, C974⟩
                · skip
                  rintro env_ w_ ⟨ho1000, ho1001, ho1002, ho1003, C1004⟩
                  rcases iteE hX892 with ⟨hc1005, hX892⟩ | ⟨hc1005, hX892⟩
                  · skip
                    refine W.condT (ho1000.trans (congrArg Value.bool hc1005)) ?_
                    refine W.seq ?_
                    refine W.region rfl ?_
                    refine WL.val (Yl.assign (v := .bool false) rfl) ?_
                    refine WL.done ?_
                    refine W.ret ?_
                    refine inB_r ?_
                    refine thenE_r ?_
                    refine thenE_r ?_
                    refine inB_r ?_
                    refine thenE_r ?_
                    refine thenE_r ?_
                    cases hX892
                    replace H := sumE_r H
                    have C1006 : Ctx _ _ _ _ F377 [p730, p709, CH.row g685 0 ([.int .i64 r680.Size] ++ (r680.Root.map (Value.int .u8))), CH.row g20 o21 [.slice A390 n392 c391, .slice A396 n398 c397], p394, p400, p116, p95, CH.row g71 0 ([.int .i64 r66.Size] ++ (r66.Root.map (Value.int .u8)))] := Ctx.drop [] [p730, p709, CH.row g685 0 ([.int .i64 r680.Size] ++ (r680.Root.map (Value.int .u8))), CH.row g20 o21 [.slice A390 n392 c391, .slice A396 n398 c397], p394, p400, p116, p95, CH.row g71 0 ([.int .i64 r66.Size] ++ (r66.Root.map (Value.int .u8)))] C1004
                    have C1007 : Ctx _ _ _ _ F377 [p709, CH.row g685 0 ([.int .i64 r680.Size] ++ (r680.Root.map (Value.int .u8))), CH.row g20 o21 [.slice A390 n392 c391, .slice A396 n398 c397], p394, p400, p116, p95, CH.row g71 0 ([.int .i64 r66.Size] ++ (r66.Root.map (Value.int .u8)))] := Ctx.drop [] [p709, CH.row g685 0 ([.int .i64 r680.Size] ++ (r680.Root.map (Value.int .u8))), CH.row g20 o21 [.slice A390 n392 c391, .slice A396 n398 c397], p394, p400, p116, p95, CH.row g71 0 ([.int .i64 r66.Size] ++ (r66.Root.map (Value.int .u8)))] C1006
                    have C1008 : Ctx _ _ _ _ F377 [CH.row g685 0 ([.int .i64 r680.Size] ++ (r680.Root.map (Value.int .u8))), CH.row g20 o21 [.slice A390 n392 c391, .slice A396 n398 c397], p394, p400, p116, p95, CH.row g71 0 ([.int .i64 r66.Size] ++ (r66.Root.map (Value.int .u8)))] := Ctx.drop [] [CH.row g685 0 ([.int .i64 r680.Size] ++ (r680.Root.map (Value.int .u8))), CH.row g20 o21 [.slice A390 n392 c391, .slice A396 n398 c397], p394, p400, p116, p95, CH.row g71 0 ([.int .i64 r66.Size] ++ (r66.Root.map (Value.int .u8)))] C1007
                    have C1009 : Ctx _ _ _ _ F377 [CH.row g20 o21 [.slice A390 n392 c391, .slice A396 n398 c397], p394, p400, p116, p95, CH.row g71 0 ([.int .i64 r66.Size] ++ (r66.Root.map (Value.int .u8)))] := Ctx.drop [] [CH.row g20 o21 [.slice A390 n392 c391, .slice A396 n398 c397], p394, p400, p116, p95, CH.row g71 0 ([.int .i64 r66.Size] ++ (r66.Root.map (Value.int .u8)))] C1008
                    have C1010 : Ctx _ _ _ _ F377 [p394, p400, p116, p95, CH.row g71 0 ([.int .i64 r66.Size] ++ (r66.Root.map (Value.int .u8)))] := Ctx.drop [] [p394, p400, p116, p95, CH.row g71 0 ([.int .i64 r66.Size] ++ (r66.Root.map (Value.int .u8)))] C1009
                    have C1011 : Ctx _ _ _ _ F377 [p400, p116, p95, CH.row g71 0 ([.int .i64 r66.Size] ++ (r66.Root.map (Value.int .u8)))] := Ctx.drop [] [p400, p116, p95, CH.row g71 0 ([.int .i64 r66.Size] ++ (r66.Root.map (Value.int .u8)))] C1010
                    have C1012 : Ctx _ _ _ _ F377 [p116, p95, CH.row g71 0 ([.int .i64 r66.Size] ++ (r66.Root.map (Value.int .u8)))] := Ctx.drop [] [p116, p95, CH.row g71 0 ([.int .i64 r66.Size] ++ (r66.Root.map (Value.int .u8)))] C1011
                    have C1013 : Ctx _ _ _ _ F377 [p95, CH.row g71 0 ([.int .i64 r66.Size] ++ (r66.Root.map (Value.int .u8)))] := Ctx.drop [] [p95, CH.row g71 0 ([.int .i64 r66.Size] ++ (r66.Root.map (Value.int .u8)))] C1012
                    have C1014 : Ctx _ _ _ _ F377 [CH.row g71 0 ([.int .i64 r66.Size] ++ (r66.Root.map (Value.int .u8)))] := Ctx.drop [] [CH.row g71 0 ([.int .i64 r66.Size] ++ (r66.Root.map (Value.int .u8)))] C1013
                    have C1015 : Ctx _ _ _ _ F377 [] := Ctx.drop [] [] C1014
                    have e1016 := Option.some.inj H
                    subst e1016
                    exact post_r (resE1 rfl rfl) ⟨rfl, (Ctx.weak C1015 (CH.le_refl _))⟩
                  · skip
                    refine W.condF (ho1000.trans (congrArg Value.bool (Bool.eq_false_iff.2 hc1005))) ?_
                    refine W.skip ?_
                    refine inB_n ?_
                    refine W.region rfl ?_
                    refine WL.val (Yl.move (v := .int .i64 x897) ho1003) ?_
                    refine WL.val (Yl.add (m := x897) (n := 1) (r := wi64 (x897 + 1)) rfl rfl rfl) ?_
                    refine WL.val (Yl.assign (v := .int .i64 (wi64 (x897 + 1))) rfl) ?_
                    refine WL.done ?_
                    have C1017 : Ctx _ _ _ _ F377 [p730, p709, CH.row g685 0 ([.int .i64 r680.Size] ++ (r680.Root.map (Value.int .u8))), CH.row g20 o21 [.slice A390 n392 c391, .slice A396 n398 c397], p394, p400, p116, p95, CH.row g71 0 ([.int .i64 r66.Size] ++ (r66.Root.map (Value.int .u8)))] := Ctx.drop [] [p730, p709, CH.row g685 0 ([.int .i64 r680.Size] ++ (r680.Root.map (Value.int .u8))), CH.row g20 o21 [.slice A390 n392 c391, .slice A396 n398 c397], p394, p400, p116, p95, CH.row g71 0 ([.int .i64 r66.Size] ++ (r66.Root.map (Value.int .u8)))] C1004
                    exact thenE_n ⟨k952, Nat.lt_succ_self _, wi64 (x897 + 1), ho1001, ho1002, rfl, C1017, hX892⟩
              · skip
                refine W.condF (congrArg Value.bool (decide_eq_false hc953)) ?_
                refine W.exit ?_
                refine thenE_x ?_
                refine thenE_x ?_
                refine inB_here ?_
                cases hX892
                refine thenE_n ?_
                exact ⟨C898, rfl⟩
            · skip
              rintro env_ w_ ⟨C891, rfl⟩
              replace H := sumE_l H
              refine W.seq ?_
              refine W.region rfl ?_
              obtain ⟨r1019, hg1018, H⟩ := bindE H
              refine WL.call (args := #[]) (Yenter.fn Tryd.func17 (by kernel_rfl) rfl (argsE .nil)) (juratlaw09_awake.calls k _ F377  (Ctx.pre (qs := []) (rest := [p730, p709, CH.row g685 0 ([.int .i64 r680.Size] ++ (r680.Root.map (Value.int .u8))), CH.row g20 o21 [.slice A390 n392 c391, .slice A396 n398 c397], p394, p400, p116, p95, CH.row g71 0 ([.int .i64 r66.Size] ++ (r66.Root.map (Value.int .u8)))]) C891) (CH.le_trans hG1 (CH.le_trans (CH.le_trans le19 le378) (CH.le_refl _))) (CH.le_trans hG3 (CH.le_trans (CH.le_trans le19 le378) (CH.le_refl _))) r1019 hg1018) ?_
              rintro e_ w_ ⟨rfl, C1020⟩
              refine ⟨_, rfl, ?_⟩
              have C1021 : Ctx _ _ _ _ F377 [p730, p709, CH.row g685 0 ([.int .i64 r680.Size] ++ (r680.Root.map (Value.int .u8))), CH.row g20 o21 [.slice A390 n392 c391, .slice A396 n398 c397], p394, p400, p116, p95, CH.row g71 0 ([.int .i64 r66.Size] ++ (r66.Root.map (Value.int .u8)))] := Ctx.call (qs := []) (rest := [p730, p709, CH.row g685 0 ([.int .i64 r680.Size] ++ (r680.Root.map (Value.int .u8))), CH.row g20 o21 [.slice A390 n392 c391, .slice A396 n398 c397], p394, p400, p116, p95, CH.row g71 0 ([.int .i64 r66.Size] ++ (r66.Root.map (Value.int .u8)))]) C891 C1020
              refine WL.val (Yl.assign (v := .bool r1019) rfl) ?_
              refine WL.done ?_
              refine W.ret ?_
              have C1022 : Ctx _ _ _ _ F377 [p709, CH.row g685 0 ([.int .i64 r680.Size] ++ (r680.Root.map (Value.int .u8))), CH.row g20 o21 [.slice A390 n392 c391, .slice A396 n398 c397], p394, p400, p116, p95, CH.row g71 0 ([.int .i64 r66.Size] ++ (r66.Root.map (Value.int .u8)))] := Ctx.drop [] [p709, CH.row g685 0 ([.int .i64 r680.Size] ++ (r680.Root.map (Value.int .u8))), CH.row g20 o21 [.slice A390 n392 c391, .slice A396 n398 c397], p394, p400, p116, p95, CH.row g71 0 ([.int .i64 r66.Size] ++ (r66.Root.map (Value.int .u8)))] C1021
              have C1023 : Ctx _ _ _ _ F377 [CH.row g685 0 ([.int .i64 r680.Size] ++ (r680.Root.map (Value.int .u8))), CH.row g20 o21 [.slice A390 n392 c391, .slice A396 n398 c397], p394, p400, p116, p95, CH.row g71 0 ([.int .i64 r66.Size] ++ (r66.Root.map (Value.int .u8)))] := Ctx.drop [] [CH.row g685 0 ([.int .i64 r680.Size] ++ (r680.Root.map (Value.int .u8))), CH.row g20 o21 [.slice A390 n392 c391, .slice A396 n398 c397], p394, p400, p116, p95, CH.row g71 0 ([.int .i64 r66.Size] ++ (r66.Root.map (Value.int .u8)))] C1022
              have C1024 : Ctx _ _ _ _ F377 [CH.row g20 o21 [.slice A390 n392 c391, .slice A396 n398 c397], p394, p400, p116, p95, CH.row g71 0 ([.int .i64 r66.Size] ++ (r66.Root.map (Value.int .u8)))] := Ctx.drop [] [CH.row g20 o21 [.slice A390 n392 c391, .slice A396 n398 c397], p394, p400, p116, p95, CH.row g71 0 ([.int .i64 r66.Size] ++ (r66.Root.map (Value.int .u8)))] C1023
              have C1025 : Ctx _ _ _ _ F377 [p394, p400, p116, p95, CH.row g71 0 ([.int .i64 r66.Size] ++ (r66.Root.map (Value.int .u8)))] := Ctx.drop [] [p394, p400, p116, p95, CH.row g71 0 ([.int .i64 r66.Size] ++ (r66.Root.map (Value.int .u8)))] C1024
              have C1026 : Ctx _ _ _ _ F377 [p400, p116, p95, CH.row g71 0 ([.int .i64 r66.Size] ++ (r66.Root.map (Value.int .u8)))] := Ctx.drop [] [p400, p116, p95, CH.row g71 0 ([.int .i64 r66.Size] ++ (r66.Root.map (Value.int .u8)))] C1025
              have C1027 : Ctx _ _ _ _ F377 [p116, p95, CH.row g71 0 ([.int .i64 r66.Size] ++ (r66.Root.map (Value.int .u8)))] := Ctx.drop [] [p116, p95, CH.row g71 0 ([.int .i64 r66.Size] ++ (r66.Root.map (Value.int .u8)))] C1026
              have C1028 : Ctx _ _ _ _ F377 [p95, CH.row g71 0 ([.int .i64 r66.Size] ++ (r66.Root.map (Value.int .u8)))] := Ctx.drop [] [p95, CH.row g71 0 ([.int .i64 r66.Size] ++ (r66.Root.map (Value.int .u8)))] C1027
              have C1029 : Ctx _ _ _ _ F377 [CH.row g71 0 ([.int .i64 r66.Size] ++ (r66.Root.map (Value.int .u8)))] := Ctx.drop [] [CH.row g71 0 ([.int .i64 r66.Size] ++ (r66.Root.map (Value.int .u8)))] C1028
              have C1030 : Ctx _ _ _ _ F377 [] := Ctx.drop [] [] C1029
              have e1031 := Option.some.inj H
              subst e1031
              exact post_r (resE1 rfl rfl) ⟨rfl, (Ctx.weak C1030 (CH.le_refl _))⟩
end Go.Proofs.YthdlfclkcdnenaaDoor
