/- Functions of the program: each as a plain function of numbers and lists, and the proof that the program's own comes to it. Nothing is assumed but what each theorem says. -/
import Derived.Test.YthdlfclkcdnenaaDoorGh
namespace Go.Proofs.YthdlfclkcdnenaaDoor
open Go.RowKit Go.WG
set_option linter.unusedVariables false
set_option linter.unusedSimpArgs false

/-! ### jurat/juratlaw09.LedgerConsists: function 16 -/
def juratlaw09_LedgerConsists.f (k : Nat) (a0 : List (List Int)) (a1 : Int) (a2 : Int) : Option Bool := (juratlaw09_made.f k a0).bind fun ⟨r9, r10⟩ => if r10 = true then (if (wu64 (wi64 ((a0.length : Int) + 1))) ≠ 0 then (if (wu64 (wi64 ((wi64 ((wu64 a2).tmod (wu64 (wi64 ((a0.length : Int) + 1))))) + 1))) ≠ 0 then ((ledger_Ledger_Head.f k r9 (wi64 ((wu64 a1).tmod (wu64 (wi64 ((wi64 ((wu64 a2).tmod (wu64 (wi64 ((a0.length : Int) + 1))))) + 1)))))).bind fun ⟨r42, r43⟩ => (ledger_Ledger_Head.f k r9 (wi64 ((wu64 a2).tmod (wu64 (wi64 ((a0.length : Int) + 1)))))).bind fun ⟨r65, r66⟩ => (ledger_Ledger_Consist.f k r9 (wi64 ((wu64 a1).tmod (wu64 (wi64 ((wi64 ((wu64 a2).tmod (wu64 (wi64 ((a0.length : Int) + 1))))) + 1))))) (wi64 ((wu64 a2).tmod (wu64 (wi64 ((a0.length : Int) + 1)))))).bind fun ⟨r88, r89⟩ => (if r43 = 0 then (if r66 = 0 then (if r89 = 0 then ((proof_Consistent.f k (wi64 ((wu64 a1).tmod (wu64 (wi64 ((wi64 ((wu64 a2).tmod (wu64 (wi64 ((a0.length : Int) + 1))))) + 1))))) (wi64 ((wu64 a2).tmod (wu64 (wi64 ((a0.length : Int) + 1))))) r88 r42.Root r65.Root).bind fun r125 => if r125 = true then ((juratlaw09_awake.f k ).bind fun r130 => some r130) else (some false)) else (some false)) else (some false)) else (some false)).bind fun x115 => some x115) else none) else none) else ((juratlaw09_awake.f k ).bind fun r141 => some r141)
set_option maxRecDepth 100000 in
set_option maxHeartbeats 4000000 in
theorem juratlaw09_LedgerConsists.calls (k : Nat) (w : World) (F : CH) (A1 : Option Addr) (c2 : Nat) (n3 : Nat) (a0 : List (List Int)) (a1 : Int) (a2 : Int) (hp : Pre w F []) (hn4 : n3 = a0.length) (hl5 : a0.length ≤ c2) (hm6 : c2 ≤ maxLen) (hS7 : Sl (Kd.slice (Kd.int .u8)) F F A1 a0) (hG1 : CH.le (CH.row 1 0 (glob1.map (Value.int .u32))) F) (hG3 : CH.le (CH.row 3 0 (glob3.map (Value.int .u32))) F) (r0_ : Bool) (H : juratlaw09_LedgerConsists.f k a0 a1 a2 = some r0_) :
    Calls Tryd.prog 16 #[.slice A1 n3 c2, .int .i64 a1, .int .i64 a2] w fun e w' => e = .returned (.bool r0_) ∧ Ctx w F (domL []) w' F [] := by
  have C := Ctx.start hp
  generalize hD : domL [] = D at C ⊢
  unfold juratlaw09_LedgerConsists.f at H
  refine Calls.ofW Tryd.func16 rfl (by simp [Tryd.ntmps16]) ?_
  refine W.seq ?_
  refine W.region rfl ?_
  refine WL.val (Yl.assign (v := .bool false) rfl) ?_
  refine WL.done ?_
  refine W.seq ?_
  refine W.region rfl ?_
  refine WL.val (Yl.move (v := .slice A1 n3 c2) rfl) ?_
  obtain ⟨⟨r9, r10⟩, hg8, H⟩ := bindE H
  refine WL.call (args := #[.slice A1 n3 c2]) (Yenter.fn Tryd.func38 (by kernel_rfl) rfl (argsE (.cons rfl .nil))) (juratlaw09_made.calls k _ F A1 c2 n3 a0 (Ctx.pre (qs := []) (rest := []) C) hn4 hl5 hm6 hS7 (CH.le_trans hG1 (CH.le_trans (CH.le_refl _) (CH.le_refl _))) (CH.le_trans hG3 (CH.le_trans (CH.le_refl _) (CH.le_refl _))) r9 r10 hg8) ?_
  rintro e_ w_ ⟨F11, g13, o14, A15, c16, n17, p19, A21, c22, n23, p25, rfl, le12, C27, hn18, hR20, hn24, hR26⟩
  refine ⟨_, rfl, ?_⟩
  have C28 : Ctx _ _ _ _ F11 [CH.row g13 o14 [.slice A15 n17 c16, .slice A21 n23 c22], p19, p25] := Ctx.call (qs := []) (rest := []) C C27
  refine WL.val (Yl.move (v := .tuple #[(.pointer (some ⟨g13, o14, none⟩)), (.bool r10)]) rfl) ?_
  refine WL.val (Yl.extract (v := .pointer (some ⟨g13, o14, none⟩)) rfl rfl) ?_
  refine WL.val (Yl.extract (v := .bool r10) rfl rfl) ?_
  refine WL.val (Yl.assign (v := .pointer (some ⟨g13, o14, none⟩)) rfl) ?_
  refine WL.val (Yl.assign (v := .bool r10) rfl) ?_
  refine WL.done ?_
  refine W.seq ?_
  refine W.seq ?_
  refine W.region rfl ?_
  refine WL.val (Yl.move (v := .bool r10) rfl) ?_
  refine WL.val (Yl.not (p := r10) (q := !r10) rfl rfl) ?_
  refine WL.done ?_
  rcases iteE H with ⟨hc29, H⟩ | ⟨hc29, H⟩
  · skip
    refine W.condF (congrArg Value.bool (nb_t hc29)) ?_
    refine W.skip ?_
    refine W.seq ?_
    refine W.region rfl ?_
    refine WL.val (Yl.move (v := .int .i64 a2) rfl) ?_
    refine WL.val (Yl.conv (m := a2) (r := wu64 a2) rfl Tryd.underlying3 Tryd.underlying46 rfl) ?_
    refine WL.val (Yl.move (v := .slice A1 n3 c2) rfl) ?_
    refine WL.val (Yl.lenN (A := A1) (l := n3) (q := c2) (n := (a0.length : Int)) rfl Tryd.underlying49 (by omega)) ?_
    refine WL.val (Yl.add (m := (a0.length : Int)) (n := 1) (r := wi64 ((a0.length : Int) + 1)) rfl rfl rfl) ?_
    refine WL.val (Yl.conv (m := wi64 ((a0.length : Int) + 1)) (r := wu64 (wi64 ((a0.length : Int) + 1))) rfl Tryd.underlying3 Tryd.underlying46 rfl) ?_
    obtain ⟨hc30, H⟩ := guardE H
    refine WL.val (Yl.rem (m := wu64 a2) (n := wu64 (wi64 ((a0.length : Int) + 1))) (r := (wu64 a2).tmod (wu64 (wi64 ((a0.length : Int) + 1)))) rfl rfl hc30 rfl) ?_
    refine WL.val (Yl.conv (m := (wu64 a2).tmod (wu64 (wi64 ((a0.length : Int) + 1)))) (r := wi64 ((wu64 a2).tmod (wu64 (wi64 ((a0.length : Int) + 1))))) rfl Tryd.underlying46 Tryd.underlying3 rfl) ?_
    refine WL.val (Yl.assign (v := .int .i64 (wi64 ((wu64 a2).tmod (wu64 (wi64 ((a0.length : Int) + 1)))))) rfl) ?_
    refine WL.done ?_
    refine W.seq ?_
    refine W.region rfl ?_
    refine WL.val (Yl.move (v := .int .i64 a1) rfl) ?_
    refine WL.val (Yl.conv (m := a1) (r := wu64 a1) rfl Tryd.underlying3 Tryd.underlying46 rfl) ?_
    refine WL.val (Yl.move (v := .int .i64 (wi64 ((wu64 a2).tmod (wu64 (wi64 ((a0.length : Int) + 1)))))) rfl) ?_
    refine WL.val (Yl.add (m := wi64 ((wu64 a2).tmod (wu64 (wi64 ((a0.length : Int) + 1))))) (n := 1) (r := wi64 ((wi64 ((wu64 a2).tmod (wu64 (wi64 ((a0.length : Int) + 1))))) + 1)) rfl rfl rfl) ?_
    refine WL.val (Yl.conv (m := wi64 ((wi64 ((wu64 a2).tmod (wu64 (wi64 ((a0.length : Int) + 1))))) + 1)) (r := wu64 (wi64 ((wi64 ((wu64 a2).tmod (wu64 (wi64 ((a0.length : Int) + 1))))) + 1))) rfl Tryd.underlying3 Tryd.underlying46 rfl) ?_
    obtain ⟨hc31, H⟩ := guardE H
    refine WL.val (Yl.rem (m := wu64 a1) (n := wu64 (wi64 ((wi64 ((wu64 a2).tmod (wu64 (wi64 ((a0.length : Int) + 1))))) + 1))) (r := (wu64 a1).tmod (wu64 (wi64 ((wi64 ((wu64 a2).tmod (wu64 (wi64 ((a0.length : Int) + 1))))) + 1)))) rfl rfl hc31 rfl) ?_
    refine WL.val (Yl.conv (m := (wu64 a1).tmod (wu64 (wi64 ((wi64 ((wu64 a2).tmod (wu64 (wi64 ((a0.length : Int) + 1))))) + 1)))) (r := wi64 ((wu64 a1).tmod (wu64 (wi64 ((wi64 ((wu64 a2).tmod (wu64 (wi64 ((a0.length : Int) + 1))))) + 1))))) rfl Tryd.underlying46 Tryd.underlying3 rfl) ?_
    refine WL.val (Yl.assign (v := .int .i64 (wi64 ((wu64 a1).tmod (wu64 (wi64 ((wi64 ((wu64 a2).tmod (wu64 (wi64 ((a0.length : Int) + 1))))) + 1)))))) rfl) ?_
    refine WL.done ?_
    refine W.seq ?_
    refine W.region rfl ?_
    refine WL.val (Yl.move (v := .pointer (some ⟨g13, o14, none⟩)) rfl) ?_
    refine WL.val (Yl.move (v := .int .i64 (wi64 ((wu64 a1).tmod (wu64 (wi64 ((wi64 ((wu64 a2).tmod (wu64 (wi64 ((a0.length : Int) + 1))))) + 1)))))) rfl) ?_
    have le32 : CH.le F11 (CH.join F11 (CH.row g13 o14 [.slice A15 n17 c16, .slice A21 n23 c22])) := CH.le_joinL _ _
    have lp33 : CH.le (CH.row g13 o14 [.slice A15 n17 c16, .slice A21 n23 c22]) (CH.join F11 (CH.row g13 o14 [.slice A15 n17 c16, .slice A21 n23 c22])) := CH.le_joinR (Ctx.dis_of [] [p19, p25] C28)
    have C34 : Ctx _ _ _ _ (CH.join F11 (CH.row g13 o14 [.slice A15 n17 c16, .slice A21 n23 c22])) [p19, p25] := Ctx.freeze [] [p19, p25] C28
    have le35 : CH.le (CH.join F11 (CH.row g13 o14 [.slice A15 n17 c16, .slice A21 n23 c22])) (CH.join (CH.join F11 (CH.row g13 o14 [.slice A15 n17 c16, .slice A21 n23 c22])) p19) := CH.le_joinL _ _
    have lp36 : CH.le p19 (CH.join (CH.join F11 (CH.row g13 o14 [.slice A15 n17 c16, .slice A21 n23 c22])) p19) := CH.le_joinR (Ctx.dis_of [] [p25] C34)
    have C37 : Ctx _ _ _ _ (CH.join (CH.join F11 (CH.row g13 o14 [.slice A15 n17 c16, .slice A21 n23 c22])) p19) [p25] := Ctx.freeze [] [p25] C34
    have le38 : CH.le (CH.join (CH.join F11 (CH.row g13 o14 [.slice A15 n17 c16, .slice A21 n23 c22])) p19) (CH.join (CH.join (CH.join F11 (CH.row g13 o14 [.slice A15 n17 c16, .slice A21 n23 c22])) p19) p25) := CH.le_joinL _ _
    have lp39 : CH.le p25 (CH.join (CH.join (CH.join F11 (CH.row g13 o14 [.slice A15 n17 c16, .slice A21 n23 c22])) p19) p25) := CH.le_joinR (Ctx.dis_of [] [] C37)
    have C40 : Ctx _ _ _ _ (CH.join (CH.join (CH.join F11 (CH.row g13 o14 [.slice A15 n17 c16, .slice A21 n23 c22])) p19) p25) [] := Ctx.freeze [] [] C37
    obtain ⟨⟨r42, r43⟩, hg41, H⟩ := bindE H
    refine WL.call (args := #[.pointer (some ⟨g13, o14, none⟩), .int .i64 (wi64 ((wu64 a1).tmod (wu64 (wi64 ((wi64 ((wu64 a2).tmod (wu64 (wi64 ((a0.length : Int) + 1))))) + 1)))))]) (Yenter.fn Tryd.func39 (by kernel_rfl) rfl (argsE (.cons rfl (.cons rfl .nil)))) (ledger_Ledger_Head.calls k _ (CH.join (CH.join (CH.join F11 (CH.row g13 o14 [.slice A15 n17 c16, .slice A21 n23 c22])) p19) p25) g13 o14 A15 c16 n17 A21 c22 n23 r9 (wi64 ((wu64 a1).tmod (wu64 (wi64 ((wi64 ((wu64 a2).tmod (wu64 (wi64 ((a0.length : Int) + 1))))) + 1))))) (Ctx.pre (qs := []) (rest := []) C40) hn18 (Row.len_le hR20).1 (Row.len_le hR20).2.1 (Sl.mono (Row.sl hR20) (CH.le_trans (CH.le_trans le32 le35) le38) (CH.le_trans lp36 le38)) hn24 (Row.len_le hR26).1 (Row.len_le hR26).2.1 (Sl.mono (Row.sl hR26) (CH.le_trans (CH.le_trans le32 le35) le38) lp39) (CH.le_trans (CH.le_trans lp33 le35) le38) (CH.le_trans hG1 (CH.le_trans le12 (CH.le_trans (CH.le_trans le32 le35) le38))) (CH.le_trans hG3 (CH.le_trans le12 (CH.le_trans (CH.le_trans le32 le35) le38))) r42 r43 hg41) ?_
    rintro e_ w_ ⟨rfl, C45, ha44⟩
    refine ⟨_, rfl, ?_⟩
    have C46 : Ctx _ _ _ _ F11 [CH.row g13 o14 [.slice A15 n17 c16, .slice A21 n23 c22], p19, p25] := Ctx.callL (qs := []) (rest := [CH.row g13 o14 [.slice A15 n17 c16, .slice A21 n23 c22], p19, p25]) C28 (CH.le_trans (CH.le_trans le32 le35) le38) C45
    refine WL.val (Yl.move (v := .tuple #[(.agg (List.toArray ([.int .i64 r42.Size] ++ (r42.Root.map (Value.int .u8))))), (.int .i64 r43)]) rfl) ?_
    refine WL.val (Yl.extract (v := .agg (List.toArray ([.int .i64 r42.Size] ++ (r42.Root.map (Value.int .u8))))) rfl rfl) ?_
    refine WL.val (Yl.extract (v := .int .i64 r43) rfl rfl) ?_
    obtain ⟨g47, w48, hy49, C50⟩ := ev_alloc (P := Tryd.prog) (e := 53) ([.int .i64 0] ++ ((List.replicate 32 (0 : Int)).map (Value.int .u8))) C46 zr53 rfl
    refine WL.val (hy49 _ _) ?_
    obtain ⟨w51, hy52, C53⟩ := ev_set (P := Tryd.prog) (ps1 := []) (ps2 := [CH.row g13 o14 [.slice A15 n17 c16, .slice A21 n23 c22], p19, p25]) (t := 53) (o := 0) ([.int .i64 0] ++ ((List.replicate 32 (0 : Int)).map (Value.int .u8))) [] ([.int .i64 0] ++ ((List.replicate 32 (0 : Int)).map (Value.int .u8))) [] ([.int .i64 r42.Size] ++ (r42.Root.map (Value.int .u8))) (.agg (List.toArray ([.int .i64 r42.Size] ++ (r42.Root.map (Value.int .u8))))) C50 (by first | (simp only [List.length_append, List.length_map, List.length_cons, List.length_nil, (List.length_replicate ..), ha44]; done) | simp [(List.length_replicate ..), ha44]) (by first | (simp only [List.length_append, List.length_map, List.length_cons, List.length_nil, (List.length_replicate ..), ha44]; done) | simp [(List.length_replicate ..), ha44]) (by first | (simp only [List.length_append, List.length_map, List.length_cons, List.length_nil, (List.length_replicate ..), ha44]; done) | simp [(List.length_replicate ..), ha44]) rfl (ones_append (by simp [Value.oneCell']) (one_ints _ _)) (sz_of sz53 (by first | (simp only [List.length_append, List.length_map, List.length_cons, List.length_nil, ha44]; done) | simp [ha44]))
    have C54 : Ctx _ _ _ _ F11 [CH.row g47 0 ([.int .i64 r42.Size] ++ (r42.Root.map (Value.int .u8))), CH.row g13 o14 [.slice A15 n17 c16, .slice A21 n23 c22], p19, p25] := (by simpa using C53)
    refine WL.skip (hy52 _ _ _ _ rfl rfl) ?_
    refine WL.val (Yl.assign (v := .int .i64 r43) rfl) ?_
    refine WL.done ?_
    refine W.seq ?_
    refine W.region rfl ?_
    refine WL.val (Yl.move (v := .pointer (some ⟨g13, o14, none⟩)) rfl) ?_
    refine WL.val (Yl.move (v := .int .i64 (wi64 ((wu64 a2).tmod (wu64 (wi64 ((a0.length : Int) + 1)))))) rfl) ?_
    have le55 : CH.le F11 (CH.join F11 (CH.row g13 o14 [.slice A15 n17 c16, .slice A21 n23 c22])) := CH.le_joinL _ _
    have lp56 : CH.le (CH.row g13 o14 [.slice A15 n17 c16, .slice A21 n23 c22]) (CH.join F11 (CH.row g13 o14 [.slice A15 n17 c16, .slice A21 n23 c22])) := CH.le_joinR (Ctx.dis_of [CH.row g47 0 ([.int .i64 r42.Size] ++ (r42.Root.map (Value.int .u8)))] [p19, p25] C54)
    have C57 : Ctx _ _ _ _ (CH.join F11 (CH.row g13 o14 [.slice A15 n17 c16, .slice A21 n23 c22])) [CH.row g47 0 ([.int .i64 r42.Size] ++ (r42.Root.map (Value.int .u8))), p19, p25] := Ctx.freeze [CH.row g47 0 ([.int .i64 r42.Size] ++ (r42.Root.map (Value.int .u8)))] [p19, p25] C54
    have le58 : CH.le (CH.join F11 (CH.row g13 o14 [.slice A15 n17 c16, .slice A21 n23 c22])) (CH.join (CH.join F11 (CH.row g13 o14 [.slice A15 n17 c16, .slice A21 n23 c22])) p19) := CH.le_joinL _ _
    have lp59 : CH.le p19 (CH.join (CH.join F11 (CH.row g13 o14 [.slice A15 n17 c16, .slice A21 n23 c22])) p19) := CH.le_joinR (Ctx.dis_of [CH.row g47 0 ([.int .i64 r42.Size] ++ (r42.Root.map (Value.int .u8)))] [p25] C57)
    have C60 : Ctx _ _ _ _ (CH.join (CH.join F11 (CH.row g13 o14 [.slice A15 n17 c16, .slice A21 n23 c22])) p19) [CH.row g47 0 ([.int .i64 r42.Size] ++ (r42.Root.map (Value.int .u8))), p25] := Ctx.freeze [CH.row g47 0 ([.int .i64 r42.Size] ++ (r42.Root.map (Value.int .u8)))] [p25] C57
    have le61 : CH.le (CH.join (CH.join F11 (CH.row g13 o14 [.slice A15 n17 c16, .slice A21 n23 c22])) p19) (CH.join (CH.join (CH.join F11 (CH.row g13 o14 [.slice A15 n17 c16, .slice A21 n23 c22])) p19) p25) := CH.le_joinL _ _
    have lp62 : CH.le p25 (CH.join (CH.join (CH.join F11 (CH.row g13 o14 [.slice A15 n17 c16, .slice A21 n23 c22])) p19) p25) := CH.le_joinR (Ctx.dis_of [CH.row g47 0 ([.int .i64 r42.Size] ++ (r42.Root.map (Value.int .u8)))] [] C60)
    have C63 : Ctx _ _ _ _ (CH.join (CH.join (CH.join F11 (CH.row g13 o14 [.slice A15 n17 c16, .slice A21 n23 c22])) p19) p25) [CH.row g47 0 ([.int .i64 r42.Size] ++ (r42.Root.map (Value.int .u8)))] := Ctx.freeze [CH.row g47 0 ([.int .i64 r42.Size] ++ (r42.Root.map (Value.int .u8)))] [] C60
    obtain ⟨⟨r65, r66⟩, hg64, H⟩ := bindE H
    refine WL.call (args := #[.pointer (some ⟨g13, o14, none⟩), .int .i64 (wi64 ((wu64 a2).tmod (wu64 (wi64 ((a0.length : Int) + 1)))))]) (Yenter.fn Tryd.func39 (by kernel_rfl) rfl (argsE (.cons rfl (.cons rfl .nil)))) (ledger_Ledger_Head.calls k _ (CH.join (CH.join (CH.join F11 (CH.row g13 o14 [.slice A15 n17 c16, .slice A21 n23 c22])) p19) p25) g13 o14 A15 c16 n17 A21 c22 n23 r9 (wi64 ((wu64 a2).tmod (wu64 (wi64 ((a0.length : Int) + 1))))) (Ctx.pre (qs := []) (rest := [CH.row g47 0 ([.int .i64 r42.Size] ++ (r42.Root.map (Value.int .u8)))]) C63) hn18 (Row.len_le hR20).1 (Row.len_le hR20).2.1 (Sl.mono (Row.sl hR20) (CH.le_trans (CH.le_trans le55 le58) le61) (CH.le_trans lp59 le61)) hn24 (Row.len_le hR26).1 (Row.len_le hR26).2.1 (Sl.mono (Row.sl hR26) (CH.le_trans (CH.le_trans le55 le58) le61) lp62) (CH.le_trans (CH.le_trans lp56 le58) le61) (CH.le_trans hG1 (CH.le_trans le12 (CH.le_trans (CH.le_trans le55 le58) le61))) (CH.le_trans hG3 (CH.le_trans le12 (CH.le_trans (CH.le_trans le55 le58) le61))) r65 r66 hg64) ?_
    rintro e_ w_ ⟨rfl, C68, ha67⟩
    refine ⟨_, rfl, ?_⟩
    have C69 : Ctx _ _ _ _ F11 [CH.row g47 0 ([.int .i64 r42.Size] ++ (r42.Root.map (Value.int .u8))), CH.row g13 o14 [.slice A15 n17 c16, .slice A21 n23 c22], p19, p25] := Ctx.callL (qs := []) (rest := [CH.row g47 0 ([.int .i64 r42.Size] ++ (r42.Root.map (Value.int .u8))), CH.row g13 o14 [.slice A15 n17 c16, .slice A21 n23 c22], p19, p25]) C54 (CH.le_trans (CH.le_trans le55 le58) le61) C68
    refine WL.val (Yl.move (v := .tuple #[(.agg (List.toArray ([.int .i64 r65.Size] ++ (r65.Root.map (Value.int .u8))))), (.int .i64 r66)]) rfl) ?_
    refine WL.val (Yl.extract (v := .agg (List.toArray ([.int .i64 r65.Size] ++ (r65.Root.map (Value.int .u8))))) rfl rfl) ?_
    refine WL.val (Yl.extract (v := .int .i64 r66) rfl rfl) ?_
    obtain ⟨g70, w71, hy72, C73⟩ := ev_alloc (P := Tryd.prog) (e := 53) ([.int .i64 0] ++ ((List.replicate 32 (0 : Int)).map (Value.int .u8))) C69 zr53 rfl
    refine WL.val (hy72 _ _) ?_
    obtain ⟨w74, hy75, C76⟩ := ev_set (P := Tryd.prog) (ps1 := []) (ps2 := [CH.row g47 0 ([.int .i64 r42.Size] ++ (r42.Root.map (Value.int .u8))), CH.row g13 o14 [.slice A15 n17 c16, .slice A21 n23 c22], p19, p25]) (t := 53) (o := 0) ([.int .i64 0] ++ ((List.replicate 32 (0 : Int)).map (Value.int .u8))) [] ([.int .i64 0] ++ ((List.replicate 32 (0 : Int)).map (Value.int .u8))) [] ([.int .i64 r65.Size] ++ (r65.Root.map (Value.int .u8))) (.agg (List.toArray ([.int .i64 r65.Size] ++ (r65.Root.map (Value.int .u8))))) C73 (by first | (simp only [List.length_append, List.length_map, List.length_cons, List.length_nil, (List.length_replicate ..), ha67]; done) | simp [(List.length_replicate ..), ha67]) (by first | (simp only [List.length_append, List.length_map, List.length_cons, List.length_nil, (List.length_replicate ..), ha67]; done) | simp [(List.length_replicate ..), ha67]) (by first | (simp only [List.length_append, List.length_map, List.length_cons, List.length_nil, (List.length_replicate ..), ha67]; done) | simp [(List.length_replicate ..), ha67]) rfl (ones_append (by simp [Value.oneCell']) (one_ints _ _)) (sz_of sz53 (by first | (simp only [List.length_append, List.length_map, List.length_cons, List.length_nil, ha67]; done) | simp [ha67]))
    have C77 : Ctx _ _ _ _ F11 [CH.row g70 0 ([.int .i64 r65.Size] ++ (r65.Root.map (Value.int .u8))), CH.row g47 0 ([.int .i64 r42.Size] ++ (r42.Root.map (Value.int .u8))), CH.row g13 o14 [.slice A15 n17 c16, .slice A21 n23 c22], p19, p25] := (by simpa using C76)
    refine WL.skip (hy75 _ _ _ _ rfl rfl) ?_
    refine WL.val (Yl.assign (v := .int .i64 r66) rfl) ?_
    refine WL.done ?_
    refine W.seq ?_
    refine W.region rfl ?_
    refine WL.val (Yl.move (v := .pointer (some ⟨g13, o14, none⟩)) rfl) ?_
    refine WL.val (Yl.move (v := .int .i64 (wi64 ((wu64 a1).tmod (wu64 (wi64 ((wi64 ((wu64 a2).tmod (wu64 (wi64 ((a0.length : Int) + 1))))) + 1)))))) rfl) ?_
    refine WL.val (Yl.move (v := .int .i64 (wi64 ((wu64 a2).tmod (wu64 (wi64 ((a0.length : Int) + 1)))))) rfl) ?_
    have le78 : CH.le F11 (CH.join F11 (CH.row g13 o14 [.slice A15 n17 c16, .slice A21 n23 c22])) := CH.le_joinL _ _
    have lp79 : CH.le (CH.row g13 o14 [.slice A15 n17 c16, .slice A21 n23 c22]) (CH.join F11 (CH.row g13 o14 [.slice A15 n17 c16, .slice A21 n23 c22])) := CH.le_joinR (Ctx.dis_of [CH.row g70 0 ([.int .i64 r65.Size] ++ (r65.Root.map (Value.int .u8))), CH.row g47 0 ([.int .i64 r42.Size] ++ (r42.Root.map (Value.int .u8)))] [p19, p25] C77)
    have C80 : Ctx _ _ _ _ (CH.join F11 (CH.row g13 o14 [.slice A15 n17 c16, .slice A21 n23 c22])) [CH.row g70 0 ([.int .i64 r65.Size] ++ (r65.Root.map (Value.int .u8))), CH.row g47 0 ([.int .i64 r42.Size] ++ (r42.Root.map (Value.int .u8))), p19, p25] := Ctx.freeze [CH.row g70 0 ([.int .i64 r65.Size] ++ (r65.Root.map (Value.int .u8))), CH.row g47 0 ([.int .i64 r42.Size] ++ (r42.Root.map (Value.int .u8)))] [p19, p25] C77
    have le81 : CH.le (CH.join F11 (CH.row g13 o14 [.slice A15 n17 c16, .slice A21 n23 c22])) (CH.join (CH.join F11 (CH.row g13 o14 [.slice A15 n17 c16, .slice A21 n23 c22])) p19) := CH.le_joinL _ _
    have lp82 : CH.le p19 (CH.join (CH.join F11 (CH.row g13 o14 [.slice A15 n17 c16, .slice A21 n23 c22])) p19) := CH.le_joinR (Ctx.dis_of [CH.row g70 0 ([.int .i64 r65.Size] ++ (r65.Root.map (Value.int .u8))), CH.row g47 0 ([.int .i64 r42.Size] ++ (r42.Root.map (Value.int .u8)))] [p25] C80)
    have C83 : Ctx _ _ _ _ (CH.join (CH.join F11 (CH.row g13 o14 [.slice A15 n17 c16, .slice A21 n23 c22])) p19) [CH.row g70 0 ([.int .i64 r65.Size] ++ (r65.Root.map (Value.int .u8))), CH.row g47 0 ([.int .i64 r42.Size] ++ (r42.Root.map (Value.int .u8))), p25] := Ctx.freeze [CH.row g70 0 ([.int .i64 r65.Size] ++ (r65.Root.map (Value.int .u8))), CH.row g47 0 ([.int .i64 r42.Size] ++ (r42.Root.map (Value.int .u8)))] [p25] C80
    have le84 : CH.le (CH.join (CH.join F11 (CH.row g13 o14 [.slice A15 n17 c16, .slice A21 n23 c22])) p19) (CH.join (CH.join (CH.join F11 (CH.row g13 o14 [.slice A15 n17 c16, .slice A21 n23 c22])) p19) p25) := CH.le_joinL _ _
    have lp85 : CH.le p25 (CH.join (CH.join (CH.join F11 (CH.row g13 o14 [.slice A15 n17 c16, .slice A21 n23 c22])) p19) p25) := CH.le_joinR (Ctx.dis_of [CH.row g70 0 ([.int .i64 r65.Size] ++ (r65.Root.map (Value.int .u8))), CH.row g47 0 ([.int .i64 r42.Size] ++ (r42.Root.map (Value.int .u8)))] [] C83)
    have C86 : Ctx _ _ _ _ (CH.join (CH.join (CH.join F11 (CH.row g13 o14 [.slice A15 n17 c16, .slice A21 n23 c22])) p19) p25) [CH.row g70 0 ([.int .i64 r65.Size] ++ (r65.Root.map (Value.int .u8))), CH.row g47 0 ([.int .i64 r42.Size] ++ (r42.Root.map (Value.int .u8)))] := Ctx.freeze [CH.row g70 0 ([.int .i64 r65.Size] ++ (r65.Root.map (Value.int .u8))), CH.row g47 0 ([.int .i64 r42.Size] ++ (r42.Root.map (Value.int .u8)))] [] C83
    obtain ⟨⟨r88, r89⟩, hg87, H⟩ := bindE H
    refine WL.call (args := #[.pointer (some ⟨g13, o14, none⟩), .int .i64 (wi64 ((wu64 a1).tmod (wu64 (wi64 ((wi64 ((wu64 a2).tmod (wu64 (wi64 ((a0.length : Int) + 1))))) + 1))))), .int .i64 (wi64 ((wu64 a2).tmod (wu64 (wi64 ((a0.length : Int) + 1)))))]) (Yenter.fn Tryd.func48 (by kernel_rfl) rfl (argsE (.cons rfl (.cons rfl (.cons rfl .nil))))) (ledger_Ledger_Consist.calls k _ (CH.join (CH.join (CH.join F11 (CH.row g13 o14 [.slice A15 n17 c16, .slice A21 n23 c22])) p19) p25) g13 o14 A15 c16 n17 A21 c22 n23 r9 (wi64 ((wu64 a1).tmod (wu64 (wi64 ((wi64 ((wu64 a2).tmod (wu64 (wi64 ((a0.length : Int) + 1))))) + 1))))) (wi64 ((wu64 a2).tmod (wu64 (wi64 ((a0.length : Int) + 1))))) (Ctx.pre (qs := []) (rest := [CH.row g70 0 ([.int .i64 r65.Size] ++ (r65.Root.map (Value.int .u8))), CH.row g47 0 ([.int .i64 r42.Size] ++ (r42.Root.map (Value.int .u8)))]) C86) hn18 (Row.len_le hR20).1 (Row.len_le hR20).2.1 (Sl.mono (Row.sl hR20) (CH.le_trans (CH.le_trans le78 le81) le84) (CH.le_trans lp82 le84)) hn24 (Row.len_le hR26).1 (Row.len_le hR26).2.1 (Sl.mono (Row.sl hR26) (CH.le_trans (CH.le_trans le78 le81) le84) lp85) (CH.le_trans (CH.le_trans lp79 le81) le84) (CH.le_trans hG1 (CH.le_trans le12 (CH.le_trans (CH.le_trans le78 le81) le84))) (CH.le_trans hG3 (CH.le_trans le12 (CH.le_trans (CH.le_trans le78 le81) le84))) r88 r89 hg87) ?_
    rintro e_ w_ ⟨A90, c91, n92, p94, rfl, C96, hn93, hR95⟩
    refine ⟨_, rfl, ?_⟩
    have hR97 : Row (Kd.arrI 32 .u8) F11 p94 (.slice A90 n92 c91) r88 := hR95
    have C98 : Ctx _ _ _ _ F11 [p94, CH.row g70 0 ([.int .i64 r65.Size] ++ (r65.Root.map (Value.int .u8))), CH.row g47 0 ([.int .i64 r42.Size] ++ (r42.Root.map (Value.int .u8))), CH.row g13 o14 [.slice A15 n17 c16, .slice A21 n23 c22], p19, p25] := Ctx.callL (qs := []) (rest := [CH.row g70 0 ([.int .i64 r65.Size] ++ (r65.Root.map (Value.int .u8))), CH.row g47 0 ([.int .i64 r42.Size] ++ (r42.Root.map (Value.int .u8))), CH.row g13 o14 [.slice A15 n17 c16, .slice A21 n23 c22], p19, p25]) C77 (CH.le_trans (CH.le_trans le78 le81) le84) C96
    refine WL.val (Yl.move (v := .tuple #[(.slice A90 n92 c91), (.int .i64 r89)]) rfl) ?_
    refine WL.val (Yl.extract (v := .slice A90 n92 c91) rfl rfl) ?_
    refine WL.val (Yl.extract (v := .int .i64 r89) rfl rfl) ?_
    refine WL.val (Yl.assign (v := .slice A90 n92 c91) rfl) ?_
    refine WL.val (Yl.assign (v := .int .i64 r89) rfl) ?_
    refine WL.done ?_
    refine W.seq ?_
    obtain ⟨x115, hX117, H⟩ := bindE H
    refine W.cutM (fun env_ w_ => env_ 6 = .bool x115 ∧ Ctx w F D w_ F11 [p94, CH.row g70 0 ([.int .i64 r65.Size] ++ (r65.Root.map (Value.int .u8))), CH.row g47 0 ([.int .i64 r42.Size] ++ (r42.Root.map (Value.int .u8))), CH.row g13 o14 [.slice A15 n17 c16, .slice A21 n23 c22], p19, p25]) ?_ ?_
    · skip
      refine W.region rfl ?_
      refine WL.val (Yl.move (v := .int .i64 r43) rfl) ?_
      refine WL.val (Yl.eql (m := r43) (n := 0) (q := decide (r43 = 0)) rfl rfl rfl) ?_
      refine WL.val (Yl.move (v := .bool (decide (r43 = 0))) rfl) ?_
      rcases iteE hX117 with ⟨hc118, hX117⟩ | ⟨hc118, hX117⟩
      · skip
        refine WL.on rfl (congrArg Value.bool (decide_eq_true hc118)) ?_
        refine WL.val (Yl.move (v := .int .i64 r66) rfl) ?_
        refine WL.on rfl (congrArg Value.bool (decide_eq_true hc118)) ?_
        refine WL.val (Yl.eql (m := r66) (n := 0) (q := decide (r66 = 0)) rfl rfl rfl) ?_
        refine WL.val (Yl.pickT (v := .bool (decide (r66 = 0))) (congrArg Value.bool (decide_eq_true hc118)) rfl) ?_
        refine WL.val (Yl.move (v := .bool (decide (r66 = 0))) rfl) ?_
        rcases iteE hX117 with ⟨hc119, hX117⟩ | ⟨hc119, hX117⟩
        · skip
          refine WL.on rfl (congrArg Value.bool (decide_eq_true hc119)) ?_
          refine WL.val (Yl.move (v := .int .i64 r89) rfl) ?_
          refine WL.on rfl (congrArg Value.bool (decide_eq_true hc119)) ?_
          refine WL.val (Yl.eql (m := r89) (n := 0) (q := decide (r89 = 0)) rfl rfl rfl) ?_
          refine WL.val (Yl.pickT (v := .bool (decide (r89 = 0))) (congrArg Value.bool (decide_eq_true hc119)) rfl) ?_
          refine WL.val (Yl.move (v := .bool (decide (r89 = 0))) rfl) ?_
          rcases iteE hX117 with ⟨hc120, hX117⟩ | ⟨hc120, hX117⟩
          · skip
            refine WL.on rfl (congrArg Value.bool (decide_eq_true hc120)) ?_
            refine WL.val (Yl.move (v := .int .i64 (wi64 ((wu64 a1).tmod (wu64 (wi64 ((wi64 ((wu64 a2).tmod (wu64 (wi64 ((a0.length : Int) + 1))))) + 1)))))) rfl) ?_
            refine WL.on rfl (congrArg Value.bool (decide_eq_true hc120)) ?_
            refine WL.val (Yl.move (v := .int .i64 (wi64 ((wu64 a2).tmod (wu64 (wi64 ((a0.length : Int) + 1)))))) rfl) ?_
            refine WL.on rfl (congrArg Value.bool (decide_eq_true hc120)) ?_
            refine WL.val (Yl.move (v := .slice A90 n92 c91) rfl) ?_
            refine WL.on rfl (congrArg Value.bool (decide_eq_true hc120)) ?_
            refine WL.val (Yl.fieldAddr (i := 1) rfl Tryd.underlying53 rfl sz33) ?_
            refine WL.on rfl (congrArg Value.bool (decide_eq_true hc120)) ?_
            refine WL.val (Yl.loadVA (g := g47) (off := 0) (o := 1) (cs := [.int .i64 r42.Size] ++ (r42.Root.map (Value.int .u8))) (us := r42.Root.map (Value.int .u8)) rfl Tryd.underlying33 rfl (sz_of sz33 (by first | (simp only [List.length_append, List.length_map, List.length_cons, List.length_nil, ha44]; done) | simp [ha44])) (Ctx.sub_of [p94, CH.row g70 0 ([.int .i64 r65.Size] ++ (r65.Root.map (Value.int .u8)))] [CH.row g13 o14 [.slice A15 n17 c16, .slice A21 n23 c22], p19, p25] C98) (take_mid (pre := [.int .i64 r42.Size]) (us := r42.Root.map (Value.int .u8)) (post := []) (by first | (simp only [List.length_append, List.length_map, List.length_cons, List.length_nil, ha44]; done) | simp [ha44]) (by first | (simp only [List.length_append, List.length_map, List.length_cons, List.length_nil, ha44]; done) | simp [ha44]))) ?_
            refine WL.on rfl (congrArg Value.bool (decide_eq_true hc120)) ?_
            refine WL.val (Yl.fieldAddr (i := 1) rfl Tryd.underlying53 rfl sz33) ?_
            refine WL.on rfl (congrArg Value.bool (decide_eq_true hc120)) ?_
            refine WL.val (Yl.loadVA (g := g70) (off := 0) (o := 1) (cs := [.int .i64 r65.Size] ++ (r65.Root.map (Value.int .u8))) (us := r65.Root.map (Value.int .u8)) rfl Tryd.underlying33 rfl (sz_of sz33 (by first | (simp only [List.length_append, List.length_map, List.length_cons, List.length_nil, ha67]; done) | simp [ha67])) (Ctx.sub_of [p94] [CH.row g47 0 ([.int .i64 r42.Size] ++ (r42.Root.map (Value.int .u8))), CH.row g13 o14 [.slice A15 n17 c16, .slice A21 n23 c22], p19, p25] C98) (take_mid (pre := [.int .i64 r65.Size]) (us := r65.Root.map (Value.int .u8)) (post := []) (by first | (simp only [List.length_append, List.length_map, List.length_cons, List.length_nil, ha67]; done) | simp [ha67]) (by first | (simp only [List.length_append, List.length_map, List.length_cons, List.length_nil, ha67]; done) | simp [ha67]))) ?_
            refine WL.on rfl (congrArg Value.bool (decide_eq_true hc120)) ?_
            have le121 : CH.le F11 (CH.join F11 p94) := CH.le_joinL _ _
            have lp122 : CH.le p94 (CH.join F11 p94) := CH.le_joinR (Ctx.dis_of [] [CH.row g70 0 ([.int .i64 r65.Size] ++ (r65.Root.map (Value.int .u8))), CH.row g47 0 ([.int .i64 r42.Size] ++ (r42.Root.map (Value.int .u8))), CH.row g13 o14 [.slice A15 n17 c16, .slice A21 n23 c22], p19, p25] C98)
            have C123 : Ctx _ _ _ _ (CH.join F11 p94) [CH.row g70 0 ([.int .i64 r65.Size] ++ (r65.Root.map (Value.int .u8))), CH.row g47 0 ([.int .i64 r42.Size] ++ (r42.Root.map (Value.int .u8))), CH.row g13 o14 [.slice A15 n17 c16, .slice A21 n23 c22], p19, p25] := Ctx.freeze [] [CH.row g70 0 ([.int .i64 r65.Size] ++ (r65.Root.map (Value.int .u8))), CH.row g47 0 ([.int .i64 r42.Size] ++ (r42.Root.map (Value.int .u8))), CH.row g13 o14 [.slice A15 n17 c16, .slice A21 n23 c22], p19, p25] C98
            obtain ⟨r125, hg124, hX117⟩ := bindE hX117
            refine WL.call (args := #[.int .i64 (wi64 ((wu64 a1).tmod (wu64 (wi64 ((wi64 ((wu64 a2).tmod (wu64 (wi64 ((a0.length : Int) + 1))))) + 1))))), .int .i64 (wi64 ((wu64 a2).tmod (wu64 (wi64 ((a0.length : Int) + 1))))), .slice A90 n92 c91, .agg (List.toArray (r42.Root.map (Value.int .u8))), .agg (List.toArray (r65.Root.map (Value.int .u8)))]) (Yenter.fn Tryd.func36 (by kernel_rfl) rfl (argsE (.cons rfl (.cons rfl (.cons rfl (.cons rfl (.cons rfl .nil))))))) (proof_Consistent.calls k _ (CH.join F11 p94) (wi64 ((wu64 a1).tmod (wu64 (wi64 ((wi64 ((wu64 a2).tmod (wu64 (wi64 ((a0.length : Int) + 1))))) + 1))))) (wi64 ((wu64 a2).tmod (wu64 (wi64 ((a0.length : Int) + 1))))) A90 c91 n92 r88 r42.Root r65.Root (Ctx.pre (qs := []) (rest := [CH.row g70 0 ([.int .i64 r65.Size] ++ (r65.Root.map (Value.int .u8))), CH.row g47 0 ([.int .i64 r42.Size] ++ (r42.Root.map (Value.int .u8))), CH.row g13 o14 [.slice A15 n17 c16, .slice A21 n23 c22], p19, p25]) C123) hn93 (Row.len_le hR97).1 (Row.len_le hR97).2.1 (Sl.mono (Row.sl hR97) le121 lp122) ha44 ha67 (CH.le_trans hG1 (CH.le_trans le12 le121)) (CH.le_trans hG3 (CH.le_trans le12 le121)) r125 hg124) ?_
            rintro e_ w_ ⟨rfl, C126⟩
            refine ⟨_, rfl, ?_⟩
            have C127 : Ctx _ _ _ _ F11 [p94, CH.row g70 0 ([.int .i64 r65.Size] ++ (r65.Root.map (Value.int .u8))), CH.row g47 0 ([.int .i64 r42.Size] ++ (r42.Root.map (Value.int .u8))), CH.row g13 o14 [.slice A15 n17 c16, .slice A21 n23 c22], p19, p25] := Ctx.callL (qs := []) (rest := [p94, CH.row g70 0 ([.int .i64 r65.Size] ++ (r65.Root.map (Value.int .u8))), CH.row g47 0 ([.int .i64 r42.Size] ++ (r42.Root.map (Value.int .u8))), CH.row g13 o14 [.slice A15 n17 c16, .slice A21 n23 c22], p19, p25]) C98 le121 C126
            refine WL.val (Yl.pickT (v := .bool r125) (congrArg Value.bool (decide_eq_true hc120)) rfl) ?_
            refine WL.val (Yl.move (v := .bool r125) rfl) ?_
            rcases iteE hX117 with ⟨hc128, hX117⟩ | ⟨hc128, hX117⟩
            · skip
              refine WL.on rfl (congrArg Value.bool hc128) ?_
              obtain ⟨r130, hg129, hX117⟩ := bindE hX117
              refine WL.call (args := #[]) (Yenter.fn Tryd.func17 (by kernel_rfl) rfl (argsE .nil)) (juratlaw09_awake.calls k _ F11  (Ctx.pre (qs := []) (rest := [p94, CH.row g70 0 ([.int .i64 r65.Size] ++ (r65.Root.map (Value.int .u8))), CH.row g47 0 ([.int .i64 r42.Size] ++ (r42.Root.map (Value.int .u8))), CH.row g13 o14 [.slice A15 n17 c16, .slice A21 n23 c22], p19, p25]) C127) (CH.le_trans hG1 (CH.le_trans le12 (CH.le_refl _))) (CH.le_trans hG3 (CH.le_trans le12 (CH.le_refl _))) r130 hg129) ?_
              rintro e_ w_ ⟨rfl, C131⟩
              refine ⟨_, rfl, ?_⟩
              have C132 : Ctx _ _ _ _ F11 [p94, CH.row g70 0 ([.int .i64 r65.Size] ++ (r65.Root.map (Value.int .u8))), CH.row g47 0 ([.int .i64 r42.Size] ++ (r42.Root.map (Value.int .u8))), CH.row g13 o14 [.slice A15 n17 c16, .slice A21 n23 c22], p19, p25] := Ctx.call (qs := []) (rest := [p94, CH.row g70 0 ([.int .i64 r65.Size] ++ (r65.Root.map (Value.int .u8))), CH.row g47 0 ([.int .i64 r42.Size] ++ (r42.Root.map (Value.int .u8))), CH.row g13 o14 [.slice A15 n17 c16, .slice A21 n23 c22], p19, p25]) C127 C131
              refine WL.val (Yl.pickT (v := .bool r130) (congrArg Value.bool hc128) rfl) ?_
              refine WL.val (Yl.assign (v := .bool r130) rfl) ?_
              refine WL.done ?_
              cases hX117
              refine thenE_n ?_
              exact ⟨rfl, C132⟩
            · skip
              refine WL.off rfl (congrArg Value.bool (Bool.eq_false_iff.2 hc128)) ?_
              refine WL.val (Yl.pickF (v := .bool false) (congrArg Value.bool (Bool.eq_false_iff.2 hc128)) rfl) ?_
              refine WL.val (Yl.assign (v := .bool false) rfl) ?_
              refine WL.done ?_
              cases hX117
              refine thenE_n ?_
              exact ⟨rfl, C127⟩
          · skip
            refine WL.off rfl (congrArg Value.bool (decide_eq_false hc120)) ?_
            refine WL.off rfl (congrArg Value.bool (decide_eq_false hc120)) ?_
            refine WL.off rfl (congrArg Value.bool (decide_eq_false hc120)) ?_
            refine WL.off rfl (congrArg Value.bool (decide_eq_false hc120)) ?_
            refine WL.off rfl (congrArg Value.bool (decide_eq_false hc120)) ?_
            refine WL.off rfl (congrArg Value.bool (decide_eq_false hc120)) ?_
            refine WL.off rfl (congrArg Value.bool (decide_eq_false hc120)) ?_
            refine WL.off rfl (congrArg Value.bool (decide_eq_false hc120)) ?_
            refine WL.val (Yl.pickF (v := .bool false) (congrArg Value.bool (decide_eq_false hc120)) rfl) ?_
            refine WL.val (Yl.move (v := .bool false) rfl) ?_
            refine WL.off rfl rfl ?_
            refine WL.val (Yl.pickF (v := .bool false) rfl rfl) ?_
            refine WL.val (Yl.assign (v := .bool false) rfl) ?_
            refine WL.done ?_
            cases hX117
            refine thenE_n ?_
            exact ⟨rfl, C98⟩
        · skip
          refine WL.off rfl (congrArg Value.bool (decide_eq_false hc119)) ?_
          refine WL.off rfl (congrArg Value.bool (decide_eq_false hc119)) ?_
          refine WL.val (Yl.pickF (v := .bool false) (congrArg Value.bool (decide_eq_false hc119)) rfl) ?_
          refine WL.val (Yl.move (v := .bool false) rfl) ?_
          refine WL.off rfl rfl ?_
          refine WL.off rfl rfl ?_
          refine WL.off rfl rfl ?_
          refine WL.off rfl rfl ?_
          refine WL.off rfl rfl ?_
          refine WL.off rfl rfl ?_
          refine WL.off rfl rfl ?_
          refine WL.off rfl rfl ?_
          refine WL.val (Yl.pickF (v := .bool false) rfl rfl) ?_
          refine WL.val (Yl.move (v := .bool false) rfl) ?_
          refine WL.off rfl rfl ?_
          refine WL.val (Yl.pickF (v := .bool false) rfl rfl) ?_
          refine WL.val (Yl.assign (v := .bool false) rfl) ?_
          refine WL.done ?_
          cases hX117
          refine thenE_n ?_
          exact ⟨rfl, C98⟩
      · skip
        refine WL.off rfl (congrArg Value.bool (decide_eq_false hc118)) ?_
        refine WL.off rfl (congrArg Value.bool (decide_eq_false hc118)) ?_
        refine WL.val (Yl.pickF (v := .bool false) (congrArg Value.bool (decide_eq_false hc118)) rfl) ?_
        refine WL.val (Yl.move (v := .bool false) rfl) ?_
        refine WL.off rfl rfl ?_
        refine WL.off rfl rfl ?_
        refine WL.val (Yl.pickF (v := .bool false) rfl rfl) ?_
        refine WL.val (Yl.move (v := .bool false) rfl) ?_
        refine WL.off rfl rfl ?_
        refine WL.off rfl rfl ?_
        refine WL.off rfl rfl ?_
        refine WL.off rfl rfl ?_
        refine WL.off rfl rfl ?_
        refine WL.off rfl rfl ?_
        refine WL.off rfl rfl ?_
        refine WL.off rfl rfl ?_
        refine WL.val (Yl.pickF (v := .bool false) rfl rfl) ?_
        refine WL.val (Yl.move (v := .bool false) rfl) ?_
        refine WL.off rfl rfl ?_
        refine WL.val (Yl.pickF (v := .bool false) rfl rfl) ?_
        refine WL.val (Yl.assign (v := .bool false) rfl) ?_
        refine WL.done ?_
        cases hX117
        refine thenE_n ?_
        exact ⟨rfl, C98⟩
    · skip
      rintro env_ w_ ⟨ho114, C116⟩
      refine W.ret ?_
      have C133 : Ctx _ _ _ _ F11 [CH.row g70 0 ([.int .i64 r65.Size] ++ (r65.Root.map (Value.int .u8))), CH.row g47 0 ([.int .i64 r42.Size] ++ (r42.Root.map (Value.int .u8))), CH.row g13 o14 [.slice A15 n17 c16, .slice A21 n23 c22], p19, p25] := Ctx.drop [] [CH.row g70 0 ([.int .i64 r65.Size] ++ (r65.Root.map (Value.int .u8))), CH.row g47 0 ([.int .i64 r42.Size] ++ (r42.Root.map (Value.int .u8))), CH.row g13 o14 [.slice A15 n17 c16, .slice A21 n23 c22], p19, p25] C116
      have C134 : Ctx _ _ _ _ F11 [CH.row g47 0 ([.int .i64 r42.Size] ++ (r42.Root.map (Value.int .u8))), CH.row g13 o14 [.slice A15 n17 c16, .slice A21 n23 c22], p19, p25] := Ctx.drop [] [CH.row g47 0 ([.int .i64 r42.Size] ++ (r42.Root.map (Value.int .u8))), CH.row g13 o14 [.slice A15 n17 c16, .slice A21 n23 c22], p19, p25] C133
      have C135 : Ctx _ _ _ _ F11 [CH.row g13 o14 [.slice A15 n17 c16, .slice A21 n23 c22], p19, p25] := Ctx.drop [] [CH.row g13 o14 [.slice A15 n17 c16, .slice A21 n23 c22], p19, p25] C134
      have C136 : Ctx _ _ _ _ F11 [p19, p25] := Ctx.drop [] [p19, p25] C135
      have C137 : Ctx _ _ _ _ F11 [p25] := Ctx.drop [] [p25] C136
      have C138 : Ctx _ _ _ _ F11 [] := Ctx.drop [] [] C137
      have e139 := Option.some.inj H
      subst e139
      exact post_r (resE1 rfl ho114) ⟨rfl, (Ctx.weak C138 (CH.le_refl _))⟩
  · skip
    refine W.condT (congrArg Value.bool (nb_f hc29)) ?_
    refine W.seq ?_
    refine W.region rfl ?_
    obtain ⟨r141, hg140, H⟩ := bindE H
    refine WL.call (args := #[]) (Yenter.fn Tryd.func17 (by kernel_rfl) rfl (argsE .nil)) (juratlaw09_awake.calls k _ F11  (Ctx.pre (qs := []) (rest := [CH.row g13 o14 [.slice A15 n17 c16, .slice A21 n23 c22], p19, p25]) C28) (CH.le_trans hG1 (CH.le_trans le12 (CH.le_refl _))) (CH.le_trans hG3 (CH.le_trans le12 (CH.le_refl _))) r141 hg140) ?_
    rintro e_ w_ ⟨rfl, C142⟩
    refine ⟨_, rfl, ?_⟩
    have C143 : Ctx _ _ _ _ F11 [CH.row g13 o14 [.slice A15 n17 c16, .slice A21 n23 c22], p19, p25] := Ctx.call (qs := []) (rest := [CH.row g13 o14 [.slice A15 n17 c16, .slice A21 n23 c22], p19, p25]) C28 C142
    refine WL.val (Yl.assign (v := .bool r141) rfl) ?_
    refine WL.done ?_
    refine W.ret ?_
    refine thenE_r ?_
    have C144 : Ctx _ _ _ _ F11 [p19, p25] := Ctx.drop [] [p19, p25] C143
    have C145 : Ctx _ _ _ _ F11 [p25] := Ctx.drop [] [p25] C144
    have C146 : Ctx _ _ _ _ F11 [] := Ctx.drop [] [] C145
    have e147 := Option.some.inj H
    subst e147
    exact post_r (resE1 rfl rfl) ⟨rfl, (Ctx.weak C146 (CH.le_refl _))⟩
end Go.Proofs.YthdlfclkcdnenaaDoor
