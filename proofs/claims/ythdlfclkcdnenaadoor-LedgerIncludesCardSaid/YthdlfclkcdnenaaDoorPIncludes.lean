/- Functions of the program: each as a plain function of numbers and lists, and the proof that the program's own comes to it. Nothing is assumed but what each theorem says. -/
import Derived.Test.YthdlfclkcdnenaaDoorGh
namespace Go.Proofs.YthdlfclkcdnenaaDoor
open Go.RowKit Go.WG
set_option linter.unusedVariables false
set_option linter.unusedSimpArgs false

/-! ### jurat/juratlaw09.LedgerIncludes: function 10 -/
def juratlaw09_LedgerIncludes.f (k : Nat) (a0 : List (List Int)) (a1 : Int) (a2 : Int) : Option Bool := (juratlaw09_made.f k a0).bind fun ⟨r9, r10⟩ => (if r10 = true then (some (decide ((a0.length : Int) = 0))) else (some (true))).bind fun g29 => if g29 = true then ((juratlaw09_awake.f k ).bind fun r40 => some r40) else (if (wu64 (a0.length : Int)) ≠ 0 then (if (wu64 (wi64 (1 + (wi64 ((wu64 a2).tmod (wu64 (a0.length : Int))))))) ≠ 0 then ((ledger_Ledger_Head.f k r9 (wi64 (1 + (wi64 ((wu64 a2).tmod (wu64 (a0.length : Int))))))).bind fun ⟨r59, r60⟩ => (ledger_Ledger_Include.f k r9 (wi64 ((wu64 a1).tmod (wu64 (wi64 (1 + (wi64 ((wu64 a2).tmod (wu64 (a0.length : Int))))))))) (wi64 (1 + (wi64 ((wu64 a2).tmod (wu64 (a0.length : Int))))))).bind fun ⟨r82, r83⟩ => (if r60 = 0 then (if r83 = 0 then (if 0 ≤ (wi64 ((wu64 a1).tmod (wu64 (wi64 (1 + (wi64 ((wu64 a2).tmod (wu64 (a0.length : Int))))))))) ∧ (wi64 ((wu64 a1).tmod (wu64 (wi64 (1 + (wi64 ((wu64 a2).tmod (wu64 (a0.length : Int))))))))) < (a0.length : Int) then ((juratlaw09_own.f k (a0.getD (wi64 ((wu64 a1).tmod (wu64 (wi64 (1 + (wi64 ((wu64 a2).tmod (wu64 (a0.length : Int))))))))).toNat [])).bind fun r414 => (proof_Leaf.f k r414).bind fun r427 => (proof_Included.f k r427 (wi64 ((wu64 a1).tmod (wu64 (wi64 (1 + (wi64 ((wu64 a2).tmod (wu64 (a0.length : Int))))))))) (wi64 (1 + (wi64 ((wu64 a2).tmod (wu64 (a0.length : Int)))))) r82 r59.Root).bind fun r435 => if r435 = true then ((juratlaw09_awake.f k ).bind fun r440 => some r440) else (some false)) else none) else (some false)) else (some false)).bind fun x268 => some x268) else none) else none)
set_option maxRecDepth 100000 in
set_option maxHeartbeats 4000000 in
theorem juratlaw09_LedgerIncludes.calls (k : Nat) (w : World) (F : CH) (A1 : Option Addr) (c2 : Nat) (n3 : Nat) (a0 : List (List Int)) (a1 : Int) (a2 : Int) (hp : Pre w F []) (hn4 : n3 = a0.length) (hl5 : a0.length ≤ c2) (hm6 : c2 ≤ maxLen) (hS7 : Sl (Kd.slice (Kd.int .u8)) F F A1 a0) (hG1 : CH.le (CH.row 1 0 (glob1.map (Value.int .u32))) F) (hG3 : CH.le (CH.row 3 0 (glob3.map (Value.int .u32))) F) (r0_ : Bool) (H : juratlaw09_LedgerIncludes.f k a0 a1 a2 = some r0_) :
    Calls Tryd.prog 10 #[.slice A1 n3 c2, .int .i64 a1, .int .i64 a2] w fun e w' => e = .returned (.bool r0_) ∧ Ctx w F (domL []) w' F [] := by
  have C := Ctx.start hp
  generalize hD : domL [] = D at C ⊢
  unfold juratlaw09_LedgerIncludes.f at H
  refine Calls.ofW Tryd.func10 rfl (by simp [Tryd.ntmps10]) ?_
  refine W.seq ?_
  refine W.region rfl ?_
  refine WL.val (Yl.assign (v := .bool false) rfl) ?_
  refine WL.done ?_
  refine W.seq ?_
  refine W.region rfl ?_
  refine WL.val (Yl.move (v := .slice A1 n3 c2) rfl) ?_
  obtain ⟨⟨r9, r10⟩, hg8, H⟩ := bindE H
  refine WL.call (args := #[.slice A1 n3 c2]) (Yenter.fn Tryd.func38 (by kernel_rfl) rfl (argsE (.cons rfl .nil))) (juratlaw09_made.calls k _ F A1 c2 n3 a0 (Ctx.pre (qs := []) (rest := []) C) hn4 hl5 hm6 hS7 (CH.le_trans hG1 (CH.le_trans (CH.le_refl _) (CH.le_refl _))) (CH.le_trans hG3 (CH.le_trans (CH.le_refl _) (CH.le_refl _))) r9 r10 hg8) ?_
  rintro e_ w_ ⟨F11, g13, o14, A15, c16, n17, p19, A21, c22, n23, p25, rfl, le12, C27, hn18, hR20, hn24, hR26⟩
  refine ⟨_, rfl, ?_⟩
  have C28 : Ctx _ _ _ _ F11 [CH.row g13 o14 [.slice A15 n17 c16, .slice A21 n23 c22], p19, p25] := Ctx.call (qs := []) (rest := []) C C27
  refine WL.val (Yl.move (v := .tuple #[(.pointer (some ⟨g13, o14, none⟩)), (.bool r10)]) rfl) ?_
  refine WL.val (Yl.extract (v := .pointer (some ⟨g13, o14, none⟩)) rfl rfl) ?_
  refine WL.val (Yl.extract (v := .bool r10) rfl rfl) ?_
  refine WL.val (Yl.assign (v := .pointer (some ⟨g13, o14, none⟩)) rfl) ?_
  refine WL.val (Yl.assign (v := .bool r10) rfl) ?_
  refine WL.done ?_
  refine W.seq ?_
  refine W.seq ?_
  refine W.region rfl ?_
  refine WL.val (Yl.move (v := .bool r10) rfl) ?_
  refine WL.val (Yl.not (p := r10) (q := !r10) rfl rfl) ?_
  refine WL.val (Yl.move (v := .bool (!r10)) rfl) ?_
  obtain ⟨g29, HE30, H⟩ := bindE H
  refine WL.cut (fun env_ w_ => env_ 24 = .bool g29 ∧ env_ 0 = .slice A1 n3 c2 ∧ env_ 1 = .int .i64 a1 ∧ env_ 2 = .int .i64 a2 ∧ env_ 7 = .pointer (some ⟨g13, o14, none⟩) ∧ Ctx w F D w_ F11 [CH.row g13 o14 [.slice A15 n17 c16, .slice A21 n23 c22], p19, p25]) ?_ ?_
  · skip
    rcases iteE HE30 with ⟨hc31, HE30⟩ | ⟨hc31, HE30⟩
    · skip
      refine WL.on rfl (congrArg Value.bool (nb_t hc31)) ?_
      refine WL.val (Yl.move (v := .slice A1 n3 c2) rfl) ?_
      refine WL.on rfl (congrArg Value.bool (nb_t hc31)) ?_
      refine WL.val (Yl.lenN (A := A1) (l := n3) (q := c2) (n := (a0.length : Int)) rfl Tryd.underlying49 (by omega)) ?_
      refine WL.on rfl (congrArg Value.bool (nb_t hc31)) ?_
      refine WL.val (Yl.eql (m := (a0.length : Int)) (n := 0) (q := decide ((a0.length : Int) = 0)) rfl rfl rfl) ?_
      refine WL.val (Yl.pickF (v := .bool (decide ((a0.length : Int) = 0))) (congrArg Value.bool (nb_t hc31)) rfl) ?_
      cases HE30
      exact WL.done ⟨rfl, rfl, rfl, rfl, rfl, C28⟩
    · skip
      refine WL.off rfl (congrArg Value.bool (nb_f hc31)) ?_
      refine WL.off rfl (congrArg Value.bool (nb_f hc31)) ?_
      refine WL.off rfl (congrArg Value.bool (nb_f hc31)) ?_
      refine WL.val (Yl.pickT (v := .bool true) (congrArg Value.bool (nb_f hc31)) rfl) ?_
      cases HE30
      exact WL.done ⟨rfl, rfl, rfl, rfl, rfl, C28⟩
  · skip
    rintro env_ w_ ⟨ho32, ho33, ho34, ho35, ho36, C37⟩
    rcases iteE H with ⟨hc38, H⟩ | ⟨hc38, H⟩
    · skip
      refine W.condT (ho32.trans (congrArg Value.bool hc38)) ?_
      refine W.seq ?_
      refine W.region rfl ?_
      obtain ⟨r40, hg39, H⟩ := bindE H
      refine WL.call (args := #[]) (Yenter.fn Tryd.func17 (by kernel_rfl) rfl (argsE .nil)) (juratlaw09_awake.calls k _ F11  (Ctx.pre (qs := []) (rest := [CH.row g13 o14 [.slice A15 n17 c16, .slice A21 n23 c22], p19, p25]) C37) (CH.le_trans hG1 (CH.le_trans le12 (CH.le_refl _))) (CH.le_trans hG3 (CH.le_trans le12 (CH.le_refl _))) r40 hg39) ?_
      rintro e_ w_ ⟨rfl, C41⟩
      refine ⟨_, rfl, ?_⟩
      have C42 : Ctx _ _ _ _ F11 [CH.row g13 o14 [.slice A15 n17 c16, .slice A21 n23 c22], p19, p25] := Ctx.call (qs := []) (rest := [CH.row g13 o14 [.slice A15 n17 c16, .slice A21 n23 c22], p19, p25]) C37 C41
      refine WL.val (Yl.assign (v := .bool r40) rfl) ?_
      refine WL.done ?_
      refine W.ret ?_
      refine thenE_r ?_
      have C43 : Ctx _ _ _ _ F11 [p19, p25] := Ctx.drop [] [p19, p25] C42
      have C44 : Ctx _ _ _ _ F11 [p25] := Ctx.drop [] [p25] C43
      have C45 : Ctx _ _ _ _ F11 [] := Ctx.drop [] [] C44
      have e46 := Option.some.inj H
      subst e46
      exact post_r (resE1 rfl rfl) ⟨rfl, (Ctx.weak C45 (CH.le_refl _))⟩
    · skip
      refine W.condF (ho32.trans (congrArg Value.bool (Bool.eq_false_iff.2 hc38))) ?_
      refine W.skip ?_
      refine W.seq ?_
      refine W.region rfl ?_
      refine WL.val (Yl.move (v := .int .i64 a2) ho35) ?_
      refine WL.val (Yl.conv (m := a2) (r := wu64 a2) rfl Tryd.underlying3 Tryd.underlying46 rfl) ?_
      refine WL.val (Yl.move (v := .slice A1 n3 c2) ho33) ?_
      refine WL.val (Yl.lenN (A := A1) (l := n3) (q := c2) (n := (a0.length : Int)) rfl Tryd.underlying49 (by omega)) ?_
      refine WL.val (Yl.conv (m := (a0.length : Int)) (r := wu64 (a0.length : Int)) rfl Tryd.underlying3 Tryd.underlying46 rfl) ?_
      obtain ⟨hc47, H⟩ := guardE H
      refine WL.val (Yl.rem (m := wu64 a2) (n := wu64 (a0.length : Int)) (r := (wu64 a2).tmod (wu64 (a0.length : Int))) rfl rfl hc47 rfl) ?_
      refine WL.val (Yl.conv (m := (wu64 a2).tmod (wu64 (a0.length : Int))) (r := wi64 ((wu64 a2).tmod (wu64 (a0.length : Int)))) rfl Tryd.underlying46 Tryd.underlying3 rfl) ?_
      refine WL.val (Yl.add (m := 1) (n := wi64 ((wu64 a2).tmod (wu64 (a0.length : Int)))) (r := wi64 (1 + (wi64 ((wu64 a2).tmod (wu64 (a0.length : Int)))))) rfl rfl rfl) ?_
      refine WL.val (Yl.assign (v := .int .i64 (wi64 (1 + (wi64 ((wu64 a2).tmod (wu64 (a0.length : Int))))))) rfl) ?_
      refine WL.done ?_
      refine W.seq ?_
      refine W.region rfl ?_
      refine WL.val (Yl.move (v := .int .i64 a1) ho34) ?_
      refine WL.val (Yl.conv (m := a1) (r := wu64 a1) rfl Tryd.underlying3 Tryd.underlying46 rfl) ?_
      refine WL.val (Yl.move (v := .int .i64 (wi64 (1 + (wi64 ((wu64 a2).tmod (wu64 (a0.length : Int))))))) rfl) ?_
      refine WL.val (Yl.conv (m := wi64 (1 + (wi64 ((wu64 a2).tmod (wu64 (a0.length : Int)))))) (r := wu64 (wi64 (1 + (wi64 ((wu64 a2).tmod (wu64 (a0.length : Int))))))) rfl Tryd.underlying3 Tryd.underlying46 rfl) ?_
      obtain ⟨hc48, H⟩ := guardE H
      refine WL.val (Yl.rem (m := wu64 a1) (n := wu64 (wi64 (1 + (wi64 ((wu64 a2).tmod (wu64 (a0.length : Int))))))) (r := (wu64 a1).tmod (wu64 (wi64 (1 + (wi64 ((wu64 a2).tmod (wu64 (a0.length : Int)))))))) rfl rfl hc48 rfl) ?_
      refine WL.val (Yl.conv (m := (wu64 a1).tmod (wu64 (wi64 (1 + (wi64 ((wu64 a2).tmod (wu64 (a0.length : Int)))))))) (r := wi64 ((wu64 a1).tmod (wu64 (wi64 (1 + (wi64 ((wu64 a2).tmod (wu64 (a0.length : Int))))))))) rfl Tryd.underlying46 Tryd.underlying3 rfl) ?_
      refine WL.val (Yl.assign (v := .int .i64 (wi64 ((wu64 a1).tmod (wu64 (wi64 (1 + (wi64 ((wu64 a2).tmod (wu64 (a0.length : Int)))))))))) rfl) ?_
      refine WL.done ?_
      refine W.seq ?_
      refine W.region rfl ?_
      refine WL.val (Yl.move (v := .pointer (some ⟨g13, o14, none⟩)) ho36) ?_
      refine WL.val (Yl.move (v := .int .i64 (wi64 (1 + (wi64 ((wu64 a2).tmod (wu64 (a0.length : Int))))))) rfl) ?_
      have le49 : CH.le F11 (CH.join F11 (CH.row g13 o14 [.slice A15 n17 c16, .slice A21 n23 c22])) := CH.le_joinL _ _
      have lp50 : CH.le (CH.row g13 o14 [.slice A15 n17 c16, .slice A21 n23 c22]) (CH.join F11 (CH.row g13 o14 [.slice A15 n17 c16, .slice A21 n23 c22])) := CH.le_joinR (Ctx.dis_of [] [p19, p25] C37)
      have C51 : Ctx _ _ _ _ (CH.join F11 (CH.row g13 o14 [.slice A15 n17 c16, .slice A21 n23 c22])) [p19, p25] := Ctx.freeze [] [p19, p25] C37
      have le52 : CH.le (CH.join F11 (CH.row g13 o14 [.slice A15 n17 c16, .slice A21 n23 c22])) (CH.join (CH.join F11 (CH.row g13 o14 [.slice A15 n17 c16, .slice A21 n23 c22])) p19) := CH.le_joinL _ _
      have lp53 : CH.le p19 (CH.join (CH.join F11 (CH.row g13 o14 [.slice A15 n17 c16, .slice A21 n23 c22])) p19) := CH.le_joinR (Ctx.dis_of [] [p25] C51)
      have C54 : Ctx _ _ _ _ (CH.join (CH.join F11 (CH.row g13 o14 [.slice A15 n17 c16, .slice A21 n23 c22])) p19) [p25] := Ctx.freeze [] [p25] C51
      have le55 : CH.le (CH.join (CH.join F11 (CH.row g13 o14 [.slice A15 n17 c16, .slice A21 n23 c22])) p19) (CH.join (CH.join (CH.join F11 (CH.row g13 o14 [.slice A15 n17 c16, .slice A21 n23 c22])) p19) p25) := CH.le_joinL _ _
      have lp56 : CH.le p25 (CH.join (CH.join (CH.join F11 (CH.row g13 o14 [.slice A15 n17 c16, .slice A21 n23 c22])) p19) p25) := CH.le_joinR (Ctx.dis_of [] [] C54)
      have C57 : Ctx _ _ _ _ (CH.join (CH.join (CH.join F11 (CH.row g13 o14 [.slice A15 n17 c16, .slice A21 n23 c22])) p19) p25) [] := Ctx.freeze [] [] C54
      obtain ⟨⟨r59, r60⟩, hg58, H⟩ := bindE H
      refine WL.call (args := #[.pointer (some ⟨g13, o14, none⟩), .int .i64 (wi64 (1 + (wi64 ((wu64 a2).tmod (wu64 (a0.length : Int))))))]) (Yenter.fn Tryd.func39 (by kernel_rfl) rfl (argsE (.cons rfl (.cons rfl .nil)))) (ledger_Ledger_Head.calls k _ (CH.join (CH.join (CH.join F11 (CH.row g13 o14 [.slice A15 n17 c16, .slice A21 n23 c22])) p19) p25) g13 o14 A15 c16 n17 A21 c22 n23 r9 (wi64 (1 + (wi64 ((wu64 a2).tmod (wu64 (a0.length : Int)))))) (Ctx.pre (qs := []) (rest := []) C57) hn18 (Row.len_le hR20).1 (Row.len_le hR20).2.1 (Sl.mono (Row.sl hR20) (CH.le_trans (CH.le_trans le49 le52) le55) (CH.le_trans lp53 le55)) hn24 (Row.len_le hR26).1 (Row.len_le hR26).2.1 (Sl.mono (Row.sl hR26) (CH.le_trans (CH.le_trans le49 le52) le55) lp56) (CH.le_trans (CH.le_trans lp50 le52) le55) (CH.le_trans hG1 (CH.le_trans le12 (CH.le_trans (CH.le_trans le49 le52) le55))) (CH.le_trans hG3 (CH.le_trans le12 (CH.le_trans (CH.le_trans le49 le52) le55))) r59 r60 hg58) ?_
      rintro e_ w_ ⟨rfl, C62, ha61⟩
      refine ⟨_, rfl, ?_⟩
      have C63 : Ctx _ _ _ _ F11 [CH.row g13 o14 [.slice A15 n17 c16, .slice A21 n23 c22], p19, p25] := Ctx.callL (qs := []) (rest := [CH.row g13 o14 [.slice A15 n17 c16, .slice A21 n23 c22], p19, p25]) C37 (CH.le_trans (CH.le_trans le49 le52) le55) C62
      refine WL.val (Yl.move (v := .tuple #[(.agg (List.toArray ([.int .i64 r59.Size] ++ (r59.Root.map (Value.int .u8))))), (.int .i64 r60)]) rfl) ?_
      refine WL.val (Yl.extract (v := .agg (List.toArray ([.int .i64 r59.Size] ++ (r59.Root.map (Value.int .u8))))) rfl rfl) ?_
      refine WL.val (Yl.extract (v := .int .i64 r60) rfl rfl) ?_
      obtain ⟨g64, w65, hy66, C67⟩ := ev_alloc (P := Tryd.prog) (e := 53) ([.int .i64 0] ++ ((List.replicate 32 (0 : Int)).map (Value.int .u8))) C63 zr53 rfl
      refine WL.val (hy66 _ _) ?_
      obtain ⟨w68, hy69, C70⟩ := ev_set (P := Tryd.prog) (ps1 := []) (ps2 := [CH.row g13 o14 [.slice A15 n17 c16, .slice A21 n23 c22], p19, p25]) (t := 53) (o := 0) ([.int .i64 0] ++ ((List.replicate 32 (0 : Int)).map (Value.int .u8))) [] ([.int .i64 0] ++ ((List.replicate 32 (0 : Int)).map (Value.int .u8))) [] ([.int .i64 r59.Size] ++ (r59.Root.map (Value.int .u8))) (.agg (List.toArray ([.int .i64 r59.Size] ++ (r59.Root.map (Value.int .u8))))) C67 (by first | (simp only [List.length_append, List.length_map, List.length_cons, List.length_nil, (List.length_replicate ..), ha61]; done) | simp [(List.length_replicate ..), ha61]) (by first | (simp only [List.length_append, List.length_map, List.length_cons, List.length_nil, (List.length_replicate ..), ha61]; done) | simp [(List.length_replicate ..), ha61]) (by first | (simp only [List.length_append, List.length_map, List.length_cons, List.length_nil, (List.length_replicate ..), ha61]; done) | simp [(List.length_replicate ..), ha61]) rfl (ones_append (by simp [Value.oneCell']) (one_ints _ _)) (sz_of sz53 (by first | (simp only [List.length_append, List.length_map, List.length_cons, List.length_nil, ha61]; done) | simp [ha61]))
      have C71 : Ctx _ _ _ _ F11 [CH.row g64 0 ([.int .i64 r59.Size] ++ (r59.Root.map (Value.int .u8))), CH.row g13 o14 [.slice A15 n17 c16, .slice A21 n23 c22], p19, p25] := (by simpa using C70)
      refine WL.skip (hy69 _ _ _ _ rfl rfl) ?_
      refine WL.val (Yl.assign (v := .int .i64 r60) rfl) ?_
      refine WL.done ?_
      refine W.seq ?_
      refine W.region rfl ?_
      refine WL.val (Yl.move (v := .pointer (some ⟨g13, o14, none⟩)) ho36) ?_
      refine WL.val (Yl.move (v := .int .i64 (wi64 ((wu64 a1).tmod (wu64 (wi64 (1 + (wi64 ((wu64 a2).tmod (wu64 (a0.length : Int)))))))))) rfl) ?_
      refine WL.val (Yl.move (v := .int .i64 (wi64 (1 + (wi64 ((wu64 a2).tmod (wu64 (a0.length : Int))))))) rfl) ?_
      have le72 : CH.le F11 (CH.join F11 (CH.row g13 o14 [.slice A15 n17 c16, .slice A21 n23 c22])) := CH.le_joinL _ _
      have lp73 : CH.le (CH.row g13 o14 [.slice A15 n17 c16, .slice A21 n23 c22]) (CH.join F11 (CH.row g13 o14 [.slice A15 n17 c16, .slice A21 n23 c22])) := CH.le_joinR (Ctx.dis_of [CH.row g64 0 ([.int .i64 r59.Size] ++ (r59.Root.map (Value.int .u8)))] [p19, p25] C71)
      have C74 : Ctx _ _ _ _ (CH.join F11 (CH.row g13 o14 [.slice A15 n17 c16, .slice A21 n23 c22])) [CH.row g64 0 ([.int .i64 r59.Size] ++ (r59.Root.map (Value.int .u8))), p19, p25] := Ctx.freeze [CH.row g64 0 ([.int .i64 r59.Size] ++ (r59.Root.map (Value.int .u8)))] [p19, p25] C71
      have le75 : CH.le (CH.join F11 (CH.row g13 o14 [.slice A15 n17 c16, .slice A21 n23 c22])) (CH.join (CH.join F11 (CH.row g13 o14 [.slice A15 n17 c16, .slice A21 n23 c22])) p19) := CH.le_joinL _ _
      have lp76 : CH.le p19 (CH.join (CH.join F11 (CH.row g13 o14 [.slice A15 n17 c16, .slice A21 n23 c22])) p19) := CH.le_joinR (Ctx.dis_of [CH.row g64 0 ([.int .i64 r59.Size] ++ (r59.Root.map (Value.int .u8)))] [p25] C74)
      have C77 : Ctx _ _ _ _ (CH.join (CH.join F11 (CH.row g13 o14 [.slice A15 n17 c16, .slice A21 n23 c22])) p19) [CH.row g64 0 ([.int .i64 r59.Size] ++ (r59.Root.map (Value.int .u8))), p25] := Ctx.freeze [CH.row g64 0 ([.int .i64 r59.Size] ++ (r59.Root.map (Value.int .u8)))] [p25] C74
      have le78 : CH.le (CH.join (CH.join F11 (CH.row g13 o14 [.slice A15 n17 c16, .slice A21 n23 c22])) p19) (CH.join (CH.join (CH.join F11 (CH.row g13 o14 [.slice A15 n17 c16, .slice A21 n23 c22])) p19) p25) := CH.le_joinL _ _
      have lp79 : CH.le p25 (CH.join (CH.join (CH.join F11 (CH.row g13 o14 [.slice A15 n17 c16, .slice A21 n23 c22])) p19) p25) := CH.le_joinR (Ctx.dis_of [CH.row g64 0 ([.int .i64 r59.Size] ++ (r59.Root.map (Value.int .u8)))] [] C77)
      have C80 : Ctx _ _ _ _ (CH.join (CH.join (CH.join F11 (CH.row g13 o14 [.slice A15 n17 c16, .slice A21 n23 c22])) p19) p25) [CH.row g64 0 ([.int .i64 r59.Size] ++ (r59.Root.map (Value.int .u8)))] := Ctx.freeze [CH.row g64 0 ([.int .i64 r59.Size] ++ (r59.Root.map (Value.int .u8)))] [] C77
      obtain ⟨⟨r82, r83⟩, hg81, H⟩ := bindE H
      refine WL.call (args := #[.pointer (some ⟨g13, o14, none⟩), .int .i64 (wi64 ((wu64 a1).tmod (wu64 (wi64 (1 + (wi64 ((wu64 a2).tmod (wu64 (a0.length : Int))))))))), .int .i64 (wi64 (1 + (wi64 ((wu64 a2).tmod (wu64 (a0.length : Int))))))]) (Yenter.fn Tryd.func40 (by kernel_rfl) rfl (argsE (.cons rfl (.cons rfl (.cons rfl .nil))))) (ledger_Ledger_Include.calls k _ (CH.join (CH.join (CH.join F11 (CH.row g13 o14 [.slice A15 n17 c16, .slice A21 n23 c22])) p19) p25) g13 o14 A15 c16 n17 A21 c22 n23 r9 (wi64 ((wu64 a1).tmod (wu64 (wi64 (1 + (wi64 ((wu64 a2).tmod (wu64 (a0.length : Int))))))))) (wi64 (1 + (wi64 ((wu64 a2).tmod (wu64 (a0.length : Int)))))) (Ctx.pre (qs := []) (rest := [CH.row g64 0 ([.int .i64 r59.Size] ++ (r59.Root.map (Value.int .u8)))]) C80) hn18 (Row.len_le hR20).1 (Row.len_le hR20).2.1 (Sl.mono (Row.sl hR20) (CH.le_trans (CH.le_trans le72 le75) le78) (CH.le_trans lp76 le78)) hn24 (Row.len_le hR26).1 (Row.len_le hR26).2.1 (Sl.mono (Row.sl hR26) (CH.le_trans (CH.le_trans le72 le75) le78) lp79) (CH.le_trans (CH.le_trans lp73 le75) le78) (CH.le_trans hG1 (CH.le_trans le12 (CH.le_trans (CH.le_trans le72 le75) le78))) (CH.le_trans hG3 (CH.le_trans le12 (CH.le_trans (CH.le_trans le72 le75) le78))) r82 r83 hg81) ?_
      rintro e_ w_ ⟨A84, c85, n86, p88, rfl, C90, hn87, hR89⟩
      refine ⟨_, rfl, ?_⟩
      have hR91 : Row (Kd.arrI 32 .u8) F11 p88 (.slice A84 n86 c85) r82 := hR89
      have C92 : Ctx _ _ _ _ F11 [p88, CH.row g64 0 ([.int .i64 r59.Size] ++ (r59.Root.map (Value.int .u8))), CH.row g13 o14 [.slice A15 n17 c16, .slice A21 n23 c22], p19, p25] := Ctx.callL (qs := []) (rest := [CH.row g64 0 ([.int .i64 r59.Size] ++ (r59.Root.map (Value.int .u8))), CH.row g13 o14 [.slice A15 n17 c16, .slice A21 n23 c22], p19, p25]) C71 (CH.le_trans (CH.le_trans le72 le75) le78) C90
      refine WL.val (Yl.move (v := .tuple #[(.slice A84 n86 c85), (.int .i64 r83)]) rfl) ?_
      refine WL.val (Yl.extract (v := .slice A84 n86 c85) rfl rfl) ?_
      refine WL.val (Yl.extract (v := .int .i64 r83) rfl rfl) ?_
      refine WL.val (Yl.assign (v := .slice A84 n86 c85) rfl) ?_
      refine WL.val (Yl.assign (v := .int .i64 r83) rfl) ?_
      refine WL.done ?_
      refine W.seq ?_
      obtain ⟨x268, hX270, H⟩ := bindE H
      refine W.cutM (fun env_ w_ => env_ 6 = .bool x268 ∧ Ctx w F D w_ F11 [p88, CH.row g64 0 ([.int .i64 r59.Size] ++ (r59.Root.map (Value.int .u8))), CH.row g13 o14 [.slice A15 n17 c16, .slice A21 n23 c22], p19, p25]) ?_ ?_
      · skip
        rcases iteE hX270 with ⟨hc271, hX270⟩ | ⟨hc271, hX270⟩
        · skip
          rcases iteE hX270 with ⟨hc272, hX270⟩ | ⟨hc272, hX270⟩
          · skip
            refine W.regionA [([11, 12, 18, 21], F11), ([18, 21], CH.row g64 0 ([.int .i64 r59.Size] ++ (r59.Root.map (Value.int .u8))))] (by kernel_rfl) ?_
            have C397 := Ctx.drewN C92 1
            refine WA.take none [] 0 rfl (by kernel_rfl) (by kernel_rfl) (show _ = #[true, false, false, false, false, false, false, false, false, false, false, false, false, false, false, false, false, false, false, false, false, false, false, false] from rfl) trivial ⟨(C397.fro), (Ctx.sub_of [p88] [CH.row g13 o14 [.slice A15 n17 c16, .slice A21 n23 c22], p19, p25] C397), trivial⟩ (fun _ hC_ => Yl.move (v := .int .i64 r60) rfl) ?_
            refine WA.take none [] 1 rfl (by kernel_rfl) (by kernel_rfl) (show _ = #[true, true, false, false, false, false, false, false, false, false, false, false, false, false, false, false, false, false, false, false, false, false, false, false] from rfl) trivial ⟨(C397.fro), (Ctx.sub_of [p88] [CH.row g13 o14 [.slice A15 n17 c16, .slice A21 n23 c22], p19, p25] C397), trivial⟩ (fun _ hC_ => Yl.eql (m := r60) (n := 0) (q := decide (r60 = 0)) rfl rfl rfl) ?_
            refine WA.take none [] 2 rfl (by kernel_rfl) (by kernel_rfl) (show _ = #[true, true, true, false, false, false, false, false, false, false, false, false, false, false, false, false, false, false, false, false, false, false, false, false] from rfl) trivial ⟨(C397.fro), (Ctx.sub_of [p88] [CH.row g13 o14 [.slice A15 n17 c16, .slice A21 n23 c22], p19, p25] C397), trivial⟩ (fun _ hC_ => Yl.move (v := .bool (decide (r60 = 0))) rfl) ?_
            refine WA.takeOn none [] 3 rfl rfl (congrArg Value.bool (decide_eq_true hc271)) (by kernel_rfl) (by kernel_rfl) (show _ = #[true, true, true, true, false, false, false, false, false, false, false, false, false, false, false, false, false, false, false, false, false, false, false, false] from rfl) trivial ⟨(C397.fro), (Ctx.sub_of [p88] [CH.row g13 o14 [.slice A15 n17 c16, .slice A21 n23 c22], p19, p25] C397), trivial⟩ (fun _ hC_ => Yl.move (v := .int .i64 r83) rfl) ?_
            refine WA.takeOn none [] 4 rfl rfl (congrArg Value.bool (decide_eq_true hc271)) (by kernel_rfl) (by kernel_rfl) (show _ = #[true, true, true, true, true, false, false, false, false, false, false, false, false, false, false, false, false, false, false, false, false, false, false, false] from rfl) trivial ⟨(C397.fro), (Ctx.sub_of [p88] [CH.row g13 o14 [.slice A15 n17 c16, .slice A21 n23 c22], p19, p25] C397), trivial⟩ (fun _ hC_ => Yl.eql (m := r83) (n := 0) (q := decide (r83 = 0)) rfl rfl rfl) ?_
            refine WA.take none [] 5 rfl (by kernel_rfl) (by kernel_rfl) (show _ = #[true, true, true, true, true, true, false, false, false, false, false, false, false, false, false, false, false, false, false, false, false, false, false, false] from rfl) trivial ⟨(C397.fro), (Ctx.sub_of [p88] [CH.row g13 o14 [.slice A15 n17 c16, .slice A21 n23 c22], p19, p25] C397), trivial⟩ (fun _ hC_ => Yl.pickT (v := .bool (decide (r83 = 0))) (congrArg Value.bool (decide_eq_true hc271)) rfl) ?_
            refine WA.take none [] 6 rfl (by kernel_rfl) (by kernel_rfl) (show _ = #[true, true, true, true, true, true, true, false, false, false, false, false, false, false, false, false, false, false, false, false, false, false, false, false] from rfl) trivial ⟨(C397.fro), (Ctx.sub_of [p88] [CH.row g13 o14 [.slice A15 n17 c16, .slice A21 n23 c22], p19, p25] C397), trivial⟩ (fun _ hC_ => Yl.move (v := .bool (decide (r83 = 0))) rfl) ?_
            refine WA.takeOn none [] 7 rfl rfl (congrArg Value.bool (decide_eq_true hc272)) (by kernel_rfl) (by kernel_rfl) (show _ = #[true, true, true, true, true, true, true, true, false, false, false, false, false, false, false, false, false, false, false, false, false, false, false, false] from rfl) trivial ⟨(C397.fro), (Ctx.sub_of [p88] [CH.row g13 o14 [.slice A15 n17 c16, .slice A21 n23 c22], p19, p25] C397), trivial⟩ (fun _ hC_ => Yl.move (v := .slice A1 n3 c2) ho33) ?_
            refine WA.takeOn none [] 8 rfl rfl (congrArg Value.bool (decide_eq_true hc272)) (by kernel_rfl) (by kernel_rfl) (show _ = #[true, true, true, true, true, true, true, true, true, false, false, false, false, false, false, false, false, false, false, false, false, false, false, false] from rfl) trivial ⟨(C397.fro), (Ctx.sub_of [p88] [CH.row g13 o14 [.slice A15 n17 c16, .slice A21 n23 c22], p19, p25] C397), trivial⟩ (fun _ hC_ => Yl.move (v := .int .i64 (wi64 ((wu64 a1).tmod (wu64 (wi64 (1 + (wi64 ((wu64 a2).tmod (wu64 (a0.length : Int)))))))))) rfl) ?_
            obtain ⟨hc398, hX270⟩ := guardE hX270
            obtain ⟨b399, of400, hA401, he402⟩ := hS7 (by omega)
            refine WA.takeOn none [] 9 rfl rfl (congrArg Value.bool (decide_eq_true hc272)) (by kernel_rfl) (by kernel_rfl) (show _ = #[true, true, true, true, true, true, true, true, true, true, false, false, false, false, false, false, false, false, false, false, false, false, false, false] from rfl) trivial ⟨(C397.fro), (Ctx.sub_of [p88] [CH.row g13 o14 [.slice A15 n17 c16, .slice A21 n23 c22], p19, p25] C397), trivial⟩ (fun _ hC_ => Yl.elemAddr (i := wi64 ((wu64 a1).tmod (wu64 (wi64 (1 + (wi64 ((wu64 a2).tmod (wu64 (a0.length : Int))))))))) rfl rfl hA401 Tryd.underlying49 sz28 (by omega)) ?_
            obtain ⟨cs403, hr404, hx405⟩ := he402 (wi64 ((wu64 a1).tmod (wu64 (wi64 (1 + (wi64 ((wu64 a2).tmod (wu64 (a0.length : Int))))))))).toNat _ (getD_some (d := []) (by omega))
            obtain ⟨A406, c407, rfl, hl410, hm411, hS412⟩ := hr404
            refine WA.takeOn (some 0) [11, 12, 18, 19, 20, 21, 22, 23] 10 rfl rfl (congrArg Value.bool (decide_eq_true hc272)) (by kernel_rfl) (by kernel_rfl) (show _ = #[true, true, true, true, true, true, true, true, true, true, true, false, false, false, false, false, false, false, false, false, false, false, false, false] from rfl) (C397.fro) ⟨(C397.fro), (Ctx.sub_of [p88] [CH.row g13 o14 [.slice A15 n17 c16, .slice A21 n23 c22], p19, p25] C397), trivial⟩ (fun _ hC_ => Yl.load (v := .slice A406 ((a0.getD (wi64 ((wu64 a1).tmod (wu64 (wi64 (1 + (wi64 ((wu64 a2).tmod (wu64 (a0.length : Int))))))))).toNat []).length) c407) rfl Tryd.underlying28 rfl (((Sub.mono (show Sub F11 _ from hC_) le12)).cell (hx405 0 _ rfl))) ?_
            refine WA.takeOn none [] 13 rfl rfl (congrArg Value.bool (decide_eq_true hc272)) (by kernel_rfl) (by kernel_rfl) (show _ = #[true, true, true, true, true, true, true, true, true, true, true, false, false, true, false, false, false, false, false, false, false, false, false, false] from rfl) trivial ⟨(C397.fro), (Ctx.sub_of [p88] [CH.row g13 o14 [.slice A15 n17 c16, .slice A21 n23 c22], p19, p25] C397), trivial⟩ (fun _ hC_ => Yl.move (v := .int .i64 (wi64 ((wu64 a1).tmod (wu64 (wi64 (1 + (wi64 ((wu64 a2).tmod (wu64 (a0.length : Int)))))))))) rfl) ?_
            refine WA.takeOn none [] 14 rfl rfl (congrArg Value.bool (decide_eq_true hc272)) (by kernel_rfl) (by kernel_rfl) (show _ = #[true, true, true, true, true, true, true, true, true, true, true, false, false, true, true, false, false, false, false, false, false, false, false, false] from rfl) trivial ⟨(C397.fro), (Ctx.sub_of [p88] [CH.row g13 o14 [.slice A15 n17 c16, .slice A21 n23 c22], p19, p25] C397), trivial⟩ (fun _ hC_ => Yl.move (v := .int .i64 (wi64 (1 + (wi64 ((wu64 a2).tmod (wu64 (a0.length : Int))))))) rfl) ?_
            refine WA.takeOn none [] 15 rfl rfl (congrArg Value.bool (decide_eq_true hc272)) (by kernel_rfl) (by kernel_rfl) (show _ = #[true, true, true, true, true, true, true, true, true, true, true, false, false, true, true, true, false, false, false, false, false, false, false, false] from rfl) trivial ⟨(C397.fro), (Ctx.sub_of [p88] [CH.row g13 o14 [.slice A15 n17 c16, .slice A21 n23 c22], p19, p25] C397), trivial⟩ (fun _ hC_ => Yl.move (v := .slice A84 n86 c85) rfl) ?_
            refine WA.takeOn none [] 16 rfl rfl (congrArg Value.bool (decide_eq_true hc272)) (by kernel_rfl) (by kernel_rfl) (show _ = #[true, true, true, true, true, true, true, true, true, true, true, false, false, true, true, true, true, false, false, false, false, false, false, false] from rfl) trivial ⟨(C397.fro), (Ctx.sub_of [p88] [CH.row g13 o14 [.slice A15 n17 c16, .slice A21 n23 c22], p19, p25] C397), trivial⟩ (fun _ hC_ => Yl.fieldAddr (i := 1) rfl Tryd.underlying53 rfl sz33) ?_
            refine WA.takeOn (some 1) [18, 19, 20, 21, 22, 23] 17 rfl rfl (congrArg Value.bool (decide_eq_true hc272)) (by kernel_rfl) (by kernel_rfl) (show _ = #[true, true, true, true, true, true, true, true, true, true, true, false, false, true, true, true, true, true, false, false, false, false, false, false] from rfl) (Ctx.sub_of [p88] [CH.row g13 o14 [.slice A15 n17 c16, .slice A21 n23 c22], p19, p25] C397) ⟨(C397.fro), (Ctx.sub_of [p88] [CH.row g13 o14 [.slice A15 n17 c16, .slice A21 n23 c22], p19, p25] C397), trivial⟩ (fun _ hC_ => Yl.loadVA (g := g64) (off := 0) (o := 1) (cs := [.int .i64 r59.Size] ++ (r59.Root.map (Value.int .u8))) (us := r59.Root.map (Value.int .u8)) rfl Tryd.underlying33 rfl (sz_of sz33 (by first | (simp only [List.length_append, List.length_map, List.length_cons, List.length_nil, ha61]; done) | simp [ha61])) (show Sub (CH.row g64 0 ([.int .i64 r59.Size] ++ (r59.Root.map (Value.int .u8)))) _ from hC_) (take_mid (pre := [.int .i64 r59.Size]) (us := r59.Root.map (Value.int .u8)) (post := []) (by first | (simp only [List.length_append, List.length_map, List.length_cons, List.length_nil, ha61]; done) | simp [ha61]) (by first | (simp only [List.length_append, List.length_map, List.length_cons, List.length_nil, ha61]; done) | simp [ha61]))) ?_
            obtain ⟨r414, hg413, hX270⟩ := bindE hX270
            refine WA.up1 11 (by kernel_rfl) (Up.callG (args := #[.slice A406 ((a0.getD (wi64 ((wu64 a1).tmod (wu64 (wi64 (1 + (wi64 ((wu64 a2).tmod (wu64 (a0.length : Int))))))))).toNat []).length) c407]) rfl rfl (congrArg Value.bool (decide_eq_true hc272)) (by kernel_rfl) (show _ = #[true, true, true, true, true, true, true, true, true, true, true, true, false, true, true, true, true, true, false, false, false, false, false, false] from rfl) (Yenter.fn Tryd.func41 (by kernel_rfl) rfl (argsE (.cons rfl .nil))) (juratlaw09_own.calls k _ F11 A406 c407 ((a0.getD (wi64 ((wu64 a1).tmod (wu64 (wi64 (1 + (wi64 ((wu64 a2).tmod (wu64 (a0.length : Int))))))))).toNat []).length) (a0.getD (wi64 ((wu64 a1).tmod (wu64 (wi64 (1 + (wi64 ((wu64 a2).tmod (wu64 (a0.length : Int))))))))).toNat []) (Ctx.pre (qs := []) (rest := [p88, CH.row g64 0 ([.int .i64 r59.Size] ++ (r59.Root.map (Value.int .u8))), CH.row g13 o14 [.slice A15 n17 c16, .slice A21 n23 c22], p19, p25]) C397) rfl hl410 hm411 (Sl.mono hS412 le12 le12) r414 hg413) ?_)
            rintro e_ w_ ⟨A415, c416, n417, p419, rfl, C421, hn418, hR420⟩
            have C422 : Ctx _ _ _ _ F11 [p419, p88, CH.row g64 0 ([.int .i64 r59.Size] ++ (r59.Root.map (Value.int .u8))), CH.row g13 o14 [.slice A15 n17 c16, .slice A21 n23 c22], p19, p25] := Ctx.call (qs := []) (rest := [p88, CH.row g64 0 ([.int .i64 r59.Size] ++ (r59.Root.map (Value.int .u8))), CH.row g13 o14 [.slice A15 n17 c16, .slice A21 n23 c22], p19, p25]) C397 C421
            refine ⟨_, rfl, ⟨trivial, (Ctx.sub_of [p419, p88] [CH.row g13 o14 [.slice A15 n17 c16, .slice A21 n23 c22], p19, p25] C422), trivial⟩, ?_⟩
            have le423 : CH.le F11 (CH.join F11 p419) := CH.le_joinL _ _
            have lp424 : CH.le p419 (CH.join F11 p419) := CH.le_joinR (Ctx.dis_of [] [p88, CH.row g64 0 ([.int .i64 r59.Size] ++ (r59.Root.map (Value.int .u8))), CH.row g13 o14 [.slice A15 n17 c16, .slice A21 n23 c22], p19, p25] C422)
            have C425 : Ctx _ _ _ _ (CH.join F11 p419) [p88, CH.row g64 0 ([.int .i64 r59.Size] ++ (r59.Root.map (Value.int .u8))), CH.row g13 o14 [.slice A15 n17 c16, .slice A21 n23 c22], p19, p25] := Ctx.freeze [] [p88, CH.row g64 0 ([.int .i64 r59.Size] ++ (r59.Root.map (Value.int .u8))), CH.row g13 o14 [.slice A15 n17 c16, .slice A21 n23 c22], p19, p25] C422
            obtain ⟨r427, hg426, hX270⟩ := bindE hX270
            refine WA.up1 12 (by kernel_rfl) (Up.callG (args := #[.slice A415 n417 c416]) rfl rfl (congrArg Value.bool (decide_eq_true hc272)) (by kernel_rfl) (show _ = #[true, true, true, true, true, true, true, true, true, true, true, true, true, true, true, true, true, true, false, false, false, false, false, false] from rfl) (Yenter.fn Tryd.func27 (by kernel_rfl) rfl (argsE (.cons rfl .nil))) (proof_Leaf.calls k _ (CH.join F11 p419) A415 c416 n417 r414 (Ctx.pre (qs := []) (rest := [p88, CH.row g64 0 ([.int .i64 r59.Size] ++ (r59.Root.map (Value.int .u8))), CH.row g13 o14 [.slice A15 n17 c16, .slice A21 n23 c22], p19, p25]) C425) hn418 (Row.len_le hR420).1 (Row.len_le hR420).2.1 (Sl.mono (Row.sl hR420) le423 lp424) (CH.le_trans hG1 (CH.le_trans le12 le423)) (CH.le_trans hG3 (CH.le_trans le12 le423)) r427 hg426) ?_)
            rintro e_ w_ ⟨rfl, C429, ha428⟩
            have C430 : Ctx _ _ _ _ F11 [p419, p88, CH.row g64 0 ([.int .i64 r59.Size] ++ (r59.Root.map (Value.int .u8))), CH.row g13 o14 [.slice A15 n17 c16, .slice A21 n23 c22], p19, p25] := Ctx.callL (qs := []) (rest := [p419, p88, CH.row g64 0 ([.int .i64 r59.Size] ++ (r59.Root.map (Value.int .u8))), CH.row g13 o14 [.slice A15 n17 c16, .slice A21 n23 c22], p19, p25]) C422 le423 C429
            refine ⟨_, rfl, ⟨trivial, (Ctx.sub_of [p419, p88] [CH.row g13 o14 [.slice A15 n17 c16, .slice A21 n23 c22], p19, p25] C430), trivial⟩, ?_⟩
            have le431 : CH.le F11 (CH.join F11 p88) := CH.le_joinL _ _
            have lp432 : CH.le p88 (CH.join F11 p88) := CH.le_joinR (Ctx.dis_of [p419] [CH.row g64 0 ([.int .i64 r59.Size] ++ (r59.Root.map (Value.int .u8))), CH.row g13 o14 [.slice A15 n17 c16, .slice A21 n23 c22], p19, p25] C430)
            have C433 : Ctx _ _ _ _ (CH.join F11 p88) [p419, CH.row g64 0 ([.int .i64 r59.Size] ++ (r59.Root.map (Value.int .u8))), CH.row g13 o14 [.slice A15 n17 c16, .slice A21 n23 c22], p19, p25] := Ctx.freeze [p419] [CH.row g64 0 ([.int .i64 r59.Size] ++ (r59.Root.map (Value.int .u8))), CH.row g13 o14 [.slice A15 n17 c16, .slice A21 n23 c22], p19, p25] C430
            obtain ⟨r435, hg434, hX270⟩ := bindE hX270
            refine WA.up1 18 (by kernel_rfl) (Up.callG (args := #[.agg (List.toArray (r427.map (Value.int .u8))), .int .i64 (wi64 ((wu64 a1).tmod (wu64 (wi64 (1 + (wi64 ((wu64 a2).tmod (wu64 (a0.length : Int))))))))), .int .i64 (wi64 (1 + (wi64 ((wu64 a2).tmod (wu64 (a0.length : Int)))))), .slice A84 n86 c85, .agg (List.toArray (r59.Root.map (Value.int .u8)))]) rfl rfl (congrArg Value.bool (decide_eq_true hc272)) (by kernel_rfl) (show _ = #[true, true, true, true, true, true, true, true, true, true, true, true, true, true, true, true, true, true, true, false, false, false, false, false] from rfl) (Yenter.fn Tryd.func34 (by kernel_rfl) rfl (argsE (.cons rfl (.cons rfl (.cons rfl (.cons rfl (.cons rfl .nil))))))) (proof_Included.calls k _ (CH.join F11 p88) r427 (wi64 ((wu64 a1).tmod (wu64 (wi64 (1 + (wi64 ((wu64 a2).tmod (wu64 (a0.length : Int))))))))) (wi64 (1 + (wi64 ((wu64 a2).tmod (wu64 (a0.length : Int)))))) A84 c85 n86 r82 r59.Root (Ctx.pre (qs := []) (rest := [p419, CH.row g64 0 ([.int .i64 r59.Size] ++ (r59.Root.map (Value.int .u8))), CH.row g13 o14 [.slice A15 n17 c16, .slice A21 n23 c22], p19, p25]) C433) ha428 hn87 (Row.len_le hR91).1 (Row.len_le hR91).2.1 (Sl.mono (Row.sl hR91) le431 lp432) ha61 (CH.le_trans hG1 (CH.le_trans le12 le431)) (CH.le_trans hG3 (CH.le_trans le12 le431)) r435 hg434) ?_)
            rintro e_ w_ ⟨rfl, C436⟩
            have C437 : Ctx _ _ _ _ F11 [p419, p88, CH.row g64 0 ([.int .i64 r59.Size] ++ (r59.Root.map (Value.int .u8))), CH.row g13 o14 [.slice A15 n17 c16, .slice A21 n23 c22], p19, p25] := Ctx.callL (qs := []) (rest := [p419, p88, CH.row g64 0 ([.int .i64 r59.Size] ++ (r59.Root.map (Value.int .u8))), CH.row g13 o14 [.slice A15 n17 c16, .slice A21 n23 c22], p19, p25]) C430 le431 C436
            refine ⟨_, rfl, ⟨trivial, trivial, trivial⟩, ?_⟩
            refine WA.take none [] 19 rfl (by kernel_rfl) (by kernel_rfl) (show _ = #[true, true, true, true, true, true, true, true, true, true, true, true, true, true, true, true, true, true, true, true, false, false, false, false] from rfl) trivial ⟨trivial, trivial, trivial⟩ (fun _ hC_ => Yl.pickT (v := .bool r435) (congrArg Value.bool (decide_eq_true hc272)) rfl) ?_
            refine WA.take none [] 20 rfl (by kernel_rfl) (by kernel_rfl) (show _ = #[true, true, true, true, true, true, true, true, true, true, true, true, true, true, true, true, true, true, true, true, true, false, false, false] from rfl) trivial ⟨trivial, trivial, trivial⟩ (fun _ hC_ => Yl.move (v := .bool r435) rfl) ?_
            rcases iteE hX270 with ⟨hc438, hX270⟩ | ⟨hc438, hX270⟩
            · skip
              obtain ⟨r440, hg439, hX270⟩ := bindE hX270
              refine WA.up1 21 (by kernel_rfl) (Up.callG (args := #[]) rfl rfl (congrArg Value.bool hc438) (by kernel_rfl) (show _ = #[true, true, true, true, true, true, true, true, true, true, true, true, true, true, true, true, true, true, true, true, true, true, false, false] from rfl) (Yenter.fn Tryd.func17 (by kernel_rfl) rfl (argsE .nil)) (juratlaw09_awake.calls k _ F11  (Ctx.pre (qs := []) (rest := [p419, p88, CH.row g64 0 ([.int .i64 r59.Size] ++ (r59.Root.map (Value.int .u8))), CH.row g13 o14 [.slice A15 n17 c16, .slice A21 n23 c22], p19, p25]) C437) (CH.le_trans hG1 (CH.le_trans le12 (CH.le_refl _))) (CH.le_trans hG3 (CH.le_trans le12 (CH.le_refl _))) r440 hg439) ?_)
              rintro e_ w_ ⟨rfl, C441⟩
              have C442 : Ctx _ _ _ _ F11 [p419, p88, CH.row g64 0 ([.int .i64 r59.Size] ++ (r59.Root.map (Value.int .u8))), CH.row g13 o14 [.slice A15 n17 c16, .slice A21 n23 c22], p19, p25] := Ctx.call (qs := []) (rest := [p419, p88, CH.row g64 0 ([.int .i64 r59.Size] ++ (r59.Root.map (Value.int .u8))), CH.row g13 o14 [.slice A15 n17 c16, .slice A21 n23 c22], p19, p25]) C437 C441
              refine ⟨_, rfl, ⟨trivial, trivial, trivial⟩, ?_⟩
              refine WA.take none [] 22 rfl (by kernel_rfl) (by kernel_rfl) (show _ = #[true, true, true, true, true, true, true, true, true, true, true, true, true, true, true, true, true, true, true, true, true, true, true, false] from rfl) trivial ⟨trivial, trivial, trivial⟩ (fun _ hC_ => Yl.pickT (v := .bool r440) (congrArg Value.bool hc438) rfl) ?_
              refine WA.take none [] 23 rfl (by kernel_rfl) (by kernel_rfl) (show _ = #[true, true, true, true, true, true, true, true, true, true, true, true, true, true, true, true, true, true, true, true, true, true, true, true] from rfl) trivial ⟨trivial, trivial, trivial⟩ (fun _ hC_ => Yl.assign (v := .bool r440) rfl) ?_
              refine WA.done (by kernel_rfl) ?_
              have C443 : Ctx _ _ _ _ F11 [p88, CH.row g64 0 ([.int .i64 r59.Size] ++ (r59.Root.map (Value.int .u8))), CH.row g13 o14 [.slice A15 n17 c16, .slice A21 n23 c22], p19, p25] := Ctx.drop [] [p88, CH.row g64 0 ([.int .i64 r59.Size] ++ (r59.Root.map (Value.int .u8))), CH.row g13 o14 [.slice A15 n17 c16, .slice A21 n23 c22], p19, p25] C442
              cases hX270
              refine thenE_n ?_
              exact ⟨rfl, C443⟩
            · skip
              refine WA.up1Off 21 (by kernel_rfl) rfl rfl (congrArg Value.bool (Bool.eq_false_iff.2 hc438)) rfl (show _ = #[true, true, true, true, true, true, true, true, true, true, true, true, true, true, true, true, true, true, true, true, true, true, false, false] from rfl) ⟨trivial, trivial, trivial⟩ ?_
              refine WA.take none [] 22 rfl (by kernel_rfl) (by kernel_rfl) (show _ = #[true, true, true, true, true, true, true, true, true, true, true, true, true, true, true, true, true, true, true, true, true, true, true, false] from rfl) trivial ⟨trivial, trivial, trivial⟩ (fun _ hC_ => Yl.pickF (v := .bool false) (congrArg Value.bool (Bool.eq_false_iff.2 hc438)) rfl) ?_
              refine WA.take none [] 23 rfl (by kernel_rfl) (by kernel_rfl) (show _ = #[true, true, true, true, true, true, true, true, true, true, true, true, true, true, true, true, true, true, true, true, true, true, true, true] from rfl) trivial ⟨trivial, trivial, trivial⟩ (fun _ hC_ => Yl.assign (v := .bool false) rfl) ?_
              refine WA.done (by kernel_rfl) ?_
              have C444 : Ctx _ _ _ _ F11 [p88, CH.row g64 0 ([.int .i64 r59.Size] ++ (r59.Root.map (Value.int .u8))), CH.row g13 o14 [.slice A15 n17 c16, .slice A21 n23 c22], p19, p25] := Ctx.drop [] [p88, CH.row g64 0 ([.int .i64 r59.Size] ++ (r59.Root.map (Value.int .u8))), CH.row g13 o14 [.slice A15 n17 c16, .slice A21 n23 c22], p19, p25] C437
              cases hX270
              refine thenE_n ?_
              exact ⟨rfl, C444⟩
          · skip
            refine W.regionA [] (by kernel_rfl) ?_
            have C445 := Ctx.drewN C92 1
            refine WA.take none [] 0 rfl (by kernel_rfl) (by kernel_rfl) (show _ = #[true, false, false, false, false, false, false, false, false, false, false, false, false, false, false, false, false, false, false, false, false, false, false, false] from rfl) trivial trivial (fun _ hC_ => Yl.move (v := .int .i64 r60) rfl) ?_
            refine WA.take none [] 1 rfl (by kernel_rfl) (by kernel_rfl) (show _ = #[true, true, false, false, false, false, false, false, false, false, false, false, false, false, false, false, false, false, false, false, false, false, false, false] from rfl) trivial trivial (fun _ hC_ => Yl.eql (m := r60) (n := 0) (q := decide (r60 = 0)) rfl rfl rfl) ?_
            refine WA.take none [] 2 rfl (by kernel_rfl) (by kernel_rfl) (show _ = #[true, true, true, false, false, false, false, false, false, false, false, false, false, false, false, false, false, false, false, false, false, false, false, false] from rfl) trivial trivial (fun _ hC_ => Yl.move (v := .bool (decide (r60 = 0))) rfl) ?_
            refine WA.takeOn none [] 3 rfl rfl (congrArg Value.bool (decide_eq_true hc271)) (by kernel_rfl) (by kernel_rfl) (show _ = #[true, true, true, true, false, false, false, false, false, false, false, false, false, false, false, false, false, false, false, false, false, false, false, false] from rfl) trivial trivial (fun _ hC_ => Yl.move (v := .int .i64 r83) rfl) ?_
            refine WA.takeOn none [] 4 rfl rfl (congrArg Value.bool (decide_eq_true hc271)) (by kernel_rfl) (by kernel_rfl) (show _ = #[true, true, true, true, true, false, false, false, false, false, false, false, false, false, false, false, false, false, false, false, false, false, false, false] from rfl) trivial trivial (fun _ hC_ => Yl.eql (m := r83) (n := 0) (q := decide (r83 = 0)) rfl rfl rfl) ?_
            refine WA.take none [] 5 rfl (by kernel_rfl) (by kernel_rfl) (show _ = #[true, true, true, true, true, true, false, false, false, false, false, false, false, false, false, false, false, false, false, false, false, false, false, false] from rfl) trivial trivial (fun _ hC_ => Yl.pickT (v := .bool (decide (r83 = 0))) (congrArg Value.bool (decide_eq_true hc271)) rfl) ?_
            refine WA.take none [] 6 rfl (by kernel_rfl) (by kernel_rfl) (show _ = #[true, true, true, true, true, true, true, false, false, false, false, false, false, false, false, false, false, false, false, false, false, false, false, false] from rfl) trivial trivial (fun _ hC_ => Yl.move (v := .bool (decide (r83 = 0))) rfl) ?_
            refine WA.takeOff 7 rfl rfl (congrArg Value.bool (decide_eq_false hc272)) (by kernel_rfl) (by kernel_rfl) (show _ = #[true, true, true, true, true, true, true, true, false, false, false, false, false, false, false, false, false, false, false, false, false, false, false, false] from rfl) trivial ?_
            refine WA.takeOff 8 rfl rfl (congrArg Value.bool (decide_eq_false hc272)) (by kernel_rfl) (by kernel_rfl) (show _ = #[true, true, true, true, true, true, true, true, true, false, false, false, false, false, false, false, false, false, false, false, false, false, false, false] from rfl) trivial ?_
            refine WA.takeOff 9 rfl rfl (congrArg Value.bool (decide_eq_false hc272)) (by kernel_rfl) (by kernel_rfl) (show _ = #[true, true, true, true, true, true, true, true, true, true, false, false, false, false, false, false, false, false, false, false, false, false, false, false] from rfl) trivial ?_
            refine WA.takeOff 10 rfl rfl (congrArg Value.bool (decide_eq_false hc272)) (by kernel_rfl) (by kernel_rfl) (show _ = #[true, true, true, true, true, true, true, true, true, true, true, false, false, false, false, false, false, false, false, false, false, false, false, false] from rfl) trivial ?_
            refine WA.takeOff 11 rfl rfl (congrArg Value.bool (decide_eq_false hc272)) (by kernel_rfl) (by kernel_rfl) (show _ = #[true, true, true, true, true, true, true, true, true, true, true, true, false, false, false, false, false, false, false, false, false, false, false, false] from rfl) trivial ?_
            refine WA.takeOff 12 rfl rfl (congrArg Value.bool (decide_eq_false hc272)) (by kernel_rfl) (by kernel_rfl) (show _ = #[true, true, true, true, true, true, true, true, true, true, true, true, true, false, false, false, false, false, false, false, false, false, false, false] from rfl) trivial ?_
            refine WA.takeOff 13 rfl rfl (congrArg Value.bool (decide_eq_false hc272)) (by kernel_rfl) (by kernel_rfl) (show _ = #[true, true, true, true, true, true, true, true, true, true, true, true, true, true, false, false, false, false, false, false, false, false, false, false] from rfl) trivial ?_
            refine WA.takeOff 14 rfl rfl (congrArg Value.bool (decide_eq_false hc272)) (by kernel_rfl) (by kernel_rfl) (show _ = #[true, true, true, true, true, true, true, true, true, true, true, true, true, true, true, false, false, false, false, false, false, false, false, false] from rfl) trivial ?_
            refine WA.takeOff 15 rfl rfl (congrArg Value.bool (decide_eq_false hc272)) (by kernel_rfl) (by kernel_rfl) (show _ = #[true, true, true, true, true, true, true, true, true, true, true, true, true, true, true, true, false, false, false, false, false, false, false, false] from rfl) trivial ?_
            refine WA.takeOff 16 rfl rfl (congrArg Value.bool (decide_eq_false hc272)) (by kernel_rfl) (by kernel_rfl) (show _ = #[true, true, true, true, true, true, true, true, true, true, true, true, true, true, true, true, true, false, false, false, false, false, false, false] from rfl) trivial ?_
            refine WA.takeOff 17 rfl rfl (congrArg Value.bool (decide_eq_false hc272)) (by kernel_rfl) (by kernel_rfl) (show _ = #[true, true, true, true, true, true, true, true, true, true, true, true, true, true, true, true, true, true, false, false, false, false, false, false] from rfl) trivial ?_
            refine WA.takeOff 18 rfl rfl (congrArg Value.bool (decide_eq_false hc272)) (by kernel_rfl) (by kernel_rfl) (show _ = #[true, true, true, true, true, true, true, true, true, true, true, true, true, true, true, true, true, true, true, false, false, false, false, false] from rfl) trivial ?_
            refine WA.take none [] 19 rfl (by kernel_rfl) (by kernel_rfl) (show _ = #[true, true, true, true, true, true, true, true, true, true, true, true, true, true, true, true, true, true, true, true, false, false, false, false] from rfl) trivial trivial (fun _ hC_ => Yl.pickF (v := .bool false) (congrArg Value.bool (decide_eq_false hc272)) rfl) ?_
            refine WA.take none [] 20 rfl (by kernel_rfl) (by kernel_rfl) (show _ = #[true, true, true, true, true, true, true, true, true, true, true, true, true, true, true, true, true, true, true, true, true, false, false, false] from rfl) trivial trivial (fun _ hC_ => Yl.move (v := .bool false) rfl) ?_
            refine WA.takeOff 21 rfl rfl rfl (by kernel_rfl) (by kernel_rfl) (show _ = #[true, true, true, true, true, true, true, true, true, true, true, true, true, true, true, true, true, true, true, true, true, true, false, false] from rfl) trivial ?_
            refine WA.take none [] 22 rfl (by kernel_rfl) (by kernel_rfl) (show _ = #[true, true, true, true, true, true, true, true, true, true, true, true, true, true, true, true, true, true, true, true, true, true, true, false] from rfl) trivial trivial (fun _ hC_ => Yl.pickF (v := .bool false) rfl rfl) ?_
            refine WA.take none [] 23 rfl (by kernel_rfl) (by kernel_rfl) (show _ = #[true, true, true, true, true, true, true, true, true, true, true, true, true, true, true, true, true, true, true, true, true, true, true, true] from rfl) trivial trivial (fun _ hC_ => Yl.assign (v := .bool false) rfl) ?_
            refine WA.done (by kernel_rfl) ?_
            cases hX270
            refine thenE_n ?_
            exact ⟨rfl, C445⟩
        · skip
          refine W.regionA [] (by kernel_rfl) ?_
          have C446 := Ctx.drewN C92 1
          refine WA.take none [] 0 rfl (by kernel_rfl) (by kernel_rfl) (show _ = #[true, false, false, false, false, false, false, false, false, false, false, false, false, false, false, false, false, false, false, false, false, false, false, false] from rfl) trivial trivial (fun _ hC_ => Yl.move (v := .int .i64 r60) rfl) ?_
          refine WA.take none [] 1 rfl (by kernel_rfl) (by kernel_rfl) (show _ = #[true, true, false, false, false, false, false, false, false, false, false, false, false, false, false, false, false, false, false, false, false, false, false, false] from rfl) trivial trivial (fun _ hC_ => Yl.eql (m := r60) (n := 0) (q := decide (r60 = 0)) rfl rfl rfl) ?_
          refine WA.take none [] 2 rfl (by kernel_rfl) (by kernel_rfl) (show _ = #[true, true, true, false, false, false, false, false, false, false, false, false, false, false, false, false, false, false, false, false, false, false, false, false] from rfl) trivial trivial (fun _ hC_ => Yl.move (v := .bool (decide (r60 = 0))) rfl) ?_
          refine WA.takeOff 3 rfl rfl (congrArg Value.bool (decide_eq_false hc271)) (by kernel_rfl) (by kernel_rfl) (show _ = #[true, true, true, true, false, false, false, false, false, false, false, false, false, false, false, false, false, false, false, false, false, false, false, false] from rfl) trivial ?_
          refine WA.takeOff 4 rfl rfl (congrArg Value.bool (decide_eq_false hc271)) (by kernel_rfl) (by kernel_rfl) (show _ = #[true, true, true, true, true, false, false, false, false, false, false, false, false, false, false, false, false, false, false, false, false, false, false, false] from rfl) trivial ?_
          refine WA.take none [] 5 rfl (by kernel_rfl) (by kernel_rfl) (show _ = #[true, true, true, true, true, true, false, false, false, false, false, false, false, false, false, false, false, false, false, false, false, false, false, false] from rfl) trivial trivial (fun _ hC_ => Yl.pickF (v := .bool false) (congrArg Value.bool (decide_eq_false hc271)) rfl) ?_
          refine WA.take none [] 6 rfl (by kernel_rfl) (by kernel_rfl) (show _ = #[true, true, true, true, true, true, true, false, false, false, false, false, false, false, false, false, false, false, false, false, false, false, false, false] from rfl) trivial trivial (fun _ hC_ => Yl.move (v := .bool false) rfl) ?_
          refine WA.takeOff 7 rfl rfl rfl (by kernel_rfl) (by kernel_rfl) (show _ = #[true, true, true, true, true, true, true, true, false, false, false, false, false, false, false, false, false, false, false, false, false, false, false, false] from rfl) trivial ?_
          refine WA.takeOff 8 rfl rfl rfl (by kernel_rfl) (by kernel_rfl) (show _ = #[true, true, true, true, true, true, true, true, true, false, false, false, false, false, false, false, false, false, false, false, false, false, false, false] from rfl) trivial ?_
          refine WA.takeOff 9 rfl rfl rfl (by kernel_rfl) (by kernel_rfl) (show _ = #[true, true, true, true, true, true, true, true, true, true, false, false, false, false, false, false, false, false, false, false, false, false, false, false] from rfl) trivial ?_
          refine WA.takeOff 10 rfl rfl rfl (by kernel_rfl) (by kernel_rfl) (show _ = #[true, true, true, true, true, true, true, true, true, true, true, false, false, false, false, false, false, false, false, false, false, false, false, false] from rfl) trivial ?_
          refine WA.takeOff 11 rfl rfl rfl (by kernel_rfl) (by kernel_rfl) (show _ = #[true, true, true, true, true, true, true, true, true, true, true, true, false, false, false, false, false, false, false, false, false, false, false, false] from rfl) trivial ?_
          refine WA.takeOff 12 rfl rfl rfl (by kernel_rfl) (by kernel_rfl) (show _ = #[true, true, true, true, true, true, true, true, true, true, true, true, true, false, false, false, false, false, false, false, false, false, false, false] from rfl) trivial ?_
          refine WA.takeOff 13 rfl rfl rfl (by kernel_rfl) (by kernel_rfl) (show _ = #[true, true, true, true, true, true, true, true, true, true, true, true, true, true, false, false, false, false, false, false, false, false, false, false] from rfl) trivial ?_
          refine WA.takeOff 14 rfl rfl rfl (by kernel_rfl) (by kernel_rfl) (show _ = #[true, true, true, true, true, true, true, true, true, true, true, true, true, true, true, false, false, false, false, false, false, false, false, false] from rfl) trivial ?_
          refine WA.takeOff 15 rfl rfl rfl (by kernel_rfl) (by kernel_rfl) (show _ = #[true, true, true, true, true, true, true, true, true, true, true, true, true, true, true, true, false, false, false, false, false, false, false, false] from rfl) trivial ?_
          refine WA.takeOff 16 rfl rfl rfl (by kernel_rfl) (by kernel_rfl) (show _ = #[true, true, true, true, true, true, true, true, true, true, true, true, true, true, true, true, true, false, false, false, false, false, false, false] from rfl) trivial ?_
          refine WA.takeOff 17 rfl rfl rfl (by kernel_rfl) (by kernel_rfl) (show _ = #[true, true, true, true, true, true, true, true, true, true, true, true, true, true, true, true, true, true, false, false, false, false, false, false] from rfl) trivial ?_
          refine WA.takeOff 18 rfl rfl rfl (by kernel_rfl) (by kernel_rfl) (show _ = #[true, true, true, true, true, true, true, true, true, true, true, true, true, true, true, true, true, true, true, false, false, false, false, false] from rfl) trivial ?_
          refine WA.take none [] 19 rfl (by kernel_rfl) (by kernel_rfl) (show _ = #[true, true, true, true, true, true, true, true, true, true, true, true, true, true, true, true, true, true, true, true, false, false, false, false] from rfl) trivial trivial (fun _ hC_ => Yl.pickF (v := .bool false) rfl rfl) ?_
          refine WA.take none [] 20 rfl (by kernel_rfl) (by kernel_rfl) (show _ = #[true, true, true, true, true, true, true, true, true, true, true, true, true, true, true, true, true, true, true, true, true, false, false, false] from rfl) trivial trivial (fun _ hC_ => Yl.move (v := .bool false) rfl) ?_
          refine WA.takeOff 21 rfl rfl rfl (by kernel_rfl) (by kernel_rfl) (show _ = #[true, true, true, true, true, true, true, true, true, true, true, true, true, true, true, true, true, true, true, true, true, true, false, false] from rfl) trivial ?_
          refine WA.take none [] 22 rfl (by kernel_rfl) (by kernel_rfl) (show _ = #[true, true, true, true, true, true, true, true, true, true, true, true, true, true, true, true, true, true, true, true, true, true, true, false] from rfl) trivial trivial (fun _ hC_ => Yl.pickF (v := .bool false) rfl rfl) ?_
          refine WA.take none [] 23 rfl (by kernel_rfl) (by kernel_rfl) (show _ = #[true, true, true, true, true, true, true, true, true, true, true, true, true, true, true, true, true, true, true, true, true, true, true, true] from rfl) trivial trivial (fun _ hC_ => Yl.assign (v := .bool false) rfl) ?_
          refine WA.done (by kernel_rfl) ?_
          cases hX270
          refine thenE_n ?_
          exact ⟨rfl, C446⟩
      · skip
        rintro env_ w_ ⟨ho267, C269⟩
        refine W.ret ?_
        have C447 : Ctx _ _ _ _ F11 [CH.row g64 0 ([.int .i64 r59.Size] ++ (r59.Root.map (Value.int .u8))), CH.row g13 o14 [.slice A15 n17 c16, .slice A21 n23 c22], p19, p25] := Ctx.drop [] [CH.row g64 0 ([.int .i64 r59.Size] ++ (r59.Root.map (Value.int .u8))), CH.row g13 o14 [.slice A15 n17 c16, .slice A21 n23 c22], p19, p25] C269
        have C448 : Ctx _ _ _ _ F11 [CH.row g13 o14 [.slice A15 n17 c16, .slice A21 n23 c22], p19, p25] := Ctx.drop [] [CH.row g13 o14 [.slice A15 n17 c16, .slice A21 n23 c22], p19, p25] C447
        have C449 : Ctx _ _ _ _ F11 [p19, p25] := Ctx.drop [] [p19, p25] C448
        have C450 : Ctx _ _ _ _ F11 [p25] := Ctx.drop [] [p25] C449
        have C451 : Ctx _ _ _ _ F11 [] := Ctx.drop [] [] C450
        have e452 := Option.some.inj H
        subst e452
        exact post_r (resE1 rfl ho267) ⟨rfl, (Ctx.weak C451 (CH.le_refl _))⟩
end Go.Proofs.YthdlfclkcdnenaaDoor
