/- Functions of the program: each as a plain function of numbers and lists, and the proof that the program's own comes to it. Nothing is assumed but what each theorem says. -/
import Derived.Test.YthdlfclkcdnenaaDoorGh
namespace Go.Proofs.YthdlfclkcdnenaaDoor
open Go.RowKit Go.WG
set_option linter.unusedVariables false
set_option linter.unusedSimpArgs false

/-! ### jurat/juratlaw09.LedgerFull: function 3 -/
def juratlaw09_LedgerFull.l1 : Nat → Int → Int → TLedger → Option (Sum TLedger Bool)
  | 0, _, _, _ => none
  | k + 1, a0, x293, x294 => if x293 < a0 then ((ledger_Ledger_Append.f k x294 [wu8 x293]).bind fun ⟨r381, r382, r383⟩ => if (((decide (x293 < 4096)) && ((!decide (r381 = x293)) || (!decide (r382 = 0)))) || ((decide (x293 ≥ 4096)) && ((!decide (r381 = 0)) || (!decide (r382 = 90))))) = true then (some (Sum.inr false)) else (juratlaw09_LedgerFull.l1 k a0 (wi64 (x293 + 1)) r383)) else (some (Sum.inl x294))
def juratlaw09_LedgerFull.f (k : Nat) (a0 : Int) : Option Bool := if ((decide (a0 < 0)) || (decide (a0 > 4200))) = true then ((juratlaw09_awake.f k ).bind fun r7 => some r7) else ((ledger_New.f k ).bind fun r12 => (juratlaw09_LedgerFull.l1 k a0 0 r12).bind fun o_ => sumE o_ (fun x215 => ((ledger_Ledger_Size.f k x215).bind fun r488 => if r488 = (if 4096 < a0 then 4096 else a0) then ((juratlaw09_awake.f k ).bind fun r493 => some r493) else (some false)).bind fun x462 => some x462) (fun p_ => some p_))
set_option maxRecDepth 100000 in
set_option maxHeartbeats 4000000 in
theorem juratlaw09_LedgerFull.calls (k : Nat) (w : World) (F : CH) (a0 : Int) (hp : Pre w F []) (hG1 : CH.le (CH.row 1 0 (glob1.map (Value.int .u32))) F) (hG3 : CH.le (CH.row 3 0 (glob3.map (Value.int .u32))) F) (r0_ : Bool) (H : juratlaw09_LedgerFull.f k a0 = some r0_) :
    Calls Tryd.prog 3 #[.int .i64 a0] w fun e w' => e = .returned (.bool r0_) ∧ Ctx w F (domL []) w' F [] := by
  have C := Ctx.start hp
  generalize hD : domL [] = D at C ⊢
  unfold juratlaw09_LedgerFull.f at H
  refine Calls.ofW Tryd.func3 rfl (by simp [Tryd.ntmps3]) ?_
  refine W.seq ?_
  refine W.region rfl ?_
  refine WL.val (Yl.assign (v := .bool false) rfl) ?_
  refine WL.done ?_
  refine W.seq ?_
  refine W.seq ?_
  refine W.region rfl ?_
  refine WL.val (Yl.move (v := .int .i64 a0) rfl) ?_
  refine WL.val (Yl.lss (m := a0) (n := 0) (q := decide (a0 < 0)) rfl rfl rfl) ?_
  refine WL.val (Yl.move (v := .bool (decide (a0 < 0))) rfl) ?_
  refine WL.cut (fun env_ w_ => env_ 12 = .bool ((decide (a0 < 0)) || (decide (a0 > 4200))) ∧ env_ 0 = .int .i64 a0 ∧ Ctx w F D w_ F []) ?_ ?_
  · skip
    rcases Bool.eq_false_or_eq_true (decide (a0 < 0)) with hb1 | hb1
    · skip
      refine WL.off rfl (congrArg Value.bool hb1) ?_
      refine WL.off rfl (congrArg Value.bool hb1) ?_
      refine WL.val (Yl.pickT (v := .bool true) (congrArg Value.bool hb1) rfl) ?_
      exact WL.done ⟨(congrArg Value.bool (show true = ((decide (a0 < 0)) || (decide (a0 > 4200))) from by simp [hb1])), rfl, C⟩
    · skip
      refine WL.on rfl (congrArg Value.bool hb1) ?_
      refine WL.val (Yl.move (v := .int .i64 a0) rfl) ?_
      refine WL.on rfl (congrArg Value.bool hb1) ?_
      refine WL.val (Yl.gtr (m := a0) (n := 4200) (q := decide (a0 > 4200)) rfl rfl rfl) ?_
      refine WL.val (Yl.pickF (v := .bool (decide (a0 > 4200))) (congrArg Value.bool hb1) rfl) ?_
      exact WL.done ⟨(congrArg Value.bool (show (decide (a0 > 4200)) = ((decide (a0 < 0)) || (decide (a0 > 4200))) from by simp [hb1])), rfl, C⟩
  · skip
    rintro env_ w_ ⟨ho2, ho3, C4⟩
    rcases iteE H with ⟨hc5, H⟩ | ⟨hc5, H⟩
    · skip
      refine W.condT (ho2.trans (congrArg Value.bool hc5)) ?_
      refine W.seq ?_
      refine W.region rfl ?_
      obtain ⟨r7, hg6, H⟩ := bindE H
      refine WL.call (args := #[]) (Yenter.fn Tryd.func17 (by kernel_rfl) rfl (argsE .nil)) (juratlaw09_awake.calls k _ F  (Ctx.pre (qs := []) (rest := []) C4) (CH.le_trans hG1 (CH.le_trans (CH.le_refl _) (CH.le_refl _))) (CH.le_trans hG3 (CH.le_trans (CH.le_refl _) (CH.le_refl _))) r7 hg6) ?_
      rintro e_ w_ ⟨rfl, C8⟩
      refine ⟨_, rfl, ?_⟩
      have C9 : Ctx _ _ _ _ F [] := Ctx.call (qs := []) (rest := []) C4 C8
      refine WL.val (Yl.assign (v := .bool r7) rfl) ?_
      refine WL.done ?_
      refine W.ret ?_
      refine thenE_r ?_
      have e10 := Option.some.inj H
      subst e10
      exact post_r (resE1 rfl rfl) ⟨rfl, C9⟩
    · skip
      refine W.condF (ho2.trans (congrArg Value.bool (Bool.eq_false_iff.2 hc5))) ?_
      refine W.skip ?_
      refine W.seq ?_
      refine W.region rfl ?_
      obtain ⟨r12, hg11, H⟩ := bindE H
      refine WL.call (args := #[]) (Yenter.fn Tryd.func18 (by kernel_rfl) rfl (argsE .nil)) (ledger_New.calls k _ F  (Ctx.pre (qs := []) (rest := []) C4)  r12 hg11) ?_
      rintro e_ w_ ⟨g13, o14, A15, c16, n17, p19, A21, c22, n23, p25, rfl, C27, hn18, hR20, hn24, hR26⟩
      refine ⟨_, rfl, ?_⟩
      have C28 : Ctx _ _ _ _ F [CH.row g13 o14 [.slice A15 n17 c16, .slice A21 n23 c22], p19, p25] := Ctx.call (qs := []) (rest := []) C4 C27
      refine WL.val (Yl.assign (v := .pointer (some ⟨g13, o14, none⟩)) rfl) ?_
      refine WL.done ?_
      refine W.seq ?_
      refine W.seq ?_
      refine W.region rfl ?_
      refine WL.val (Yl.assign (v := .int .i64 0) rfl) ?_
      refine WL.done ?_
      obtain ⟨o230, hX229, H⟩ := bindE H
      refine W.cutM (fun env_ w_ => ∃ (x215 : TLedger) (F211 : CH) (A216 : Option Addr) (c217 : Nat) (n218 : Nat) (p220 : CH) (A222 : Option Addr) (c223 : Nat) (n224 : Nat) (p226 : CH), env_ 0 = .int .i64 a0 ∧ env_ 3 = .pointer (some ⟨g13, o14, none⟩) ∧ Ctx w F D w_ F211 [CH.row g13 o14 [.slice A216 n218 c217, .slice A222 n224 c223], p220, p226] ∧ CH.le F F211 ∧ n218 = x215.digests.sums.length ∧ Row (Kd.arrI 32 .u8) F211 p220 (.slice A216 n218 c217) x215.digests.sums ∧ n224 = x215.leaves.length ∧ Row (Kd.slice (Kd.int .u8)) F211 p226 (.slice A222 n224 c223) x215.leaves ∧ o230 = Sum.inl x215) ?_ ?_
      · skip
        refine W.block ?_
        refine W.loop (fun g_ env_ w_ => ∃ (x293 : Int) (x294 : TLedger) (F288 : CH) (A295 : Option Addr) (c296 : Nat) (n297 : Nat) (p299 : CH) (A301 : Option Addr) (c302 : Nat) (n303 : Nat) (p305 : CH), env_ 0 = .int .i64 a0 ∧ env_ 3 = .pointer (some ⟨g13, o14, none⟩) ∧ env_ 4 = .int .i64 x293 ∧ Ctx w F D w_ F288 [CH.row g13 o14 [.slice A295 n297 c296, .slice A301 n303 c302], p299, p305] ∧ CH.le F F288 ∧ n297 = x294.digests.sums.length ∧ Row (Kd.arrI 32 .u8) F288 p299 (.slice A295 n297 c296) x294.digests.sums ∧ n303 = x294.leaves.length ∧ Row (Kd.slice (Kd.int .u8)) F288 p305 (.slice A301 n303 c302) x294.leaves ∧ juratlaw09_LedgerFull.l1 g_ a0 x293 x294 = some o230) k ⟨0, r12, F, A15, c16, n17, p19, A21, c22, n23, p25, ho3, rfl, rfl, C28, (CH.le_refl _), hn18, hR20, hn24, hR26, hX229⟩ ?_
        clear hX229
        rintro g_ env_ w_ ⟨x293, x294, F288, A295, c296, n297, p299, A301, c302, n303, p305, ho290, ho291, ho292, C307, le289, hn298, hR300, hn304, hR306, hX229⟩
        rcases g_ with _ | k360
        · exact absurd hX229 (by simp [juratlaw09_LedgerFull.l1])
        rw [juratlaw09_LedgerFull.l1] at hX229
        refine W.seq ?_
        refine W.seq ?_
        refine W.region rfl ?_
        refine WL.val (Yl.move (v := .int .i64 x293) ho292) ?_
        refine WL.val (Yl.move (v := .int .i64 a0) ho290) ?_
        refine WL.val (Yl.lss (m := x293) (n := a0) (q := decide (x293 < a0)) rfl rfl rfl) ?_
        refine WL.done ?_
        rcases iteE hX229 with ⟨hc361, hX229⟩ | ⟨hc361, hX229⟩
        · skip
          refine W.condT (congrArg Value.bool (decide_eq_true hc361)) ?_
          refine W.skip ?_
          refine W.seq ?_
          refine W.block ?_
          refine W.seq ?_
          refine W.region rfl ?_
          refine WL.val (Yl.move (v := .pointer (some ⟨g13, o14, none⟩)) ho291) ?_
          refine WL.val (Yl.move (v := .int .i64 x293) ho292) ?_
          refine WL.val (Yl.conv (m := x293) (r := wu8 x293) rfl Tryd.underlying3 Tryd.underlying5 rfl) ?_
          obtain ⟨A362, c363, n364, p365, w366, hn367, hy368, C369, hR370⟩ := ev_lit1' (P := Tryd.prog) 5 (Kd.int .u8) C307 Tryd.underlying28 ti5 ⟨by decide, by decide⟩ (wu8 x293) (.int .u8 (wu8 x293)) rfl
          refine WL.val (hy368 _ _ _ rfl) ?_
          have hd371 := Ctx.dis_of [] [CH.row g13 o14 [.slice A295 n297 c296, .slice A301 n303 c302], p299, p305] C369
          have C374 : Ctx _ _ _ _ (CH.join F288 p365) [CH.row g13 o14 [.slice A295 n297 c296, .slice A301 n303 c302], p299, p305] := Ctx.freeze [] [CH.row g13 o14 [.slice A295 n297 c296, .slice A301 n303 c302], p299, p305] C369
          have le373 := CH.le_joinL F288 p365
          obtain ⟨hl375, hm376, hS377⟩ := Row.freeze' hR370 hd371
          have hR378 := Row.mono hR300 le373
          have hR379 := Row.mono hR306 le373
          obtain ⟨⟨r381, r382, r383⟩, hg380, hX229⟩ := bindE hX229
          refine WL.call (args := #[.pointer (some ⟨g13, o14, none⟩), .slice A362 n364 c363]) (Yenter.fn Tryd.func19 (by kernel_rfl) rfl (argsE (.cons rfl (.cons rfl .nil)))) (ledger_Ledger_Append.calls k360 _ (CH.join F288 p365) g13 o14 A295 c296 n297 p299 A301 c302 n303 p305 x294 A362 c363 n364 [wu8 x293] (Ctx.pre (qs := [CH.row g13 o14 [.slice A295 n297 c296, .slice A301 n303 c302], p299, p305]) (rest := []) C374) hn298 hR378 hn304 hR379 hn367 hl375 hm376 hS377 (CH.le_trans hG1 (CH.le_trans (CH.le_trans le289 le373) (CH.le_refl _))) (CH.le_trans hG3 (CH.le_trans (CH.le_trans le289 le373) (CH.le_refl _))) r381 r382 r383 hg380) ?_
          rintro e_ w_ ⟨F384, A386, c387, n388, p390, A392, c393, n394, p396, rfl, le385, C398, hn389, hR391, hn395, hR397⟩
          refine ⟨_, rfl, ?_⟩
          have C399 : Ctx _ _ _ _ F384 [CH.row g13 o14 [.slice A386 n388 c387, .slice A392 n394 c393], p390, p396] := Ctx.call (qs := [CH.row g13 o14 [.slice A295 n297 c296, .slice A301 n303 c302], p299, p305]) (rest := []) C374 C398
          refine WL.val (Yl.move (v := .tuple #[(.int .i64 r381), (.int .i64 r382)]) rfl) ?_
          refine WL.val (Yl.extract (v := .int .i64 r381) rfl rfl) ?_
          refine WL.val (Yl.extract (v := .int .i64 r382) rfl rfl) ?_
          refine WL.val (Yl.assign (v := .int .i64 r381) rfl) ?_
          refine WL.val (Yl.assign (v := .int .i64 r382) rfl) ?_
          refine WL.done ?_
          refine W.seq ?_
          refine W.region rfl ?_
          refine WL.val (Yl.move (v := .int .i64 x293) ho292) ?_
          refine WL.val (Yl.lss (m := x293) (n := 4096) (q := decide (x293 < 4096)) rfl rfl rfl) ?_
          refine WL.val (Yl.move (v := .bool (decide (x293 < 4096))) rfl) ?_
          refine WL.cut (fun env_ w_ => env_ 50 = .bool (((decide (x293 < 4096)) && ((!decide (r381 = x293)) || (!decide (r382 = 0)))) || ((decide (x293 ≥ 4096)) && ((!decide (r381 = 0)) || (!decide (r382 = 90))))) ∧ env_ 0 = .int .i64 a0 ∧ env_ 3 = .pointer (some ⟨g13, o14, none⟩) ∧ env_ 4 = .int .i64 x293 ∧ Ctx w F D w_ F384 [CH.row g13 o14 [.slice A386 n388 c387, .slice A392 n394 c393], p390, p396]) ?_ ?_
          · skip
            rcases Bool.eq_false_or_eq_true (decide (x293 < 4096)) with hb400 | hb400
            · skip
              refine WL.on rfl (congrArg Value.bool hb400) ?_
              refine WL.val (Yl.move (v := .int .i64 r381) rfl) ?_
              refine WL.on rfl (congrArg Value.bool hb400) ?_
              refine WL.val (Yl.move (v := .int .i64 x293) ho292) ?_
              refine WL.on rfl (congrArg Value.bool hb400) ?_
              refine WL.val (Yl.neq (m := r381) (n := x293) (q := !decide (r381 = x293)) rfl rfl rfl) ?_
              refine WL.on rfl (congrArg Value.bool hb400) ?_
              refine WL.val (Yl.move (v := .bool (!decide (r381 = x293))) rfl) ?_
              rcases Bool.eq_false_or_eq_true (!decide (r381 = x293)) with hb401 | hb401
              · skip
                refine WL.off rfl (congrArg Value.bool hb401) ?_
                refine WL.off rfl (congrArg Value.bool hb401) ?_
                refine WL.on rfl (congrArg Value.bool hb400) ?_
                refine WL.val (Yl.pickT (v := .bool true) (congrArg Value.bool hb401) rfl) ?_
                refine WL.val (Yl.pickT (v := .bool true) (congrArg Value.bool hb400) rfl) ?_
                refine WL.val (Yl.move (v := .bool true) rfl) ?_
                refine WL.off rfl rfl ?_
                refine WL.off rfl rfl ?_
                refine WL.off rfl rfl ?_
                refine WL.off' rfl rfl ?_
                refine WL.off' rfl rfl ?_
                refine WL.off' rfl rfl ?_
                refine WL.off' rfl rfl ?_
                refine WL.off' rfl rfl ?_
                refine WL.off' rfl rfl ?_
                refine WL.off rfl rfl ?_
                refine WL.val (Yl.pickT (v := .bool true) rfl rfl) ?_
                exact WL.done ⟨(congrArg Value.bool (show true = (((decide (x293 < 4096)) && ((!decide (r381 = x293)) || (!decide (r382 = 0)))) || ((decide (x293 ≥ 4096)) && ((!decide (r381 = 0)) || (!decide (r382 = 90))))) from by simp [hb400, hb401])), ho290, ho291, ho292, C399⟩
              · skip
                refine WL.on rfl (congrArg Value.bool hb401) ?_
                refine WL.val (Yl.move (v := .int .i64 r382) rfl) ?_
                refine WL.on rfl (congrArg Value.bool hb401) ?_
                refine WL.val (Yl.neq (m := r382) (n := 0) (q := !decide (r382 = 0)) rfl rfl rfl) ?_
                refine WL.on rfl (congrArg Value.bool hb400) ?_
                refine WL.val (Yl.pickF (v := .bool (!decide (r382 = 0))) (congrArg Value.bool hb401) rfl) ?_
                refine WL.val (Yl.pickT (v := .bool (!decide (r382 = 0))) (congrArg Value.bool hb400) rfl) ?_
                refine WL.val (Yl.move (v := .bool (!decide (r382 = 0))) rfl) ?_
                rcases Bool.eq_false_or_eq_true (!decide (r382 = 0)) with hb402 | hb402
                · skip
                  refine WL.off rfl (congrArg Value.bool hb402) ?_
                  refine WL.off rfl (congrArg Value.bool hb402) ?_
                  refine WL.off rfl (congrArg Value.bool hb402) ?_
                  refine WL.off' rfl rfl ?_
                  refine WL.off' rfl rfl ?_
                  refine WL.off' rfl rfl ?_
                  refine WL.off' rfl rfl ?_
                  refine WL.off' rfl rfl ?_
                  refine WL.off' rfl rfl ?_
                  refine WL.off rfl (congrArg Value.bool hb402) ?_
                  refine WL.val (Yl.pickT (v := .bool true) (congrArg Value.bool hb402) rfl) ?_
                  exact WL.done ⟨(congrArg Value.bool (show true = (((decide (x293 < 4096)) && ((!decide (r381 = x293)) || (!decide (r382 = 0)))) || ((decide (x293 ≥ 4096)) && ((!decide (r381 = 0)) || (!decide (r382 = 90))))) from by simp [hb400, hb401, hb402])), ho290, ho291, ho292, C399⟩
                · skip
                  refine WL.on rfl (congrArg Value.bool hb402) ?_
                  refine WL.val (Yl.move (v := .int .i64 x293) ho292) ?_
                  refine WL.on rfl (congrArg Value.bool hb402) ?_
                  refine WL.val (Yl.geq (m := x293) (n := 4096) (q := decide (x293 ≥ 4096)) rfl rfl rfl) ?_
                  refine WL.on rfl (congrArg Value.bool hb402) ?_
                  refine WL.val (Yl.move (v := .bool (decide (x293 ≥ 4096))) rfl) ?_
                  rcases Bool.eq_false_or_eq_true (decide (x293 ≥ 4096)) with hb403 | hb403
                  · skip
                    refine WL.on rfl (congrArg Value.bool hb403) ?_
                    refine WL.val (Yl.move (v := .int .i64 r381) rfl) ?_
                    refine WL.on rfl (congrArg Value.bool hb403) ?_
                    refine WL.val (Yl.neq (m := r381) (n := 0) (q := !decide (r381 = 0)) rfl rfl rfl) ?_
                    refine WL.on rfl (congrArg Value.bool hb403) ?_
                    refine WL.val (Yl.move (v := .bool (!decide (r381 = 0))) rfl) ?_
                    rcases Bool.eq_false_or_eq_true (!decide (r381 = 0)) with hb404 | hb404
                    · skip
                      refine WL.off rfl (congrArg Value.bool hb404) ?_
                      refine WL.off rfl (congrArg Value.bool hb404) ?_
                      refine WL.on rfl (congrArg Value.bool hb403) ?_
                      refine WL.val (Yl.pickT (v := .bool true) (congrArg Value.bool hb404) rfl) ?_
                      refine WL.on rfl (congrArg Value.bool hb402) ?_
                      refine WL.val (Yl.pickT (v := .bool true) (congrArg Value.bool hb403) rfl) ?_
                      refine WL.val (Yl.pickF (v := .bool true) (congrArg Value.bool hb402) rfl) ?_
                      exact WL.done ⟨(congrArg Value.bool (show true = (((decide (x293 < 4096)) && ((!decide (r381 = x293)) || (!decide (r382 = 0)))) || ((decide (x293 ≥ 4096)) && ((!decide (r381 = 0)) || (!decide (r382 = 90))))) from by simp [hb400, hb401, hb402, hb403, hb404])), ho290, ho291, ho292, C399⟩
                    · skip
                      refine WL.on rfl (congrArg Value.bool hb404) ?_
                      refine WL.val (Yl.move (v := .int .i64 r382) rfl) ?_
                      refine WL.on rfl (congrArg Value.bool hb404) ?_
                      refine WL.val (Yl.neq (m := r382) (n := 90) (q := !decide (r382 = 90)) rfl rfl rfl) ?_
                      refine WL.on rfl (congrArg Value.bool hb403) ?_
                      refine WL.val (Yl.pickF (v := .bool (!decide (r382 = 90))) (congrArg Value.bool hb404) rfl) ?_
                      refine WL.on rfl (congrArg Value.bool hb402) ?_
                      refine WL.val (Yl.pickT (v := .bool (!decide (r382 = 90))) (congrArg Value.bool hb403) rfl) ?_
                      refine WL.val (Yl.pickF (v := .bool (!decide (r382 = 90))) (congrArg Value.bool hb402) rfl) ?_
                      exact WL.done ⟨(congrArg Value.bool (show (!decide (r382 = 90)) = (((decide (x293 < 4096)) && ((!decide (r381 = x293)) || (!decide (r382 = 0)))) || ((decide (x293 ≥ 4096)) && ((!decide (r381 = 0)) || (!decide (r382 = 90))))) from by simp [hb400, hb401, hb402, hb403, hb404])), ho290, ho291, ho292, C399⟩
                  · skip
                    refine WL.off rfl (congrArg Value.bool hb403) ?_
                    refine WL.off rfl (congrArg Value.bool hb403) ?_
                    refine WL.off rfl (congrArg Value.bool hb403) ?_
                    refine WL.off' rfl rfl ?_
                    refine WL.off' rfl rfl ?_
                    refine WL.off rfl (congrArg Value.bool hb403) ?_
                    refine WL.on rfl (congrArg Value.bool hb402) ?_
                    refine WL.val (Yl.pickF (v := .bool false) (congrArg Value.bool hb403) rfl) ?_
                    refine WL.val (Yl.pickF (v := .bool false) (congrArg Value.bool hb402) rfl) ?_
                    exact WL.done ⟨(congrArg Value.bool (show false = (((decide (x293 < 4096)) && ((!decide (r381 = x293)) || (!decide (r382 = 0)))) || ((decide (x293 ≥ 4096)) && ((!decide (r381 = 0)) || (!decide (r382 = 90))))) from by simp [hb400, hb401, hb402, hb403])), ho290, ho291, ho292, C399⟩
            · skip
              refine WL.off rfl (congrArg Value.bool hb400) ?_
              refine WL.off rfl (congrArg Value.bool hb400) ?_
              refine WL.off rfl (congrArg Value.bool hb400) ?_
              refine WL.off rfl (congrArg Value.bool hb400) ?_
              refine WL.off' rfl rfl ?_
              refine WL.off' rfl rfl ?_
              refine WL.off rfl (congrArg Value.bool hb400) ?_
              refine WL.val (Yl.pickF (v := .bool false) (congrArg Value.bool hb400) rfl) ?_
              refine WL.val (Yl.move (v := .bool false) rfl) ?_
              refine WL.on rfl rfl ?_
              refine WL.val (Yl.move (v := .int .i64 x293) ho292) ?_
              refine WL.on rfl rfl ?_
              refine WL.val (Yl.geq (m := x293) (n := 4096) (q := decide (x293 ≥ 4096)) rfl rfl rfl) ?_
              refine WL.on rfl rfl ?_
              refine WL.val (Yl.move (v := .bool (decide (x293 ≥ 4096))) rfl) ?_
              rcases Bool.eq_false_or_eq_true (decide (x293 ≥ 4096)) with hb405 | hb405
              · skip
                refine WL.on rfl (congrArg Value.bool hb405) ?_
                refine WL.val (Yl.move (v := .int .i64 r381) rfl) ?_
                refine WL.on rfl (congrArg Value.bool hb405) ?_
                refine WL.val (Yl.neq (m := r381) (n := 0) (q := !decide (r381 = 0)) rfl rfl rfl) ?_
                refine WL.on rfl (congrArg Value.bool hb405) ?_
                refine WL.val (Yl.move (v := .bool (!decide (r381 = 0))) rfl) ?_
                rcases Bool.eq_false_or_eq_true (!decide (r381 = 0)) with hb406 | hb406
                · skip
                  refine WL.off rfl (congrArg Value.bool hb406) ?_
                  refine WL.off rfl (congrArg Value.bool hb406) ?_
                  refine WL.on rfl (congrArg Value.bool hb405) ?_
                  refine WL.val (Yl.pickT (v := .bool true) (congrArg Value.bool hb406) rfl) ?_
                  refine WL.on rfl rfl ?_
                  refine WL.val (Yl.pickT (v := .bool true) (congrArg Value.bool hb405) rfl) ?_
                  refine WL.val (Yl.pickF (v := .bool true) rfl rfl) ?_
                  exact WL.done ⟨(congrArg Value.bool (show true = (((decide (x293 < 4096)) && ((!decide (r381 = x293)) || (!decide (r382 = 0)))) || ((decide (x293 ≥ 4096)) && ((!decide (r381 = 0)) || (!decide (r382 = 90))))) from by simp [hb400, hb405, hb406])), ho290, ho291, ho292, C399⟩
                · skip
                  refine WL.on rfl (congrArg Value.bool hb406) ?_
                  refine WL.val (Yl.move (v := .int .i64 r382) rfl) ?_
                  refine WL.on rfl (congrArg Value.bool hb406) ?_
                  refine WL.val (Yl.neq (m := r382) (n := 90) (q := !decide (r382 = 90)) rfl rfl rfl) ?_
                  refine WL.on rfl (congrArg Value.bool hb405) ?_
                  refine WL.val (Yl.pickF (v := .bool (!decide (r382 = 90))) (congrArg Value.bool hb406) rfl) ?_
                  refine WL.on rfl rfl ?_
                  refine WL.val (Yl.pickT (v := .bool (!decide (r382 = 90))) (congrArg Value.bool hb405) rfl) ?_
                  refine WL.val (Yl.pickF (v := .bool (!decide (r382 = 90))) rfl rfl) ?_
                  exact WL.done ⟨(congrArg Value.bool (show (!decide (r382 = 90)) = (((decide (x293 < 4096)) && ((!decide (r381 = x293)) || (!decide (r382 = 0)))) || ((decide (x293 ≥ 4096)) && ((!decide (r381 = 0)) || (!decide (r382 = 90))))) from by simp [hb400, hb405, hb406])), ho290, ho291, ho292, C399⟩
              · skip
                refine WL.off rfl (congrArg Value.bool hb405) ?_
                refine WL.off rfl (congrArg Value.bool hb405) ?_
                refine WL.off rfl (congrArg Value.bool hb405) ?_
                refine WL.off' rfl rfl ?_
                refine WL.off' rfl rfl ?_
                refine WL.off rfl (congrArg Value.bool hb405) ?_
                refine WL.on rfl rfl ?_
                refine WL.val (Yl.pickF (v := .bool false) (congrArg Value.bool hb405) rfl) ?_
                refine WL.val (Yl.pickF (v := .bool false) rfl rfl) ?_
                exact WL.done ⟨(congrArg Value.bool (show false = (((decide (x293 < 4096)) && ((!decide (r381 = x293)) || (!decide (r382 = 0)))) || ((decide (x293 ≥ 4096)) && ((!decide (r381 = 0)) || (!decide (r382 = 90))))) from by simp [hb400, hb405])), ho290, ho291, ho292, C399⟩
          · skip
            rintro env_ w_ ⟨ho407, ho408, ho409, ho410, C411⟩
            rcases iteE hX229 with ⟨hc412, hX229⟩ | ⟨hc412, hX229⟩
            · skip
              refine W.condT (ho407.trans (congrArg Value.bool hc412)) ?_
              refine W.seq ?_
              refine W.region rfl ?_
              refine WL.val (Yl.assign (v := .bool false) rfl) ?_
              refine WL.done ?_
              refine W.ret ?_
              refine inB_r ?_
              refine thenE_r ?_
              refine thenE_r ?_
              refine inB_r ?_
              refine thenE_r ?_
              refine thenE_r ?_
              cases hX229
              replace H := sumE_r H
              have C413 : Ctx _ _ _ _ F384 [p390, p396] := Ctx.drop [] [p390, p396] C411
              have C414 : Ctx _ _ _ _ F384 [p396] := Ctx.drop [] [p396] C413
              have C415 : Ctx _ _ _ _ F384 [] := Ctx.drop [] [] C414
              have e416 := Option.some.inj H
              subst e416
              exact post_r (resE1 rfl rfl) ⟨rfl, (Ctx.weak C415 (CH.le_refl _))⟩
            · skip
              refine W.condF (ho407.trans (congrArg Value.bool (Bool.eq_false_iff.2 hc412))) ?_
              refine W.skip ?_
              refine inB_n ?_
              refine W.region rfl ?_
              refine WL.val (Yl.move (v := .int .i64 x293) ho410) ?_
              refine WL.val (Yl.add (m := x293) (n := 1) (r := wi64 (x293 + 1)) rfl rfl rfl) ?_
              refine WL.val (Yl.assign (v := .int .i64 (wi64 (x293 + 1))) rfl) ?_
              refine WL.done ?_
              exact thenE_n ⟨k360, Nat.lt_succ_self _, wi64 (x293 + 1), r383, F384, A386, c387, n388, p390, A392, c393, n394, p396, ho408, ho409, rfl, C411, (CH.le_trans le289 (CH.le_trans le373 le385)), hn389, hR391, hn395, hR397, hX229⟩
        · skip
          refine W.condF (congrArg Value.bool (decide_eq_false hc361)) ?_
          refine W.exit ?_
          refine thenE_x ?_
          refine thenE_x ?_
          refine inB_here ?_
          cases hX229
          refine thenE_n ?_
          exact ⟨x294, F288, A295, c296, n297, p299, A301, c302, n303, p305, ho290, ho291, C307, le289, hn298, hR300, hn304, hR306, rfl⟩
      · skip
        rintro env_ w_ ⟨x215, F211, A216, c217, n218, p220, A222, c223, n224, p226, ho213, ho214, C228, le212, hn219, hR221, hn225, hR227, rfl⟩
        replace H := sumE_l H
        refine W.seq ?_
        obtain ⟨x462, hX464, H⟩ := bindE H
        refine W.cutM (fun env_ w_ => env_ 2 = .bool x462 ∧ Ctx w F D w_ F211 [CH.row g13 o14 [.slice A216 n218 c217, .slice A222 n224 c223], p220, p226]) ?_ ?_
        · skip
          refine W.region rfl ?_
          refine WL.val (Yl.move (v := .pointer (some ⟨g13, o14, none⟩)) ho214) ?_
          have le478 : CH.le F211 (CH.join F211 (CH.row g13 o14 [.slice A216 n218 c217, .slice A222 n224 c223])) := CH.le_joinL _ _
          have lp479 : CH.le (CH.row g13 o14 [.slice A216 n218 c217, .slice A222 n224 c223]) (CH.join F211 (CH.row g13 o14 [.slice A216 n218 c217, .slice A222 n224 c223])) := CH.le_joinR (Ctx.dis_of [] [p220, p226] C228)
          have C480 : Ctx _ _ _ _ (CH.join F211 (CH.row g13 o14 [.slice A216 n218 c217, .slice A222 n224 c223])) [p220, p226] := Ctx.freeze [] [p220, p226] C228
          have le481 : CH.le (CH.join F211 (CH.row g13 o14 [.slice A216 n218 c217, .slice A222 n224 c223])) (CH.join (CH.join F211 (CH.row g13 o14 [.slice A216 n218 c217, .slice A222 n224 c223])) p220) := CH.le_joinL _ _
          have lp482 : CH.le p220 (CH.join (CH.join F211 (CH.row g13 o14 [.slice A216 n218 c217, .slice A222 n224 c223])) p220) := CH.le_joinR (Ctx.dis_of [] [p226] C480)
          have C483 : Ctx _ _ _ _ (CH.join (CH.join F211 (CH.row g13 o14 [.slice A216 n218 c217, .slice A222 n224 c223])) p220) [p226] := Ctx.freeze [] [p226] C480
          have le484 : CH.le (CH.join (CH.join F211 (CH.row g13 o14 [.slice A216 n218 c217, .slice A222 n224 c223])) p220) (CH.join (CH.join (CH.join F211 (CH.row g13 o14 [.slice A216 n218 c217, .slice A222 n224 c223])) p220) p226) := CH.le_joinL _ _
          have lp485 : CH.le p226 (CH.join (CH.join (CH.join F211 (CH.row g13 o14 [.slice A216 n218 c217, .slice A222 n224 c223])) p220) p226) := CH.le_joinR (Ctx.dis_of [] [] C483)
          have C486 : Ctx _ _ _ _ (CH.join (CH.join (CH.join F211 (CH.row g13 o14 [.slice A216 n218 c217, .slice A222 n224 c223])) p220) p226) [] := Ctx.freeze [] [] C483
          obtain ⟨r488, hg487, hX464⟩ := bindE hX464
          refine WL.call (args := #[.pointer (some ⟨g13, o14, none⟩)]) (Yenter.fn Tryd.func20 (by kernel_rfl) rfl (argsE (.cons rfl .nil))) (ledger_Ledger_Size.calls k _ (CH.join (CH.join (CH.join F211 (CH.row g13 o14 [.slice A216 n218 c217, .slice A222 n224 c223])) p220) p226) g13 o14 A216 c217 n218 A222 c223 n224 x215 C486.pre0 hn219 (Row.len_le hR221).1 (Row.len_le hR221).2.1 (Sl.mono (Row.sl hR221) (CH.le_trans (CH.le_trans le478 le481) le484) (CH.le_trans lp482 le484)) hn225 (Row.len_le hR227).1 (Row.len_le hR227).2.1 (Sl.mono (Row.sl hR227) (CH.le_trans (CH.le_trans le478 le481) le484) lp485) (CH.le_trans (CH.le_trans lp479 le481) le484) r488 hg487) ?_
          rintro e_ w_ ⟨rfl, ⟨m489, rfl⟩⟩
          refine ⟨_, rfl, ?_⟩
          have C490 := Ctx.drewN C228 m489
          refine WL.val (Yl.move (v := .int .i64 a0) ho213) ?_
          refine WL.val (Yl.min2 (m := a0) (n := 4096) (r := (if 4096 < a0 then 4096 else a0)) rfl rfl rfl) ?_
          refine WL.val (Yl.eql (m := r488) (n := (if 4096 < a0 then 4096 else a0)) (q := decide (r488 = (if 4096 < a0 then 4096 else a0))) rfl rfl rfl) ?_
          refine WL.val (Yl.move (v := .bool (decide (r488 = (if 4096 < a0 then 4096 else a0)))) rfl) ?_
          rcases iteE hX464 with ⟨hc491, hX464⟩ | ⟨hc491, hX464⟩
          · skip
            refine WL.on rfl (congrArg Value.bool (decide_eq_true hc491)) ?_
            obtain ⟨r493, hg492, hX464⟩ := bindE hX464
            refine WL.call (args := #[]) (Yenter.fn Tryd.func17 (by kernel_rfl) rfl (argsE .nil)) (juratlaw09_awake.calls k _ F211  (Ctx.pre (qs := []) (rest := [CH.row g13 o14 [.slice A216 n218 c217, .slice A222 n224 c223], p220, p226]) C490) (CH.le_trans hG1 (CH.le_trans le212 (CH.le_refl _))) (CH.le_trans hG3 (CH.le_trans le212 (CH.le_refl _))) r493 hg492) ?_
            rintro e_ w_ ⟨rfl, C494⟩
            refine ⟨_, rfl, ?_⟩
            have C495 : Ctx _ _ _ _ F211 [CH.row g13 o14 [.slice A216 n218 c217, .slice A222 n224 c223], p220, p226] := Ctx.call (qs := []) (rest := [CH.row g13 o14 [.slice A216 n218 c217, .slice A222 n224 c223], p220, p226]) C490 C494
            refine WL.val (Yl.pickT (v := .bool r493) (congrArg Value.bool (decide_eq_true hc491)) rfl) ?_
            refine WL.val (Yl.assign (v := .bool r493) rfl) ?_
            refine WL.done ?_
            cases hX464
            refine thenE_n ?_
            exact ⟨rfl, C495⟩
          · skip
            refine WL.off rfl (congrArg Value.bool (decide_eq_false hc491)) ?_
            refine WL.val (Yl.pickF (v := .bool false) (congrArg Value.bool (decide_eq_false hc491)) rfl) ?_
            refine WL.val (Yl.assign (v := .bool false) rfl) ?_
            refine WL.done ?_
            cases hX464
            refine thenE_n ?_
            exact ⟨rfl, C490⟩
        · skip
          rintro env_ w_ ⟨ho461, C463⟩
          refine W.ret ?_
          have C496 : Ctx _ _ _ _ F211 [p220, p226] := Ctx.drop [] [p220, p226] C463
          have C497 : Ctx _ _ _ _ F211 [p226] := Ctx.drop [] [p226] C496
          have C498 : Ctx _ _ _ _ F211 [] := Ctx.drop [] [] C497
          have e499 := Option.some.inj H
          subst e499
          exact post_r (resE1 rfl ho461) ⟨rfl, (Ctx.weak C498 (CH.le_refl _))⟩
end Go.Proofs.YthdlfclkcdnenaaDoor
