/- Functions of the program: each as a plain function of numbers and lists, and the proof that the program's own comes to it. Nothing is assumed but what each theorem says. -/
import Derived.Test.YthdlfclkcdnenaaDoorTGt
namespace Go.Proofs.YthdlfclkcdnenaaDoor
open Go.RowKit Go.WG
set_option linter.unusedVariables false
set_option linter.unusedSimpArgs false
def juratref01_Bytes.l1 : Nat → Int → Int → List Int → Int → Option (List Int)
  | 0, _, _, _, _ => none
  | k + 1, a1, x80, x83, x91 => if x91 < a1 then (if ([wu8 (x80.tmod 256)].length + x83.length) * 1 ≤ 140737488355328 then (juratref01_Bytes.l1 k a1 (wu64 (x80.tdiv 256)) ([wu8 (x80.tmod 256)] ++ x83) (wi64 (x91 + 1))) else none) else (some x83)
def juratref01_Bytes.f (k : Nat) (a0 : Int) (a1 : Int) : Option ((List Int) × Int) := if ((decide (a1 < 0)) || (decide (a1 > 8))) = true then (some (([] : List Int), 1)) else ((juratref01_Bytes.l1 k a1 a0 ([] : List Int) 0).bind fun x70 => some (x70, 0))
set_option maxRecDepth 100000 in
set_option maxHeartbeats 4000000 in
theorem juratref01_Bytes.calls (k : Nat) (w : World) (F : CH) (a0 : Int) (a1 : Int) (hp : Pre w F [])  (r0_ : List Int) (r1_ : Int) (H : juratref01_Bytes.f k a0 a1 = some (r0_, r1_)) :
    Calls Tryd.prog 75 #[.int .u64 a0, .int .i64 a1] w fun e w' => ∃ (A140 : Option Addr) (c141 : Nat) (n142 : Nat) (p144 : CH), e = .returned (.tuple #[(.slice A140 n142 c141), (.int .i64 r1_)]) ∧ Ctx w F (domL []) w' F [p144] ∧ n142 = r0_.length ∧ Row (Kd.int .u8) F p144 (.slice A140 n142 c141) r0_ := by
  have C := Ctx.start hp
  generalize hD : domL [] = D at C ⊢
  unfold juratref01_Bytes.f at H
  refine Calls.ofW Tryd.func75 rfl (by simp [Tryd.ntmps75]) ?_
  refine W.seq ?_
  refine W.region rfl ?_
  refine WL.val (Yl.assign (v := .slice none 0 0) rfl) ?_
  refine WL.val (Yl.assign (v := .int .i64 0) rfl) ?_
  refine WL.done ?_
  refine W.seq ?_
  refine W.seq ?_
  refine W.region rfl ?_
  refine WL.val (Yl.move (v := .int .i64 a1) rfl) ?_
  refine WL.val (Yl.lss (m := a1) (n := 0) (q := decide (a1 < 0)) rfl rfl rfl) ?_
  refine WL.val (Yl.move (v := .bool (decide (a1 < 0))) rfl) ?_
  refine WL.cut (fun env_ w_ => env_ 13 = .bool ((decide (a1 < 0)) || (decide (a1 > 8))) ∧ env_ 0 = .int .u64 a0 ∧ env_ 1 = .int .i64 a1 ∧ Ctx w F D w_ F []) ?_ ?_
  · skip
    rcases Bool.eq_false_or_eq_true (decide (a1 < 0)) with hb1 | hb1
    · skip
      refine WL.off rfl (congrArg Value.bool hb1) ?_
      refine WL.off rfl (congrArg Value.bool hb1) ?_
      refine WL.val (Yl.pickT (v := .bool true) (congrArg Value.bool hb1) rfl) ?_
      exact WL.done ⟨(congrArg Value.bool (show true = ((decide (a1 < 0)) || (decide (a1 > 8))) from by simp [hb1])), rfl, rfl, C⟩
    · skip
      refine WL.on rfl (congrArg Value.bool hb1) ?_
      refine WL.val (Yl.move (v := .int .i64 a1) rfl) ?_
      refine WL.on rfl (congrArg Value.bool hb1) ?_
      refine WL.val (Yl.gtr (m := a1) (n := 8) (q := decide (a1 > 8)) rfl rfl rfl) ?_
      refine WL.val (Yl.pickF (v := .bool (decide (a1 > 8))) (congrArg Value.bool hb1) rfl) ?_
      exact WL.done ⟨(congrArg Value.bool (show (decide (a1 > 8)) = ((decide (a1 < 0)) || (decide (a1 > 8))) from by simp [hb1])), rfl, rfl, C⟩
  · skip
    rintro env_ w_ ⟨ho2, ho3, ho4, C5⟩
    rcases iteE H with ⟨hc6, H⟩ | ⟨hc6, H⟩
    · skip
      refine W.condT (ho2.trans (congrArg Value.bool hc6)) ?_
      refine W.seq ?_
      refine W.region rfl ?_
      refine WL.val (Yl.assign (v := .slice none 0 0) rfl) ?_
      refine WL.val (Yl.assign (v := .int .i64 1) rfl) ?_
      refine WL.done ?_
      refine W.ret ?_
      refine thenE_r ?_
      have C7 : Ctx _ _ _ _ F [CH.emp] := Ctx.emp C5
      simp only [Option.some.injEq, Prod.mk.injEq] at H
      obtain ⟨e8, e9⟩ := H
      subst e8 e9
      exact post_r (resE2 rfl rfl rfl) ⟨none, 0, 0, CH.emp, rfl, C7, rfl, (Row.nil _ _)⟩
    · skip
      refine W.condF (ho2.trans (congrArg Value.bool (Bool.eq_false_iff.2 hc6))) ?_
      refine W.skip ?_
      refine W.seq ?_
      refine W.region rfl ?_
      refine WL.val (Yl.assign (v := .slice none 0 0) rfl) ?_
      refine WL.done ?_
      refine W.seq ?_
      refine W.seq ?_
      refine W.region rfl ?_
      refine WL.val (Yl.assign (v := .int .i64 0) rfl) ?_
      refine WL.done ?_
      obtain ⟨x70, hX78, H⟩ := bindE H
      refine W.cutM (fun env_ w_ => ∃ (A71 : Option Addr) (c72 : Nat) (n73 : Nat) (p75 : CH), env_ 6 = .slice A71 n73 c72 ∧ Ctx w F D w_ F [p75] ∧ n73 = x70.length ∧ Row (Kd.int .u8) F p75 (.slice A71 n73 c72) x70) ?_ ?_
      · skip
        refine W.block ?_
        have C115 : Ctx _ _ _ _ F [CH.emp] := Ctx.emp C5
        refine W.loop (fun g_ env_ w_ => ∃ (x80 : Int) (x83 : List Int) (x91 : Int) (A84 : Option Addr) (c85 : Nat) (n86 : Nat) (p88 : CH), env_ 0 = .int .u64 x80 ∧ env_ 1 = .int .i64 a1 ∧ env_ 6 = .slice A84 n86 c85 ∧ env_ 7 = .int .i64 x91 ∧ Ctx w F D w_ F [p88] ∧ n86 = x83.length ∧ Row (Kd.int .u8) F p88 (.slice A84 n86 c85) x83 ∧ juratref01_Bytes.l1 g_ a1 x80 x83 x91 = some x70) k ⟨a0, ([] : List Int), 0, none, 0, 0, CH.emp, ho3, ho4, rfl, rfl, C115, rfl, (Row.nil _ _), hX78⟩ ?_
        clear hX78
        rintro g_ env_ w_ ⟨x80, x83, x91, A84, c85, n86, p88, ho79, ho81, ho82, ho90, C92, hn87, hR89, hX78⟩
        rcases g_ with _ | k114
        · exact absurd hX78 (by simp [juratref01_Bytes.l1])
        rw [juratref01_Bytes.l1] at hX78
        refine W.seq ?_
        refine W.seq ?_
        refine W.region rfl ?_
        refine WL.val (Yl.move (v := .int .i64 x91) ho90) ?_
        refine WL.val (Yl.move (v := .int .i64 a1) ho81) ?_
        refine WL.val (Yl.lss (m := x91) (n := a1) (q := decide (x91 < a1)) rfl rfl rfl) ?_
        refine WL.done ?_
        rcases iteE hX78 with ⟨hc116, hX78⟩ | ⟨hc116, hX78⟩
        · skip
          refine W.condT (congrArg Value.bool (decide_eq_true hc116)) ?_
          refine W.skip ?_
          refine W.seq ?_
          refine W.block ?_
          refine W.seq ?_
          refine W.region rfl ?_
          refine WL.val (Yl.move (v := .int .u64 x80) ho79) ?_
          refine WL.val (Yl.rem (m := x80) (n := 256) (r := x80.tmod 256) rfl rfl (by decide) rfl) ?_
          refine WL.val (Yl.conv (m := x80.tmod 256) (r := wu8 (x80.tmod 256)) rfl Tryd.underlying113 Tryd.underlying5 rfl) ?_
          obtain ⟨A117, c118, n119, p120, w121, hn122, hy123, C124, hR125⟩ := ev_lit1' (P := Tryd.prog) 5 (Kd.int .u8) C92 Tryd.underlying28 ti5 ⟨by decide, by decide⟩ (wu8 (x80.tmod 256)) (.int .u8 (wu8 (x80.tmod 256))) rfl
          refine WL.val (hy123 _ _ _ rfl) ?_
          refine WL.val (Yl.move (v := .slice A84 n86 c85) ho82) ?_
          obtain ⟨hc126, hX78⟩ := guardE hX78
          obtain ⟨A127, c128, n129, p130, w131, hn132, hy133, C134, hR135⟩ := ev_append' (P := Tryd.prog) (cb := c85) 5 (Kd.int .u8) [] [p88] C124 hR125 hn87 (Row.sl hR89) (Ctx.sub_of [p120] [] C124) Tryd.underlying28 ti5 rfl zo5 (by decide) (by decide) (by simpa using hc126)
          have C136 : Ctx _ _ _ _ F [p130, p88] := C134
          refine WL.val (hy133 _ _ _ _ rfl rfl) ?_
          refine WL.val (Yl.assign (v := .slice A127 n129 c128) rfl) ?_
          refine WL.done ?_
          refine W.region rfl ?_
          refine WL.val (Yl.move (v := .int .u64 x80) ho79) ?_
          refine WL.val (Yl.quo (m := x80) (n := 256) (r := wu64 (x80.tdiv 256)) rfl rfl (by decide) rfl) ?_
          refine WL.val (Yl.assign (v := .int .u64 (wu64 (x80.tdiv 256))) rfl) ?_
          refine WL.done ?_
          refine inB_n ?_
          refine W.region rfl ?_
          refine WL.val (Yl.move (v := .int .i64 x91) ho90) ?_
          refine WL.val (Yl.add (m := x91) (n := 1) (r := wi64 (x91 + 1)) rfl rfl rfl) ?_
          refine WL.val (Yl.assign (v := .int .i64 (wi64 (x91 + 1))) rfl) ?_
          refine WL.done ?_
          have C137 : Ctx _ _ _ _ F [p130] := Ctx.drop [p130] [] C136
          exact thenE_n ⟨k114, Nat.lt_succ_self _, wu64 (x80.tdiv 256), [wu8 (x80.tmod 256)] ++ x83, wi64 (x91 + 1), A127, c128, n129, p130, rfl, ho81, rfl, rfl, C137, hn132, hR135, hX78⟩
        · skip
          refine W.condF (congrArg Value.bool (decide_eq_false hc116)) ?_
          refine W.exit ?_
          refine thenE_x ?_
          refine thenE_x ?_
          refine inB_here ?_
          cases hX78
          refine thenE_n ?_
          exact ⟨A84, c85, n86, p88, ho82, C92, hn87, hR89⟩
      · skip
        rintro env_ w_ ⟨A71, c72, n73, p75, ho69, C77, hn74, hR76⟩
        refine W.seq ?_
        refine W.region rfl ?_
        refine WL.val (Yl.move (v := .slice A71 n73 c72) ho69) ?_
        refine WL.val (Yl.assign (v := .slice A71 n73 c72) rfl) ?_
        refine WL.val (Yl.assign (v := .int .i64 0) rfl) ?_
        refine WL.done ?_
        refine W.ret ?_
        simp only [Option.some.injEq, Prod.mk.injEq] at H
        obtain ⟨e138, e139⟩ := H
        subst e138 e139
        exact post_r (resE2 rfl rfl rfl) ⟨A71, c72, n73, p75, rfl, C77, hn74, hR76⟩
def juratref01_Word.f (k : Nat) (a0 : List Int) (a1 : Int) : Option (Int × Int) := (if a1 < 0 then (some (true)) else (if (a0.length : Int) < 4 then (some (true)) else (some (decide (a1 > (wi64 ((a0.length : Int) - 4))))))).bind fun g8 => if g8 = true then (some (0, 1)) else (if 0 ≤ a1 ∧ a1 < (a0.length : Int) then (if 0 ≤ (wi64 (a1 + 1)) ∧ (wi64 (a1 + 1)) < (a0.length : Int) then (if 0 ≤ (wi64 (a1 + 2)) ∧ (wi64 (a1 + 2)) < (a0.length : Int) then (if 0 ≤ (wi64 (a1 + 3)) ∧ (wi64 (a1 + 3)) < (a0.length : Int) then (some (wu32 ((wu32 ((wu32 ((wu32 ((wu32 (a0.getD a1.toNat 0)) * 16777216)) + (wu32 ((wu32 (a0.getD (wi64 (a1 + 1)).toNat 0)) * 65536)))) + (wu32 ((wu32 (a0.getD (wi64 (a1 + 2)).toNat 0)) * 256)))) + (wu32 (a0.getD (wi64 (a1 + 3)).toNat 0))), 0)) else none) else none) else none) else none)
set_option maxRecDepth 100000 in
set_option maxHeartbeats 4000000 in
theorem juratref01_Word.calls (k : Nat) (w : World) (F : CH) (A1 : Option Addr) (c2 : Nat) (n3 : Nat) (a0 : List Int) (a1 : Int) (hp : Pre w F []) (hn4 : n3 = a0.length) (hl5 : a0.length ≤ c2) (hm6 : c2 ≤ maxLen) (hS7 : Sl (Kd.int .u8) F F A1 a0) (r0_ : Int) (r1_ : Int) (H : juratref01_Word.f k a0 a1 = some (r0_, r1_)) :
    Calls Tryd.prog 76 #[.slice A1 n3 c2, .int .i64 a1] w fun e w' => e = .returned (.tuple #[(.int .u32 r0_), (.int .i64 r1_)]) ∧ (∃ n_, w' = w.drewN n_) := by
  have C := Ctx.start hp
  generalize domL [] = D at C
  have W0 : ∃ n_, w = w.drewN n_ := ⟨0, rfl⟩
  unfold juratref01_Word.f at H
  refine Calls.ofW Tryd.func76 rfl (by simp [Tryd.ntmps76]) ?_
  refine W.seq ?_
  refine W.region rfl ?_
  refine WL.val (Yl.assign (v := .int .u32 0) rfl) ?_
  refine WL.val (Yl.assign (v := .int .i64 0) rfl) ?_
  refine WL.done ?_
  refine W.seq ?_
  refine W.seq ?_
  refine W.region rfl ?_
  refine WL.val (Yl.move (v := .int .i64 a1) rfl) ?_
  refine WL.val (Yl.lss (m := a1) (n := 0) (q := decide (a1 < 0)) rfl rfl rfl) ?_
  refine WL.val (Yl.move (v := .bool (decide (a1 < 0))) rfl) ?_
  obtain ⟨g8, HE9, H⟩ := bindE H
  refine WL.cut (fun env_ w_ => env_ 19 = .bool g8 ∧ env_ 0 = .slice A1 n3 c2 ∧ env_ 1 = .int .i64 a1 ∧ Ctx w F D w_ F [] ∧ (∃ n_, w_ = w.drewN n_)) ?_ ?_
  · skip
    rcases iteE HE9 with ⟨hc10, HE9⟩ | ⟨hc10, HE9⟩
    · skip
      refine WL.off rfl (congrArg Value.bool (decide_eq_true hc10)) ?_
      refine WL.off rfl (congrArg Value.bool (decide_eq_true hc10)) ?_
      refine WL.off rfl (congrArg Value.bool (decide_eq_true hc10)) ?_
      refine WL.val (Yl.pickT (v := .bool true) (congrArg Value.bool (decide_eq_true hc10)) rfl) ?_
      refine WL.val (Yl.move (v := .bool true) rfl) ?_
      refine WL.off rfl rfl ?_
      refine WL.off rfl rfl ?_
      refine WL.off rfl rfl ?_
      refine WL.off rfl rfl ?_
      refine WL.off rfl rfl ?_
      refine WL.val (Yl.pickT (v := .bool true) rfl rfl) ?_
      cases HE9
      exact WL.done ⟨rfl, rfl, rfl, C, W0⟩
    · skip
      refine WL.on rfl (congrArg Value.bool (decide_eq_false hc10)) ?_
      refine WL.val (Yl.move (v := .slice A1 n3 c2) rfl) ?_
      refine WL.on rfl (congrArg Value.bool (decide_eq_false hc10)) ?_
      refine WL.val (Yl.lenN (A := A1) (l := n3) (q := c2) (n := (a0.length : Int)) rfl Tryd.underlying28 (by omega)) ?_
      refine WL.on rfl (congrArg Value.bool (decide_eq_false hc10)) ?_
      refine WL.val (Yl.lss (m := (a0.length : Int)) (n := 4) (q := decide ((a0.length : Int) < 4)) rfl rfl rfl) ?_
      refine WL.val (Yl.pickF (v := .bool (decide ((a0.length : Int) < 4))) (congrArg Value.bool (decide_eq_false hc10)) rfl) ?_
      refine WL.val (Yl.move (v := .bool (decide ((a0.length : Int) < 4))) rfl) ?_
      rcases iteE HE9 with ⟨hc11, HE9⟩ | ⟨hc11, HE9⟩
      · skip
        refine WL.off rfl (congrArg Value.bool (decide_eq_true hc11)) ?_
        refine WL.off rfl (congrArg Value.bool (decide_eq_true hc11)) ?_
        refine WL.off rfl (congrArg Value.bool (decide_eq_true hc11)) ?_
        refine WL.off rfl (congrArg Value.bool (decide_eq_true hc11)) ?_
        refine WL.off rfl (congrArg Value.bool (decide_eq_true hc11)) ?_
        refine WL.val (Yl.pickT (v := .bool true) (congrArg Value.bool (decide_eq_true hc11)) rfl) ?_
        cases HE9
        exact WL.done ⟨rfl, rfl, rfl, C, W0⟩
      · skip
        refine WL.on rfl (congrArg Value.bool (decide_eq_false hc11)) ?_
        refine WL.val (Yl.move (v := .int .i64 a1) rfl) ?_
        refine WL.on rfl (congrArg Value.bool (decide_eq_false hc11)) ?_
        refine WL.val (Yl.move (v := .slice A1 n3 c2) rfl) ?_
        refine WL.on rfl (congrArg Value.bool (decide_eq_false hc11)) ?_
        refine WL.val (Yl.lenN (A := A1) (l := n3) (q := c2) (n := (a0.length : Int)) rfl Tryd.underlying28 (by omega)) ?_
        refine WL.on rfl (congrArg Value.bool (decide_eq_false hc11)) ?_
        refine WL.val (Yl.sub (m := (a0.length : Int)) (n := 4) (r := wi64 ((a0.length : Int) - 4)) rfl rfl rfl) ?_
        refine WL.on rfl (congrArg Value.bool (decide_eq_false hc11)) ?_
        refine WL.val (Yl.gtr (m := a1) (n := wi64 ((a0.length : Int) - 4)) (q := decide (a1 > (wi64 ((a0.length : Int) - 4)))) rfl rfl rfl) ?_
        refine WL.val (Yl.pickF (v := .bool (decide (a1 > (wi64 ((a0.length : Int) - 4))))) (congrArg Value.bool (decide_eq_false hc11)) rfl) ?_
        cases HE9
        exact WL.done ⟨rfl, rfl, rfl, C, W0⟩
  · skip
    rintro env_ w_ ⟨ho12, ho13, ho14, C15, Wq16⟩
    rcases iteE H with ⟨hc17, H⟩ | ⟨hc17, H⟩
    · skip
      refine W.condT (ho12.trans (congrArg Value.bool hc17)) ?_
      refine W.seq ?_
      refine W.region rfl ?_
      refine WL.val (Yl.assign (v := .int .u32 0) rfl) ?_
      refine WL.val (Yl.assign (v := .int .i64 1) rfl) ?_
      refine WL.done ?_
      refine W.ret ?_
      refine thenE_r ?_
      simp only [Option.some.injEq, Prod.mk.injEq] at H
      obtain ⟨e18, e19⟩ := H
      subst e18 e19
      exact post_r (resE2 rfl rfl rfl) ⟨rfl, Wq16⟩
    · skip
      refine W.condF (ho12.trans (congrArg Value.bool (Bool.eq_false_iff.2 hc17))) ?_
      refine W.skip ?_
      refine W.seq ?_
      refine W.region_quiet (by kernel_rfl) (by kernel_rfl) rfl ?_
      refine WQ.val (fun _ hw => by obtain ⟨_, rfl⟩ := hw; exact Yl.move (v := .slice A1 n3 c2) ho13) ?_
      refine WQ.val (fun _ hw => by obtain ⟨_, rfl⟩ := hw; exact Yl.move (v := .int .i64 a1) ho14) ?_
      obtain ⟨hc20, H⟩ := guardE H
      obtain ⟨b21, of22, hA23, he24⟩ := hS7 (by omega)
      refine WQ.val (fun _ hw => by obtain ⟨_, rfl⟩ := hw; exact Yl.elemAddr (i := a1) rfl rfl hA23 Tryd.underlying28 sz5 (by omega)) ?_
      obtain ⟨cs25, hr26, hx27⟩ := he24 a1.toNat _ (getD_some (d := 0) (by omega))
      obtain rfl := hr26
      refine WQ.val (fun _ hw => by obtain ⟨_, rfl⟩ := hw; exact Yl.load (v := .int .u8 (a0.getD a1.toNat 0)) rfl Tryd.underlying5 rfl ((((C15.drewN _).fro)).cell (hx27 0 _ rfl))) ?_
      refine WQ.val (fun _ hw => by obtain ⟨_, rfl⟩ := hw; exact Yl.conv (m := a0.getD a1.toNat 0) (r := wu32 (a0.getD a1.toNat 0)) rfl Tryd.underlying5 Tryd.underlying101 rfl) ?_
      refine WQ.val (fun _ hw => by obtain ⟨_, rfl⟩ := hw; exact Yl.mul (m := wu32 (a0.getD a1.toNat 0)) (n := 16777216) (r := wu32 ((wu32 (a0.getD a1.toNat 0)) * 16777216)) rfl rfl rfl) ?_
      refine WQ.val (fun _ hw => by obtain ⟨_, rfl⟩ := hw; exact Yl.move (v := .slice A1 n3 c2) ho13) ?_
      refine WQ.val (fun _ hw => by obtain ⟨_, rfl⟩ := hw; exact Yl.move (v := .int .i64 a1) ho14) ?_
      refine WQ.val (fun _ hw => by obtain ⟨_, rfl⟩ := hw; exact Yl.add (m := a1) (n := 1) (r := wi64 (a1 + 1)) rfl rfl rfl) ?_
      obtain ⟨hc28, H⟩ := guardE H
      refine WQ.val (fun _ hw => by obtain ⟨_, rfl⟩ := hw; exact Yl.elemAddr (i := wi64 (a1 + 1)) rfl rfl hA23 Tryd.underlying28 sz5 (by omega)) ?_
      obtain ⟨cs29, hr30, hx31⟩ := he24 (wi64 (a1 + 1)).toNat _ (getD_some (d := 0) (by omega))
      obtain rfl := hr30
      refine WQ.val (fun _ hw => by obtain ⟨_, rfl⟩ := hw; exact Yl.load (v := .int .u8 (a0.getD (wi64 (a1 + 1)).toNat 0)) rfl Tryd.underlying5 rfl ((((C15.drewN _).fro)).cell (hx31 0 _ rfl))) ?_
      refine WQ.val (fun _ hw => by obtain ⟨_, rfl⟩ := hw; exact Yl.conv (m := a0.getD (wi64 (a1 + 1)).toNat 0) (r := wu32 (a0.getD (wi64 (a1 + 1)).toNat 0)) rfl Tryd.underlying5 Tryd.underlying101 rfl) ?_
      refine WQ.val (fun _ hw => by obtain ⟨_, rfl⟩ := hw; exact Yl.mul (m := wu32 (a0.getD (wi64 (a1 + 1)).toNat 0)) (n := 65536) (r := wu32 ((wu32 (a0.getD (wi64 (a1 + 1)).toNat 0)) * 65536)) rfl rfl rfl) ?_
      refine WQ.val (fun _ hw => by obtain ⟨_, rfl⟩ := hw; exact Yl.add (m := wu32 ((wu32 (a0.getD a1.toNat 0)) * 16777216)) (n := wu32 ((wu32 (a0.getD (wi64 (a1 + 1)).toNat 0)) * 65536)) (r := wu32 ((wu32 ((wu32 (a0.getD a1.toNat 0)) * 16777216)) + (wu32 ((wu32 (a0.getD (wi64 (a1 + 1)).toNat 0)) * 65536)))) rfl rfl rfl) ?_
      refine WQ.val (fun _ hw => by obtain ⟨_, rfl⟩ := hw; exact Yl.move (v := .slice A1 n3 c2) ho13) ?_
      refine WQ.val (fun _ hw => by obtain ⟨_, rfl⟩ := hw; exact Yl.move (v := .int .i64 a1) ho14) ?_
      refine WQ.val (fun _ hw => by obtain ⟨_, rfl⟩ := hw; exact Yl.add (m := a1) (n := 2) (r := wi64 (a1 + 2)) rfl rfl rfl) ?_
      obtain ⟨hc32, H⟩ := guardE H
      refine WQ.val (fun _ hw => by obtain ⟨_, rfl⟩ := hw; exact Yl.elemAddr (i := wi64 (a1 + 2)) rfl rfl hA23 Tryd.underlying28 sz5 (by omega)) ?_
      obtain ⟨cs33, hr34, hx35⟩ := he24 (wi64 (a1 + 2)).toNat _ (getD_some (d := 0) (by omega))
      obtain rfl := hr34
      refine WQ.val (fun _ hw => by obtain ⟨_, rfl⟩ := hw; exact Yl.load (v := .int .u8 (a0.getD (wi64 (a1 + 2)).toNat 0)) rfl Tryd.underlying5 rfl ((((C15.drewN _).fro)).cell (hx35 0 _ rfl))) ?_
      refine WQ.val (fun _ hw => by obtain ⟨_, rfl⟩ := hw; exact Yl.conv (m := a0.getD (wi64 (a1 + 2)).toNat 0) (r := wu32 (a0.getD (wi64 (a1 + 2)).toNat 0)) rfl Tryd.underlying5 Tryd.underlying101 rfl) ?_
      refine WQ.val (fun _ hw => by obtain ⟨_, rfl⟩ := hw; exact Yl.mul (m := wu32 (a0.getD (wi64 (a1 + 2)).toNat 0)) (n := 256) (r := wu32 ((wu32 (a0.getD (wi64 (a1 + 2)).toNat 0)) * 256)) rfl rfl rfl) ?_
      refine WQ.val (fun _ hw => by obtain ⟨_, rfl⟩ := hw; exact Yl.add (m := wu32 ((wu32 ((wu32 (a0.getD a1.toNat 0)) * 16777216)) + (wu32 ((wu32 (a0.getD (wi64 (a1 + 1)).toNat 0)) * 65536)))) (n := wu32 ((wu32 (a0.getD (wi64 (a1 + 2)).toNat 0)) * 256)) (r := wu32 ((wu32 ((wu32 ((wu32 (a0.getD a1.toNat 0)) * 16777216)) + (wu32 ((wu32 (a0.getD (wi64 (a1 + 1)).toNat 0)) * 65536)))) + (wu32 ((wu32 (a0.getD (wi64 (a1 + 2)).toNat 0)) * 256)))) rfl rfl rfl) ?_
      refine WQ.val (fun _ hw => by obtain ⟨_, rfl⟩ := hw; exact Yl.move (v := .slice A1 n3 c2) ho13) ?_
      refine WQ.val (fun _ hw => by obtain ⟨_, rfl⟩ := hw; exact Yl.move (v := .int .i64 a1) ho14) ?_
      refine WQ.val (fun _ hw => by obtain ⟨_, rfl⟩ := hw; exact Yl.add (m := a1) (n := 3) (r := wi64 (a1 + 3)) rfl rfl rfl) ?_
      obtain ⟨hc36, H⟩ := guardE H
      refine WQ.val (fun _ hw => by obtain ⟨_, rfl⟩ := hw; exact Yl.elemAddr (i := wi64 (a1 + 3)) rfl rfl hA23 Tryd.underlying28 sz5 (by omega)) ?_
      obtain ⟨cs37, hr38, hx39⟩ := he24 (wi64 (a1 + 3)).toNat _ (getD_some (d := 0) (by omega))
      obtain rfl := hr38
      refine WQ.val (fun _ hw => by obtain ⟨_, rfl⟩ := hw; exact Yl.load (v := .int .u8 (a0.getD (wi64 (a1 + 3)).toNat 0)) rfl Tryd.underlying5 rfl ((((C15.drewN _).fro)).cell (hx39 0 _ rfl))) ?_
      refine WQ.val (fun _ hw => by obtain ⟨_, rfl⟩ := hw; exact Yl.conv (m := a0.getD (wi64 (a1 + 3)).toNat 0) (r := wu32 (a0.getD (wi64 (a1 + 3)).toNat 0)) rfl Tryd.underlying5 Tryd.underlying101 rfl) ?_
      refine WQ.val (fun _ hw => by obtain ⟨_, rfl⟩ := hw; exact Yl.add (m := wu32 ((wu32 ((wu32 ((wu32 (a0.getD a1.toNat 0)) * 16777216)) + (wu32 ((wu32 (a0.getD (wi64 (a1 + 1)).toNat 0)) * 65536)))) + (wu32 ((wu32 (a0.getD (wi64 (a1 + 2)).toNat 0)) * 256)))) (n := wu32 (a0.getD (wi64 (a1 + 3)).toNat 0)) (r := wu32 ((wu32 ((wu32 ((wu32 ((wu32 (a0.getD a1.toNat 0)) * 16777216)) + (wu32 ((wu32 (a0.getD (wi64 (a1 + 1)).toNat 0)) * 65536)))) + (wu32 ((wu32 (a0.getD (wi64 (a1 + 2)).toNat 0)) * 256)))) + (wu32 (a0.getD (wi64 (a1 + 3)).toNat 0)))) rfl rfl rfl) ?_
      refine WQ.val (fun _ hw => by obtain ⟨_, rfl⟩ := hw; exact Yl.assign (v := .int .u32 (wu32 ((wu32 ((wu32 ((wu32 ((wu32 (a0.getD a1.toNat 0)) * 16777216)) + (wu32 ((wu32 (a0.getD (wi64 (a1 + 1)).toNat 0)) * 65536)))) + (wu32 ((wu32 (a0.getD (wi64 (a1 + 2)).toNat 0)) * 256)))) + (wu32 (a0.getD (wi64 (a1 + 3)).toNat 0))))) rfl) ?_
      refine WQ.val (fun _ hw => by obtain ⟨_, rfl⟩ := hw; exact Yl.assign (v := .int .i64 0) rfl) ?_
      refine WQ.done (fun nq40 => ?_)
      have C41 := Ctx.drewN C15 nq40
      have Wq42 := drew_more Wq16 nq40
      refine W.ret ?_
      simp only [Option.some.injEq, Prod.mk.injEq] at H
      obtain ⟨e43, e44⟩ := H
      subst e43 e44
      exact post_r (resE2 rfl rfl rfl) ⟨rfl, Wq42⟩
def juratref01_Rot.l1 : Nat → Int → Int → Int → Option Int
  | 0, _, _, _ => none
  | k + 1, x4, x25, x28 => if x28 < x4 then (juratref01_Rot.l1 k x4 (wu32 ((wu32 (x25.tdiv 2)) + (wu32 ((x25.tmod 2) * 2147483648)))) (wi64 (x28 + 1))) else (some x25)
def juratref01_Rot.f (k : Nat) (a0 : Int) (a1 : Int) : Option Int := (if (a1.tmod 32) < 0 then (some (wi64 ((a1.tmod 32) + 32))) else (some (a1.tmod 32))).bind fun x4 => (juratref01_Rot.l1 k x4 a0 0).bind fun x20 => some x20
set_option maxRecDepth 100000 in
set_option maxHeartbeats 4000000 in
theorem juratref01_Rot.calls (k : Nat) (w : World) (F : CH) (a0 : Int) (a1 : Int) (hp : Pre w F [])  (r0_ : Int) (H : juratref01_Rot.f k a0 a1 = some r0_) :
    Calls Tryd.prog 77 #[.int .u32 a0, .int .i64 a1] w fun e w' => e = .returned (.int .u32 r0_) ∧ (∃ n_, w' = w.drewN n_) := by
  have C := Ctx.start hp
  generalize domL [] = D at C
  have W0 : ∃ n_, w = w.drewN n_ := ⟨0, rfl⟩
  unfold juratref01_Rot.f at H
  refine Calls.ofW Tryd.func77 rfl (by simp [Tryd.ntmps77]) ?_
  refine W.seq ?_
  refine W.region rfl ?_
  refine WL.val (Yl.assign (v := .int .u32 0) rfl) ?_
  refine WL.done ?_
  refine W.seq ?_
  refine W.region rfl ?_
  refine WL.val (Yl.move (v := .int .i64 a1) rfl) ?_
  refine WL.val (Yl.rem (m := a1) (n := 32) (r := a1.tmod 32) rfl rfl (by decide) rfl) ?_
  refine WL.val (Yl.assign (v := .int .i64 (a1.tmod 32)) rfl) ?_
  refine WL.done ?_
  refine W.seq ?_
  obtain ⟨x4, hX7, H⟩ := bindE H
  refine W.cutM (fun env_ w_ => env_ 0 = .int .u32 a0 ∧ env_ 1 = .int .i64 x4 ∧ Ctx w F D w_ F [] ∧ (∃ n_, w_ = w.drewN n_)) ?_ ?_
  · skip
    refine W.seq ?_
    refine W.region rfl ?_
    refine WL.val (Yl.move (v := .int .i64 (a1.tmod 32)) rfl) ?_
    refine WL.val (Yl.lss (m := a1.tmod 32) (n := 0) (q := decide ((a1.tmod 32) < 0)) rfl rfl rfl) ?_
    refine WL.done ?_
    rcases iteE hX7 with ⟨hc8, hX7⟩ | ⟨hc8, hX7⟩
    · skip
      refine W.condT (congrArg Value.bool (decide_eq_true hc8)) ?_
      refine W.region rfl ?_
      refine WL.val (Yl.move (v := .int .i64 (a1.tmod 32)) rfl) ?_
      refine WL.val (Yl.add (m := a1.tmod 32) (n := 32) (r := wi64 ((a1.tmod 32) + 32)) rfl rfl rfl) ?_
      refine WL.val (Yl.assign (v := .int .i64 (wi64 ((a1.tmod 32) + 32))) rfl) ?_
      refine WL.done ?_
      cases hX7
      refine thenE_n ?_
      exact ⟨rfl, rfl, C, W0⟩
    · skip
      refine W.condF (congrArg Value.bool (decide_eq_false hc8)) ?_
      refine W.skip ?_
      cases hX7
      refine thenE_n ?_
      exact ⟨rfl, rfl, C, W0⟩
  · skip
    rintro env_ w_ ⟨ho2, ho3, C5, Wq6⟩
    refine W.seq ?_
    refine W.seq ?_
    refine W.region rfl ?_
    refine WL.val (Yl.assign (v := .int .i64 0) rfl) ?_
    refine WL.done ?_
    obtain ⟨x20, hX23, H⟩ := bindE H
    refine W.cutM (fun env_ w_ => env_ 0 = .int .u32 x20 ∧ Ctx w F D w_ F [] ∧ (∃ n_, w_ = w.drewN n_)) ?_ ?_
    · skip
      refine W.block ?_
      refine W.loop (fun g_ env_ w_ => ∃ (x25 : Int) (x28 : Int), env_ 0 = .int .u32 x25 ∧ env_ 1 = .int .i64 x4 ∧ env_ 5 = .int .i64 x28 ∧ Ctx w F D w_ F [] ∧ (∃ n_, w_ = w.drewN n_) ∧ juratref01_Rot.l1 g_ x4 x25 x28 = some x20) k ⟨a0, 0, ho2, ho3, rfl, C5, Wq6, hX23⟩ ?_
      clear hX23
      rintro g_ env_ w_ ⟨x25, x28, ho24, ho26, ho27, C29, Wq30, hX23⟩
      rcases g_ with _ | k32
      · exact absurd hX23 (by simp [juratref01_Rot.l1])
      rw [juratref01_Rot.l1] at hX23
      refine W.seq ?_
      refine W.seq ?_
      refine W.region rfl ?_
      refine WL.val (Yl.move (v := .int .i64 x28) ho27) ?_
      refine WL.val (Yl.move (v := .int .i64 x4) ho26) ?_
      refine WL.val (Yl.lss (m := x28) (n := x4) (q := decide (x28 < x4)) rfl rfl rfl) ?_
      refine WL.done ?_
      rcases iteE hX23 with ⟨hc33, hX23⟩ | ⟨hc33, hX23⟩
      · skip
        refine W.condT (congrArg Value.bool (decide_eq_true hc33)) ?_
        refine W.skip ?_
        refine W.seq ?_
        refine W.block ?_
        refine W.seq ?_
        refine W.region rfl ?_
        refine WL.val (Yl.move (v := .int .u32 x25) ho24) ?_
        refine WL.val (Yl.rem (m := x25) (n := 2) (r := x25.tmod 2) rfl rfl (by decide) rfl) ?_
        refine WL.val (Yl.assign (v := .int .u32 (x25.tmod 2)) rfl) ?_
        refine WL.done ?_
        refine W.region rfl ?_
        refine WL.val (Yl.move (v := .int .u32 x25) ho24) ?_
        refine WL.val (Yl.quo (m := x25) (n := 2) (r := wu32 (x25.tdiv 2)) rfl rfl (by decide) rfl) ?_
        refine WL.val (Yl.move (v := .int .u32 (x25.tmod 2)) rfl) ?_
        refine WL.val (Yl.mul (m := x25.tmod 2) (n := 2147483648) (r := wu32 ((x25.tmod 2) * 2147483648)) rfl rfl rfl) ?_
        refine WL.val (Yl.add (m := wu32 (x25.tdiv 2)) (n := wu32 ((x25.tmod 2) * 2147483648)) (r := wu32 ((wu32 (x25.tdiv 2)) + (wu32 ((x25.tmod 2) * 2147483648)))) rfl rfl rfl) ?_
        refine WL.val (Yl.assign (v := .int .u32 (wu32 ((wu32 (x25.tdiv 2)) + (wu32 ((x25.tmod 2) * 2147483648))))) rfl) ?_
        refine WL.done ?_
        refine inB_n ?_
        refine W.region rfl ?_
        refine WL.val (Yl.move (v := .int .i64 x28) ho27) ?_
        refine WL.val (Yl.add (m := x28) (n := 1) (r := wi64 (x28 + 1)) rfl rfl rfl) ?_
        refine WL.val (Yl.assign (v := .int .i64 (wi64 (x28 + 1))) rfl) ?_
        refine WL.done ?_
        exact thenE_n ⟨k32, Nat.lt_succ_self _, wu32 ((wu32 (x25.tdiv 2)) + (wu32 ((x25.tmod 2) * 2147483648))), wi64 (x28 + 1), rfl, ho26, rfl, C29, Wq30, hX23⟩
      · skip
        refine W.condF (congrArg Value.bool (decide_eq_false hc33)) ?_
        refine W.exit ?_
        refine thenE_x ?_
        refine thenE_x ?_
        refine inB_here ?_
        cases hX23
        refine thenE_n ?_
        exact ⟨ho24, C29, Wq30⟩
    · skip
      rintro env_ w_ ⟨ho19, C21, Wq22⟩
      refine W.seq ?_
      refine W.region rfl ?_
      refine WL.val (Yl.move (v := .int .u32 x20) ho19) ?_
      refine WL.val (Yl.assign (v := .int .u32 x20) rfl) ?_
      refine WL.done ?_
      refine W.ret ?_
      have e34 := Option.some.inj H
      subst e34
      exact post_r (resE1 rfl rfl) ⟨rfl, Wq22⟩
def juratref01_Same.l1 : Nat → List Int → List Int → Int → Option (Sum Unit Bool)
  | 0, _, _, _ => none
  | k + 1, a0, a1, x72 => if x72 < (a0.length : Int) then (if 0 ≤ x72 ∧ x72 < (a0.length : Int) then (if 0 ≤ x72 ∧ x72 < (a1.length : Int) then (if (a0.getD x72.toNat 0) = (a1.getD x72.toNat 0) then (juratref01_Same.l1 k a0 a1 (wi64 (x72 + 1))) else (some (Sum.inr false))) else none) else none) else (some (Sum.inl ()))
def juratref01_Same.f (k : Nat) (a0 : List Int) (a1 : List Int) : Option Bool := if (a0.length : Int) = (a1.length : Int) then ((juratref01_Same.l1 k a0 a1 0).bind fun o_ => sumE o_ (fun _ => some true) (fun p_ => some p_)) else (some false)
set_option maxRecDepth 100000 in
set_option maxHeartbeats 4000000 in
theorem juratref01_Same.calls (k : Nat) (w : World) (F : CH) (A1 : Option Addr) (c2 : Nat) (n3 : Nat) (a0 : List Int) (A8 : Option Addr) (c9 : Nat) (n10 : Nat) (a1 : List Int) (hp : Pre w F []) (hn4 : n3 = a0.length) (hl5 : a0.length ≤ c2) (hm6 : c2 ≤ maxLen) (hS7 : Sl (Kd.int .u8) F F A1 a0) (hn11 : n10 = a1.length) (hl12 : a1.length ≤ c9) (hm13 : c9 ≤ maxLen) (hS14 : Sl (Kd.int .u8) F F A8 a1) (r0_ : Bool) (H : juratref01_Same.f k a0 a1 = some r0_) :
    Calls Tryd.prog 43 #[.slice A1 n3 c2, .slice A8 n10 c9] w fun e w' => e = .returned (.bool r0_) ∧ (∃ n_, w' = w.drewN n_) := by
  have C := Ctx.start hp
  generalize domL [] = D at C
  have W0 : ∃ n_, w = w.drewN n_ := ⟨0, rfl⟩
  unfold juratref01_Same.f at H
  refine Calls.ofW Tryd.func43 rfl (by simp [Tryd.ntmps43]) ?_
  refine W.seq ?_
  refine W.region rfl ?_
  refine WL.val (Yl.assign (v := .bool false) rfl) ?_
  refine WL.done ?_
  refine W.seq ?_
  refine W.seq ?_
  refine W.region rfl ?_
  refine WL.val (Yl.move (v := .slice A1 n3 c2) rfl) ?_
  refine WL.val (Yl.lenN (A := A1) (l := n3) (q := c2) (n := (a0.length : Int)) rfl Tryd.underlying28 (by omega)) ?_
  refine WL.val (Yl.move (v := .slice A8 n10 c9) rfl) ?_
  refine WL.val (Yl.lenN (A := A8) (l := n10) (q := c9) (n := (a1.length : Int)) rfl Tryd.underlying28 (by omega)) ?_
  refine WL.val (Yl.neq (m := (a0.length : Int)) (n := (a1.length : Int)) (q := !decide ((a0.length : Int) = (a1.length : Int))) rfl rfl rfl) ?_
  refine WL.done ?_
  rcases iteE H with ⟨hc15, H⟩ | ⟨hc15, H⟩
  · skip
    refine W.condF (congrArg Value.bool (ndec_t hc15)) ?_
    refine W.skip ?_
    refine W.seq ?_
    refine W.seq ?_
    refine W.region rfl ?_
    refine WL.val (Yl.assign (v := .int .i64 0) rfl) ?_
    refine WL.done ?_
    obtain ⟨o68, hX67, H⟩ := bindE H
    refine W.cutM (fun env_ w_ => Ctx w F D w_ F [] ∧ (∃ n_, w_ = w.drewN n_) ∧ o68 = Sum.inl ()) ?_ ?_
    · skip
      refine W.block ?_
      refine W.loop (fun g_ env_ w_ => ∃ (x72 : Int), env_ 0 = .slice A1 n3 c2 ∧ env_ 1 = .slice A8 n10 c9 ∧ env_ 5 = .int .i64 x72 ∧ Ctx w F D w_ F [] ∧ (∃ n_, w_ = w.drewN n_) ∧ juratref01_Same.l1 g_ a0 a1 x72 = some o68) k ⟨0, rfl, rfl, rfl, C, W0, hX67⟩ ?_
      clear hX67
      rintro g_ env_ w_ ⟨x72, ho69, ho70, ho71, C73, Wq74, hX67⟩
      rcases g_ with _ | k96
      · exact absurd hX67 (by simp [juratref01_Same.l1])
      rw [juratref01_Same.l1] at hX67
      refine W.seq ?_
      refine W.seq ?_
      refine W.region rfl ?_
      refine WL.val (Yl.move (v := .int .i64 x72) ho71) ?_
      refine WL.val (Yl.move (v := .slice A1 n3 c2) ho69) ?_
      refine WL.val (Yl.lenN (A := A1) (l := n3) (q := c2) (n := (a0.length : Int)) rfl Tryd.underlying28 (by omega)) ?_
      refine WL.val (Yl.lss (m := x72) (n := (a0.length : Int)) (q := decide (x72 < (a0.length : Int))) rfl rfl rfl) ?_
      refine WL.done ?_
      rcases iteE hX67 with ⟨hc97, hX67⟩ | ⟨hc97, hX67⟩
      · skip
        refine W.condT (congrArg Value.bool (decide_eq_true hc97)) ?_
        refine W.skip ?_
        refine W.seq ?_
        refine W.block ?_
        refine W.seq ?_
        refine W.region_quiet (by kernel_rfl) (by kernel_rfl) rfl ?_
        refine WQ.val (fun _ hw => by obtain ⟨_, rfl⟩ := hw; exact Yl.move (v := .slice A1 n3 c2) ho69) ?_
        refine WQ.val (fun _ hw => by obtain ⟨_, rfl⟩ := hw; exact Yl.move (v := .int .i64 x72) ho71) ?_
        obtain ⟨hc98, hX67⟩ := guardE hX67
        obtain ⟨b99, of100, hA101, he102⟩ := hS7 (by omega)
        refine WQ.val (fun _ hw => by obtain ⟨_, rfl⟩ := hw; exact Yl.elemAddr (i := x72) rfl rfl hA101 Tryd.underlying28 sz5 (by omega)) ?_
        obtain ⟨cs103, hr104, hx105⟩ := he102 x72.toNat _ (getD_some (d := 0) (by omega))
        obtain rfl := hr104
        refine WQ.val (fun _ hw => by obtain ⟨_, rfl⟩ := hw; exact Yl.load (v := .int .u8 (a0.getD x72.toNat 0)) rfl Tryd.underlying5 rfl ((((C73.drewN _).fro)).cell (hx105 0 _ rfl))) ?_
        refine WQ.val (fun _ hw => by obtain ⟨_, rfl⟩ := hw; exact Yl.move (v := .slice A8 n10 c9) ho70) ?_
        refine WQ.val (fun _ hw => by obtain ⟨_, rfl⟩ := hw; exact Yl.move (v := .int .i64 x72) ho71) ?_
        obtain ⟨hc106, hX67⟩ := guardE hX67
        obtain ⟨b107, of108, hA109, he110⟩ := hS14 (by omega)
        refine WQ.val (fun _ hw => by obtain ⟨_, rfl⟩ := hw; exact Yl.elemAddr (i := x72) rfl rfl hA109 Tryd.underlying28 sz5 (by omega)) ?_
        obtain ⟨cs111, hr112, hx113⟩ := he110 x72.toNat _ (getD_some (d := 0) (by omega))
        obtain rfl := hr112
        refine WQ.val (fun _ hw => by obtain ⟨_, rfl⟩ := hw; exact Yl.load (v := .int .u8 (a1.getD x72.toNat 0)) rfl Tryd.underlying5 rfl ((((C73.drewN _).fro)).cell (hx113 0 _ rfl))) ?_
        refine WQ.val (fun _ hw => by obtain ⟨_, rfl⟩ := hw; exact Yl.neq (m := a0.getD x72.toNat 0) (n := a1.getD x72.toNat 0) (q := !decide ((a0.getD x72.toNat 0) = (a1.getD x72.toNat 0))) rfl rfl rfl) ?_
        refine WQ.done (fun nq114 => ?_)
        have C115 := Ctx.drewN C73 nq114
        have Wq116 := drew_more Wq74 nq114
        rcases iteE hX67 with ⟨hc117, hX67⟩ | ⟨hc117, hX67⟩
        · skip
          refine W.condF (congrArg Value.bool (ndec_t hc117)) ?_
          refine W.skip ?_
          refine inB_n ?_
          refine W.region rfl ?_
          refine WL.val (Yl.move (v := .int .i64 x72) ho71) ?_
          refine WL.val (Yl.add (m := x72) (n := 1) (r := wi64 (x72 + 1)) rfl rfl rfl) ?_
          refine WL.val (Yl.assign (v := .int .i64 (wi64 (x72 + 1))) rfl) ?_
          refine WL.done ?_
          exact thenE_n ⟨k96, Nat.lt_succ_self _, wi64 (x72 + 1), ho69, ho70, rfl, C115, Wq116, hX67⟩
        · skip
          refine W.condT (congrArg Value.bool (ndec_f hc117)) ?_
          refine W.seq ?_
          refine W.region rfl ?_
          refine WL.val (Yl.assign (v := .bool false) rfl) ?_
          refine WL.done ?_
          refine W.ret ?_
          refine inB_r ?_
          refine thenE_r ?_
          refine thenE_r ?_
          refine inB_r ?_
          refine thenE_r ?_
          refine thenE_r ?_
          cases hX67
          replace H := sumE_r H
          have e118 := Option.some.inj H
          subst e118
          exact post_r (resE1 rfl rfl) ⟨rfl, Wq116⟩
      · skip
        refine W.condF (congrArg Value.bool (decide_eq_false hc97)) ?_
        refine W.exit ?_
        refine thenE_x ?_
        refine thenE_x ?_
        refine inB_here ?_
        cases hX67
        refine thenE_n ?_
        exact ⟨C73, Wq74, rfl⟩
    · skip
      rintro env_ w_ ⟨C65, Wq66, rfl⟩
      replace H := sumE_l H
      refine W.seq ?_
      refine W.region rfl ?_
      refine WL.val (Yl.assign (v := .bool true) rfl) ?_
      refine WL.done ?_
      refine W.ret ?_
      have e119 := Option.some.inj H
      subst e119
      exact post_r (resE1 rfl rfl) ⟨rfl, Wq66⟩
  · skip
    refine W.condT (congrArg Value.bool (ndec_f hc15)) ?_
    refine W.seq ?_
    refine W.region rfl ?_
    refine WL.val (Yl.assign (v := .bool false) rfl) ?_
    refine WL.done ?_
    refine W.ret ?_
    refine thenE_r ?_
    have e120 := Option.some.inj H
    subst e120
    exact post_r (resE1 rfl rfl) ⟨rfl, W0⟩
def juratref02_Pad.l1 : Nat → Int → List Int → Option (List Int)
  | 0, _, _ => none
  | k + 1, a0, x77 => if ((wi64 (a0 + (x77.length : Int))).tmod 64) = 56 then (some x77) else (if (x77.length + 1) * 1 ≤ 140737488355328 then (juratref02_Pad.l1 k a0 (x77 ++ [0])) else none)
def juratref02_Pad.f (k : Nat) (a0 : Int) : Option (List Int) := (juratref02_Pad.l1 k a0 [128]).bind fun x66 => (juratref01_Bytes.f k (wu64 ((wu64 a0) * 8)) 8).bind fun ⟨r130, r131⟩ => if (x66.length + r130.length) * 1 ≤ 140737488355328 then (some (x66 ++ r130)) else none
set_option maxRecDepth 100000 in
set_option maxHeartbeats 4000000 in
theorem juratref02_Pad.calls (k : Nat) (w : World) (F : CH) (a0 : Int) (hp : Pre w F [])  (r0_ : List Int) (H : juratref02_Pad.f k a0 = some r0_) :
    Calls Tryd.prog 68 #[.int .i64 a0] w fun e w' => ∃ (A153 : Option Addr) (c154 : Nat) (n155 : Nat) (p157 : CH), e = .returned (.slice A153 n155 c154) ∧ Ctx w F (domL []) w' F [p157] ∧ n155 = r0_.length ∧ Row (Kd.int .u8) F p157 (.slice A153 n155 c154) r0_ := by
  have C := Ctx.start hp
  generalize hD : domL [] = D at C ⊢
  unfold juratref02_Pad.f at H
  refine Calls.ofW Tryd.func68 rfl (by simp [Tryd.ntmps68]) ?_
  refine W.seq ?_
  refine W.region rfl ?_
  refine WL.val (Yl.assign (v := .slice none 0 0) rfl) ?_
  refine WL.done ?_
  refine W.seq ?_
  refine W.region rfl ?_
  obtain ⟨A1, c2, n3, p4, w5, hn6, hy7, C8, hR9⟩ := ev_lit1' (P := Tryd.prog) 5 (Kd.int .u8) C Tryd.underlying28 ti5 ⟨by decide, by decide⟩ 128 (.int .u8 128) rfl
  refine WL.val (hy7 _ _ _ rfl) ?_
  refine WL.val (Yl.assign (v := .slice A1 n3 c2) rfl) ?_
  refine WL.done ?_
  refine W.seq ?_
  obtain ⟨x66, hX74, H⟩ := bindE H
  refine W.cutM (fun env_ w_ => ∃ (A67 : Option Addr) (c68 : Nat) (n69 : Nat) (p71 : CH), env_ 0 = .int .i64 a0 ∧ env_ 3 = .slice A67 n69 c68 ∧ Ctx w F D w_ F [p71] ∧ n69 = x66.length ∧ Row (Kd.int .u8) F p71 (.slice A67 n69 c68) x66) ?_ ?_
  · skip
    refine W.block ?_
    refine W.loop (fun g_ env_ w_ => ∃ (x77 : List Int) (A78 : Option Addr) (c79 : Nat) (n80 : Nat) (p82 : CH), env_ 0 = .int .i64 a0 ∧ env_ 3 = .slice A78 n80 c79 ∧ Ctx w F D w_ F [p82] ∧ n80 = x77.length ∧ Row (Kd.int .u8) F p82 (.slice A78 n80 c79) x77 ∧ juratref02_Pad.l1 g_ a0 x77 = some x66) k ⟨[128], A1, c2, n3, p4, rfl, rfl, C8, hn6, hR9, hX74⟩ ?_
    clear hX74
    rintro g_ env_ w_ ⟨x77, A78, c79, n80, p82, ho75, ho76, C84, hn81, hR83, hX74⟩
    rcases g_ with _ | k106
    · exact absurd hX74 (by simp [juratref02_Pad.l1])
    rw [juratref02_Pad.l1] at hX74
    refine W.seq ?_
    refine W.seq ?_
    refine W.region rfl ?_
    refine WL.val (Yl.move (v := .int .i64 a0) ho75) ?_
    refine WL.val (Yl.move (v := .slice A78 n80 c79) ho76) ?_
    refine WL.val (Yl.lenN (A := A78) (l := n80) (q := c79) (n := (x77.length : Int)) rfl Tryd.underlying28 (by omega)) ?_
    refine WL.val (Yl.add (m := a0) (n := (x77.length : Int)) (r := wi64 (a0 + (x77.length : Int))) rfl rfl rfl) ?_
    refine WL.val (Yl.rem (m := wi64 (a0 + (x77.length : Int))) (n := 64) (r := (wi64 (a0 + (x77.length : Int))).tmod 64) rfl rfl (by decide) rfl) ?_
    refine WL.val (Yl.neq (m := (wi64 (a0 + (x77.length : Int))).tmod 64) (n := 56) (q := !decide (((wi64 (a0 + (x77.length : Int))).tmod 64) = 56)) rfl rfl rfl) ?_
    refine WL.done ?_
    rcases iteE hX74 with ⟨hc107, hX74⟩ | ⟨hc107, hX74⟩
    · skip
      refine W.condF (congrArg Value.bool (ndec_t hc107)) ?_
      refine W.exit ?_
      refine thenE_x ?_
      refine thenE_x ?_
      refine inB_here ?_
      cases hX74
      refine thenE_n ?_
      exact ⟨A78, c79, n80, p82, ho75, ho76, C84, hn81, hR83⟩
    · skip
      refine W.condT (congrArg Value.bool (ndec_f hc107)) ?_
      refine W.skip ?_
      refine W.block ?_
      refine W.region rfl ?_
      refine WL.val (Yl.move (v := .slice A78 n80 c79) ho76) ?_
      obtain ⟨A108, c109, n110, p111, w112, hn113, hy114, C115, hR116⟩ := ev_lit1' (P := Tryd.prog) 5 (Kd.int .u8) C84 Tryd.underlying28 ti5 ⟨by decide, by decide⟩ 0 (.int .u8 0) rfl
      refine WL.val (hy114 _ _ _ rfl) ?_
      obtain ⟨hc117, hX74⟩ := guardE hX74
      obtain ⟨A118, c119, n120, p121, w122, hn123, hy124, C125, hR126⟩ := ev_append' (P := Tryd.prog) (cb := c109) 5 (Kd.int .u8) [p111] [] C115 hR83 hn113 (Row.sl hR116) (Ctx.sub_of [] [p82] C115) Tryd.underlying28 ti5 rfl zo5 (by decide) (by decide) (by simpa using hc117)
      have C127 : Ctx _ _ _ _ F [p111, p121] := C125
      refine WL.val (hy124 _ _ _ _ rfl rfl) ?_
      refine WL.val (Yl.assign (v := .slice A118 n120 c119) rfl) ?_
      refine WL.done ?_
      refine inB_n ?_
      have C128 : Ctx _ _ _ _ F [p121] := Ctx.drop [] [p121] C127
      exact thenE_n ⟨k106, Nat.lt_succ_self _, x77 ++ [0], A118, c119, n120, p121, ho75, rfl, C128, hn123, hR126, hX74⟩
  · skip
    rintro env_ w_ ⟨A67, c68, n69, p71, ho64, ho65, C73, hn70, hR72⟩
    refine W.seq ?_
    refine W.region rfl ?_
    refine WL.val (Yl.move (v := .int .i64 a0) ho64) ?_
    refine WL.val (Yl.conv (m := a0) (r := wu64 a0) rfl Tryd.underlying3 Tryd.underlying113 rfl) ?_
    refine WL.val (Yl.mul (m := wu64 a0) (n := 8) (r := wu64 ((wu64 a0) * 8)) rfl rfl rfl) ?_
    obtain ⟨⟨r130, r131⟩, hg129, H⟩ := bindE H
    refine WL.call (args := #[.int .u64 (wu64 ((wu64 a0) * 8)), .int .i64 8]) (Yenter.fn Tryd.func75 (by kernel_rfl) rfl (argsE (.cons rfl (.cons rfl .nil)))) (juratref01_Bytes.calls k _ F (wu64 ((wu64 a0) * 8)) 8 (Ctx.pre (qs := []) (rest := [p71]) C73)  r130 r131 hg129) ?_
    rintro e_ w_ ⟨A132, c133, n134, p136, rfl, C138, hn135, hR137⟩
    refine ⟨_, rfl, ?_⟩
    have C139 : Ctx _ _ _ _ F [p136, p71] := Ctx.call (qs := []) (rest := [p71]) C73 C138
    refine WL.val (Yl.move (v := .tuple #[(.slice A132 n134 c133), (.int .i64 r131)]) rfl) ?_
    refine WL.val (Yl.extract (v := .slice A132 n134 c133) rfl rfl) ?_
    refine WL.val (Yl.extract (v := .int .i64 r131) rfl rfl) ?_
    refine WL.val (Yl.assign (v := .slice A132 n134 c133) rfl) ?_
    refine WL.val (Yl.assign (v := .int .i64 r131) rfl) ?_
    refine WL.done ?_
    refine W.seq ?_
    refine W.region rfl ?_
    refine WL.val (Yl.move (v := .slice A67 n69 c68) ho65) ?_
    refine WL.val (Yl.move (v := .slice A132 n134 c133) rfl) ?_
    obtain ⟨hc140, H⟩ := guardE H
    obtain ⟨A141, c142, n143, p144, w145, hn146, hy147, C148, hR149⟩ := ev_append' (P := Tryd.prog) (cb := c133) 5 (Kd.int .u8) [p136] [] C139 hR72 hn135 (Row.sl hR137) (Ctx.sub_of [] [p71] C139) Tryd.underlying28 ti5 rfl zo5 (by decide) (by decide) (by simpa using hc140)
    have C150 : Ctx _ _ _ _ F [p136, p144] := C148
    refine WL.val (hy147 _ _ _ _ rfl rfl) ?_
    refine WL.val (Yl.assign (v := .slice A141 n143 c142) rfl) ?_
    refine WL.done ?_
    refine W.ret ?_
    have C151 : Ctx _ _ _ _ F [p144] := Ctx.drop [] [p144] C150
    have e152 := Option.some.inj H
    subst e152
    exact post_r (resE1 rfl rfl) ⟨A141, c142, n143, p144, rfl, C151, hn146, hR149⟩
end Go.Proofs.YthdlfclkcdnenaaDoor
