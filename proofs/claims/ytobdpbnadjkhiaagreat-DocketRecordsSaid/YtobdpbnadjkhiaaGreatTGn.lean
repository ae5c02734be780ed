/- Functions of the program: each as a plain function of numbers and lists, and the proof that the program's own comes to it. Nothing is assumed but what each theorem says. -/
import Derived.Test.YtobdpbnadjkhiaaGreatTGt
namespace Go.Proofs.YtobdpbnadjkhiaaGreat
open Go.RowKit Go.WG
set_option linter.unusedVariables false
set_option linter.unusedSimpArgs false
def juratref01_Same.l1 : Nat → List Int → List Int → Int → Option (Sum Unit Bool)
  | 0, _, _, _ => none
  | k + 1, a0, a1, x72 => if x72 < (a0.length : Int) then (if 0 ≤ x72 ∧ x72 < (a0.length : Int) then (if 0 ≤ x72 ∧ x72 < (a1.length : Int) then (if (a0.getD x72.toNat 0) = (a1.getD x72.toNat 0) then (juratref01_Same.l1 k a0 a1 (wi64 (x72 + 1))) else (some (Sum.inr false))) else none) else none) else (some (Sum.inl ()))
def juratref01_Same.f (k : Nat) (a0 : List Int) (a1 : List Int) : Option Bool := if (a0.length : Int) = (a1.length : Int) then ((juratref01_Same.l1 k a0 a1 0).bind fun o_ => sumE o_ (fun _ => some true) (fun p_ => some p_)) else (some false)
set_option maxRecDepth 100000 in
set_option maxHeartbeats 4000000 in
theorem juratref01_Same.calls (k : Nat) (w : World) (F : CH) (A1 : Option Addr) (c2 : Nat) (n3 : Nat) (a0 : List Int) (A8 : Option Addr) (c9 : Nat) (n10 : Nat) (a1 : List Int) (hp : Pre w F []) (hn4 : n3 = a0.length) (hl5 : a0.length ≤ c2) (hm6 : c2 ≤ maxLen) (hS7 : Sl (Kd.int .u8) F F A1 a0) (hn11 : n10 = a1.length) (hl12 : a1.length ≤ c9) (hm13 : c9 ≤ maxLen) (hS14 : Sl (Kd.int .u8) F F A8 a1) (r0_ : Bool) (H : juratref01_Same.f k a0 a1 = some r0_) :
    Calls Tryz.prog 11 #[.slice A1 n3 c2, .slice A8 n10 c9] w fun e w' => e = .returned (.bool r0_) ∧ (∃ n_, w' = w.drewN n_) := by
 have C := Ctx.start hp
 generalize domL [] = D at C
 have W0 : ∃ n_, w = w.drewN n_ := ⟨0, rfl⟩
 unfold juratref01_Same.f at H
 refine Calls.ofW Tryz.func11 rfl (by simp [Tryz.ntmps11]) ?_
 refine W.seq ?_
 refine W.region rfl ?_
 refine WL.run to 1 rfl ?_
 refine WL.done ?_
 refine W.seq ?_
 refine W.seq ?_
 refine W.region rfl ?_
 refine WL.run to 1 rfl ?_
 refine WL.val (Yl.lenN (A := A1) (l := n3) (q := c2) (n := (a0.length : Int)) rfl Tryz.underlying24 (by omega)) ?_
 refine WL.run to 1 rfl ?_
 refine WL.val (Yl.lenN (A := A8) (l := n10) (q := c9) (n := (a1.length : Int)) rfl Tryz.underlying24 (by omega)) ?_
 refine WL.run to 1 rfl ?_
 refine WL.done ?_
 rcases iteE H with ⟨hc15, H⟩ | ⟨hc15, H⟩
 ·refine W.condF (congrArg Value.bool (ndec_t hc15)) ?_
  refine W.skip ?_
  refine W.seq ?_
  refine W.seq ?_
  refine W.region rfl ?_
  refine WL.run to 1 rfl ?_
  refine WL.done ?_
  obtain ⟨o68, hX67, H⟩ := bindE H
  refine W.cutM (fun env_ w_ => Ctx w F D w_ F [] ∧ (∃ n_, w_ = w.drewN n_) ∧ o68 = Sum.inl ()) ?_ ?_
  ·refine W.block ?_
   refine W.loop (fun g_ env_ w_ => ∃ (x72 : Int), env_ 0 = .slice A1 n3 c2 ∧ env_ 1 = .slice A8 n10 c9 ∧ env_ 5 = .int .i64 x72 ∧ Ctx w F D w_ F [] ∧ (∃ n_, w_ = w.drewN n_) ∧ juratref01_Same.l1 g_ a0 a1 x72 = some o68) k ⟨0, rfl, rfl, rfl, C, W0, hX67⟩ ?_
   clear hX67
   rintro g_ env_ w_ ⟨x72, ho69, ho70, ho71, C73, Wq74, hX67⟩
   rcases g_ with _ | k96
   · exact absurd hX67 (by simp [juratref01_Same.l1])
   rw [juratref01_Same.l1] at hX67
   apply kn env_ (.c ho69 (.c ho70 (.c ho71 .n)))
   refine W.seq ?_
   refine W.seq ?_
   refine W.region rfl ?_
   refine WL.run to 2 rfl ?_
   refine WL.val (Yl.lenN (A := A1) (l := n3) (q := c2) (n := (a0.length : Int)) rfl Tryz.underlying24 (by omega)) ?_
   refine WL.run to 1 rfl ?_
   refine WL.done ?_
   rcases iteE hX67 with ⟨hc97, hX67⟩ | ⟨hc97, hX67⟩
   ·refine W.condT (congrArg Value.bool (decide_eq_true hc97)) ?_
    refine W.skip ?_
    refine W.seq ?_
    refine W.block ?_
    refine W.seq ?_
    refine W.region_quiet (by kernel_rfl) (by kernel_rfl) rfl ?_
    refine WQ.run to 2 rfl ?_
    obtain ⟨hc98, hX67⟩ := guardE hX67
    obtain ⟨b99, of100, hA101, he102⟩ := hS7 (by omega)
    refine WQ.vl (fun _ => Yl.elemAddr (i := x72) rfl rfl hA101 Tryz.underlying24 sz5 (by omega)) ?_
    obtain ⟨cs103, hr104, hx105⟩ := he102 x72.toNat _ (getD_some (d := 0) (by omega))
    obtain rfl := hr104
    refine WQ.vl (fun _ => Yl.load (v := .int .u8 (a0.getD x72.toNat 0)) rfl Tryz.underlying5 rfl ((((C73.drewN _).fro)).cell (hx105 0 _ rfl))) ?_
    refine WQ.run to 2 rfl ?_
    obtain ⟨hc106, hX67⟩ := guardE hX67
    obtain ⟨b107, of108, hA109, he110⟩ := hS14 (by omega)
    refine WQ.vl (fun _ => Yl.elemAddr (i := x72) rfl rfl hA109 Tryz.underlying24 sz5 (by omega)) ?_
    obtain ⟨cs111, hr112, hx113⟩ := he110 x72.toNat _ (getD_some (d := 0) (by omega))
    obtain rfl := hr112
    refine WQ.vl (fun _ => Yl.load (v := .int .u8 (a1.getD x72.toNat 0)) rfl Tryz.underlying5 rfl ((((C73.drewN _).fro)).cell (hx113 0 _ rfl))) ?_
    refine WQ.run to 1 rfl ?_
    refine WQ.done (fun nq114 => ?_)
    have C115 := Ctx.drewN C73 nq114
    have Wq116 := drew_more Wq74 nq114
    rcases iteE hX67 with ⟨hc117, hX67⟩ | ⟨hc117, hX67⟩
    ·refine W.condF (congrArg Value.bool (ndec_t hc117)) ?_
     refine W.skip ?_
     refine inB_n ?_
     refine W.region rfl ?_
     refine WL.run to 3 rfl ?_
     refine WL.done ?_
     exact thenE_n ⟨k96, Nat.lt_succ_self _, wi64 (x72 + 1), rfl, rfl, rfl, C115, Wq116, hX67⟩
    ·refine W.condT (congrArg Value.bool (ndec_f hc117)) ?_
     refine W.seq ?_
     refine W.region rfl ?_
     refine WL.run to 1 rfl ?_
     refine WL.done ?_
     refine W.ret ?_
     refine inB_r ?_
     refine thenE_r ?_
     refine thenE_r ?_
     refine inB_r ?_
     refine thenE_r ?_
     refine thenE_r ?_
     cases hX67
     replace H := sumE_r H
     have e118 := Option.some.inj H
     subst e118
     exact post_r (resE1 rfl rfl) ⟨rfl, Wq116⟩
   ·refine W.condF (congrArg Value.bool (decide_eq_false hc97)) ?_
    refine W.exit ?_
    refine thenE_x ?_
    refine thenE_x ?_
    refine inB_here ?_
    cases hX67
    refine thenE_n ?_
    exact ⟨C73, Wq74, rfl⟩
  ·rintro env_ w_ ⟨C65, Wq66, rfl⟩
   replace H := sumE_l H
   refine W.seq ?_
   refine W.region rfl ?_
   refine WL.run to 1 rfl ?_
   refine WL.done ?_
   refine W.ret ?_
   have e119 := Option.some.inj H
   subst e119
   exact post_r (resE1 rfl rfl) ⟨rfl, Wq66⟩
 ·refine W.condT (congrArg Value.bool (ndec_f hc15)) ?_
  refine W.seq ?_
  refine W.region rfl ?_
  refine WL.run to 1 rfl ?_
  refine WL.done ?_
  refine W.ret ?_
  refine thenE_r ?_
  have e120 := Option.some.inj H
  subst e120
  exact post_r (resE1 rfl rfl) ⟨rfl, W0⟩
def juratref01_Bytes.l1 : Nat → Int → Int → List Int → Int → Option (List Int)
  | 0, _, _, _, _ => none
  | k + 1, a1, x80, x83, x91 => if x91 < a1 then (if ([wu8 (x80.tmod 256)].length + x83.length + ([wu8 (x80.tmod 256)].length + x83.length) / 4 + 192) * 1 ≤ 281474976710656 then (juratref01_Bytes.l1 k a1 (wu64 (x80.tdiv 256)) ([wu8 (x80.tmod 256)] ++ x83) (wi64 (x91 + 1))) else none) else (some x83)
def juratref01_Bytes.f (k : Nat) (a0 : Int) (a1 : Int) : Option ((List Int) × Int) := if ((decide (a1 < 0)) || (decide (a1 > 8))) = true then (some (([] : List Int), 1)) else ((juratref01_Bytes.l1 k a1 a0 ([] : List Int) 0).bind fun x70 => some (x70, 0))
set_option maxRecDepth 100000 in
set_option maxHeartbeats 4000000 in
theorem juratref01_Bytes.calls (k : Nat) (w : World) (F : CH) (a0 : Int) (a1 : Int) (hp : Pre w F [])  (r0_ : List Int) (r1_ : Int) (H : juratref01_Bytes.f k a0 a1 = some (r0_, r1_)) :
    Calls Tryz.prog 72 #[.int .u64 a0, .int .i64 a1] w fun e w' => ∃ (A140 : Option Addr) (c141 : Nat) (n142 : Nat) (p144 : CH), e = .returned (.tuple #[(.slice A140 n142 c141), (.int .i64 r1_)]) ∧ Ctx w F (domL []) w' F [p144] ∧ n142 = r0_.length ∧ Row (Kd.int .u8) F p144 (.slice A140 n142 c141) r0_ := by
 have C := Ctx.start hp
 generalize hD : domL [] = D at C ⊢
 unfold juratref01_Bytes.f at H
 refine Calls.ofW Tryz.func72 rfl (by simp [Tryz.ntmps72]) ?_
 refine W.seq ?_
 refine W.region rfl ?_
 refine WL.run to 2 rfl ?_
 refine WL.done ?_
 refine W.seq ?_
 refine W.seq ?_
 refine W.region rfl ?_
 refine WL.run to 3 rfl ?_
 refine WL.cut (fun env_ w_ => env_ 13 = .bool ((decide (a1 < 0)) || (decide (a1 > 8))) ∧ env_ 0 = .int .u64 a0 ∧ env_ 1 = .int .i64 a1 ∧ Ctx w F D w_ F []) ?_ ?_
 ·rcases Bool.eq_false_or_eq_true (decide (a1 < 0)) with hb1 | hb1
  ·refine WL.kn 10 (congrArg Value.bool hb1) ?_
   refine WL.offs 2 10 false rfl rfl ?_
   refine WL.run to 1 rfl ?_
   exact WL.done ⟨(congrArg Value.bool (show true = ((decide (a1 < 0)) || (decide (a1 > 8))) from by simp [hb1])), rfl, rfl, C⟩
  ·refine WL.kn 10 (congrArg Value.bool hb1) ?_
   refine WL.run to 3 rfl ?_
   exact WL.done ⟨(congrArg Value.bool (show (decide (a1 > 8)) = ((decide (a1 < 0)) || (decide (a1 > 8))) from by simp [hb1])), rfl, rfl, C⟩
 ·rintro env_ w_ ⟨ho2, ho3, ho4, C5⟩
  apply kn env_ (.c ho2 (.c ho3 (.c ho4 .n)))
  rcases iteE H with ⟨hc6, H⟩ | ⟨hc6, H⟩
  ·refine W.condT (congrArg Value.bool hc6) ?_
   refine W.seq ?_
   refine W.region rfl ?_
   refine WL.run to 2 rfl ?_
   refine WL.done ?_
   refine W.ret ?_
   refine thenE_r ?_
   have C7 : Ctx _ _ _ _ _ [CH.emp] := Ctx.pick [0] C5 rfl
   simp only [Option.some.injEq, Prod.mk.injEq] at H
   obtain ⟨e8, e9⟩ := H
   subst e8 e9
   exact post_r (resE2 rfl rfl rfl) ⟨none, 0, 0, CH.emp, rfl, C7, rfl, (Row.nil _ _)⟩
  ·refine W.condF (congrArg Value.bool (Bool.eq_false_iff.2 hc6)) ?_
   refine W.skip ?_
   refine W.seq ?_
   refine W.region rfl ?_
   refine WL.run to 1 rfl ?_
   refine WL.done ?_
   refine W.seq ?_
   refine W.seq ?_
   refine W.region rfl ?_
   refine WL.run to 1 rfl ?_
   refine WL.done ?_
   obtain ⟨x70, hX78, H⟩ := bindE H
   refine W.cutM (fun env_ w_ => ∃ (A71 : Option Addr) (c72 : Nat) (n73 : Nat) (p75 : CH), env_ 6 = .slice A71 n73 c72 ∧ Ctx w F D w_ F [p75] ∧ n73 = x70.length ∧ Row (Kd.int .u8) F p75 (.slice A71 n73 c72) x70) ?_ ?_
   ·refine W.block ?_
    have C115 : Ctx _ _ _ _ _ [CH.emp] := Ctx.pick [0] C5 rfl
    refine W.loop (fun g_ env_ w_ => ∃ (x80 : Int) (x83 : List Int) (x91 : Int) (A84 : Option Addr) (c85 : Nat) (n86 : Nat) (p88 : CH), env_ 0 = .int .u64 x80 ∧ env_ 1 = .int .i64 a1 ∧ env_ 6 = .slice A84 n86 c85 ∧ env_ 7 = .int .i64 x91 ∧ Ctx w F D w_ F [p88] ∧ n86 = x83.length ∧ Row (Kd.int .u8) F p88 (.slice A84 n86 c85) x83 ∧ juratref01_Bytes.l1 g_ a1 x80 x83 x91 = some x70) k ⟨a0, ([] : List Int), 0, none, 0, 0, CH.emp, rfl, rfl, rfl, rfl, C115, rfl, (Row.nil _ _), hX78⟩ ?_
    clear hX78
    rintro g_ env_ w_ ⟨x80, x83, x91, A84, c85, n86, p88, ho79, ho81, ho82, ho90, C92, hn87, hR89, hX78⟩
    rcases g_ with _ | k114
    · exact absurd hX78 (by simp [juratref01_Bytes.l1])
    rw [juratref01_Bytes.l1] at hX78
    apply kn env_ (.c ho79 (.c ho81 (.c ho82 (.c ho90 .n))))
    refine W.seq ?_
    refine W.seq ?_
    refine W.region rfl ?_
    refine WL.run to 3 rfl ?_
    refine WL.done ?_
    rcases iteE hX78 with ⟨hc116, hX78⟩ | ⟨hc116, hX78⟩
    ·refine W.condT (congrArg Value.bool (decide_eq_true hc116)) ?_
     refine W.skip ?_
     refine W.seq ?_
     refine W.block ?_
     refine W.seq ?_
     refine W.region rfl ?_
     refine WL.run to 1 rfl ?_
     refine WL.val (Yl.rem (m := x80) (n := 256) (r := x80.tmod 256) rfl rfl (by decide) rfl) ?_
     refine WL.val (Yl.conv (m := x80.tmod 256) (r := wu8 (x80.tmod 256)) rfl Tryz.underlying82 Tryz.underlying5 rfl) ?_
     obtain ⟨A117, c118, n119, p120, w121, hn122, hy123, C124, hR125⟩ := ev_lit1' (P := Tryz.prog) 5 (Kd.int .u8) C92 Tryz.underlying24 ti5 ⟨by decide, by decide⟩ (wu8 (x80.tmod 256)) (.int .u8 (wu8 (x80.tmod 256))) rfl
     refine WL.val (hy123 _ _ _ rfl) ?_
     refine WL.run to 1 rfl ?_
     obtain ⟨hc126, hX78⟩ := guardE hX78
     obtain ⟨A127, c128, n129, p130, w131, hn132, hy133, C134, hR135⟩ := ev_append' (P := Tryz.prog) (cb := c85) 5 (Kd.int .u8) [] [p88] C124 hR125 hn87 (Row.sl hR89) (Ctx.subI 1 C124 rfl) Tryz.underlying24 ti5 rfl zo5 (by decide) (by decide) (by simpa using hc126)
     have C136 : Ctx _ _ _ _ _ [p130, p88] := C134
     refine WL.val (hy133 _ _ _ _ rfl rfl) ?_
     refine WL.run to 1 rfl ?_
     refine WL.done ?_
     refine W.region rfl ?_
     refine WL.run to 1 rfl ?_
     refine WL.val (Yl.quo (m := x80) (n := 256) (r := wu64 (x80.tdiv 256)) rfl rfl (by decide) rfl) ?_
     refine WL.run to 1 rfl ?_
     refine WL.done ?_
     refine inB_n ?_
     refine W.region rfl ?_
     refine WL.run to 3 rfl ?_
     refine WL.done ?_
     have C137 : Ctx _ _ _ _ _ [p130] := Ctx.pick [0] C136 rfl
     exact thenE_n ⟨k114, Nat.lt_succ_self _, wu64 (x80.tdiv 256), [wu8 (x80.tmod 256)] ++ x83, wi64 (x91 + 1), A127, c128, n129, p130, rfl, rfl, rfl, rfl, C137, hn132, hR135, hX78⟩
    ·refine W.condF (congrArg Value.bool (decide_eq_false hc116)) ?_
     refine W.exit ?_
     refine thenE_x ?_
     refine thenE_x ?_
     refine inB_here ?_
     cases hX78
     refine thenE_n ?_
     exact ⟨A84, c85, n86, p88, rfl, C92, hn87, hR89⟩
   ·rintro env_ w_ ⟨A71, c72, n73, p75, ho69, C77, hn74, hR76⟩
    apply kn env_ (.c ho69 .n)
    refine W.seq ?_
    refine W.region rfl ?_
    refine WL.run to 3 rfl ?_
    refine WL.done ?_
    refine W.ret ?_
    simp only [Option.some.injEq, Prod.mk.injEq] at H
    obtain ⟨e138, e139⟩ := H
    subst e138 e139
    exact post_r (resE2 rfl rfl rfl) ⟨A71, c72, n73, p75, rfl, C77, hn74, hR76⟩
def juratref01_Number.l1 : Nat → List Int → Int → Int → Option Int
  | 0, _, _, _ => none
  | k + 1, a0, x44, x46 => if x46 < (a0.length : Int) then (if 0 ≤ x46 ∧ x46 < (a0.length : Int) then (juratref01_Number.l1 k a0 (wu64 ((wu64 (x44 * 256)) + (wu64 (a0.getD x46.toNat 0)))) (wi64 (x46 + 1))) else none) else (some x44)
def juratref01_Number.f (k : Nat) (a0 : List Int) : Option (Int × Int) := if (a0.length : Int) > 8 then (some (0, 1)) else ((juratref01_Number.l1 k a0 0 0).bind fun x38 => some (x38, 0))
set_option maxRecDepth 100000 in
set_option maxHeartbeats 4000000 in
theorem juratref01_Number.calls (k : Nat) (w : World) (F : CH) (A1 : Option Addr) (c2 : Nat) (n3 : Nat) (a0 : List Int) (hp : Pre w F []) (hn4 : n3 = a0.length) (hl5 : a0.length ≤ c2) (hm6 : c2 ≤ maxLen) (hS7 : Sl (Kd.int .u8) F F A1 a0) (r0_ : Int) (r1_ : Int) (H : juratref01_Number.f k a0 = some (r0_, r1_)) :
    Calls Tryz.prog 62 #[.slice A1 n3 c2] w fun e w' => e = .returned (.tuple #[(.int .u64 r0_), (.int .i64 r1_)]) ∧ (∃ n_, w' = w.drewN n_) := by
 have C := Ctx.start hp
 generalize domL [] = D at C
 have W0 : ∃ n_, w = w.drewN n_ := ⟨0, rfl⟩
 unfold juratref01_Number.f at H
 refine Calls.ofW Tryz.func62 rfl (by simp [Tryz.ntmps62]) ?_
 refine W.seq ?_
 refine W.region rfl ?_
 refine WL.run to 2 rfl ?_
 refine WL.done ?_
 refine W.seq ?_
 refine W.seq ?_
 refine W.region rfl ?_
 refine WL.run to 1 rfl ?_
 refine WL.val (Yl.lenN (A := A1) (l := n3) (q := c2) (n := (a0.length : Int)) rfl Tryz.underlying24 (by omega)) ?_
 refine WL.run to 1 rfl ?_
 refine WL.done ?_
 rcases iteE H with ⟨hc8, H⟩ | ⟨hc8, H⟩
 ·refine W.condT (congrArg Value.bool (decide_eq_true hc8)) ?_
  refine W.seq ?_
  refine W.region rfl ?_
  refine WL.run to 2 rfl ?_
  refine WL.done ?_
  refine W.ret ?_
  refine thenE_r ?_
  simp only [Option.some.injEq, Prod.mk.injEq] at H
  obtain ⟨e9, e10⟩ := H
  subst e9 e10
  exact post_r (resE2 rfl rfl rfl) ⟨rfl, W0⟩
 ·refine W.condF (congrArg Value.bool (decide_eq_false hc8)) ?_
  refine W.skip ?_
  refine W.seq ?_
  refine W.region rfl ?_
  refine WL.run to 1 rfl ?_
  refine WL.done ?_
  refine W.seq ?_
  refine W.seq ?_
  refine W.region rfl ?_
  refine WL.run to 1 rfl ?_
  refine WL.done ?_
  obtain ⟨x38, hX41, H⟩ := bindE H
  refine W.cutM (fun env_ w_ => env_ 4 = .int .u64 x38 ∧ Ctx w F D w_ F [] ∧ (∃ n_, w_ = w.drewN n_)) ?_ ?_
  ·refine W.block ?_
   refine W.loop (fun g_ env_ w_ => ∃ (x44 : Int) (x46 : Int), env_ 0 = .slice A1 n3 c2 ∧ env_ 4 = .int .u64 x44 ∧ env_ 5 = .int .i64 x46 ∧ Ctx w F D w_ F [] ∧ (∃ n_, w_ = w.drewN n_) ∧ juratref01_Number.l1 g_ a0 x44 x46 = some x38) k ⟨0, 0, rfl, rfl, rfl, C, W0, hX41⟩ ?_
   clear hX41
   rintro g_ env_ w_ ⟨x44, x46, ho42, ho43, ho45, C47, Wq48, hX41⟩
   rcases g_ with _ | k58
   · exact absurd hX41 (by simp [juratref01_Number.l1])
   rw [juratref01_Number.l1] at hX41
   apply kn env_ (.c ho42 (.c ho43 (.c ho45 .n)))
   refine W.seq ?_
   refine W.seq ?_
   refine W.region rfl ?_
   refine WL.run to 2 rfl ?_
   refine WL.val (Yl.lenN (A := A1) (l := n3) (q := c2) (n := (a0.length : Int)) rfl Tryz.underlying24 (by omega)) ?_
   refine WL.run to 1 rfl ?_
   refine WL.done ?_
   rcases iteE hX41 with ⟨hc59, hX41⟩ | ⟨hc59, hX41⟩
   ·refine W.condT (congrArg Value.bool (decide_eq_true hc59)) ?_
    refine W.skip ?_
    refine W.seq ?_
    refine W.block ?_
    refine W.region rfl ?_
    refine WL.run to 4 rfl ?_
    obtain ⟨hc60, hX41⟩ := guardE hX41
    obtain ⟨b61, of62, hA63, he64⟩ := hS7 (by omega)
    refine WL.val (Yl.elemAddr (i := x46) rfl rfl hA63 Tryz.underlying24 sz5 (by omega)) ?_
    obtain ⟨cs65, hr66, hx67⟩ := he64 x46.toNat _ (getD_some (d := 0) (by omega))
    obtain rfl := hr66
    refine WL.val (Yl.load (v := .int .u8 (a0.getD x46.toNat 0)) rfl Tryz.underlying5 rfl (((C47.fro)).cell (hx67 0 _ rfl))) ?_
    refine WL.val (Yl.conv (m := a0.getD x46.toNat 0) (r := wu64 (a0.getD x46.toNat 0)) rfl Tryz.underlying5 Tryz.underlying82 rfl) ?_
    refine WL.run to 2 rfl ?_
    refine WL.done ?_
    refine inB_n ?_
    refine W.region rfl ?_
    refine WL.run to 3 rfl ?_
    refine WL.done ?_
    exact thenE_n ⟨k58, Nat.lt_succ_self _, wu64 ((wu64 (x44 * 256)) + (wu64 (a0.getD x46.toNat 0))), wi64 (x46 + 1), rfl, rfl, rfl, C47, Wq48, hX41⟩
   ·refine W.condF (congrArg Value.bool (decide_eq_false hc59)) ?_
    refine W.exit ?_
    refine thenE_x ?_
    refine thenE_x ?_
    refine inB_here ?_
    cases hX41
    refine thenE_n ?_
    exact ⟨rfl, C47, Wq48⟩
  ·rintro env_ w_ ⟨ho37, C39, Wq40⟩
   apply kn env_ (.c ho37 .n)
   refine W.seq ?_
   refine W.region rfl ?_
   refine WL.run to 3 rfl ?_
   refine WL.done ?_
   refine W.ret ?_
   simp only [Option.some.injEq, Prod.mk.injEq] at H
   obtain ⟨e68, e69⟩ := H
   subst e68 e69
   exact post_r (resE2 rfl rfl rfl) ⟨rfl, Wq40⟩
def juratref03_Bytes.l1 : Nat → List Int → List Int → Int → Option (List Int)
  | 0, _, _, _ => none
  | k + 1, a0, x77, x85 => if x85 < 32 then (if 0 ≤ x85 ∧ x85 < (32 : Int) then (if (x77.length + 1 + (x77.length + 1) / 4 + 192) * 1 ≤ 281474976710656 then (juratref03_Bytes.l1 k a0 (x77 ++ [a0.getD x85.toNat 0]) (wi64 (x85 + 1))) else none) else none) else (some x77)
def juratref03_Bytes.f (k : Nat) (a0 : List Int) : Option (List Int) := (juratref03_Bytes.l1 k a0 ([] : List Int) 0).bind fun x66 => some x66
set_option maxRecDepth 100000 in
set_option maxHeartbeats 4000000 in
theorem juratref03_Bytes.calls (k : Nat) (w : World) (F : CH) (a0 : List Int) (hp : Pre w F []) (ha1 : a0.length = 32) (r0_ : List Int) (H : juratref03_Bytes.f k a0 = some r0_) :
    Calls Tryz.prog 28 #[.agg (List.toArray (a0.map (Value.int .u8)))] w fun e w' => ∃ (A136 : Option Addr) (c137 : Nat) (n138 : Nat) (p140 : CH), e = .returned (.slice A136 n138 c137) ∧ Ctx w F (domL []) w' F [p140] ∧ n138 = r0_.length ∧ Row (Kd.int .u8) F p140 (.slice A136 n138 c137) r0_ := by
 have C := Ctx.start hp
 generalize hD : domL [] = D at C ⊢
 unfold juratref03_Bytes.f at H
 refine Calls.ofW Tryz.func28 rfl (by simp [Tryz.ntmps28]) ?_
 refine W.seq ?_
 refine W.region rfl ?_
 obtain ⟨g2, w3, hy4, C5⟩ := ev_box (P := Tryz.prog) 23 (.agg (List.toArray (a0.map (Value.int .u8)))) (a0.map (Value.int .u8)) C rfl
 refine WL.val (hy4 _ _ _ rfl) ?_
 refine WL.run to 1 rfl ?_
 refine WL.done ?_
 refine W.seq ?_
 refine W.region rfl ?_
 refine WL.run to 1 rfl ?_
 refine WL.done ?_
 refine W.seq ?_
 refine W.seq ?_
 refine W.region rfl ?_
 refine WL.run to 1 rfl ?_
 refine WL.done ?_
 obtain ⟨x66, hX74, H⟩ := bindE H
 refine W.cutM (fun env_ w_ => ∃ (A67 : Option Addr) (c68 : Nat) (n69 : Nat) (p71 : CH), env_ 3 = .slice A67 n69 c68 ∧ Ctx w F D w_ F [p71, CH.row g2 0 (a0.map (Value.int .u8))] ∧ n69 = x66.length ∧ Row (Kd.int .u8) F p71 (.slice A67 n69 c68) x66) ?_ ?_
 ·refine W.block ?_
  have C110 : Ctx _ _ _ _ _ [CH.emp, CH.row g2 0 (a0.map (Value.int .u8))] := Ctx.pick [1, 0] C5 rfl
  refine W.loop (fun g_ env_ w_ => ∃ (x77 : List Int) (x85 : Int) (A78 : Option Addr) (c79 : Nat) (n80 : Nat) (p82 : CH), env_ 1 = .pointer (some ⟨g2, 0, none⟩) ∧ env_ 3 = .slice A78 n80 c79 ∧ env_ 4 = .int .i64 x85 ∧ Ctx w F D w_ F [p82, CH.row g2 0 (a0.map (Value.int .u8))] ∧ n80 = x77.length ∧ Row (Kd.int .u8) F p82 (.slice A78 n80 c79) x77 ∧ juratref03_Bytes.l1 g_ a0 x77 x85 = some x66) k ⟨([] : List Int), 0, none, 0, 0, CH.emp, rfl, rfl, rfl, C110, rfl, (Row.nil _ _), hX74⟩ ?_
  clear hX74
  rintro g_ env_ w_ ⟨x77, x85, A78, c79, n80, p82, ho75, ho76, ho84, C86, hn81, hR83, hX74⟩
  rcases g_ with _ | k109
  · exact absurd hX74 (by simp [juratref03_Bytes.l1])
  rw [juratref03_Bytes.l1] at hX74
  apply kn env_ (.c ho75 (.c ho76 (.c ho84 .n)))
  refine W.seq ?_
  refine W.seq ?_
  refine W.region rfl ?_
  refine WL.run to 2 rfl ?_
  refine WL.done ?_
  rcases iteE hX74 with ⟨hc111, hX74⟩ | ⟨hc111, hX74⟩
  ·refine W.condT (congrArg Value.bool (decide_eq_true hc111)) ?_
   refine W.skip ?_
   refine W.seq ?_
   refine W.block ?_
   refine W.region rfl ?_
   refine WL.run to 2 rfl ?_
   obtain ⟨hc112, hX74⟩ := guardE hX74
   refine WL.val (Yl.arrAddr (i := x85) rfl rfl Tryz.underlying23 sz5 hc112) ?_
   refine WL.val (Yl.loadAr (k' := .u8) (g := g2) (off := 0) (o := 0) (cs := a0.map (Value.int .u8)) (pre := []) (post := []) (a := a0) (i := x85) rfl Tryz.underlying5 rfl (Ctx.subI 1 C86 rfl) (by first | (simp only [List.length_append, List.length_map, List.length_cons, List.length_nil, ha1]; done) | simp [ha1]) (by first | (simp only [List.length_append, List.length_map, List.length_cons, List.length_nil, ha1]; done) | simp [ha1]) (by have := ha1; have := hc112; omega)) ?_
   obtain ⟨A113, c114, n115, p116, w117, hn118, hy119, C120, hR121⟩ := ev_lit1' (P := Tryz.prog) 5 (Kd.int .u8) C86 Tryz.underlying24 ti5 ⟨by decide, by decide⟩ (a0.getD x85.toNat 0) (.int .u8 (a0.getD x85.toNat 0)) rfl
   refine WL.val (hy119 _ _ _ rfl) ?_
   obtain ⟨hc122, hX74⟩ := guardE hX74
   obtain ⟨A123, c124, n125, p126, w127, hn128, hy129, C130, hR131⟩ := ev_append' (P := Tryz.prog) (cb := c114) 5 (Kd.int .u8) [p116] [CH.row g2 0 (a0.map (Value.int .u8))] C120 hR83 hn118 (Row.sl hR121) (Ctx.subI 0 C120 rfl) Tryz.underlying24 ti5 rfl zo5 (by decide) (by decide) (by simpa using hc122)
   have C132 : Ctx _ _ _ _ _ [p116, p126, CH.row g2 0 (a0.map (Value.int .u8))] := C130
   refine WL.val (hy129 _ _ _ _ rfl rfl) ?_
   refine WL.run to 1 rfl ?_
   refine WL.done ?_
   refine inB_n ?_
   refine W.region rfl ?_
   refine WL.run to 3 rfl ?_
   refine WL.done ?_
   have C133 : Ctx _ _ _ _ _ [p126, CH.row g2 0 (a0.map (Value.int .u8))] := Ctx.pick [1, 2] C132 rfl
   exact thenE_n ⟨k109, Nat.lt_succ_self _, x77 ++ [a0.getD x85.toNat 0], wi64 (x85 + 1), A123, c124, n125, p126, rfl, rfl, rfl, C133, hn128, hR131, hX74⟩
  ·refine W.condF (congrArg Value.bool (decide_eq_false hc111)) ?_
   refine W.exit ?_
   refine thenE_x ?_
   refine thenE_x ?_
   refine inB_here ?_
   cases hX74
   refine thenE_n ?_
   exact ⟨A78, c79, n80, p82, rfl, C86, hn81, hR83⟩
 ·rintro env_ w_ ⟨A67, c68, n69, p71, ho65, C73, hn70, hR72⟩
  apply kn env_ (.c ho65 .n)
  refine W.seq ?_
  refine W.region rfl ?_
  refine WL.run to 2 rfl ?_
  refine WL.done ?_
  refine W.ret ?_
  have C134 : Ctx _ _ _ _ _ [p71] := Ctx.pick [0] C73 rfl
  have e135 := Option.some.inj H
  subst e135
  exact post_r (resE1 rfl rfl) ⟨A67, c68, n69, p71, rfl, C134, hn70, hR72⟩
def juratref04_Num.l1 : Nat → Int → Int → Option Int
  | 0, _, _ => none
  | k + 1, x17, x19 => if x19 > 0 then (juratref04_Num.l1 k (wi64 (x17 + 1)) (wu64 (x19.tdiv 256))) else (some x17)
def juratref04_Num.f (k : Nat) (a0 : Int) : Option (List Int) := (juratref04_Num.l1 k 0 a0).bind fun x12 => (juratref01_Bytes.f k a0 x12).bind fun ⟨r25, r26⟩ => if ([wu8 x12].length + r25.length + ([wu8 x12].length + r25.length) / 4 + 192) * 1 ≤ 281474976710656 then (some ([wu8 x12] ++ r25)) else none
set_option maxRecDepth 100000 in
set_option maxHeartbeats 4000000 in
theorem juratref04_Num.calls (k : Nat) (w : World) (F : CH) (a0 : Int) (hp : Pre w F [])  (r0_ : List Int) (H : juratref04_Num.f k a0 = some r0_) :
    Calls Tryz.prog 54 #[.int .u64 a0] w fun e w' => ∃ (A57 : Option Addr) (c58 : Nat) (n59 : Nat) (p61 : CH), e = .returned (.slice A57 n59 c58) ∧ Ctx w F (domL []) w' F [p61] ∧ n59 = r0_.length ∧ Row (Kd.int .u8) F p61 (.slice A57 n59 c58) r0_ := by
 have C := Ctx.start hp
 generalize hD : domL [] = D at C ⊢
 unfold juratref04_Num.f at H
 refine Calls.ofW Tryz.func54 rfl (by simp [Tryz.ntmps54]) ?_
 refine W.seq ?_
 refine W.region rfl ?_
 refine WL.run to 1 rfl ?_
 refine WL.done ?_
 refine W.seq ?_
 refine W.region rfl ?_
 refine WL.run to 1 rfl ?_
 refine WL.done ?_
 refine W.seq ?_
 refine W.seq ?_
 refine W.region rfl ?_
 refine WL.run to 2 rfl ?_
 refine WL.done ?_
 obtain ⟨x12, hX14, H⟩ := bindE H
 refine W.cutM (fun env_ w_ => env_ 0 = .int .u64 a0 ∧ env_ 3 = .int .i64 x12 ∧ Ctx w F D w_ F []) ?_ ?_
 ·refine W.block ?_
  refine W.loop (fun g_ env_ w_ => ∃ (x17 : Int) (x19 : Int), env_ 0 = .int .u64 a0 ∧ env_ 3 = .int .i64 x17 ∧ env_ 4 = .int .u64 x19 ∧ Ctx w F D w_ F [] ∧ juratref04_Num.l1 g_ x17 x19 = some x12) k ⟨0, a0, rfl, rfl, rfl, C, hX14⟩ ?_
  clear hX14
  rintro g_ env_ w_ ⟨x17, x19, ho15, ho16, ho18, C20, hX14⟩
  rcases g_ with _ | k22
  · exact absurd hX14 (by simp [juratref04_Num.l1])
  rw [juratref04_Num.l1] at hX14
  apply kn env_ (.c ho15 (.c ho16 (.c ho18 .n)))
  refine W.seq ?_
  refine W.seq ?_
  refine W.region rfl ?_
  refine WL.run to 2 rfl ?_
  refine WL.done ?_
  rcases iteE hX14 with ⟨hc23, hX14⟩ | ⟨hc23, hX14⟩
  ·refine W.condT (congrArg Value.bool (decide_eq_true hc23)) ?_
   refine W.skip ?_
   refine W.seq ?_
   refine W.block ?_
   refine W.region rfl ?_
   refine WL.run to 3 rfl ?_
   refine WL.done ?_
   refine inB_n ?_
   refine W.region rfl ?_
   refine WL.run to 1 rfl ?_
   refine WL.val (Yl.quo (m := x19) (n := 256) (r := wu64 (x19.tdiv 256)) rfl rfl (by decide) rfl) ?_
   refine WL.run to 1 rfl ?_
   refine WL.done ?_
   exact thenE_n ⟨k22, Nat.lt_succ_self _, wi64 (x17 + 1), wu64 (x19.tdiv 256), rfl, rfl, rfl, C20, hX14⟩
  ·refine W.condF (congrArg Value.bool (decide_eq_false hc23)) ?_
   refine W.exit ?_
   refine thenE_x ?_
   refine thenE_x ?_
   refine inB_here ?_
   cases hX14
   refine thenE_n ?_
   exact ⟨rfl, rfl, C20⟩
 ·rintro env_ w_ ⟨ho10, ho11, C13⟩
  apply kn env_ (.c ho10 (.c ho11 .n))
  refine W.seq ?_
  refine W.region rfl ?_
  refine WL.run to 2 rfl ?_
  obtain ⟨⟨r25, r26⟩, hg24, H⟩ := bindE H
  refine WL.callH (juratref01_Bytes.calls k _ F a0 x12 (Ctx.pre (qs := []) (rest := []) C13)  r25 r26 hg24) (Yenter.fn Tryz.func72 (by kernel_rfl) rfl (argsE (.cons rfl (.cons rfl .nil)))) ?_
  rintro e_ w_ ⟨A27, c28, n29, p31, rfl, C33, hn30, hR32⟩
  refine ⟨_, rfl, ?_⟩
  have C34 : Ctx _ _ _ _ _ [p31] := Ctx.call (qs := []) (rest := []) C13 C33
  refine WL.run to 5 rfl ?_
  refine WL.done ?_
  refine W.seq ?_
  refine W.region rfl ?_
  refine WL.run to 1 rfl ?_
  refine WL.val (Yl.conv (m := x12) (r := wu8 x12) rfl Tryz.underlying3 Tryz.underlying5 rfl) ?_
  obtain ⟨A35, c36, n37, p38, w39, hn40, hy41, C42, hR43⟩ := ev_lit1' (P := Tryz.prog) 5 (Kd.int .u8) C34 Tryz.underlying24 ti5 ⟨by decide, by decide⟩ (wu8 x12) (.int .u8 (wu8 x12)) rfl
  refine WL.val (hy41 _ _ _ rfl) ?_
  refine WL.run to 1 rfl ?_
  refine WL.done ?_
  refine W.seq ?_
  refine W.region rfl ?_
  refine WL.run to 2 rfl ?_
  obtain ⟨hc44, H⟩ := guardE H
  obtain ⟨A45, c46, n47, p48, w49, hn50, hy51, C52, hR53⟩ := ev_append' (P := Tryz.prog) (cb := c28) 5 (Kd.int .u8) [] [p31] C42 hR43 hn30 (Row.sl hR32) (Ctx.subI 1 C42 rfl) Tryz.underlying24 ti5 rfl zo5 (by decide) (by decide) (by simpa using hc44)
  have C54 : Ctx _ _ _ _ _ [p48, p31] := C52
  refine WL.val (hy51 _ _ _ _ rfl rfl) ?_
  refine WL.run to 1 rfl ?_
  refine WL.done ?_
  refine W.ret ?_
  have C55 : Ctx _ _ _ _ _ [p48] := Ctx.pick [0] C54 rfl
  have e56 := Option.some.inj H
  subst e56
  exact post_r (resE1 rfl rfl) ⟨A45, c46, n47, p48, rfl, C55, hn50, hR53⟩
def juratref04_Text.f (k : Nat) (a0 : List Int) : Option (List Int) := (juratref04_Num.f k (wu64 (a0.length : Int))).bind fun r9 => if (r9.length + a0.length + (r9.length + a0.length) / 4 + 192) * 1 ≤ 281474976710656 then (some (r9 ++ a0)) else none
set_option maxRecDepth 100000 in
set_option maxHeartbeats 4000000 in
theorem juratref04_Text.calls (k : Nat) (w : World) (F : CH) (A1 : Option Addr) (c2 : Nat) (n3 : Nat) (a0 : List Int) (hp : Pre w F []) (hn4 : n3 = a0.length) (hl5 : a0.length ≤ c2) (hm6 : c2 ≤ maxLen) (hS7 : Sl (Kd.int .u8) F F A1 a0) (r0_ : List Int) (H : juratref04_Text.f k a0 = some r0_) :
    Calls Tryz.prog 29 #[.slice A1 n3 c2] w fun e w' => ∃ (A30 : Option Addr) (c31 : Nat) (n32 : Nat) (p34 : CH), e = .returned (.slice A30 n32 c31) ∧ Ctx w F (domL []) w' F [p34] ∧ n32 = r0_.length ∧ Row (Kd.int .u8) F p34 (.slice A30 n32 c31) r0_ := by
 have C := Ctx.start hp
 generalize hD : domL [] = D at C ⊢
 unfold juratref04_Text.f at H
 refine Calls.ofW Tryz.func29 rfl (by simp [Tryz.ntmps29]) ?_
 refine W.seq ?_
 refine W.region rfl ?_
 refine WL.run to 1 rfl ?_
 refine WL.done ?_
 refine W.seq ?_
 refine W.region rfl ?_
 refine WL.run to 1 rfl ?_
 refine WL.val (Yl.lenN (A := A1) (l := n3) (q := c2) (n := (a0.length : Int)) rfl Tryz.underlying24 (by omega)) ?_
 refine WL.val (Yl.conv (m := (a0.length : Int)) (r := wu64 (a0.length : Int)) rfl Tryz.underlying3 Tryz.underlying82 rfl) ?_
 obtain ⟨r9, hg8, H⟩ := bindE H
 refine WL.callH (juratref04_Num.calls k _ F (wu64 (a0.length : Int)) (Ctx.pre (qs := []) (rest := []) C)  r9 hg8) (Yenter.fn Tryz.func54 (by kernel_rfl) rfl (argsE (.cons rfl .nil))) ?_
 rintro e_ w_ ⟨A10, c11, n12, p14, rfl, C16, hn13, hR15⟩
 refine ⟨_, rfl, ?_⟩
 have C17 : Ctx _ _ _ _ _ [p14] := Ctx.call (qs := []) (rest := []) C C16
 refine WL.run to 1 rfl ?_
 refine WL.done ?_
 refine W.seq ?_
 refine W.region rfl ?_
 refine WL.run to 2 rfl ?_
 obtain ⟨hc18, H⟩ := guardE H
 obtain ⟨A19, c20, n21, p22, w23, hn24, hy25, C26, hR27⟩ := ev_append' (P := Tryz.prog) (cb := c2) 5 (Kd.int .u8) [] [] C17 hR15 hn4 hS7 C17.fro Tryz.underlying24 ti5 rfl zo5 (by decide) (by decide) (by simpa using hc18)
 have C28 : Ctx _ _ _ _ _ [p22] := C26
 refine WL.val (hy25 _ _ _ _ rfl rfl) ?_
 refine WL.run to 1 rfl ?_
 refine WL.done ?_
 refine W.ret ?_
 have e29 := Option.some.inj H
 subst e29
 exact post_r (resE1 rfl rfl) ⟨A19, c20, n21, p22, rfl, C28, hn24, hR27⟩
def juratref04_Reader_Num.f (k : Nat) (a0 : TReader_) (a1 : Int) : Option (Int × TReader_) := if a0.E = 0 then (if (a0.B.length : Int) = 0 then (some (0, (⟨a0.B, 40⟩ : TReader_))) else (if 0 ≤ (0 : Int) ∧ (0 : Int) < (a0.B.length : Int) then (if (wi64 (a0.B.getD (0 : Int).toNat 0)) > 8 then (some (0, (⟨a0.B, 41⟩ : TReader_))) else (if (wi64 (a0.B.getD (0 : Int).toNat 0)) > (wi64 ((a0.B.length : Int) - 1)) then (some (0, (⟨a0.B, 40⟩ : TReader_))) else ((if (wi64 (a0.B.getD (0 : Int).toNat 0)) > 0 then (if 0 ≤ (1 : Int) ∧ (1 : Int) < (a0.B.length : Int) then (some (decide ((a0.B.getD (1 : Int).toNat 0) = 0))) else none) else (some (false))).bind fun g40 => if g40 = true then (some (0, (⟨a0.B, 41⟩ : TReader_))) else (if 0 ≤ (1 : Int) ∧ (1 : Int) ≤ (wi64 (1 + (wi64 (a0.B.getD (0 : Int).toNat 0)))) ∧ (wi64 (1 + (wi64 (a0.B.getD (0 : Int).toNat 0)))) ≤ (a0.B.length : Int) then ((juratref01_Number.f k ((a0.B.take ((wi64 (1 + (wi64 (a0.B.getD (0 : Int).toNat 0)))).toNat)).drop ((1 : Int).toNat))).bind fun ⟨r70, r71⟩ => if r70 > a1 then (some (0, (⟨a0.B, 42⟩ : TReader_))) else (if 0 ≤ (wi64 (1 + (wi64 (a0.B.getD (0 : Int).toNat 0)))) ∧ (wi64 (1 + (wi64 (a0.B.getD (0 : Int).toNat 0)))) ≤ (a0.B.length : Int) ∧ (a0.B.length : Int) ≤ (a0.B.length : Int) then (some (r70, (⟨a0.B.drop ((wi64 (1 + (wi64 (a0.B.getD (0 : Int).toNat 0)))).toNat), a0.E⟩ : TReader_))) else none)) else none)))) else none)) else (some (0, a0))
set_option maxRecDepth 100000 in
set_option maxHeartbeats 4000000 in
theorem juratref04_Reader_Num.calls (k : Nat) (w : World) (F : CH) (g1 : Nat) (o2 : Nat) (A3 : Option Addr) (c4 : Nat) (n5 : Nat) (a0 : TReader_) (a1 : Int) (hp : Pre w F [CH.row g1 o2 [.slice A3 n5 c4, .int .i64 a0.E]]) (hn6 : n5 = a0.B.length) (hl7 : a0.B.length ≤ c4) (hm8 : c4 ≤ maxLen) (hS9 : Sl (Kd.int .u8) F F A3 a0.B) (r0_ : Int) (r1_ : TReader_) (H : juratref04_Reader_Num.f k a0 a1 = some (r0_, r1_)) :
    Calls Tryz.prog 35 #[.pointer (some ⟨g1, o2, none⟩), .int .u64 a1] w fun e w' => ∃ (A99 : Option Addr) (c100 : Nat) (n101 : Nat), e = .returned (.int .u64 r0_) ∧ Ctx w F (domL [CH.row g1 o2 [.slice A3 n5 c4, .int .i64 a0.E]]) w' F [CH.row g1 o2 [.slice A99 n101 c100, .int .i64 r1_.E]] ∧ n101 = r1_.B.length ∧ r1_.B.length ≤ c100 ∧ c100 ≤ maxLen ∧ Sl (Kd.int .u8) F F A99 r1_.B := by
 have C := Ctx.start hp
 generalize hD : domL [CH.row g1 o2 [.slice A3 n5 c4, .int .i64 a0.E]] = D at C ⊢
 unfold juratref04_Reader_Num.f at H
 refine Calls.ofW Tryz.func35 rfl (by simp [Tryz.ntmps35]) ?_
 refine W.seq ?_
 refine W.region rfl ?_
 refine WL.run to 1 rfl ?_
 refine WL.done ?_
 refine W.seq ?_
 refine W.seq ?_
 refine W.region rfl ?_
 refine WL.run to 3 rfl ?_
 refine WL.val (Yl.loadV (g := g1) (off := o2) (o := 1) (cs := [.slice A3 n5 c4, .int .i64 a0.E]) (v := .int .i64 a0.E) rfl Tryz.underlying3 rfl (Ctx.subI 0 C rfl) rfl) ?_
 refine WL.run to 1 rfl ?_
 refine WL.done ?_
 rcases iteE H with ⟨hc10, H⟩ | ⟨hc10, H⟩
 ·refine W.condF (congrArg Value.bool (ndec_t hc10)) ?_
  refine W.skip ?_
  refine W.seq ?_
  refine W.seq ?_
  refine W.region rfl ?_
  refine WL.run to 3 rfl ?_
  refine WL.val (Yl.loadV (g := g1) (off := o2) (o := 0) (cs := [.slice A3 n5 c4, .int .i64 a0.E]) (v := .slice A3 n5 c4) rfl Tryz.underlying24 rfl (Ctx.subI 0 C rfl) rfl) ?_
  refine WL.val (Yl.lenN (A := A3) (l := n5) (q := c4) (n := (a0.B.length : Int)) rfl Tryz.underlying24 (by omega)) ?_
  refine WL.run to 1 rfl ?_
  refine WL.done ?_
  rcases iteE H with ⟨hc11, H⟩ | ⟨hc11, H⟩
  ·refine W.condT (congrArg Value.bool (decide_eq_true hc11)) ?_
   refine W.seq ?_
   refine W.region rfl ?_
   refine WL.run to 3 rfl ?_
   obtain ⟨w12, hy13, C14⟩ := ev_setI (P := Tryz.prog) (ps1 := []) (ps2 := []) (t := 3) 1 [.int .i64 40] (.int .i64 40) C rfl rfl (ones_of rfl) sz3
   let v1 : CH := CH.row g1 o2 [.slice A3 n5 c4, .int .i64 40]
   have C15 : Ctx _ _ _ _ _ [v1] := C14
   refine WL.skip (hy13 _ _ _ _ rfl rfl) ?_
   refine WL.done ?_
   refine W.seq ?_
   refine W.region rfl ?_
   refine WL.run to 1 rfl ?_
   refine WL.done ?_
   refine W.ret ?_
   refine thenE_r ?_
   simp only [Option.some.injEq, Prod.mk.injEq] at H
   obtain ⟨e16, e17⟩ := H
   subst e16 e17
   exact post_r (resE1 rfl rfl) ⟨A3, c4, n5, rfl, C15, hn6, hl7, hm8, hS9⟩
  ·refine W.condF (congrArg Value.bool (decide_eq_false hc11)) ?_
   refine W.skip ?_
   refine W.seq ?_
   refine W.region rfl ?_
   refine WL.run to 3 rfl ?_
   refine WL.val (Yl.loadV (g := g1) (off := o2) (o := 0) (cs := [.slice A3 n5 c4, .int .i64 a0.E]) (v := .slice A3 n5 c4) rfl Tryz.underlying24 rfl (Ctx.subI 0 C rfl) rfl) ?_
   obtain ⟨hc18, H⟩ := guardE H
   obtain ⟨b19, of20, hA21, he22⟩ := hS9 (by omega)
   refine WL.val (Yl.elemAddr (i := 0) rfl rfl hA21 Tryz.underlying24 sz5 (by omega)) ?_
   obtain ⟨cs23, hr24, hx25⟩ := he22 (0 : Int).toNat _ (getD_some (d := 0) (by omega))
   obtain rfl := hr24
   refine WL.val (Yl.load (v := .int .u8 (a0.B.getD (0 : Int).toNat 0)) rfl Tryz.underlying5 rfl (((C.fro)).cell (hx25 0 _ rfl))) ?_
   refine WL.val (Yl.conv (m := a0.B.getD (0 : Int).toNat 0) (r := wi64 (a0.B.getD (0 : Int).toNat 0)) rfl Tryz.underlying5 Tryz.underlying3 rfl) ?_
   refine WL.run to 1 rfl ?_
   refine WL.done ?_
   refine W.seq ?_
   refine W.seq ?_
   refine W.region rfl ?_
   refine WL.run to 2 rfl ?_
   refine WL.done ?_
   rcases iteE H with ⟨hc26, H⟩ | ⟨hc26, H⟩
   ·refine W.condT (congrArg Value.bool (decide_eq_true hc26)) ?_
    refine W.seq ?_
    refine W.region rfl ?_
    refine WL.run to 3 rfl ?_
    obtain ⟨w27, hy28, C29⟩ := ev_setI (P := Tryz.prog) (ps1 := []) (ps2 := []) (t := 3) 1 [.int .i64 41] (.int .i64 41) C rfl rfl (ones_of rfl) sz3
    let v2 : CH := CH.row g1 o2 [.slice A3 n5 c4, .int .i64 41]
    have C30 : Ctx _ _ _ _ _ [v2] := C29
    refine WL.skip (hy28 _ _ _ _ rfl rfl) ?_
    refine WL.done ?_
    refine W.seq ?_
    refine W.region rfl ?_
    refine WL.run to 1 rfl ?_
    refine WL.done ?_
    refine W.ret ?_
    refine thenE_r ?_
    simp only [Option.some.injEq, Prod.mk.injEq] at H
    obtain ⟨e31, e32⟩ := H
    subst e31 e32
    exact post_r (resE1 rfl rfl) ⟨A3, c4, n5, rfl, C30, hn6, hl7, hm8, hS9⟩
   ·refine W.condF (congrArg Value.bool (decide_eq_false hc26)) ?_
    refine W.skip ?_
    refine W.seq ?_
    refine W.seq ?_
    refine W.region rfl ?_
    refine WL.run to 4 rfl ?_
    refine WL.val (Yl.loadV (g := g1) (off := o2) (o := 0) (cs := [.slice A3 n5 c4, .int .i64 a0.E]) (v := .slice A3 n5 c4) rfl Tryz.underlying24 rfl (Ctx.subI 0 C rfl) rfl) ?_
    refine WL.val (Yl.lenN (A := A3) (l := n5) (q := c4) (n := (a0.B.length : Int)) rfl Tryz.underlying24 (by omega)) ?_
    refine WL.run to 2 rfl ?_
    refine WL.done ?_
    rcases iteE H with ⟨hc33, H⟩ | ⟨hc33, H⟩
    ·refine W.condT (congrArg Value.bool (decide_eq_true hc33)) ?_
     refine W.seq ?_
     refine W.region rfl ?_
     refine WL.run to 3 rfl ?_
     obtain ⟨w34, hy35, C36⟩ := ev_setI (P := Tryz.prog) (ps1 := []) (ps2 := []) (t := 3) 1 [.int .i64 40] (.int .i64 40) C rfl rfl (ones_of rfl) sz3
     let v3 : CH := CH.row g1 o2 [.slice A3 n5 c4, .int .i64 40]
     have C37 : Ctx _ _ _ _ _ [v3] := C36
     refine WL.skip (hy35 _ _ _ _ rfl rfl) ?_
     refine WL.done ?_
     refine W.seq ?_
     refine W.region rfl ?_
     refine WL.run to 1 rfl ?_
     refine WL.done ?_
     refine W.ret ?_
     refine thenE_r ?_
     simp only [Option.some.injEq, Prod.mk.injEq] at H
     obtain ⟨e38, e39⟩ := H
     subst e38 e39
     exact post_r (resE1 rfl rfl) ⟨A3, c4, n5, rfl, C37, hn6, hl7, hm8, hS9⟩
    ·refine W.condF (congrArg Value.bool (decide_eq_false hc33)) ?_
     refine W.skip ?_
     refine W.seq ?_
     refine W.seq ?_
     refine W.region rfl ?_
     refine WL.run to 3 rfl ?_
     obtain ⟨g40, HE41, H⟩ := bindE H
     let v4 : CH := CH.row g1 o2 [.slice A3 n5 c4, .int .i64 a0.E]
     refine WL.cut (fun env_ w_ => env_ 55 = .bool g40 ∧ env_ 0 = .pointer (some ⟨g1, o2, none⟩) ∧ env_ 1 = .int .u64 a1 ∧ env_ 5 = .int .i64 (wi64 (a0.B.getD (0 : Int).toNat 0)) ∧ Ctx w F D w_ F [v4]) ?_ ?_
     ·rcases iteE HE41 with ⟨hc42, HE41⟩ | ⟨hc42, HE41⟩
      ·refine WL.kn 47 (congrArg Value.bool (decide_eq_true hc42)) ?_
       refine WL.run to 3 rfl ?_
       refine WL.valOn rfl rfl (Yl.loadV (g := g1) (off := o2) (o := 0) (cs := [.slice A3 n5 c4, .int .i64 a0.E]) (v := .slice A3 n5 c4) rfl Tryz.underlying24 rfl (Ctx.subI 0 C rfl) rfl) ?_
       obtain ⟨hc43, HE41⟩ := guardE HE41
       refine WL.valOn rfl rfl (Yl.elemAddr (i := 1) rfl rfl hA21 Tryz.underlying24 sz5 (by omega)) ?_
       obtain ⟨cs44, hr45, hx46⟩ := he22 (1 : Int).toNat _ (getD_some (d := 0) (by omega))
       obtain rfl := hr45
       refine WL.valOn rfl rfl (Yl.load (v := .int .u8 (a0.B.getD (1 : Int).toNat 0)) rfl Tryz.underlying5 rfl (((C.fro)).cell (hx46 0 _ rfl))) ?_
       refine WL.run to 2 rfl ?_
       cases HE41
       exact WL.done ⟨rfl, rfl, rfl, rfl, C⟩
      ·refine WL.kn 47 (congrArg Value.bool (decide_eq_false hc42)) ?_
       refine WL.offs 7 47 true rfl rfl ?_
       refine WL.run to 1 rfl ?_
       cases HE41
       exact WL.done ⟨rfl, rfl, rfl, rfl, C⟩
     ·rintro env_ w_ ⟨ho47, ho48, ho49, ho50, C51⟩
      apply kn env_ (.c ho47 (.c ho48 (.c ho49 (.c ho50 .n))))
      rcases iteE H with ⟨hc52, H⟩ | ⟨hc52, H⟩
      ·refine W.condT (congrArg Value.bool hc52) ?_
       refine W.seq ?_
       refine W.region rfl ?_
       refine WL.run to 3 rfl ?_
       obtain ⟨w53, hy54, C55⟩ := ev_setI (P := Tryz.prog) (ps1 := []) (ps2 := []) (t := 3) 1 [.int .i64 41] (.int .i64 41) C51 rfl rfl (ones_of rfl) sz3
       let v5 : CH := CH.row g1 o2 [.slice A3 n5 c4, .int .i64 41]
       have C56 : Ctx _ _ _ _ _ [v5] := C55
       refine WL.skip (hy54 _ _ _ _ rfl rfl) ?_
       refine WL.done ?_
       refine W.seq ?_
       refine W.region rfl ?_
       refine WL.run to 1 rfl ?_
       refine WL.done ?_
       refine W.ret ?_
       refine thenE_r ?_
       simp only [Option.some.injEq, Prod.mk.injEq] at H
       obtain ⟨e57, e58⟩ := H
       subst e57 e58
       exact post_r (resE1 rfl rfl) ⟨A3, c4, n5, rfl, C56, hn6, hl7, hm8, hS9⟩
      ·refine W.condF (congrArg Value.bool (Bool.eq_false_iff.2 hc52)) ?_
       refine W.skip ?_
       refine W.seq ?_
       refine W.region rfl ?_
       refine WL.run to 3 rfl ?_
       refine WL.val (Yl.loadV (g := g1) (off := o2) (o := 0) (cs := [.slice A3 n5 c4, .int .i64 a0.E]) (v := .slice A3 n5 c4) rfl Tryz.underlying24 rfl (Ctx.subI 0 C51 rfl) rfl) ?_
       refine WL.run to 2 rfl ?_
       obtain ⟨hc59, H⟩ := guardE H
       have hl68 : a0.B.length ≤ c4 ∧ c4 ≤ maxLen := ⟨hl7, hm8⟩
       obtain ⟨A60, c61, n62, hv63, hn64, hl65, hm66, hS67⟩ := Sl.cut hS9 (c := c4) hl68.2 ((1 : Int).toNat) ((wi64 (1 + (wi64 (a0.B.getD (0 : Int).toNat 0)))).toNat) c4 (by omega) (by omega) (by omega) (by omega)
       refine WL.val (Yl.slice ((1 : Int).toNat) ((wi64 (1 + (wi64 (a0.B.getD (0 : Int).toNat 0)))).toNat) c4 rfl Tryz.underlying24 sz5 rfl (OB.mk rfl (by omega)) (OB.mk rfl (by omega)) (by simp) (by omega) (by omega) (by omega) hv63) ?_
       obtain ⟨⟨r70, r71⟩, hg69, H⟩ := bindE H
       refine WL.callH (juratref01_Number.calls k _ F A60 c61 n62 ((a0.B.take ((wi64 (1 + (wi64 (a0.B.getD (0 : Int).toNat 0)))).toNat)).drop ((1 : Int).toNat)) C51.pre0 hn64 hl65 hm66 hS67 r70 r71 hg69) (Yenter.fn Tryz.func62 (by kernel_rfl) rfl (argsE (.cons rfl .nil))) ?_
       rintro e_ w_ ⟨rfl, ⟨m72, rfl⟩⟩
       refine ⟨_, rfl, ?_⟩
       have C73 := Ctx.drewN C51 m72
       refine WL.run to 5 rfl ?_
       refine WL.done ?_
       refine W.seq ?_
       refine W.seq ?_
       refine W.region rfl ?_
       refine WL.run to 3 rfl ?_
       refine WL.done ?_
       rcases iteE H with ⟨hc74, H⟩ | ⟨hc74, H⟩
       ·refine W.condT (congrArg Value.bool (decide_eq_true hc74)) ?_
        refine W.seq ?_
        refine W.region rfl ?_
        refine WL.run to 3 rfl ?_
        obtain ⟨w75, hy76, C77⟩ := ev_setI (P := Tryz.prog) (ps1 := []) (ps2 := []) (t := 3) 1 [.int .i64 42] (.int .i64 42) C73 rfl rfl (ones_of rfl) sz3
        let v6 : CH := CH.row g1 o2 [.slice A3 n5 c4, .int .i64 42]
        have C78 : Ctx _ _ _ _ _ [v6] := C77
        refine WL.skip (hy76 _ _ _ _ rfl rfl) ?_
        refine WL.done ?_
        refine W.seq ?_
        refine W.region rfl ?_
        refine WL.run to 1 rfl ?_
        refine WL.done ?_
        refine W.ret ?_
        refine thenE_r ?_
        simp only [Option.some.injEq, Prod.mk.injEq] at H
        obtain ⟨e79, e80⟩ := H
        subst e79 e80
        exact post_r (resE1 rfl rfl) ⟨A3, c4, n5, rfl, C78, hn6, hl7, hm8, hS9⟩
       ·refine W.condF (congrArg Value.bool (decide_eq_false hc74)) ?_
        refine W.skip ?_
        refine W.seq ?_
        refine W.region rfl ?_
        refine WL.run to 4 rfl ?_
        refine WL.val (Yl.loadV (g := g1) (off := o2) (o := 0) (cs := [.slice A3 n5 c4, .int .i64 a0.E]) (v := .slice A3 n5 c4) rfl Tryz.underlying24 rfl (Ctx.subI 0 C73 rfl) rfl) ?_
        refine WL.run to 2 rfl ?_
        obtain ⟨hc81, H⟩ := guardE H
        have hl90 : a0.B.length ≤ c4 ∧ c4 ≤ maxLen := ⟨hl7, hm8⟩
        obtain ⟨A82, c83, n84, hv85, hn86, hl87, hm88, hS89⟩ := Sl.cut hS9 (c := c4) hl90.2 ((wi64 (1 + (wi64 (a0.B.getD (0 : Int).toNat 0)))).toNat) a0.B.length c4 (by omega) (by omega) (by omega) (by omega)
        rw [List.take_length] at hn86 hl87 hS89
        refine WL.val (Yl.slice ((wi64 (1 + (wi64 (a0.B.getD (0 : Int).toNat 0)))).toNat) a0.B.length c4 rfl Tryz.underlying24 sz5 rfl (hn6).symm (OB.mk rfl (by omega)) (by simp) (by omega) (by omega) (by omega) hv85) ?_
        refine WL.run to 2 rfl ?_
        obtain ⟨w91, hy92, C93⟩ := ev_setI (P := Tryz.prog) (ps1 := []) (ps2 := []) (t := 24) 0 [.slice A82 n84 c83] (.slice A82 n84 c83) C73 rfl rfl (ones_of rfl) sz24
        let v7 : CH := CH.row g1 o2 [.slice A82 n84 c83, .int .i64 a0.E]
        have C94 : Ctx _ _ _ _ _ [v7] := C93
        refine WL.skip (hy92 _ _ _ _ rfl rfl) ?_
        refine WL.done ?_
        refine W.seq ?_
        refine W.region rfl ?_
        refine WL.run to 2 rfl ?_
        refine WL.done ?_
        refine W.ret ?_
        simp only [Option.some.injEq, Prod.mk.injEq] at H
        obtain ⟨e95, e96⟩ := H
        subst e95 e96
        exact post_r (resE1 rfl rfl) ⟨A82, c83, n84, rfl, C94, hn86, hl87, hm88, hS89⟩
 ·refine W.condT (congrArg Value.bool (ndec_f hc10)) ?_
  refine W.seq ?_
  refine W.region rfl ?_
  refine WL.run to 1 rfl ?_
  refine WL.done ?_
  refine W.ret ?_
  refine thenE_r ?_
  simp only [Option.some.injEq, Prod.mk.injEq] at H
  obtain ⟨e97, e98⟩ := H
  subst e97 e98
  exact post_r (resE1 rfl rfl) ⟨A3, c4, n5, rfl, C, hn6, hl7, hm8, hS9⟩
def juratref04_Reader_Text.f (k : Nat) (a0 : TReader_) (a1 : Int) : Option ((List Int) × TReader_) := (juratref04_Reader_Num.f k a0 18446744073709551615).bind fun ⟨r11, r12⟩ => if r12.E = 0 then (if ((decide (a1 < 0)) || (decide (r11 > (wu64 a1)))) = true then (some (([] : List Int), (⟨a0.B, 42⟩ : TReader_))) else (if r11 > (wu64 (r12.B.length : Int)) then (some (([] : List Int), (⟨a0.B, 40⟩ : TReader_))) else (if 0 ≤ r11 ∧ r11 ≤ (r12.B.length : Int) then (if ((r12.B.take r11.toNat).length + (r12.B.take r11.toNat).length / 4 + 192) * 1 ≤ 281474976710656 then (if 0 ≤ r11 ∧ r11 ≤ (r12.B.length : Int) ∧ (r12.B.length : Int) ≤ (r12.B.length : Int) then (some (r12.B.take r11.toNat, (⟨r12.B.drop r11.toNat, r12.E⟩ : TReader_))) else none) else none) else none))) else (some (([] : List Int), r12))
set_option maxRecDepth 100000 in
set_option maxHeartbeats 4000000 in
theorem juratref04_Reader_Text.calls (k : Nat) (w : World) (F : CH) (g1 : Nat) (o2 : Nat) (A3 : Option Addr) (c4 : Nat) (n5 : Nat) (a0 : TReader_) (a1 : Int) (hp : Pre w F [CH.row g1 o2 [.slice A3 n5 c4, .int .i64 a0.E]]) (hn6 : n5 = a0.B.length) (hl7 : a0.B.length ≤ c4) (hm8 : c4 ≤ maxLen) (hS9 : Sl (Kd.int .u8) F F A3 a0.B) (r0_ : List Int) (r1_ : TReader_) (H : juratref04_Reader_Text.f k a0 a1 = some (r0_, r1_)) :
    Calls Tryz.prog 37 #[.pointer (some ⟨g1, o2, none⟩), .int .i64 a1] w fun e w' => ∃ (A96 : Option Addr) (c97 : Nat) (n98 : Nat) (p100 : CH) (A102 : Option Addr) (c103 : Nat) (n104 : Nat), e = .returned (.slice A96 n98 c97) ∧ Ctx w F (domL [CH.row g1 o2 [.slice A3 n5 c4, .int .i64 a0.E]]) w' F [CH.row g1 o2 [.slice A102 n104 c103, .int .i64 r1_.E], p100] ∧ n98 = r0_.length ∧ Row (Kd.int .u8) F p100 (.slice A96 n98 c97) r0_ ∧ n104 = r1_.B.length ∧ r1_.B.length ≤ c103 ∧ c103 ≤ maxLen ∧ Sl (Kd.int .u8) F F A102 r1_.B := by
 have C := Ctx.start hp
 generalize hD : domL [CH.row g1 o2 [.slice A3 n5 c4, .int .i64 a0.E]] = D at C ⊢
 unfold juratref04_Reader_Text.f at H
 refine Calls.ofW Tryz.func37 rfl (by simp [Tryz.ntmps37]) ?_
 refine W.seq ?_
 refine W.region rfl ?_
 refine WL.run to 1 rfl ?_
 refine WL.done ?_
 refine W.seq ?_
 refine W.region rfl ?_
 refine WL.run to 3 rfl ?_
 refine WL.val (Yl.loadV (g := g1) (off := o2) (o := 0) (cs := [.slice A3 n5 c4, .int .i64 a0.E]) (v := .slice A3 n5 c4) rfl Tryz.underlying24 rfl (Ctx.subI 0 C rfl) rfl) ?_
 refine WL.run to 1 rfl ?_
 refine WL.done ?_
 refine W.seq ?_
 refine W.region rfl ?_
 refine WL.run to 1 rfl ?_
 obtain ⟨⟨r11, r12⟩, hg10, H⟩ := bindE H
 let v1 : CH := CH.row g1 o2 [.slice A3 n5 c4, .int .i64 a0.E]
 refine WL.callH (juratref04_Reader_Num.calls k _ F g1 o2 A3 c4 n5 a0 18446744073709551615 (Ctx.pre (qs := [v1]) (rest := []) C) hn6 hl7 hm8 hS9 r11 r12 hg10) (Yenter.fn Tryz.func35 (by kernel_rfl) rfl (argsE (.cons rfl (.cons rfl .nil)))) ?_
 rintro e_ w_ ⟨A13, c14, n15, rfl, C20, hn16, hl17, hm18, hS19⟩
 refine ⟨_, rfl, ?_⟩
 let v2 : CH := CH.row g1 o2 [.slice A13 n15 c14, .int .i64 r12.E]
 have C21 : Ctx _ _ _ _ _ [v2] := Ctx.call (qs := [v1]) (rest := []) C C20
 refine WL.run to 1 rfl ?_
 refine WL.done ?_
 refine W.seq ?_
 refine W.seq ?_
 refine W.region rfl ?_
 refine WL.run to 3 rfl ?_
 refine WL.val (Yl.loadV (g := g1) (off := o2) (o := 1) (cs := [.slice A13 n15 c14, .int .i64 r12.E]) (v := .int .i64 r12.E) rfl Tryz.underlying3 rfl (Ctx.subI 0 C21 rfl) rfl) ?_
 refine WL.run to 1 rfl ?_
 refine WL.done ?_
 rcases iteE H with ⟨hc22, H⟩ | ⟨hc22, H⟩
 ·refine W.condF (congrArg Value.bool (ndec_t hc22)) ?_
  refine W.skip ?_
  refine W.seq ?_
  refine W.seq ?_
  refine W.region rfl ?_
  refine WL.run to 3 rfl ?_
  refine WL.cut (fun env_ w_ => env_ 26 = .bool ((decide (a1 < 0)) || (decide (r11 > (wu64 a1)))) ∧ env_ 0 = .pointer (some ⟨g1, o2, none⟩) ∧ env_ 5 = .slice A3 n5 c4 ∧ env_ 6 = .int .u64 r11 ∧ Ctx w F D w_ F [v2]) ?_ ?_
  ·rcases Bool.eq_false_or_eq_true (decide (a1 < 0)) with hb23 | hb23
   ·refine WL.kn 21 (congrArg Value.bool hb23) ?_
    refine WL.offs 4 21 false rfl rfl ?_
    refine WL.run to 1 rfl ?_
    exact WL.done ⟨(congrArg Value.bool (show true = ((decide (a1 < 0)) || (decide (r11 > (wu64 a1)))) from by simp [hb23])), rfl, rfl, rfl, C21⟩
   ·refine WL.kn 21 (congrArg Value.bool hb23) ?_
    refine WL.run to 2 rfl ?_
    refine WL.valOn rfl rfl (Yl.conv (m := a1) (r := wu64 a1) rfl Tryz.underlying3 Tryz.underlying82 rfl) ?_
    refine WL.run to 2 rfl ?_
    exact WL.done ⟨(congrArg Value.bool (show (decide (r11 > (wu64 a1))) = ((decide (a1 < 0)) || (decide (r11 > (wu64 a1)))) from by simp [hb23])), rfl, rfl, rfl, C21⟩
  ·rintro env_ w_ ⟨ho24, ho25, ho26, ho27, C28⟩
   apply kn env_ (.c ho24 (.c ho25 (.c ho26 (.c ho27 .n))))
   rcases iteE H with ⟨hc29, H⟩ | ⟨hc29, H⟩
   ·refine W.condT (congrArg Value.bool hc29) ?_
    refine W.seq ?_
    refine W.region rfl ?_
    refine WL.run to 3 rfl ?_
    obtain ⟨w30, hy31, C32⟩ := ev_setI (P := Tryz.prog) (ps1 := []) (ps2 := []) (t := 3) 1 [.int .i64 42] (.int .i64 42) C28 rfl rfl (ones_of rfl) sz3
    let v3 : CH := CH.row g1 o2 [.slice A13 n15 c14, .int .i64 42]
    have C33 : Ctx _ _ _ _ _ [v3] := C32
    refine WL.skip (hy31 _ _ _ _ rfl rfl) ?_
    refine WL.done ?_
    refine W.seq ?_
    refine W.region rfl ?_
    refine WL.run to 4 rfl ?_
    obtain ⟨w34, hy35, C36⟩ := ev_setI (P := Tryz.prog) (ps1 := []) (ps2 := []) (t := 24) 0 [.slice A3 n5 c4] (.slice A3 n5 c4) C33 rfl rfl (ones_of rfl) sz24
    let v4 : CH := CH.row g1 o2 [.slice A3 n5 c4, .int .i64 42]
    have C37 : Ctx _ _ _ _ _ [v4] := C36
    refine WL.skip (hy35 _ _ _ _ rfl rfl) ?_
    refine WL.done ?_
    refine W.seq ?_
    refine W.region rfl ?_
    refine WL.run to 1 rfl ?_
    refine WL.done ?_
    refine W.ret ?_
    refine thenE_r ?_
    have C38 : Ctx _ _ _ _ _ [v4, CH.emp] := Ctx.pick [0, 1] C37 rfl
    simp only [Option.some.injEq, Prod.mk.injEq] at H
    obtain ⟨e39, e40⟩ := H
    subst e39 e40
    exact post_r (resE1 rfl rfl) ⟨none, 0, 0, CH.emp, A3, c4, n5, rfl, C38, rfl, (Row.nil _ _), hn6, hl7, hm8, hS9⟩
   ·refine W.condF (congrArg Value.bool (Bool.eq_false_iff.2 hc29)) ?_
    refine W.skip ?_
    refine W.seq ?_
    refine W.seq ?_
    refine W.region rfl ?_
    refine WL.run to 4 rfl ?_
    refine WL.val (Yl.loadV (g := g1) (off := o2) (o := 0) (cs := [.slice A13 n15 c14, .int .i64 r12.E]) (v := .slice A13 n15 c14) rfl Tryz.underlying24 rfl (Ctx.subI 0 C28 rfl) rfl) ?_
    refine WL.val (Yl.lenN (A := A13) (l := n15) (q := c14) (n := (r12.B.length : Int)) rfl Tryz.underlying24 (by omega)) ?_
    refine WL.val (Yl.conv (m := (r12.B.length : Int)) (r := wu64 (r12.B.length : Int)) rfl Tryz.underlying3 Tryz.underlying82 rfl) ?_
    refine WL.run to 1 rfl ?_
    refine WL.done ?_
    rcases iteE H with ⟨hc41, H⟩ | ⟨hc41, H⟩
    ·refine W.condT (congrArg Value.bool (decide_eq_true hc41)) ?_
     refine W.seq ?_
     refine W.region rfl ?_
     refine WL.run to 3 rfl ?_
     obtain ⟨w42, hy43, C44⟩ := ev_setI (P := Tryz.prog) (ps1 := []) (ps2 := []) (t := 3) 1 [.int .i64 40] (.int .i64 40) C28 rfl rfl (ones_of rfl) sz3
     let v5 : CH := CH.row g1 o2 [.slice A13 n15 c14, .int .i64 40]
     have C45 : Ctx _ _ _ _ _ [v5] := C44
     refine WL.skip (hy43 _ _ _ _ rfl rfl) ?_
     refine WL.done ?_
     refine W.seq ?_
     refine W.region rfl ?_
     refine WL.run to 4 rfl ?_
     obtain ⟨w46, hy47, C48⟩ := ev_setI (P := Tryz.prog) (ps1 := []) (ps2 := []) (t := 24) 0 [.slice A3 n5 c4] (.slice A3 n5 c4) C45 rfl rfl (ones_of rfl) sz24
     let v6 : CH := CH.row g1 o2 [.slice A3 n5 c4, .int .i64 40]
     have C49 : Ctx _ _ _ _ _ [v6] := C48
     refine WL.skip (hy47 _ _ _ _ rfl rfl) ?_
     refine WL.done ?_
     refine W.seq ?_
     refine W.region rfl ?_
     refine WL.run to 1 rfl ?_
     refine WL.done ?_
     refine W.ret ?_
     refine thenE_r ?_
     have C50 : Ctx _ _ _ _ _ [v6, CH.emp] := Ctx.pick [0, 1] C49 rfl
     simp only [Option.some.injEq, Prod.mk.injEq] at H
     obtain ⟨e51, e52⟩ := H
     subst e51 e52
     exact post_r (resE1 rfl rfl) ⟨none, 0, 0, CH.emp, A3, c4, n5, rfl, C50, rfl, (Row.nil _ _), hn6, hl7, hm8, hS9⟩
    ·refine W.condF (congrArg Value.bool (decide_eq_false hc41)) ?_
     refine W.skip ?_
     refine W.seq ?_
     refine W.region rfl ?_
     obtain ⟨A53, c54, n55, p56, w57, hn58, hy59, C60, hR61⟩ := ev_lit0 (P := Tryz.prog) 5 (Kd.int .u8) C28 Tryz.underlying24 ti5
     refine WL.val (hy59 _ _) ?_
     refine WL.run to 3 rfl ?_
     refine WL.val (Yl.loadV (g := g1) (off := o2) (o := 0) (cs := [.slice A13 n15 c14, .int .i64 r12.E]) (v := .slice A13 n15 c14) rfl Tryz.underlying24 rfl (Ctx.subI 1 C60 rfl) rfl) ?_
     refine WL.run to 1 rfl ?_
     obtain ⟨hc62, H⟩ := guardE H
     have hn63 : r11.toNat = (r12.B.take r11.toNat).length := by rw [List.length_take]; omega
     refine WL.val (Yl.sliceHi rfl Tryz.underlying24 sz5 rfl ⟨hc62.1, by omega⟩) ?_
     obtain ⟨hc65, H⟩ := guardE H
     obtain ⟨A66, c67, n68, p69, w70, hn71, hy72, C73, hR74⟩ := ev_append' (P := Tryz.prog) (cb := c14) 5 (Kd.int .u8) [] [v2] C60 hR61 hn63 (Sl.take hS19 _) C60.fro Tryz.underlying24 ti5 rfl zo5 (by decide) (by decide) (by simpa using hc65)
     have C75 : Ctx _ _ _ _ _ [p69, v2] := C73
     rw [List.nil_append] at hn71 hR74
     refine WL.val (hy72 _ _ _ _ rfl rfl) ?_
     refine WL.run to 1 rfl ?_
     refine WL.done ?_
     refine W.seq ?_
     refine W.region rfl ?_
     refine WL.run to 4 rfl ?_
     refine WL.val (Yl.loadV (g := g1) (off := o2) (o := 0) (cs := [.slice A13 n15 c14, .int .i64 r12.E]) (v := .slice A13 n15 c14) rfl Tryz.underlying24 rfl (Ctx.subI 1 C75 rfl) rfl) ?_
     refine WL.run to 1 rfl ?_
     obtain ⟨hc76, H⟩ := guardE H
     have hl85 : r12.B.length ≤ c14 ∧ c14 ≤ maxLen := ⟨hl17, hm18⟩
     obtain ⟨A77, c78, n79, hv80, hn81, hl82, hm83, hS84⟩ := Sl.cut hS19 (c := c14) hl85.2 r11.toNat r12.B.length c14 (by omega) (by omega) (by omega) (by omega)
     rw [List.take_length] at hn81 hl82 hS84
     refine WL.val (Yl.slice r11.toNat r12.B.length c14 rfl Tryz.underlying24 sz5 rfl (hn16).symm (OB.mk rfl (by omega)) (by simp) (by omega) (by omega) (by omega) hv80) ?_
     refine WL.run to 2 rfl ?_
     obtain ⟨w86, hy87, C88⟩ := ev_setI (P := Tryz.prog) (ps1 := [p69]) (ps2 := []) (t := 24) 0 [.slice A77 n79 c78] (.slice A77 n79 c78) C75 rfl rfl (ones_of rfl) sz24
     let v7 : CH := CH.row g1 o2 [.slice A77 n79 c78, .int .i64 r12.E]
     have C89 : Ctx _ _ _ _ _ [p69, v7] := C88
     refine WL.skip (hy87 _ _ _ _ rfl rfl) ?_
     refine WL.done ?_
     refine W.seq ?_
     refine W.region rfl ?_
     refine WL.run to 2 rfl ?_
     refine WL.done ?_
     refine W.ret ?_
     have C90 : Ctx _ _ _ _ _ [v7, p69] := Ctx.pick [1, 0] C89 rfl
     simp only [Option.some.injEq, Prod.mk.injEq] at H
     obtain ⟨e91, e92⟩ := H
     subst e91 e92
     exact post_r (resE1 rfl rfl) ⟨A66, c67, n68, p69, A77, c78, n79, rfl, C90, hn71, hR74, hn81, hl82, hm83, hS84⟩
 ·refine W.condT (congrArg Value.bool (ndec_f hc22)) ?_
  refine W.seq ?_
  refine W.region rfl ?_
  refine WL.run to 1 rfl ?_
  refine WL.done ?_
  refine W.ret ?_
  refine thenE_r ?_
  have C93 : Ctx _ _ _ _ _ [v2, CH.emp] := Ctx.pick [0, 1] C21 rfl
  simp only [Option.some.injEq, Prod.mk.injEq] at H
  obtain ⟨e94, e95⟩ := H
  subst e94 e95
  exact post_r (resE1 rfl rfl) ⟨none, 0, 0, CH.emp, A13, c14, n15, rfl, C93, rfl, (Row.nil _ _), hn16, hl17, hm18, hS19⟩
def juratref04_Reader_Digest.l1 : Nat → TReader_ → Int → List Int → Option (List Int)
  | 0, _, _, _ => none
  | k + 1, a0, x123, x124 => if x123 < 32 then (if 0 ≤ x123 ∧ x123 < (a0.B.length : Int) then (if 0 ≤ x123 ∧ x123 < (32 : Int) then (juratref04_Reader_Digest.l1 k a0 (wi64 (x123 + 1)) (x124.set x123.toNat (a0.B.getD x123.toNat 0))) else none) else none) else (some x124)
def juratref04_Reader_Digest.f (k : Nat) (a0 : TReader_) : Option ((List Int) × TReader_) := if a0.E = 0 then (if (a0.B.length : Int) < 32 then (some ((List.replicate 32 (0 : Int)), (⟨a0.B, 40⟩ : TReader_))) else ((juratref04_Reader_Digest.l1 k a0 0 (List.replicate 32 (0 : Int))).bind fun x94 => if 0 ≤ (32 : Int) ∧ (32 : Int) ≤ (a0.B.length : Int) ∧ (a0.B.length : Int) ≤ (a0.B.length : Int) then (some (x94, (⟨a0.B.drop ((32 : Int).toNat), a0.E⟩ : TReader_))) else none)) else (some ((List.replicate 32 (0 : Int)), a0))
set_option maxRecDepth 100000 in
set_option maxHeartbeats 4000000 in
theorem juratref04_Reader_Digest.calls (k : Nat) (w : World) (F : CH) (g1 : Nat) (o2 : Nat) (A3 : Option Addr) (c4 : Nat) (n5 : Nat) (a0 : TReader_) (hp : Pre w F [CH.row g1 o2 [.slice A3 n5 c4, .int .i64 a0.E]]) (hn6 : n5 = a0.B.length) (hl7 : a0.B.length ≤ c4) (hm8 : c4 ≤ maxLen) (hS9 : Sl (Kd.int .u8) F F A3 a0.B) (r0_ : List Int) (r1_ : TReader_) (H : juratref04_Reader_Digest.f k a0 = some (r0_, r1_)) :
    Calls Tryz.prog 36 #[.pointer (some ⟨g1, o2, none⟩)] w fun e w' => ∃ (A187 : Option Addr) (c188 : Nat) (n189 : Nat), e = .returned (.agg (List.toArray (r0_.map (Value.int .u8)))) ∧ Ctx w F (domL [CH.row g1 o2 [.slice A3 n5 c4, .int .i64 a0.E]]) w' F [CH.row g1 o2 [.slice A187 n189 c188, .int .i64 r1_.E]] ∧ r0_.length = 32 ∧ n189 = r1_.B.length ∧ r1_.B.length ≤ c188 ∧ c188 ≤ maxLen ∧ Sl (Kd.int .u8) F F A187 r1_.B := by
 have C := Ctx.start hp
 generalize hD : domL [CH.row g1 o2 [.slice A3 n5 c4, .int .i64 a0.E]] = D at C ⊢
 unfold juratref04_Reader_Digest.f at H
 refine Calls.ofW Tryz.func36 rfl (by simp [Tryz.ntmps36]) ?_
 refine W.seq ?_
 refine W.region rfl ?_
 obtain ⟨g10, w11, hy12, C13⟩ := ev_alloc (P := Tryz.prog) (e := 23) ((List.replicate 32 (0 : Int)).map (Value.int .u8)) C zr23 rfl
 refine WL.val (hy12 _ _) ?_
 refine WL.done ?_
 refine W.seq ?_
 refine W.region rfl ?_
 obtain ⟨g14, w15, hy16, C17⟩ := ev_alloc (P := Tryz.prog) (e := 23) ((List.replicate 32 (0 : Int)).map (Value.int .u8)) C13 zr23 rfl
 refine WL.val (hy16 _ _) ?_
 refine WL.done ?_
 refine W.seq ?_
 refine W.seq ?_
 refine W.region rfl ?_
 refine WL.run to 3 rfl ?_
 refine WL.val (Yl.loadV (g := g1) (off := o2) (o := 1) (cs := [.slice A3 n5 c4, .int .i64 a0.E]) (v := .int .i64 a0.E) rfl Tryz.underlying3 rfl (Ctx.subI 2 C17 rfl) rfl) ?_
 refine WL.run to 1 rfl ?_
 refine WL.done ?_
 rcases iteE H with ⟨hc18, H⟩ | ⟨hc18, H⟩
 ·refine W.condF (congrArg Value.bool (ndec_t hc18)) ?_
  refine W.skip ?_
  refine W.seq ?_
  refine W.seq ?_
  refine W.region rfl ?_
  refine WL.run to 3 rfl ?_
  refine WL.val (Yl.loadV (g := g1) (off := o2) (o := 0) (cs := [.slice A3 n5 c4, .int .i64 a0.E]) (v := .slice A3 n5 c4) rfl Tryz.underlying24 rfl (Ctx.subI 2 C17 rfl) rfl) ?_
  refine WL.val (Yl.lenN (A := A3) (l := n5) (q := c4) (n := (a0.B.length : Int)) rfl Tryz.underlying24 (by omega)) ?_
  refine WL.run to 1 rfl ?_
  refine WL.done ?_
  rcases iteE H with ⟨hc19, H⟩ | ⟨hc19, H⟩
  ·refine W.condT (congrArg Value.bool (decide_eq_true hc19)) ?_
   refine W.seq ?_
   refine W.region rfl ?_
   refine WL.run to 3 rfl ?_
   obtain ⟨w20, hy21, C22⟩ := ev_setI (P := Tryz.prog) (ps1 := [CH.row g14 0 ((List.replicate 32 (0 : Int)).map (Value.int .u8)), CH.row g10 0 ((List.replicate 32 (0 : Int)).map (Value.int .u8))]) (ps2 := []) (t := 3) 1 [.int .i64 40] (.int .i64 40) C17 rfl rfl (ones_of rfl) sz3
   let v1 : CH := CH.row g1 o2 [.slice A3 n5 c4, .int .i64 40]
   have C23 : Ctx _ _ _ _ _ [CH.row g14 0 ((List.replicate 32 (0 : Int)).map (Value.int .u8)), CH.row g10 0 ((List.replicate 32 (0 : Int)).map (Value.int .u8)), v1] := C22
   refine WL.skip (hy21 _ _ _ _ rfl rfl) ?_
   refine WL.done ?_
   refine W.seq ?_
   refine W.region rfl ?_
   refine WL.val (Yl.loadVA (g := g14) (off := 0) (o := 0) (cs := (List.replicate 32 (0 : Int)).map (Value.int .u8)) (us := (List.replicate 32 (0 : Int)).map (Value.int .u8)) rfl Tryz.underlying23 rfl (sz_of sz23 (len_map (List.length_replicate ..))) (Ctx.subI 0 C23 rfl) (take_all _)) ?_
   obtain ⟨w24, hy25, C26⟩ := ev_put (P := Tryz.prog) (ps1 := [CH.row g14 0 ((List.replicate 32 (0 : Int)).map (Value.int .u8))]) (ps2 := [v1]) (t := 23) ((List.replicate 32 (0 : Int)).map (Value.int .u8)) (.agg (List.toArray ((List.replicate 32 (0 : Int)).map (Value.int .u8)))) C23 (Put.all 32 (len_map (List.length_replicate ..)) (len_map (List.length_replicate ..))) rfl (one_ints _ _) (sz_of sz23 (len_map (List.length_replicate ..)))
   have C27 : Ctx _ _ _ _ _ [CH.row g14 0 ((List.replicate 32 (0 : Int)).map (Value.int .u8)), CH.row g10 0 ((List.replicate 32 (0 : Int)).map (Value.int .u8)), v1] := C26
   refine WL.skip (hy25 _ _ _ _ rfl rfl) ?_
   refine WL.done ?_
   refine W.ret ?_
   refine thenE_r ?_
   have C28 : Ctx _ _ _ _ _ [v1] := Ctx.pick [2] C27 rfl
   simp only [Option.some.injEq, Prod.mk.injEq] at H
   obtain ⟨e29, e30⟩ := H
   subst e29 e30
   exact post_r (resEC rfl ((.cell rfl (run_loadVA2 (g := g10) (off := 0) (o := 0) (cs := (List.replicate 32 (0 : Int)).map (Value.int .u8)) (us := (List.replicate 32 (0 : Int)).map (Value.int .u8)) Tryz.underlying23 rfl (sz_of sz23 (len_map (List.length_replicate ..))) (Ctx.subI 1 C27 rfl) (take_all _)) .nil))) ⟨A3, c4, n5, rfl, C28, (List.length_replicate ..), hn6, hl7, hm8, hS9⟩
  ·refine W.condF (congrArg Value.bool (decide_eq_false hc19)) ?_
   refine W.skip ?_
   refine W.seq ?_
   refine W.seq ?_
   refine W.region rfl ?_
   refine WL.run to 1 rfl ?_
   refine WL.done ?_
   obtain ⟨x94, hX97, H⟩ := bindE H
   let v2 : CH := CH.row g1 o2 [.slice A3 n5 c4, .int .i64 a0.E]
   refine W.cutM (fun env_ w_ => env_ 0 = .pointer (some ⟨g1, o2, none⟩) ∧ env_ 2 = .pointer (some ⟨g10, 0, none⟩) ∧ env_ 3 = .pointer (some ⟨g14, 0, none⟩) ∧ Ctx w F D w_ F [CH.row g14 0 (x94.map (Value.int .u8)), CH.row g10 0 ((List.replicate 32 (0 : Int)).map (Value.int .u8)), v2] ∧ x94.length = 32) ?_ ?_
   ·refine W.block ?_
    refine W.loop (fun g_ env_ w_ => ∃ (x123 : Int) (x124 : List Int), env_ 0 = .pointer (some ⟨g1, o2, none⟩) ∧ env_ 2 = .pointer (some ⟨g10, 0, none⟩) ∧ env_ 3 = .pointer (some ⟨g14, 0, none⟩) ∧ env_ 4 = .int .i64 x123 ∧ Ctx w F D w_ F [CH.row g14 0 (x124.map (Value.int .u8)), CH.row g10 0 ((List.replicate 32 (0 : Int)).map (Value.int .u8)), v2] ∧ x124.length = 32 ∧ juratref04_Reader_Digest.l1 g_ a0 x123 x124 = some x94) k ⟨0, (List.replicate 32 (0 : Int)), rfl, rfl, rfl, rfl, C17, (List.length_replicate ..), hX97⟩ ?_
    clear hX97
    rintro g_ env_ w_ ⟨x123, x124, ho119, ho120, ho121, ho122, C126, ha125, hX97⟩
    rcases g_ with _ | k142
    · exact absurd hX97 (by simp [juratref04_Reader_Digest.l1])
    rw [juratref04_Reader_Digest.l1] at hX97
    apply kn env_ (.c ho119 (.c ho120 (.c ho121 (.c ho122 .n))))
    refine W.seq ?_
    refine W.seq ?_
    refine W.region rfl ?_
    refine WL.run to 2 rfl ?_
    refine WL.done ?_
    rcases iteE hX97 with ⟨hc143, hX97⟩ | ⟨hc143, hX97⟩
    ·refine W.condT (congrArg Value.bool (decide_eq_true hc143)) ?_
     refine W.skip ?_
     refine W.seq ?_
     refine W.block ?_
     refine W.region rfl ?_
     refine WL.run to 4 rfl ?_
     refine WL.val (Yl.loadV (g := g1) (off := o2) (o := 0) (cs := [.slice A3 n5 c4, .int .i64 a0.E]) (v := .slice A3 n5 c4) rfl Tryz.underlying24 rfl (Ctx.subI 2 C126 rfl) rfl) ?_
     refine WL.run to 1 rfl ?_
     obtain ⟨hc144, hX97⟩ := guardE hX97
     obtain ⟨b145, of146, hA147, he148⟩ := hS9 (by omega)
     refine WL.val (Yl.elemAddr (i := x123) rfl rfl hA147 Tryz.underlying24 sz5 (by omega)) ?_
     obtain ⟨cs149, hr150, hx151⟩ := he148 x123.toNat _ (getD_some (d := 0) (by omega))
     obtain rfl := hr150
     refine WL.val (Yl.load (v := .int .u8 (a0.B.getD x123.toNat 0)) rfl Tryz.underlying5 rfl (((C126.fro)).cell (hx151 0 _ rfl))) ?_
     obtain ⟨hc152, hX97⟩ := guardE hX97
     refine WL.val (Yl.arrAddr (i := x123) rfl rfl Tryz.underlying23 sz5 hc152) ?_
     have ha153 : (x124.set x123.toNat (a0.B.getD x123.toNat 0)).length = 32 := by rw [List.length_set]; exact ha125
     obtain ⟨w154, hy155, C156⟩ := ev_setAr' (P := Tryz.prog) (ps1 := []) (ps2 := [CH.row g10 0 ((List.replicate 32 (0 : Int)).map (Value.int .u8)), CH.row g1 o2 [.slice A3 n5 c4, .int .i64 a0.E]]) (t := 5) (o := 0) (x124.map (Value.int .u8)) ((x124.set x123.toNat (a0.B.getD x123.toNat 0)).map (Value.int .u8)) [] [] x124 .u8 x123 (a0.B.getD x123.toNat 0) C126 (by first | (simp only [List.length_append, List.length_map, List.length_cons, List.length_nil, ha125]; done) | simp [ha125]) (by first | (simp only [List.length_append, List.length_map, List.length_cons, List.length_nil, ha125]; done) | simp [ha125]) (by first | (simp only [List.length_append, List.length_map, List.length_cons, List.length_nil, ha125]; done) | simp [ha125]) (by have := ha125; have := hc152; omega) sz5
     have C157 : Ctx _ _ _ _ _ [CH.row g14 0 ((x124.set x123.toNat (a0.B.getD x123.toNat 0)).map (Value.int .u8)), CH.row g10 0 ((List.replicate 32 (0 : Int)).map (Value.int .u8)), v2] := C156
     refine WL.skip (hy155 _ _ _ _ rfl rfl) ?_
     refine WL.done ?_
     refine inB_n ?_
     refine W.region rfl ?_
     refine WL.run to 3 rfl ?_
     refine WL.done ?_
     exact thenE_n ⟨k142, Nat.lt_succ_self _, wi64 (x123 + 1), x124.set x123.toNat (a0.B.getD x123.toNat 0), rfl, rfl, rfl, rfl, C157, ha153, hX97⟩
    ·refine W.condF (congrArg Value.bool (decide_eq_false hc143)) ?_
     refine W.exit ?_
     refine thenE_x ?_
     refine thenE_x ?_
     refine inB_here ?_
     cases hX97
     refine thenE_n ?_
     exact ⟨rfl, rfl, rfl, C126, ha125⟩
   ·rintro env_ w_ ⟨ho91, ho92, ho93, C96, ha95⟩
    apply kn env_ (.c ho91 (.c ho92 (.c ho93 .n)))
    refine W.seq ?_
    refine W.region rfl ?_
    refine WL.run to 4 rfl ?_
    refine WL.val (Yl.loadV (g := g1) (off := o2) (o := 0) (cs := [.slice A3 n5 c4, .int .i64 a0.E]) (v := .slice A3 n5 c4) rfl Tryz.underlying24 rfl (Ctx.subI 2 C96 rfl) rfl) ?_
    obtain ⟨hc158, H⟩ := guardE H
    have hl167 : a0.B.length ≤ c4 ∧ c4 ≤ maxLen := ⟨hl7, hm8⟩
    obtain ⟨A159, c160, n161, hv162, hn163, hl164, hm165, hS166⟩ := Sl.cut hS9 (c := c4) hl167.2 ((32 : Int).toNat) a0.B.length c4 (by omega) (by omega) (by omega) (by omega)
    rw [List.take_length] at hn163 hl164 hS166
    refine WL.val (Yl.slice ((32 : Int).toNat) a0.B.length c4 rfl Tryz.underlying24 sz5 rfl (hn6).symm (OB.mk rfl (by omega)) (by simp) (by omega) (by omega) (by omega) hv162) ?_
    refine WL.run to 2 rfl ?_
    obtain ⟨w168, hy169, C170⟩ := ev_setI (P := Tryz.prog) (ps1 := [CH.row g14 0 (x94.map (Value.int .u8)), CH.row g10 0 ((List.replicate 32 (0 : Int)).map (Value.int .u8))]) (ps2 := []) (t := 24) 0 [.slice A159 n161 c160] (.slice A159 n161 c160) C96 rfl rfl (ones_of rfl) sz24
    let v3 : CH := CH.row g1 o2 [.slice A159 n161 c160, .int .i64 a0.E]
    have C171 : Ctx _ _ _ _ _ [CH.row g14 0 (x94.map (Value.int .u8)), CH.row g10 0 ((List.replicate 32 (0 : Int)).map (Value.int .u8)), v3] := C170
    refine WL.skip (hy169 _ _ _ _ rfl rfl) ?_
    refine WL.done ?_
    refine W.seq ?_
    refine W.region rfl ?_
    refine WL.val (Yl.loadVA (g := g14) (off := 0) (o := 0) (cs := x94.map (Value.int .u8)) (us := x94.map (Value.int .u8)) rfl Tryz.underlying23 rfl (sz_of sz23 (len_map ha95)) (Ctx.subI 0 C171 rfl) (take_all _)) ?_
    obtain ⟨w172, hy173, C174⟩ := ev_put (P := Tryz.prog) (ps1 := [CH.row g14 0 (x94.map (Value.int .u8))]) (ps2 := [v3]) (t := 23) (x94.map (Value.int .u8)) (.agg (List.toArray (x94.map (Value.int .u8)))) C171 (Put.all 32 (len_map (List.length_replicate ..)) (len_map ha95)) rfl (one_ints _ _) (sz_of sz23 (len_map ha95))
    have C175 : Ctx _ _ _ _ _ [CH.row g14 0 (x94.map (Value.int .u8)), CH.row g10 0 (x94.map (Value.int .u8)), v3] := C174
    refine WL.skip (hy173 _ _ _ _ rfl rfl) ?_
    refine WL.done ?_
    refine W.ret ?_
    have C176 : Ctx _ _ _ _ _ [v3] := Ctx.pick [2] C175 rfl
    simp only [Option.some.injEq, Prod.mk.injEq] at H
    obtain ⟨e177, e178⟩ := H
    subst e177 e178
    exact post_r (resEC rfl ((.cell rfl (run_loadVA2 (g := g10) (off := 0) (o := 0) (cs := x94.map (Value.int .u8)) (us := x94.map (Value.int .u8)) Tryz.underlying23 rfl (sz_of sz23 (len_map ha95)) (Ctx.subI 1 C175 rfl) (take_all _)) .nil))) ⟨A159, c160, n161, rfl, C176, ha95, hn163, hl164, hm165, hS166⟩
 ·refine W.condT (congrArg Value.bool (ndec_f hc18)) ?_
  refine W.seq ?_
  refine W.region rfl ?_
  refine WL.val (Yl.loadVA (g := g14) (off := 0) (o := 0) (cs := (List.replicate 32 (0 : Int)).map (Value.int .u8)) (us := (List.replicate 32 (0 : Int)).map (Value.int .u8)) rfl Tryz.underlying23 rfl (sz_of sz23 (len_map (List.length_replicate ..))) (Ctx.subI 0 C17 rfl) (take_all _)) ?_
  let v4 : CH := CH.row g1 o2 [.slice A3 n5 c4, .int .i64 a0.E]
  obtain ⟨w179, hy180, C181⟩ := ev_put (P := Tryz.prog) (ps1 := [CH.row g14 0 ((List.replicate 32 (0 : Int)).map (Value.int .u8))]) (ps2 := [v4]) (t := 23) ((List.replicate 32 (0 : Int)).map (Value.int .u8)) (.agg (List.toArray ((List.replicate 32 (0 : Int)).map (Value.int .u8)))) C17 (Put.all 32 (len_map (List.length_replicate ..)) (len_map (List.length_replicate ..))) rfl (one_ints _ _) (sz_of sz23 (len_map (List.length_replicate ..)))
  have C182 : Ctx _ _ _ _ _ [CH.row g14 0 ((List.replicate 32 (0 : Int)).map (Value.int .u8)), CH.row g10 0 ((List.replicate 32 (0 : Int)).map (Value.int .u8)), v4] := C181
  refine WL.skip (hy180 _ _ _ _ rfl rfl) ?_
  refine WL.done ?_
  refine W.ret ?_
  refine thenE_r ?_
  have C183 : Ctx _ _ _ _ _ [v4] := Ctx.pick [2] C182 rfl
  simp only [Option.some.injEq, Prod.mk.injEq] at H
  obtain ⟨e184, e185⟩ := H
  subst e184 e185
  exact post_r (resEC rfl ((.cell rfl (run_loadVA2 (g := g10) (off := 0) (o := 0) (cs := (List.replicate 32 (0 : Int)).map (Value.int .u8)) (us := (List.replicate 32 (0 : Int)).map (Value.int .u8)) Tryz.underlying23 rfl (sz_of sz23 (len_map (List.length_replicate ..))) (Ctx.subI 1 C182 rfl) (take_all _)) .nil))) ⟨A3, c4, n5, rfl, C183, (List.length_replicate ..), hn6, hl7, hm8, hS9⟩
def juratref04_Reader_End.f (k : Nat) (a0 : TReader_) : Option (Int × TReader_) := (if a0.E = 0 then (some (decide ((a0.B.length : Int) > 0))) else (some (false))).bind fun g10 => if g10 = true then (some (43, (⟨a0.B, 43⟩ : TReader_))) else (some (a0.E, a0))
set_option maxRecDepth 100000 in
set_option maxHeartbeats 4000000 in
theorem juratref04_Reader_End.calls (k : Nat) (w : World) (F : CH) (g1 : Nat) (o2 : Nat) (A3 : Option Addr) (c4 : Nat) (n5 : Nat) (a0 : TReader_) (hp : Pre w F [CH.row g1 o2 [.slice A3 n5 c4, .int .i64 a0.E]]) (hn6 : n5 = a0.B.length) (hl7 : a0.B.length ≤ c4) (hm8 : c4 ≤ maxLen) (hS9 : Sl (Kd.int .u8) F F A3 a0.B) (r0_ : Int) (r1_ : TReader_) (H : juratref04_Reader_End.f k a0 = some (r0_, r1_)) :
    Calls Tryz.prog 38 #[.pointer (some ⟨g1, o2, none⟩)] w fun e w' => ∃ (A25 : Option Addr) (c26 : Nat) (n27 : Nat), e = .returned (.int .i64 r0_) ∧ Ctx w F (domL [CH.row g1 o2 [.slice A3 n5 c4, .int .i64 a0.E]]) w' F [CH.row g1 o2 [.slice A25 n27 c26, .int .i64 r1_.E]] ∧ n27 = r1_.B.length ∧ r1_.B.length ≤ c26 ∧ c26 ≤ maxLen ∧ Sl (Kd.int .u8) F F A25 r1_.B := by
 have C := Ctx.start hp
 generalize hD : domL [CH.row g1 o2 [.slice A3 n5 c4, .int .i64 a0.E]] = D at C ⊢
 unfold juratref04_Reader_End.f at H
 refine Calls.ofW Tryz.func38 rfl (by simp [Tryz.ntmps38]) ?_
 refine W.seq ?_
 refine W.region rfl ?_
 refine WL.run to 1 rfl ?_
 refine WL.done ?_
 refine W.seq ?_
 refine W.seq ?_
 refine W.region rfl ?_
 refine WL.run to 3 rfl ?_
 refine WL.val (Yl.loadV (g := g1) (off := o2) (o := 1) (cs := [.slice A3 n5 c4, .int .i64 a0.E]) (v := .int .i64 a0.E) rfl Tryz.underlying3 rfl (Ctx.subI 0 C rfl) rfl) ?_
 refine WL.run to 2 rfl ?_
 obtain ⟨g10, HE11, H⟩ := bindE H
 let v1 : CH := CH.row g1 o2 [.slice A3 n5 c4, .int .i64 a0.E]
 refine WL.cut (fun env_ w_ => env_ 15 = .bool g10 ∧ env_ 0 = .pointer (some ⟨g1, o2, none⟩) ∧ Ctx w F D w_ F [v1]) ?_ ?_
 ·rcases iteE HE11 with ⟨hc12, HE11⟩ | ⟨hc12, HE11⟩
  ·refine WL.kn 8 (congrArg Value.bool (decide_eq_true hc12)) ?_
   refine WL.run to 3 rfl ?_
   refine WL.valOn rfl rfl (Yl.loadV (g := g1) (off := o2) (o := 0) (cs := [.slice A3 n5 c4, .int .i64 a0.E]) (v := .slice A3 n5 c4) rfl Tryz.underlying24 rfl (Ctx.subI 0 C rfl) rfl) ?_
   refine WL.valOn rfl rfl (Yl.lenN (A := A3) (l := n5) (q := c4) (n := (a0.B.length : Int)) rfl Tryz.underlying24 (by omega)) ?_
   refine WL.run to 2 rfl ?_
   cases HE11
   exact WL.done ⟨rfl, rfl, C⟩
  ·refine WL.kn 8 (congrArg Value.bool (decide_eq_false hc12)) ?_
   refine WL.offs 6 8 true rfl rfl ?_
   refine WL.run to 1 rfl ?_
   cases HE11
   exact WL.done ⟨rfl, rfl, C⟩
 ·rintro env_ w_ ⟨ho13, ho14, C15⟩
  apply kn env_ (.c ho13 (.c ho14 .n))
  rcases iteE H with ⟨hc16, H⟩ | ⟨hc16, H⟩
  ·refine W.condT (congrArg Value.bool hc16) ?_
   refine W.region rfl ?_
   refine WL.run to 3 rfl ?_
   obtain ⟨w17, hy18, C19⟩ := ev_setI (P := Tryz.prog) (ps1 := []) (ps2 := []) (t := 3) 1 [.int .i64 43] (.int .i64 43) C15 rfl rfl (ones_of rfl) sz3
   let v2 : CH := CH.row g1 o2 [.slice A3 n5 c4, .int .i64 43]
   have C20 : Ctx _ _ _ _ _ [v2] := C19
   refine WL.skip (hy18 _ _ _ _ rfl rfl) ?_
   refine WL.done ?_
   refine W.seq ?_
   refine W.region rfl ?_
   refine WL.run to 3 rfl ?_
   refine WL.val (Yl.loadV (g := g1) (off := o2) (o := 1) (cs := [.slice A3 n5 c4, .int .i64 43]) (v := .int .i64 43) rfl Tryz.underlying3 rfl (Ctx.subI 0 C20 rfl) rfl) ?_
   refine WL.run to 1 rfl ?_
   refine WL.done ?_
   refine W.ret ?_
   simp only [Option.some.injEq, Prod.mk.injEq] at H
   obtain ⟨e21, e22⟩ := H
   subst e21 e22
   exact post_r (resE1 rfl rfl) ⟨A3, c4, n5, rfl, C20, hn6, hl7, hm8, hS9⟩
  ·refine W.condF (congrArg Value.bool (Bool.eq_false_iff.2 hc16)) ?_
   refine W.skip ?_
   refine W.seq ?_
   refine W.region rfl ?_
   refine WL.run to 3 rfl ?_
   refine WL.val (Yl.loadV (g := g1) (off := o2) (o := 1) (cs := [.slice A3 n5 c4, .int .i64 a0.E]) (v := .int .i64 a0.E) rfl Tryz.underlying3 rfl (Ctx.subI 0 C15 rfl) rfl) ?_
   refine WL.run to 1 rfl ?_
   refine WL.done ?_
   refine W.ret ?_
   simp only [Option.some.injEq, Prod.mk.injEq] at H
   obtain ⟨e23, e24⟩ := H
   subst e23 e24
   exact post_r (resE1 rfl rfl) ⟨A3, c4, n5, rfl, C15, hn6, hl7, hm8, hS9⟩
def juratref21_in.f (k : Nat) (a0 : Int) (a1 : Int) (a2 : Int) : Option Bool := some ((decide (a0 ≥ a1)) && (decide (a0 ≤ a2)))
set_option maxRecDepth 100000 in
set_option maxHeartbeats 4000000 in
theorem juratref21_in.calls (k : Nat) (w : World) (F : CH) (a0 : Int) (a1 : Int) (a2 : Int) (hp : Pre w F [])  (r0_ : Bool) (H : juratref21_in.f k a0 a1 a2 = some r0_) :
    Calls Tryz.prog 49 #[.int .i64 a0, .int .i64 a1, .int .i64 a2] w fun e w' => e = .returned (.bool r0_) ∧ (∃ n_, w' = w.drewN n_) := by
 have C := Ctx.start hp
 generalize domL [] = D at C
 have W0 : ∃ n_, w = w.drewN n_ := ⟨0, rfl⟩
 unfold juratref21_in.f at H
 refine Calls.ofW Tryz.func49 rfl (by simp [Tryz.ntmps49]) ?_
 refine W.seq ?_
 refine W.region rfl ?_
 refine WL.run to 1 rfl ?_
 refine WL.done ?_
 refine W.seq ?_
 refine W.region rfl ?_
 refine WL.run to 4 rfl ?_
 refine WL.cut (fun env_ w_ => env_ 6 = .bool ((decide (a0 ≥ a1)) && (decide (a0 ≤ a2))) ∧ Ctx w F D w_ F [] ∧ (∃ n_, w_ = w.drewN n_)) ?_ ?_
 ·rcases Bool.eq_false_or_eq_true (decide (a0 ≥ a1)) with hb1 | hb1
  ·refine WL.kn 10 (congrArg Value.bool hb1) ?_
   refine WL.run to 5 rfl ?_
   exact WL.done ⟨(congrArg Value.bool (show (decide (a0 ≤ a2)) = ((decide (a0 ≥ a1)) && (decide (a0 ≤ a2))) from by simp [hb1])), C, W0⟩
  ·refine WL.kn 10 (congrArg Value.bool hb1) ?_
   refine WL.offs 3 10 true rfl rfl ?_
   refine WL.run to 2 rfl ?_
   exact WL.done ⟨(congrArg Value.bool (show false = ((decide (a0 ≥ a1)) && (decide (a0 ≤ a2))) from by simp [hb1])), C, W0⟩
 ·rintro env_ w_ ⟨ho2, C3, Wq4⟩
  apply kn env_ (.c ho2 .n)
  refine W.ret ?_
  have e5 := Option.some.inj H
  subst e5
  exact post_r (resE1 rfl rfl) ⟨rfl, Wq4⟩
def juratref21_zero.f (k : Nat) (a0 : TRecord) : Option Bool := (if a0.Epoch = 0 then (if a0.Nonce = (List.replicate 32 (0 : Int)) then (if (a0.Data.length : Int) = 0 then (if a0.Job = 0 then (if a0.Time = 0 then (some (decide (a0.By = 0))) else (some (false))) else (some (false))) else (some (false))) else (some (false))) else (some (false))).bind fun g13 => some g13
set_option maxRecDepth 100000 in
set_option maxHeartbeats 4000000 in
theorem juratref21_zero.calls (k : Nat) (w : World) (F : CH) (A2 : Option Addr) (c3 : Nat) (n4 : Nat) (a0 : TRecord) (hp : Pre w F []) (ha1 : a0.Nonce.length = 32) (hn5 : n4 = a0.Data.length) (hl6 : a0.Data.length ≤ c3) (hm7 : c3 ≤ maxLen) (hS8 : Sl (Kd.int .u8) F F A2 a0.Data) (r0_ : Bool) (H : juratref21_zero.f k a0 = some r0_) :
    Calls Tryz.prog 53 #[.agg (List.toArray ([.int .i64 a0.Kind, .int .i64 a0.Epoch] ++ (a0.Nonce.map (Value.int .u8) ++ [.slice A2 n4 c3, .int .i64 a0.Job, .int .i64 a0.Time, .int .i64 a0.By])))] w fun e w' => e = .returned (.bool r0_) ∧ Ctx w F (domL []) w' F [] := by
 have C := Ctx.start hp
 generalize hD : domL [] = D at C ⊢
 unfold juratref21_zero.f at H
 refine Calls.ofW Tryz.func53 rfl (by simp [Tryz.ntmps53]) ?_
 refine W.seq ?_
 refine W.region rfl ?_
 let q1 : List Go.Value := [.int .i64 a0.Kind, .int .i64 a0.Epoch] ++ (a0.Nonce.map (Value.int .u8) ++ [.slice A2 n4 c3, .int .i64 a0.Job, .int .i64 a0.Time, .int .i64 a0.By])
 obtain ⟨g9, w10, hy11, C12⟩ := ev_box (P := Tryz.prog) 26 (.agg (List.toArray q1)) q1 C rfl
 refine WL.val (hy11 _ _ _ rfl) ?_
 refine WL.run to 1 rfl ?_
 refine WL.done ?_
 refine W.seq ?_
 refine W.region rfl ?_
 refine WL.run to 1 rfl ?_
 refine WL.val (Yl.loadV (g := g9) (off := 0) (o := 1) (cs := q1) (v := .int .i64 a0.Epoch) rfl Tryz.underlying3 rfl (Ctx.subI 0 C12 rfl) rfl) ?_
 refine WL.run to 2 rfl ?_
 obtain ⟨g13, HE14, H⟩ := bindE H
 refine WL.cut (fun env_ w_ => env_ 2 = .bool g13 ∧ Ctx w F D w_ F [CH.row g9 0 q1]) ?_ ?_
 ·rcases iteE HE14 with ⟨hc15, HE14⟩ | ⟨hc15, HE14⟩
  ·refine WL.kn 6 (congrArg Value.bool (decide_eq_true hc15)) ?_
   refine WL.run to 1 rfl ?_
   refine WL.valOn rfl rfl (Yl.loadVA (g := g9) (off := 0) (o := 2) (cs := q1) (us := a0.Nonce.map (Value.int .u8)) rfl Tryz.underlying23 rfl (sz_of sz23 (len_map ha1)) (Ctx.subI 0 C12 rfl) (mid_skip 2 0 rfl (mid_here rfl))) ?_
   refine WL.on rfl rfl ?_
   refine WL.val (Yl.buildArr (cs := List.toArray ((List.replicate 32 (0 : Int)).map (Value.int .u8))) Tryz.underlying23 sz5 zr23 (partsB .nil) rfl) ?_
   refine WL.valOn rfl rfl (Yl.aeql (n := 2) (xs := a0.Nonce.map (Value.int .u8)) (ys := (List.replicate 32 (0 : Int)).map (Value.int .u8)) rfl rfl eg23 (EqV.arrI Tryz.underlying23 Tryz.underlying5 sz5 ha1 (List.length_replicate ..)) (by decide)) ?_
   refine WL.run to 2 rfl ?_
   rcases iteE HE14 with ⟨hc16, HE14⟩ | ⟨hc16, HE14⟩
   ·refine WL.kn 12 (congrArg Value.bool (decide_eq_true hc16)) ?_
    refine WL.run to 1 rfl ?_
    refine WL.valOn rfl rfl (Yl.loadV (g := g9) (off := 0) (o := 34) (cs := q1) (v := .slice A2 n4 c3) rfl Tryz.underlying24 rfl (Ctx.subI 0 C12 rfl) (at_skip 2 32 rfl (at_skip 32 0 (len_map ha1) rfl))) ?_
    refine WL.valOn rfl rfl (Yl.lenN (A := A2) (l := n4) (q := c3) (n := (a0.Data.length : Int)) rfl Tryz.underlying24 (by omega)) ?_
    refine WL.run to 3 rfl ?_
    rcases iteE HE14 with ⟨hc17, HE14⟩ | ⟨hc17, HE14⟩
    ·refine WL.kn 18 (congrArg Value.bool (decide_eq_true hc17)) ?_
     refine WL.run to 1 rfl ?_
     refine WL.valOn rfl rfl (Yl.loadV (g := g9) (off := 0) (o := 35) (cs := q1) (v := .int .i64 a0.Job) rfl Tryz.underlying3 rfl (Ctx.subI 0 C12 rfl) (at_skip 2 33 rfl (at_skip 32 1 (len_map ha1) rfl))) ?_
     refine WL.run to 3 rfl ?_
     rcases iteE HE14 with ⟨hc18, HE14⟩ | ⟨hc18, HE14⟩
     ·refine WL.kn 23 (congrArg Value.bool (decide_eq_true hc18)) ?_
      refine WL.run to 1 rfl ?_
      refine WL.valOn rfl rfl (Yl.loadV (g := g9) (off := 0) (o := 36) (cs := q1) (v := .int .i64 a0.Time) rfl Tryz.underlying3 rfl (Ctx.subI 0 C12 rfl) (at_skip 2 34 rfl (at_skip 32 2 (len_map ha1) rfl))) ?_
      refine WL.run to 3 rfl ?_
      rcases iteE HE14 with ⟨hc19, HE14⟩ | ⟨hc19, HE14⟩
      ·refine WL.kn 28 (congrArg Value.bool (decide_eq_true hc19)) ?_
       refine WL.run to 1 rfl ?_
       refine WL.valOn rfl rfl (Yl.loadV (g := g9) (off := 0) (o := 37) (cs := q1) (v := .int .i64 a0.By) rfl Tryz.underlying3 rfl (Ctx.subI 0 C12 rfl) (at_skip 2 35 rfl (at_skip 32 3 (len_map ha1) rfl))) ?_
       refine WL.run to 3 rfl ?_
       cases HE14
       exact WL.done ⟨rfl, C12⟩
      ·refine WL.kn 28 (congrArg Value.bool (decide_eq_false hc19)) ?_
       refine WL.offs 3 28 true rfl rfl ?_
       refine WL.run to 2 rfl ?_
       cases HE14
       exact WL.done ⟨rfl, C12⟩
     ·refine WL.kn 23 (congrArg Value.bool (decide_eq_false hc18)) ?_
      refine WL.offs 3 23 true rfl rfl ?_
      refine WL.run to 2 rfl ?_
      refine WL.offs 3 28 true rfl rfl ?_
      refine WL.run to 2 rfl ?_
      cases HE14
      exact WL.done ⟨rfl, C12⟩
    ·refine WL.kn 18 (congrArg Value.bool (decide_eq_false hc17)) ?_
     refine WL.offs 3 18 true rfl rfl ?_
     refine WL.run to 2 rfl ?_
     refine WL.offs 3 23 true rfl rfl ?_
     refine WL.run to 2 rfl ?_
     refine WL.offs 3 28 true rfl rfl ?_
     refine WL.run to 2 rfl ?_
     cases HE14
     exact WL.done ⟨rfl, C12⟩
   ·refine WL.kn 12 (congrArg Value.bool (decide_eq_false hc16)) ?_
    refine WL.offs 4 12 true rfl rfl ?_
    refine WL.run to 2 rfl ?_
    refine WL.offs 3 18 true rfl rfl ?_
    refine WL.run to 2 rfl ?_
    refine WL.offs 3 23 true rfl rfl ?_
    refine WL.run to 2 rfl ?_
    refine WL.offs 3 28 true rfl rfl ?_
    refine WL.run to 2 rfl ?_
    cases HE14
    exact WL.done ⟨rfl, C12⟩
  ·refine WL.kn 6 (congrArg Value.bool (decide_eq_false hc15)) ?_
   refine WL.offs 4 6 true rfl rfl ?_
   refine WL.run to 2 rfl ?_
   refine WL.offs 4 12 true rfl rfl ?_
   refine WL.run to 2 rfl ?_
   refine WL.offs 3 18 true rfl rfl ?_
   refine WL.run to 2 rfl ?_
   refine WL.offs 3 23 true rfl rfl ?_
   refine WL.run to 2 rfl ?_
   refine WL.offs 3 28 true rfl rfl ?_
   refine WL.run to 2 rfl ?_
   cases HE14
   exact WL.done ⟨rfl, C12⟩
 ·rintro env_ w_ ⟨ho20, C21⟩
  apply kn env_ (.c ho20 .n)
  refine W.ret ?_
  have C22 : Ctx _ _ _ _ _ [] := Ctx.pick [] C21 rfl
  have e23 := Option.some.inj H
  subst e23
  exact post_r (resE1 rfl rfl) ⟨rfl, C22⟩
def juratref21_May.f (k : Nat) (a0 : TRecord) : Option Bool := if a0.Kind = 1 then (((juratref21_in.f k a0.Epoch 1 1099511627776).bind fun r56 => if r56 = true then ((juratref21_zero.f k (⟨a0.Kind, 0, (List.replicate 32 (0 : Int)), a0.Data, a0.Job, a0.Time, a0.By⟩ : TRecord)).bind fun r61 => some r61) else (some false)).bind fun x48 => some x48) else (if a0.Kind = 2 then ((if (a0.Data.length : Int) ≤ 64 then ((juratref21_zero.f k (⟨a0.Kind, a0.Epoch, a0.Nonce, ([] : List Int), a0.Job, a0.Time, a0.By⟩ : TRecord)).bind fun r82 => some r82) else (some false)).bind fun x77 => some x77) else ((if a0.Kind = 3 then (some (decide (a0.Kind = 3))) else (some (decide (a0.Kind = 5)))).bind fun x92 => if x92 = true then (((juratref21_in.f k a0.Job 0 1099511627776).bind fun r136 => if r136 = true then ((juratref21_in.f k a0.Time 0 1099511627776).bind fun r141 => if r141 = true then ((juratref21_zero.f k (⟨a0.Kind, a0.Epoch, a0.Nonce, a0.Data, 0, 0, a0.By⟩ : TRecord)).bind fun r146 => some r146) else (some false)) else (some false)).bind fun x128 => some x128) else (if a0.Kind = 4 then (((juratref21_in.f k a0.Job 0 1099511627776).bind fun r196 => if r196 = true then ((juratref21_in.f k a0.By 0 1099511627776).bind fun r201 => if r201 = true then (if (a0.Data.length : Int) ≤ 32 then ((juratref21_zero.f k (⟨a0.Kind, a0.Epoch, a0.Nonce, ([] : List Int), 0, a0.Time, 0⟩ : TRecord)).bind fun r207 => some r207) else (some false)) else (some false)) else (some false)).bind fun x188 => some x188) else (if a0.Kind = 6 then ((juratref21_zero.f k a0).bind fun r214 => some r214) else (some false)))))
set_option maxRecDepth 100000 in
set_option maxHeartbeats 4000000 in
theorem juratref21_May.calls (k : Nat) (w : World) (F : CH) (A2 : Option Addr) (c3 : Nat) (n4 : Nat) (a0 : TRecord) (hp : Pre w F []) (ha1 : a0.Nonce.length = 32) (hn5 : n4 = a0.Data.length) (hl6 : a0.Data.length ≤ c3) (hm7 : c3 ≤ maxLen) (hS8 : Sl (Kd.int .u8) F F A2 a0.Data) (r0_ : Bool) (H : juratref21_May.f k a0 = some r0_) :
    Calls Tryz.prog 26 #[.agg (List.toArray ([.int .i64 a0.Kind, .int .i64 a0.Epoch] ++ (a0.Nonce.map (Value.int .u8) ++ [.slice A2 n4 c3, .int .i64 a0.Job, .int .i64 a0.Time, .int .i64 a0.By])))] w fun e w' => e = .returned (.bool r0_) ∧ Ctx w F (domL []) w' F [] := by
 have C := Ctx.start hp
 generalize hD : domL [] = D at C ⊢
 unfold juratref21_May.f at H
 refine Calls.ofW Tryz.func26 rfl (by simp [Tryz.ntmps26]) ?_
 refine W.seq ?_
 refine W.region rfl ?_
 let q1 : List Go.Value := [.int .i64 a0.Kind, .int .i64 a0.Epoch] ++ (a0.Nonce.map (Value.int .u8) ++ [.slice A2 n4 c3, .int .i64 a0.Job, .int .i64 a0.Time, .int .i64 a0.By])
 obtain ⟨g9, w10, hy11, C12⟩ := ev_box (P := Tryz.prog) 26 (.agg (List.toArray q1)) q1 C rfl
 refine WL.val (hy11 _ _ _ rfl) ?_
 refine WL.run to 1 rfl ?_
 refine WL.done ?_
 refine W.seq ?_
 refine W.region rfl ?_
 refine WL.val (Yl.loadVA (g := g9) (off := 0) (o := 0) (cs := q1) (us := q1) rfl Tryz.underlying26 rfl (sz_of sz26 (len_app rfl (len_app (len_map ha1) rfl))) (Ctx.subI 0 C12 rfl) (take_all _)) ?_
 let q2 : List Go.Value := [.int .i64 0, .int .i64 0] ++ ((List.replicate 32 (0 : Int)).map (Value.int .u8) ++ [.slice none 0 0, .int .i64 0, .int .i64 0, .int .i64 0])
 obtain ⟨g13, w14, hy15, C16⟩ := ev_alloc (P := Tryz.prog) (e := 26) q2 C12 zr26 rfl
 refine WL.val (hy15 _ _) ?_
 obtain ⟨w17, hy18, C19⟩ := ev_put (P := Tryz.prog) (ps1 := []) (ps2 := [CH.row g9 0 q1]) (t := 26) q1 (.agg (List.toArray q1)) C16 (Put.all 38 (len_app rfl (len_app (len_map (List.length_replicate ..)) rfl)) (len_app rfl (len_app (len_map ha1) rfl))) rfl (ones_append (ones_of rfl) (ones_append (one_ints _ _) (ones_of rfl))) (sz_of sz26 (len_app rfl (len_app (len_map ha1) rfl)))
 have C20 : Ctx _ _ _ _ _ [CH.row g13 0 q1, CH.row g9 0 q1] := C19
 refine WL.skip (hy18 _ _ _ _ rfl rfl) ?_
 refine WL.done ?_
 refine W.seq ?_
 refine W.seq ?_
 refine W.region rfl ?_
 refine WL.run to 1 rfl ?_
 refine WL.val (Yl.loadV (g := g9) (off := 0) (o := 0) (cs := q1) (v := .int .i64 a0.Kind) rfl Tryz.underlying3 rfl (Ctx.subI 1 C20 rfl) rfl) ?_
 refine WL.done ?_
 refine W.block ?_
 refine W.seq ?_
 refine W.region rfl ?_
 refine WL.run to 2 rfl ?_
 refine WL.done ?_
 rcases iteE H with ⟨hc21, H⟩ | ⟨hc21, H⟩
 ·refine W.condT (congrArg Value.bool (decide_eq_true hc21)) ?_
  refine W.seq ?_
  refine W.region rfl ?_
  refine WL.run to 1 rfl ?_
  obtain ⟨w22, hy23, C24⟩ := ev_put (P := Tryz.prog) (ps1 := []) (ps2 := [CH.row g9 0 q1]) (t := 3) [.int .i64 0] (.int .i64 0) C20 (Put.left (Put.lit 1 rfl)) rfl (ones_of rfl) sz3
  let q3 : List Go.Value := [.int .i64 a0.Kind, .int .i64 0] ++ (a0.Nonce.map (Value.int .u8) ++ [.slice A2 n4 c3, .int .i64 a0.Job, .int .i64 a0.Time, .int .i64 a0.By])
  have C25 : Ctx _ _ _ _ _ [CH.row g13 0 q3, CH.row g9 0 q1] := C24
  refine WL.skip (hy23 _ _ _ _ rfl rfl) ?_
  refine WL.done ?_
  refine W.seq ?_
  refine W.region rfl ?_
  refine WL.val (Yl.buildArr (cs := List.toArray ((List.replicate 32 (0 : Int)).map (Value.int .u8))) Tryz.underlying23 sz5 zr23 (partsB .nil) rfl) ?_
  refine WL.run to 1 rfl ?_
  obtain ⟨w26, hy27, C28⟩ := ev_put (P := Tryz.prog) (ps1 := []) (ps2 := [CH.row g9 0 q1]) (t := 23) ((List.replicate 32 (0 : Int)).map (Value.int .u8)) (.agg (List.toArray ((List.replicate 32 (0 : Int)).map (Value.int .u8)))) C25 (Put.skip 2 0 rfl (Put.here 32 (len_map ha1) (len_map (List.length_replicate ..)))) rfl (one_ints _ _) (sz_of sz23 (len_map (List.length_replicate ..)))
  let q4 : List Go.Value := [.int .i64 a0.Kind, .int .i64 0] ++ ((List.replicate 32 (0 : Int)).map (Value.int .u8) ++ [.slice A2 n4 c3, .int .i64 a0.Job, .int .i64 a0.Time, .int .i64 a0.By])
  have C29 : Ctx _ _ _ _ _ [CH.row g13 0 q4, CH.row g9 0 q1] := C28
  refine WL.skip (hy27 _ _ _ _ rfl rfl) ?_
  refine WL.done ?_
  refine W.seq ?_
  obtain ⟨x48, hX50, H⟩ := bindE H
  refine W.cutM (fun env_ w_ => env_ 2 = .bool x48 ∧ Ctx w F D w_ F [CH.row g13 0 q4, CH.row g9 0 q1]) ?_ ?_
  ·refine W.region rfl ?_
   refine WL.run to 1 rfl ?_
   refine WL.val (Yl.loadV (g := g9) (off := 0) (o := 1) (cs := q1) (v := .int .i64 a0.Epoch) rfl Tryz.underlying3 rfl (Ctx.subI 1 C29 rfl) rfl) ?_
   obtain ⟨r56, hg55, hX50⟩ := bindE hX50
   refine WL.callH (juratref21_in.calls k _ F a0.Epoch 1 1099511627776 C29.pre0  r56 hg55) (Yenter.fn Tryz.func49 (by kernel_rfl) rfl (argsE (.cons rfl (.cons rfl (.cons rfl .nil))))) ?_
   rintro e_ w_ ⟨rfl, ⟨m57, rfl⟩⟩
   refine ⟨_, rfl, ?_⟩
   have C58 := Ctx.drewN C29 m57
   refine WL.run to 1 rfl ?_
   rcases iteE hX50 with ⟨hc59, hX50⟩ | ⟨hc59, hX50⟩
   ·refine WL.kn 15 (congrArg Value.bool hc59) ?_
    refine WL.valOn rfl rfl (Yl.loadVA (g := g13) (off := 0) (o := 0) (cs := q4) (us := q4) rfl Tryz.underlying26 rfl (sz_of sz26 (len_app rfl (len_app (len_map (List.length_replicate ..)) rfl))) (Ctx.subI 0 C58 rfl) (take_all _)) ?_
    refine WL.on rfl rfl ?_
    obtain ⟨r61, hg60, hX50⟩ := bindE hX50
    refine WL.callH (juratref21_zero.calls k _ F A2 c3 n4 (⟨a0.Kind, 0, (List.replicate 32 (0 : Int)), a0.Data, a0.Job, a0.Time, a0.By⟩ : TRecord) (Ctx.pre (qs := []) (rest := [CH.row g13 0 q4, CH.row g9 0 q1]) C58) (List.length_replicate ..) hn5 hl6 hm7 hS8 r61 hg60) (Yenter.fn Tryz.func53 (by kernel_rfl) rfl (argsE (.cons rfl .nil))) ?_
    rintro e_ w_ ⟨rfl, C62⟩
    refine ⟨_, rfl, ?_⟩
    have C63 : Ctx _ _ _ _ _ [CH.row g13 0 q4, CH.row g9 0 q1] := Ctx.call (qs := []) (rest := [CH.row g13 0 q4, CH.row g9 0 q1]) C58 C62
    refine WL.run to 2 rfl ?_
    refine WL.done ?_
    cases hX50
    refine thenE_n ?_
    exact ⟨rfl, C63⟩
   ·refine WL.kn 15 (congrArg Value.bool (Bool.eq_false_iff.2 hc59)) ?_
    refine WL.offs 2 15 true rfl rfl ?_
    refine WL.run to 2 rfl ?_
    refine WL.done ?_
    cases hX50
    refine thenE_n ?_
    exact ⟨rfl, C58⟩
  ·rintro env_ w_ ⟨ho47, C49⟩
   apply kn env_ (.c ho47 .n)
   refine W.ret ?_
   refine inB_r ?_
   refine thenE_r ?_
   have C64 : Ctx _ _ _ _ _ [] := Ctx.pick [] C49 rfl
   have e65 := Option.some.inj H
   subst e65
   exact post_r (resE1 rfl rfl) ⟨rfl, C64⟩
 ·refine W.condF (congrArg Value.bool (decide_eq_false hc21)) ?_
  refine W.seq ?_
  refine W.region rfl ?_
  refine WL.run to 2 rfl ?_
  refine WL.done ?_
  rcases iteE H with ⟨hc66, H⟩ | ⟨hc66, H⟩
  ·refine W.condT (congrArg Value.bool (decide_eq_true hc66)) ?_
   refine W.seq ?_
   refine W.region rfl ?_
   refine WL.run to 1 rfl ?_
   obtain ⟨w67, hy68, C69⟩ := ev_put (P := Tryz.prog) (ps1 := []) (ps2 := [CH.row g9 0 q1]) (t := 24) [.slice none 0 0] (.slice none 0 0) C20 (Put.skip 2 32 rfl (Put.skip 32 0 (len_map ha1) (Put.lit 0 rfl))) rfl (ones_of rfl) sz24
   let q5 : List Go.Value := [.int .i64 a0.Kind, .int .i64 a0.Epoch] ++ (a0.Nonce.map (Value.int .u8) ++ [.slice none 0 0, .int .i64 a0.Job, .int .i64 a0.Time, .int .i64 a0.By])
   have C70 : Ctx _ _ _ _ _ [CH.row g13 0 q5, CH.row g9 0 q1] := C69
   refine WL.skip (hy68 _ _ _ _ rfl rfl) ?_
   refine WL.done ?_
   refine W.seq ?_
   obtain ⟨x77, hX79, H⟩ := bindE H
   refine W.cutM (fun env_ w_ => env_ 2 = .bool x77 ∧ Ctx w F D w_ F [CH.row g13 0 q5, CH.row g9 0 q1]) ?_ ?_
   ·refine W.region rfl ?_
    refine WL.run to 1 rfl ?_
    refine WL.val (Yl.loadV (g := g9) (off := 0) (o := 34) (cs := q1) (v := .slice A2 n4 c3) rfl Tryz.underlying24 rfl (Ctx.subI 1 C70 rfl) (at_skip 2 32 rfl (at_skip 32 0 (len_map ha1) rfl))) ?_
    refine WL.val (Yl.lenN (A := A2) (l := n4) (q := c3) (n := (a0.Data.length : Int)) rfl Tryz.underlying24 (by omega)) ?_
    refine WL.run to 2 rfl ?_
    rcases iteE hX79 with ⟨hc80, hX79⟩ | ⟨hc80, hX79⟩
    ·refine WL.kn 26 (congrArg Value.bool (decide_eq_true hc80)) ?_
     refine WL.valOn rfl rfl (Yl.loadVA (g := g13) (off := 0) (o := 0) (cs := q5) (us := q5) rfl Tryz.underlying26 rfl (sz_of sz26 (len_app rfl (len_app (len_map ha1) rfl))) (Ctx.subI 0 C70 rfl) (take_all _)) ?_
     refine WL.on rfl rfl ?_
     obtain ⟨r82, hg81, hX79⟩ := bindE hX79
     refine WL.callH (juratref21_zero.calls k _ F none 0 0 (⟨a0.Kind, a0.Epoch, a0.Nonce, ([] : List Int), a0.Job, a0.Time, a0.By⟩ : TRecord) (Ctx.pre (qs := []) (rest := [CH.row g13 0 q5, CH.row g9 0 q1]) C70) ha1 rfl (Nat.le_refl _) (Nat.zero_le _) (Sl.nil _ _ _ _) r82 hg81) (Yenter.fn Tryz.func53 (by kernel_rfl) rfl (argsE (.cons rfl .nil))) ?_
     rintro e_ w_ ⟨rfl, C83⟩
     refine ⟨_, rfl, ?_⟩
     have C84 : Ctx _ _ _ _ _ [CH.row g13 0 q5, CH.row g9 0 q1] := Ctx.call (qs := []) (rest := [CH.row g13 0 q5, CH.row g9 0 q1]) C70 C83
     refine WL.run to 2 rfl ?_
     refine WL.done ?_
     cases hX79
     refine thenE_n ?_
     exact ⟨rfl, C84⟩
    ·refine WL.kn 26 (congrArg Value.bool (decide_eq_false hc80)) ?_
     refine WL.offs 2 26 true rfl rfl ?_
     refine WL.run to 2 rfl ?_
     refine WL.done ?_
     cases hX79
     refine thenE_n ?_
     exact ⟨rfl, C70⟩
   ·rintro env_ w_ ⟨ho76, C78⟩
    apply kn env_ (.c ho76 .n)
    refine W.ret ?_
    refine inB_r ?_
    refine thenE_r ?_
    have C85 : Ctx _ _ _ _ _ [] := Ctx.pick [] C78 rfl
    have e86 := Option.some.inj H
    subst e86
    exact post_r (resE1 rfl rfl) ⟨rfl, C85⟩
  ·refine W.condF (congrArg Value.bool (decide_eq_false hc66)) ?_
   refine W.seq ?_
   obtain ⟨x92, hX94, H⟩ := bindE H
   refine W.cutM (fun env_ w_ => env_ 1 = .pointer (some ⟨g9, 0, none⟩) ∧ env_ 3 = .pointer (some ⟨g13, 0, none⟩) ∧ env_ 6 = .int .i64 a0.Kind ∧ env_ 30 = .bool x92 ∧ Ctx w F D w_ F [CH.row g13 0 q1, CH.row g9 0 q1]) ?_ ?_
   ·refine W.seq ?_
    refine W.region rfl ?_
    refine WL.run to 2 rfl ?_
    refine WL.done ?_
    rcases iteE hX94 with ⟨hc95, hX94⟩ | ⟨hc95, hX94⟩
    ·refine W.condT (congrArg Value.bool (decide_eq_true hc95)) ?_
     refine W.skip ?_
     cases hX94
     refine thenE_n ?_
     exact ⟨rfl, rfl, rfl, rfl, C20⟩
    ·refine W.condF (congrArg Value.bool (decide_eq_false hc95)) ?_
     refine W.region rfl ?_
     refine WL.run to 2 rfl ?_
     refine WL.done ?_
     cases hX94
     refine thenE_n ?_
     exact ⟨rfl, rfl, rfl, rfl, C20⟩
   ·rintro env_ w_ ⟨ho88, ho89, ho90, ho91, C93⟩
    apply kn env_ (.c ho88 (.c ho89 (.c ho90 (.c ho91 .n))))
    rcases iteE H with ⟨hc96, H⟩ | ⟨hc96, H⟩
    ·refine W.condT (congrArg Value.bool hc96) ?_
     refine W.seq ?_
     refine W.region rfl ?_
     refine WL.run to 1 rfl ?_
     obtain ⟨w97, hy98, C99⟩ := ev_put (P := Tryz.prog) (ps1 := []) (ps2 := [CH.row g9 0 q1]) (t := 3) [.int .i64 0] (.int .i64 0) C93 (Put.skip 2 33 rfl (Put.skip 32 1 (len_map ha1) (Put.lit 1 rfl))) rfl (ones_of rfl) sz3
     let q6 : List Go.Value := [.int .i64 a0.Kind, .int .i64 a0.Epoch] ++ (a0.Nonce.map (Value.int .u8) ++ [.slice A2 n4 c3, .int .i64 0, .int .i64 a0.Time, .int .i64 a0.By])
     have C100 : Ctx _ _ _ _ _ [CH.row g13 0 q6, CH.row g9 0 q1] := C99
     refine WL.skip (hy98 _ _ _ _ rfl rfl) ?_
     refine WL.done ?_
     refine W.seq ?_
     refine W.region rfl ?_
     refine WL.run to 1 rfl ?_
     obtain ⟨w101, hy102, C103⟩ := ev_put (P := Tryz.prog) (ps1 := []) (ps2 := [CH.row g9 0 q1]) (t := 3) [.int .i64 0] (.int .i64 0) C100 (Put.skip 2 34 rfl (Put.skip 32 2 (len_map ha1) (Put.lit 2 rfl))) rfl (ones_of rfl) sz3
     let q7 : List Go.Value := [.int .i64 a0.Kind, .int .i64 a0.Epoch] ++ (a0.Nonce.map (Value.int .u8) ++ [.slice A2 n4 c3, .int .i64 0, .int .i64 0, .int .i64 a0.By])
     have C104 : Ctx _ _ _ _ _ [CH.row g13 0 q7, CH.row g9 0 q1] := C103
     refine WL.skip (hy102 _ _ _ _ rfl rfl) ?_
     refine WL.done ?_
     refine W.seq ?_
     obtain ⟨x128, hX130, H⟩ := bindE H
     refine W.cutM (fun env_ w_ => env_ 2 = .bool x128 ∧ Ctx w F D w_ F [CH.row g13 0 q7, CH.row g9 0 q1]) ?_ ?_
     ·refine W.region rfl ?_
      refine WL.run to 1 rfl ?_
      refine WL.val (Yl.loadV (g := g9) (off := 0) (o := 35) (cs := q1) (v := .int .i64 a0.Job) rfl Tryz.underlying3 rfl (Ctx.subI 1 C104 rfl) (at_skip 2 33 rfl (at_skip 32 1 (len_map ha1) rfl))) ?_
      obtain ⟨r136, hg135, hX130⟩ := bindE hX130
      refine WL.callH (juratref21_in.calls k _ F a0.Job 0 1099511627776 C104.pre0  r136 hg135) (Yenter.fn Tryz.func49 (by kernel_rfl) rfl (argsE (.cons rfl (.cons rfl (.cons rfl .nil))))) ?_
      rintro e_ w_ ⟨rfl, ⟨m137, rfl⟩⟩
      refine ⟨_, rfl, ?_⟩
      have C138 := Ctx.drewN C104 m137
      refine WL.run to 1 rfl ?_
      rcases iteE hX130 with ⟨hc139, hX130⟩ | ⟨hc139, hX130⟩
      ·refine WL.kn 38 (congrArg Value.bool hc139) ?_
       refine WL.run to 1 rfl ?_
       refine WL.valOn rfl rfl (Yl.loadV (g := g9) (off := 0) (o := 36) (cs := q1) (v := .int .i64 a0.Time) rfl Tryz.underlying3 rfl (Ctx.subI 1 C138 rfl) (at_skip 2 34 rfl (at_skip 32 2 (len_map ha1) rfl))) ?_
       refine WL.on rfl rfl ?_
       obtain ⟨r141, hg140, hX130⟩ := bindE hX130
       refine WL.callH (juratref21_in.calls k _ F a0.Time 0 1099511627776 C138.pre0  r141 hg140) (Yenter.fn Tryz.func49 (by kernel_rfl) rfl (argsE (.cons rfl (.cons rfl (.cons rfl .nil))))) ?_
       rintro e_ w_ ⟨rfl, ⟨m142, rfl⟩⟩
       refine ⟨_, rfl, ?_⟩
       have C143 := Ctx.drewN C138 m142
       refine WL.run to 2 rfl ?_
       rcases iteE hX130 with ⟨hc144, hX130⟩ | ⟨hc144, hX130⟩
       ·refine WL.kn 43 (congrArg Value.bool hc144) ?_
        refine WL.valOn rfl rfl (Yl.loadVA (g := g13) (off := 0) (o := 0) (cs := q7) (us := q7) rfl Tryz.underlying26 rfl (sz_of sz26 (len_app rfl (len_app (len_map ha1) rfl))) (Ctx.subI 0 C143 rfl) (take_all _)) ?_
        refine WL.on rfl rfl ?_
        obtain ⟨r146, hg145, hX130⟩ := bindE hX130
        refine WL.callH (juratref21_zero.calls k _ F A2 c3 n4 (⟨a0.Kind, a0.Epoch, a0.Nonce, a0.Data, 0, 0, a0.By⟩ : TRecord) (Ctx.pre (qs := []) (rest := [CH.row g13 0 q7, CH.row g9 0 q1]) C143) ha1 hn5 hl6 hm7 hS8 r146 hg145) (Yenter.fn Tryz.func53 (by kernel_rfl) rfl (argsE (.cons rfl .nil))) ?_
        rintro e_ w_ ⟨rfl, C147⟩
        refine ⟨_, rfl, ?_⟩
        have C148 : Ctx _ _ _ _ _ [CH.row g13 0 q7, CH.row g9 0 q1] := Ctx.call (qs := []) (rest := [CH.row g13 0 q7, CH.row g9 0 q1]) C143 C147
        refine WL.run to 2 rfl ?_
        refine WL.done ?_
        cases hX130
        refine thenE_n ?_
        exact ⟨rfl, C148⟩
       ·refine WL.kn 43 (congrArg Value.bool (Bool.eq_false_iff.2 hc144)) ?_
        refine WL.offs 2 43 true rfl rfl ?_
        refine WL.run to 2 rfl ?_
        refine WL.done ?_
        cases hX130
        refine thenE_n ?_
        exact ⟨rfl, C143⟩
      ·refine WL.kn 38 (congrArg Value.bool (Bool.eq_false_iff.2 hc139)) ?_
       refine WL.offs 3 38 true rfl rfl ?_
       refine WL.run to 2 rfl ?_
       refine WL.offs 2 43 true rfl rfl ?_
       refine WL.run to 2 rfl ?_
       refine WL.done ?_
       cases hX130
       refine thenE_n ?_
       exact ⟨rfl, C138⟩
     ·rintro env_ w_ ⟨ho127, C129⟩
      apply kn env_ (.c ho127 .n)
      refine W.ret ?_
      refine inB_r ?_
      refine thenE_r ?_
      have C149 : Ctx _ _ _ _ _ [] := Ctx.pick [] C129 rfl
      have e150 := Option.some.inj H
      subst e150
      exact post_r (resE1 rfl rfl) ⟨rfl, C149⟩
    ·refine W.condF (congrArg Value.bool (Bool.eq_false_iff.2 hc96)) ?_
     refine W.seq ?_
     refine W.region rfl ?_
     refine WL.run to 2 rfl ?_
     refine WL.done ?_
     rcases iteE H with ⟨hc151, H⟩ | ⟨hc151, H⟩
     ·refine W.condT (congrArg Value.bool (decide_eq_true hc151)) ?_
      refine W.seq ?_
      refine W.region rfl ?_
      refine WL.run to 1 rfl ?_
      obtain ⟨w152, hy153, C154⟩ := ev_put (P := Tryz.prog) (ps1 := []) (ps2 := [CH.row g9 0 q1]) (t := 3) [.int .i64 0] (.int .i64 0) C93 (Put.skip 2 33 rfl (Put.skip 32 1 (len_map ha1) (Put.lit 1 rfl))) rfl (ones_of rfl) sz3
      let q8 : List Go.Value := [.int .i64 a0.Kind, .int .i64 a0.Epoch] ++ (a0.Nonce.map (Value.int .u8) ++ [.slice A2 n4 c3, .int .i64 0, .int .i64 a0.Time, .int .i64 a0.By])
      have C155 : Ctx _ _ _ _ _ [CH.row g13 0 q8, CH.row g9 0 q1] := C154
      refine WL.skip (hy153 _ _ _ _ rfl rfl) ?_
      refine WL.done ?_
      refine W.seq ?_
      refine W.region rfl ?_
      refine WL.run to 1 rfl ?_
      obtain ⟨w156, hy157, C158⟩ := ev_put (P := Tryz.prog) (ps1 := []) (ps2 := [CH.row g9 0 q1]) (t := 3) [.int .i64 0] (.int .i64 0) C155 (Put.skip 2 35 rfl (Put.skip 32 3 (len_map ha1) (Put.lit 3 rfl))) rfl (ones_of rfl) sz3
      let q9 : List Go.Value := [.int .i64 a0.Kind, .int .i64 a0.Epoch] ++ (a0.Nonce.map (Value.int .u8) ++ [.slice A2 n4 c3, .int .i64 0, .int .i64 a0.Time, .int .i64 0])
      have C159 : Ctx _ _ _ _ _ [CH.row g13 0 q9, CH.row g9 0 q1] := C158
      refine WL.skip (hy157 _ _ _ _ rfl rfl) ?_
      refine WL.done ?_
      refine W.seq ?_
      refine W.region rfl ?_
      refine WL.run to 1 rfl ?_
      obtain ⟨w160, hy161, C162⟩ := ev_put (P := Tryz.prog) (ps1 := []) (ps2 := [CH.row g9 0 q1]) (t := 24) [.slice none 0 0] (.slice none 0 0) C159 (Put.skip 2 32 rfl (Put.skip 32 0 (len_map ha1) (Put.lit 0 rfl))) rfl (ones_of rfl) sz24
      let q10 : List Go.Value := [.int .i64 a0.Kind, .int .i64 a0.Epoch] ++ (a0.Nonce.map (Value.int .u8) ++ [.slice none 0 0, .int .i64 0, .int .i64 a0.Time, .int .i64 0])
      have C163 : Ctx _ _ _ _ _ [CH.row g13 0 q10, CH.row g9 0 q1] := C162
      refine WL.skip (hy161 _ _ _ _ rfl rfl) ?_
      refine WL.done ?_
      refine W.seq ?_
      obtain ⟨x188, hX190, H⟩ := bindE H
      refine W.cutM (fun env_ w_ => env_ 2 = .bool x188 ∧ Ctx w F D w_ F [CH.row g13 0 q10, CH.row g9 0 q1]) ?_ ?_
      ·refine W.region rfl ?_
       refine WL.run to 1 rfl ?_
       refine WL.val (Yl.loadV (g := g9) (off := 0) (o := 35) (cs := q1) (v := .int .i64 a0.Job) rfl Tryz.underlying3 rfl (Ctx.subI 1 C163 rfl) (at_skip 2 33 rfl (at_skip 32 1 (len_map ha1) rfl))) ?_
       obtain ⟨r196, hg195, hX190⟩ := bindE hX190
       refine WL.callH (juratref21_in.calls k _ F a0.Job 0 1099511627776 C163.pre0  r196 hg195) (Yenter.fn Tryz.func49 (by kernel_rfl) rfl (argsE (.cons rfl (.cons rfl (.cons rfl .nil))))) ?_
       rintro e_ w_ ⟨rfl, ⟨m197, rfl⟩⟩
       refine ⟨_, rfl, ?_⟩
       have C198 := Ctx.drewN C163 m197
       refine WL.run to 1 rfl ?_
       rcases iteE hX190 with ⟨hc199, hX190⟩ | ⟨hc199, hX190⟩
       ·refine WL.kn 55 (congrArg Value.bool hc199) ?_
        refine WL.run to 1 rfl ?_
        refine WL.valOn rfl rfl (Yl.loadV (g := g9) (off := 0) (o := 37) (cs := q1) (v := .int .i64 a0.By) rfl Tryz.underlying3 rfl (Ctx.subI 1 C198 rfl) (at_skip 2 35 rfl (at_skip 32 3 (len_map ha1) rfl))) ?_
        refine WL.on rfl rfl ?_
        obtain ⟨r201, hg200, hX190⟩ := bindE hX190
        refine WL.callH (juratref21_in.calls k _ F a0.By 0 1099511627776 C198.pre0  r201 hg200) (Yenter.fn Tryz.func49 (by kernel_rfl) rfl (argsE (.cons rfl (.cons rfl (.cons rfl .nil))))) ?_
        rintro e_ w_ ⟨rfl, ⟨m202, rfl⟩⟩
        refine ⟨_, rfl, ?_⟩
        have C203 := Ctx.drewN C198 m202
        refine WL.run to 2 rfl ?_
        rcases iteE hX190 with ⟨hc204, hX190⟩ | ⟨hc204, hX190⟩
        ·refine WL.kn 60 (congrArg Value.bool hc204) ?_
         refine WL.run to 1 rfl ?_
         refine WL.valOn rfl rfl (Yl.loadV (g := g9) (off := 0) (o := 34) (cs := q1) (v := .slice A2 n4 c3) rfl Tryz.underlying24 rfl (Ctx.subI 1 C203 rfl) (at_skip 2 32 rfl (at_skip 32 0 (len_map ha1) rfl))) ?_
         refine WL.valOn rfl rfl (Yl.lenN (A := A2) (l := n4) (q := c3) (n := (a0.Data.length : Int)) rfl Tryz.underlying24 (by omega)) ?_
         refine WL.run to 3 rfl ?_
         rcases iteE hX190 with ⟨hc205, hX190⟩ | ⟨hc205, hX190⟩
         ·refine WL.kn 66 (congrArg Value.bool (decide_eq_true hc205)) ?_
          refine WL.valOn rfl rfl (Yl.loadVA (g := g13) (off := 0) (o := 0) (cs := q10) (us := q10) rfl Tryz.underlying26 rfl (sz_of sz26 (len_app rfl (len_app (len_map ha1) rfl))) (Ctx.subI 0 C203 rfl) (take_all _)) ?_
          refine WL.on rfl rfl ?_
          obtain ⟨r207, hg206, hX190⟩ := bindE hX190
          refine WL.callH (juratref21_zero.calls k _ F none 0 0 (⟨a0.Kind, a0.Epoch, a0.Nonce, ([] : List Int), 0, a0.Time, 0⟩ : TRecord) (Ctx.pre (qs := []) (rest := [CH.row g13 0 q10, CH.row g9 0 q1]) C203) ha1 rfl (Nat.le_refl _) (Nat.zero_le _) (Sl.nil _ _ _ _) r207 hg206) (Yenter.fn Tryz.func53 (by kernel_rfl) rfl (argsE (.cons rfl .nil))) ?_
          rintro e_ w_ ⟨rfl, C208⟩
          refine ⟨_, rfl, ?_⟩
          have C209 : Ctx _ _ _ _ _ [CH.row g13 0 q10, CH.row g9 0 q1] := Ctx.call (qs := []) (rest := [CH.row g13 0 q10, CH.row g9 0 q1]) C203 C208
          refine WL.run to 2 rfl ?_
          refine WL.done ?_
          cases hX190
          refine thenE_n ?_
          exact ⟨rfl, C209⟩
         ·refine WL.kn 66 (congrArg Value.bool (decide_eq_false hc205)) ?_
          refine WL.offs 2 66 true rfl rfl ?_
          refine WL.run to 2 rfl ?_
          refine WL.done ?_
          cases hX190
          refine thenE_n ?_
          exact ⟨rfl, C203⟩
        ·refine WL.kn 60 (congrArg Value.bool (Bool.eq_false_iff.2 hc204)) ?_
         refine WL.offs 4 60 true rfl rfl ?_
         refine WL.run to 2 rfl ?_
         refine WL.offs 2 66 true rfl rfl ?_
         refine WL.run to 2 rfl ?_
         refine WL.done ?_
         cases hX190
         refine thenE_n ?_
         exact ⟨rfl, C203⟩
       ·refine WL.kn 55 (congrArg Value.bool (Bool.eq_false_iff.2 hc199)) ?_
        refine WL.offs 3 55 true rfl rfl ?_
        refine WL.run to 2 rfl ?_
        refine WL.offs 4 60 true rfl rfl ?_
        refine WL.run to 2 rfl ?_
        refine WL.offs 2 66 true rfl rfl ?_
        refine WL.run to 2 rfl ?_
        refine WL.done ?_
        cases hX190
        refine thenE_n ?_
        exact ⟨rfl, C198⟩
      ·rintro env_ w_ ⟨ho187, C189⟩
       apply kn env_ (.c ho187 .n)
       refine W.ret ?_
       refine inB_r ?_
       refine thenE_r ?_
       have C210 : Ctx _ _ _ _ _ [] := Ctx.pick [] C189 rfl
       have e211 := Option.some.inj H
       subst e211
       exact post_r (resE1 rfl rfl) ⟨rfl, C210⟩
     ·refine W.condF (congrArg Value.bool (decide_eq_false hc151)) ?_
      refine W.seq ?_
      refine W.region rfl ?_
      refine WL.run to 2 rfl ?_
      refine WL.done ?_
      rcases iteE H with ⟨hc212, H⟩ | ⟨hc212, H⟩
      ·refine W.condT (congrArg Value.bool (decide_eq_true hc212)) ?_
       refine W.seq ?_
       refine W.region rfl ?_
       refine WL.val (Yl.loadVA (g := g9) (off := 0) (o := 0) (cs := q1) (us := q1) rfl Tryz.underlying26 rfl (sz_of sz26 (len_app rfl (len_app (len_map ha1) rfl))) (Ctx.subI 1 C93 rfl) (take_all _)) ?_
       obtain ⟨r214, hg213, H⟩ := bindE H
       refine WL.callH (juratref21_zero.calls k _ F A2 c3 n4 a0 (Ctx.pre (qs := []) (rest := [CH.row g13 0 q1, CH.row g9 0 q1]) C93) ha1 hn5 hl6 hm7 hS8 r214 hg213) (Yenter.fn Tryz.func53 (by kernel_rfl) rfl (argsE (.cons rfl .nil))) ?_
       rintro e_ w_ ⟨rfl, C215⟩
       refine ⟨_, rfl, ?_⟩
       have C216 : Ctx _ _ _ _ _ [CH.row g13 0 q1, CH.row g9 0 q1] := Ctx.call (qs := []) (rest := [CH.row g13 0 q1, CH.row g9 0 q1]) C93 C215
       refine WL.run to 1 rfl ?_
       refine WL.done ?_
       refine W.ret ?_
       refine inB_r ?_
       refine thenE_r ?_
       have C217 : Ctx _ _ _ _ _ [] := Ctx.pick [] C216 rfl
       have e218 := Option.some.inj H
       subst e218
       exact post_r (resE1 rfl rfl) ⟨rfl, C217⟩
      ·refine W.condF (congrArg Value.bool (decide_eq_false hc212)) ?_
       refine W.skip ?_
       refine inB_n ?_
       refine W.seq ?_
       refine W.region rfl ?_
       refine WL.run to 1 rfl ?_
       refine WL.done ?_
       refine W.ret ?_
       have C219 : Ctx _ _ _ _ _ [] := Ctx.pick [] C93 rfl
       have e220 := Option.some.inj H
       subst e220
       exact post_r (resE1 rfl rfl) ⟨rfl, C219⟩
def juratref21_num.f (k : Nat) (a0 : Int) : Option (List Int) := (juratref04_Num.f k (wu64 a0)).bind fun r2 => some r2
set_option maxRecDepth 100000 in
set_option maxHeartbeats 4000000 in
theorem juratref21_num.calls (k : Nat) (w : World) (F : CH) (a0 : Int) (hp : Pre w F [])  (r0_ : List Int) (H : juratref21_num.f k a0 = some r0_) :
    Calls Tryz.prog 27 #[.int .i64 a0] w fun e w' => ∃ (A12 : Option Addr) (c13 : Nat) (n14 : Nat) (p16 : CH), e = .returned (.slice A12 n14 c13) ∧ Ctx w F (domL []) w' F [p16] ∧ n14 = r0_.length ∧ Row (Kd.int .u8) F p16 (.slice A12 n14 c13) r0_ := by
 have C := Ctx.start hp
 generalize hD : domL [] = D at C ⊢
 unfold juratref21_num.f at H
 refine Calls.ofW Tryz.func27 rfl (by simp [Tryz.ntmps27]) ?_
 refine W.seq ?_
 refine W.region rfl ?_
 refine WL.run to 1 rfl ?_
 refine WL.done ?_
 refine W.seq ?_
 refine W.region rfl ?_
 refine WL.run to 1 rfl ?_
 refine WL.val (Yl.conv (m := a0) (r := wu64 a0) rfl Tryz.underlying3 Tryz.underlying82 rfl) ?_
 obtain ⟨r2, hg1, H⟩ := bindE H
 refine WL.callH (juratref04_Num.calls k _ F (wu64 a0) (Ctx.pre (qs := []) (rest := []) C)  r2 hg1) (Yenter.fn Tryz.func54 (by kernel_rfl) rfl (argsE (.cons rfl .nil))) ?_
 rintro e_ w_ ⟨A3, c4, n5, p7, rfl, C9, hn6, hR8⟩
 refine ⟨_, rfl, ?_⟩
 have C10 : Ctx _ _ _ _ _ [p7] := Ctx.call (qs := []) (rest := []) C C9
 refine WL.run to 1 rfl ?_
 refine WL.done ?_
 refine W.ret ?_
 have e11 := Option.some.inj H
 subst e11
 exact post_r (resE1 rfl rfl) ⟨A3, c4, n5, p7, rfl, C10, hn6, hR8⟩
def juratref21_Encode.f (k : Nat) (a0 : TRecord) : Option ((List Int) × Int) := (juratref21_May.f k a0).bind fun r14 => if r14 = true then ((juratref21_num.f k a0.Kind).bind fun r19 => (juratref21_num.f k a0.Epoch).bind fun r29 => if (r19.length + r29.length + (r19.length + r29.length) / 4 + 192) * 1 ≤ 281474976710656 then ((juratref03_Bytes.f k a0.Nonce).bind fun r50 => if ((r19 ++ r29).length + r50.length + ((r19 ++ r29).length + r50.length) / 4 + 192) * 1 ≤ 281474976710656 then ((juratref04_Text.f k a0.Data).bind fun r71 => if (((r19 ++ r29) ++ r50).length + r71.length + (((r19 ++ r29) ++ r50).length + r71.length) / 4 + 192) * 1 ≤ 281474976710656 then ((juratref21_num.f k a0.Job).bind fun r92 => if ((((r19 ++ r29) ++ r50) ++ r71).length + r92.length + ((((r19 ++ r29) ++ r50) ++ r71).length + r92.length) / 4 + 192) * 1 ≤ 281474976710656 then ((juratref21_num.f k a0.Time).bind fun r113 => if (((((r19 ++ r29) ++ r50) ++ r71) ++ r92).length + r113.length + (((((r19 ++ r29) ++ r50) ++ r71) ++ r92).length + r113.length) / 4 + 192) * 1 ≤ 281474976710656 then ((juratref21_num.f k a0.By).bind fun r134 => if ((((((r19 ++ r29) ++ r50) ++ r71) ++ r92) ++ r113).length + r134.length + ((((((r19 ++ r29) ++ r50) ++ r71) ++ r92) ++ r113).length + r134.length) / 4 + 192) * 1 ≤ 281474976710656 then (some ((((((r19 ++ r29) ++ r50) ++ r71) ++ r92) ++ r113) ++ r134, 0)) else none) else none) else none) else none) else none) else none) else (some (([] : List Int), 1))
set_option maxRecDepth 100000 in
set_option maxHeartbeats 4000000 in
theorem juratref21_Encode.calls (k : Nat) (w : World) (F : CH) (A2 : Option Addr) (c3 : Nat) (n4 : Nat) (a0 : TRecord) (hp : Pre w F []) (ha1 : a0.Nonce.length = 32) (hn5 : n4 = a0.Data.length) (hl6 : a0.Data.length ≤ c3) (hm7 : c3 ≤ maxLen) (hS8 : Sl (Kd.int .u8) F F A2 a0.Data) (r0_ : List Int) (r1_ : Int) (H : juratref21_Encode.f k a0 = some (r0_, r1_)) :
    Calls Tryz.prog 8 #[.agg (List.toArray ([.int .i64 a0.Kind, .int .i64 a0.Epoch] ++ (a0.Nonce.map (Value.int .u8) ++ [.slice A2 n4 c3, .int .i64 a0.Job, .int .i64 a0.Time, .int .i64 a0.By])))] w fun e w' => ∃ (A160 : Option Addr) (c161 : Nat) (n162 : Nat) (p164 : CH), e = .returned (.tuple #[(.slice A160 n162 c161), (.int .i64 r1_)]) ∧ Ctx w F (domL []) w' F [p164] ∧ n162 = r0_.length ∧ Row (Kd.int .u8) F p164 (.slice A160 n162 c161) r0_ := by
 have C := Ctx.start hp
 generalize hD : domL [] = D at C ⊢
 unfold juratref21_Encode.f at H
 refine Calls.ofW Tryz.func8 rfl (by simp [Tryz.ntmps8]) ?_
 refine W.seq ?_
 refine W.region rfl ?_
 let q1 : List Go.Value := [.int .i64 a0.Kind, .int .i64 a0.Epoch] ++ (a0.Nonce.map (Value.int .u8) ++ [.slice A2 n4 c3, .int .i64 a0.Job, .int .i64 a0.Time, .int .i64 a0.By])
 obtain ⟨g9, w10, hy11, C12⟩ := ev_box (P := Tryz.prog) 26 (.agg (List.toArray q1)) q1 C rfl
 refine WL.val (hy11 _ _ _ rfl) ?_
 refine WL.run to 2 rfl ?_
 refine WL.done ?_
 refine W.seq ?_
 refine W.seq ?_
 refine W.region rfl ?_
 refine WL.val (Yl.loadVA (g := g9) (off := 0) (o := 0) (cs := q1) (us := q1) rfl Tryz.underlying26 rfl (sz_of sz26 (len_app rfl (len_app (len_map ha1) rfl))) (Ctx.subI 0 C12 rfl) (take_all _)) ?_
 obtain ⟨r14, hg13, H⟩ := bindE H
 refine WL.callH (juratref21_May.calls k _ F A2 c3 n4 a0 (Ctx.pre (qs := []) (rest := [CH.row g9 0 q1]) C12) ha1 hn5 hl6 hm7 hS8 r14 hg13) (Yenter.fn Tryz.func26 (by kernel_rfl) rfl (argsE (.cons rfl .nil))) ?_
 rintro e_ w_ ⟨rfl, C15⟩
 refine ⟨_, rfl, ?_⟩
 have C16 : Ctx _ _ _ _ _ [CH.row g9 0 q1] := Ctx.call (qs := []) (rest := [CH.row g9 0 q1]) C12 C15
 refine WL.run to 1 rfl ?_
 refine WL.done ?_
 rcases iteE H with ⟨hc17, H⟩ | ⟨hc17, H⟩
 ·refine W.condF (congrArg Value.bool (nb_t hc17)) ?_
  refine W.skip ?_
  refine W.seq ?_
  refine W.region rfl ?_
  refine WL.run to 1 rfl ?_
  refine WL.val (Yl.loadV (g := g9) (off := 0) (o := 0) (cs := q1) (v := .int .i64 a0.Kind) rfl Tryz.underlying3 rfl (Ctx.subI 0 C16 rfl) rfl) ?_
  obtain ⟨r19, hg18, H⟩ := bindE H
  refine WL.callH (juratref21_num.calls k _ F a0.Kind (Ctx.pre (qs := []) (rest := [CH.row g9 0 q1]) C16)  r19 hg18) (Yenter.fn Tryz.func27 (by kernel_rfl) rfl (argsE (.cons rfl .nil))) ?_
  rintro e_ w_ ⟨A20, c21, n22, p24, rfl, C26, hn23, hR25⟩
  refine ⟨_, rfl, ?_⟩
  have C27 : Ctx _ _ _ _ _ [p24, CH.row g9 0 q1] := Ctx.call (qs := []) (rest := [CH.row g9 0 q1]) C16 C26
  refine WL.run to 1 rfl ?_
  refine WL.done ?_
  refine W.seq ?_
  refine W.region rfl ?_
  refine WL.run to 2 rfl ?_
  refine WL.val (Yl.loadV (g := g9) (off := 0) (o := 1) (cs := q1) (v := .int .i64 a0.Epoch) rfl Tryz.underlying3 rfl (Ctx.subI 1 C27 rfl) rfl) ?_
  obtain ⟨r29, hg28, H⟩ := bindE H
  refine WL.callH (juratref21_num.calls k _ F a0.Epoch (Ctx.pre (qs := []) (rest := [p24, CH.row g9 0 q1]) C27)  r29 hg28) (Yenter.fn Tryz.func27 (by kernel_rfl) rfl (argsE (.cons rfl .nil))) ?_
  rintro e_ w_ ⟨A30, c31, n32, p34, rfl, C36, hn33, hR35⟩
  refine ⟨_, rfl, ?_⟩
  have C37 : Ctx _ _ _ _ _ [p34, p24, CH.row g9 0 q1] := Ctx.call (qs := []) (rest := [p24, CH.row g9 0 q1]) C27 C36
  obtain ⟨hc38, H⟩ := guardE H
  obtain ⟨A39, c40, n41, p42, w43, hn44, hy45, C46, hR47⟩ := ev_append' (P := Tryz.prog) (cb := c31) 5 (Kd.int .u8) [p34] [CH.row g9 0 q1] C37 hR25 hn33 (Row.sl hR35) (Ctx.subI 0 C37 rfl) Tryz.underlying24 ti5 rfl zo5 (by decide) (by decide) (by simpa using hc38)
  have C48 : Ctx _ _ _ _ _ [p34, p42, CH.row g9 0 q1] := C46
  refine WL.val (hy45 _ _ _ _ rfl rfl) ?_
  refine WL.run to 1 rfl ?_
  refine WL.done ?_
  refine W.seq ?_
  refine W.region rfl ?_
  refine WL.run to 2 rfl ?_
  refine WL.val (Yl.loadVA (g := g9) (off := 0) (o := 2) (cs := q1) (us := a0.Nonce.map (Value.int .u8)) rfl Tryz.underlying23 rfl (sz_of sz23 (len_map ha1)) (Ctx.subI 2 C48 rfl) (mid_skip 2 0 rfl (mid_here rfl))) ?_
  obtain ⟨r50, hg49, H⟩ := bindE H
  refine WL.callH (juratref03_Bytes.calls k _ F a0.Nonce (Ctx.pre (qs := []) (rest := [p34, p42, CH.row g9 0 q1]) C48) ha1 r50 hg49) (Yenter.fn Tryz.func28 (by kernel_rfl) rfl (argsE (.cons rfl .nil))) ?_
  rintro e_ w_ ⟨A51, c52, n53, p55, rfl, C57, hn54, hR56⟩
  refine ⟨_, rfl, ?_⟩
  have C58 : Ctx _ _ _ _ _ [p55, p34, p42, CH.row g9 0 q1] := Ctx.call (qs := []) (rest := [p34, p42, CH.row g9 0 q1]) C48 C57
  obtain ⟨hc59, H⟩ := guardE H
  obtain ⟨A60, c61, n62, p63, w64, hn65, hy66, C67, hR68⟩ := ev_append' (P := Tryz.prog) (cb := c52) 5 (Kd.int .u8) [p55, p34] [CH.row g9 0 q1] C58 hR47 hn54 (Row.sl hR56) (Ctx.subI 0 C58 rfl) Tryz.underlying24 ti5 rfl zo5 (by decide) (by decide) (by simpa using hc59)
  have C69 : Ctx _ _ _ _ _ [p55, p34, p63, CH.row g9 0 q1] := C67
  refine WL.val (hy66 _ _ _ _ rfl rfl) ?_
  refine WL.run to 1 rfl ?_
  refine WL.done ?_
  refine W.seq ?_
  refine W.region rfl ?_
  refine WL.run to 2 rfl ?_
  refine WL.val (Yl.loadV (g := g9) (off := 0) (o := 34) (cs := q1) (v := .slice A2 n4 c3) rfl Tryz.underlying24 rfl (Ctx.subI 3 C69 rfl) (at_skip 2 32 rfl (at_skip 32 0 (len_map ha1) rfl))) ?_
  obtain ⟨r71, hg70, H⟩ := bindE H
  refine WL.callH (juratref04_Text.calls k _ F A2 c3 n4 a0.Data (Ctx.pre (qs := []) (rest := [p55, p34, p63, CH.row g9 0 q1]) C69) hn5 hl6 hm7 hS8 r71 hg70) (Yenter.fn Tryz.func29 (by kernel_rfl) rfl (argsE (.cons rfl .nil))) ?_
  rintro e_ w_ ⟨A72, c73, n74, p76, rfl, C78, hn75, hR77⟩
  refine ⟨_, rfl, ?_⟩
  have C79 : Ctx _ _ _ _ _ [p76, p55, p34, p63, CH.row g9 0 q1] := Ctx.call (qs := []) (rest := [p55, p34, p63, CH.row g9 0 q1]) C69 C78
  obtain ⟨hc80, H⟩ := guardE H
  obtain ⟨A81, c82, n83, p84, w85, hn86, hy87, C88, hR89⟩ := ev_append' (P := Tryz.prog) (cb := c73) 5 (Kd.int .u8) [p76, p55, p34] [CH.row g9 0 q1] C79 hR68 hn75 (Row.sl hR77) (Ctx.subI 0 C79 rfl) Tryz.underlying24 ti5 rfl zo5 (by decide) (by decide) (by simpa using hc80)
  have C90 : Ctx _ _ _ _ _ [p76, p55, p34, p84, CH.row g9 0 q1] := C88
  refine WL.val (hy87 _ _ _ _ rfl rfl) ?_
  refine WL.run to 1 rfl ?_
  refine WL.done ?_
  refine W.seq ?_
  refine W.region rfl ?_
  refine WL.run to 2 rfl ?_
  refine WL.val (Yl.loadV (g := g9) (off := 0) (o := 35) (cs := q1) (v := .int .i64 a0.Job) rfl Tryz.underlying3 rfl (Ctx.subI 4 C90 rfl) (at_skip 2 33 rfl (at_skip 32 1 (len_map ha1) rfl))) ?_
  obtain ⟨r92, hg91, H⟩ := bindE H
  refine WL.callH (juratref21_num.calls k _ F a0.Job (Ctx.pre (qs := []) (rest := [p76, p55, p34, p84, CH.row g9 0 q1]) C90)  r92 hg91) (Yenter.fn Tryz.func27 (by kernel_rfl) rfl (argsE (.cons rfl .nil))) ?_
  rintro e_ w_ ⟨A93, c94, n95, p97, rfl, C99, hn96, hR98⟩
  refine ⟨_, rfl, ?_⟩
  have C100 : Ctx _ _ _ _ _ [p97, p76, p55, p34, p84, CH.row g9 0 q1] := Ctx.call (qs := []) (rest := [p76, p55, p34, p84, CH.row g9 0 q1]) C90 C99
  obtain ⟨hc101, H⟩ := guardE H
  obtain ⟨A102, c103, n104, p105, w106, hn107, hy108, C109, hR110⟩ := ev_append' (P := Tryz.prog) (cb := c94) 5 (Kd.int .u8) [p97, p76, p55, p34] [CH.row g9 0 q1] C100 hR89 hn96 (Row.sl hR98) (Ctx.subI 0 C100 rfl) Tryz.underlying24 ti5 rfl zo5 (by decide) (by decide) (by simpa using hc101)
  have C111 : Ctx _ _ _ _ _ [p97, p76, p55, p34, p105, CH.row g9 0 q1] := C109
  refine WL.val (hy108 _ _ _ _ rfl rfl) ?_
  refine WL.run to 1 rfl ?_
  refine WL.done ?_
  refine W.seq ?_
  refine W.region rfl ?_
  refine WL.run to 2 rfl ?_
  refine WL.val (Yl.loadV (g := g9) (off := 0) (o := 36) (cs := q1) (v := .int .i64 a0.Time) rfl Tryz.underlying3 rfl (Ctx.subI 5 C111 rfl) (at_skip 2 34 rfl (at_skip 32 2 (len_map ha1) rfl))) ?_
  obtain ⟨r113, hg112, H⟩ := bindE H
  refine WL.callH (juratref21_num.calls k _ F a0.Time (Ctx.pre (qs := []) (rest := [p97, p76, p55, p34, p105, CH.row g9 0 q1]) C111)  r113 hg112) (Yenter.fn Tryz.func27 (by kernel_rfl) rfl (argsE (.cons rfl .nil))) ?_
  rintro e_ w_ ⟨A114, c115, n116, p118, rfl, C120, hn117, hR119⟩
  refine ⟨_, rfl, ?_⟩
  have C121 : Ctx _ _ _ _ _ [p118, p97, p76, p55, p34, p105, CH.row g9 0 q1] := Ctx.call (qs := []) (rest := [p97, p76, p55, p34, p105, CH.row g9 0 q1]) C111 C120
  obtain ⟨hc122, H⟩ := guardE H
  obtain ⟨A123, c124, n125, p126, w127, hn128, hy129, C130, hR131⟩ := ev_append' (P := Tryz.prog) (cb := c115) 5 (Kd.int .u8) [p118, p97, p76, p55, p34] [CH.row g9 0 q1] C121 hR110 hn117 (Row.sl hR119) (Ctx.subI 0 C121 rfl) Tryz.underlying24 ti5 rfl zo5 (by decide) (by decide) (by simpa using hc122)
  have C132 : Ctx _ _ _ _ _ [p118, p97, p76, p55, p34, p126, CH.row g9 0 q1] := C130
  refine WL.val (hy129 _ _ _ _ rfl rfl) ?_
  refine WL.run to 1 rfl ?_
  refine WL.done ?_
  refine W.seq ?_
  refine W.region rfl ?_
  refine WL.run to 2 rfl ?_
  refine WL.val (Yl.loadV (g := g9) (off := 0) (o := 37) (cs := q1) (v := .int .i64 a0.By) rfl Tryz.underlying3 rfl (Ctx.subI 6 C132 rfl) (at_skip 2 35 rfl (at_skip 32 3 (len_map ha1) rfl))) ?_
  obtain ⟨r134, hg133, H⟩ := bindE H
  refine WL.callH (juratref21_num.calls k _ F a0.By (Ctx.pre (qs := []) (rest := [p118, p97, p76, p55, p34, p126, CH.row g9 0 q1]) C132)  r134 hg133) (Yenter.fn Tryz.func27 (by kernel_rfl) rfl (argsE (.cons rfl .nil))) ?_
  rintro e_ w_ ⟨A135, c136, n137, p139, rfl, C141, hn138, hR140⟩
  refine ⟨_, rfl, ?_⟩
  have C142 : Ctx _ _ _ _ _ [p139, p118, p97, p76, p55, p34, p126, CH.row g9 0 q1] := Ctx.call (qs := []) (rest := [p118, p97, p76, p55, p34, p126, CH.row g9 0 q1]) C132 C141
  obtain ⟨hc143, H⟩ := guardE H
  obtain ⟨A144, c145, n146, p147, w148, hn149, hy150, C151, hR152⟩ := ev_append' (P := Tryz.prog) (cb := c136) 5 (Kd.int .u8) [p139, p118, p97, p76, p55, p34] [CH.row g9 0 q1] C142 hR131 hn138 (Row.sl hR140) (Ctx.subI 0 C142 rfl) Tryz.underlying24 ti5 rfl zo5 (by decide) (by decide) (by simpa using hc143)
  have C153 : Ctx _ _ _ _ _ [p139, p118, p97, p76, p55, p34, p147, CH.row g9 0 q1] := C151
  refine WL.val (hy150 _ _ _ _ rfl rfl) ?_
  refine WL.run to 2 rfl ?_
  refine WL.done ?_
  refine W.ret ?_
  have C154 : Ctx _ _ _ _ _ [p147] := Ctx.pick [6] C153 rfl
  simp only [Option.some.injEq, Prod.mk.injEq] at H
  obtain ⟨e155, e156⟩ := H
  subst e155 e156
  exact post_r (resE2 rfl rfl rfl) ⟨A144, c145, n146, p147, rfl, C154, hn149, hR152⟩
 ·refine W.condT (congrArg Value.bool (nb_f hc17)) ?_
  refine W.seq ?_
  refine W.region rfl ?_
  refine WL.run to 2 rfl ?_
  refine WL.done ?_
  refine W.ret ?_
  refine thenE_r ?_
  have C157 : Ctx _ _ _ _ _ [CH.emp] := Ctx.pick [1] C16 rfl
  simp only [Option.some.injEq, Prod.mk.injEq] at H
  obtain ⟨e158, e159⟩ := H
  subst e158 e159
  exact post_r (resE2 rfl rfl rfl) ⟨none, 0, 0, CH.emp, rfl, C157, rfl, (Row.nil _ _)⟩
def juratref21_Decode.f (k : Nat) (a0 : List Int) : Option (TRecord × Int) := (juratref04_Reader_Num.f k (⟨a0, 0⟩ : TReader_) 1099511627776).bind fun ⟨r22, r23⟩ => (juratref04_Reader_Num.f k r23 1099511627776).bind fun ⟨r38, r39⟩ => (juratref04_Reader_Digest.f k r39).bind fun ⟨r54, r55⟩ => (juratref04_Reader_Text.f k r55 64).bind fun ⟨r71, r72⟩ => (juratref04_Reader_Num.f k r72 1099511627776).bind fun ⟨r93, r94⟩ => (juratref04_Reader_Num.f k r94 1099511627776).bind fun ⟨r109, r110⟩ => (juratref04_Reader_Num.f k r110 1099511627776).bind fun ⟨r125, r126⟩ => (juratref04_Reader_End.f k r126).bind fun ⟨r141, r142⟩ => if r141 = 0 then ((juratref21_May.f k (⟨wi64 r22, wi64 r38, r54, r71, wi64 r93, wi64 r109, wi64 r125⟩ : TRecord)).bind fun r158 => if r158 = true then (some ((⟨wi64 r22, wi64 r38, r54, r71, wi64 r93, wi64 r109, wi64 r125⟩ : TRecord), 0)) else (some ((⟨0, 0, (List.replicate 32 (0 : Int)), ([] : List Int), 0, 0, 0⟩ : TRecord), 41))) else (some ((⟨0, 0, (List.replicate 32 (0 : Int)), ([] : List Int), 0, 0, 0⟩ : TRecord), r141))
set_option maxRecDepth 100000 in
set_option maxHeartbeats 4000000 in
theorem juratref21_Decode.calls (k : Nat) (w : World) (F : CH) (A1 : Option Addr) (c2 : Nat) (n3 : Nat) (a0 : List Int) (hp : Pre w F []) (hn4 : n3 = a0.length) (hl5 : a0.length ≤ c2) (hm6 : c2 ≤ maxLen) (hS7 : Sl (Kd.int .u8) F F A1 a0) (r0_ : TRecord) (r1_ : Int) (H : juratref21_Decode.f k a0 = some (r0_, r1_)) :
    Calls Tryz.prog 10 #[.slice A1 n3 c2] w fun e w' => ∃ (A184 : Option Addr) (c185 : Nat) (n186 : Nat) (p188 : CH), e = .returned (.tuple #[(.agg (List.toArray ([.int .i64 r0_.Kind, .int .i64 r0_.Epoch] ++ (r0_.Nonce.map (Value.int .u8) ++ [.slice A184 n186 c185, .int .i64 r0_.Job, .int .i64 r0_.Time, .int .i64 r0_.By])))), (.int .i64 r1_)]) ∧ Ctx w F (domL []) w' F [p188] ∧ r0_.Nonce.length = 32 ∧ n186 = r0_.Data.length ∧ Row (Kd.int .u8) F p188 (.slice A184 n186 c185) r0_.Data := by
 have C := Ctx.start hp
 generalize hD : domL [] = D at C ⊢
 unfold juratref21_Decode.f at H
 refine Calls.ofW Tryz.func10 rfl (by simp [Tryz.ntmps10]) ?_
 refine W.seq ?_
 refine W.region rfl ?_
 let q1 : List Go.Value := [.int .i64 0, .int .i64 0] ++ ((List.replicate 32 (0 : Int)).map (Value.int .u8) ++ [.slice none 0 0, .int .i64 0, .int .i64 0, .int .i64 0])
 obtain ⟨g8, w9, hy10, C11⟩ := ev_alloc (P := Tryz.prog) (e := 26) q1 C zr26 rfl
 refine WL.val (hy10 _ _) ?_
 refine WL.run to 1 rfl ?_
 refine WL.done ?_
 refine W.seq ?_
 refine W.region rfl ?_
 refine WL.run to 1 rfl ?_
 refine WL.val (Yl.build (places := [(0, 1), (1, 1)]) (cs := List.toArray [.slice A1 n3 c2, .int .i64 0]) Tryz.underlying81 zr81 (pl81 _ Tryz.underlying81) (partsB (.cons rfl .nil)) rfl) ?_
 obtain ⟨g12, w13, hy14, C15⟩ := ev_box (P := Tryz.prog) 81 (.agg (List.toArray [.slice A1 n3 c2, .int .i64 0])) [.slice A1 n3 c2, .int .i64 0] C11 rfl
 refine WL.val (hy14 _ _ _ rfl) ?_
 refine WL.run to 1 rfl ?_
 refine WL.done ?_
 refine W.seq ?_
 refine W.region rfl ?_
 obtain ⟨g16, w17, hy18, C19⟩ := ev_alloc (P := Tryz.prog) (e := 26) q1 C15 zr26 rfl
 refine WL.val (hy18 _ _) ?_
 refine WL.done ?_
 refine W.seq ?_
 refine W.region rfl ?_
 refine WL.run to 1 rfl ?_
 let v2 : CH := CH.row g12 0 [.slice A1 n3 c2, .int .i64 0]
 have C20 : Ctx _ _ _ _ _ [v2, CH.row g16 0 q1, CH.row g8 0 q1] := Ctx.pick [1, 0, 2] C19 rfl
 obtain ⟨⟨r22, r23⟩, hg21, H⟩ := bindE H
 refine WL.callH (juratref04_Reader_Num.calls k _ F g12 0 A1 c2 n3 (⟨a0, 0⟩ : TReader_) 1099511627776 (Ctx.pre (qs := [v2]) (rest := [CH.row g16 0 q1, CH.row g8 0 q1]) C20) hn4 hl5 hm6 hS7 r22 r23 hg21) (Yenter.fn Tryz.func35 (by kernel_rfl) rfl (argsE (.cons rfl (.cons rfl .nil)))) ?_
 rintro e_ w_ ⟨A24, c25, n26, rfl, C31, hn27, hl28, hm29, hS30⟩
 refine ⟨_, rfl, ?_⟩
 let v3 : CH := CH.row g12 0 [.slice A24 n26 c25, .int .i64 r23.E]
 have C32 : Ctx _ _ _ _ _ [v3, CH.row g16 0 q1, CH.row g8 0 q1] := Ctx.call (qs := [v2]) (rest := [CH.row g16 0 q1, CH.row g8 0 q1]) C20 C31
 refine WL.val (Yl.conv (m := r22) (r := wi64 r22) rfl Tryz.underlying82 Tryz.underlying3 rfl) ?_
 refine WL.run to 1 rfl ?_
 obtain ⟨w33, hy34, C35⟩ := ev_put (P := Tryz.prog) (ps1 := [v3]) (ps2 := [CH.row g8 0 q1]) (t := 3) [.int .i64 (wi64 r22)] (.int .i64 (wi64 r22)) C32 (Put.left (Put.lit 0 rfl)) rfl (ones_of rfl) sz3
 let q4 : List Go.Value := [.int .i64 (wi64 r22), .int .i64 0] ++ ((List.replicate 32 (0 : Int)).map (Value.int .u8) ++ [.slice none 0 0, .int .i64 0, .int .i64 0, .int .i64 0])
 have C36 : Ctx _ _ _ _ _ [v3, CH.row g16 0 q4, CH.row g8 0 q1] := C35
 refine WL.skip (hy34 _ _ _ _ rfl rfl) ?_
 refine WL.done ?_
 refine W.seq ?_
 refine W.region rfl ?_
 refine WL.run to 1 rfl ?_
 obtain ⟨⟨r38, r39⟩, hg37, H⟩ := bindE H
 refine WL.callH (juratref04_Reader_Num.calls k _ F g12 0 A24 c25 n26 r23 1099511627776 (Ctx.pre (qs := [v3]) (rest := [CH.row g16 0 q4, CH.row g8 0 q1]) C36) hn27 hl28 hm29 hS30 r38 r39 hg37) (Yenter.fn Tryz.func35 (by kernel_rfl) rfl (argsE (.cons rfl (.cons rfl .nil)))) ?_
 rintro e_ w_ ⟨A40, c41, n42, rfl, C47, hn43, hl44, hm45, hS46⟩
 refine ⟨_, rfl, ?_⟩
 let v5 : CH := CH.row g12 0 [.slice A40 n42 c41, .int .i64 r39.E]
 have C48 : Ctx _ _ _ _ _ [v5, CH.row g16 0 q4, CH.row g8 0 q1] := Ctx.call (qs := [v3]) (rest := [CH.row g16 0 q4, CH.row g8 0 q1]) C36 C47
 refine WL.val (Yl.conv (m := r38) (r := wi64 r38) rfl Tryz.underlying82 Tryz.underlying3 rfl) ?_
 refine WL.run to 1 rfl ?_
 obtain ⟨w49, hy50, C51⟩ := ev_put (P := Tryz.prog) (ps1 := [v5]) (ps2 := [CH.row g8 0 q1]) (t := 3) [.int .i64 (wi64 r38)] (.int .i64 (wi64 r38)) C48 (Put.left (Put.lit 1 rfl)) rfl (ones_of rfl) sz3
 let q6 : List Go.Value := [.int .i64 (wi64 r22), .int .i64 (wi64 r38)] ++ ((List.replicate 32 (0 : Int)).map (Value.int .u8) ++ [.slice none 0 0, .int .i64 0, .int .i64 0, .int .i64 0])
 have C52 : Ctx _ _ _ _ _ [v5, CH.row g16 0 q6, CH.row g8 0 q1] := C51
 refine WL.skip (hy50 _ _ _ _ rfl rfl) ?_
 refine WL.done ?_
 refine W.seq ?_
 refine W.region rfl ?_
 refine WL.run to 1 rfl ?_
 obtain ⟨⟨r54, r55⟩, hg53, H⟩ := bindE H
 refine WL.callH (juratref04_Reader_Digest.calls k _ F g12 0 A40 c41 n42 r39 (Ctx.pre (qs := [v5]) (rest := [CH.row g16 0 q6, CH.row g8 0 q1]) C52) hn43 hl44 hm45 hS46 r54 r55 hg53) (Yenter.fn Tryz.func36 (by kernel_rfl) rfl (argsE (.cons rfl .nil))) ?_
 rintro e_ w_ ⟨A57, c58, n59, rfl, C64, ha56, hn60, hl61, hm62, hS63⟩
 refine ⟨_, rfl, ?_⟩
 let v7 : CH := CH.row g12 0 [.slice A57 n59 c58, .int .i64 r55.E]
 have C65 : Ctx _ _ _ _ _ [v7, CH.row g16 0 q6, CH.row g8 0 q1] := Ctx.call (qs := [v5]) (rest := [CH.row g16 0 q6, CH.row g8 0 q1]) C52 C64
 refine WL.run to 1 rfl ?_
 obtain ⟨w66, hy67, C68⟩ := ev_put (P := Tryz.prog) (ps1 := [v7]) (ps2 := [CH.row g8 0 q1]) (t := 23) (r54.map (Value.int .u8)) (.agg (List.toArray (r54.map (Value.int .u8)))) C65 (Put.skip 2 0 rfl (Put.here 32 (len_map (List.length_replicate ..)) (len_map ha56))) rfl (one_ints _ _) (sz_of sz23 (len_map ha56))
 let q8 : List Go.Value := [.int .i64 (wi64 r22), .int .i64 (wi64 r38)] ++ (r54.map (Value.int .u8) ++ [.slice none 0 0, .int .i64 0, .int .i64 0, .int .i64 0])
 have C69 : Ctx _ _ _ _ _ [v7, CH.row g16 0 q8, CH.row g8 0 q1] := C68
 refine WL.skip (hy67 _ _ _ _ rfl rfl) ?_
 refine WL.done ?_
 refine W.seq ?_
 refine W.region rfl ?_
 refine WL.run to 1 rfl ?_
 obtain ⟨⟨r71, r72⟩, hg70, H⟩ := bindE H
 refine WL.callH (juratref04_Reader_Text.calls k _ F g12 0 A57 c58 n59 r55 64 (Ctx.pre (qs := [v7]) (rest := [CH.row g16 0 q8, CH.row g8 0 q1]) C69) hn60 hl61 hm62 hS63 r71 r72 hg70) (Yenter.fn Tryz.func37 (by kernel_rfl) rfl (argsE (.cons rfl (.cons rfl .nil)))) ?_
 rintro e_ w_ ⟨A73, c74, n75, p77, A79, c80, n81, rfl, C86, hn76, hR78, hn82, hl83, hm84, hS85⟩
 refine ⟨_, rfl, ?_⟩
 let v9 : CH := CH.row g12 0 [.slice A79 n81 c80, .int .i64 r72.E]
 have C87 : Ctx _ _ _ _ _ [v9, p77, CH.row g16 0 q8, CH.row g8 0 q1] := Ctx.call (qs := [v7]) (rest := [CH.row g16 0 q8, CH.row g8 0 q1]) C69 C86
 refine WL.run to 1 rfl ?_
 obtain ⟨w88, hy89, C90⟩ := ev_put (P := Tryz.prog) (ps1 := [v9, p77]) (ps2 := [CH.row g8 0 q1]) (t := 24) [.slice A73 n75 c74] (.slice A73 n75 c74) C87 (Put.skip 2 32 rfl (Put.skip 32 0 (len_map ha56) (Put.lit 0 rfl))) rfl (ones_of rfl) sz24
 let q10 : List Go.Value := [.int .i64 (wi64 r22), .int .i64 (wi64 r38)] ++ (r54.map (Value.int .u8) ++ [.slice A73 n75 c74, .int .i64 0, .int .i64 0, .int .i64 0])
 have C91 : Ctx _ _ _ _ _ [v9, p77, CH.row g16 0 q10, CH.row g8 0 q1] := C90
 refine WL.skip (hy89 _ _ _ _ rfl rfl) ?_
 refine WL.done ?_
 refine W.seq ?_
 refine W.region rfl ?_
 refine WL.run to 1 rfl ?_
 obtain ⟨⟨r93, r94⟩, hg92, H⟩ := bindE H
 refine WL.callH (juratref04_Reader_Num.calls k _ F g12 0 A79 c80 n81 r72 1099511627776 (Ctx.pre (qs := [v9]) (rest := [p77, CH.row g16 0 q10, CH.row g8 0 q1]) C91) hn82 hl83 hm84 hS85 r93 r94 hg92) (Yenter.fn Tryz.func35 (by kernel_rfl) rfl (argsE (.cons rfl (.cons rfl .nil)))) ?_
 rintro e_ w_ ⟨A95, c96, n97, rfl, C102, hn98, hl99, hm100, hS101⟩
 refine ⟨_, rfl, ?_⟩
 let v11 : CH := CH.row g12 0 [.slice A95 n97 c96, .int .i64 r94.E]
 have C103 : Ctx _ _ _ _ _ [v11, p77, CH.row g16 0 q10, CH.row g8 0 q1] := Ctx.call (qs := [v9]) (rest := [p77, CH.row g16 0 q10, CH.row g8 0 q1]) C91 C102
 refine WL.val (Yl.conv (m := r93) (r := wi64 r93) rfl Tryz.underlying82 Tryz.underlying3 rfl) ?_
 refine WL.run to 1 rfl ?_
 obtain ⟨w104, hy105, C106⟩ := ev_put (P := Tryz.prog) (ps1 := [v11, p77]) (ps2 := [CH.row g8 0 q1]) (t := 3) [.int .i64 (wi64 r93)] (.int .i64 (wi64 r93)) C103 (Put.skip 2 33 rfl (Put.skip 32 1 (len_map ha56) (Put.lit 1 rfl))) rfl (ones_of rfl) sz3
 let q12 : List Go.Value := [.int .i64 (wi64 r22), .int .i64 (wi64 r38)] ++ (r54.map (Value.int .u8) ++ [.slice A73 n75 c74, .int .i64 (wi64 r93), .int .i64 0, .int .i64 0])
 have C107 : Ctx _ _ _ _ _ [v11, p77, CH.row g16 0 q12, CH.row g8 0 q1] := C106
 refine WL.skip (hy105 _ _ _ _ rfl rfl) ?_
 refine WL.done ?_
 refine W.seq ?_
 refine W.region rfl ?_
 refine WL.run to 1 rfl ?_
 obtain ⟨⟨r109, r110⟩, hg108, H⟩ := bindE H
 refine WL.callH (juratref04_Reader_Num.calls k _ F g12 0 A95 c96 n97 r94 1099511627776 (Ctx.pre (qs := [v11]) (rest := [p77, CH.row g16 0 q12, CH.row g8 0 q1]) C107) hn98 hl99 hm100 hS101 r109 r110 hg108) (Yenter.fn Tryz.func35 (by kernel_rfl) rfl (argsE (.cons rfl (.cons rfl .nil)))) ?_
 rintro e_ w_ ⟨A111, c112, n113, rfl, C118, hn114, hl115, hm116, hS117⟩
 refine ⟨_, rfl, ?_⟩
 let v13 : CH := CH.row g12 0 [.slice A111 n113 c112, .int .i64 r110.E]
 have C119 : Ctx _ _ _ _ _ [v13, p77, CH.row g16 0 q12, CH.row g8 0 q1] := Ctx.call (qs := [v11]) (rest := [p77, CH.row g16 0 q12, CH.row g8 0 q1]) C107 C118
 refine WL.val (Yl.conv (m := r109) (r := wi64 r109) rfl Tryz.underlying82 Tryz.underlying3 rfl) ?_
 refine WL.run to 1 rfl ?_
 obtain ⟨w120, hy121, C122⟩ := ev_put (P := Tryz.prog) (ps1 := [v13, p77]) (ps2 := [CH.row g8 0 q1]) (t := 3) [.int .i64 (wi64 r109)] (.int .i64 (wi64 r109)) C119 (Put.skip 2 34 rfl (Put.skip 32 2 (len_map ha56) (Put.lit 2 rfl))) rfl (ones_of rfl) sz3
 let q14 : List Go.Value := [.int .i64 (wi64 r22), .int .i64 (wi64 r38)] ++ (r54.map (Value.int .u8) ++ [.slice A73 n75 c74, .int .i64 (wi64 r93), .int .i64 (wi64 r109), .int .i64 0])
 have C123 : Ctx _ _ _ _ _ [v13, p77, CH.row g16 0 q14, CH.row g8 0 q1] := C122
 refine WL.skip (hy121 _ _ _ _ rfl rfl) ?_
 refine WL.done ?_
 refine W.seq ?_
 refine W.region rfl ?_
 refine WL.run to 1 rfl ?_
 obtain ⟨⟨r125, r126⟩, hg124, H⟩ := bindE H
 refine WL.callH (juratref04_Reader_Num.calls k _ F g12 0 A111 c112 n113 r110 1099511627776 (Ctx.pre (qs := [v13]) (rest := [p77, CH.row g16 0 q14, CH.row g8 0 q1]) C123) hn114 hl115 hm116 hS117 r125 r126 hg124) (Yenter.fn Tryz.func35 (by kernel_rfl) rfl (argsE (.cons rfl (.cons rfl .nil)))) ?_
 rintro e_ w_ ⟨A127, c128, n129, rfl, C134, hn130, hl131, hm132, hS133⟩
 refine ⟨_, rfl, ?_⟩
 let v15 : CH := CH.row g12 0 [.slice A127 n129 c128, .int .i64 r126.E]
 have C135 : Ctx _ _ _ _ _ [v15, p77, CH.row g16 0 q14, CH.row g8 0 q1] := Ctx.call (qs := [v13]) (rest := [p77, CH.row g16 0 q14, CH.row g8 0 q1]) C123 C134
 refine WL.val (Yl.conv (m := r125) (r := wi64 r125) rfl Tryz.underlying82 Tryz.underlying3 rfl) ?_
 refine WL.run to 1 rfl ?_
 obtain ⟨w136, hy137, C138⟩ := ev_put (P := Tryz.prog) (ps1 := [v15, p77]) (ps2 := [CH.row g8 0 q1]) (t := 3) [.int .i64 (wi64 r125)] (.int .i64 (wi64 r125)) C135 (Put.skip 2 35 rfl (Put.skip 32 3 (len_map ha56) (Put.lit 3 rfl))) rfl (ones_of rfl) sz3
 let q16 : List Go.Value := [.int .i64 (wi64 r22), .int .i64 (wi64 r38)] ++ (r54.map (Value.int .u8) ++ [.slice A73 n75 c74, .int .i64 (wi64 r93), .int .i64 (wi64 r109), .int .i64 (wi64 r125)])
 have C139 : Ctx _ _ _ _ _ [v15, p77, CH.row g16 0 q16, CH.row g8 0 q1] := C138
 refine WL.skip (hy137 _ _ _ _ rfl rfl) ?_
 refine WL.done ?_
 refine W.seq ?_
 refine W.seq ?_
 refine W.region rfl ?_
 refine WL.run to 1 rfl ?_
 obtain ⟨⟨r141, r142⟩, hg140, H⟩ := bindE H
 refine WL.callH (juratref04_Reader_End.calls k _ F g12 0 A127 c128 n129 r126 (Ctx.pre (qs := [v15]) (rest := [p77, CH.row g16 0 q16, CH.row g8 0 q1]) C139) hn130 hl131 hm132 hS133 r141 r142 hg140) (Yenter.fn Tryz.func38 (by kernel_rfl) rfl (argsE (.cons rfl .nil))) ?_
 rintro e_ w_ ⟨A143, c144, n145, rfl, C150, hn146, hl147, hm148, hS149⟩
 refine ⟨_, rfl, ?_⟩
 let v17 : CH := CH.row g12 0 [.slice A143 n145 c144, .int .i64 r142.E]
 have C151 : Ctx _ _ _ _ _ [v17, p77, CH.row g16 0 q16, CH.row g8 0 q1] := Ctx.call (qs := [v15]) (rest := [p77, CH.row g16 0 q16, CH.row g8 0 q1]) C139 C150
 refine WL.run to 1 rfl ?_
 refine WL.done ?_
 refine W.seq ?_
 refine W.region rfl ?_
 refine WL.run to 2 rfl ?_
 refine WL.done ?_
 rcases iteE H with ⟨hc152, H⟩ | ⟨hc152, H⟩
 ·refine W.condF (congrArg Value.bool (ndec_t hc152)) ?_
  refine W.skip ?_
  refine W.seq ?_
  refine W.seq ?_
  refine W.region rfl ?_
  refine WL.val (Yl.loadVA (g := g16) (off := 0) (o := 0) (cs := q16) (us := q16) rfl Tryz.underlying26 rfl (sz_of sz26 (len_app rfl (len_app (len_map ha56) rfl))) (Ctx.subI 2 C151 rfl) (take_all _)) ?_
  obtain ⟨F153, le154, lp155, C156⟩ := Ctx.fzI 1 C151 rfl
  replace C156 : Ctx _ _ _ _ _ [v17, CH.row g16 0 q16, CH.row g8 0 q1] := C156
  obtain ⟨r158, hg157, H⟩ := bindE H
  refine WL.callH (juratref21_May.calls k _ F153 A73 c74 n75 (⟨wi64 r22, wi64 r38, r54, r71, wi64 r93, wi64 r109, wi64 r125⟩ : TRecord) (Ctx.pre (qs := []) (rest := [v17, CH.row g16 0 q16, CH.row g8 0 q1]) C156) ha56 hn76 (Row.len_le hR78).1 (Row.len_le hR78).2.1 (Sl.mono (Row.sl hR78) le154 lp155) r158 hg157) (Yenter.fn Tryz.func26 (by kernel_rfl) rfl (argsE (.cons rfl .nil))) ?_
  rintro e_ w_ ⟨rfl, C159⟩
  refine ⟨_, rfl, ?_⟩
  have C160 : Ctx _ _ _ _ _ [v17, p77, CH.row g16 0 q16, CH.row g8 0 q1] := Ctx.callL (qs := []) (rest := [v17, p77, CH.row g16 0 q16, CH.row g8 0 q1]) C151 le154 C159
  refine WL.run to 1 rfl ?_
  refine WL.done ?_
  rcases iteE H with ⟨hc161, H⟩ | ⟨hc161, H⟩
  ·refine W.condF (congrArg Value.bool (nb_t hc161)) ?_
   refine W.skip ?_
   refine W.seq ?_
   refine W.region rfl ?_
   refine WL.val (Yl.loadVA (g := g16) (off := 0) (o := 0) (cs := q16) (us := q16) rfl Tryz.underlying26 rfl (sz_of sz26 (len_app rfl (len_app (len_map ha56) rfl))) (Ctx.subI 2 C160 rfl) (take_all _)) ?_
   obtain ⟨w162, hy163, C164⟩ := ev_put (P := Tryz.prog) (ps1 := [v17, p77, CH.row g16 0 q16]) (ps2 := []) (t := 26) q16 (.agg (List.toArray q16)) C160 (Put.all 38 (len_app rfl (len_app (len_map (List.length_replicate ..)) rfl)) (len_app rfl (len_app (len_map ha56) rfl))) rfl (ones_append (ones_of rfl) (ones_append (one_ints _ _) (ones_of rfl))) (sz_of sz26 (len_app rfl (len_app (len_map ha56) rfl)))
   have C165 : Ctx _ _ _ _ _ [v17, p77, CH.row g16 0 q16, CH.row g8 0 q16] := C164
   refine WL.skip (hy163 _ _ _ _ rfl rfl) ?_
   refine WL.run to 1 rfl ?_
   refine WL.done ?_
   refine W.ret ?_
   have C166 : Ctx _ _ _ _ _ [p77] := Ctx.pick [1] C165 rfl
   simp only [Option.some.injEq, Prod.mk.injEq] at H
   obtain ⟨e167, e168⟩ := H
   subst e167 e168
   exact post_r (resET rfl ((.cell rfl (run_loadVA2 (g := g8) (off := 0) (o := 0) (cs := q16) (us := q16) Tryz.underlying26 rfl (sz_of sz26 (len_app rfl (len_app (len_map ha56) rfl))) (Ctx.subI 3 C165 rfl) (take_all _)) (.tmp rfl .nil))) rfl) ⟨A73, c74, n75, p77, rfl, C166, ha56, hn76, hR78⟩
  ·refine W.condT (congrArg Value.bool (nb_f hc161)) ?_
   refine W.seq ?_
   refine W.region rfl ?_
   refine WL.val (Yl.build (places := [(0, 1), (1, 1), (2, 32), (34, 1), (35, 1), (36, 1), (37, 1)]) (cs := List.toArray q1) Tryz.underlying26 zr26 (pl26 _ Tryz.underlying26) (partsB .nil) (Fills.run (a := [.int .i64 0, .int .i64 0] ++ ((List.replicate 32 (0 : Int)).map (Value.int .u8) ++ [.slice none 0 0, .int .i64 0, .int .i64 0, .int .i64 0])) (c := [.int .i64 0, .int .i64 0] ++ ((List.replicate 32 (0 : Int)).map (Value.int .u8) ++ [.slice none 0 0, .int .i64 0, .int .i64 0, .int .i64 0])) .nil)) ?_
   obtain ⟨w169, hy170, C171⟩ := ev_put (P := Tryz.prog) (ps1 := [v17, p77, CH.row g16 0 q16]) (ps2 := []) (t := 26) q1 (.agg (List.toArray q1)) C160 (Put.all 38 (len_app rfl (len_app (len_map (List.length_replicate ..)) rfl)) (len_app rfl (len_app (len_map (List.length_replicate ..)) rfl))) rfl (ones_append (ones_of rfl) (ones_append (one_ints _ _) (ones_of rfl))) (sz_of sz26 (len_app rfl (len_app (len_map (List.length_replicate ..)) rfl)))
   have C172 : Ctx _ _ _ _ _ [v17, p77, CH.row g16 0 q16, CH.row g8 0 q1] := C171
   refine WL.skip (hy170 _ _ _ _ rfl rfl) ?_
   refine WL.run to 1 rfl ?_
   refine WL.done ?_
   refine W.ret ?_
   refine thenE_r ?_
   have C173 : Ctx _ _ _ _ _ [CH.emp] := Ctx.pick [4] C172 rfl
   simp only [Option.some.injEq, Prod.mk.injEq] at H
   obtain ⟨e174, e175⟩ := H
   subst e174 e175
   exact post_r (resET rfl ((.cell rfl (run_loadVA2 (g := g8) (off := 0) (o := 0) (cs := q1) (us := q1) Tryz.underlying26 rfl (sz_of sz26 (len_app rfl (len_app (len_map (List.length_replicate ..)) rfl))) (Ctx.subI 3 C172 rfl) (take_all _)) (.tmp rfl .nil))) rfl) ⟨none, 0, 0, CH.emp, rfl, C173, (List.length_replicate ..), rfl, (Row.nil _ _)⟩
 ·refine W.condT (congrArg Value.bool (ndec_f hc152)) ?_
  refine W.seq ?_
  refine W.region rfl ?_
  refine WL.val (Yl.build (places := [(0, 1), (1, 1), (2, 32), (34, 1), (35, 1), (36, 1), (37, 1)]) (cs := List.toArray q1) Tryz.underlying26 zr26 (pl26 _ Tryz.underlying26) (partsB .nil) (Fills.run (a := [.int .i64 0, .int .i64 0] ++ ((List.replicate 32 (0 : Int)).map (Value.int .u8) ++ [.slice none 0 0, .int .i64 0, .int .i64 0, .int .i64 0])) (c := [.int .i64 0, .int .i64 0] ++ ((List.replicate 32 (0 : Int)).map (Value.int .u8) ++ [.slice none 0 0, .int .i64 0, .int .i64 0, .int .i64 0])) .nil)) ?_
  refine WL.run to 1 rfl ?_
  obtain ⟨w176, hy177, C178⟩ := ev_put (P := Tryz.prog) (ps1 := [v17, p77, CH.row g16 0 q16]) (ps2 := []) (t := 26) q1 (.agg (List.toArray q1)) C151 (Put.all 38 (len_app rfl (len_app (len_map (List.length_replicate ..)) rfl)) (len_app rfl (len_app (len_map (List.length_replicate ..)) rfl))) rfl (ones_append (ones_of rfl) (ones_append (one_ints _ _) (ones_of rfl))) (sz_of sz26 (len_app rfl (len_app (len_map (List.length_replicate ..)) rfl)))
  have C179 : Ctx _ _ _ _ _ [v17, p77, CH.row g16 0 q16, CH.row g8 0 q1] := C178
  refine WL.skip (hy177 _ _ _ _ rfl rfl) ?_
  refine WL.run to 1 rfl ?_
  refine WL.done ?_
  refine W.ret ?_
  refine thenE_r ?_
  have C180 : Ctx _ _ _ _ _ [CH.emp] := Ctx.pick [4] C179 rfl
  simp only [Option.some.injEq, Prod.mk.injEq] at H
  obtain ⟨e181, e182⟩ := H
  subst e181 e182
  exact post_r (resET rfl ((.cell rfl (run_loadVA2 (g := g8) (off := 0) (o := 0) (cs := q1) (us := q1) Tryz.underlying26 rfl (sz_of sz26 (len_app rfl (len_app (len_map (List.length_replicate ..)) rfl))) (Ctx.subI 3 C179 rfl) (take_all _)) (.tmp rfl .nil))) rfl) ⟨none, 0, 0, CH.emp, rfl, C180, (List.length_replicate ..), rfl, (Row.nil _ _)⟩
def juratref21_SameRecord.f (k : Nat) (a0 : TRecord) (a1 : TRecord) : Option Bool := (if a0.Kind = a1.Kind then (if a0.Epoch = a1.Epoch then (if a0.Nonce = a1.Nonce then ((juratref01_Same.f k a0.Data a1.Data).bind fun r31 => if r31 = true then (if a0.Job = a1.Job then (if a0.Time = a1.Time then (some (decide (a0.By = a1.By))) else (some (false))) else (some (false))) else (some (false))) else (some (false))) else (some (false))) else (some (false))).bind fun g25 => some g25
set_option maxRecDepth 100000 in
set_option maxHeartbeats 4000000 in
theorem juratref21_SameRecord.calls (k : Nat) (w : World) (F : CH) (A2 : Option Addr) (c3 : Nat) (n4 : Nat) (a0 : TRecord) (A10 : Option Addr) (c11 : Nat) (n12 : Nat) (a1 : TRecord) (hp : Pre w F []) (ha1 : a0.Nonce.length = 32) (hn5 : n4 = a0.Data.length) (hl6 : a0.Data.length ≤ c3) (hm7 : c3 ≤ maxLen) (hS8 : Sl (Kd.int .u8) F F A2 a0.Data) (ha9 : a1.Nonce.length = 32) (hn13 : n12 = a1.Data.length) (hl14 : a1.Data.length ≤ c11) (hm15 : c11 ≤ maxLen) (hS16 : Sl (Kd.int .u8) F F A10 a1.Data) (r0_ : Bool) (H : juratref21_SameRecord.f k a0 a1 = some r0_) :
    Calls Tryz.prog 12 #[.agg (List.toArray ([.int .i64 a0.Kind, .int .i64 a0.Epoch] ++ (a0.Nonce.map (Value.int .u8) ++ [.slice A2 n4 c3, .int .i64 a0.Job, .int .i64 a0.Time, .int .i64 a0.By]))), .agg (List.toArray ([.int .i64 a1.Kind, .int .i64 a1.Epoch] ++ (a1.Nonce.map (Value.int .u8) ++ [.slice A10 n12 c11, .int .i64 a1.Job, .int .i64 a1.Time, .int .i64 a1.By])))] w fun e w' => e = .returned (.bool r0_) ∧ Ctx w F (domL []) w' F [] := by
 have C := Ctx.start hp
 generalize hD : domL [] = D at C ⊢
 unfold juratref21_SameRecord.f at H
 refine Calls.ofW Tryz.func12 rfl (by simp [Tryz.ntmps12]) ?_
 refine W.seq ?_
 refine W.region rfl ?_
 let q1 : List Go.Value := [.int .i64 a0.Kind, .int .i64 a0.Epoch] ++ (a0.Nonce.map (Value.int .u8) ++ [.slice A2 n4 c3, .int .i64 a0.Job, .int .i64 a0.Time, .int .i64 a0.By])
 obtain ⟨g17, w18, hy19, C20⟩ := ev_box (P := Tryz.prog) 26 (.agg (List.toArray q1)) q1 C rfl
 refine WL.val (hy19 _ _ _ rfl) ?_
 let q2 : List Go.Value := [.int .i64 a1.Kind, .int .i64 a1.Epoch] ++ (a1.Nonce.map (Value.int .u8) ++ [.slice A10 n12 c11, .int .i64 a1.Job, .int .i64 a1.Time, .int .i64 a1.By])
 obtain ⟨g21, w22, hy23, C24⟩ := ev_box (P := Tryz.prog) 26 (.agg (List.toArray q2)) q2 C20 rfl
 refine WL.val (hy23 _ _ _ rfl) ?_
 refine WL.run to 1 rfl ?_
 refine WL.done ?_
 refine W.seq ?_
 refine W.region rfl ?_
 refine WL.run to 1 rfl ?_
 refine WL.val (Yl.loadV (g := g17) (off := 0) (o := 0) (cs := q1) (v := .int .i64 a0.Kind) rfl Tryz.underlying3 rfl (Ctx.subI 1 C24 rfl) rfl) ?_
 refine WL.run to 1 rfl ?_
 refine WL.val (Yl.loadV (g := g21) (off := 0) (o := 0) (cs := q2) (v := .int .i64 a1.Kind) rfl Tryz.underlying3 rfl (Ctx.subI 0 C24 rfl) rfl) ?_
 refine WL.run to 2 rfl ?_
 obtain ⟨g25, HE26, H⟩ := bindE H
 refine WL.cut (fun env_ w_ => env_ 4 = .bool g25 ∧ Ctx w F D w_ F [CH.row g21 0 q2, CH.row g17 0 q1]) ?_ ?_
 ·rcases iteE HE26 with ⟨hc27, HE26⟩ | ⟨hc27, HE26⟩
  ·refine WL.kn 10 (congrArg Value.bool (decide_eq_true hc27)) ?_
   refine WL.run to 1 rfl ?_
   refine WL.valOn rfl rfl (Yl.loadV (g := g17) (off := 0) (o := 1) (cs := q1) (v := .int .i64 a0.Epoch) rfl Tryz.underlying3 rfl (Ctx.subI 1 C24 rfl) rfl) ?_
   refine WL.run to 1 rfl ?_
   refine WL.valOn rfl rfl (Yl.loadV (g := g21) (off := 0) (o := 1) (cs := q2) (v := .int .i64 a1.Epoch) rfl Tryz.underlying3 rfl (Ctx.subI 0 C24 rfl) rfl) ?_
   refine WL.run to 3 rfl ?_
   rcases iteE HE26 with ⟨hc28, HE26⟩ | ⟨hc28, HE26⟩
   ·refine WL.kn 17 (congrArg Value.bool (decide_eq_true hc28)) ?_
    refine WL.run to 1 rfl ?_
    refine WL.valOn rfl rfl (Yl.loadVA (g := g17) (off := 0) (o := 2) (cs := q1) (us := a0.Nonce.map (Value.int .u8)) rfl Tryz.underlying23 rfl (sz_of sz23 (len_map ha1)) (Ctx.subI 1 C24 rfl) (mid_skip 2 0 rfl (mid_here rfl))) ?_
    refine WL.run to 1 rfl ?_
    refine WL.valOn rfl rfl (Yl.loadVA (g := g21) (off := 0) (o := 2) (cs := q2) (us := a1.Nonce.map (Value.int .u8)) rfl Tryz.underlying23 rfl (sz_of sz23 (len_map ha9)) (Ctx.subI 0 C24 rfl) (mid_skip 2 0 rfl (mid_here rfl))) ?_
    refine WL.valOn rfl rfl (Yl.aeql (n := 2) (xs := a0.Nonce.map (Value.int .u8)) (ys := a1.Nonce.map (Value.int .u8)) rfl rfl eg23 (EqV.arrI Tryz.underlying23 Tryz.underlying5 sz5 ha1 ha9) (by decide)) ?_
    refine WL.run to 2 rfl ?_
    rcases iteE HE26 with ⟨hc29, HE26⟩ | ⟨hc29, HE26⟩
    ·refine WL.kn 24 (congrArg Value.bool (decide_eq_true hc29)) ?_
     refine WL.run to 1 rfl ?_
     refine WL.valOn rfl rfl (Yl.loadV (g := g17) (off := 0) (o := 34) (cs := q1) (v := .slice A2 n4 c3) rfl Tryz.underlying24 rfl (Ctx.subI 1 C24 rfl) (at_skip 2 32 rfl (at_skip 32 0 (len_map ha1) rfl))) ?_
     refine WL.run to 1 rfl ?_
     refine WL.valOn rfl rfl (Yl.loadV (g := g21) (off := 0) (o := 34) (cs := q2) (v := .slice A10 n12 c11) rfl Tryz.underlying24 rfl (Ctx.subI 0 C24 rfl) (at_skip 2 32 rfl (at_skip 32 0 (len_map ha9) rfl))) ?_
     refine WL.on rfl rfl ?_
     obtain ⟨r31, hg30, HE26⟩ := bindE HE26
     refine WL.callH (juratref01_Same.calls k _ F A2 c3 n4 a0.Data A10 c11 n12 a1.Data C24.pre0 hn5 hl6 hm7 hS8 hn13 hl14 hm15 hS16 r31 hg30) (Yenter.fn Tryz.func11 (by kernel_rfl) rfl (argsE (.cons rfl (.cons rfl .nil)))) ?_
     rintro e_ w_ ⟨rfl, ⟨m32, rfl⟩⟩
     refine ⟨_, rfl, ?_⟩
     have C33 := Ctx.drewN C24 m32
     refine WL.run to 2 rfl ?_
     rcases iteE HE26 with ⟨hc34, HE26⟩ | ⟨hc34, HE26⟩
     ·refine WL.kn 31 (congrArg Value.bool hc34) ?_
      refine WL.run to 1 rfl ?_
      refine WL.valOn rfl rfl (Yl.loadV (g := g17) (off := 0) (o := 35) (cs := q1) (v := .int .i64 a0.Job) rfl Tryz.underlying3 rfl (Ctx.subI 1 C33 rfl) (at_skip 2 33 rfl (at_skip 32 1 (len_map ha1) rfl))) ?_
      refine WL.run to 1 rfl ?_
      refine WL.valOn rfl rfl (Yl.loadV (g := g21) (off := 0) (o := 35) (cs := q2) (v := .int .i64 a1.Job) rfl Tryz.underlying3 rfl (Ctx.subI 0 C33 rfl) (at_skip 2 33 rfl (at_skip 32 1 (len_map ha9) rfl))) ?_
      refine WL.run to 3 rfl ?_
      rcases iteE HE26 with ⟨hc35, HE26⟩ | ⟨hc35, HE26⟩
      ·refine WL.kn 38 (congrArg Value.bool (decide_eq_true hc35)) ?_
       refine WL.run to 1 rfl ?_
       refine WL.valOn rfl rfl (Yl.loadV (g := g17) (off := 0) (o := 36) (cs := q1) (v := .int .i64 a0.Time) rfl Tryz.underlying3 rfl (Ctx.subI 1 C33 rfl) (at_skip 2 34 rfl (at_skip 32 2 (len_map ha1) rfl))) ?_
       refine WL.run to 1 rfl ?_
       refine WL.valOn rfl rfl (Yl.loadV (g := g21) (off := 0) (o := 36) (cs := q2) (v := .int .i64 a1.Time) rfl Tryz.underlying3 rfl (Ctx.subI 0 C33 rfl) (at_skip 2 34 rfl (at_skip 32 2 (len_map ha9) rfl))) ?_
       refine WL.run to 3 rfl ?_
       rcases iteE HE26 with ⟨hc36, HE26⟩ | ⟨hc36, HE26⟩
       ·refine WL.kn 45 (congrArg Value.bool (decide_eq_true hc36)) ?_
        refine WL.run to 1 rfl ?_
        refine WL.valOn rfl rfl (Yl.loadV (g := g17) (off := 0) (o := 37) (cs := q1) (v := .int .i64 a0.By) rfl Tryz.underlying3 rfl (Ctx.subI 1 C33 rfl) (at_skip 2 35 rfl (at_skip 32 3 (len_map ha1) rfl))) ?_
        refine WL.run to 1 rfl ?_
        refine WL.valOn rfl rfl (Yl.loadV (g := g21) (off := 0) (o := 37) (cs := q2) (v := .int .i64 a1.By) rfl Tryz.underlying3 rfl (Ctx.subI 0 C33 rfl) (at_skip 2 35 rfl (at_skip 32 3 (len_map ha9) rfl))) ?_
        refine WL.run to 3 rfl ?_
        cases HE26
        exact WL.done ⟨rfl, C33⟩
       ·refine WL.kn 45 (congrArg Value.bool (decide_eq_false hc36)) ?_
        refine WL.offs 5 45 true rfl rfl ?_
        refine WL.run to 2 rfl ?_
        cases HE26
        exact WL.done ⟨rfl, C33⟩
      ·refine WL.kn 38 (congrArg Value.bool (decide_eq_false hc35)) ?_
       refine WL.offs 5 38 true rfl rfl ?_
       refine WL.run to 2 rfl ?_
       refine WL.offs 5 45 true rfl rfl ?_
       refine WL.run to 2 rfl ?_
       cases HE26
       exact WL.done ⟨rfl, C33⟩
     ·refine WL.kn 31 (congrArg Value.bool (Bool.eq_false_iff.2 hc34)) ?_
      refine WL.offs 5 31 true rfl rfl ?_
      refine WL.run to 2 rfl ?_
      refine WL.offs 5 38 true rfl rfl ?_
      refine WL.run to 2 rfl ?_
      refine WL.offs 5 45 true rfl rfl ?_
      refine WL.run to 2 rfl ?_
      cases HE26
      exact WL.done ⟨rfl, C33⟩
    ·refine WL.kn 24 (congrArg Value.bool (decide_eq_false hc29)) ?_
     refine WL.offs 5 24 true rfl rfl ?_
     refine WL.run to 2 rfl ?_
     refine WL.offs 5 31 true rfl rfl ?_
     refine WL.run to 2 rfl ?_
     refine WL.offs 5 38 true rfl rfl ?_
     refine WL.run to 2 rfl ?_
     refine WL.offs 5 45 true rfl rfl ?_
     refine WL.run to 2 rfl ?_
     cases HE26
     exact WL.done ⟨rfl, C24⟩
   ·refine WL.kn 17 (congrArg Value.bool (decide_eq_false hc28)) ?_
    refine WL.offs 5 17 true rfl rfl ?_
    refine WL.run to 2 rfl ?_
    refine WL.offs 5 24 true rfl rfl ?_
    refine WL.run to 2 rfl ?_
    refine WL.offs 5 31 true rfl rfl ?_
    refine WL.run to 2 rfl ?_
    refine WL.offs 5 38 true rfl rfl ?_
    refine WL.run to 2 rfl ?_
    refine WL.offs 5 45 true rfl rfl ?_
    refine WL.run to 2 rfl ?_
    cases HE26
    exact WL.done ⟨rfl, C24⟩
  ·refine WL.kn 10 (congrArg Value.bool (decide_eq_false hc27)) ?_
   refine WL.offs 5 10 true rfl rfl ?_
   refine WL.run to 2 rfl ?_
   refine WL.offs 5 17 true rfl rfl ?_
   refine WL.run to 2 rfl ?_
   refine WL.offs 5 24 true rfl rfl ?_
   refine WL.run to 2 rfl ?_
   refine WL.offs 5 31 true rfl rfl ?_
   refine WL.run to 2 rfl ?_
   refine WL.offs 5 38 true rfl rfl ?_
   refine WL.run to 2 rfl ?_
   refine WL.offs 5 45 true rfl rfl ?_
   refine WL.run to 2 rfl ?_
   cases HE26
   exact WL.done ⟨rfl, C24⟩
 ·rintro env_ w_ ⟨ho37, C38⟩
  apply kn env_ (.c ho37 .n)
  refine W.ret ?_
  have C39 : Ctx _ _ _ _ _ [] := Ctx.pick [] C38 rfl
  have e40 := Option.some.inj H
  subst e40
  exact post_r (resE1 rfl rfl) ⟨rfl, C39⟩
end Go.Proofs.YtobdpbnadjkhiaaGreat
