/- Functions of the program: each as a plain function of numbers and lists, and the proof that the program's own comes to it. Nothing is assumed but what each theorem says. -/
import Derived.Test.YtobdpbnadjkhiaaGreatTGt
namespace Go.Proofs.YtobdpbnadjkhiaaGreat
open Go.RowKit Go.WG
set_option linter.unusedVariables false
set_option linter.unusedSimpArgs false
def crew_right.l1 : Nat → List Int → Int → Option (Sum Unit Bool)
  | 0, _, _ => none
  | k + 1, a0, x55 => if x55 < (a0.length : Int) then (if 0 ≤ x55 ∧ x55 < (a0.length : Int) then (if (a0.getD x55.toNat 0) < 0 then (some (Sum.inr false)) else (crew_right.l1 k a0 (wi64 (x55 + 1)))) else none) else (some (Sum.inl ()))
def crew_right.f (k : Nat) (a0 : List Int) (a1 : List Bool) : Option Bool := (crew_right.l1 k a0 0).bind fun o_ => sumE o_ (fun _ => (if (a0.length : Int) = (a1.length : Int) then (some (decide ((a0.length : Int) ≤ 8))) else (some (false))).bind fun g80 => some g80) (fun p_ => some p_)
set_option maxRecDepth 100000 in
set_option maxHeartbeats 4000000 in
theorem crew_right.calls (k : Nat) (w : World) (F : CH) (A1 : Option Addr) (c2 : Nat) (n3 : Nat) (a0 : List Int) (A8 : Option Addr) (c9 : Nat) (n10 : Nat) (a1 : List Bool) (hp : Pre w F []) (hn4 : n3 = a0.length) (hl5 : a0.length ≤ c2) (hm6 : c2 ≤ maxLen) (hS7 : Sl (Kd.int .i64) F F A1 a0) (hn11 : n10 = a1.length) (hl12 : a1.length ≤ c9) (hm13 : c9 ≤ maxLen) (hS14 : Sl Kd.bool F F A8 a1) (r0_ : Bool) (H : crew_right.f k a0 a1 = some r0_) :
    Calls Tryz.prog 90 #[.slice A1 n3 c2, .slice A8 n10 c9] w fun e w' => e = .returned (.bool r0_) ∧ (∃ n_, w' = w.drewN n_) := by
 have C := Ctx.start hp
 generalize domL [] = D at C
 have W0 : ∃ n_, w = w.drewN n_ := ⟨0, rfl⟩
 unfold crew_right.f at H
 refine Calls.ofW Tryz.func90 rfl (by simp [Tryz.ntmps90]) ?_
 refine W.seq ?_
 refine W.region rfl ?_
 refine WL.run to 1 rfl ?_
 refine WL.done ?_
 refine W.seq ?_
 refine W.seq ?_
 refine W.region rfl ?_
 refine WL.run to 1 rfl ?_
 refine WL.val (Yl.lenN (A := A1) (l := n3) (q := c2) (n := (a0.length : Int)) rfl Tryz.underlying47 (by omega)) ?_
 refine WL.run to 1 rfl ?_
 refine WL.done ?_
 obtain ⟨o49, hX48, H⟩ := bindE H
 refine W.cutM (fun env_ w_ => env_ 0 = .slice A1 n3 c2 ∧ env_ 1 = .slice A8 n10 c9 ∧ Ctx w F D w_ F [] ∧ (∃ n_, w_ = w.drewN n_) ∧ o49 = Sum.inl ()) ?_ ?_
 ·refine W.block ?_
  refine W.loop (fun g_ env_ w_ => ∃ (x55 : Int), env_ 0 = .slice A1 n3 c2 ∧ env_ 1 = .slice A8 n10 c9 ∧ env_ 7 = .slice A1 n3 c2 ∧ env_ 8 = .int .i64 (a0.length : Int) ∧ env_ 9 = .int .i64 x55 ∧ Ctx w F D w_ F [] ∧ (∃ n_, w_ = w.drewN n_) ∧ crew_right.l1 g_ a0 x55 = some o49) k ⟨0, rfl, rfl, rfl, rfl, rfl, C, W0, hX48⟩ ?_
  clear hX48
  rintro g_ env_ w_ ⟨x55, ho50, ho51, ho52, ho53, ho54, C56, Wq57, hX48⟩
  rcases g_ with _ | k68
  · exact absurd hX48 (by simp [crew_right.l1])
  rw [crew_right.l1] at hX48
  apply kn env_ (.c ho50 (.c ho51 (.c ho52 (.c ho53 (.c ho54 .n)))))
  refine W.seq ?_
  refine W.region rfl ?_
  refine WL.run to 1 rfl ?_
  refine WL.done ?_
  refine W.seq ?_
  rcases iteE hX48 with ⟨hc69, hX48⟩ | ⟨hc69, hX48⟩
  ·refine W.condT (congrArg Value.bool (decide_eq_true hc69)) ?_
   refine W.skip ?_
   refine W.seq ?_
   refine W.block ?_
   refine W.seq ?_
   refine W.region rfl ?_
   obtain ⟨hc70, hX48⟩ := guardE hX48
   obtain ⟨b71, of72, hA73, he74⟩ := hS7 (by omega)
   refine WL.val (Yl.elemAddr (i := x55) rfl rfl hA73 Tryz.underlying47 sz3 (by omega)) ?_
   obtain ⟨cs75, hr76, hx77⟩ := he74 x55.toNat _ (getD_some (d := 0) (by omega))
   obtain rfl := hr76
   refine WL.val (Yl.load (v := .int .i64 (a0.getD x55.toNat 0)) rfl Tryz.underlying3 rfl (((C56.fro)).cell (hx77 0 _ rfl))) ?_
   refine WL.run to 1 rfl ?_
   refine WL.done ?_
   refine W.seq ?_
   refine W.region rfl ?_
   refine WL.run to 2 rfl ?_
   refine WL.done ?_
   rcases iteE hX48 with ⟨hc78, hX48⟩ | ⟨hc78, hX48⟩
   ·refine W.condT (congrArg Value.bool (decide_eq_true hc78)) ?_
    refine W.seq ?_
    refine W.region rfl ?_
    refine WL.run to 1 rfl ?_
    refine WL.done ?_
    refine W.ret ?_
    refine inB_r ?_
    refine thenE_r ?_
    refine thenE_r ?_
    refine inB_r ?_
    refine thenE_r ?_
    refine thenE_r ?_
    cases hX48
    replace H := sumE_r H
    have e79 := Option.some.inj H
    subst e79
    exact post_r (resE1 rfl rfl) ⟨rfl, Wq57⟩
   ·refine W.condF (congrArg Value.bool (decide_eq_false hc78)) ?_
    refine W.skip ?_
    refine inB_n ?_
    refine W.region rfl ?_
    refine WL.run to 2 rfl ?_
    refine WL.done ?_
    exact thenE_n ⟨k68, Nat.lt_succ_self _, wi64 (x55 + 1), rfl, rfl, rfl, rfl, rfl, C56, Wq57, hX48⟩
  ·refine W.condF (congrArg Value.bool (decide_eq_false hc69)) ?_
   refine W.exit ?_
   refine thenE_x ?_
   refine thenE_x ?_
   refine inB_here ?_
   cases hX48
   refine thenE_n ?_
   exact ⟨rfl, rfl, C56, Wq57, rfl⟩
 ·rintro env_ w_ ⟨ho44, ho45, C46, Wq47, rfl⟩
  replace H := sumE_l H
  apply kn env_ (.c ho44 (.c ho45 .n))
  refine W.seq ?_
  refine W.region rfl ?_
  refine WL.run to 1 rfl ?_
  refine WL.val (Yl.lenN (A := A1) (l := n3) (q := c2) (n := (a0.length : Int)) rfl Tryz.underlying47 (by omega)) ?_
  refine WL.run to 1 rfl ?_
  refine WL.val (Yl.lenN (A := A8) (l := n10) (q := c9) (n := (a1.length : Int)) rfl Tryz.underlying48 (by omega)) ?_
  refine WL.run to 2 rfl ?_
  obtain ⟨g80, HE81, H⟩ := bindE H
  refine WL.cut (fun env_ w_ => env_ 4 = .bool g80 ∧ Ctx w F D w_ F [] ∧ (∃ n_, w_ = w.drewN n_)) ?_ ?_
  ·rcases iteE HE81 with ⟨hc82, HE81⟩ | ⟨hc82, HE81⟩
   ·refine WL.kn 21 (congrArg Value.bool (decide_eq_true hc82)) ?_
    refine WL.run to 1 rfl ?_
    refine WL.valOn rfl rfl (Yl.lenN (A := A1) (l := n3) (q := c2) (n := (a0.length : Int)) rfl Tryz.underlying47 (by omega)) ?_
    refine WL.run to 3 rfl ?_
    cases HE81
    exact WL.done ⟨rfl, C46, Wq47⟩
   ·refine WL.kn 21 (congrArg Value.bool (decide_eq_false hc82)) ?_
    refine WL.offs 3 21 true rfl rfl ?_
    refine WL.run to 2 rfl ?_
    cases HE81
    exact WL.done ⟨rfl, C46, Wq47⟩
  ·rintro env_ w_ ⟨ho83, C84, Wq85⟩
   apply kn env_ (.c ho83 .n)
   refine W.ret ?_
   have e86 := Option.some.inj H
   subst e86
   exact post_r (resE1 rfl rfl) ⟨rfl, Wq85⟩
def crew_able.l1 : Nat → List Int → List Bool → Int → List Thand → Int → Int → Option ((List Thand) × Int)
  | 0, _, _, _, _, _, _ => none
  | k + 1, a0, a1, a2, x128, x136, x140 => if x140 < (a0.length : Int) then (if 0 ≤ x140 ∧ x140 < (a0.length : Int) then (if 0 ≤ x140 ∧ x140 < (a1.length : Int) then (if (a1.getD x140.toNat false) = true then (crew_able.l1 k a0 a1 a2 x128 x136 (wi64 (x140 + 1))) else (if (a0.getD x140.toNat 0) < a2 then (if (x128.length + 1 + (x128.length + 1) / 4 + 192) * 16 ≤ 281474976710656 then (crew_able.l1 k a0 a1 a2 (x128 ++ [(⟨a0.getD x140.toNat 0, x140⟩ : Thand)]) (wi64 (x136 + 1)) (wi64 (x140 + 1))) else none) else (crew_able.l1 k a0 a1 a2 x128 (wi64 (x136 + 1)) (wi64 (x140 + 1))))) else none) else none) else (some (x128, x136))
def crew_able.f (k : Nat) (a0 : List Int) (a1 : List Bool) (a2 : Int) : Option ((List Thand) × Int) := (crew_able.l1 k a0 a1 a2 ([] : List Thand) 0 0).bind fun ⟨x114, x122⟩ => some (x114, x122)
set_option maxRecDepth 100000 in
set_option maxHeartbeats 4000000 in
theorem crew_able.calls (k : Nat) (w : World) (F : CH) (A1 : Option Addr) (c2 : Nat) (n3 : Nat) (a0 : List Int) (A8 : Option Addr) (c9 : Nat) (n10 : Nat) (a1 : List Bool) (a2 : Int) (hp : Pre w F []) (hn4 : n3 = a0.length) (hl5 : a0.length ≤ c2) (hm6 : c2 ≤ maxLen) (hS7 : Sl (Kd.int .i64) F F A1 a0) (hn11 : n10 = a1.length) (hl12 : a1.length ≤ c9) (hm13 : c9 ≤ maxLen) (hS14 : Sl Kd.bool F F A8 a1) (r0_ : List Thand) (r1_ : Int) (H : crew_able.f k a0 a1 a2 = some (r0_, r1_)) :
    Calls Tryz.prog 91 #[.slice A1 n3 c2, .slice A8 n10 c9, .int .i64 a2] w fun e w' => ∃ (A225 : Option Addr) (c226 : Nat) (n227 : Nat) (p229 : CH), e = .returned (.tuple #[(.slice A225 n227 c226), (.int .i64 r1_)]) ∧ Ctx w F (domL []) w' F [p229] ∧ n227 = r0_.length ∧ Row Thand.K F p229 (.slice A225 n227 c226) r0_ := by
 have C := Ctx.start hp
 generalize hD : domL [] = D at C ⊢
 unfold crew_able.f at H
 refine Calls.ofW Tryz.func91 rfl (by simp [Tryz.ntmps91]) ?_
 refine W.seq ?_
 refine W.region rfl ?_
 refine WL.run to 2 rfl ?_
 refine WL.done ?_
 refine W.seq ?_
 refine W.region rfl ?_
 refine WL.run to 1 rfl ?_
 refine WL.done ?_
 refine W.seq ?_
 refine W.region rfl ?_
 refine WL.run to 1 rfl ?_
 refine WL.done ?_
 refine W.seq ?_
 refine W.seq ?_
 refine W.region rfl ?_
 refine WL.run to 1 rfl ?_
 refine WL.val (Yl.lenN (A := A1) (l := n3) (q := c2) (n := (a0.length : Int)) rfl Tryz.underlying47 (by omega)) ?_
 refine WL.run to 1 rfl ?_
 refine WL.done ?_
 obtain ⟨⟨x114, x122⟩, hX124, H⟩ := bindE H
 refine W.cutM (fun env_ w_ => ∃ (A115 : Option Addr) (c116 : Nat) (n117 : Nat) (p119 : CH), env_ 8 = .slice A115 n117 c116 ∧ env_ 9 = .int .i64 x122 ∧ Ctx w F D w_ F [p119] ∧ n117 = x114.length ∧ Row Thand.K F p119 (.slice A115 n117 c116) x114) ?_ ?_
 ·refine W.block ?_
  have C182 : Ctx _ _ _ _ _ [CH.emp] := Ctx.pick [0] C rfl
  refine W.loop (fun g_ env_ w_ => ∃ (x128 : List Thand) (x136 : Int) (x140 : Int) (A129 : Option Addr) (c130 : Nat) (n131 : Nat) (p133 : CH), env_ 1 = .slice A8 n10 c9 ∧ env_ 2 = .int .i64 a2 ∧ env_ 8 = .slice A129 n131 c130 ∧ env_ 9 = .int .i64 x136 ∧ env_ 12 = .slice A1 n3 c2 ∧ env_ 13 = .int .i64 (a0.length : Int) ∧ env_ 14 = .int .i64 x140 ∧ Ctx w F D w_ F [p133] ∧ n131 = x128.length ∧ Row Thand.K F p133 (.slice A129 n131 c130) x128 ∧ crew_able.l1 g_ a0 a1 a2 x128 x136 x140 = some (x114, x122)) k ⟨([] : List Thand), 0, 0, none, 0, 0, CH.emp, rfl, rfl, rfl, rfl, rfl, rfl, rfl, C182, rfl, (Row.nil _ _), hX124⟩ ?_
  clear hX124
  rintro g_ env_ w_ ⟨x128, x136, x140, A129, c130, n131, p133, ho125, ho126, ho127, ho135, ho137, ho138, ho139, C141, hn132, hR134, hX124⟩
  rcases g_ with _ | k181
  · exact absurd hX124 (by simp [crew_able.l1])
  rw [crew_able.l1] at hX124
  apply kn env_ (.c ho125 (.c ho126 (.c ho127 (.c ho135 (.c ho137 (.c ho138 (.c ho139 .n)))))))
  refine W.seq ?_
  refine W.region rfl ?_
  refine WL.run to 1 rfl ?_
  refine WL.done ?_
  refine W.seq ?_
  rcases iteE hX124 with ⟨hc183, hX124⟩ | ⟨hc183, hX124⟩
  ·refine W.condT (congrArg Value.bool (decide_eq_true hc183)) ?_
   refine W.skip ?_
   refine W.seq ?_
   refine W.block ?_
   refine W.seq ?_
   refine W.region rfl ?_
   refine WL.run to 1 rfl ?_
   obtain ⟨hc184, hX124⟩ := guardE hX124
   obtain ⟨b185, of186, hA187, he188⟩ := hS7 (by omega)
   refine WL.val (Yl.elemAddr (i := x140) rfl rfl hA187 Tryz.underlying47 sz3 (by omega)) ?_
   obtain ⟨cs189, hr190, hx191⟩ := he188 x140.toNat _ (getD_some (d := 0) (by omega))
   obtain rfl := hr190
   refine WL.val (Yl.load (v := .int .i64 (a0.getD x140.toNat 0)) rfl Tryz.underlying3 rfl (((C141.fro)).cell (hx191 0 _ rfl))) ?_
   refine WL.run to 2 rfl ?_
   refine WL.done ?_
   refine W.seq ?_
   refine W.seq ?_
   refine W.region rfl ?_
   refine WL.run to 2 rfl ?_
   obtain ⟨hc192, hX124⟩ := guardE hX124
   obtain ⟨b193, of194, hA195, he196⟩ := hS14 (by omega)
   refine WL.val (Yl.elemAddr (i := x140) rfl rfl hA195 Tryz.underlying48 sz4 (by omega)) ?_
   obtain ⟨cs197, hr198, hx199⟩ := he196 x140.toNat _ (getD_some (d := false) (by omega))
   obtain rfl := hr198
   refine WL.val (Yl.load (v := .bool (a1.getD x140.toNat false)) rfl Tryz.underlying4 rfl (((C141.fro)).cell (hx199 0 _ rfl))) ?_
   refine WL.done ?_
   rcases iteE hX124 with ⟨hc200, hX124⟩ | ⟨hc200, hX124⟩
   ·refine W.condT (congrArg Value.bool hc200) ?_
    refine W.exit ?_
    refine thenE_x ?_
    refine inB_here ?_
    refine W.region rfl ?_
    refine WL.run to 2 rfl ?_
    refine WL.done ?_
    exact thenE_n ⟨k181, Nat.lt_succ_self _, x128, x136, wi64 (x140 + 1), A129, c130, n131, p133, rfl, rfl, rfl, rfl, rfl, rfl, rfl, C141, hn132, hR134, hX124⟩
   ·refine W.condF (congrArg Value.bool (Bool.eq_false_iff.2 hc200)) ?_
    refine W.skip ?_
    refine W.seq ?_
    refine W.region rfl ?_
    refine WL.run to 3 rfl ?_
    refine WL.done ?_
    refine W.seq ?_
    refine W.region rfl ?_
    refine WL.run to 3 rfl ?_
    refine WL.done ?_
    rcases iteE hX124 with ⟨hc201, hX124⟩ | ⟨hc201, hX124⟩
    ·refine W.condT (congrArg Value.bool (decide_eq_true hc201)) ?_
     refine W.region rfl ?_
     refine WL.run to 3 rfl ?_
     let q1 : List Go.Value := [.int .i64 (a0.getD x140.toNat 0), .int .i64 x140]
     refine WL.val (Yl.build (places := [(0, 1), (1, 1)]) (cs := List.toArray q1) Tryz.underlying149 zr149 (pl149 _ Tryz.underlying149) (partsB (.cons rfl (.cons rfl .nil))) rfl) ?_
     obtain ⟨A202, c203, n204, p205, w206, hn207, hy208, C209, hR210⟩ := ev_lit1' (P := Tryz.prog) 149 Thand.K C141 Tryz.underlying143 ti149 ⟨by decide, by decide⟩ (⟨a0.getD x140.toNat 0, x140⟩ : Thand) (.agg (List.toArray q1)) (Thand.mk' _ (⟨a0.getD x140.toNat 0, x140⟩ : Thand)  )
     refine WL.val (hy208 _ _ _ rfl) ?_
     obtain ⟨hc211, hX124⟩ := guardE hX124
     obtain ⟨A212, c213, n214, p215, w216, hn217, hy218, C219, hR220⟩ := ev_append' (P := Tryz.prog) (cb := c203) 149 Thand.K [p205] [] C209 hR134 hn207 (Row.sl hR210) (Ctx.subI 0 C209 rfl) Tryz.underlying143 ti149 rfl zo149 (by decide) (by decide) (by simpa using hc211)
     have C221 : Ctx _ _ _ _ _ [p205, p215] := C219
     refine WL.val (hy218 _ _ _ _ rfl rfl) ?_
     refine WL.run to 1 rfl ?_
     refine WL.done ?_
     refine inB_n ?_
     refine W.region rfl ?_
     refine WL.run to 2 rfl ?_
     refine WL.done ?_
     have C222 : Ctx _ _ _ _ _ [p215] := Ctx.pick [1] C221 rfl
     exact thenE_n ⟨k181, Nat.lt_succ_self _, x128 ++ [(⟨a0.getD x140.toNat 0, x140⟩ : Thand)], wi64 (x136 + 1), wi64 (x140 + 1), A212, c213, n214, p215, rfl, rfl, rfl, rfl, rfl, rfl, rfl, C222, hn217, hR220, hX124⟩
    ·refine W.condF (congrArg Value.bool (decide_eq_false hc201)) ?_
     refine W.skip ?_
     refine inB_n ?_
     refine W.region rfl ?_
     refine WL.run to 2 rfl ?_
     refine WL.done ?_
     exact thenE_n ⟨k181, Nat.lt_succ_self _, x128, wi64 (x136 + 1), wi64 (x140 + 1), A129, c130, n131, p133, rfl, rfl, rfl, rfl, rfl, rfl, rfl, C141, hn132, hR134, hX124⟩
  ·refine W.condF (congrArg Value.bool (decide_eq_false hc183)) ?_
   refine W.exit ?_
   refine thenE_x ?_
   refine thenE_x ?_
   refine inB_here ?_
   cases hX124
   refine thenE_n ?_
   exact ⟨A129, c130, n131, p133, rfl, rfl, C141, hn132, hR134⟩
 ·rintro env_ w_ ⟨A115, c116, n117, p119, ho113, ho121, C123, hn118, hR120⟩
  apply kn env_ (.c ho113 (.c ho121 .n))
  refine W.seq ?_
  refine W.region rfl ?_
  refine WL.run to 4 rfl ?_
  refine WL.done ?_
  refine W.ret ?_
  simp only [Option.some.injEq, Prod.mk.injEq] at H
  obtain ⟨e223, e224⟩ := H
  subst e223 e224
  exact post_r (resE2 rfl rfl rfl) ⟨A115, c116, n117, p119, rfl, C123, hn118, hR120⟩
def crew_idle_Len.f (k : Nat) (a0 : List Thand) : Option Int := some (a0.length : Int)
set_option maxRecDepth 100000 in
set_option maxHeartbeats 4000000 in
theorem crew_idle_Len.calls (k : Nat) (w : World) (F : CH) (A1 : Option Addr) (c2 : Nat) (n3 : Nat) (a0 : List Thand) (hp : Pre w F []) (hn4 : n3 = a0.length) (hl5 : a0.length ≤ c2) (hm6 : c2 ≤ maxLen) (hS7 : Sl Thand.K F F A1 a0) (r0_ : Int) (H : crew_idle_Len.f k a0 = some r0_) :
    Calls Tryz.prog 138 #[.slice A1 n3 c2] w fun e w' => e = .returned (.int .i64 r0_) ∧ (∃ n_, w' = w.drewN n_) := by
 have C := Ctx.start hp
 generalize domL [] = D at C
 have W0 : ∃ n_, w = w.drewN n_ := ⟨0, rfl⟩
 unfold crew_idle_Len.f at H
 refine Calls.ofW Tryz.func138 rfl (by simp [Tryz.ntmps138]) ?_
 refine W.seq ?_
 refine W.region rfl ?_
 refine WL.run to 1 rfl ?_
 refine WL.done ?_
 refine W.seq ?_
 refine W.region rfl ?_
 refine WL.run to 1 rfl ?_
 refine WL.val (Yl.lenN (A := A1) (l := n3) (q := c2) (n := (a0.length : Int)) rfl Tryz.underlying143 (by omega)) ?_
 refine WL.run to 1 rfl ?_
 refine WL.done ?_
 refine W.ret ?_
 have e8 := Option.some.inj H
 subst e8
 exact post_r (resE1 rfl rfl) ⟨rfl, W0⟩
def crew_idle_Less.f (k : Nat) (a0 : List Thand) (a1 : Int) (a2 : Int) : Option Bool := if 0 ≤ a1 ∧ a1 < (a0.length : Int) then (if 0 ≤ a2 ∧ a2 < (a0.length : Int) then ((if ((a0.getD a1.toNat Thand.z).used) < ((a0.getD a2.toNat Thand.z).used) then (some (true)) else (if ((a0.getD a1.toNat Thand.z).used) = ((a0.getD a2.toNat Thand.z).used) then (some (decide (((a0.getD a1.toNat Thand.z).id) < ((a0.getD a2.toNat Thand.z).id)))) else (some (false)))).bind fun g32 => some g32) else none) else none
set_option maxRecDepth 100000 in
set_option maxHeartbeats 4000000 in
theorem crew_idle_Less.calls (k : Nat) (w : World) (F : CH) (A1 : Option Addr) (c2 : Nat) (n3 : Nat) (a0 : List Thand) (a1 : Int) (a2 : Int) (hp : Pre w F []) (hn4 : n3 = a0.length) (hl5 : a0.length ≤ c2) (hm6 : c2 ≤ maxLen) (hS7 : Sl Thand.K F F A1 a0) (r0_ : Bool) (H : crew_idle_Less.f k a0 a1 a2 = some r0_) :
    Calls Tryz.prog 139 #[.slice A1 n3 c2, .int .i64 a1, .int .i64 a2] w fun e w' => e = .returned (.bool r0_) ∧ (∃ n_, w' = w.drewN n_) := by
 have C := Ctx.start hp
 generalize domL [] = D at C
 have W0 : ∃ n_, w = w.drewN n_ := ⟨0, rfl⟩
 unfold crew_idle_Less.f at H
 refine Calls.ofW Tryz.func139 rfl (by simp [Tryz.ntmps139]) ?_
 refine W.seq ?_
 refine W.region rfl ?_
 refine WL.run to 1 rfl ?_
 refine WL.done ?_
 refine W.seq ?_
 refine W.region_quiet (by kernel_rfl) (by kernel_rfl) rfl ?_
 refine WQ.run to 2 rfl ?_
 obtain ⟨hc20, H⟩ := guardE H
 obtain ⟨b21, of22, hA23, he24⟩ := hS7 (by omega)
 refine WQ.vl (fun _ => Yl.elemAddr (i := a1) rfl rfl hA23 Tryz.underlying143 sz149 (by omega)) ?_
 refine WQ.run to 1 rfl ?_
 obtain ⟨cs25, hr26, hx27⟩ := he24 a1.toNat _ (getD_some (d := Thand.z) (by omega))
 obtain ⟨rfl⟩ := Thand.open hr26
 refine WQ.vl (fun _ => Yl.load (v := .int .i64 ((a0.getD a1.toNat Thand.z).used)) rfl Tryz.underlying3 rfl ((((C.drewN _).fro)).cell (hx27 0 _ rfl))) ?_
 refine WQ.run to 2 rfl ?_
 obtain ⟨hc28, H⟩ := guardE H
 refine WQ.vl (fun _ => Yl.elemAddr (i := a2) rfl rfl hA23 Tryz.underlying143 sz149 (by omega)) ?_
 refine WQ.run to 1 rfl ?_
 obtain ⟨cs29, hr30, hx31⟩ := he24 a2.toNat _ (getD_some (d := Thand.z) (by omega))
 obtain ⟨rfl⟩ := Thand.open hr30
 refine WQ.vl (fun _ => Yl.load (v := .int .i64 ((a0.getD a2.toNat Thand.z).used)) rfl Tryz.underlying3 rfl ((((C.drewN _).fro)).cell (hx31 0 _ rfl))) ?_
 refine WQ.run to 2 rfl ?_
 obtain ⟨g32, HE33, H⟩ := bindE H
 refine WQ.cut (fun env_ => env_ 6 = .bool g32) ?_ ?_
 ·rcases iteE HE33 with ⟨hc34, HE33⟩ | ⟨hc34, HE33⟩
  ·refine WQ.kn 18 (congrArg Value.bool (decide_eq_true hc34)) ?_
   refine WQ.offs 12 18 false rfl rfl ?_
   refine WQ.offs' 11 30 true rfl rfl ?_
   refine WQ.offs 1 18 false rfl rfl ?_
   refine WQ.run to 2 rfl ?_
   cases HE33
   exact WQ.done rfl
  ·refine WQ.kn 18 (congrArg Value.bool (decide_eq_false hc34)) ?_
   refine WQ.run to 2 rfl ?_
   refine WQ.vOn rfl rfl (fun _ => Yl.elemAddr (i := a1) rfl rfl hA23 Tryz.underlying143 sz149 (by omega)) ?_
   refine WQ.run to 1 rfl ?_
   refine WQ.vOn rfl rfl (fun _ => Yl.load (v := .int .i64 ((a0.getD a1.toNat Thand.z).used)) rfl Tryz.underlying3 rfl ((((C.drewN _).fro)).cell (hx27 0 _ rfl))) ?_
   refine WQ.run to 2 rfl ?_
   refine WQ.vOn rfl rfl (fun _ => Yl.elemAddr (i := a2) rfl rfl hA23 Tryz.underlying143 sz149 (by omega)) ?_
   refine WQ.run to 1 rfl ?_
   refine WQ.vOn rfl rfl (fun _ => Yl.load (v := .int .i64 ((a0.getD a2.toNat Thand.z).used)) rfl Tryz.underlying3 rfl ((((C.drewN _).fro)).cell (hx31 0 _ rfl))) ?_
   refine WQ.run to 2 rfl ?_
   rcases iteE HE33 with ⟨hc35, HE33⟩ | ⟨hc35, HE33⟩
   ·refine WQ.kn 30 (congrArg Value.bool (decide_eq_true hc35)) ?_
    refine WQ.run to 2 rfl ?_
    refine WQ.vOn rfl rfl (fun _ => Yl.elemAddr (i := a1) rfl rfl hA23 Tryz.underlying143 sz149 (by omega)) ?_
    refine WQ.run to 1 rfl ?_
    refine WQ.vOn rfl rfl (fun _ => Yl.load (v := .int .i64 ((a0.getD a1.toNat Thand.z).id)) rfl Tryz.underlying3 rfl ((((C.drewN _).fro)).cell (hx27 1 _ rfl))) ?_
    refine WQ.run to 2 rfl ?_
    refine WQ.vOn rfl rfl (fun _ => Yl.elemAddr (i := a2) rfl rfl hA23 Tryz.underlying143 sz149 (by omega)) ?_
    refine WQ.run to 1 rfl ?_
    refine WQ.vOn rfl rfl (fun _ => Yl.load (v := .int .i64 ((a0.getD a2.toNat Thand.z).id)) rfl Tryz.underlying3 rfl ((((C.drewN _).fro)).cell (hx31 1 _ rfl))) ?_
    refine WQ.run to 4 rfl ?_
    cases HE33
    exact WQ.done rfl
   ·refine WQ.kn 30 (congrArg Value.bool (decide_eq_false hc35)) ?_
    refine WQ.offs 11 30 true rfl rfl ?_
    refine WQ.run to 3 rfl ?_
    cases HE33
    exact WQ.done rfl
 ·rintro env_ ho36
  intro nq37
  have C38 := Ctx.drewN C nq37
  have Wq39 := drew_more W0 nq37
  apply kn env_ (.c ho36 .n)
  refine W.ret ?_
  have e40 := Option.some.inj H
  subst e40
  exact post_r (resE1 rfl rfl) ⟨rfl, Wq39⟩
def crew_idle_Swap.f (k : Nat) (a0 : List Thand) (a1 : Int) (a2 : Int) : Option (List Thand) := if 0 ≤ a2 ∧ a2 < (a0.length : Int) then (if 0 ≤ a1 ∧ a1 < (a0.length : Int) then ((some (a0.set a1.toNat (a0.getD a2.toNat Thand.z))).bind fun xs76 => if 0 ≤ a2 ∧ a2 < (xs76.length : Int) then ((some (xs76.set a2.toNat (a0.getD a1.toNat Thand.z))).bind fun xs91 => some xs91) else none) else none) else none
set_option maxRecDepth 100000 in
set_option maxHeartbeats 4000000 in
theorem crew_idle_Swap.calls (k : Nat) (w : World) (F : CH) (A1 : Option Addr) (c2 : Nat) (n3 : Nat) (p5 : CH) (a0 : List Thand) (a1 : Int) (a2 : Int) (hp : Pre w F [p5]) (hn4 : n3 = a0.length) (hR6 : Row Thand.K F p5 (.slice A1 n3 c2) a0) (r0_ : List Thand) (H : crew_idle_Swap.f k a0 a1 a2 = some r0_) :
    Calls Tryz.prog 140 #[.slice A1 n3 c2, .int .i64 a1, .int .i64 a2] w fun e w' => ∃ (p95 : CH), e = .returned (.tuple #[]) ∧ Ctx w F (domL [p5]) w' F [p95] ∧ n3 = r0_.length ∧ Row Thand.K F p95 (.slice A1 n3 c2) r0_ := by
 have C := Ctx.start hp
 generalize hD : domL [p5] = D at C ⊢
 unfold crew_idle_Swap.f at H
 refine Calls.ofW Tryz.func140 rfl (by simp [Tryz.ntmps140]) ?_
 refine W.regionA [([13, 15], p5)] (by kernel_rfl) ?_
 have C44 := Ctx.drewN C 1
 refine WA.takes [(0, none), (1, none), (2, none), (3, none), (4, none), (5, none), (6, none), (7, some 0), (8, none), (9, none), (10, none), (11, some 0), (12, none)] ⟨(Ctx.subI 0 C44 rfl), trivial⟩ (by kernel_rfl) ?_
 refine WT.run to 6 rfl ?_
 obtain ⟨hc57, H⟩ := guardE H
 obtain ⟨b58, of59, hA60, he61⟩ := (Row.sl hR6) (by omega)
 refine WT.val rfl (fun _ hC_ => Yl.elemAddr (i := a2) rfl rfl hA60 Tryz.underlying143 sz149 (by omega)) ?_
 obtain ⟨cs62, hr63, hx64⟩ := he61 a2.toNat _ (getD_some (d := Thand.z) (by omega))
 obtain ⟨rfl⟩ := Thand.open hr63
 let q1 : List Go.Value := [.int .i64 ((a0.getD a2.toNat Thand.z).used), .int .i64 ((a0.getD a2.toNat Thand.z).id)]
 refine WT.val rfl (fun _ hC_ => Yl.loadAgg (cs := q1) rfl Tryz.underlying149 rfl sz149 (fun j u hu => by rw [add_of]; exact ((show Sub p5 _ from hC_)).cell (hx64 _ _ hu))) ?_
 refine WT.run to 2 rfl ?_
 obtain ⟨hc65, H⟩ := guardE H
 refine WT.val rfl (fun _ hC_ => Yl.elemAddr (i := a1) rfl rfl hA60 Tryz.underlying143 sz149 (by omega)) ?_
 obtain ⟨cs66, hr67, hx68⟩ := he61 a1.toNat _ (getD_some (d := Thand.z) (by omega))
 obtain ⟨rfl⟩ := Thand.open hr67
 let q2 : List Go.Value := [.int .i64 ((a0.getD a1.toNat Thand.z).used), .int .i64 ((a0.getD a1.toNat Thand.z).id)]
 refine WT.val rfl (fun _ hC_ => Yl.loadAgg (cs := q2) rfl Tryz.underlying149 rfl sz149 (fun j u hu => by rw [add_of]; exact ((show Sub p5 _ from hC_)).cell (hx68 _ _ hu))) ?_
 refine WT.val rfl (fun _ hC_ => Yl.elemAddr (i := a1) rfl rfl hA60 Tryz.underlying143 sz149 (by omega)) ?_
 refine WT.done ?_
 have hj74 : a1.toNat < a0.length := by first | omega | (simp only [List.length_set, List.length_replicate] at *; omega)
 obtain ⟨p69, w70, hy71, C72, hR73⟩ := ev_store (P := Tryz.prog) (t := 149) Thand.K [] [] C44 hR6 hA60 a1.toNat 0 hj74 Thand.z (.agg (List.toArray q1)) (q1) rfl (ones_of rfl) (Nat.le_of_ble_eq_true rfl) sz149 (a0.getD a2.toNat Thand.z) (fun _ h_ => rep_whole h_ (Thand.mk' _ (a0.getD a2.toNat Thand.z)  )) ⟨b58, of59 + a1.toNat * 2, none⟩ rfl
 have hn75 : n3 = (a0.set a1.toNat (a0.getD a2.toNat Thand.z)).length := by rw [List.length_set]; omega
 obtain ⟨xs76, hx77, H⟩ := bindE H
 replace hx77 := Option.some.inj hx77
 rw [hx77] at hR73 hn75
 have C78 : Ctx _ _ _ _ _ [p69] := C72
 refine WA.up1 13 (by kernel_rfl) (Up.skip rfl rfl (hy71 _ _ _ _ rfl rfl) ⟨trivial, trivial⟩ ?_)
 obtain ⟨hc79, H⟩ := guardE H
 obtain ⟨b80, of81, hA82, he83⟩ := (Row.sl hR73) (by omega)
 refine WA.take none [] 14 rfl (by kernel_rfl) (by kernel_rfl) rfl trivial ⟨trivial, trivial⟩ (fun _ hC_ => Yl.elemAddr (i := a2) rfl rfl hA82 Tryz.underlying143 sz149 (by omega)) ?_
 have hj89 : a2.toNat < xs76.length := by first | omega | (simp only [List.length_set, List.length_replicate] at *; omega)
 obtain ⟨p84, w85, hy86, C87, hR88⟩ := ev_store (P := Tryz.prog) (t := 149) Thand.K [] [] C78 hR73 hA82 a2.toNat 0 hj89 Thand.z (.agg (List.toArray q2)) (q2) rfl (ones_of rfl) (Nat.le_of_ble_eq_true rfl) sz149 (a0.getD a1.toNat Thand.z) (fun _ h_ => rep_whole h_ (Thand.mk' _ (a0.getD a1.toNat Thand.z)  )) ⟨b80, of81 + a2.toNat * 2, none⟩ rfl
 have hn90 : n3 = (xs76.set a2.toNat (a0.getD a1.toNat Thand.z)).length := by rw [List.length_set]; omega
 obtain ⟨xs91, hx92, H⟩ := bindE H
 replace hx92 := Option.some.inj hx92
 rw [hx92] at hR88 hn90
 have C93 : Ctx _ _ _ _ _ [p84] := C87
 refine WA.up1 15 (by kernel_rfl) (Up.skip rfl rfl (hy86 _ _ _ _ rfl rfl) ⟨trivial, trivial⟩ ?_)
 refine WA.done (by kernel_rfl) ?_
 have e94 := Option.some.inj H
 subst e94
 exact post_n (resE0 rfl ) ⟨p84, rfl, C93, hn90, hR88⟩
def crew_idle_Pop.f (k : Nat) (a0 : List Thand) : Option (Thand × (List Thand)) := if 0 ≤ (wi64 ((a0.length : Int) - 1)) ∧ (wi64 ((a0.length : Int) - 1)) < (a0.length : Int) then (if 0 ≤ (wi64 ((a0.length : Int) - 1)) ∧ (wi64 ((a0.length : Int) - 1)) ≤ (a0.length : Int) then (some (a0.getD (wi64 ((a0.length : Int) - 1)).toNat Thand.z, a0.take (wi64 ((a0.length : Int) - 1)).toNat)) else none) else none
set_option maxRecDepth 100000 in
set_option maxHeartbeats 4000000 in
theorem crew_idle_Pop.calls (k : Nat) (w : World) (F : CH) (g1 : Nat) (o2 : Nat) (A3 : Option Addr) (c4 : Nat) (n5 : Nat) (p7 : CH) (a0 : List Thand) (hp : Pre w F [CH.row g1 o2 [.slice A3 n5 c4], p7]) (hn6 : n5 = a0.length) (hR8 : Row Thand.K F p7 (.slice A3 n5 c4) a0) (r0_ : Thand) (r1_ : List Thand) (H : crew_idle_Pop.f k a0 = some (r0_, r1_)) :
    Calls Tryz.prog 141 #[.pointer (some ⟨g1, o2, none⟩)] w fun e w' => ∃ (A36 : Option Addr) (c37 : Nat) (n38 : Nat) (p40 : CH), e = .returned (.iface 149 (.agg (List.toArray [.int .i64 r0_.used, .int .i64 r0_.id]))) ∧ Ctx w F (domL [CH.row g1 o2 [.slice A3 n5 c4], p7]) w' F [CH.row g1 o2 [.slice A36 n38 c37], p40] ∧ n38 = r1_.length ∧ Row Thand.K F p40 (.slice A36 n38 c37) r1_ := by
 have C := Ctx.start hp
 generalize hD : domL [CH.row g1 o2 [.slice A3 n5 c4], p7] = D at C ⊢
 unfold crew_idle_Pop.f at H
 refine Calls.ofW Tryz.func141 rfl (by simp [Tryz.ntmps141]) ?_
 refine W.seq ?_
 refine W.region rfl ?_
 refine WL.run to 1 rfl ?_
 refine WL.done ?_
 refine W.seq ?_
 refine W.region rfl ?_
 refine WL.run to 2 rfl ?_
 refine WL.val (Yl.loadV (g := g1) (off := o2) (o := 0) (cs := [.slice A3 n5 c4]) (v := .slice A3 n5 c4) rfl Tryz.underlying143 rfl (Ctx.subI 0 C rfl) rfl) ?_
 refine WL.val (Yl.lenN (A := A3) (l := n5) (q := c4) (n := (a0.length : Int)) rfl Tryz.underlying143 (by omega)) ?_
 refine WL.run to 2 rfl ?_
 refine WL.done ?_
 refine W.seq ?_
 refine W.region rfl ?_
 refine WL.run to 2 rfl ?_
 refine WL.val (Yl.loadV (g := g1) (off := o2) (o := 0) (cs := [.slice A3 n5 c4]) (v := .slice A3 n5 c4) rfl Tryz.underlying143 rfl (Ctx.subI 0 C rfl) rfl) ?_
 refine WL.run to 1 rfl ?_
 obtain ⟨hc9, H⟩ := guardE H
 obtain ⟨b10, of11, hA12, he13⟩ := (Row.sl hR8) (by omega)
 refine WL.val (Yl.elemAddr (i := wi64 ((a0.length : Int) - 1)) rfl rfl hA12 Tryz.underlying143 sz149 (by omega)) ?_
 obtain ⟨cs14, hr15, hx16⟩ := he13 (wi64 ((a0.length : Int) - 1)).toNat _ (getD_some (d := Thand.z) (by omega))
 obtain ⟨rfl⟩ := Thand.open hr15
 let q1 : List Go.Value := [.int .i64 ((a0.getD (wi64 ((a0.length : Int) - 1)).toNat Thand.z).used), .int .i64 ((a0.getD (wi64 ((a0.length : Int) - 1)).toNat Thand.z).id)]
 refine WL.val (Yl.loadAgg (cs := q1) rfl Tryz.underlying149 rfl sz149 (fun j u hu => by rw [add_of]; exact ((Ctx.subI 1 C rfl)).cell (hx16 _ _ hu))) ?_
 obtain ⟨g17, w18, hy19, C20⟩ := ev_alloc (P := Tryz.prog) (e := 149) [.int .i64 0, .int .i64 0] C zr149 rfl
 refine WL.val (hy19 _ _) ?_
 let v2 : CH := CH.row g1 o2 [.slice A3 n5 c4]
 obtain ⟨w21, hy22, C23⟩ := ev_setI (P := Tryz.prog) (ps1 := []) (ps2 := [v2, p7]) (t := 149) 0 q1 (.agg (List.toArray q1)) C20 rfl rfl (ones_of rfl) sz149
 have C24 : Ctx _ _ _ _ _ [CH.row g17 0 q1, v2, p7] := C23
 refine WL.skip (hy22 _ _ _ _ rfl rfl) ?_
 refine WL.done ?_
 refine W.seq ?_
 refine W.region rfl ?_
 refine WL.run to 3 rfl ?_
 refine WL.val (Yl.loadV (g := g1) (off := o2) (o := 0) (cs := [.slice A3 n5 c4]) (v := .slice A3 n5 c4) rfl Tryz.underlying143 rfl (Ctx.subI 1 C24 rfl) rfl) ?_
 refine WL.run to 1 rfl ?_
 obtain ⟨hc25, H⟩ := guardE H
 have hl28 := (Row.len_le hR8).1
 obtain ⟨hn26, hR27⟩ := Row.take hR8 (wi64 ((a0.length : Int) - 1)).toNat (by omega)
 refine WL.val (Yl.sliceHi rfl Tryz.underlying143 sz149 rfl ⟨hc25.1, by omega⟩) ?_
 refine WL.run to 1 rfl ?_
 let q3 : List Go.Value := [.slice A3 ((wi64 ((a0.length : Int) - 1)).toNat) c4]
 obtain ⟨w29, hy30, C31⟩ := ev_setI (P := Tryz.prog) (ps1 := [CH.row g17 0 q1]) (ps2 := [p7]) (t := 143) 0 q3 (.slice A3 ((wi64 ((a0.length : Int) - 1)).toNat) c4) C24 rfl rfl (ones_of rfl) sz143
 have C32 : Ctx _ _ _ _ _ [CH.row g17 0 q1, CH.row g1 o2 q3, p7] := C31
 refine WL.skip (hy30 _ _ _ _ rfl rfl) ?_
 refine WL.done ?_
 refine W.seq ?_
 refine W.region rfl ?_
 refine WL.val (Yl.loadVA (g := g17) (off := 0) (o := 0) (cs := q1) (us := q1) rfl Tryz.underlying149 rfl sz149 (Ctx.subI 0 C32 rfl) rfl) ?_
 refine WL.val (Yl.mkIface (v := .agg (List.toArray q1)) rfl Tryz.underlying149 rfl) ?_
 refine WL.run to 1 rfl ?_
 refine WL.done ?_
 refine W.ret ?_
 have C33 : Ctx _ _ _ _ _ [CH.row g1 o2 q3, p7] := Ctx.pick [1, 2] C32 rfl
 simp only [Option.some.injEq, Prod.mk.injEq] at H
 obtain ⟨e34, e35⟩ := H
 subst e34 e35
 exact post_r (resE1 rfl rfl) ⟨A3, c4, (wi64 ((a0.length : Int) - 1)).toNat, p7, rfl, C33, hn26, hR27⟩
def heap_down.l1 : Nat → Int → Int → List Thand → Option (Int × (List Thand))
  | 0, _, _, _ => none
  | k + 1, a2, x420, x421 => if ((decide ((wi64 ((wi64 (2 * x420)) + 1)) ≥ a2)) || (decide ((wi64 ((wi64 (2 * x420)) + 1)) < 0))) = true then (some (x420, x421)) else (((if (wi64 ((wi64 ((wi64 (2 * x420)) + 1)) + 1)) < a2 then ((crew_idle_Less.f k x421 (wi64 ((wi64 ((wi64 (2 * x420)) + 1)) + 1)) (wi64 ((wi64 (2 * x420)) + 1))).bind fun r593 => some r593) else (some false)).bind fun x584 => if x584 = true then (some (wi64 ((wi64 ((wi64 (2 * x420)) + 1)) + 1))) else (some (wi64 ((wi64 (2 * x420)) + 1)))).bind fun x565 => (crew_idle_Less.f k x421 x565 x420).bind fun r602 => if r602 = true then ((crew_idle_Swap.f k x421 x420 x565).bind fun r608 => heap_down.l1 k a2 x565 r608) else (some (x420, x421)))
def heap_down.f (k : Nat) (a0 : List Thand) (a1 : Int) (a2 : Int) : Option (Bool × (List Thand)) := (heap_down.l1 k a2 a1 a0).bind fun ⟨x308, x309⟩ => some (decide (x308 > a1), x309)
set_option maxRecDepth 100000 in
set_option maxHeartbeats 4000000 in
theorem heap_down.calls (k : Nat) (w : World) (F : CH) (g1 : Nat) (o2 : Nat) (A3 : Option Addr) (c4 : Nat) (n5 : Nat) (p7 : CH) (a0 : List Thand) (a1 : Int) (a2 : Int) (hp : Pre w F [CH.row g1 o2 [.slice A3 n5 c4], p7]) (hn6 : n5 = a0.length) (hR8 : Row Thand.K F p7 (.slice A3 n5 c4) a0) (r0_ : Bool) (r1_ : List Thand) (H : heap_down.f k a0 a1 a2 = some (r0_, r1_)) :
    Calls Tryz.prog 98 #[.iface 147 (.pointer (some ⟨g1, o2, none⟩)), .int .i64 a1, .int .i64 a2] w fun e w' => ∃ (A617 : Option Addr) (c618 : Nat) (n619 : Nat) (p621 : CH), e = .returned (.bool r0_) ∧ Ctx w F (domL [CH.row g1 o2 [.slice A3 n5 c4], p7]) w' F [CH.row g1 o2 [.slice A617 n619 c618], p621] ∧ n619 = r1_.length ∧ Row Thand.K F p621 (.slice A617 n619 c618) r1_ := by
 have C := Ctx.start hp
 generalize hD : domL [CH.row g1 o2 [.slice A3 n5 c4], p7] = D at C ⊢
 unfold heap_down.f at H
 refine Calls.ofW Tryz.func98 rfl (by simp [Tryz.ntmps98]) ?_
 refine W.seq ?_
 refine W.region rfl ?_
 refine WL.run to 1 rfl ?_
 refine WL.done ?_
 refine W.seq ?_
 refine W.region rfl ?_
 refine WL.run to 2 rfl ?_
 refine WL.done ?_
 refine W.seq ?_
 obtain ⟨⟨x308, x309⟩, hX317, H⟩ := bindE H
 refine W.cutM (fun env_ w_ => ∃ (A310 : Option Addr) (c311 : Nat) (n312 : Nat) (p314 : CH), env_ 1 = .int .i64 a1 ∧ env_ 7 = .int .i64 x308 ∧ Ctx w F D w_ F [CH.row g1 o2 [.slice A310 n312 c311], p314] ∧ n312 = x309.length ∧ Row Thand.K F p314 (.slice A310 n312 c311) x309) ?_ ?_
 ·refine W.block ?_
  refine W.loop (fun g_ env_ w_ => ∃ (x420 : Int) (x421 : List Thand) (A422 : Option Addr) (c423 : Nat) (n424 : Nat) (p426 : CH), env_ 0 = .iface 147 (.pointer (some ⟨g1, o2, none⟩)) ∧ env_ 1 = .int .i64 a1 ∧ env_ 2 = .int .i64 a2 ∧ env_ 7 = .int .i64 x420 ∧ Ctx w F D w_ F [CH.row g1 o2 [.slice A422 n424 c423], p426] ∧ n424 = x421.length ∧ Row Thand.K F p426 (.slice A422 n424 c423) x421 ∧ heap_down.l1 g_ a2 x420 x421 = some (x308, x309)) k ⟨a1, a0, A3, c4, n5, p7, rfl, rfl, rfl, rfl, C, hn6, hR8, hX317⟩ ?_
  clear hX317
  rintro g_ env_ w_ ⟨x420, x421, A422, c423, n424, p426, ho416, ho417, ho418, ho419, C428, hn425, hR427, hX317⟩
  rcases g_ with _ | k521
  · exact absurd hX317 (by simp [heap_down.l1])
  rw [heap_down.l1] at hX317
  apply kn env_ (.c ho416 (.c ho417 (.c ho418 (.c ho419 .n))))
  refine W.block ?_
  refine W.seq ?_
  refine W.region rfl ?_
  refine WL.run to 4 rfl ?_
  refine WL.done ?_
  refine W.seq ?_
  refine W.seq ?_
  refine W.region rfl ?_
  refine WL.run to 4 rfl ?_
  let v1 : CH := CH.row g1 o2 [.slice A422 n424 c423]
  refine WL.cut (fun env_ w_ => env_ 21 = .bool ((decide ((wi64 ((wi64 (2 * x420)) + 1)) ≥ a2)) || (decide ((wi64 ((wi64 (2 * x420)) + 1)) < 0))) ∧ env_ 0 = .iface 147 (.pointer (some ⟨g1, o2, none⟩)) ∧ env_ 1 = .int .i64 a1 ∧ env_ 2 = .int .i64 a2 ∧ env_ 7 = .int .i64 x420 ∧ env_ 8 = .int .i64 (wi64 ((wi64 (2 * x420)) + 1)) ∧ Ctx w F D w_ F [v1, p426]) ?_ ?_
  ·rcases Bool.eq_false_or_eq_true (decide ((wi64 ((wi64 (2 * x420)) + 1)) ≥ a2)) with hb522 | hb522
   ·refine WL.kn 18 (congrArg Value.bool hb522) ?_
    refine WL.offs 2 18 false rfl rfl ?_
    refine WL.run to 1 rfl ?_
    exact WL.done ⟨(congrArg Value.bool (show true = ((decide ((wi64 ((wi64 (2 * x420)) + 1)) ≥ a2)) || (decide ((wi64 ((wi64 (2 * x420)) + 1)) < 0))) from by simp [hb522])), rfl, rfl, rfl, rfl, rfl, C428⟩
   ·refine WL.kn 18 (congrArg Value.bool hb522) ?_
    refine WL.run to 3 rfl ?_
    exact WL.done ⟨(congrArg Value.bool (show (decide ((wi64 ((wi64 (2 * x420)) + 1)) < 0)) = ((decide ((wi64 ((wi64 (2 * x420)) + 1)) ≥ a2)) || (decide ((wi64 ((wi64 (2 * x420)) + 1)) < 0))) from by simp [hb522])), rfl, rfl, rfl, rfl, rfl, C428⟩
  ·rintro env_ w_ ⟨ho523, ho524, ho525, ho526, ho527, ho528, C529⟩
   apply kn env_ (.c ho523 (.c ho524 (.c ho525 (.c ho526 (.c ho527 (.c ho528 .n))))))
   rcases iteE hX317 with ⟨hc530, hX317⟩ | ⟨hc530, hX317⟩
   ·refine W.condT (congrArg Value.bool hc530) ?_
    refine W.exit ?_
    refine thenE_x ?_
    refine inB_x rfl ?_
    refine thenE_x ?_
    refine inB_here ?_
    cases hX317
    refine thenE_n ?_
    exact ⟨A422, c423, n424, p426, rfl, rfl, C529, hn425, hR427⟩
   ·refine W.condF (congrArg Value.bool (Bool.eq_false_iff.2 hc530)) ?_
    refine W.skip ?_
    refine W.seq ?_
    refine W.region rfl ?_
    refine WL.run to 2 rfl ?_
    refine WL.done ?_
    refine W.seq ?_
    obtain ⟨x565, hX567, hX317⟩ := bindE hX317
    refine W.cutM (fun env_ w_ => env_ 0 = .iface 147 (.pointer (some ⟨g1, o2, none⟩)) ∧ env_ 1 = .int .i64 a1 ∧ env_ 2 = .int .i64 a2 ∧ env_ 7 = .int .i64 x420 ∧ env_ 9 = .int .i64 x565 ∧ Ctx w F D w_ F [v1, p426]) ?_ ?_
    ·refine W.seq ?_
     refine W.region rfl ?_
     refine WL.run to 3 rfl ?_
     refine WL.done ?_
     refine W.seq ?_
     obtain ⟨x584, hX586, hX567⟩ := bindE hX567
     refine W.cutM (fun env_ w_ => env_ 0 = .iface 147 (.pointer (some ⟨g1, o2, none⟩)) ∧ env_ 1 = .int .i64 a1 ∧ env_ 2 = .int .i64 a2 ∧ env_ 7 = .int .i64 x420 ∧ env_ 9 = .int .i64 (wi64 ((wi64 (2 * x420)) + 1)) ∧ env_ 10 = .int .i64 (wi64 ((wi64 ((wi64 (2 * x420)) + 1)) + 1)) ∧ env_ 33 = .bool x584 ∧ Ctx w F D w_ F [v1, p426]) ?_ ?_
     ·refine W.region rfl ?_
      refine WL.run to 4 rfl ?_
      rcases iteE hX586 with ⟨hc587, hX586⟩ | ⟨hc587, hX586⟩
      ·refine WL.kn 28 (congrArg Value.bool (decide_eq_true hc587)) ?_
       refine WL.run to 3 rfl ?_
       refine WL.on rfl rfl ?_
       obtain ⟨F588, le589, lp590, (C591 : Ctx _ _ _ _ _ [v1])⟩ := Ctx.fzI 1 C529 rfl
       obtain ⟨r593, hg592, hX586⟩ := bindE hX586
       refine WL.callH (crew_idle_Less.calls k521 _ F588 A422 c423 n424 x421 (wi64 ((wi64 ((wi64 (2 * x420)) + 1)) + 1)) (wi64 ((wi64 (2 * x420)) + 1)) C591.pre0 hn425 (Row.len_le hR427).1 (Row.len_le hR427).2.1 (Sl.mono (Row.sl hR427) le589 lp590) r593 hg592) (Yenter.invV (v := .slice A422 n424 c423) rfl (by kernel_rfl) Tryz.underlying147 (run_loadV1 (o := 0) (cs := [.slice A422 n424 c423]) (v := .slice A422 n424 c423) Tryz.underlying143 rfl (Ctx.subI 0 C529 rfl) rfl) Tryz.func139 (by kernel_rfl) rfl (argsE (.cons rfl (.cons rfl .nil)))) ?_
       rintro e_ w_ ⟨rfl, ⟨m594, rfl⟩⟩
       refine ⟨_, rfl, ?_⟩
       have C595 := Ctx.drewN C529 m594
       refine WL.run to 1 rfl ?_
       refine WL.done ?_
       cases hX586
       refine thenE_n ?_
       exact ⟨rfl, rfl, rfl, rfl, rfl, rfl, rfl, C595⟩
      ·refine WL.kn 28 (congrArg Value.bool (decide_eq_false hc587)) ?_
       refine WL.offs 4 28 true rfl rfl ?_
       refine WL.run to 1 rfl ?_
       refine WL.done ?_
       cases hX586
       refine thenE_n ?_
       exact ⟨rfl, rfl, rfl, rfl, rfl, rfl, rfl, C529⟩
     ·rintro env_ w_ ⟨ho577, ho578, ho579, ho580, ho581, ho582, ho583, C585⟩
      apply kn env_ (.c ho577 (.c ho578 (.c ho579 (.c ho580 (.c ho581 (.c ho582 (.c ho583 .n)))))))
      rcases iteE hX567 with ⟨hc596, hX567⟩ | ⟨hc596, hX567⟩
      ·refine W.condT (congrArg Value.bool hc596) ?_
       refine W.region rfl ?_
       refine WL.run to 2 rfl ?_
       refine WL.done ?_
       cases hX567
       refine thenE_n ?_
       exact ⟨rfl, rfl, rfl, rfl, rfl, C585⟩
      ·refine W.condF (congrArg Value.bool (Bool.eq_false_iff.2 hc596)) ?_
       refine W.skip ?_
       cases hX567
       refine thenE_n ?_
       exact ⟨rfl, rfl, rfl, rfl, rfl, C585⟩
    ·rintro env_ w_ ⟨ho560, ho561, ho562, ho563, ho564, C566⟩
     apply kn env_ (.c ho560 (.c ho561 (.c ho562 (.c ho563 (.c ho564 .n)))))
     refine W.seq ?_
     refine W.seq ?_
     refine W.region rfl ?_
     refine WL.run to 3 rfl ?_
     obtain ⟨F597, le598, lp599, (C600 : Ctx _ _ _ _ _ [v1])⟩ := Ctx.fzI 1 C566 rfl
     obtain ⟨r602, hg601, hX317⟩ := bindE hX317
     refine WL.callH (crew_idle_Less.calls k521 _ F597 A422 c423 n424 x421 x565 x420 C600.pre0 hn425 (Row.len_le hR427).1 (Row.len_le hR427).2.1 (Sl.mono (Row.sl hR427) le598 lp599) r602 hg601) (Yenter.invV (v := .slice A422 n424 c423) rfl (by kernel_rfl) Tryz.underlying147 (run_loadV1 (o := 0) (cs := [.slice A422 n424 c423]) (v := .slice A422 n424 c423) Tryz.underlying143 rfl (Ctx.subI 0 C566 rfl) rfl) Tryz.func139 (by kernel_rfl) rfl (argsE (.cons rfl (.cons rfl .nil)))) ?_
     rintro e_ w_ ⟨rfl, ⟨m603, rfl⟩⟩
     refine ⟨_, rfl, ?_⟩
     have C604 := Ctx.drewN C566 m603
     refine WL.run to 1 rfl ?_
     refine WL.done ?_
     rcases iteE hX317 with ⟨hc605, hX317⟩ | ⟨hc605, hX317⟩
     ·refine W.condF (congrArg Value.bool (nb_t hc605)) ?_
      refine W.skip ?_
      refine W.seq ?_
      refine W.region rfl ?_
      refine WL.run to 3 rfl ?_
      have C606 : Ctx _ _ _ _ _ [p426, v1] := Ctx.pick [1, 0] C604 rfl
      obtain ⟨r608, hg607, hX317⟩ := bindE hX317
      refine WL.callH (crew_idle_Swap.calls k521 _ F A422 c423 n424 p426 x421 x420 x565 (Ctx.pre (qs := [p426]) (rest := [v1]) C606) hn425 hR427 r608 hg607) (Yenter.invV (v := .slice A422 n424 c423) rfl (by kernel_rfl) Tryz.underlying147 (run_loadV1 (o := 0) (cs := [.slice A422 n424 c423]) (v := .slice A422 n424 c423) Tryz.underlying143 rfl (Ctx.subI 0 C604 rfl) rfl) Tryz.func140 (by kernel_rfl) rfl (argsE (.cons rfl (.cons rfl .nil)))) ?_
      rintro e_ w_ ⟨p609, rfl, C612, hn611, hR610⟩
      refine ⟨_, rfl, ?_⟩
      have C613 : Ctx _ _ _ _ _ [p609, v1] := Ctx.call (qs := [p426]) (rest := [v1]) C606 C612
      refine WL.done ?_
      refine W.region rfl ?_
      refine WL.run to 2 rfl ?_
      refine WL.done ?_
      refine inB_n ?_
      have C614 : Ctx _ _ _ _ _ [v1, p609] := Ctx.pick [1, 0] C613 rfl
      exact thenE_n ⟨k521, Nat.lt_succ_self _, x565, r608, A422, c423, n424, p609, rfl, rfl, rfl, rfl, C614, hn611, hR610, hX317⟩
     ·refine W.condT (congrArg Value.bool (nb_f hc605)) ?_
      refine W.exit ?_
      refine thenE_x ?_
      refine inB_x rfl ?_
      refine thenE_x ?_
      refine inB_here ?_
      cases hX317
      refine thenE_n ?_
      exact ⟨A422, c423, n424, p426, rfl, rfl, C604, hn425, hR427⟩
 ·rintro env_ w_ ⟨A310, c311, n312, p314, ho306, ho307, C316, hn313, hR315⟩
  apply kn env_ (.c ho306 (.c ho307 .n))
  refine W.seq ?_
  refine W.region rfl ?_
  refine WL.run to 4 rfl ?_
  refine WL.done ?_
  refine W.ret ?_
  simp only [Option.some.injEq, Prod.mk.injEq] at H
  obtain ⟨e615, e616⟩ := H
  subst e615 e616
  exact post_r (resE1 rfl rfl) ⟨A310, c311, n312, p314, rfl, C316, hn313, hR315⟩
def heap_Init.l1 : Nat → Int → Int → List Thand → Option (List Thand)
  | 0, _, _, _ => none
  | k + 1, r14, x100, x101 => if x100 ≥ 0 then ((heap_down.f k x101 x100 r14).bind fun ⟨r124, r125⟩ => heap_Init.l1 k r14 (wi64 (x100 - 1)) r125) else (some x101)
def heap_Init.f (k : Nat) (a0 : List Thand) : Option (List Thand) := (crew_idle_Len.f k a0).bind fun r14 => (heap_Init.l1 k r14 (wi64 ((wi64 (r14.tdiv 2)) - 1)) a0).bind fun x71 => some x71
set_option maxRecDepth 100000 in
set_option maxHeartbeats 4000000 in
theorem heap_Init.calls (k : Nat) (w : World) (F : CH) (g1 : Nat) (o2 : Nat) (A3 : Option Addr) (c4 : Nat) (n5 : Nat) (p7 : CH) (a0 : List Thand) (hp : Pre w F [CH.row g1 o2 [.slice A3 n5 c4], p7]) (hn6 : n5 = a0.length) (hR8 : Row Thand.K F p7 (.slice A3 n5 c4) a0) (r0_ : List Thand) (H : heap_Init.f k a0 = some r0_) :
    Calls Tryz.prog 92 #[.iface 147 (.pointer (some ⟨g1, o2, none⟩))] w fun e w' => ∃ (A135 : Option Addr) (c136 : Nat) (n137 : Nat) (p139 : CH), e = .returned (.tuple #[]) ∧ Ctx w F (domL [CH.row g1 o2 [.slice A3 n5 c4], p7]) w' F [CH.row g1 o2 [.slice A135 n137 c136], p139] ∧ n137 = r0_.length ∧ Row Thand.K F p139 (.slice A135 n137 c136) r0_ := by
 have C := Ctx.start hp
 generalize hD : domL [CH.row g1 o2 [.slice A3 n5 c4], p7] = D at C ⊢
 unfold heap_Init.f at H
 refine Calls.ofW Tryz.func92 rfl (by simp [Tryz.ntmps92]) ?_
 refine W.seq ?_
 refine W.region rfl ?_
 refine WL.run to 1 rfl ?_
 let v1 : CH := CH.row g1 o2 [.slice A3 n5 c4]
 obtain ⟨F9, le10, lp11, (C12 : Ctx _ _ _ _ _ [v1])⟩ := Ctx.fzI 1 C rfl
 obtain ⟨r14, hg13, H⟩ := bindE H
 refine WL.callH (crew_idle_Len.calls k _ F9 A3 c4 n5 a0 C12.pre0 hn6 (Row.len_le hR8).1 (Row.len_le hR8).2.1 (Sl.mono (Row.sl hR8) le10 lp11) r14 hg13) (Yenter.invV (v := .slice A3 n5 c4) rfl (by kernel_rfl) Tryz.underlying147 (run_loadV1 (o := 0) (cs := [.slice A3 n5 c4]) (v := .slice A3 n5 c4) Tryz.underlying143 rfl (Ctx.subI 0 C rfl) rfl) Tryz.func138 (by kernel_rfl) rfl (argsE .nil)) ?_
 rintro e_ w_ ⟨rfl, ⟨m15, rfl⟩⟩
 refine ⟨_, rfl, ?_⟩
 have C16 := Ctx.drewN C m15
 refine WL.run to 1 rfl ?_
 refine WL.done ?_
 refine W.seq ?_
 refine W.region rfl ?_
 refine WL.run to 1 rfl ?_
 refine WL.val (Yl.quo (m := r14) (n := 2) (r := wi64 (r14.tdiv 2)) rfl rfl (by decide) rfl) ?_
 refine WL.run to 2 rfl ?_
 refine WL.done ?_
 obtain ⟨x71, hX79, H⟩ := bindE H
 refine W.cutM (fun env_ w_ => ∃ (A72 : Option Addr) (c73 : Nat) (n74 : Nat) (p76 : CH), Ctx w F D w_ F [CH.row g1 o2 [.slice A72 n74 c73], p76] ∧ n74 = x71.length ∧ Row Thand.K F p76 (.slice A72 n74 c73) x71) ?_ ?_
 ·refine W.block ?_
  refine W.loop (fun g_ env_ w_ => ∃ (x100 : Int) (x101 : List Thand) (A102 : Option Addr) (c103 : Nat) (n104 : Nat) (p106 : CH), env_ 0 = .iface 147 (.pointer (some ⟨g1, o2, none⟩)) ∧ env_ 2 = .int .i64 r14 ∧ env_ 3 = .int .i64 x100 ∧ Ctx w F D w_ F [CH.row g1 o2 [.slice A102 n104 c103], p106] ∧ n104 = x101.length ∧ Row Thand.K F p106 (.slice A102 n104 c103) x101 ∧ heap_Init.l1 g_ r14 x100 x101 = some x71) k ⟨wi64 ((wi64 (r14.tdiv 2)) - 1), a0, A3, c4, n5, p7, rfl, rfl, rfl, C16, hn6, hR8, hX79⟩ ?_
  clear hX79
  rintro g_ env_ w_ ⟨x100, x101, A102, c103, n104, p106, ho97, ho98, ho99, C108, hn105, hR107, hX79⟩
  rcases g_ with _ | k121
  · exact absurd hX79 (by simp [heap_Init.l1])
  rw [heap_Init.l1] at hX79
  apply kn env_ (.c ho97 (.c ho98 (.c ho99 .n)))
  refine W.seq ?_
  refine W.seq ?_
  refine W.region rfl ?_
  refine WL.run to 2 rfl ?_
  refine WL.done ?_
  rcases iteE hX79 with ⟨hc122, hX79⟩ | ⟨hc122, hX79⟩
  ·refine W.condT (congrArg Value.bool (decide_eq_true hc122)) ?_
   refine W.skip ?_
   refine W.seq ?_
   refine W.block ?_
   refine W.region rfl ?_
   refine WL.run to 3 rfl ?_
   obtain ⟨⟨r124, r125⟩, hg123, hX79⟩ := bindE hX79
   let v2 : CH := CH.row g1 o2 [.slice A102 n104 c103]
   refine WL.callH (heap_down.calls k121 _ F g1 o2 A102 c103 n104 p106 x101 x100 r14 (Ctx.pre (qs := [v2, p106]) (rest := []) C108) hn105 hR107 r124 r125 hg123) (Yenter.fn Tryz.func98 (by kernel_rfl) rfl (argsE (.cons rfl (.cons rfl (.cons rfl .nil))))) ?_
   rintro e_ w_ ⟨A126, c127, n128, p130, rfl, C132, hn129, hR131⟩
   refine ⟨_, rfl, ?_⟩
   let v3 : CH := CH.row g1 o2 [.slice A126 n128 c127]
   have C133 : Ctx _ _ _ _ _ [v3, p130] := Ctx.call (qs := [v2, p106]) (rest := []) C108 C132
   refine WL.done ?_
   refine inB_n ?_
   refine W.region rfl ?_
   refine WL.run to 3 rfl ?_
   refine WL.done ?_
   exact thenE_n ⟨k121, Nat.lt_succ_self _, wi64 (x100 - 1), r125, A126, c127, n128, p130, rfl, rfl, rfl, C133, hn129, hR131, hX79⟩
  ·refine W.condF (congrArg Value.bool (decide_eq_false hc122)) ?_
   refine W.exit ?_
   refine thenE_x ?_
   refine thenE_x ?_
   refine inB_here ?_
   cases hX79
   refine thenE_n ?_
   exact ⟨A102, c103, n104, p106, C108, hn105, hR107⟩
 ·rintro env_ w_ ⟨A72, c73, n74, p76, C78, hn75, hR77⟩
  have e134 := Option.some.inj H
  subst e134
  exact post_n (resE0 rfl ) ⟨A72, c73, n74, p76, rfl, C78, hn75, hR77⟩
def heap_Pop.f (k : Nat) (a0 : List Thand) : Option (Thand × (List Thand)) := (crew_idle_Len.f k a0).bind fun r14 => (crew_idle_Swap.f k a0 0 (wi64 (r14 - 1))).bind fun r19 => (heap_down.f k r19 0 (wi64 (r14 - 1))).bind fun ⟨r27, r28⟩ => (crew_idle_Pop.f k r28).bind fun ⟨r38, r39⟩ => some (r38, r39)
set_option maxRecDepth 100000 in
set_option maxHeartbeats 4000000 in
theorem heap_Pop.calls (k : Nat) (w : World) (F : CH) (g1 : Nat) (o2 : Nat) (A3 : Option Addr) (c4 : Nat) (n5 : Nat) (p7 : CH) (a0 : List Thand) (hp : Pre w F [CH.row g1 o2 [.slice A3 n5 c4], p7]) (hn6 : n5 = a0.length) (hR8 : Row Thand.K F p7 (.slice A3 n5 c4) a0) (r0_ : Thand) (r1_ : List Thand) (H : heap_Pop.f k a0 = some (r0_, r1_)) :
    Calls Tryz.prog 93 #[.iface 147 (.pointer (some ⟨g1, o2, none⟩))] w fun e w' => ∃ (A50 : Option Addr) (c51 : Nat) (n52 : Nat) (p54 : CH), e = .returned (.iface 149 (.agg (List.toArray [.int .i64 r0_.used, .int .i64 r0_.id]))) ∧ Ctx w F (domL [CH.row g1 o2 [.slice A3 n5 c4], p7]) w' F [CH.row g1 o2 [.slice A50 n52 c51], p54] ∧ n52 = r1_.length ∧ Row Thand.K F p54 (.slice A50 n52 c51) r1_ := by
 have C := Ctx.start hp
 generalize hD : domL [CH.row g1 o2 [.slice A3 n5 c4], p7] = D at C ⊢
 unfold heap_Pop.f at H
 refine Calls.ofW Tryz.func93 rfl (by simp [Tryz.ntmps93]) ?_
 refine W.seq ?_
 refine W.region rfl ?_
 refine WL.run to 1 rfl ?_
 refine WL.done ?_
 refine W.seq ?_
 refine W.region rfl ?_
 refine WL.run to 1 rfl ?_
 let v1 : CH := CH.row g1 o2 [.slice A3 n5 c4]
 obtain ⟨F9, le10, lp11, (C12 : Ctx _ _ _ _ _ [v1])⟩ := Ctx.fzI 1 C rfl
 obtain ⟨r14, hg13, H⟩ := bindE H
 refine WL.callH (crew_idle_Len.calls k _ F9 A3 c4 n5 a0 C12.pre0 hn6 (Row.len_le hR8).1 (Row.len_le hR8).2.1 (Sl.mono (Row.sl hR8) le10 lp11) r14 hg13) (Yenter.invV (v := .slice A3 n5 c4) rfl (by kernel_rfl) Tryz.underlying147 (run_loadV1 (o := 0) (cs := [.slice A3 n5 c4]) (v := .slice A3 n5 c4) Tryz.underlying143 rfl (Ctx.subI 0 C rfl) rfl) Tryz.func138 (by kernel_rfl) rfl (argsE .nil)) ?_
 rintro e_ w_ ⟨rfl, ⟨m15, rfl⟩⟩
 refine ⟨_, rfl, ?_⟩
 have C16 := Ctx.drewN C m15
 refine WL.run to 2 rfl ?_
 refine WL.done ?_
 refine W.seq ?_
 refine W.region rfl ?_
 refine WL.run to 2 rfl ?_
 have C17 : Ctx _ _ _ _ _ [p7, v1] := Ctx.pick [1, 0] C16 rfl
 obtain ⟨r19, hg18, H⟩ := bindE H
 refine WL.callH (crew_idle_Swap.calls k _ F A3 c4 n5 p7 a0 0 (wi64 (r14 - 1)) (Ctx.pre (qs := [p7]) (rest := [v1]) C17) hn6 hR8 r19 hg18) (Yenter.invV (v := .slice A3 n5 c4) rfl (by kernel_rfl) Tryz.underlying147 (run_loadV1 (o := 0) (cs := [.slice A3 n5 c4]) (v := .slice A3 n5 c4) Tryz.underlying143 rfl (Ctx.subI 0 C16 rfl) rfl) Tryz.func140 (by kernel_rfl) rfl (argsE (.cons rfl (.cons rfl .nil)))) ?_
 rintro e_ w_ ⟨p20, rfl, C23, hn22, hR21⟩
 refine ⟨_, rfl, ?_⟩
 have C24 : Ctx _ _ _ _ _ [p20, v1] := Ctx.call (qs := [p7]) (rest := [v1]) C17 C23
 refine WL.done ?_
 refine W.seq ?_
 refine W.region rfl ?_
 refine WL.run to 2 rfl ?_
 have C25 : Ctx _ _ _ _ _ [v1, p20] := Ctx.pick [1, 0] C24 rfl
 obtain ⟨⟨r27, r28⟩, hg26, H⟩ := bindE H
 refine WL.callH (heap_down.calls k _ F g1 o2 A3 c4 n5 p20 r19 0 (wi64 (r14 - 1)) (Ctx.pre (qs := [v1, p20]) (rest := []) C25) hn22 hR21 r27 r28 hg26) (Yenter.fn Tryz.func98 (by kernel_rfl) rfl (argsE (.cons rfl (.cons rfl (.cons rfl .nil))))) ?_
 rintro e_ w_ ⟨A29, c30, n31, p33, rfl, C35, hn32, hR34⟩
 refine ⟨_, rfl, ?_⟩
 let v2 : CH := CH.row g1 o2 [.slice A29 n31 c30]
 have C36 : Ctx _ _ _ _ _ [v2, p33] := Ctx.call (qs := [v1, p20]) (rest := []) C25 C35
 refine WL.done ?_
 refine W.seq ?_
 refine W.region rfl ?_
 refine WL.run to 1 rfl ?_
 obtain ⟨⟨r38, r39⟩, hg37, H⟩ := bindE H
 refine WL.callH (crew_idle_Pop.calls k _ F g1 o2 A29 c30 n31 p33 r28 (Ctx.pre (qs := [v2, p33]) (rest := []) C36) hn32 hR34 r38 r39 hg37) (Yenter.inv rfl (by kernel_rfl) Tryz.underlying147 Tryz.func141 (by kernel_rfl) rfl (argsE .nil)) ?_
 rintro e_ w_ ⟨A40, c41, n42, p44, rfl, C46, hn43, hR45⟩
 refine ⟨_, rfl, ?_⟩
 let v3 : CH := CH.row g1 o2 [.slice A40 n42 c41]
 have C47 : Ctx _ _ _ _ _ [v3, p44] := Ctx.call (qs := [v2, p33]) (rest := []) C36 C46
 refine WL.run to 1 rfl ?_
 refine WL.done ?_
 refine W.ret ?_
 simp only [Option.some.injEq, Prod.mk.injEq] at H
 obtain ⟨e48, e49⟩ := H
 subst e48 e49
 exact post_r (resE1 rfl rfl) ⟨A40, c41, n42, p44, rfl, C47, hn43, hR45⟩
def crew_Pick.l1 : Nat → Int → List Int → Int → List Thand → Option (List Int)
  | 0, _, _, _, _ => none
  | k + 1, a3, x232, x241, x242 => if x241 < ((List.replicate a3.toNat (0 : Int)).length : Int) then ((heap_Pop.f k x242).bind fun ⟨r280, r281⟩ => if 0 ≤ x241 ∧ x241 < (x232.length : Int) then (crew_Pick.l1 k a3 (x232.set x241.toNat r280.id) (wi64 (x241 + 1)) r281) else none) else (some x232)
def crew_Pick.f (k : Nat) (a0 : List Int) (a1 : List Bool) (a2 : Int) (a3 : Int) : Option ((List Int) × Int) := (crew_right.f k a0 a1).bind fun r20 => if (((!r20) || (decide (a3 < 1))) || (decide (a2 < 0))) = true then (some (([] : List Int), 1)) else ((crew_able.f k a0 a1 a2).bind fun ⟨r36, r37⟩ => if r37 < a3 then (some (([] : List Int), 180)) else (if (r36.length : Int) < a3 then (some (([] : List Int), 70)) else ((heap_Init.f k r36).bind fun r63 => if 0 ≤ a3 ∧ a3 * 8 ≤ 140737488355328 then ((crew_Pick.l1 k a3 (List.replicate a3.toNat (0 : Int)) 0 r63).bind fun x189 => some (x189, 0)) else none)))
set_option maxRecDepth 100000 in
set_option maxHeartbeats 4000000 in
theorem crew_Pick.calls (k : Nat) (w : World) (F : CH) (A1 : Option Addr) (c2 : Nat) (n3 : Nat) (a0 : List Int) (A8 : Option Addr) (c9 : Nat) (n10 : Nat) (a1 : List Bool) (a2 : Int) (a3 : Int) (hp : Pre w F []) (hn4 : n3 = a0.length) (hl5 : a0.length ≤ c2) (hm6 : c2 ≤ maxLen) (hS7 : Sl (Kd.int .i64) F F A1 a0) (hn11 : n10 = a1.length) (hl12 : a1.length ≤ c9) (hm13 : c9 ≤ maxLen) (hS14 : Sl Kd.bool F F A8 a1) (r0_ : List Int) (r1_ : Int) (H : crew_Pick.f k a0 a1 a2 a3 = some (r0_, r1_)) :
    Calls Tryz.prog 80 #[.slice A1 n3 c2, .slice A8 n10 c9, .int .i64 a2, .int .i64 a3] w fun e w' => ∃ (A307 : Option Addr) (c308 : Nat) (n309 : Nat) (p311 : CH), e = .returned (.tuple #[(.slice A307 n309 c308), (.int .i64 r1_)]) ∧ Ctx w F (domL []) w' F [p311] ∧ n309 = r0_.length ∧ Row (Kd.int .i64) F p311 (.slice A307 n309 c308) r0_ := by
 have C := Ctx.start hp
 generalize hD : domL [] = D at C ⊢
 unfold crew_Pick.f at H
 refine Calls.ofW Tryz.func80 rfl (by simp [Tryz.ntmps80]) ?_
 refine W.seq ?_
 refine W.region rfl ?_
 refine WL.run to 2 rfl ?_
 refine WL.done ?_
 refine W.seq ?_
 refine W.seq ?_
 refine W.region rfl ?_
 refine WL.run to 2 rfl ?_
 obtain ⟨r20, hg19, H⟩ := bindE H
 refine WL.callH (crew_right.calls k _ F A1 c2 n3 a0 A8 c9 n10 a1 C.pre0 hn4 hl5 hm6 hS7 hn11 hl12 hm13 hS14 r20 hg19) (Yenter.fn Tryz.func90 (by kernel_rfl) rfl (argsE (.cons rfl (.cons rfl .nil)))) ?_
 rintro e_ w_ ⟨rfl, ⟨m21, rfl⟩⟩
 refine ⟨_, rfl, ?_⟩
 have C22 := Ctx.drewN C m21
 refine WL.run to 2 rfl ?_
 refine WL.cut (fun env_ w_ => env_ 25 = .bool (((!r20) || (decide (a3 < 1))) || (decide (a2 < 0))) ∧ env_ 0 = .slice A1 n3 c2 ∧ env_ 1 = .slice A8 n10 c9 ∧ env_ 2 = .int .i64 a2 ∧ env_ 3 = .int .i64 a3 ∧ Ctx w F D w_ F []) ?_ ?_
 ·rcases Bool.eq_false_or_eq_true (!r20) with hb23 | hb23
  ·refine WL.kn 18 (congrArg Value.bool hb23) ?_
   refine WL.offs 2 18 false rfl rfl ?_
   refine WL.run to 2 rfl ?_
   refine WL.offs 2 22 false rfl rfl ?_
   refine WL.run to 1 rfl ?_
   exact WL.done ⟨(congrArg Value.bool (show true = (((!r20) || (decide (a3 < 1))) || (decide (a2 < 0))) from by simp [hb23])), rfl, rfl, rfl, rfl, C22⟩
  ·refine WL.kn 18 (congrArg Value.bool hb23) ?_
   refine WL.run to 4 rfl ?_
   rcases Bool.eq_false_or_eq_true (decide (a3 < 1)) with hb24 | hb24
   ·refine WL.kn 22 (congrArg Value.bool hb24) ?_
    refine WL.offs 2 22 false rfl rfl ?_
    refine WL.run to 1 rfl ?_
    exact WL.done ⟨(congrArg Value.bool (show true = (((!r20) || (decide (a3 < 1))) || (decide (a2 < 0))) from by simp [hb23, hb24])), rfl, rfl, rfl, rfl, C22⟩
   ·refine WL.kn 22 (congrArg Value.bool hb24) ?_
    refine WL.run to 3 rfl ?_
    exact WL.done ⟨(congrArg Value.bool (show (decide (a2 < 0)) = (((!r20) || (decide (a3 < 1))) || (decide (a2 < 0))) from by simp [hb23, hb24])), rfl, rfl, rfl, rfl, C22⟩
 ·rintro env_ w_ ⟨ho25, ho26, ho27, ho28, ho29, C30⟩
  apply kn env_ (.c ho25 (.c ho26 (.c ho27 (.c ho28 (.c ho29 .n)))))
  rcases iteE H with ⟨hc31, H⟩ | ⟨hc31, H⟩
  ·refine W.condT (congrArg Value.bool hc31) ?_
   refine W.seq ?_
   refine W.region rfl ?_
   refine WL.run to 2 rfl ?_
   refine WL.done ?_
   refine W.ret ?_
   refine thenE_r ?_
   have C32 : Ctx _ _ _ _ _ [CH.emp] := Ctx.pick [0] C30 rfl
   simp only [Option.some.injEq, Prod.mk.injEq] at H
   obtain ⟨e33, e34⟩ := H
   subst e33 e34
   exact post_r (resE2 rfl rfl rfl) ⟨none, 0, 0, CH.emp, rfl, C32, rfl, (Row.nil _ _)⟩
  ·refine W.condF (congrArg Value.bool (Bool.eq_false_iff.2 hc31)) ?_
   refine W.skip ?_
   refine W.seq ?_
   refine W.region rfl ?_
   refine WL.run to 3 rfl ?_
   obtain ⟨⟨r36, r37⟩, hg35, H⟩ := bindE H
   refine WL.callH (crew_able.calls k _ F A1 c2 n3 a0 A8 c9 n10 a1 a2 (Ctx.pre (qs := []) (rest := []) C30) hn4 hl5 hm6 hS7 hn11 hl12 hm13 hS14 r36 r37 hg35) (Yenter.fn Tryz.func91 (by kernel_rfl) rfl (argsE (.cons rfl (.cons rfl (.cons rfl .nil))))) ?_
   rintro e_ w_ ⟨A38, c39, n40, p42, rfl, C44, hn41, hR43⟩
   refine ⟨_, rfl, ?_⟩
   have C45 : Ctx _ _ _ _ _ [p42] := Ctx.call (qs := []) (rest := []) C30 C44
   refine WL.run to 3 rfl ?_
   obtain ⟨g46, w47, hy48, C49⟩ := ev_alloc (P := Tryz.prog) (e := 143) [.slice none 0 0] C45 zr143 rfl
   refine WL.val (hy48 _ _) ?_
   obtain ⟨w50, hy51, C52⟩ := ev_setI (P := Tryz.prog) (ps1 := []) (ps2 := [p42]) (t := 143) 0 [.slice A38 n40 c39] (.slice A38 n40 c39) C49 rfl rfl (ones_of rfl) sz143
   let v1 : CH := CH.row g46 0 [.slice A38 n40 c39]
   have C53 : Ctx _ _ _ _ _ [v1, p42] := C52
   refine WL.skip (hy51 _ _ _ _ rfl rfl) ?_
   refine WL.run to 1 rfl ?_
   refine WL.done ?_
   refine W.seq ?_
   refine W.block ?_
   refine W.seq ?_
   refine W.region rfl ?_
   refine WL.run to 4 rfl ?_
   refine WL.done ?_
   rcases iteE H with ⟨hc54, H⟩ | ⟨hc54, H⟩
   ·refine W.condT (congrArg Value.bool (decide_eq_true hc54)) ?_
    refine W.seq ?_
    refine W.region rfl ?_
    refine WL.run to 2 rfl ?_
    refine WL.done ?_
    refine W.ret ?_
    refine inB_r ?_
    refine thenE_r ?_
    have C55 : Ctx _ _ _ _ _ [CH.emp] := Ctx.pick [2] C53 rfl
    simp only [Option.some.injEq, Prod.mk.injEq] at H
    obtain ⟨e56, e57⟩ := H
    subst e56 e57
    exact post_r (resE2 rfl rfl rfl) ⟨none, 0, 0, CH.emp, rfl, C55, rfl, (Row.nil _ _)⟩
   ·refine W.condF (congrArg Value.bool (decide_eq_false hc54)) ?_
    refine W.seq ?_
    refine W.region rfl ?_
    refine WL.val (Yl.loadV (g := g46) (off := 0) (o := 0) (cs := [.slice A38 n40 c39]) (v := .slice A38 n40 c39) rfl Tryz.underlying143 rfl (Ctx.subI 0 C53 rfl) rfl) ?_
    refine WL.val (Yl.lenN (A := A38) (l := n40) (q := c39) (n := (r36.length : Int)) rfl Tryz.underlying143 (by omega)) ?_
    refine WL.run to 3 rfl ?_
    refine WL.done ?_
    rcases iteE H with ⟨hc58, H⟩ | ⟨hc58, H⟩
    ·refine W.condT (congrArg Value.bool (decide_eq_true hc58)) ?_
     refine W.seq ?_
     refine W.region rfl ?_
     refine WL.run to 2 rfl ?_
     refine WL.done ?_
     refine W.ret ?_
     refine inB_r ?_
     refine thenE_r ?_
     have C59 : Ctx _ _ _ _ _ [CH.emp] := Ctx.pick [2] C53 rfl
     simp only [Option.some.injEq, Prod.mk.injEq] at H
     obtain ⟨e60, e61⟩ := H
     subst e60 e61
     exact post_r (resE2 rfl rfl rfl) ⟨none, 0, 0, CH.emp, rfl, C59, rfl, (Row.nil _ _)⟩
    ·refine W.condF (congrArg Value.bool (decide_eq_false hc58)) ?_
     refine W.skip ?_
     refine inB_n ?_
     refine W.seq ?_
     refine W.region rfl ?_
     refine WL.val (Yl.mkIface (v := .pointer (some ⟨g46, 0, none⟩)) rfl Tryz.underlying147 rfl) ?_
     obtain ⟨r63, hg62, H⟩ := bindE H
     refine WL.callH (heap_Init.calls k _ F g46 0 A38 c39 n40 p42 r36 (Ctx.pre (qs := [v1, p42]) (rest := []) C53) hn41 hR43 r63 hg62) (Yenter.fn Tryz.func92 (by kernel_rfl) rfl (argsE (.cons rfl .nil))) ?_
     rintro e_ w_ ⟨A64, c65, n66, p68, rfl, C70, hn67, hR69⟩
     refine ⟨_, rfl, ?_⟩
     let v2 : CH := CH.row g46 0 [.slice A64 n66 c65]
     have C71 : Ctx _ _ _ _ _ [v2, p68] := Ctx.call (qs := [v1, p42]) (rest := []) C53 C70
     refine WL.done ?_
     refine W.seq ?_
     refine W.region rfl ?_
     refine WL.run to 1 rfl ?_
     obtain ⟨hc72, H⟩ := guardE H
     obtain ⟨A73, c74, n75, p76, w77, hn78, hy79, C80, hR81⟩ := ev_make' (P := Tryz.prog) 3 (Kd.int .i64) C71 Tryz.underlying47 ti3 0 rfl (by decide) a3 hc72
     refine WL.val (hy79 _ _ _ _ _ _ rfl rfl) ?_
     refine WL.run to 1 rfl ?_
     refine WL.done ?_
     refine W.seq ?_
     refine W.seq ?_
     refine W.region rfl ?_
     refine WL.run to 1 rfl ?_
     refine WL.val (Yl.lenN (A := A73) (l := n75) (q := c74) (n := ((List.replicate a3.toNat (0 : Int)).length : Int)) rfl Tryz.underlying47 (by omega)) ?_
     refine WL.run to 1 rfl ?_
     refine WL.done ?_
     obtain ⟨x189, hX197, H⟩ := bindE H
     refine W.cutM (fun env_ w_ => ∃ (A190 : Option Addr) (c191 : Nat) (n192 : Nat) (p194 : CH), env_ 12 = .slice A190 n192 c191 ∧ Ctx w F D w_ F [p194] ∧ n192 = x189.length ∧ Row (Kd.int .i64) F p194 (.slice A190 n192 c191) x189) ?_ ?_
     ·refine W.block ?_
      refine W.loop (fun g_ env_ w_ => ∃ (x232 : List Int) (x241 : Int) (x242 : List Thand) (A233 : Option Addr) (c234 : Nat) (n235 : Nat) (p237 : CH) (A243 : Option Addr) (c244 : Nat) (n245 : Nat) (p247 : CH), env_ 10 = .pointer (some ⟨g46, 0, none⟩) ∧ env_ 12 = .slice A233 n235 c234 ∧ env_ 47 = .int .i64 ((List.replicate a3.toNat (0 : Int)).length : Int) ∧ env_ 48 = .int .i64 x241 ∧ Ctx w F D w_ F [p237, CH.row g46 0 [.slice A243 n245 c244], p247] ∧ n235 = x232.length ∧ Row (Kd.int .i64) F p237 (.slice A233 n235 c234) x232 ∧ n245 = x242.length ∧ Row Thand.K F p247 (.slice A243 n245 c244) x242 ∧ crew_Pick.l1 g_ a3 x232 x241 x242 = some x189) k ⟨(List.replicate a3.toNat (0 : Int)), 0, r63, A73, c74, n75, p76, A64, c65, n66, p68, rfl, rfl, rfl, rfl, C80, hn78, hR81, hn67, hR69, hX197⟩ ?_
      clear hX197
      rintro g_ env_ w_ ⟨x232, x241, x242, A233, c234, n235, p237, A243, c244, n245, p247, ho230, ho231, ho239, ho240, C249, hn236, hR238, hn246, hR248, hX197⟩
      rcases g_ with _ | k276
      · exact absurd hX197 (by simp [crew_Pick.l1])
      rw [crew_Pick.l1] at hX197
      apply kn env_ (.c ho230 (.c ho231 (.c ho239 (.c ho240 .n))))
      refine W.seq ?_
      refine W.region rfl ?_
      refine WL.run to 1 rfl ?_
      refine WL.done ?_
      refine W.seq ?_
      rcases iteE hX197 with ⟨hc277, hX197⟩ | ⟨hc277, hX197⟩
      ·refine W.condT (congrArg Value.bool (decide_eq_true hc277)) ?_
       refine W.skip ?_
       refine W.seq ?_
       refine W.block ?_
       refine W.seq ?_
       refine W.region rfl ?_
       refine WL.run to 2 rfl ?_
       refine WL.done ?_
       refine W.region rfl ?_
       refine WL.run to 2 rfl ?_
       refine WL.val (Yl.mkIface (v := .pointer (some ⟨g46, 0, none⟩)) rfl Tryz.underlying147 rfl) ?_
       let v3 : CH := CH.row g46 0 [.slice A243 n245 c244]
       have C278 : Ctx _ _ _ _ _ [v3, p247, p237] := Ctx.pick [1, 2, 0] C249 rfl
       obtain ⟨⟨r280, r281⟩, hg279, hX197⟩ := bindE hX197
       refine WL.callH (heap_Pop.calls k276 _ F g46 0 A243 c244 n245 p247 x242 (Ctx.pre (qs := [v3, p247]) (rest := [p237]) C278) hn246 hR248 r280 r281 hg279) (Yenter.fn Tryz.func93 (by kernel_rfl) rfl (argsE (.cons rfl .nil))) ?_
       rintro e_ w_ ⟨A282, c283, n284, p286, rfl, C288, hn285, hR287⟩
       refine ⟨_, rfl, ?_⟩
       let v4 : CH := CH.row g46 0 [.slice A282 n284 c283]
       have C289 : Ctx _ _ _ _ _ [v4, p286, p237] := Ctx.call (qs := [v3, p247]) (rest := [p237]) C278 C288
       refine WL.val (Yl.assertV (v := .agg (List.toArray [.int .i64 r280.used, .int .i64 r280.id])) rfl Tryz.underlying149 rfl) ?_
       refine WL.val (Yl.field1 (cs := [.int .i64 r280.used, .int .i64 r280.id]) (v := .int .i64 r280.id) (i := 1) rfl Tryz.underlying149 rfl Tryz.underlying3 rfl rfl) ?_
       obtain ⟨hc290, hX197⟩ := guardE hX197
       obtain ⟨b291, of292, hA293, he294⟩ := (Row.sl hR238) (by omega)
       refine WL.val (Yl.elemAddr (i := x241) rfl rfl hA293 Tryz.underlying47 sz3 (by omega)) ?_
       have hj300 : x241.toNat < x232.length := by first | omega | (simp only [List.length_set, List.length_replicate] at *; omega)
       obtain ⟨p295, w296, hy297, C298, hR299⟩ := ev_store (P := Tryz.prog) (t := 3) (Kd.int .i64) [v4, p286] [] C289 hR238 hA293 x241.toNat 0 hj300 0 (.int .i64 r280.id) ([.int .i64 r280.id]) rfl (ones_of rfl) (Nat.le_of_ble_eq_true rfl) sz3 (r280.id) (fun _ h_ => rep_whole h_ rfl) ⟨b291, of292 + x241.toNat * 1, none⟩ rfl
       have hn301 : n235 = (x232.set x241.toNat r280.id).length := by rw [List.length_set]; omega
       have C302 : Ctx _ _ _ _ _ [v4, p286, p295] := C298
       refine WL.skip (hy297 _ _ _ _ rfl rfl) ?_
       refine WL.done ?_
       refine inB_n ?_
       refine W.region rfl ?_
       refine WL.run to 2 rfl ?_
       refine WL.done ?_
       have C303 : Ctx _ _ _ _ _ [p295, v4, p286] := Ctx.pick [2, 0, 1] C302 rfl
       exact thenE_n ⟨k276, Nat.lt_succ_self _, x232.set x241.toNat r280.id, wi64 (x241 + 1), r281, A233, c234, n235, p295, A282, c283, n284, p286, rfl, rfl, rfl, rfl, C303, hn301, hR299, hn285, hR287, hX197⟩
      ·refine W.condF (congrArg Value.bool (decide_eq_false hc277)) ?_
       refine W.exit ?_
       refine thenE_x ?_
       refine thenE_x ?_
       refine inB_here ?_
       have C304 : Ctx _ _ _ _ _ [p237] := Ctx.pick [0] C249 rfl
       cases hX197
       refine thenE_n ?_
       exact ⟨A233, c234, n235, p237, rfl, C304, hn236, hR238⟩
     ·rintro env_ w_ ⟨A190, c191, n192, p194, ho188, C196, hn193, hR195⟩
      apply kn env_ (.c ho188 .n)
      refine W.seq ?_
      refine W.region rfl ?_
      refine WL.run to 3 rfl ?_
      refine WL.done ?_
      refine W.ret ?_
      simp only [Option.some.injEq, Prod.mk.injEq] at H
      obtain ⟨e305, e306⟩ := H
      subst e305 e306
      exact post_r (resE2 rfl rfl rfl) ⟨A190, c191, n192, p194, rfl, C196, hn193, hR195⟩
end Go.Proofs.YtobdpbnadjkhiaaGreat
