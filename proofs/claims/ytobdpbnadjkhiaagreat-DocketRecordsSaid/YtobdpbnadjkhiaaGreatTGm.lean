/- Functions of the program: each as a plain function of numbers and lists, and the proof that the program's own comes to it. Nothing is assumed but what each theorem says. -/
import Derived.Test.YtobdpbnadjkhiaaGreatTGd
namespace Go.Proofs.YtobdpbnadjkhiaaGreat
open Go.RowKit Go.WG
set_option linter.unusedVariables false
set_option linter.unusedSimpArgs false
def bits_Bytes.l1 : Nat → Int → Int → List Int → Int → Option (List Int)
  | 0, _, _, _, _ => none
  | k + 1, a0, a1, x122, x131 => if x131 < a1 then (if 0 ≤ (wi64 (8 * x131)) then (if 0 ≤ (wi64 ((wi64 (a1 - 1)) - x131)) ∧ (wi64 ((wi64 (a1 - 1)) - x131)) < (x122.length : Int) then (bits_Bytes.l1 k a0 a1 (x122.set (wi64 ((wi64 (a1 - 1)) - x131)).toNat (wu8 (shrOp .u64 a0 (wi64 (8 * x131))))) (wi64 (x131 + 1))) else none) else none) else (some x122)
def bits_Bytes.f (k : Nat) (a0 : Int) (a1 : Int) : Option ((List Int) × Int) := if ((decide (a1 < 0)) || (decide (a1 > 8))) = true then (some (([] : List Int), 1)) else (if 0 ≤ a1 ∧ a1 * 1 ≤ 140737488355328 then ((bits_Bytes.l1 k a0 a1 (List.replicate a1.toNat (0 : Int)) 0).bind fun x88 => some (x88, 0)) else none)
set_option maxRecDepth 100000 in
set_option maxHeartbeats 4000000 in
theorem bits_Bytes.calls (k : Nat) (w : World) (F : CH) (a0 : Int) (a1 : Int) (hp : Pre w F [])  (r0_ : List Int) (r1_ : Int) (H : bits_Bytes.f k a0 a1 = some (r0_, r1_)) :
    Calls Tryz.prog 71 #[.int .u64 a0, .int .i64 a1] w fun e w' => ∃ (A166 : Option Addr) (c167 : Nat) (n168 : Nat) (p170 : CH), e = .returned (.tuple #[(.slice A166 n168 c167), (.int .i64 r1_)]) ∧ Ctx w F (domL []) w' F [p170] ∧ n168 = r0_.length ∧ Row (Kd.int .u8) F p170 (.slice A166 n168 c167) r0_ := by
 have C := Ctx.start hp
 generalize hD : domL [] = D at C ⊢
 unfold bits_Bytes.f at H
 refine Calls.ofW Tryz.func71 rfl (by simp [Tryz.ntmps71]) ?_
 refine W.seq ?_
 refine W.region rfl ?_
 refine WL.run to 2 rfl ?_
 refine WL.done ?_
 refine W.seq ?_
 refine W.seq ?_
 refine W.region rfl ?_
 refine WL.run to 3 rfl ?_
 refine WL.cut (fun env_ w_ => env_ 13 = .bool ((decide (a1 < 0)) || (decide (a1 > 8))) ∧ env_ 0 = .int .u64 a0 ∧ env_ 1 = .int .i64 a1 ∧ Ctx w F D w_ F []) ?_ ?_
 ·rcases Bool.eq_false_or_eq_true (decide (a1 < 0)) with hb1 | hb1
  ·refine WL.kn 10 (congrArg Value.bool hb1) ?_
   refine WL.offs 2 10 false rfl rfl ?_
   refine WL.run to 1 rfl ?_
   exact WL.done ⟨(congrArg Value.bool (show true = ((decide (a1 < 0)) || (decide (a1 > 8))) from by simp [hb1])), rfl, rfl, C⟩
  ·refine WL.kn 10 (congrArg Value.bool hb1) ?_
   refine WL.run to 3 rfl ?_
   exact WL.done ⟨(congrArg Value.bool (show (decide (a1 > 8)) = ((decide (a1 < 0)) || (decide (a1 > 8))) from by simp [hb1])), rfl, rfl, C⟩
 ·rintro env_ w_ ⟨ho2, ho3, ho4, C5⟩
  apply kn env_ (.c ho2 (.c ho3 (.c ho4 .n)))
  rcases iteE H with ⟨hc6, H⟩ | ⟨hc6, H⟩
  ·refine W.condT (congrArg Value.bool hc6) ?_
   refine W.seq ?_
   refine W.region rfl ?_
   refine WL.run to 2 rfl ?_
   refine WL.done ?_
   refine W.ret ?_
   refine thenE_r ?_
   have C7 : Ctx _ _ _ _ _ [CH.emp] := Ctx.pick [0] C5 rfl
   simp only [Option.some.injEq, Prod.mk.injEq] at H
   obtain ⟨e8, e9⟩ := H
   subst e8 e9
   exact post_r (resE2 rfl rfl rfl) ⟨none, 0, 0, CH.emp, rfl, C7, rfl, (Row.nil _ _)⟩
  ·refine W.condF (congrArg Value.bool (Bool.eq_false_iff.2 hc6)) ?_
   refine W.skip ?_
   refine W.seq ?_
   refine W.region rfl ?_
   refine WL.run to 1 rfl ?_
   obtain ⟨hc10, H⟩ := guardE H
   obtain ⟨A11, c12, n13, p14, w15, hn16, hy17, C18, hR19⟩ := ev_make' (P := Tryz.prog) 5 (Kd.int .u8) C5 Tryz.underlying24 ti5 0 rfl (by decide) a1 hc10
   refine WL.val (hy17 _ _ _ _ _ _ rfl rfl) ?_
   refine WL.run to 1 rfl ?_
   refine WL.done ?_
   refine W.seq ?_
   refine W.seq ?_
   refine W.region rfl ?_
   refine WL.run to 2 rfl ?_
   refine WL.done ?_
   obtain ⟨x88, hX96, H⟩ := bindE H
   refine W.cutM (fun env_ w_ => ∃ (A89 : Option Addr) (c90 : Nat) (n91 : Nat) (p93 : CH), env_ 6 = .slice A89 n91 c90 ∧ Ctx w F D w_ F [p93] ∧ n91 = x88.length ∧ Row (Kd.int .u8) F p93 (.slice A89 n91 c90) x88) ?_ ?_
   ·refine W.block ?_
    refine W.loop (fun g_ env_ w_ => ∃ (x122 : List Int) (x131 : Int) (A123 : Option Addr) (c124 : Nat) (n125 : Nat) (p127 : CH), env_ 0 = .int .u64 a0 ∧ env_ 1 = .int .i64 a1 ∧ env_ 6 = .slice A123 n125 c124 ∧ env_ 16 = .int .i64 a1 ∧ env_ 17 = .int .i64 x131 ∧ Ctx w F D w_ F [p127] ∧ n125 = x122.length ∧ Row (Kd.int .u8) F p127 (.slice A123 n125 c124) x122 ∧ bits_Bytes.l1 g_ a0 a1 x122 x131 = some x88) k ⟨(List.replicate a1.toNat (0 : Int)), 0, A11, c12, n13, p14, rfl, rfl, rfl, rfl, rfl, C18, hn16, hR19, hX96⟩ ?_
    clear hX96
    rintro g_ env_ w_ ⟨x122, x131, A123, c124, n125, p127, ho119, ho120, ho121, ho129, ho130, C132, hn126, hR128, hX96⟩
    rcases g_ with _ | k148
    · exact absurd hX96 (by simp [bits_Bytes.l1])
    rw [bits_Bytes.l1] at hX96
    apply kn env_ (.c ho119 (.c ho120 (.c ho121 (.c ho129 (.c ho130 .n)))))
    refine W.seq ?_
    refine W.region rfl ?_
    refine WL.run to 1 rfl ?_
    refine WL.done ?_
    refine W.seq ?_
    rcases iteE hX96 with ⟨hc149, hX96⟩ | ⟨hc149, hX96⟩
    ·refine W.condT (congrArg Value.bool (decide_eq_true hc149)) ?_
     refine W.skip ?_
     refine W.seq ?_
     refine W.block ?_
     refine W.seq ?_
     refine W.region rfl ?_
     refine WL.run to 2 rfl ?_
     refine WL.done ?_
     refine W.region rfl ?_
     refine WL.run to 8 rfl ?_
     obtain ⟨hc150, hX96⟩ := guardE hX96
     refine WL.val (Yl.shr (m := a0) (n := wi64 (8 * x131)) (r := shrOp .u64 a0 (wi64 (8 * x131))) rfl rfl hc150 rfl) ?_
     refine WL.val (Yl.conv (m := shrOp .u64 a0 (wi64 (8 * x131))) (r := wu8 (shrOp .u64 a0 (wi64 (8 * x131)))) rfl Tryz.underlying82 Tryz.underlying5 rfl) ?_
     obtain ⟨hc151, hX96⟩ := guardE hX96
     obtain ⟨b152, of153, hA154, he155⟩ := (Row.sl hR128) (by omega)
     refine WL.val (Yl.elemAddr (i := wi64 ((wi64 (a1 - 1)) - x131)) rfl rfl hA154 Tryz.underlying24 sz5 (by omega)) ?_
     have hj161 : (wi64 ((wi64 (a1 - 1)) - x131)).toNat < x122.length := by first | omega | (simp only [List.length_set, List.length_replicate] at *; omega)
     let q1 : List Go.Value := [.int .u8 (wu8 (shrOp .u64 a0 (wi64 (8 * x131))))]
     obtain ⟨p156, w157, hy158, C159, hR160⟩ := ev_store (P := Tryz.prog) (t := 5) (Kd.int .u8) [] [] C132 hR128 hA154 (wi64 ((wi64 (a1 - 1)) - x131)).toNat 0 hj161 0 (.int .u8 (wu8 (shrOp .u64 a0 (wi64 (8 * x131))))) (q1) rfl (ones_of rfl) (Nat.le_of_ble_eq_true rfl) sz5 (wu8 (shrOp .u64 a0 (wi64 (8 * x131)))) (fun _ h_ => rep_whole h_ rfl) ⟨b152, of153 + (wi64 ((wi64 (a1 - 1)) - x131)).toNat * 1, none⟩ rfl
     have hn162 : n125 = (x122.set (wi64 ((wi64 (a1 - 1)) - x131)).toNat (wu8 (shrOp .u64 a0 (wi64 (8 * x131))))).length := by rw [List.length_set]; omega
     have C163 : Ctx _ _ _ _ _ [p156] := C159
     refine WL.skip (hy158 _ _ _ _ rfl rfl) ?_
     refine WL.done ?_
     refine inB_n ?_
     refine W.region rfl ?_
     refine WL.run to 2 rfl ?_
     refine WL.done ?_
     exact thenE_n ⟨k148, Nat.lt_succ_self _, x122.set (wi64 ((wi64 (a1 - 1)) - x131)).toNat (wu8 (shrOp .u64 a0 (wi64 (8 * x131)))), wi64 (x131 + 1), A123, c124, n125, p156, rfl, rfl, rfl, rfl, rfl, C163, hn162, hR160, hX96⟩
    ·refine W.condF (congrArg Value.bool (decide_eq_false hc149)) ?_
     refine W.exit ?_
     refine thenE_x ?_
     refine thenE_x ?_
     refine inB_here ?_
     cases hX96
     refine thenE_n ?_
     exact ⟨A123, c124, n125, p127, rfl, C132, hn126, hR128⟩
   ·rintro env_ w_ ⟨A89, c90, n91, p93, ho87, C95, hn92, hR94⟩
    apply kn env_ (.c ho87 .n)
    refine W.seq ?_
    refine W.region rfl ?_
    refine WL.run to 3 rfl ?_
    refine WL.done ?_
    refine W.ret ?_
    simp only [Option.some.injEq, Prod.mk.injEq] at H
    obtain ⟨e164, e165⟩ := H
    subst e164 e165
    exact post_r (resE2 rfl rfl rfl) ⟨A89, c90, n91, p93, rfl, C95, hn92, hR94⟩
def bits_Number.l1 : Nat → List Int → Int → Int → Option Int
  | 0, _, _, _ => none
  | k + 1, a0, x44, x48 => if x48 < (a0.length : Int) then (if 0 ≤ x48 ∧ x48 < (a0.length : Int) then (bits_Number.l1 k a0 (bitsOp .or .u64 (shlOp .u64 x44 8) (wu64 (a0.getD x48.toNat 0))) (wi64 (x48 + 1))) else none) else (some x44)
def bits_Number.f (k : Nat) (a0 : List Int) : Option (Int × Int) := if (a0.length : Int) > 8 then (some (0, 1)) else ((bits_Number.l1 k a0 0 0).bind fun x39 => some (x39, 0))
set_option maxRecDepth 100000 in
set_option maxHeartbeats 4000000 in
theorem bits_Number.calls (k : Nat) (w : World) (F : CH) (A1 : Option Addr) (c2 : Nat) (n3 : Nat) (a0 : List Int) (hp : Pre w F []) (hn4 : n3 = a0.length) (hl5 : a0.length ≤ c2) (hm6 : c2 ≤ maxLen) (hS7 : Sl (Kd.int .u8) F F A1 a0) (r0_ : Int) (r1_ : Int) (H : bits_Number.f k a0 = some (r0_, r1_)) :
    Calls Tryz.prog 73 #[.slice A1 n3 c2] w fun e w' => e = .returned (.tuple #[(.int .u64 r0_), (.int .i64 r1_)]) ∧ (∃ n_, w' = w.drewN n_) := by
 have C := Ctx.start hp
 generalize domL [] = D at C
 have W0 : ∃ n_, w = w.drewN n_ := ⟨0, rfl⟩
 unfold bits_Number.f at H
 refine Calls.ofW Tryz.func73 rfl (by simp [Tryz.ntmps73]) ?_
 refine W.seq ?_
 refine W.region rfl ?_
 refine WL.run to 2 rfl ?_
 refine WL.done ?_
 refine W.seq ?_
 refine W.seq ?_
 refine W.region rfl ?_
 refine WL.run to 1 rfl ?_
 refine WL.val (Yl.lenN (A := A1) (l := n3) (q := c2) (n := (a0.length : Int)) rfl Tryz.underlying24 (by omega)) ?_
 refine WL.run to 1 rfl ?_
 refine WL.done ?_
 rcases iteE H with ⟨hc8, H⟩ | ⟨hc8, H⟩
 ·refine W.condT (congrArg Value.bool (decide_eq_true hc8)) ?_
  refine W.seq ?_
  refine W.region rfl ?_
  refine WL.run to 2 rfl ?_
  refine WL.done ?_
  refine W.ret ?_
  refine thenE_r ?_
  simp only [Option.some.injEq, Prod.mk.injEq] at H
  obtain ⟨e9, e10⟩ := H
  subst e9 e10
  exact post_r (resE2 rfl rfl rfl) ⟨rfl, W0⟩
 ·refine W.condF (congrArg Value.bool (decide_eq_false hc8)) ?_
  refine W.skip ?_
  refine W.seq ?_
  refine W.region rfl ?_
  refine WL.run to 1 rfl ?_
  refine WL.done ?_
  refine W.seq ?_
  refine W.seq ?_
  refine W.region rfl ?_
  refine WL.run to 1 rfl ?_
  refine WL.val (Yl.lenN (A := A1) (l := n3) (q := c2) (n := (a0.length : Int)) rfl Tryz.underlying24 (by omega)) ?_
  refine WL.run to 1 rfl ?_
  refine WL.done ?_
  obtain ⟨x39, hX42, H⟩ := bindE H
  refine W.cutM (fun env_ w_ => env_ 4 = .int .u64 x39 ∧ Ctx w F D w_ F [] ∧ (∃ n_, w_ = w.drewN n_)) ?_ ?_
  ·refine W.block ?_
   refine W.loop (fun g_ env_ w_ => ∃ (x44 : Int) (x48 : Int), env_ 4 = .int .u64 x44 ∧ env_ 10 = .slice A1 n3 c2 ∧ env_ 11 = .int .i64 (a0.length : Int) ∧ env_ 12 = .int .i64 x48 ∧ Ctx w F D w_ F [] ∧ (∃ n_, w_ = w.drewN n_) ∧ bits_Number.l1 g_ a0 x44 x48 = some x39) k ⟨0, 0, rfl, rfl, rfl, rfl, C, W0, hX42⟩ ?_
   clear hX42
   rintro g_ env_ w_ ⟨x44, x48, ho43, ho45, ho46, ho47, C49, Wq50, hX42⟩
   rcases g_ with _ | k60
   · exact absurd hX42 (by simp [bits_Number.l1])
   rw [bits_Number.l1] at hX42
   apply kn env_ (.c ho43 (.c ho45 (.c ho46 (.c ho47 .n))))
   refine W.seq ?_
   refine W.region rfl ?_
   refine WL.run to 1 rfl ?_
   refine WL.done ?_
   refine W.seq ?_
   rcases iteE hX42 with ⟨hc61, hX42⟩ | ⟨hc61, hX42⟩
   ·refine W.condT (congrArg Value.bool (decide_eq_true hc61)) ?_
    refine W.skip ?_
    refine W.seq ?_
    refine W.block ?_
    refine W.seq ?_
    refine W.region rfl ?_
    obtain ⟨hc62, hX42⟩ := guardE hX42
    obtain ⟨b63, of64, hA65, he66⟩ := hS7 (by omega)
    refine WL.val (Yl.elemAddr (i := x48) rfl rfl hA65 Tryz.underlying24 sz5 (by omega)) ?_
    obtain ⟨cs67, hr68, hx69⟩ := he66 x48.toNat _ (getD_some (d := 0) (by omega))
    obtain rfl := hr68
    refine WL.val (Yl.load (v := .int .u8 (a0.getD x48.toNat 0)) rfl Tryz.underlying5 rfl (((C49.fro)).cell (hx69 0 _ rfl))) ?_
    refine WL.run to 1 rfl ?_
    refine WL.done ?_
    refine W.region rfl ?_
    refine WL.run to 1 rfl ?_
    refine WL.val (Yl.shl (m := x44) (n := 8) (r := shlOp .u64 x44 8) rfl rfl (by decide) rfl) ?_
    refine WL.run to 1 rfl ?_
    refine WL.val (Yl.conv (m := a0.getD x48.toNat 0) (r := wu64 (a0.getD x48.toNat 0)) rfl Tryz.underlying5 Tryz.underlying82 rfl) ?_
    refine WL.val (Yl.or (m := shlOp .u64 x44 8) (n := wu64 (a0.getD x48.toNat 0)) (r := bitsOp .or .u64 (shlOp .u64 x44 8) (wu64 (a0.getD x48.toNat 0))) rfl rfl rfl) ?_
    refine WL.run to 1 rfl ?_
    refine WL.done ?_
    refine inB_n ?_
    refine W.region rfl ?_
    refine WL.run to 2 rfl ?_
    refine WL.done ?_
    exact thenE_n ⟨k60, Nat.lt_succ_self _, bitsOp .or .u64 (shlOp .u64 x44 8) (wu64 (a0.getD x48.toNat 0)), wi64 (x48 + 1), rfl, rfl, rfl, rfl, C49, Wq50, hX42⟩
   ·refine W.condF (congrArg Value.bool (decide_eq_false hc61)) ?_
    refine W.exit ?_
    refine thenE_x ?_
    refine thenE_x ?_
    refine inB_here ?_
    cases hX42
    refine thenE_n ?_
    exact ⟨rfl, C49, Wq50⟩
  ·rintro env_ w_ ⟨ho38, C40, Wq41⟩
   apply kn env_ (.c ho38 .n)
   refine W.seq ?_
   refine W.region rfl ?_
   refine WL.run to 3 rfl ?_
   refine WL.done ?_
   refine W.ret ?_
   simp only [Option.some.injEq, Prod.mk.injEq] at H
   obtain ⟨e70, e71⟩ := H
   subst e70 e71
   exact post_r (resE2 rfl rfl rfl) ⟨rfl, Wq41⟩
def wire_Num.l1 : Nat → Int → Int → Option Int
  | 0, _, _ => none
  | k + 1, a0, x19 => if x19 > 0 then (if 0 ≤ (wi64 (8 * (wi64 (x19 - 1)))) then (if (shrOp .u64 a0 (wi64 (8 * (wi64 (x19 - 1))))) = 0 then (wire_Num.l1 k a0 (wi64 (x19 - 1))) else (some x19)) else none) else (some x19)
def wire_Num.f (k : Nat) (a0 : Int) : Option (List Int) := (wire_Num.l1 k a0 8).bind fun x14 => (bits_Bytes.f k a0 x14).bind fun ⟨r29, r30⟩ => if ([wu8 x14].length + r29.length + ([wu8 x14].length + r29.length) / 4 + 192) * 1 ≤ 281474976710656 then (some ([wu8 x14] ++ r29)) else none
set_option maxRecDepth 100000 in
set_option maxHeartbeats 4000000 in
theorem wire_Num.calls (k : Nat) (w : World) (F : CH) (a0 : Int) (hp : Pre w F [])  (r0_ : List Int) (H : wire_Num.f k a0 = some r0_) :
    Calls Tryz.prog 51 #[.int .u64 a0] w fun e w' => ∃ (A61 : Option Addr) (c62 : Nat) (n63 : Nat) (p65 : CH), e = .returned (.slice A61 n63 c62) ∧ Ctx w F (domL []) w' F [p65] ∧ n63 = r0_.length ∧ Row (Kd.int .u8) F p65 (.slice A61 n63 c62) r0_ := by
 have C := Ctx.start hp
 generalize hD : domL [] = D at C ⊢
 unfold wire_Num.f at H
 refine Calls.ofW Tryz.func51 rfl (by simp [Tryz.ntmps51]) ?_
 refine W.seq ?_
 refine W.region rfl ?_
 refine WL.run to 1 rfl ?_
 refine WL.done ?_
 refine W.scope ?_
 refine W.seq ?_
 refine W.region rfl ?_
 refine WL.run to 1 rfl ?_
 refine WL.done ?_
 refine W.seq ?_
 refine W.label ?_
 refine W.seq ?_
 obtain ⟨x14, hX16, H⟩ := bindE H
 refine W.cutM (fun env_ w_ => env_ 0 = .int .u64 a0 ∧ env_ 3 = .int .i64 x14 ∧ Ctx w F D w_ F []) ?_ ?_
 ·refine W.block ?_
  refine W.loop (fun g_ env_ w_ => ∃ (x19 : Int), env_ 0 = .int .u64 a0 ∧ env_ 3 = .int .i64 x19 ∧ Ctx w F D w_ F [] ∧ wire_Num.l1 g_ a0 x19 = some x14) k ⟨8, rfl, rfl, C, hX16⟩ ?_
  clear hX16
  rintro g_ env_ w_ ⟨x19, ho17, ho18, C20, hX16⟩
  rcases g_ with _ | k24
  · exact absurd hX16 (by simp [wire_Num.l1])
  rw [wire_Num.l1] at hX16
  apply kn env_ (.c ho17 (.c ho18 .n))
  refine W.seq ?_
  refine W.seq ?_
  refine W.region rfl ?_
  refine WL.run to 2 rfl ?_
  refine WL.done ?_
  rcases iteE hX16 with ⟨hc25, hX16⟩ | ⟨hc25, hX16⟩
  ·refine W.condT (congrArg Value.bool (decide_eq_true hc25)) ?_
   refine W.skip ?_
   refine W.block ?_
   refine W.seq ?_
   refine W.seq ?_
   refine W.region rfl ?_
   refine WL.run to 4 rfl ?_
   obtain ⟨hc26, hX16⟩ := guardE hX16
   refine WL.val (Yl.shr (m := a0) (n := wi64 (8 * (wi64 (x19 - 1)))) (r := shrOp .u64 a0 (wi64 (8 * (wi64 (x19 - 1))))) rfl rfl hc26 rfl) ?_
   refine WL.run to 1 rfl ?_
   refine WL.done ?_
   rcases iteE hX16 with ⟨hc27, hX16⟩ | ⟨hc27, hX16⟩
   ·refine W.condF (congrArg Value.bool (ndec_t hc27)) ?_
    refine W.skip ?_
    refine W.region rfl ?_
    refine WL.run to 3 rfl ?_
    refine WL.done ?_
    refine inB_n ?_
    exact thenE_n ⟨k24, Nat.lt_succ_self _, wi64 (x19 - 1), rfl, rfl, C20, hX16⟩
   ·refine W.condT (congrArg Value.bool (ndec_f hc27)) ?_
    refine W.exit ?_
    refine thenE_x ?_
    refine inB_x rfl ?_
    refine thenE_x ?_
    refine inB_here ?_
    cases hX16
    refine thenE_n ?_
    exact ⟨rfl, rfl, C20⟩
  ·refine W.condF (congrArg Value.bool (decide_eq_false hc25)) ?_
   refine W.exit ?_
   refine thenE_x ?_
   refine thenE_x ?_
   refine inB_here ?_
   cases hX16
   refine thenE_n ?_
   exact ⟨rfl, rfl, C20⟩
 ·rintro env_ w_ ⟨ho12, ho13, C15⟩
  apply kn env_ (.c ho12 (.c ho13 .n))
  refine W.seq ?_
  refine W.region rfl ?_
  refine WL.run to 2 rfl ?_
  obtain ⟨⟨r29, r30⟩, hg28, H⟩ := bindE H
  refine WL.callH (bits_Bytes.calls k _ F a0 x14 (Ctx.pre (qs := []) (rest := []) C15)  r29 r30 hg28) (Yenter.fn Tryz.func71 (by kernel_rfl) rfl (argsE (.cons rfl (.cons rfl .nil)))) ?_
  rintro e_ w_ ⟨A31, c32, n33, p35, rfl, C37, hn34, hR36⟩
  refine ⟨_, rfl, ?_⟩
  have C38 : Ctx _ _ _ _ _ [p35] := Ctx.call (qs := []) (rest := []) C15 C37
  refine WL.run to 5 rfl ?_
  refine WL.done ?_
  refine W.seq ?_
  refine W.region rfl ?_
  refine WL.run to 1 rfl ?_
  refine WL.val (Yl.conv (m := x14) (r := wu8 x14) rfl Tryz.underlying3 Tryz.underlying5 rfl) ?_
  obtain ⟨A39, c40, n41, p42, w43, hn44, hy45, C46, hR47⟩ := ev_lit1' (P := Tryz.prog) 5 (Kd.int .u8) C38 Tryz.underlying24 ti5 ⟨by decide, by decide⟩ (wu8 x14) (.int .u8 (wu8 x14)) rfl
  refine WL.val (hy45 _ _ _ rfl) ?_
  refine WL.run to 1 rfl ?_
  obtain ⟨hc48, H⟩ := guardE H
  obtain ⟨A49, c50, n51, p52, w53, hn54, hy55, C56, hR57⟩ := ev_append' (P := Tryz.prog) (cb := c32) 5 (Kd.int .u8) [] [p35] C46 hR47 hn34 (Row.sl hR36) (Ctx.subI 1 C46 rfl) Tryz.underlying24 ti5 rfl zo5 (by decide) (by decide) (by simpa using hc48)
  have C58 : Ctx _ _ _ _ _ [p52, p35] := C56
  refine WL.val (hy55 _ _ _ _ rfl rfl) ?_
  refine WL.run to 1 rfl ?_
  refine WL.done ?_
  refine W.ret ?_
  refine noG_r ?_
  have C59 : Ctx _ _ _ _ _ [p52] := Ctx.pick [0] C58 rfl
  have e60 := Option.some.inj H
  subst e60
  exact post_r (resE1 rfl rfl) ⟨A49, c50, n51, p52, rfl, C59, hn54, hR57⟩
def wire_Text.f (k : Nat) (a0 : List Int) : Option (List Int) := (wire_Num.f k (wu64 (a0.length : Int))).bind fun r9 => if (r9.length + a0.length + (r9.length + a0.length) / 4 + 192) * 1 ≤ 281474976710656 then (some (r9 ++ a0)) else none
set_option maxRecDepth 100000 in
set_option maxHeartbeats 4000000 in
theorem wire_Text.calls (k : Nat) (w : World) (F : CH) (A1 : Option Addr) (c2 : Nat) (n3 : Nat) (a0 : List Int) (hp : Pre w F []) (hn4 : n3 = a0.length) (hl5 : a0.length ≤ c2) (hm6 : c2 ≤ maxLen) (hS7 : Sl (Kd.int .u8) F F A1 a0) (r0_ : List Int) (H : wire_Text.f k a0 = some r0_) :
    Calls Tryz.prog 52 #[.slice A1 n3 c2] w fun e w' => ∃ (A30 : Option Addr) (c31 : Nat) (n32 : Nat) (p34 : CH), e = .returned (.slice A30 n32 c31) ∧ Ctx w F (domL []) w' F [p34] ∧ n32 = r0_.length ∧ Row (Kd.int .u8) F p34 (.slice A30 n32 c31) r0_ := by
 have C := Ctx.start hp
 generalize hD : domL [] = D at C ⊢
 unfold wire_Text.f at H
 refine Calls.ofW Tryz.func52 rfl (by simp [Tryz.ntmps52]) ?_
 refine W.seq ?_
 refine W.region rfl ?_
 refine WL.run to 1 rfl ?_
 refine WL.done ?_
 refine W.seq ?_
 refine W.region rfl ?_
 refine WL.run to 1 rfl ?_
 refine WL.val (Yl.lenN (A := A1) (l := n3) (q := c2) (n := (a0.length : Int)) rfl Tryz.underlying24 (by omega)) ?_
 refine WL.val (Yl.conv (m := (a0.length : Int)) (r := wu64 (a0.length : Int)) rfl Tryz.underlying3 Tryz.underlying82 rfl) ?_
 obtain ⟨r9, hg8, H⟩ := bindE H
 refine WL.callH (wire_Num.calls k _ F (wu64 (a0.length : Int)) (Ctx.pre (qs := []) (rest := []) C)  r9 hg8) (Yenter.fn Tryz.func51 (by kernel_rfl) rfl (argsE (.cons rfl .nil))) ?_
 rintro e_ w_ ⟨A10, c11, n12, p14, rfl, C16, hn13, hR15⟩
 refine ⟨_, rfl, ?_⟩
 have C17 : Ctx _ _ _ _ _ [p14] := Ctx.call (qs := []) (rest := []) C C16
 refine WL.run to 1 rfl ?_
 obtain ⟨hc18, H⟩ := guardE H
 obtain ⟨A19, c20, n21, p22, w23, hn24, hy25, C26, hR27⟩ := ev_append' (P := Tryz.prog) (cb := c2) 5 (Kd.int .u8) [] [] C17 hR15 hn4 hS7 C17.fro Tryz.underlying24 ti5 rfl zo5 (by decide) (by decide) (by simpa using hc18)
 have C28 : Ctx _ _ _ _ _ [p22] := C26
 refine WL.val (hy25 _ _ _ _ rfl rfl) ?_
 refine WL.run to 1 rfl ?_
 refine WL.done ?_
 refine W.ret ?_
 have e29 := Option.some.inj H
 subst e29
 exact post_r (resE1 rfl rfl) ⟨A19, c20, n21, p22, rfl, C28, hn24, hR27⟩
def wire_Read.f (k : Nat) (a0 : List Int) : Option TReader := if (a0.length + a0.length / 4 + 192) * 1 ≤ 281474976710656 then (some (⟨a0, 0, 0⟩ : TReader)) else none
set_option maxRecDepth 100000 in
set_option maxHeartbeats 4000000 in
theorem wire_Read.calls (k : Nat) (w : World) (F : CH) (A1 : Option Addr) (c2 : Nat) (n3 : Nat) (a0 : List Int) (hp : Pre w F []) (hn4 : n3 = a0.length) (hl5 : a0.length ≤ c2) (hm6 : c2 ≤ maxLen) (hS7 : Sl (Kd.int .u8) F F A1 a0) (r0_ : TReader) (H : wire_Read.f k a0 = some r0_) :
    Calls Tryz.prog 30 #[.slice A1 n3 c2] w fun e w' => ∃ (F' : CH) (g40 : Nat) (o41 : Nat) (A42 : Option Addr) (c43 : Nat) (n44 : Nat), e = .returned (.pointer (some ⟨g40, o41, none⟩)) ∧ CH.le F F' ∧ Ctx w F (domL []) w' F' [CH.row g40 o41 [.slice A42 n44 c43, .int .i64 r0_.at_, .int .i64 r0_.e]] ∧ n44 = r0_.b.length ∧ r0_.b.length ≤ c43 ∧ c43 ≤ maxLen ∧ Sl (Kd.int .u8) F' F' A42 r0_.b := by
 have C := Ctx.start hp
 generalize hD : domL [] = D at C ⊢
 unfold wire_Read.f at H
 refine Calls.ofW Tryz.func30 rfl (by simp [Tryz.ntmps30]) ?_
 refine W.seq ?_
 refine W.region rfl ?_
 refine WL.run to 1 rfl ?_
 refine WL.done ?_
 refine W.seq ?_
 refine W.region rfl ?_
 obtain ⟨A8, c9, n10, p11, w12, hn13, hy14, C15, hR16⟩ := ev_lit0 (P := Tryz.prog) 5 (Kd.int .u8) C Tryz.underlying24 ti5
 refine WL.val (hy14 _ _) ?_
 refine WL.run to 1 rfl ?_
 obtain ⟨hc17, H⟩ := guardE H
 obtain ⟨A18, c19, n20, p21, w22, hn23, hy24, C25, hR26⟩ := ev_append' (P := Tryz.prog) (cb := c2) 5 (Kd.int .u8) [] [] C15 hR16 hn4 hS7 C15.fro Tryz.underlying24 ti5 rfl zo5 (by decide) (by decide) (by simpa using hc17)
 have C27 : Ctx _ _ _ _ _ [p21] := C25
 rw [List.nil_append] at hn23 hR26
 refine WL.val (hy24 _ _ _ _ rfl rfl) ?_
 let q1 : List Go.Value := [.slice A18 n20 c19, .int .i64 0, .int .i64 0]
 refine WL.val (Yl.build (places := [(0, 1), (1, 1), (2, 1)]) (cs := List.toArray q1) Tryz.underlying107 zr107 (pl107 _ Tryz.underlying107) (partsB (.cons rfl .nil)) rfl) ?_
 obtain ⟨g28, w29, hy30, C31⟩ := ev_box (P := Tryz.prog) 107 (.agg (List.toArray q1)) q1 C27 rfl
 refine WL.val (hy30 _ _ _ rfl) ?_
 refine WL.run to 1 rfl ?_
 refine WL.done ?_
 refine W.ret ?_
 obtain ⟨F32, le33, lp34, (C35 : Ctx _ _ _ _ _ [CH.row g28 0 q1])⟩ := Ctx.fzI 1 C31 rfl
 obtain ⟨hl36, hm37, hS38⟩ := Row.fz hR26 le33 lp34
 have e39 := Option.some.inj H
 subst e39
 exact post_r (resE1 rfl rfl) ⟨F32, g28, 0, A18, c19, n20, rfl, le33, C35, hn23, hl36, hm37, hS38⟩
def wire_Reader_off.f (k : Nat) (a0 : TReader) : Option Bool := some (!decide (a0.e = 0))
set_option maxRecDepth 100000 in
set_option maxHeartbeats 4000000 in
theorem wire_Reader_off.calls (k : Nat) (w : World) (F : CH) (g1 : Nat) (o2 : Nat) (A3 : Option Addr) (c4 : Nat) (n5 : Nat) (a0 : TReader) (hp : Pre w F []) (hn6 : n5 = a0.b.length) (hl7 : a0.b.length ≤ c4) (hm8 : c4 ≤ maxLen) (hS9 : Sl (Kd.int .u8) F F A3 a0.b) (hg10 : CH.le (CH.row g1 o2 [.slice A3 n5 c4, .int .i64 a0.at_, .int .i64 a0.e]) F) (r0_ : Bool) (H : wire_Reader_off.f k a0 = some r0_) :
    Calls Tryz.prog 56 #[.pointer (some ⟨g1, o2, none⟩)] w fun e w' => e = .returned (.bool r0_) ∧ (∃ n_, w' = w.drewN n_) := by
 have C := Ctx.start hp
 generalize domL [] = D at C
 have W0 : ∃ n_, w = w.drewN n_ := ⟨0, rfl⟩
 unfold wire_Reader_off.f at H
 refine Calls.ofW Tryz.func56 rfl (by simp [Tryz.ntmps56]) ?_
 refine W.seq ?_
 refine W.region rfl ?_
 refine WL.run to 1 rfl ?_
 refine WL.done ?_
 refine W.seq ?_
 refine W.region rfl ?_
 refine WL.run to 1 rfl ?_
 refine WL.val (Yl.ptrEqSN rfl rfl Tryz.underlying74) ?_
 refine WL.run to 4 rfl ?_
 let q1 : List Go.Value := [.slice A3 n5 c4, .int .i64 a0.at_, .int .i64 a0.e]
 refine WL.valOn rfl rfl (Yl.loadV (g := g1) (off := o2) (o := 2) (cs := q1) (v := .int .i64 a0.e) rfl Tryz.underlying28 rfl (Sub.mono (C.fro) hg10) rfl) ?_
 refine WL.run to 3 rfl ?_
 refine WL.done ?_
 refine W.ret ?_
 have e11 := Option.some.inj H
 subst e11
 exact post_r (resE1 rfl rfl) ⟨rfl, W0⟩
def wire_Reader_fails.f (k : Nat) (a0 : TReader) (a1 : Int) (a2 : Int) : Option TReader := some (⟨a0.b, a2, a1⟩ : TReader)
set_option maxRecDepth 100000 in
set_option maxHeartbeats 4000000 in
theorem wire_Reader_fails.calls (k : Nat) (w : World) (F : CH) (g1 : Nat) (o2 : Nat) (A3 : Option Addr) (c4 : Nat) (n5 : Nat) (a0 : TReader) (a1 : Int) (a2 : Int) (hp : Pre w F [CH.row g1 o2 [.slice A3 n5 c4, .int .i64 a0.at_, .int .i64 a0.e]]) (hn6 : n5 = a0.b.length) (hl7 : a0.b.length ≤ c4) (hm8 : c4 ≤ maxLen) (hS9 : Sl (Kd.int .u8) F F A3 a0.b) (r0_ : TReader) (H : wire_Reader_fails.f k a0 a1 a2 = some r0_) :
    Calls Tryz.prog 58 #[.pointer (some ⟨g1, o2, none⟩), .int .i64 a1, .int .i64 a2] w fun e w' => ∃ (A19 : Option Addr) (c20 : Nat) (n21 : Nat), e = .returned (.tuple #[]) ∧ Ctx w F (domL [CH.row g1 o2 [.slice A3 n5 c4, .int .i64 a0.at_, .int .i64 a0.e]]) w' F [CH.row g1 o2 [.slice A19 n21 c20, .int .i64 r0_.at_, .int .i64 r0_.e]] ∧ n21 = r0_.b.length ∧ r0_.b.length ≤ c20 ∧ c20 ≤ maxLen ∧ Sl (Kd.int .u8) F F A19 r0_.b := by
 have C := Ctx.start hp
 generalize hD : domL [CH.row g1 o2 [.slice A3 n5 c4, .int .i64 a0.at_, .int .i64 a0.e]] = D at C ⊢
 unfold wire_Reader_fails.f at H
 refine Calls.ofW Tryz.func58 rfl (by simp [Tryz.ntmps58]) ?_
 refine W.region rfl ?_
 refine WL.run to 6 rfl ?_
 obtain ⟨w10, hy11, C12⟩ := ev_setI (P := Tryz.prog) (ps1 := []) (ps2 := []) (t := 28) 2 [.int .i64 a1] (.int .i64 a1) C rfl rfl (ones_of rfl) sz28
 let q1 : List Go.Value := [.slice A3 n5 c4, .int .i64 a0.at_, .int .i64 a1]
 have C13 : Ctx _ _ _ _ _ [CH.row g1 o2 q1] := C12
 refine WL.skip (hy11 _ _ _ _ rfl rfl) ?_
 refine WL.run to 2 rfl ?_
 obtain ⟨w14, hy15, C16⟩ := ev_setI (P := Tryz.prog) (ps1 := []) (ps2 := []) (t := 3) 1 [.int .i64 a2] (.int .i64 a2) C13 rfl rfl (ones_of rfl) sz3
 let v2 : CH := CH.row g1 o2 [.slice A3 n5 c4, .int .i64 a2, .int .i64 a1]
 have C17 : Ctx _ _ _ _ _ [v2] := C16
 refine WL.skip (hy15 _ _ _ _ rfl rfl) ?_
 refine WL.done ?_
 have e18 := Option.some.inj H
 subst e18
 exact post_n (resE0 rfl ) ⟨A3, c4, n5, rfl, C17, hn6, hl7, hm8, hS9⟩
def wire_Reader_take.f (k : Nat) (a0 : TReader) (a1 : Int) : Option ((List Int) × Bool × TReader) := if a1 > (wu64 (wi64 ((a0.b.length : Int) - a0.at_))) then (some (([] : List Int), false, a0)) else (if 0 ≤ a0.at_ ∧ a0.at_ ≤ (wi64 (a0.at_ + (wi64 a1))) ∧ (wi64 (a0.at_ + (wi64 a1))) ≤ (a0.b.length : Int) then (some ((a0.b.take ((wi64 (a0.at_ + (wi64 a1))).toNat)).drop a0.at_.toNat, true, (⟨a0.b, wi64 (a0.at_ + (wi64 a1)), a0.e⟩ : TReader))) else none)
set_option maxRecDepth 100000 in
set_option maxHeartbeats 4000000 in
theorem wire_Reader_take.calls (k : Nat) (w : World) (F : CH) (g1 : Nat) (o2 : Nat) (A3 : Option Addr) (c4 : Nat) (n5 : Nat) (a0 : TReader) (a1 : Int) (hp : Pre w F [CH.row g1 o2 [.slice A3 n5 c4, .int .i64 a0.at_, .int .i64 a0.e]]) (hn6 : n5 = a0.b.length) (hl7 : a0.b.length ≤ c4) (hm8 : c4 ≤ maxLen) (hS9 : Sl (Kd.int .u8) F F A3 a0.b) (r0_ : List Int) (r1_ : Bool) (r2_ : TReader) (H : wire_Reader_take.f k a0 a1 = some (r0_, r1_, r2_)) :
    Calls Tryz.prog 57 #[.pointer (some ⟨g1, o2, none⟩), .int .u64 a1] w fun e w' => ∃ (A35 : Option Addr) (c36 : Nat) (n37 : Nat) (A42 : Option Addr) (c43 : Nat) (n44 : Nat), e = .returned (.tuple #[(.slice A35 n37 c36), (.bool r1_)]) ∧ Ctx w F (domL [CH.row g1 o2 [.slice A3 n5 c4, .int .i64 a0.at_, .int .i64 a0.e]]) w' F [CH.row g1 o2 [.slice A42 n44 c43, .int .i64 r2_.at_, .int .i64 r2_.e]] ∧ n37 = r0_.length ∧ r0_.length ≤ c36 ∧ c36 ≤ maxLen ∧ Sl (Kd.int .u8) F F A35 r0_ ∧ n44 = r2_.b.length ∧ r2_.b.length ≤ c43 ∧ c43 ≤ maxLen ∧ Sl (Kd.int .u8) F F A42 r2_.b := by
 have C := Ctx.start hp
 generalize hD : domL [CH.row g1 o2 [.slice A3 n5 c4, .int .i64 a0.at_, .int .i64 a0.e]] = D at C ⊢
 unfold wire_Reader_take.f at H
 refine Calls.ofW Tryz.func57 rfl (by simp [Tryz.ntmps57]) ?_
 refine W.seq ?_
 refine W.region rfl ?_
 refine WL.run to 2 rfl ?_
 refine WL.done ?_
 refine W.seq ?_
 refine W.seq ?_
 refine W.region_quiet (by kernel_rfl) (by kernel_rfl) rfl ?_
 refine WQ.run to 4 rfl ?_
 let q1 : List Go.Value := [.slice A3 n5 c4, .int .i64 a0.at_, .int .i64 a0.e]
 refine WQ.vl (fun _ => Yl.loadV (g := g1) (off := o2) (o := 0) (cs := q1) (v := .slice A3 n5 c4) rfl Tryz.underlying24 rfl (Ctx.subI 0 (C.drewN _) rfl) rfl) ?_
 refine WQ.vl (fun _ => Yl.lenN (A := A3) (l := n5) (q := c4) (n := (a0.b.length : Int)) rfl Tryz.underlying24 (by omega)) ?_
 refine WQ.run to 3 rfl ?_
 refine WQ.vl (fun _ => Yl.loadV (g := g1) (off := o2) (o := 1) (cs := q1) (v := .int .i64 a0.at_) rfl Tryz.underlying3 rfl (Ctx.subI 0 (C.drewN _) rfl) rfl) ?_
 refine WQ.run to 1 rfl ?_
 refine WQ.vl (fun _ => Yl.conv (m := wi64 ((a0.b.length : Int) - a0.at_)) (r := wu64 (wi64 ((a0.b.length : Int) - a0.at_))) rfl Tryz.underlying3 Tryz.underlying82 rfl) ?_
 refine WQ.run to 1 rfl ?_
 refine WQ.done (fun nq10 => ?_)
 have C11 := Ctx.drewN C nq10
 rcases iteE H with ⟨hc12, H⟩ | ⟨hc12, H⟩
 ·refine W.condT (congrArg Value.bool (decide_eq_true hc12)) ?_
  refine W.seq ?_
  refine W.region rfl ?_
  refine WL.run to 2 rfl ?_
  refine WL.done ?_
  refine W.ret ?_
  refine thenE_r ?_
  simp only [Option.some.injEq, Prod.mk.injEq] at H
  obtain ⟨e13, e14, e15⟩ := H
  subst e13 e14 e15
  exact post_r (resE2 rfl rfl rfl) ⟨none, 0, 0, A3, c4, n5, rfl, C11, rfl, (Nat.le_refl _), (Nat.zero_le _), (Sl.nil _ _ _ _), hn6, hl7, hm8, hS9⟩
 ·refine W.condF (congrArg Value.bool (decide_eq_false hc12)) ?_
  refine W.skip ?_
  refine W.seq ?_
  refine W.region rfl ?_
  refine WL.run to 3 rfl ?_
  refine WL.val (Yl.loadV (g := g1) (off := o2) (o := 1) (cs := q1) (v := .int .i64 a0.at_) rfl Tryz.underlying3 rfl (Ctx.subI 0 C11 rfl) rfl) ?_
  refine WL.run to 1 rfl ?_
  refine WL.done ?_
  refine W.seq ?_
  refine W.region rfl ?_
  refine WL.run to 3 rfl ?_
  refine WL.val (Yl.loadV (g := g1) (off := o2) (o := 1) (cs := q1) (v := .int .i64 a0.at_) rfl Tryz.underlying3 rfl (Ctx.subI 0 C11 rfl) rfl) ?_
  refine WL.run to 1 rfl ?_
  refine WL.val (Yl.conv (m := a1) (r := wi64 a1) rfl Tryz.underlying82 Tryz.underlying3 rfl) ?_
  refine WL.run to 3 rfl ?_
  obtain ⟨w16, hy17, C18⟩ := ev_setI (P := Tryz.prog) (ps1 := []) (ps2 := []) (t := 3) 1 [.int .i64 (wi64 (a0.at_ + (wi64 a1)))] (.int .i64 (wi64 (a0.at_ + (wi64 a1)))) C11 rfl rfl (ones_of rfl) sz3
  let q2 : List Go.Value := [.slice A3 n5 c4, .int .i64 (wi64 (a0.at_ + (wi64 a1))), .int .i64 a0.e]
  have C19 : Ctx _ _ _ _ _ [CH.row g1 o2 q2] := C18
  refine WL.skip (hy17 _ _ _ _ rfl rfl) ?_
  refine WL.done ?_
  refine W.seq ?_
  refine W.region_quiet (by kernel_rfl) (by kernel_rfl) rfl ?_
  refine WQ.run to 3 rfl ?_
  refine WQ.vl (fun _ => Yl.loadV (g := g1) (off := o2) (o := 0) (cs := q2) (v := .slice A3 n5 c4) rfl Tryz.underlying24 rfl (Ctx.subI 0 (C19.drewN _) rfl) rfl) ?_
  refine WQ.run to 4 rfl ?_
  refine WQ.vl (fun _ => Yl.loadV (g := g1) (off := o2) (o := 1) (cs := q2) (v := .int .i64 (wi64 (a0.at_ + (wi64 a1)))) rfl Tryz.underlying3 rfl (Ctx.subI 0 (C19.drewN _) rfl) rfl) ?_
  obtain ⟨hc20, H⟩ := guardE H
  have hl29 : a0.b.length ≤ c4 ∧ c4 ≤ maxLen := ⟨hl7, hm8⟩
  obtain ⟨A21, c22, n23, hv24, hn25, hl26, hm27, hS28⟩ := Sl.cut hS9 (c := c4) hl29.2 a0.at_.toNat ((wi64 (a0.at_ + (wi64 a1))).toNat) c4 (by omega) (by omega) (by omega) (by omega)
  refine WQ.vl (fun _ => Yl.slice a0.at_.toNat ((wi64 (a0.at_ + (wi64 a1))).toNat) c4 rfl Tryz.underlying24 sz5 rfl (OB.mk rfl (by omega)) (OB.mk rfl (by omega)) (by simp) (by omega) (by omega) (by omega) hv24) ?_
  refine WQ.run to 2 rfl ?_
  refine WQ.done (fun nq30 => ?_)
  have C31 := Ctx.drewN C19 nq30
  refine W.ret ?_
  simp only [Option.some.injEq, Prod.mk.injEq] at H
  obtain ⟨e32, e33, e34⟩ := H
  subst e32 e33 e34
  exact post_r (resE2 rfl rfl rfl) ⟨A21, c22, n23, A3, c4, n5, rfl, C31, hn25, hl26, hm27, hS28, hn6, hl7, hm8, hS9⟩
def wire_Reader_Num.f (k : Nat) (a0 : TReader) (a1 : Int) : Option (Int × TReader) := (wire_Reader_off.f k a0).bind fun r15 => if r15 = true then (some (0, a0)) else ((wire_Reader_take.f k a0 1).bind fun ⟨r22, r23, r24⟩ => if r23 = true then (if 0 ≤ (0 : Int) ∧ (0 : Int) < (r22.length : Int) then (if (r22.getD (0 : Int).toNat 0) > 8 then ((wire_Reader_fails.f k r24 41 a0.at_).bind fun r52 => some (0, r52)) else ((wire_Reader_take.f k r24 (wu64 (r22.getD (0 : Int).toNat 0))).bind fun ⟨r65, r66, r67⟩ => (bits_Number.f k r65).bind fun ⟨r85, r86⟩ => if r66 = true then ((if (r65.length : Int) > 0 then (if 0 ≤ (0 : Int) ∧ (0 : Int) < (r65.length : Int) then (some (decide ((r65.getD (0 : Int).toNat 0) = 0))) else none) else (some (false))).bind fun g90 => if g90 = true then ((wire_Reader_fails.f k r67 41 a0.at_).bind fun r109 => some (0, r109)) else (if r85 > a1 then ((wire_Reader_fails.f k r67 42 a0.at_).bind fun r123 => some (0, r123)) else (some (r85, r67)))) else ((wire_Reader_fails.f k r67 40 a0.at_).bind fun r138 => some (0, r138)))) else none) else ((wire_Reader_fails.f k r24 40 a0.at_).bind fun r151 => some (0, r151)))
set_option maxRecDepth 100000 in
set_option maxHeartbeats 4000000 in
theorem wire_Reader_Num.calls (k : Nat) (w : World) (F : CH) (g1 : Nat) (o2 : Nat) (A3 : Option Addr) (c4 : Nat) (n5 : Nat) (a0 : TReader) (a1 : Int) (hp : Pre w F [CH.row g1 o2 [.slice A3 n5 c4, .int .i64 a0.at_, .int .i64 a0.e]]) (hn6 : n5 = a0.b.length) (hl7 : a0.b.length ≤ c4) (hm8 : c4 ≤ maxLen) (hS9 : Sl (Kd.int .u8) F F A3 a0.b) (r0_ : Int) (r1_ : TReader) (H : wire_Reader_Num.f k a0 a1 = some (r0_, r1_)) :
    Calls Tryz.prog 55 #[.pointer (some ⟨g1, o2, none⟩), .int .u64 a1] w fun e w' => ∃ (A163 : Option Addr) (c164 : Nat) (n165 : Nat), e = .returned (.int .u64 r0_) ∧ Ctx w F (domL [CH.row g1 o2 [.slice A3 n5 c4, .int .i64 a0.at_, .int .i64 a0.e]]) w' F [CH.row g1 o2 [.slice A163 n165 c164, .int .i64 r1_.at_, .int .i64 r1_.e]] ∧ n165 = r1_.b.length ∧ r1_.b.length ≤ c164 ∧ c164 ≤ maxLen ∧ Sl (Kd.int .u8) F F A163 r1_.b := by
 have C := Ctx.start hp
 generalize hD : domL [CH.row g1 o2 [.slice A3 n5 c4, .int .i64 a0.at_, .int .i64 a0.e]] = D at C ⊢
 unfold wire_Reader_Num.f at H
 refine Calls.ofW Tryz.func55 rfl (by simp [Tryz.ntmps55]) ?_
 refine W.seq ?_
 refine W.region rfl ?_
 refine WL.run to 1 rfl ?_
 refine WL.done ?_
 refine W.seq ?_
 refine W.seq ?_
 refine W.region rfl ?_
 refine WL.run to 1 rfl ?_
 obtain ⟨F10, le11, lp12, (C13 : Ctx _ _ _ _ _ [])⟩ := Ctx.fzI 0 C rfl
 obtain ⟨r15, hg14, H⟩ := bindE H
 refine WL.callH (wire_Reader_off.calls k _ F10 g1 o2 A3 c4 n5 a0 C13.pre0 hn6 hl7 hm8 (Sl.mono hS9 le11 le11) lp12 r15 hg14) (Yenter.fn Tryz.func56 (by kernel_rfl) rfl (argsE (.cons rfl .nil))) ?_
 rintro e_ w_ ⟨rfl, ⟨m16, rfl⟩⟩
 refine ⟨_, rfl, ?_⟩
 have C17 := Ctx.drewN C m16
 refine WL.done ?_
 rcases iteE H with ⟨hc18, H⟩ | ⟨hc18, H⟩
 ·refine W.condT (congrArg Value.bool hc18) ?_
  refine W.seq ?_
  refine W.region rfl ?_
  refine WL.run to 1 rfl ?_
  refine WL.done ?_
  refine W.ret ?_
  refine thenE_r ?_
  simp only [Option.some.injEq, Prod.mk.injEq] at H
  obtain ⟨e19, e20⟩ := H
  subst e19 e20
  exact post_r (resE1 rfl rfl) ⟨A3, c4, n5, rfl, C17, hn6, hl7, hm8, hS9⟩
 ·refine W.condF (congrArg Value.bool (Bool.eq_false_iff.2 hc18)) ?_
  refine W.skip ?_
  refine W.seq ?_
  refine W.region rfl ?_
  refine WL.run to 3 rfl ?_
  let q1 : List Go.Value := [.slice A3 n5 c4, .int .i64 a0.at_, .int .i64 a0.e]
  refine WL.val (Yl.loadV (g := g1) (off := o2) (o := 1) (cs := q1) (v := .int .i64 a0.at_) rfl Tryz.underlying3 rfl (Ctx.subI 0 C17 rfl) rfl) ?_
  refine WL.run to 1 rfl ?_
  refine WL.val (Yl.mkFunc (r := .pointer (some ⟨g1, o2, none⟩)) rfl) ?_
  refine WL.run to 2 rfl ?_
  refine WL.done ?_
  refine W.seq ?_
  refine W.region rfl ?_
  refine WL.run to 1 rfl ?_
  obtain ⟨⟨r22, r23, r24⟩, hg21, H⟩ := bindE H
  refine WL.callH (wire_Reader_take.calls k _ F g1 o2 A3 c4 n5 a0 1 (Ctx.pre (qs := [CH.row g1 o2 q1]) (rest := []) C17) hn6 hl7 hm8 hS9 r22 r23 r24 hg21) (Yenter.fn Tryz.func57 (by kernel_rfl) rfl (argsE (.cons rfl (.cons rfl .nil)))) ?_
  rintro e_ w_ ⟨A25, c26, n27, A32, c33, n34, rfl, C39, hn28, hl29, hm30, hS31, hn35, hl36, hm37, hS38⟩
  refine ⟨_, rfl, ?_⟩
  let q2 : List Go.Value := [.slice A32 n34 c33, .int .i64 r24.at_, .int .i64 r24.e]
  have C40 : Ctx _ _ _ _ _ [CH.row g1 o2 q2] := Ctx.call (qs := [CH.row g1 o2 q1]) (rest := []) C17 C39
  refine WL.run to 5 rfl ?_
  refine WL.done ?_
  refine W.seq ?_
  refine W.seq ?_
  refine W.region rfl ?_
  refine WL.run to 2 rfl ?_
  refine WL.done ?_
  rcases iteE H with ⟨hc41, H⟩ | ⟨hc41, H⟩
  ·refine W.condF (congrArg Value.bool (nb_t hc41)) ?_
   refine W.skip ?_
   refine W.seq ?_
   refine W.seq ?_
   refine W.region rfl ?_
   refine WL.run to 1 rfl ?_
   obtain ⟨hc42, H⟩ := guardE H
   obtain ⟨b43, of44, hA45, he46⟩ := hS31 (by omega)
   refine WL.val (Yl.elemAddr (i := 0) rfl rfl hA45 Tryz.underlying24 sz5 (by omega)) ?_
   obtain ⟨cs47, hr48, hx49⟩ := he46 (0 : Int).toNat _ (getD_some (d := 0) (by omega))
   obtain rfl := hr48
   refine WL.val (Yl.load (v := .int .u8 (r22.getD (0 : Int).toNat 0)) rfl Tryz.underlying5 rfl (((C40.fro)).cell (hx49 0 _ rfl))) ?_
   refine WL.run to 1 rfl ?_
   refine WL.done ?_
   rcases iteE H with ⟨hc50, H⟩ | ⟨hc50, H⟩
   ·refine W.condT (congrArg Value.bool (decide_eq_true hc50)) ?_
    refine W.seq ?_
    refine W.region rfl ?_
    refine WL.run to 2 rfl ?_
    obtain ⟨r52, hg51, H⟩ := bindE H
    refine WL.callH (wire_Reader_fails.calls k _ F g1 o2 A32 c33 n34 r24 41 a0.at_ (Ctx.pre (qs := [CH.row g1 o2 q2]) (rest := []) C40) hn35 hl36 hm37 hS38 r52 hg51) (Yenter.fnB rfl Tryz.func58 (by kernel_rfl) rfl (.cons rfl (.cons rfl .nil))) ?_
    rintro e_ w_ ⟨A53, c54, n55, rfl, C60, hn56, hl57, hm58, hS59⟩
    refine ⟨_, rfl, ?_⟩
    let q3 : List Go.Value := [.slice A53 n55 c54, .int .i64 r52.at_, .int .i64 r52.e]
    have C61 : Ctx _ _ _ _ _ [CH.row g1 o2 q3] := Ctx.call (qs := [CH.row g1 o2 q2]) (rest := []) C40 C60
    refine WL.done ?_
    refine W.seq ?_
    refine W.region rfl ?_
    refine WL.run to 1 rfl ?_
    refine WL.done ?_
    refine W.ret ?_
    refine thenE_r ?_
    simp only [Option.some.injEq, Prod.mk.injEq] at H
    obtain ⟨e62, e63⟩ := H
    subst e62 e63
    exact post_r (resE1 rfl rfl) ⟨A53, c54, n55, rfl, C61, hn56, hl57, hm58, hS59⟩
   ·refine W.condF (congrArg Value.bool (decide_eq_false hc50)) ?_
    refine W.skip ?_
    refine W.seq ?_
    refine W.region rfl ?_
    refine WL.run to 2 rfl ?_
    refine WL.val (Yl.elemAddr (i := 0) rfl rfl hA45 Tryz.underlying24 sz5 (by omega)) ?_
    refine WL.val (Yl.load (v := .int .u8 (r22.getD (0 : Int).toNat 0)) rfl Tryz.underlying5 rfl (((C40.fro)).cell (hx49 0 _ rfl))) ?_
    refine WL.val (Yl.conv (m := r22.getD (0 : Int).toNat 0) (r := wu64 (r22.getD (0 : Int).toNat 0)) rfl Tryz.underlying5 Tryz.underlying82 rfl) ?_
    obtain ⟨⟨r65, r66, r67⟩, hg64, H⟩ := bindE H
    refine WL.callH (wire_Reader_take.calls k _ F g1 o2 A32 c33 n34 r24 (wu64 (r22.getD (0 : Int).toNat 0)) (Ctx.pre (qs := [CH.row g1 o2 q2]) (rest := []) C40) hn35 hl36 hm37 hS38 r65 r66 r67 hg64) (Yenter.fn Tryz.func57 (by kernel_rfl) rfl (argsE (.cons rfl (.cons rfl .nil)))) ?_
    rintro e_ w_ ⟨A68, c69, n70, A75, c76, n77, rfl, C82, hn71, hl72, hm73, hS74, hn78, hl79, hm80, hS81⟩
    refine ⟨_, rfl, ?_⟩
    let q4 : List Go.Value := [.slice A75 n77 c76, .int .i64 r67.at_, .int .i64 r67.e]
    have C83 : Ctx _ _ _ _ _ [CH.row g1 o2 q4] := Ctx.call (qs := [CH.row g1 o2 q2]) (rest := []) C40 C82
    refine WL.run to 5 rfl ?_
    refine WL.done ?_
    refine W.seq ?_
    refine W.region rfl ?_
    refine WL.run to 1 rfl ?_
    obtain ⟨⟨r85, r86⟩, hg84, H⟩ := bindE H
    refine WL.callH (bits_Number.calls k _ F A68 c69 n70 r65 C83.pre0 hn71 hl72 hm73 hS74 r85 r86 hg84) (Yenter.fn Tryz.func73 (by kernel_rfl) rfl (argsE (.cons rfl .nil))) ?_
    rintro e_ w_ ⟨rfl, ⟨m87, rfl⟩⟩
    refine ⟨_, rfl, ?_⟩
    have C88 := Ctx.drewN C83 m87
    refine WL.run to 5 rfl ?_
    refine WL.done ?_
    refine W.seq ?_
    refine W.block ?_
    refine W.seq ?_
    refine W.region rfl ?_
    refine WL.run to 3 rfl ?_
    refine WL.done ?_
    rcases iteE H with ⟨hc89, H⟩ | ⟨hc89, H⟩
    ·refine W.condF (congrArg Value.bool (nb_t hc89)) ?_
     refine W.seq ?_
     refine W.region rfl ?_
     refine WL.run to 1 rfl ?_
     refine WL.val (Yl.lenN (A := A68) (l := n70) (q := c69) (n := (r65.length : Int)) rfl Tryz.underlying24 (by omega)) ?_
     refine WL.run to 2 rfl ?_
     obtain ⟨g90, HE91, H⟩ := bindE H
     refine WL.cut (fun env_ w_ => env_ 58 = .bool g90 ∧ env_ 1 = .int .u64 a1 ∧ env_ 5 = .int .i64 a0.at_ ∧ env_ 6 = .func (.func 58) #[.pointer (some ⟨g1, o2, none⟩)] #[] ∧ env_ 10 = .int .u64 r85 ∧ Ctx w F D w_ F [CH.row g1 o2 q4]) ?_ ?_
     ·rcases iteE HE91 with ⟨hc92, HE91⟩ | ⟨hc92, HE91⟩
      ·refine WL.kn 62 (congrArg Value.bool (decide_eq_true hc92)) ?_
       refine WL.run to 1 rfl ?_
       obtain ⟨hc93, HE91⟩ := guardE HE91
       obtain ⟨b94, of95, hA96, he97⟩ := hS74 (by omega)
       refine WL.valOn rfl rfl (Yl.elemAddr (i := 0) rfl rfl hA96 Tryz.underlying24 sz5 (by omega)) ?_
       obtain ⟨cs98, hr99, hx100⟩ := he97 (0 : Int).toNat _ (getD_some (d := 0) (by omega))
       obtain rfl := hr99
       refine WL.valOn rfl rfl (Yl.load (v := .int .u8 (r65.getD (0 : Int).toNat 0)) rfl Tryz.underlying5 rfl (((C88.fro)).cell (hx100 0 _ rfl))) ?_
       refine WL.run to 3 rfl ?_
       cases HE91
       exact WL.done ⟨rfl, rfl, rfl, rfl, rfl, C88⟩
      ·refine WL.kn 62 (congrArg Value.bool (decide_eq_false hc92)) ?_
       refine WL.offs 4 62 true rfl rfl ?_
       refine WL.run to 2 rfl ?_
       cases HE91
       exact WL.done ⟨rfl, rfl, rfl, rfl, rfl, C88⟩
     ·rintro env_ w_ ⟨ho101, ho102, ho103, ho104, ho105, C106⟩
      apply kn env_ (.c ho101 (.c ho102 (.c ho103 (.c ho104 (.c ho105 .n)))))
      rcases iteE H with ⟨hc107, H⟩ | ⟨hc107, H⟩
      ·refine W.condT (congrArg Value.bool hc107) ?_
       refine W.region rfl ?_
       refine WL.run to 2 rfl ?_
       obtain ⟨r109, hg108, H⟩ := bindE H
       refine WL.callH (wire_Reader_fails.calls k _ F g1 o2 A75 c76 n77 r67 41 a0.at_ (Ctx.pre (qs := [CH.row g1 o2 q4]) (rest := []) C106) hn78 hl79 hm80 hS81 r109 hg108) (Yenter.fnB rfl Tryz.func58 (by kernel_rfl) rfl (.cons rfl (.cons rfl .nil))) ?_
       rintro e_ w_ ⟨A110, c111, n112, rfl, C117, hn113, hl114, hm115, hS116⟩
       refine ⟨_, rfl, ?_⟩
       let q5 : List Go.Value := [.slice A110 n112 c111, .int .i64 r109.at_, .int .i64 r109.e]
       have C118 : Ctx _ _ _ _ _ [CH.row g1 o2 q5] := Ctx.call (qs := [CH.row g1 o2 q4]) (rest := []) C106 C117
       refine WL.done ?_
       refine inB_n ?_
       refine W.seq ?_
       refine W.region rfl ?_
       refine WL.run to 1 rfl ?_
       refine WL.done ?_
       refine W.ret ?_
       simp only [Option.some.injEq, Prod.mk.injEq] at H
       obtain ⟨e119, e120⟩ := H
       subst e119 e120
       exact post_r (resE1 rfl rfl) ⟨A110, c111, n112, rfl, C118, hn113, hl114, hm115, hS116⟩
      ·refine W.condF (congrArg Value.bool (Bool.eq_false_iff.2 hc107)) ?_
       refine W.seq ?_
       refine W.region rfl ?_
       refine WL.run to 4 rfl ?_
       refine WL.done ?_
       rcases iteE H with ⟨hc121, H⟩ | ⟨hc121, H⟩
       ·refine W.condT (congrArg Value.bool (decide_eq_true hc121)) ?_
        refine W.region rfl ?_
        refine WL.run to 2 rfl ?_
        obtain ⟨r123, hg122, H⟩ := bindE H
        refine WL.callH (wire_Reader_fails.calls k _ F g1 o2 A75 c76 n77 r67 42 a0.at_ (Ctx.pre (qs := [CH.row g1 o2 q4]) (rest := []) C106) hn78 hl79 hm80 hS81 r123 hg122) (Yenter.fnB rfl Tryz.func58 (by kernel_rfl) rfl (.cons rfl (.cons rfl .nil))) ?_
        rintro e_ w_ ⟨A124, c125, n126, rfl, C131, hn127, hl128, hm129, hS130⟩
        refine ⟨_, rfl, ?_⟩
        let q6 : List Go.Value := [.slice A124 n126 c125, .int .i64 r123.at_, .int .i64 r123.e]
        have C132 : Ctx _ _ _ _ _ [CH.row g1 o2 q6] := Ctx.call (qs := [CH.row g1 o2 q4]) (rest := []) C106 C131
        refine WL.done ?_
        refine inB_n ?_
        refine W.seq ?_
        refine W.region rfl ?_
        refine WL.run to 1 rfl ?_
        refine WL.done ?_
        refine W.ret ?_
        simp only [Option.some.injEq, Prod.mk.injEq] at H
        obtain ⟨e133, e134⟩ := H
        subst e133 e134
        exact post_r (resE1 rfl rfl) ⟨A124, c125, n126, rfl, C132, hn127, hl128, hm129, hS130⟩
       ·refine W.condF (congrArg Value.bool (decide_eq_false hc121)) ?_
        refine W.seq ?_
        refine W.region rfl ?_
        refine WL.run to 2 rfl ?_
        refine WL.done ?_
        refine W.ret ?_
        refine inB_r ?_
        refine thenE_r ?_
        simp only [Option.some.injEq, Prod.mk.injEq] at H
        obtain ⟨e135, e136⟩ := H
        subst e135 e136
        exact post_r (resE1 rfl rfl) ⟨A75, c76, n77, rfl, C106, hn78, hl79, hm80, hS81⟩
    ·refine W.condT (congrArg Value.bool (nb_f hc89)) ?_
     refine W.region rfl ?_
     refine WL.run to 2 rfl ?_
     obtain ⟨r138, hg137, H⟩ := bindE H
     refine WL.callH (wire_Reader_fails.calls k _ F g1 o2 A75 c76 n77 r67 40 a0.at_ (Ctx.pre (qs := [CH.row g1 o2 q4]) (rest := []) C88) hn78 hl79 hm80 hS81 r138 hg137) (Yenter.fnB rfl Tryz.func58 (by kernel_rfl) rfl (.cons rfl (.cons rfl .nil))) ?_
     rintro e_ w_ ⟨A139, c140, n141, rfl, C146, hn142, hl143, hm144, hS145⟩
     refine ⟨_, rfl, ?_⟩
     let q7 : List Go.Value := [.slice A139 n141 c140, .int .i64 r138.at_, .int .i64 r138.e]
     have C147 : Ctx _ _ _ _ _ [CH.row g1 o2 q7] := Ctx.call (qs := [CH.row g1 o2 q4]) (rest := []) C88 C146
     refine WL.done ?_
     refine inB_n ?_
     refine W.seq ?_
     refine W.region rfl ?_
     refine WL.run to 1 rfl ?_
     refine WL.done ?_
     refine W.ret ?_
     simp only [Option.some.injEq, Prod.mk.injEq] at H
     obtain ⟨e148, e149⟩ := H
     subst e148 e149
     exact post_r (resE1 rfl rfl) ⟨A139, c140, n141, rfl, C147, hn142, hl143, hm144, hS145⟩
  ·refine W.condT (congrArg Value.bool (nb_f hc41)) ?_
   refine W.seq ?_
   refine W.region rfl ?_
   refine WL.run to 2 rfl ?_
   obtain ⟨r151, hg150, H⟩ := bindE H
   refine WL.callH (wire_Reader_fails.calls k _ F g1 o2 A32 c33 n34 r24 40 a0.at_ (Ctx.pre (qs := [CH.row g1 o2 q2]) (rest := []) C40) hn35 hl36 hm37 hS38 r151 hg150) (Yenter.fnB rfl Tryz.func58 (by kernel_rfl) rfl (.cons rfl (.cons rfl .nil))) ?_
   rintro e_ w_ ⟨A152, c153, n154, rfl, C159, hn155, hl156, hm157, hS158⟩
   refine ⟨_, rfl, ?_⟩
   let q8 : List Go.Value := [.slice A152 n154 c153, .int .i64 r151.at_, .int .i64 r151.e]
   have C160 : Ctx _ _ _ _ _ [CH.row g1 o2 q8] := Ctx.call (qs := [CH.row g1 o2 q2]) (rest := []) C40 C159
   refine WL.done ?_
   refine W.seq ?_
   refine W.region rfl ?_
   refine WL.run to 1 rfl ?_
   refine WL.done ?_
   refine W.ret ?_
   refine thenE_r ?_
   simp only [Option.some.injEq, Prod.mk.injEq] at H
   obtain ⟨e161, e162⟩ := H
   subst e161 e162
   exact post_r (resE1 rfl rfl) ⟨A152, c153, n154, rfl, C160, hn155, hl156, hm157, hS158⟩
def wire_Reader_count.f (k : Nat) (a0 : TReader) (a1 : Int) (a2 : Int) : Option (Int × TReader) := (wire_Reader_Num.f k a0 18446744073709551615).bind fun ⟨r11, r12⟩ => if ((decide (r12.e = 0)) && ((decide (a1 < 0)) || (decide (r11 > (wu64 a1))))) = true then ((wire_Reader_fails.f k r12 42 a2).bind fun r31 => some (r11, r31)) else (some (r11, r12))
set_option maxRecDepth 100000 in
set_option maxHeartbeats 4000000 in
theorem wire_Reader_count.calls (k : Nat) (w : World) (F : CH) (g1 : Nat) (o2 : Nat) (A3 : Option Addr) (c4 : Nat) (n5 : Nat) (a0 : TReader) (a1 : Int) (a2 : Int) (hp : Pre w F [CH.row g1 o2 [.slice A3 n5 c4, .int .i64 a0.at_, .int .i64 a0.e]]) (hn6 : n5 = a0.b.length) (hl7 : a0.b.length ≤ c4) (hm8 : c4 ≤ maxLen) (hS9 : Sl (Kd.int .u8) F F A3 a0.b) (r0_ : Int) (r1_ : TReader) (H : wire_Reader_count.f k a0 a1 a2 = some (r0_, r1_)) :
    Calls Tryz.prog 59 #[.pointer (some ⟨g1, o2, none⟩), .int .i64 a1, .int .i64 a2] w fun e w' => ∃ (A45 : Option Addr) (c46 : Nat) (n47 : Nat), e = .returned (.int .u64 r0_) ∧ Ctx w F (domL [CH.row g1 o2 [.slice A3 n5 c4, .int .i64 a0.at_, .int .i64 a0.e]]) w' F [CH.row g1 o2 [.slice A45 n47 c46, .int .i64 r1_.at_, .int .i64 r1_.e]] ∧ n47 = r1_.b.length ∧ r1_.b.length ≤ c46 ∧ c46 ≤ maxLen ∧ Sl (Kd.int .u8) F F A45 r1_.b := by
 have C := Ctx.start hp
 generalize hD : domL [CH.row g1 o2 [.slice A3 n5 c4, .int .i64 a0.at_, .int .i64 a0.e]] = D at C ⊢
 unfold wire_Reader_count.f at H
 refine Calls.ofW Tryz.func59 rfl (by simp [Tryz.ntmps59]) ?_
 refine W.seq ?_
 refine W.region rfl ?_
 refine WL.run to 1 rfl ?_
 refine WL.done ?_
 refine W.seq ?_
 refine W.region rfl ?_
 refine WL.run to 1 rfl ?_
 obtain ⟨⟨r11, r12⟩, hg10, H⟩ := bindE H
 let q1 : List Go.Value := [.slice A3 n5 c4, .int .i64 a0.at_, .int .i64 a0.e]
 refine WL.callH (wire_Reader_Num.calls k _ F g1 o2 A3 c4 n5 a0 18446744073709551615 (Ctx.pre (qs := [CH.row g1 o2 q1]) (rest := []) C) hn6 hl7 hm8 hS9 r11 r12 hg10) (Yenter.fn Tryz.func55 (by kernel_rfl) rfl (argsE (.cons rfl (.cons rfl .nil)))) ?_
 rintro e_ w_ ⟨A13, c14, n15, rfl, C20, hn16, hl17, hm18, hS19⟩
 refine ⟨_, rfl, ?_⟩
 let q2 : List Go.Value := [.slice A13 n15 c14, .int .i64 r12.at_, .int .i64 r12.e]
 have C21 : Ctx _ _ _ _ _ [CH.row g1 o2 q2] := Ctx.call (qs := [CH.row g1 o2 q1]) (rest := []) C C20
 refine WL.run to 1 rfl ?_
 refine WL.done ?_
 refine W.seq ?_
 refine W.seq ?_
 refine W.region rfl ?_
 refine WL.run to 3 rfl ?_
 refine WL.val (Yl.loadV (g := g1) (off := o2) (o := 2) (cs := q2) (v := .int .i64 r12.e) rfl Tryz.underlying28 rfl (Ctx.subI 0 C21 rfl) rfl) ?_
 refine WL.run to 2 rfl ?_
 refine WL.cut (fun env_ w_ => env_ 24 = .bool ((decide (r12.e = 0)) && ((decide (a1 < 0)) || (decide (r11 > (wu64 a1))))) ∧ env_ 0 = .pointer (some ⟨g1, o2, none⟩) ∧ env_ 2 = .int .i64 a2 ∧ env_ 7 = .int .u64 r11 ∧ Ctx w F D w_ F [CH.row g1 o2 q2]) ?_ ?_
 ·rcases Bool.eq_false_or_eq_true (decide (r12.e = 0)) with hb22 | hb22
  ·refine WL.kn 15 (congrArg Value.bool hb22) ?_
   refine WL.run to 3 rfl ?_
   rcases Bool.eq_false_or_eq_true (decide (a1 < 0)) with hb23 | hb23
   ·refine WL.kn 18 (congrArg Value.bool hb23) ?_
    refine WL.offs 4 18 false rfl rfl ?_
    refine WL.run to 2 rfl ?_
    exact WL.done ⟨(congrArg Value.bool (show true = ((decide (r12.e = 0)) && ((decide (a1 < 0)) || (decide (r11 > (wu64 a1))))) from by simp [hb22, hb23])), rfl, rfl, rfl, C21⟩
   ·refine WL.kn 18 (congrArg Value.bool hb23) ?_
    refine WL.run to 2 rfl ?_
    refine WL.valOn rfl rfl (Yl.conv (m := a1) (r := wu64 a1) rfl Tryz.underlying3 Tryz.underlying82 rfl) ?_
    refine WL.run to 3 rfl ?_
    exact WL.done ⟨(congrArg Value.bool (show (decide (r11 > (wu64 a1))) = ((decide (r12.e = 0)) && ((decide (a1 < 0)) || (decide (r11 > (wu64 a1))))) from by simp [hb22, hb23])), rfl, rfl, rfl, C21⟩
  ·refine WL.kn 15 (congrArg Value.bool hb22) ?_
   refine WL.offs 3 15 true rfl rfl ?_
   refine WL.offs' 4 18 false rfl rfl ?_
   refine WL.offs 1 15 true rfl rfl ?_
   refine WL.run to 1 rfl ?_
   exact WL.done ⟨(congrArg Value.bool (show false = ((decide (r12.e = 0)) && ((decide (a1 < 0)) || (decide (r11 > (wu64 a1))))) from by simp [hb22])), rfl, rfl, rfl, C21⟩
 ·rintro env_ w_ ⟨ho24, ho25, ho26, ho27, C28⟩
  apply kn env_ (.c ho24 (.c ho25 (.c ho26 (.c ho27 .n))))
  rcases iteE H with ⟨hc29, H⟩ | ⟨hc29, H⟩
  ·refine W.condT (congrArg Value.bool hc29) ?_
   refine W.region rfl ?_
   refine WL.run to 2 rfl ?_
   obtain ⟨r31, hg30, H⟩ := bindE H
   refine WL.callH (wire_Reader_fails.calls k _ F g1 o2 A13 c14 n15 r12 42 a2 (Ctx.pre (qs := [CH.row g1 o2 q2]) (rest := []) C28) hn16 hl17 hm18 hS19 r31 hg30) (Yenter.fn Tryz.func58 (by kernel_rfl) rfl (argsE (.cons rfl (.cons rfl (.cons rfl .nil))))) ?_
   rintro e_ w_ ⟨A32, c33, n34, rfl, C39, hn35, hl36, hm37, hS38⟩
   refine ⟨_, rfl, ?_⟩
   let q3 : List Go.Value := [.slice A32 n34 c33, .int .i64 r31.at_, .int .i64 r31.e]
   have C40 : Ctx _ _ _ _ _ [CH.row g1 o2 q3] := Ctx.call (qs := [CH.row g1 o2 q2]) (rest := []) C28 C39
   refine WL.done ?_
   refine W.seq ?_
   refine W.region rfl ?_
   refine WL.run to 2 rfl ?_
   refine WL.done ?_
   refine W.ret ?_
   simp only [Option.some.injEq, Prod.mk.injEq] at H
   obtain ⟨e41, e42⟩ := H
   subst e41 e42
   exact post_r (resE1 rfl rfl) ⟨A32, c33, n34, rfl, C40, hn35, hl36, hm37, hS38⟩
  ·refine W.condF (congrArg Value.bool (Bool.eq_false_iff.2 hc29)) ?_
   refine W.skip ?_
   refine W.seq ?_
   refine W.region rfl ?_
   refine WL.run to 2 rfl ?_
   refine WL.done ?_
   refine W.ret ?_
   simp only [Option.some.injEq, Prod.mk.injEq] at H
   obtain ⟨e43, e44⟩ := H
   subst e43 e44
   exact post_r (resE1 rfl rfl) ⟨A13, c14, n15, rfl, C28, hn16, hl17, hm18, hS19⟩
def wire_Reader_Text.f (k : Nat) (a0 : TReader) (a1 : Int) : Option ((List Int) × TReader) := (wire_Reader_off.f k a0).bind fun r15 => if r15 = true then (some (([] : List Int), a0)) else ((wire_Reader_count.f k a0 a1 a0.at_).bind fun ⟨r23, r24⟩ => (wire_Reader_off.f k r24).bind fun r39 => if r39 = true then (some (([] : List Int), r24)) else ((wire_Reader_take.f k r24 r23).bind fun ⟨r47, r48, r49⟩ => if r48 = true then (if (r47.length + r47.length / 4 + 192) * 1 ≤ 281474976710656 then (some (r47, r49)) else none) else ((wire_Reader_fails.f k r49 40 a0.at_).bind fun r91 => some (([] : List Int), r91))))
set_option maxRecDepth 100000 in
set_option maxHeartbeats 4000000 in
theorem wire_Reader_Text.calls (k : Nat) (w : World) (F : CH) (g1 : Nat) (o2 : Nat) (A3 : Option Addr) (c4 : Nat) (n5 : Nat) (a0 : TReader) (a1 : Int) (hp : Pre w F [CH.row g1 o2 [.slice A3 n5 c4, .int .i64 a0.at_, .int .i64 a0.e]]) (hn6 : n5 = a0.b.length) (hl7 : a0.b.length ≤ c4) (hm8 : c4 ≤ maxLen) (hS9 : Sl (Kd.int .u8) F F A3 a0.b) (r0_ : List Int) (r1_ : TReader) (H : wire_Reader_Text.f k a0 a1 = some (r0_, r1_)) :
    Calls Tryz.prog 33 #[.pointer (some ⟨g1, o2, none⟩), .int .i64 a1] w fun e w' => ∃ (A104 : Option Addr) (c105 : Nat) (n106 : Nat) (p108 : CH) (A110 : Option Addr) (c111 : Nat) (n112 : Nat), e = .returned (.slice A104 n106 c105) ∧ Ctx w F (domL [CH.row g1 o2 [.slice A3 n5 c4, .int .i64 a0.at_, .int .i64 a0.e]]) w' F [CH.row g1 o2 [.slice A110 n112 c111, .int .i64 r1_.at_, .int .i64 r1_.e], p108] ∧ n106 = r0_.length ∧ Row (Kd.int .u8) F p108 (.slice A104 n106 c105) r0_ ∧ n112 = r1_.b.length ∧ r1_.b.length ≤ c111 ∧ c111 ≤ maxLen ∧ Sl (Kd.int .u8) F F A110 r1_.b := by
 have C := Ctx.start hp
 generalize hD : domL [CH.row g1 o2 [.slice A3 n5 c4, .int .i64 a0.at_, .int .i64 a0.e]] = D at C ⊢
 unfold wire_Reader_Text.f at H
 refine Calls.ofW Tryz.func33 rfl (by simp [Tryz.ntmps33]) ?_
 refine W.seq ?_
 refine W.region rfl ?_
 refine WL.run to 1 rfl ?_
 refine WL.done ?_
 refine W.seq ?_
 refine W.seq ?_
 refine W.region rfl ?_
 refine WL.run to 1 rfl ?_
 obtain ⟨F10, le11, lp12, (C13 : Ctx _ _ _ _ _ [])⟩ := Ctx.fzI 0 C rfl
 obtain ⟨r15, hg14, H⟩ := bindE H
 refine WL.callH (wire_Reader_off.calls k _ F10 g1 o2 A3 c4 n5 a0 C13.pre0 hn6 hl7 hm8 (Sl.mono hS9 le11 le11) lp12 r15 hg14) (Yenter.fn Tryz.func56 (by kernel_rfl) rfl (argsE (.cons rfl .nil))) ?_
 rintro e_ w_ ⟨rfl, ⟨m16, rfl⟩⟩
 refine ⟨_, rfl, ?_⟩
 have C17 := Ctx.drewN C m16
 refine WL.done ?_
 rcases iteE H with ⟨hc18, H⟩ | ⟨hc18, H⟩
 ·refine W.condT (congrArg Value.bool hc18) ?_
  refine W.seq ?_
  refine W.region rfl ?_
  refine WL.run to 1 rfl ?_
  refine WL.done ?_
  refine W.ret ?_
  refine thenE_r ?_
  let q1 : List Go.Value := [.slice A3 n5 c4, .int .i64 a0.at_, .int .i64 a0.e]
  have C19 : Ctx _ _ _ _ _ [CH.row g1 o2 q1, CH.emp] := Ctx.pick [0, 1] C17 rfl
  simp only [Option.some.injEq, Prod.mk.injEq] at H
  obtain ⟨e20, e21⟩ := H
  subst e20 e21
  exact post_r (resE1 rfl rfl) ⟨none, 0, 0, CH.emp, A3, c4, n5, rfl, C19, rfl, (Row.nil _ _), hn6, hl7, hm8, hS9⟩
 ·refine W.condF (congrArg Value.bool (Bool.eq_false_iff.2 hc18)) ?_
  refine W.skip ?_
  refine W.seq ?_
  refine W.region rfl ?_
  refine WL.run to 3 rfl ?_
  let q2 : List Go.Value := [.slice A3 n5 c4, .int .i64 a0.at_, .int .i64 a0.e]
  refine WL.val (Yl.loadV (g := g1) (off := o2) (o := 1) (cs := q2) (v := .int .i64 a0.at_) rfl Tryz.underlying3 rfl (Ctx.subI 0 C17 rfl) rfl) ?_
  refine WL.run to 1 rfl ?_
  refine WL.done ?_
  refine W.seq ?_
  refine W.region rfl ?_
  refine WL.run to 3 rfl ?_
  obtain ⟨⟨r23, r24⟩, hg22, H⟩ := bindE H
  refine WL.callH (wire_Reader_count.calls k _ F g1 o2 A3 c4 n5 a0 a1 a0.at_ (Ctx.pre (qs := [CH.row g1 o2 q2]) (rest := []) C17) hn6 hl7 hm8 hS9 r23 r24 hg22) (Yenter.fn Tryz.func59 (by kernel_rfl) rfl (argsE (.cons rfl (.cons rfl (.cons rfl .nil))))) ?_
  rintro e_ w_ ⟨A25, c26, n27, rfl, C32, hn28, hl29, hm30, hS31⟩
  refine ⟨_, rfl, ?_⟩
  let q3 : List Go.Value := [.slice A25 n27 c26, .int .i64 r24.at_, .int .i64 r24.e]
  have C33 : Ctx _ _ _ _ _ [CH.row g1 o2 q3] := Ctx.call (qs := [CH.row g1 o2 q2]) (rest := []) C17 C32
  refine WL.run to 1 rfl ?_
  refine WL.done ?_
  refine W.seq ?_
  refine W.seq ?_
  refine W.region rfl ?_
  refine WL.run to 1 rfl ?_
  obtain ⟨F34, le35, lp36, (C37 : Ctx _ _ _ _ _ [])⟩ := Ctx.fzI 0 C33 rfl
  obtain ⟨r39, hg38, H⟩ := bindE H
  refine WL.callH (wire_Reader_off.calls k _ F34 g1 o2 A25 c26 n27 r24 C37.pre0 hn28 hl29 hm30 (Sl.mono hS31 le35 le35) lp36 r39 hg38) (Yenter.fn Tryz.func56 (by kernel_rfl) rfl (argsE (.cons rfl .nil))) ?_
  rintro e_ w_ ⟨rfl, ⟨m40, rfl⟩⟩
  refine ⟨_, rfl, ?_⟩
  have C41 := Ctx.drewN C33 m40
  refine WL.done ?_
  rcases iteE H with ⟨hc42, H⟩ | ⟨hc42, H⟩
  ·refine W.condT (congrArg Value.bool hc42) ?_
   refine W.seq ?_
   refine W.region rfl ?_
   refine WL.run to 1 rfl ?_
   refine WL.done ?_
   refine W.ret ?_
   refine thenE_r ?_
   have C43 : Ctx _ _ _ _ _ [CH.row g1 o2 q3, CH.emp] := Ctx.pick [0, 1] C41 rfl
   simp only [Option.some.injEq, Prod.mk.injEq] at H
   obtain ⟨e44, e45⟩ := H
   subst e44 e45
   exact post_r (resE1 rfl rfl) ⟨none, 0, 0, CH.emp, A25, c26, n27, rfl, C43, rfl, (Row.nil _ _), hn28, hl29, hm30, hS31⟩
  ·refine W.condF (congrArg Value.bool (Bool.eq_false_iff.2 hc42)) ?_
   refine W.skip ?_
   refine W.seq ?_
   refine W.region rfl ?_
   refine WL.run to 2 rfl ?_
   obtain ⟨⟨r47, r48, r49⟩, hg46, H⟩ := bindE H
   refine WL.callH (wire_Reader_take.calls k _ F g1 o2 A25 c26 n27 r24 r23 (Ctx.pre (qs := [CH.row g1 o2 q3]) (rest := []) C41) hn28 hl29 hm30 hS31 r47 r48 r49 hg46) (Yenter.fn Tryz.func57 (by kernel_rfl) rfl (argsE (.cons rfl (.cons rfl .nil)))) ?_
   rintro e_ w_ ⟨A50, c51, n52, A57, c58, n59, rfl, C64, hn53, hl54, hm55, hS56, hn60, hl61, hm62, hS63⟩
   refine ⟨_, rfl, ?_⟩
   let q4 : List Go.Value := [.slice A57 n59 c58, .int .i64 r49.at_, .int .i64 r49.e]
   have C65 : Ctx _ _ _ _ _ [CH.row g1 o2 q4] := Ctx.call (qs := [CH.row g1 o2 q3]) (rest := []) C41 C64
   refine WL.run to 5 rfl ?_
   refine WL.done ?_
   refine W.seq ?_
   refine W.seq ?_
   refine W.region rfl ?_
   refine WL.run to 2 rfl ?_
   refine WL.done ?_
   rcases iteE H with ⟨hc66, H⟩ | ⟨hc66, H⟩
   ·refine W.condF (congrArg Value.bool (nb_t hc66)) ?_
    refine W.skip ?_
    refine W.seq ?_
    refine W.region rfl ?_
    obtain ⟨A67, c68, n69, p70, w71, hn72, hy73, C74, hR75⟩ := ev_lit0 (P := Tryz.prog) 5 (Kd.int .u8) C65 Tryz.underlying24 ti5
    refine WL.val (hy73 _ _) ?_
    refine WL.run to 1 rfl ?_
    obtain ⟨hc76, H⟩ := guardE H
    obtain ⟨A77, c78, n79, p80, w81, hn82, hy83, C84, hR85⟩ := ev_append' (P := Tryz.prog) (cb := c51) 5 (Kd.int .u8) [] [CH.row g1 o2 q4] C74 hR75 hn53 hS56 C74.fro Tryz.underlying24 ti5 rfl zo5 (by decide) (by decide) (by simpa using hc76)
    have C86 : Ctx _ _ _ _ _ [p80, CH.row g1 o2 q4] := C84
    rw [List.nil_append] at hn82 hR85
    refine WL.val (hy83 _ _ _ _ rfl rfl) ?_
    refine WL.run to 1 rfl ?_
    refine WL.done ?_
    refine W.ret ?_
    have C87 : Ctx _ _ _ _ _ [CH.row g1 o2 q4, p80] := Ctx.pick [1, 0] C86 rfl
    simp only [Option.some.injEq, Prod.mk.injEq] at H
    obtain ⟨e88, e89⟩ := H
    subst e88 e89
    exact post_r (resE1 rfl rfl) ⟨A77, c78, n79, p80, A57, c58, n59, rfl, C87, hn82, hR85, hn60, hl61, hm62, hS63⟩
   ·refine W.condT (congrArg Value.bool (nb_f hc66)) ?_
    refine W.seq ?_
    refine W.region rfl ?_
    refine WL.run to 2 rfl ?_
    obtain ⟨r91, hg90, H⟩ := bindE H
    refine WL.callH (wire_Reader_fails.calls k _ F g1 o2 A57 c58 n59 r49 40 a0.at_ (Ctx.pre (qs := [CH.row g1 o2 q4]) (rest := []) C65) hn60 hl61 hm62 hS63 r91 hg90) (Yenter.fn Tryz.func58 (by kernel_rfl) rfl (argsE (.cons rfl (.cons rfl (.cons rfl .nil))))) ?_
    rintro e_ w_ ⟨A92, c93, n94, rfl, C99, hn95, hl96, hm97, hS98⟩
    refine ⟨_, rfl, ?_⟩
    let q5 : List Go.Value := [.slice A92 n94 c93, .int .i64 r91.at_, .int .i64 r91.e]
    have C100 : Ctx _ _ _ _ _ [CH.row g1 o2 q5] := Ctx.call (qs := [CH.row g1 o2 q4]) (rest := []) C65 C99
    refine WL.done ?_
    refine W.seq ?_
    refine W.region rfl ?_
    refine WL.run to 1 rfl ?_
    refine WL.done ?_
    refine W.ret ?_
    refine thenE_r ?_
    have C101 : Ctx _ _ _ _ _ [CH.row g1 o2 q5, CH.emp] := Ctx.pick [0, 1] C100 rfl
    simp only [Option.some.injEq, Prod.mk.injEq] at H
    obtain ⟨e102, e103⟩ := H
    subst e102 e103
    exact post_r (resE1 rfl rfl) ⟨none, 0, 0, CH.emp, A92, c93, n94, rfl, C101, rfl, (Row.nil _ _), hn95, hl96, hm97, hS98⟩
def wire_Reader_Digest.f (k : Nat) (a0 : TReader) : Option ((List Int) × TReader) := (wire_Reader_off.f k a0).bind fun r23 => if r23 = true then (some ((List.replicate 32 (0 : Int)), a0)) else ((wire_Reader_take.f k a0 32).bind fun ⟨r36, r37, r38⟩ => if r37 = true then (some (copyL 32 (List.replicate 32 (0 : Int)) r36, r38)) else ((wire_Reader_fails.f k r38 40 r38.at_).bind fun r69 => some ((List.replicate 32 (0 : Int)), r69)))
set_option maxRecDepth 100000 in
set_option maxHeartbeats 4000000 in
theorem wire_Reader_Digest.calls (k : Nat) (w : World) (F : CH) (g1 : Nat) (o2 : Nat) (A3 : Option Addr) (c4 : Nat) (n5 : Nat) (a0 : TReader) (hp : Pre w F [CH.row g1 o2 [.slice A3 n5 c4, .int .i64 a0.at_, .int .i64 a0.e]]) (hn6 : n5 = a0.b.length) (hl7 : a0.b.length ≤ c4) (hm8 : c4 ≤ maxLen) (hS9 : Sl (Kd.int .u8) F F A3 a0.b) (r0_ : List Int) (r1_ : TReader) (H : wire_Reader_Digest.f k a0 = some (r0_, r1_)) :
    Calls Tryz.prog 32 #[.pointer (some ⟨g1, o2, none⟩)] w fun e w' => ∃ (A87 : Option Addr) (c88 : Nat) (n89 : Nat), e = .returned (.agg (List.toArray (r0_.map (Value.int .u8)))) ∧ Ctx w F (domL [CH.row g1 o2 [.slice A3 n5 c4, .int .i64 a0.at_, .int .i64 a0.e]]) w' F [CH.row g1 o2 [.slice A87 n89 c88, .int .i64 r1_.at_, .int .i64 r1_.e]] ∧ r0_.length = 32 ∧ n89 = r1_.b.length ∧ r1_.b.length ≤ c88 ∧ c88 ≤ maxLen ∧ Sl (Kd.int .u8) F F A87 r1_.b := by
 have C := Ctx.start hp
 generalize hD : domL [CH.row g1 o2 [.slice A3 n5 c4, .int .i64 a0.at_, .int .i64 a0.e]] = D at C ⊢
 unfold wire_Reader_Digest.f at H
 refine Calls.ofW Tryz.func32 rfl (by simp [Tryz.ntmps32]) ?_
 refine W.seq ?_
 refine W.region rfl ?_
 obtain ⟨g10, w11, hy12, C13⟩ := ev_alloc (P := Tryz.prog) (e := 23) ((List.replicate 32 (0 : Int)).map (Value.int .u8)) C zr23 rfl
 refine WL.val (hy12 _ _) ?_
 refine WL.done ?_
 refine W.seq ?_
 refine W.region rfl ?_
 obtain ⟨g14, w15, hy16, C17⟩ := ev_alloc (P := Tryz.prog) (e := 23) ((List.replicate 32 (0 : Int)).map (Value.int .u8)) C13 zr23 rfl
 refine WL.val (hy16 _ _) ?_
 refine WL.done ?_
 refine W.seq ?_
 refine W.seq ?_
 refine W.region rfl ?_
 refine WL.run to 1 rfl ?_
 obtain ⟨F18, le19, lp20, (C21 : Ctx _ _ _ _ _ [CH.row g14 0 ((List.replicate 32 (0 : Int)).map (Value.int .u8)), CH.row g10 0 ((List.replicate 32 (0 : Int)).map (Value.int .u8))])⟩ := Ctx.fzI 2 C17 rfl
 obtain ⟨r23, hg22, H⟩ := bindE H
 refine WL.callH (wire_Reader_off.calls k _ F18 g1 o2 A3 c4 n5 a0 C21.pre0 hn6 hl7 hm8 (Sl.mono hS9 le19 le19) lp20 r23 hg22) (Yenter.fn Tryz.func56 (by kernel_rfl) rfl (argsE (.cons rfl .nil))) ?_
 rintro e_ w_ ⟨rfl, ⟨m24, rfl⟩⟩
 refine ⟨_, rfl, ?_⟩
 have C25 := Ctx.drewN C17 m24
 refine WL.done ?_
 rcases iteE H with ⟨hc26, H⟩ | ⟨hc26, H⟩
 ·refine W.condT (congrArg Value.bool hc26) ?_
  refine W.seq ?_
  refine W.region rfl ?_
  refine WL.val (Yl.loadVA (g := g14) (off := 0) (o := 0) (cs := (List.replicate 32 (0 : Int)).map (Value.int .u8)) (us := (List.replicate 32 (0 : Int)).map (Value.int .u8)) rfl Tryz.underlying23 rfl (sz_of sz23 (len_map (List.length_replicate ..))) (Ctx.subI 0 C25 rfl) (take_all _)) ?_
  let q1 : List Go.Value := [.slice A3 n5 c4, .int .i64 a0.at_, .int .i64 a0.e]
  obtain ⟨w27, hy28, C29⟩ := ev_put (P := Tryz.prog) (ps1 := [CH.row g14 0 ((List.replicate 32 (0 : Int)).map (Value.int .u8))]) (ps2 := [CH.row g1 o2 q1]) (t := 23) ((List.replicate 32 (0 : Int)).map (Value.int .u8)) (.agg (List.toArray ((List.replicate 32 (0 : Int)).map (Value.int .u8)))) C25 (Put.all 32 (len_map (List.length_replicate ..)) (len_map (List.length_replicate ..))) rfl (one_ints _ _) (sz_of sz23 (len_map (List.length_replicate ..)))
  have C30 : Ctx _ _ _ _ _ [CH.row g14 0 ((List.replicate 32 (0 : Int)).map (Value.int .u8)), CH.row g10 0 ((List.replicate 32 (0 : Int)).map (Value.int .u8)), CH.row g1 o2 q1] := C29
  refine WL.skip (hy28 _ _ _ _ rfl rfl) ?_
  refine WL.done ?_
  refine W.ret ?_
  refine thenE_r ?_
  have C31 : Ctx _ _ _ _ _ [CH.row g1 o2 q1] := Ctx.pick [2] C30 rfl
  simp only [Option.some.injEq, Prod.mk.injEq] at H
  obtain ⟨e32, e33⟩ := H
  subst e32 e33
  exact post_r (resEC rfl ((.cell rfl (run_loadVA2 (g := g10) (off := 0) (o := 0) (cs := (List.replicate 32 (0 : Int)).map (Value.int .u8)) (us := (List.replicate 32 (0 : Int)).map (Value.int .u8)) Tryz.underlying23 rfl (sz_of sz23 (len_map (List.length_replicate ..))) (Ctx.subI 1 C30 rfl) (take_all _)) .nil))) ⟨A3, c4, n5, rfl, C31, (List.length_replicate ..), hn6, hl7, hm8, hS9⟩
 ·refine W.condF (congrArg Value.bool (Bool.eq_false_iff.2 hc26)) ?_
  refine W.skip ?_
  refine W.seq ?_
  refine W.region rfl ?_
  refine WL.run to 1 rfl ?_
  let q2 : List Go.Value := [.slice A3 n5 c4, .int .i64 a0.at_, .int .i64 a0.e]
  have C34 : Ctx _ _ _ _ _ [CH.row g1 o2 q2, CH.row g14 0 ((List.replicate 32 (0 : Int)).map (Value.int .u8)), CH.row g10 0 ((List.replicate 32 (0 : Int)).map (Value.int .u8))] := Ctx.pick [2, 0, 1] C25 rfl
  obtain ⟨⟨r36, r37, r38⟩, hg35, H⟩ := bindE H
  refine WL.callH (wire_Reader_take.calls k _ F g1 o2 A3 c4 n5 a0 32 (Ctx.pre (qs := [CH.row g1 o2 q2]) (rest := [CH.row g14 0 ((List.replicate 32 (0 : Int)).map (Value.int .u8)), CH.row g10 0 ((List.replicate 32 (0 : Int)).map (Value.int .u8))]) C34) hn6 hl7 hm8 hS9 r36 r37 r38 hg35) (Yenter.fn Tryz.func57 (by kernel_rfl) rfl (argsE (.cons rfl (.cons rfl .nil)))) ?_
  rintro e_ w_ ⟨A39, c40, n41, A46, c47, n48, rfl, C53, hn42, hl43, hm44, hS45, hn49, hl50, hm51, hS52⟩
  refine ⟨_, rfl, ?_⟩
  let q3 : List Go.Value := [.slice A46 n48 c47, .int .i64 r38.at_, .int .i64 r38.e]
  have C54 : Ctx _ _ _ _ _ [CH.row g1 o2 q3, CH.row g14 0 ((List.replicate 32 (0 : Int)).map (Value.int .u8)), CH.row g10 0 ((List.replicate 32 (0 : Int)).map (Value.int .u8))] := Ctx.call (qs := [CH.row g1 o2 q2]) (rest := [CH.row g14 0 ((List.replicate 32 (0 : Int)).map (Value.int .u8)), CH.row g10 0 ((List.replicate 32 (0 : Int)).map (Value.int .u8))]) C34 C53
  refine WL.run to 5 rfl ?_
  refine WL.done ?_
  refine W.seq ?_
  refine W.seq ?_
  refine W.region rfl ?_
  refine WL.run to 2 rfl ?_
  refine WL.done ?_
  rcases iteE H with ⟨hc55, H⟩ | ⟨hc55, H⟩
  ·refine W.condF (congrArg Value.bool (nb_t hc55)) ?_
   refine W.skip ?_
   refine W.seq ?_
   refine W.region rfl ?_
   refine WL.val (Yl.sliceArr 0 32 32 rfl Tryz.underlying23 sz5 rfl rfl rfl (by simp) (by decide) (by decide) (by decide) rfl) ?_
   refine WL.run to 1 rfl ?_
   obtain ⟨w56, hy57, C58⟩ := ev_copyArr (P := Tryz.prog) (ps1 := [CH.row g1 o2 q3]) (ps2 := [CH.row g10 0 ((List.replicate 32 (0 : Int)).map (Value.int .u8))]) (te2 := 24) (a := (List.replicate 32 (0 : Int))) C54 (Put.all 32 (len_map (List.length_replicate ..)) (len_map (copyL_len (List.length_replicate ..)))) (mid_all (len_map (List.length_replicate ..))) (List.length_replicate ..) hn42 hS45 (C54.fro) Tryz.underlying24 sz5
   have ha59 : (copyL 32 (List.replicate 32 (0 : Int)) r36).length = 32 := copyL_len (List.length_replicate ..)
   have C60 : Ctx _ _ _ _ _ [CH.row g1 o2 q3, CH.row g14 0 ((copyL 32 (List.replicate 32 (0 : Int)) r36).map (Value.int .u8)), CH.row g10 0 ((List.replicate 32 (0 : Int)).map (Value.int .u8))] := C58
   refine WL.val (hy57 _ _ _ _ _ _ rfl rfl) ?_
   refine WL.done ?_
   refine W.seq ?_
   refine W.region rfl ?_
   refine WL.val (Yl.loadVA (g := g14) (off := 0) (o := 0) (cs := (copyL 32 (List.replicate 32 (0 : Int)) r36).map (Value.int .u8)) (us := (copyL 32 (List.replicate 32 (0 : Int)) r36).map (Value.int .u8)) rfl Tryz.underlying23 rfl (sz_of sz23 (len_map ha59)) (Ctx.subI 1 C60 rfl) (take_all _)) ?_
   obtain ⟨w61, hy62, C63⟩ := ev_put (P := Tryz.prog) (ps1 := [CH.row g1 o2 q3, CH.row g14 0 ((copyL 32 (List.replicate 32 (0 : Int)) r36).map (Value.int .u8))]) (ps2 := []) (t := 23) ((copyL 32 (List.replicate 32 (0 : Int)) r36).map (Value.int .u8)) (.agg (List.toArray ((copyL 32 (List.replicate 32 (0 : Int)) r36).map (Value.int .u8)))) C60 (Put.all 32 (len_map (List.length_replicate ..)) (len_map ha59)) rfl (one_ints _ _) (sz_of sz23 (len_map ha59))
   have C64 : Ctx _ _ _ _ _ [CH.row g1 o2 q3, CH.row g14 0 ((copyL 32 (List.replicate 32 (0 : Int)) r36).map (Value.int .u8)), CH.row g10 0 ((copyL 32 (List.replicate 32 (0 : Int)) r36).map (Value.int .u8))] := C63
   refine WL.skip (hy62 _ _ _ _ rfl rfl) ?_
   refine WL.done ?_
   refine W.ret ?_
   have C65 : Ctx _ _ _ _ _ [CH.row g1 o2 q3] := Ctx.pick [0] C64 rfl
   simp only [Option.some.injEq, Prod.mk.injEq] at H
   obtain ⟨e66, e67⟩ := H
   subst e66 e67
   exact post_r (resEC rfl ((.cell rfl (run_loadVA2 (g := g10) (off := 0) (o := 0) (cs := (copyL 32 (List.replicate 32 (0 : Int)) r36).map (Value.int .u8)) (us := (copyL 32 (List.replicate 32 (0 : Int)) r36).map (Value.int .u8)) Tryz.underlying23 rfl (sz_of sz23 (len_map ha59)) (Ctx.subI 2 C64 rfl) (take_all _)) .nil))) ⟨A46, c47, n48, rfl, C65, ha59, hn49, hl50, hm51, hS52⟩
  ·refine W.condT (congrArg Value.bool (nb_f hc55)) ?_
   refine W.seq ?_
   refine W.region rfl ?_
   refine WL.run to 4 rfl ?_
   refine WL.val (Yl.loadV (g := g1) (off := o2) (o := 1) (cs := q3) (v := .int .i64 r38.at_) rfl Tryz.underlying3 rfl (Ctx.subI 0 C54 rfl) rfl) ?_
   obtain ⟨r69, hg68, H⟩ := bindE H
   refine WL.callH (wire_Reader_fails.calls k _ F g1 o2 A46 c47 n48 r38 40 r38.at_ (Ctx.pre (qs := [CH.row g1 o2 q3]) (rest := [CH.row g14 0 ((List.replicate 32 (0 : Int)).map (Value.int .u8)), CH.row g10 0 ((List.replicate 32 (0 : Int)).map (Value.int .u8))]) C54) hn49 hl50 hm51 hS52 r69 hg68) (Yenter.fn Tryz.func58 (by kernel_rfl) rfl (argsE (.cons rfl (.cons rfl (.cons rfl .nil))))) ?_
   rintro e_ w_ ⟨A70, c71, n72, rfl, C77, hn73, hl74, hm75, hS76⟩
   refine ⟨_, rfl, ?_⟩
   let q4 : List Go.Value := [.slice A70 n72 c71, .int .i64 r69.at_, .int .i64 r69.e]
   have C78 : Ctx _ _ _ _ _ [CH.row g1 o2 q4, CH.row g14 0 ((List.replicate 32 (0 : Int)).map (Value.int .u8)), CH.row g10 0 ((List.replicate 32 (0 : Int)).map (Value.int .u8))] := Ctx.call (qs := [CH.row g1 o2 q3]) (rest := [CH.row g14 0 ((List.replicate 32 (0 : Int)).map (Value.int .u8)), CH.row g10 0 ((List.replicate 32 (0 : Int)).map (Value.int .u8))]) C54 C77
   refine WL.done ?_
   refine W.seq ?_
   refine W.region rfl ?_
   refine WL.val (Yl.loadVA (g := g14) (off := 0) (o := 0) (cs := (List.replicate 32 (0 : Int)).map (Value.int .u8)) (us := (List.replicate 32 (0 : Int)).map (Value.int .u8)) rfl Tryz.underlying23 rfl (sz_of sz23 (len_map (List.length_replicate ..))) (Ctx.subI 1 C78 rfl) (take_all _)) ?_
   obtain ⟨w79, hy80, C81⟩ := ev_put (P := Tryz.prog) (ps1 := [CH.row g1 o2 q4, CH.row g14 0 ((List.replicate 32 (0 : Int)).map (Value.int .u8))]) (ps2 := []) (t := 23) ((List.replicate 32 (0 : Int)).map (Value.int .u8)) (.agg (List.toArray ((List.replicate 32 (0 : Int)).map (Value.int .u8)))) C78 (Put.all 32 (len_map (List.length_replicate ..)) (len_map (List.length_replicate ..))) rfl (one_ints _ _) (sz_of sz23 (len_map (List.length_replicate ..)))
   have C82 : Ctx _ _ _ _ _ [CH.row g1 o2 q4, CH.row g14 0 ((List.replicate 32 (0 : Int)).map (Value.int .u8)), CH.row g10 0 ((List.replicate 32 (0 : Int)).map (Value.int .u8))] := C81
   refine WL.skip (hy80 _ _ _ _ rfl rfl) ?_
   refine WL.done ?_
   refine W.ret ?_
   refine thenE_r ?_
   have C83 : Ctx _ _ _ _ _ [CH.row g1 o2 q4] := Ctx.pick [0] C82 rfl
   simp only [Option.some.injEq, Prod.mk.injEq] at H
   obtain ⟨e84, e85⟩ := H
   subst e84 e85
   exact post_r (resEC rfl ((.cell rfl (run_loadVA2 (g := g10) (off := 0) (o := 0) (cs := (List.replicate 32 (0 : Int)).map (Value.int .u8)) (us := (List.replicate 32 (0 : Int)).map (Value.int .u8)) Tryz.underlying23 rfl (sz_of sz23 (len_map (List.length_replicate ..))) (Ctx.subI 2 C82 rfl) (take_all _)) .nil))) ⟨A70, c71, n72, rfl, C83, (List.length_replicate ..), hn73, hl74, hm75, hS76⟩
def wire_Reader_Left.f (k : Nat) (a0 : TReader) : Option Int := some (wi64 ((a0.b.length : Int) - a0.at_))
set_option maxRecDepth 100000 in
set_option maxHeartbeats 4000000 in
theorem wire_Reader_Left.calls (k : Nat) (w : World) (F : CH) (g1 : Nat) (o2 : Nat) (A3 : Option Addr) (c4 : Nat) (n5 : Nat) (a0 : TReader) (hp : Pre w F []) (hn6 : n5 = a0.b.length) (hl7 : a0.b.length ≤ c4) (hm8 : c4 ≤ maxLen) (hS9 : Sl (Kd.int .u8) F F A3 a0.b) (hg10 : CH.le (CH.row g1 o2 [.slice A3 n5 c4, .int .i64 a0.at_, .int .i64 a0.e]) F) (r0_ : Int) (H : wire_Reader_Left.f k a0 = some r0_) :
    Calls Tryz.prog 60 #[.pointer (some ⟨g1, o2, none⟩)] w fun e w' => e = .returned (.int .i64 r0_) ∧ (∃ n_, w' = w.drewN n_) := by
 have C := Ctx.start hp
 generalize domL [] = D at C
 have W0 : ∃ n_, w = w.drewN n_ := ⟨0, rfl⟩
 unfold wire_Reader_Left.f at H
 refine Calls.ofW Tryz.func60 rfl (by simp [Tryz.ntmps60]) ?_
 refine W.seq ?_
 refine W.region rfl ?_
 refine WL.run to 1 rfl ?_
 refine WL.done ?_
 refine W.seq ?_
 refine W.seq ?_
 refine W.region rfl ?_
 refine WL.run to 1 rfl ?_
 refine WL.val (Yl.ptrEqSN rfl rfl Tryz.underlying74) ?_
 refine WL.done ?_
 refine W.condF rfl ?_
 refine W.skip ?_
 refine W.seq ?_
 refine W.region_quiet (by kernel_rfl) (by kernel_rfl) rfl ?_
 refine WQ.run to 3 rfl ?_
 let q1 : List Go.Value := [.slice A3 n5 c4, .int .i64 a0.at_, .int .i64 a0.e]
 refine WQ.vl (fun _ => Yl.loadV (g := g1) (off := o2) (o := 0) (cs := q1) (v := .slice A3 n5 c4) rfl Tryz.underlying24 rfl (Sub.mono ((C.drewN _).fro) hg10) rfl) ?_
 refine WQ.vl (fun _ => Yl.lenN (A := A3) (l := n5) (q := c4) (n := (a0.b.length : Int)) rfl Tryz.underlying24 (by omega)) ?_
 refine WQ.run to 3 rfl ?_
 refine WQ.vl (fun _ => Yl.loadV (g := g1) (off := o2) (o := 1) (cs := q1) (v := .int .i64 a0.at_) rfl Tryz.underlying3 rfl (Sub.mono ((C.drewN _).fro) hg10) rfl) ?_
 refine WQ.run to 2 rfl ?_
 refine WQ.done (fun nq11 => ?_)
 have C12 := Ctx.drewN C nq11
 have Wq13 := drew_more W0 nq11
 refine W.ret ?_
 have e14 := Option.some.inj H
 subst e14
 exact post_r (resE1 rfl rfl) ⟨rfl, Wq13⟩
def wire_Reader_Err.f (k : Nat) (a0 : TReader) : Option Int := some a0.e
set_option maxRecDepth 100000 in
set_option maxHeartbeats 4000000 in
theorem wire_Reader_Err.calls (k : Nat) (w : World) (F : CH) (g1 : Nat) (o2 : Nat) (A3 : Option Addr) (c4 : Nat) (n5 : Nat) (a0 : TReader) (hp : Pre w F []) (hn6 : n5 = a0.b.length) (hl7 : a0.b.length ≤ c4) (hm8 : c4 ≤ maxLen) (hS9 : Sl (Kd.int .u8) F F A3 a0.b) (hg10 : CH.le (CH.row g1 o2 [.slice A3 n5 c4, .int .i64 a0.at_, .int .i64 a0.e]) F) (r0_ : Int) (H : wire_Reader_Err.f k a0 = some r0_) :
    Calls Tryz.prog 61 #[.pointer (some ⟨g1, o2, none⟩)] w fun e w' => e = .returned (.int .i64 r0_) ∧ (∃ n_, w' = w.drewN n_) := by
 have C := Ctx.start hp
 generalize domL [] = D at C
 have W0 : ∃ n_, w = w.drewN n_ := ⟨0, rfl⟩
 unfold wire_Reader_Err.f at H
 refine Calls.ofW Tryz.func61 rfl (by simp [Tryz.ntmps61]) ?_
 refine W.seq ?_
 refine W.region rfl ?_
 refine WL.run to 1 rfl ?_
 refine WL.done ?_
 refine W.seq ?_
 refine W.seq ?_
 refine W.region rfl ?_
 refine WL.run to 1 rfl ?_
 refine WL.val (Yl.ptrEqSN rfl rfl Tryz.underlying74) ?_
 refine WL.done ?_
 refine W.condF rfl ?_
 refine W.skip ?_
 refine W.seq ?_
 refine W.region rfl ?_
 refine WL.run to 3 rfl ?_
 let q1 : List Go.Value := [.slice A3 n5 c4, .int .i64 a0.at_, .int .i64 a0.e]
 refine WL.val (Yl.loadV (g := g1) (off := o2) (o := 2) (cs := q1) (v := .int .i64 a0.e) rfl Tryz.underlying28 rfl (Sub.mono (C.fro) hg10) rfl) ?_
 refine WL.run to 1 rfl ?_
 refine WL.done ?_
 refine W.ret ?_
 have e11 := Option.some.inj H
 subst e11
 exact post_r (resE1 rfl rfl) ⟨rfl, W0⟩
def wire_Reader_End.f (k : Nat) (a0 : TReader) : Option (Int × TReader) := (wire_Reader_off.f k a0).bind fun r23 => (if r23 = true then (some (false)) else ((wire_Reader_Left.f k a0).bind fun r34 => some (decide (r34 > 0)))).bind fun g26 => if g26 = true then ((wire_Reader_fails.f k a0 43 a0.at_).bind fun r42 => (wire_Reader_Err.f k r42).bind fun r57 => some (r57, r42)) else ((wire_Reader_Err.f k a0).bind fun r67 => some (r67, a0))
set_option maxRecDepth 100000 in
set_option maxHeartbeats 4000000 in
theorem wire_Reader_End.calls (k : Nat) (w : World) (F : CH) (g1 : Nat) (o2 : Nat) (A3 : Option Addr) (c4 : Nat) (n5 : Nat) (a0 : TReader) (hp : Pre w F [CH.row g1 o2 [.slice A3 n5 c4, .int .i64 a0.at_, .int .i64 a0.e]]) (hn6 : n5 = a0.b.length) (hl7 : a0.b.length ≤ c4) (hm8 : c4 ≤ maxLen) (hS9 : Sl (Kd.int .u8) F F A3 a0.b) (r0_ : Int) (r1_ : TReader) (H : wire_Reader_End.f k a0 = some (r0_, r1_)) :
    Calls Tryz.prog 34 #[.pointer (some ⟨g1, o2, none⟩)] w fun e w' => ∃ (A72 : Option Addr) (c73 : Nat) (n74 : Nat), e = .returned (.int .i64 r0_) ∧ Ctx w F (domL [CH.row g1 o2 [.slice A3 n5 c4, .int .i64 a0.at_, .int .i64 a0.e]]) w' F [CH.row g1 o2 [.slice A72 n74 c73, .int .i64 r1_.at_, .int .i64 r1_.e]] ∧ n74 = r1_.b.length ∧ r1_.b.length ≤ c73 ∧ c73 ≤ maxLen ∧ Sl (Kd.int .u8) F F A72 r1_.b := by
 have C := Ctx.start hp
 generalize hD : domL [CH.row g1 o2 [.slice A3 n5 c4, .int .i64 a0.at_, .int .i64 a0.e]] = D at C ⊢
 unfold wire_Reader_End.f at H
 refine Calls.ofW Tryz.func34 rfl (by simp [Tryz.ntmps34]) ?_
 refine W.seq ?_
 refine W.region rfl ?_
 refine WL.run to 1 rfl ?_
 refine WL.done ?_
 refine W.seq ?_
 refine W.seq ?_
 refine W.region rfl ?_
 refine WL.run to 1 rfl ?_
 obtain ⟨F18, le19, lp20, (C21 : Ctx _ _ _ _ _ [])⟩ := Ctx.fzI 0 C rfl
 obtain ⟨r23, hg22, H⟩ := bindE H
 refine WL.callH (wire_Reader_off.calls k _ F18 g1 o2 A3 c4 n5 a0 C21.pre0 hn6 hl7 hm8 (Sl.mono hS9 le19 le19) lp20 r23 hg22) (Yenter.fn Tryz.func56 (by kernel_rfl) rfl (argsE (.cons rfl .nil))) ?_
 rintro e_ w_ ⟨rfl, ⟨m24, rfl⟩⟩
 refine ⟨_, rfl, ?_⟩
 have C25 := Ctx.drewN C m24
 refine WL.run to 2 rfl ?_
 obtain ⟨g26, HE27, H⟩ := bindE H
 let q1 : List Go.Value := [.slice A3 n5 c4, .int .i64 a0.at_, .int .i64 a0.e]
 refine WL.cut (fun env_ w_ => env_ 10 = .bool g26 ∧ env_ 0 = .pointer (some ⟨g1, o2, none⟩) ∧ Ctx w F D w_ F [CH.row g1 o2 q1]) ?_ ?_
 ·rcases iteE HE27 with ⟨hc28, HE27⟩ | ⟨hc28, HE27⟩
  ·refine WL.kn 6 (congrArg Value.bool (nb_t hc28)) ?_
   refine WL.offs 3 6 true rfl rfl ?_
   refine WL.run to 1 rfl ?_
   cases HE27
   exact WL.done ⟨rfl, rfl, C25⟩
  ·refine WL.kn 6 (congrArg Value.bool (nb_f hc28)) ?_
   refine WL.run to 1 rfl ?_
   refine WL.on rfl rfl ?_
   obtain ⟨F29, le30, lp31, (C32 : Ctx _ _ _ _ _ [])⟩ := Ctx.fzI 0 C25 rfl
   obtain ⟨r34, hg33, HE27⟩ := bindE HE27
   refine WL.callH (wire_Reader_Left.calls k _ F29 g1 o2 A3 c4 n5 a0 C32.pre0 hn6 hl7 hm8 (Sl.mono hS9 le30 le30) lp31 r34 hg33) (Yenter.fn Tryz.func60 (by kernel_rfl) rfl (argsE (.cons rfl .nil))) ?_
   rintro e_ w_ ⟨rfl, ⟨m35, rfl⟩⟩
   refine ⟨_, rfl, ?_⟩
   have C36 := Ctx.drewN C25 m35
   refine WL.run to 2 rfl ?_
   cases HE27
   exact WL.done ⟨rfl, rfl, C36⟩
 ·rintro env_ w_ ⟨ho37, ho38, C39⟩
  apply kn env_ (.c ho37 (.c ho38 .n))
  rcases iteE H with ⟨hc40, H⟩ | ⟨hc40, H⟩
  ·refine W.condT (congrArg Value.bool hc40) ?_
   refine W.region rfl ?_
   refine WL.run to 4 rfl ?_
   refine WL.val (Yl.loadV (g := g1) (off := o2) (o := 1) (cs := q1) (v := .int .i64 a0.at_) rfl Tryz.underlying3 rfl (Ctx.subI 0 C39 rfl) rfl) ?_
   obtain ⟨r42, hg41, H⟩ := bindE H
   refine WL.callH (wire_Reader_fails.calls k _ F g1 o2 A3 c4 n5 a0 43 a0.at_ (Ctx.pre (qs := [CH.row g1 o2 q1]) (rest := []) C39) hn6 hl7 hm8 hS9 r42 hg41) (Yenter.fn Tryz.func58 (by kernel_rfl) rfl (argsE (.cons rfl (.cons rfl (.cons rfl .nil))))) ?_
   rintro e_ w_ ⟨A43, c44, n45, rfl, C50, hn46, hl47, hm48, hS49⟩
   refine ⟨_, rfl, ?_⟩
   let q2 : List Go.Value := [.slice A43 n45 c44, .int .i64 r42.at_, .int .i64 r42.e]
   have C51 : Ctx _ _ _ _ _ [CH.row g1 o2 q2] := Ctx.call (qs := [CH.row g1 o2 q1]) (rest := []) C39 C50
   refine WL.done ?_
   refine W.seq ?_
   refine W.region rfl ?_
   refine WL.run to 1 rfl ?_
   obtain ⟨F52, le53, lp54, (C55 : Ctx _ _ _ _ _ [])⟩ := Ctx.fzI 0 C51 rfl
   obtain ⟨r57, hg56, H⟩ := bindE H
   refine WL.callH (wire_Reader_Err.calls k _ F52 g1 o2 A43 c44 n45 r42 C55.pre0 hn46 hl47 hm48 (Sl.mono hS49 le53 le53) lp54 r57 hg56) (Yenter.fn Tryz.func61 (by kernel_rfl) rfl (argsE (.cons rfl .nil))) ?_
   rintro e_ w_ ⟨rfl, ⟨m58, rfl⟩⟩
   refine ⟨_, rfl, ?_⟩
   have C59 := Ctx.drewN C51 m58
   refine WL.run to 1 rfl ?_
   refine WL.done ?_
   refine W.ret ?_
   simp only [Option.some.injEq, Prod.mk.injEq] at H
   obtain ⟨e60, e61⟩ := H
   subst e60 e61
   exact post_r (resE1 rfl rfl) ⟨A43, c44, n45, rfl, C59, hn46, hl47, hm48, hS49⟩
  ·refine W.condF (congrArg Value.bool (Bool.eq_false_iff.2 hc40)) ?_
   refine W.skip ?_
   refine W.seq ?_
   refine W.region rfl ?_
   refine WL.run to 1 rfl ?_
   obtain ⟨F62, le63, lp64, (C65 : Ctx _ _ _ _ _ [])⟩ := Ctx.fzI 0 C39 rfl
   obtain ⟨r67, hg66, H⟩ := bindE H
   refine WL.callH (wire_Reader_Err.calls k _ F62 g1 o2 A3 c4 n5 a0 C65.pre0 hn6 hl7 hm8 (Sl.mono hS9 le63 le63) lp64 r67 hg66) (Yenter.fn Tryz.func61 (by kernel_rfl) rfl (argsE (.cons rfl .nil))) ?_
   rintro e_ w_ ⟨rfl, ⟨m68, rfl⟩⟩
   refine ⟨_, rfl, ?_⟩
   have C69 := Ctx.drewN C39 m68
   refine WL.run to 1 rfl ?_
   refine WL.done ?_
   refine W.ret ?_
   simp only [Option.some.injEq, Prod.mk.injEq] at H
   obtain ⟨e70, e71⟩ := H
   subst e70 e71
   exact post_r (resE1 rfl rfl) ⟨A3, c4, n5, rfl, C69, hn6, hl7, hm8, hS9⟩
def docket_writer_nums.l1 : Nat → List Int → Int → Twriter → Option Twriter
  | 0, _, _, _ => none
  | k + 1, a1, x296, x297 => if x296 < (a1.length : Int) then (if 0 ≤ x296 ∧ x296 < (a1.length : Int) then ((wire_Num.f k (wu64 (a1.getD x296.toNat 0))).bind fun r402 => if (x297.b.length + r402.length + (x297.b.length + r402.length) / 4 + 192) * 1 ≤ 281474976710656 then (docket_writer_nums.l1 k a1 (wi64 (x296 + 1)) (⟨x297.b ++ r402⟩ : Twriter)) else none) else none) else (some x297)
def docket_writer_nums.f (k : Nat) (a0 : Twriter) (a1 : List Int) : Option Twriter := (docket_writer_nums.l1 k a1 0 a0).bind fun x217 => some x217
set_option maxRecDepth 100000 in
set_option maxHeartbeats 4000000 in
theorem docket_writer_nums.calls (k : Nat) (w : World) (F : CH) (g1 : Nat) (o2 : Nat) (A3 : Option Addr) (c4 : Nat) (n5 : Nat) (p7 : CH) (a0 : Twriter) (A9 : Option Addr) (c10 : Nat) (n11 : Nat) (a1 : List Int) (hp : Pre w F [CH.row g1 o2 [.slice A3 n5 c4], p7]) (hn6 : n5 = a0.b.length) (hR8 : Row (Kd.int .u8) F p7 (.slice A3 n5 c4) a0.b) (hn12 : n11 = a1.length) (hl13 : a1.length ≤ c10) (hm14 : c10 ≤ maxLen) (hS15 : Sl (Kd.int .i64) F F A9 a1) (r0_ : Twriter) (H : docket_writer_nums.f k a0 a1 = some r0_) :
    Calls Tryz.prog 23 #[.pointer (some ⟨g1, o2, none⟩), .slice A9 n11 c10] w fun e w' => ∃ (A428 : Option Addr) (c429 : Nat) (n430 : Nat) (p432 : CH), e = .returned (.tuple #[]) ∧ Ctx w F (domL [CH.row g1 o2 [.slice A3 n5 c4], p7]) w' F [CH.row g1 o2 [.slice A428 n430 c429], p432] ∧ n430 = r0_.b.length ∧ Row (Kd.int .u8) F p432 (.slice A428 n430 c429) r0_.b := by
 have C := Ctx.start hp
 generalize hD : domL [CH.row g1 o2 [.slice A3 n5 c4], p7] = D at C ⊢
 unfold docket_writer_nums.f at H
 refine Calls.ofW Tryz.func23 rfl (by simp [Tryz.ntmps23]) ?_
 refine W.seq ?_
 refine W.region rfl ?_
 refine WL.run to 1 rfl ?_
 refine WL.val (Yl.lenN (A := A9) (l := n11) (q := c10) (n := (a1.length : Int)) rfl Tryz.underlying47 (by omega)) ?_
 refine WL.run to 1 rfl ?_
 refine WL.done ?_
 obtain ⟨x217, hX225, H⟩ := bindE H
 refine W.cutM (fun env_ w_ => ∃ (A218 : Option Addr) (c219 : Nat) (n220 : Nat) (p222 : CH), Ctx w F D w_ F [CH.row g1 o2 [.slice A218 n220 c219], p222] ∧ n220 = x217.b.length ∧ Row (Kd.int .u8) F p222 (.slice A218 n220 c219) x217.b) ?_ ?_
 ·refine W.block ?_
  refine W.loop (fun g_ env_ w_ => ∃ (x296 : Int) (x297 : Twriter) (A298 : Option Addr) (c299 : Nat) (n300 : Nat) (p302 : CH), env_ 0 = .pointer (some ⟨g1, o2, none⟩) ∧ env_ 6 = .slice A9 n11 c10 ∧ env_ 7 = .int .i64 (a1.length : Int) ∧ env_ 8 = .int .i64 x296 ∧ Ctx w F D w_ F [CH.row g1 o2 [.slice A298 n300 c299], p302] ∧ n300 = x297.b.length ∧ Row (Kd.int .u8) F p302 (.slice A298 n300 c299) x297.b ∧ docket_writer_nums.l1 g_ a1 x296 x297 = some x217) k ⟨0, a0, A3, c4, n5, p7, rfl, rfl, rfl, rfl, C, hn6, hR8, hX225⟩ ?_
  clear hX225
  rintro g_ env_ w_ ⟨x296, x297, A298, c299, n300, p302, ho292, ho293, ho294, ho295, C304, hn301, hR303, hX225⟩
  rcases g_ with _ | k365
  · exact absurd hX225 (by simp [docket_writer_nums.l1])
  rw [docket_writer_nums.l1] at hX225
  apply kn env_ (.c ho292 (.c ho293 (.c ho294 (.c ho295 .n))))
  refine W.seq ?_
  refine W.region rfl ?_
  refine WL.run to 1 rfl ?_
  refine WL.done ?_
  refine W.seq ?_
  rcases iteE hX225 with ⟨hc366, hX225⟩ | ⟨hc366, hX225⟩
  ·refine W.condT (congrArg Value.bool (decide_eq_true hc366)) ?_
   refine W.skip ?_
   refine W.seq ?_
   refine W.block ?_
   refine W.seq ?_
   refine W.region rfl ?_
   obtain ⟨hc367, hX225⟩ := guardE hX225
   obtain ⟨b368, of369, hA370, he371⟩ := hS15 (by omega)
   refine WL.val (Yl.elemAddr (i := x296) rfl rfl hA370 Tryz.underlying47 sz3 (by omega)) ?_
   obtain ⟨cs372, hr373, hx374⟩ := he371 x296.toNat _ (getD_some (d := 0) (by omega))
   obtain rfl := hr373
   refine WL.val (Yl.load (v := .int .i64 (a1.getD x296.toNat 0)) rfl Tryz.underlying3 rfl (((C304.fro)).cell (hx374 0 _ rfl))) ?_
   refine WL.run to 1 rfl ?_
   refine WL.done ?_
   let v1 : CH := CH.row g1 o2 [.slice A298 n300 c299]
   refine W.regionA [([8, 11], v1)] (by kernel_rfl) ?_
   have C400 := Ctx.drewN C304 1
   refine WA.takes [(0, none), (1, none), (2, none), (3, none), (4, some 0), (5, none), (6, none)] ⟨(Ctx.subI 0 C400 rfl), trivial⟩ (by kernel_rfl) ?_
   refine WT.run to 4 rfl ?_
   refine WT.val rfl (fun _ hC_ => Yl.loadV (g := g1) (off := o2) (o := 0) (cs := [.slice A298 n300 c299]) (v := .slice A298 n300 c299) rfl Tryz.underlying24 rfl (show Sub (v1) _ from hC_) rfl) ?_
   refine WT.run to 1 rfl ?_
   refine WT.val rfl (fun _ hC_ => Yl.conv (m := a1.getD x296.toNat 0) (r := wu64 (a1.getD x296.toNat 0)) rfl Tryz.underlying3 Tryz.underlying82 rfl) ?_
   refine WT.done ?_
   obtain ⟨r402, hg401, hX225⟩ := bindE hX225
   refine WA.up1 7 (by kernel_rfl) (Up.callH rfl (by kernel_rfl) rfl (wire_Num.calls k365 _ F (wu64 (a1.getD x296.toNat 0)) (Ctx.pre (qs := []) (rest := [v1, p302]) C400)  r402 hg401) (Yenter.fn Tryz.func51 (by kernel_rfl) rfl (argsE (.cons rfl .nil))) ?_)
   rintro e_ w_ ⟨A403, c404, n405, p407, rfl, C409, hn406, hR408⟩
   have C410 : Ctx _ _ _ _ _ [p407, v1, p302] := Ctx.call (qs := []) (rest := [v1, p302]) C400 C409
   refine ⟨_, rfl, ⟨(Ctx.subI 1 C410 rfl), trivial⟩, ?_⟩
   obtain ⟨hc411, hX225⟩ := guardE hX225
   obtain ⟨A412, c413, n414, p415, w416, hn417, hy418, C419, hR420⟩ := ev_append' (P := Tryz.prog) (cb := c404) 5 (Kd.int .u8) [p407, v1] [] C410 hR303 hn406 (Row.sl hR408) (Ctx.subI 0 C410 rfl) Tryz.underlying24 ti5 rfl zo5 (by decide) (by decide) (by simpa using hc411)
   have C421 : Ctx _ _ _ _ _ [p407, v1, p415] := C419
   refine WA.up1 8 (by kernel_rfl) (Up.val rfl rfl rfl (hy418 _ _ _ _ rfl rfl) ⟨trivial, trivial⟩ ?_)
   refine WA.takes [(9, none), (10, none)] ⟨(Ctx.subI 1 C421 rfl), trivial⟩ (by kernel_rfl) ?_
   refine WT.run to 2 rfl ?_
   refine WT.done ?_
   obtain ⟨w422, hy423, C424⟩ := ev_setI (P := Tryz.prog) (ps1 := [p407]) (ps2 := [p415]) (t := 24) 0 [.slice A412 n414 c413] (.slice A412 n414 c413) C421 rfl rfl (ones_of rfl) sz24
   let v2 : CH := CH.row g1 o2 [.slice A412 n414 c413]
   have C425 : Ctx _ _ _ _ _ [p407, v2, p415] := C424
   refine WA.up1 11 (by kernel_rfl) (Up.skip rfl rfl (hy423 _ _ _ _ rfl rfl) ⟨trivial, trivial⟩ ?_)
   refine WA.done (by kernel_rfl) ?_
   refine inB_n ?_
   refine W.region rfl ?_
   refine WL.run to 2 rfl ?_
   refine WL.done ?_
   have C426 : Ctx _ _ _ _ _ [v2, p415] := Ctx.pick [1, 2] C425 rfl
   exact thenE_n ⟨k365, Nat.lt_succ_self _, wi64 (x296 + 1), (⟨x297.b ++ r402⟩ : Twriter), A412, c413, n414, p415, rfl, rfl, rfl, rfl, C426, hn417, hR420, hX225⟩
  ·refine W.condF (congrArg Value.bool (decide_eq_false hc366)) ?_
   refine W.exit ?_
   refine thenE_x ?_
   refine thenE_x ?_
   refine inB_here ?_
   cases hX225
   refine thenE_n ?_
   exact ⟨A298, c299, n300, p302, C304, hn301, hR303⟩
 ·rintro env_ w_ ⟨A218, c219, n220, p222, C224, hn221, hR223⟩
  have e427 := Option.some.inj H
  subst e427
  exact post_n (resE0 rfl ) ⟨A218, c219, n220, p222, rfl, C224, hn221, hR223⟩
def docket_writer_text.f (k : Nat) (a0 : Twriter) (a1 : List Int) : Option Twriter := (wire_Text.f k a1).bind fun r43 => if (a0.b.length + r43.length + (a0.b.length + r43.length) / 4 + 192) * 1 ≤ 281474976710656 then (some (⟨a0.b ++ r43⟩ : Twriter)) else none
set_option maxRecDepth 100000 in
set_option maxHeartbeats 4000000 in
theorem docket_writer_text.calls (k : Nat) (w : World) (F : CH) (g1 : Nat) (o2 : Nat) (A3 : Option Addr) (c4 : Nat) (n5 : Nat) (p7 : CH) (a0 : Twriter) (A9 : Option Addr) (c10 : Nat) (n11 : Nat) (a1 : List Int) (hp : Pre w F [CH.row g1 o2 [.slice A3 n5 c4], p7]) (hn6 : n5 = a0.b.length) (hR8 : Row (Kd.int .u8) F p7 (.slice A3 n5 c4) a0.b) (hn12 : n11 = a1.length) (hl13 : a1.length ≤ c10) (hm14 : c10 ≤ maxLen) (hS15 : Sl (Kd.int .u8) F F A9 a1) (r0_ : Twriter) (H : docket_writer_text.f k a0 a1 = some r0_) :
    Calls Tryz.prog 25 #[.pointer (some ⟨g1, o2, none⟩), .slice A9 n11 c10] w fun e w' => ∃ (A69 : Option Addr) (c70 : Nat) (n71 : Nat) (p73 : CH), e = .returned (.tuple #[]) ∧ Ctx w F (domL [CH.row g1 o2 [.slice A3 n5 c4], p7]) w' F [CH.row g1 o2 [.slice A69 n71 c70], p73] ∧ n71 = r0_.b.length ∧ Row (Kd.int .u8) F p73 (.slice A69 n71 c70) r0_.b := by
 have C := Ctx.start hp
 generalize hD : domL [CH.row g1 o2 [.slice A3 n5 c4], p7] = D at C ⊢
 unfold docket_writer_text.f at H
 refine Calls.ofW Tryz.func25 rfl (by simp [Tryz.ntmps25]) ?_
 let v1 : CH := CH.row g1 o2 [.slice A3 n5 c4]
 refine W.regionA [([7, 10], v1)] (by kernel_rfl) ?_
 have C41 := Ctx.drewN C 1
 refine WA.takes [(0, none), (1, none), (2, none), (3, none), (4, some 0), (5, none)] ⟨(Ctx.subI 0 C41 rfl), trivial⟩ (by kernel_rfl) ?_
 refine WT.run to 4 rfl ?_
 refine WT.val rfl (fun _ hC_ => Yl.loadV (g := g1) (off := o2) (o := 0) (cs := [.slice A3 n5 c4]) (v := .slice A3 n5 c4) rfl Tryz.underlying24 rfl (show Sub (v1) _ from hC_) rfl) ?_
 refine WT.run to 1 rfl ?_
 refine WT.done ?_
 obtain ⟨r43, hg42, H⟩ := bindE H
 refine WA.up1 6 (by kernel_rfl) (Up.callH rfl (by kernel_rfl) rfl (wire_Text.calls k _ F A9 c10 n11 a1 (Ctx.pre (qs := []) (rest := [v1, p7]) C41) hn12 hl13 hm14 hS15 r43 hg42) (Yenter.fn Tryz.func52 (by kernel_rfl) rfl (argsE (.cons rfl .nil))) ?_)
 rintro e_ w_ ⟨A44, c45, n46, p48, rfl, C50, hn47, hR49⟩
 have C51 : Ctx _ _ _ _ _ [p48, v1, p7] := Ctx.call (qs := []) (rest := [v1, p7]) C41 C50
 refine ⟨_, rfl, ⟨(Ctx.subI 1 C51 rfl), trivial⟩, ?_⟩
 obtain ⟨hc52, H⟩ := guardE H
 obtain ⟨A53, c54, n55, p56, w57, hn58, hy59, C60, hR61⟩ := ev_append' (P := Tryz.prog) (cb := c45) 5 (Kd.int .u8) [p48, v1] [] C51 hR8 hn47 (Row.sl hR49) (Ctx.subI 0 C51 rfl) Tryz.underlying24 ti5 rfl zo5 (by decide) (by decide) (by simpa using hc52)
 have C62 : Ctx _ _ _ _ _ [p48, v1, p56] := C60
 refine WA.up1 7 (by kernel_rfl) (Up.val rfl rfl rfl (hy59 _ _ _ _ rfl rfl) ⟨trivial, trivial⟩ ?_)
 refine WA.takes [(8, none), (9, none)] ⟨(Ctx.subI 1 C62 rfl), trivial⟩ (by kernel_rfl) ?_
 refine WT.run to 2 rfl ?_
 refine WT.done ?_
 obtain ⟨w63, hy64, C65⟩ := ev_setI (P := Tryz.prog) (ps1 := [p48]) (ps2 := [p56]) (t := 24) 0 [.slice A53 n55 c54] (.slice A53 n55 c54) C62 rfl rfl (ones_of rfl) sz24
 let v2 : CH := CH.row g1 o2 [.slice A53 n55 c54]
 have C66 : Ctx _ _ _ _ _ [p48, v2, p56] := C65
 refine WA.up1 10 (by kernel_rfl) (Up.skip rfl rfl (hy64 _ _ _ _ rfl rfl) ⟨trivial, trivial⟩ ?_)
 refine WA.done (by kernel_rfl) ?_
 have C67 : Ctx _ _ _ _ _ [v2, p56] := Ctx.pick [1, 2] C66 rfl
 have e68 := Option.some.inj H
 subst e68
 exact post_n (resE0 rfl ) ⟨A53, c54, n55, p56, rfl, C67, hn58, hR61⟩
def docket_writer_digest.f (k : Nat) (a0 : Twriter) (a1 : List Int) : Option Twriter := if (a0.b.length + a1.length + (a0.b.length + a1.length) / 4 + 192) * 1 ≤ 281474976710656 then (some (⟨a0.b ++ a1⟩ : Twriter)) else none
set_option maxRecDepth 100000 in
set_option maxHeartbeats 4000000 in
theorem docket_writer_digest.calls (k : Nat) (w : World) (F : CH) (g1 : Nat) (o2 : Nat) (A3 : Option Addr) (c4 : Nat) (n5 : Nat) (p7 : CH) (a0 : Twriter) (a1 : List Int) (hp : Pre w F [CH.row g1 o2 [.slice A3 n5 c4], p7]) (hn6 : n5 = a0.b.length) (hR8 : Row (Kd.int .u8) F p7 (.slice A3 n5 c4) a0.b) (ha9 : a1.length = 32) (r0_ : Twriter) (H : docket_writer_digest.f k a0 a1 = some r0_) :
    Calls Tryz.prog 24 #[.pointer (some ⟨g1, o2, none⟩), .agg (List.toArray (a1.map (Value.int .u8)))] w fun e w' => ∃ (A54 : Option Addr) (c55 : Nat) (n56 : Nat) (p58 : CH), e = .returned (.tuple #[]) ∧ Ctx w F (domL [CH.row g1 o2 [.slice A3 n5 c4], p7]) w' F [CH.row g1 o2 [.slice A54 n56 c55], p58] ∧ n56 = r0_.b.length ∧ Row (Kd.int .u8) F p58 (.slice A54 n56 c55) r0_.b := by
 have C := Ctx.start hp
 generalize hD : domL [CH.row g1 o2 [.slice A3 n5 c4], p7] = D at C ⊢
 unfold docket_writer_digest.f at H
 refine Calls.ofW Tryz.func24 rfl (by simp [Tryz.ntmps24]) ?_
 refine W.seq ?_
 refine W.region rfl ?_
 obtain ⟨g10, w11, hy12, C13⟩ := ev_box (P := Tryz.prog) 23 (.agg (List.toArray (a1.map (Value.int .u8)))) (a1.map (Value.int .u8)) C rfl
 refine WL.val (hy12 _ _ _ rfl) ?_
 refine WL.done ?_
 let v1 : CH := CH.row g1 o2 [.slice A3 n5 c4]
 obtain ⟨F14, le15, lp16, (C17 : Ctx _ _ _ _ _ [v1, p7])⟩ := Ctx.fzI 0 C13 rfl
 have hR18 := Row.mono hR8 le15
 refine W.regionA [([6, 9], v1)] (by kernel_rfl) ?_
 have C35 := Ctx.drewN C17 1
 refine WA.takes [(0, none), (1, none), (2, none), (3, none), (4, some 0), (5, none)] ⟨(Ctx.subI 0 C35 rfl), trivial⟩ (by kernel_rfl) ?_
 refine WT.run to 4 rfl ?_
 refine WT.val rfl (fun _ hC_ => Yl.loadV (g := g1) (off := o2) (o := 0) (cs := [.slice A3 n5 c4]) (v := .slice A3 n5 c4) rfl Tryz.underlying24 rfl (show Sub (v1) _ from hC_) rfl) ?_
 have hS37 : Sl (Kd.int .u8) F14 F14 (some ⟨g10, 0 + 0, none⟩) a1 := Sl.ofArr (cs := a1.map (Value.int .u8)) (pre := []) (post := []) lp16 (by first | (simp only [List.length_append, List.length_map, List.length_cons, List.length_nil, ha9]; done) | simp [ha9]) (by first | (simp only [List.length_append, List.length_map, List.length_cons, List.length_nil, ha9]; done) | simp [ha9])
 refine WT.val rfl (fun _ hC_ => Yl.sliceArr 0 32 32 rfl Tryz.underlying23 sz5 rfl rfl rfl (by simp) (by decide) (by decide) (by decide) rfl) ?_
 refine WT.done ?_
 obtain ⟨hc38, H⟩ := guardE H
 obtain ⟨A39, c40, n41, p42, w43, hn44, hy45, C46, hR47⟩ := ev_append' (P := Tryz.prog) (cb := 32) 5 (Kd.int .u8) [v1] [] C35 hR18 (ha9).symm hS37 C35.fro Tryz.underlying24 ti5 rfl zo5 (by decide) (by decide) (by simpa using hc38)
 have C48 : Ctx _ _ _ _ _ [v1, p42] := C46
 refine WA.up1 6 (by kernel_rfl) (Up.val rfl rfl rfl (hy45 _ _ _ _ rfl rfl) ⟨trivial, trivial⟩ ?_)
 refine WA.takes [(7, none), (8, none)] ⟨(Ctx.subI 0 C48 rfl), trivial⟩ (by kernel_rfl) ?_
 refine WT.run to 2 rfl ?_
 refine WT.done ?_
 obtain ⟨w49, hy50, C51⟩ := ev_setI (P := Tryz.prog) (ps1 := []) (ps2 := [p42]) (t := 24) 0 [.slice A39 n41 c40] (.slice A39 n41 c40) C48 rfl rfl (ones_of rfl) sz24
 let v2 : CH := CH.row g1 o2 [.slice A39 n41 c40]
 have C52 : Ctx _ _ _ _ _ [v2, p42] := C51
 refine WA.up1 9 (by kernel_rfl) (Up.skip rfl rfl (hy50 _ _ _ _ rfl rfl) ⟨trivial, trivial⟩ ?_)
 refine WA.done (by kernel_rfl) ?_
 have e53 := Option.some.inj H
 subst e53
 exact post_n (resE0 rfl ) ⟨A39, c40, n41, p42, rfl, (Ctx.weak C52 (CH.le_refl _)), hn44, hR47⟩
def docket_num.f (k : Nat) (a0 : TReader) : Option (Int × TReader) := (wire_Reader_Num.f k a0 1099511627776).bind fun ⟨r11, r12⟩ => some (wi64 r11, r12)
set_option maxRecDepth 100000 in
set_option maxHeartbeats 4000000 in
theorem docket_num.calls (k : Nat) (w : World) (F : CH) (g1 : Nat) (o2 : Nat) (A3 : Option Addr) (c4 : Nat) (n5 : Nat) (a0 : TReader) (hp : Pre w F [CH.row g1 o2 [.slice A3 n5 c4, .int .i64 a0.at_, .int .i64 a0.e]]) (hn6 : n5 = a0.b.length) (hl7 : a0.b.length ≤ c4) (hm8 : c4 ≤ maxLen) (hS9 : Sl (Kd.int .u8) F F A3 a0.b) (r0_ : Int) (r1_ : TReader) (H : docket_num.f k a0 = some (r0_, r1_)) :
    Calls Tryz.prog 31 #[.pointer (some ⟨g1, o2, none⟩)] w fun e w' => ∃ (A24 : Option Addr) (c25 : Nat) (n26 : Nat), e = .returned (.int .i64 r0_) ∧ Ctx w F (domL [CH.row g1 o2 [.slice A3 n5 c4, .int .i64 a0.at_, .int .i64 a0.e]]) w' F [CH.row g1 o2 [.slice A24 n26 c25, .int .i64 r1_.at_, .int .i64 r1_.e]] ∧ n26 = r1_.b.length ∧ r1_.b.length ≤ c25 ∧ c25 ≤ maxLen ∧ Sl (Kd.int .u8) F F A24 r1_.b := by
 have C := Ctx.start hp
 generalize hD : domL [CH.row g1 o2 [.slice A3 n5 c4, .int .i64 a0.at_, .int .i64 a0.e]] = D at C ⊢
 unfold docket_num.f at H
 refine Calls.ofW Tryz.func31 rfl (by simp [Tryz.ntmps31]) ?_
 refine W.seq ?_
 refine W.region rfl ?_
 refine WL.run to 1 rfl ?_
 refine WL.done ?_
 refine W.seq ?_
 refine W.region rfl ?_
 refine WL.run to 1 rfl ?_
 obtain ⟨⟨r11, r12⟩, hg10, H⟩ := bindE H
 let q1 : List Go.Value := [.slice A3 n5 c4, .int .i64 a0.at_, .int .i64 a0.e]
 refine WL.callH (wire_Reader_Num.calls k _ F g1 o2 A3 c4 n5 a0 1099511627776 (Ctx.pre (qs := [CH.row g1 o2 q1]) (rest := []) C) hn6 hl7 hm8 hS9 r11 r12 hg10) (Yenter.fn Tryz.func55 (by kernel_rfl) rfl (argsE (.cons rfl (.cons rfl .nil)))) ?_
 rintro e_ w_ ⟨A13, c14, n15, rfl, C20, hn16, hl17, hm18, hS19⟩
 refine ⟨_, rfl, ?_⟩
 let q2 : List Go.Value := [.slice A13 n15 c14, .int .i64 r12.at_, .int .i64 r12.e]
 have C21 : Ctx _ _ _ _ _ [CH.row g1 o2 q2] := Ctx.call (qs := [CH.row g1 o2 q1]) (rest := []) C C20
 refine WL.val (Yl.conv (m := r11) (r := wi64 r11) rfl Tryz.underlying82 Tryz.underlying3 rfl) ?_
 refine WL.run to 1 rfl ?_
 refine WL.done ?_
 refine W.ret ?_
 simp only [Option.some.injEq, Prod.mk.injEq] at H
 obtain ⟨e22, e23⟩ := H
 subst e22 e23
 exact post_r (resE1 rfl rfl) ⟨A13, c14, n15, rfl, C21, hn16, hl17, hm18, hS19⟩
def docket_Encode.f (k : Nat) (a0 : TRecord) : Option ((List Int) × Int) := (docket_may.f k a0).bind fun r14 => if r14 = true then ((docket_writer_nums.f k (⟨([] : List Int)⟩ : Twriter) [a0.Kind, a0.Epoch]).bind fun r37 => (docket_writer_digest.f k r37 a0.Nonce).bind fun r48 => (docket_writer_text.f k r48 a0.Data).bind fun r58 => (docket_writer_nums.f k r58 [a0.Job, a0.Time, a0.By]).bind fun r82 => some (r82.b, 0)) else (some (([] : List Int), 1))
set_option maxRecDepth 100000 in
set_option maxHeartbeats 4000000 in
theorem docket_Encode.calls (k : Nat) (w : World) (F : CH) (A2 : Option Addr) (c3 : Nat) (n4 : Nat) (a0 : TRecord) (hp : Pre w F []) (ha1 : a0.Nonce.length = 32) (hn5 : n4 = a0.Data.length) (hl6 : a0.Data.length ≤ c3) (hm7 : c3 ≤ maxLen) (hS8 : Sl (Kd.int .u8) F F A2 a0.Data) (r0_ : List Int) (r1_ : Int) (H : docket_Encode.f k a0 = some (r0_, r1_)) :
    Calls Tryz.prog 6 #[.agg (List.toArray ([.int .i64 a0.Kind, .int .i64 a0.Epoch] ++ (a0.Nonce.map (Value.int .u8) ++ [.slice A2 n4 c3, .int .i64 a0.Job, .int .i64 a0.Time, .int .i64 a0.By])))] w fun e w' => ∃ (A98 : Option Addr) (c99 : Nat) (n100 : Nat) (p102 : CH), e = .returned (.tuple #[(.slice A98 n100 c99), (.int .i64 r1_)]) ∧ Ctx w F (domL []) w' F [p102] ∧ n100 = r0_.length ∧ Row (Kd.int .u8) F p102 (.slice A98 n100 c99) r0_ := by
 have C := Ctx.start hp
 generalize hD : domL [] = D at C ⊢
 unfold docket_Encode.f at H
 refine Calls.ofW Tryz.func6 rfl (by simp [Tryz.ntmps6]) ?_
 refine W.seq ?_
 refine W.region rfl ?_
 let q1 : List Go.Value := [.int .i64 a0.Kind, .int .i64 a0.Epoch] ++ (a0.Nonce.map (Value.int .u8) ++ [.slice A2 n4 c3, .int .i64 a0.Job, .int .i64 a0.Time, .int .i64 a0.By])
 obtain ⟨g9, w10, hy11, C12⟩ := ev_box (P := Tryz.prog) 26 (.agg (List.toArray q1)) q1 C rfl
 refine WL.val (hy11 _ _ _ rfl) ?_
 refine WL.run to 2 rfl ?_
 refine WL.done ?_
 refine W.seq ?_
 refine W.seq ?_
 refine W.region rfl ?_
 refine WL.val (Yl.loadVA (g := g9) (off := 0) (o := 0) (cs := q1) (us := q1) rfl Tryz.underlying26 rfl (sz_of sz26 (len_app rfl (len_app (len_map ha1) rfl))) (Ctx.subI 0 C12 rfl) (take_all _)) ?_
 obtain ⟨r14, hg13, H⟩ := bindE H
 refine WL.callH (docket_may.calls k _ F A2 c3 n4 a0 (Ctx.pre (qs := []) (rest := [CH.row g9 0 q1]) C12) ha1 hn5 hl6 hm7 hS8 r14 hg13) (Yenter.fn Tryz.func22 (by kernel_rfl) rfl (argsE (.cons rfl .nil))) ?_
 rintro e_ w_ ⟨rfl, C15⟩
 refine ⟨_, rfl, ?_⟩
 have C16 : Ctx _ _ _ _ _ [CH.row g9 0 q1] := Ctx.call (qs := []) (rest := [CH.row g9 0 q1]) C12 C15
 refine WL.run to 1 rfl ?_
 refine WL.done ?_
 rcases iteE H with ⟨hc17, H⟩ | ⟨hc17, H⟩
 ·refine W.condF (congrArg Value.bool (nb_t hc17)) ?_
  refine W.skip ?_
  refine W.seq ?_
  refine W.region rfl ?_
  obtain ⟨g18, w19, hy20, C21⟩ := ev_alloc (P := Tryz.prog) (e := 67) [.slice none 0 0] C16 zr67 rfl
  refine WL.val (hy20 _ _) ?_
  refine WL.done ?_
  refine W.seq ?_
  refine W.region rfl ?_
  refine WL.run to 1 rfl ?_
  refine WL.val (Yl.loadV (g := g9) (off := 0) (o := 0) (cs := q1) (v := .int .i64 a0.Kind) rfl Tryz.underlying3 rfl (Ctx.subI 1 C21 rfl) rfl) ?_
  refine WL.run to 1 rfl ?_
  refine WL.val (Yl.loadV (g := g9) (off := 0) (o := 1) (cs := q1) (v := .int .i64 a0.Epoch) rfl Tryz.underlying3 rfl (Ctx.subI 1 C21 rfl) rfl) ?_
  obtain ⟨A22, c23, n24, p25, w26, hn27, hy28, C29, hR30⟩ := ev_lit' (P := Tryz.prog) 3 (Kd.int .i64) C21 Tryz.underlying47 ti3 (by decide) [a0.Kind, a0.Epoch] [.int .i64 a0.Kind, .int .i64 a0.Epoch] (.cons rfl (.cons rfl .nil)) 2 rfl (by decide) (by decide)
  refine WL.val (hy28 _ [(.tmp 9), (.tmp 11)] _ (.cons rfl (.cons rfl .nil))) ?_
  let v2 : CH := CH.row g18 0 [.slice none 0 0]
  have C31 : Ctx _ _ _ _ _ [v2, CH.emp, p25, CH.row g9 0 q1] := Ctx.pick [1, 3, 0, 2] C29 rfl
  obtain ⟨F32, le33, lp34, C35⟩ := Ctx.fzI 2 C31 rfl
  replace C35 : Ctx _ _ _ _ _ [v2, CH.emp, CH.row g9 0 q1] := C35
  obtain ⟨r37, hg36, H⟩ := bindE H
  refine WL.callH (docket_writer_nums.calls k _ F32 g18 0 none 0 0 CH.emp (⟨([] : List Int)⟩ : Twriter) A22 c23 n24 [a0.Kind, a0.Epoch] (Ctx.pre (qs := [v2, CH.emp]) (rest := [CH.row g9 0 q1]) C35) rfl (Row.nil _ _) hn27 (Row.len_le hR30).1 (Row.len_le hR30).2.1 (Sl.mono (Row.sl hR30) le33 lp34) r37 hg36) (Yenter.fn Tryz.func23 (by kernel_rfl) rfl (argsE (.cons rfl (.cons rfl .nil)))) ?_
  rintro e_ w_ ⟨A38, c39, n40, p42, rfl, C44, hn41, hR43⟩
  refine ⟨_, rfl, ?_⟩
  have hR45 : Row (Kd.int .u8) F p42 (.slice A38 n40 c39) r37.b := hR43
  let v3 : CH := CH.row g18 0 [.slice A38 n40 c39]
  have C46 : Ctx _ _ _ _ _ [v3, p42, p25, CH.row g9 0 q1] := Ctx.callL (qs := [v2, CH.emp]) (rest := [p25, CH.row g9 0 q1]) C31 le33 C44
  refine WL.done ?_
  refine W.seq ?_
  refine W.region rfl ?_
  refine WL.run to 1 rfl ?_
  refine WL.val (Yl.loadVA (g := g9) (off := 0) (o := 2) (cs := q1) (us := a0.Nonce.map (Value.int .u8)) rfl Tryz.underlying23 rfl (sz_of sz23 (len_map ha1)) (Ctx.subI 3 C46 rfl) (mid_skip 2 0 rfl (mid_here rfl))) ?_
  obtain ⟨r48, hg47, H⟩ := bindE H
  refine WL.callH (docket_writer_digest.calls k _ F g18 0 A38 c39 n40 p42 r37 a0.Nonce (Ctx.pre (qs := [v3, p42]) (rest := [p25, CH.row g9 0 q1]) C46) hn41 hR45 ha1 r48 hg47) (Yenter.fn Tryz.func24 (by kernel_rfl) rfl (argsE (.cons rfl (.cons rfl .nil)))) ?_
  rintro e_ w_ ⟨A49, c50, n51, p53, rfl, C55, hn52, hR54⟩
  refine ⟨_, rfl, ?_⟩
  let v4 : CH := CH.row g18 0 [.slice A49 n51 c50]
  have C56 : Ctx _ _ _ _ _ [v4, p53, p25, CH.row g9 0 q1] := Ctx.call (qs := [v3, p42]) (rest := [p25, CH.row g9 0 q1]) C46 C55
  refine WL.done ?_
  refine W.seq ?_
  refine W.region rfl ?_
  refine WL.run to 1 rfl ?_
  refine WL.val (Yl.loadV (g := g9) (off := 0) (o := 34) (cs := q1) (v := .slice A2 n4 c3) rfl Tryz.underlying24 rfl (Ctx.subI 3 C56 rfl) (at_skip 2 32 rfl (at_skip 32 0 (len_map ha1) rfl))) ?_
  obtain ⟨r58, hg57, H⟩ := bindE H
  refine WL.callH (docket_writer_text.calls k _ F g18 0 A49 c50 n51 p53 r48 A2 c3 n4 a0.Data (Ctx.pre (qs := [v4, p53]) (rest := [p25, CH.row g9 0 q1]) C56) hn52 hR54 hn5 hl6 hm7 hS8 r58 hg57) (Yenter.fn Tryz.func25 (by kernel_rfl) rfl (argsE (.cons rfl (.cons rfl .nil)))) ?_
  rintro e_ w_ ⟨A59, c60, n61, p63, rfl, C65, hn62, hR64⟩
  refine ⟨_, rfl, ?_⟩
  let v5 : CH := CH.row g18 0 [.slice A59 n61 c60]
  have C66 : Ctx _ _ _ _ _ [v5, p63, p25, CH.row g9 0 q1] := Ctx.call (qs := [v4, p53]) (rest := [p25, CH.row g9 0 q1]) C56 C65
  refine WL.done ?_
  refine W.seq ?_
  refine W.region rfl ?_
  refine WL.run to 1 rfl ?_
  refine WL.val (Yl.loadV (g := g9) (off := 0) (o := 35) (cs := q1) (v := .int .i64 a0.Job) rfl Tryz.underlying3 rfl (Ctx.subI 3 C66 rfl) (at_skip 2 33 rfl (at_skip 32 1 (len_map ha1) rfl))) ?_
  refine WL.run to 1 rfl ?_
  refine WL.val (Yl.loadV (g := g9) (off := 0) (o := 36) (cs := q1) (v := .int .i64 a0.Time) rfl Tryz.underlying3 rfl (Ctx.subI 3 C66 rfl) (at_skip 2 34 rfl (at_skip 32 2 (len_map ha1) rfl))) ?_
  refine WL.run to 1 rfl ?_
  refine WL.val (Yl.loadV (g := g9) (off := 0) (o := 37) (cs := q1) (v := .int .i64 a0.By) rfl Tryz.underlying3 rfl (Ctx.subI 3 C66 rfl) (at_skip 2 35 rfl (at_skip 32 3 (len_map ha1) rfl))) ?_
  let q6 : List Go.Value := [.int .i64 a0.Job, .int .i64 a0.Time, .int .i64 a0.By]
  obtain ⟨A67, c68, n69, p70, w71, hn72, hy73, C74, hR75⟩ := ev_lit' (P := Tryz.prog) 3 (Kd.int .i64) C66 Tryz.underlying47 ti3 (by decide) [a0.Job, a0.Time, a0.By] q6 (.cons rfl (.cons rfl (.cons rfl .nil))) 3 rfl (by decide) (by decide)
  refine WL.val (hy73 _ [(.tmp 21), (.tmp 23), (.tmp 25)] _ (.cons rfl (.cons rfl (.cons rfl .nil)))) ?_
  have C76 : Ctx _ _ _ _ _ [v5, p63, p70, p25, CH.row g9 0 q1] := Ctx.pick [1, 2, 0, 3, 4] C74 rfl
  obtain ⟨F77, le78, lp79, C80⟩ := Ctx.fzI 2 C76 rfl
  replace C80 : Ctx _ _ _ _ _ [v5, p63, p25, CH.row g9 0 q1] := C80
  obtain ⟨r82, hg81, H⟩ := bindE H
  refine WL.callH (docket_writer_nums.calls k _ F77 g18 0 A59 c60 n61 p63 r58 A67 c68 n69 [a0.Job, a0.Time, a0.By] (Ctx.pre (qs := [v5, p63]) (rest := [p25, CH.row g9 0 q1]) C80) hn62 hR64 hn72 (Row.len_le hR75).1 (Row.len_le hR75).2.1 (Sl.mono (Row.sl hR75) le78 lp79) r82 hg81) (Yenter.fn Tryz.func23 (by kernel_rfl) rfl (argsE (.cons rfl (.cons rfl .nil)))) ?_
  rintro e_ w_ ⟨A83, c84, n85, p87, rfl, C89, hn86, hR88⟩
  refine ⟨_, rfl, ?_⟩
  have hR90 : Row (Kd.int .u8) F p87 (.slice A83 n85 c84) r82.b := hR88
  let v7 : CH := CH.row g18 0 [.slice A83 n85 c84]
  have C91 : Ctx _ _ _ _ _ [v7, p87, p70, p25, CH.row g9 0 q1] := Ctx.callL (qs := [v5, p63]) (rest := [p70, p25, CH.row g9 0 q1]) C76 le78 C89
  refine WL.done ?_
  refine W.seq ?_
  refine W.region rfl ?_
  refine WL.run to 1 rfl ?_
  refine WL.val (Yl.loadV (g := g18) (off := 0) (o := 0) (cs := [.slice A83 n85 c84]) (v := .slice A83 n85 c84) rfl Tryz.underlying24 rfl (Ctx.subI 0 C91 rfl) rfl) ?_
  refine WL.run to 2 rfl ?_
  refine WL.done ?_
  refine W.ret ?_
  have C92 : Ctx _ _ _ _ _ [p87] := Ctx.pick [1] C91 rfl
  simp only [Option.some.injEq, Prod.mk.injEq] at H
  obtain ⟨e93, e94⟩ := H
  subst e93 e94
  exact post_r (resE2 rfl rfl rfl) ⟨A83, c84, n85, p87, rfl, C92, hn86, hR90⟩
 ·refine W.condT (congrArg Value.bool (nb_f hc17)) ?_
  refine W.seq ?_
  refine W.region rfl ?_
  refine WL.run to 2 rfl ?_
  refine WL.done ?_
  refine W.ret ?_
  refine thenE_r ?_
  have C95 : Ctx _ _ _ _ _ [CH.emp] := Ctx.pick [1] C16 rfl
  simp only [Option.some.injEq, Prod.mk.injEq] at H
  obtain ⟨e96, e97⟩ := H
  subst e96 e97
  exact post_r (resE2 rfl rfl rfl) ⟨none, 0, 0, CH.emp, rfl, C95, rfl, (Row.nil _ _)⟩
def docket_Decode.f (k : Nat) (a0 : List Int) : Option (TRecord × Int) := (wire_Read.f k a0).bind fun r13 => (docket_num.f k r13).bind fun ⟨r28, r29⟩ => (docket_num.f k r29).bind fun ⟨r40, r41⟩ => (wire_Reader_Digest.f k r41).bind fun ⟨r52, r53⟩ => (wire_Reader_Text.f k r53 64).bind fun ⟨r65, r66⟩ => (docket_num.f k r66).bind fun ⟨r83, r84⟩ => (docket_num.f k r84).bind fun ⟨r95, r96⟩ => (docket_num.f k r96).bind fun ⟨r107, r108⟩ => (wire_Reader_End.f k r108).bind fun ⟨r128, r129⟩ => if r128 = 0 then ((docket_may.f k (⟨r28, r40, r52, r65, r83, r95, r107⟩ : TRecord)).bind fun r145 => if r145 = true then (some ((⟨r28, r40, r52, r65, r83, r95, r107⟩ : TRecord), 0)) else (some ((⟨0, 0, (List.replicate 32 (0 : Int)), ([] : List Int), 0, 0, 0⟩ : TRecord), 41))) else (some ((⟨0, 0, (List.replicate 32 (0 : Int)), ([] : List Int), 0, 0, 0⟩ : TRecord), r128))
set_option maxRecDepth 100000 in
set_option maxHeartbeats 4000000 in
theorem docket_Decode.calls (k : Nat) (w : World) (F : CH) (A1 : Option Addr) (c2 : Nat) (n3 : Nat) (a0 : List Int) (hp : Pre w F []) (hn4 : n3 = a0.length) (hl5 : a0.length ≤ c2) (hm6 : c2 ≤ maxLen) (hS7 : Sl (Kd.int .u8) F F A1 a0) (r0_ : TRecord) (r1_ : Int) (H : docket_Decode.f k a0 = some (r0_, r1_)) :
    Calls Tryz.prog 9 #[.slice A1 n3 c2] w fun e w' => ∃ (A171 : Option Addr) (c172 : Nat) (n173 : Nat) (p175 : CH), e = .returned (.tuple #[(.agg (List.toArray ([.int .i64 r0_.Kind, .int .i64 r0_.Epoch] ++ (r0_.Nonce.map (Value.int .u8) ++ [.slice A171 n173 c172, .int .i64 r0_.Job, .int .i64 r0_.Time, .int .i64 r0_.By])))), (.int .i64 r1_)]) ∧ Ctx w F (domL []) w' F [p175] ∧ r0_.Nonce.length = 32 ∧ n173 = r0_.Data.length ∧ Row (Kd.int .u8) F p175 (.slice A171 n173 c172) r0_.Data := by
 have C := Ctx.start hp
 generalize hD : domL [] = D at C ⊢
 unfold docket_Decode.f at H
 refine Calls.ofW Tryz.func9 rfl (by simp [Tryz.ntmps9]) ?_
 refine W.seq ?_
 refine W.region rfl ?_
 let q1 : List Go.Value := [.int .i64 0, .int .i64 0] ++ ((List.replicate 32 (0 : Int)).map (Value.int .u8) ++ [.slice none 0 0, .int .i64 0, .int .i64 0, .int .i64 0])
 obtain ⟨g8, w9, hy10, C11⟩ := ev_alloc (P := Tryz.prog) (e := 26) q1 C zr26 rfl
 refine WL.val (hy10 _ _) ?_
 refine WL.run to 1 rfl ?_
 refine WL.done ?_
 refine W.seq ?_
 refine W.region rfl ?_
 refine WL.run to 1 rfl ?_
 obtain ⟨r13, hg12, H⟩ := bindE H
 refine WL.callH (wire_Read.calls k _ F A1 c2 n3 a0 (Ctx.pre (qs := []) (rest := [CH.row g8 0 q1]) C11) hn4 hl5 hm6 hS7 r13 hg12) (Yenter.fn Tryz.func30 (by kernel_rfl) rfl (argsE (.cons rfl .nil))) ?_
 rintro e_ w_ ⟨F14, g16, o17, A18, c19, n20, rfl, le15, C25, hn21, hl22, hm23, hS24⟩
 refine ⟨_, rfl, ?_⟩
 let q2 : List Go.Value := [.slice A18 n20 c19, .int .i64 r13.at_, .int .i64 r13.e]
 have C26 : Ctx _ _ _ _ _ [CH.row g16 o17 q2, CH.row g8 0 q1] := Ctx.call (qs := []) (rest := [CH.row g8 0 q1]) C11 C25
 refine WL.run to 1 rfl ?_
 refine WL.done ?_
 refine W.seq ?_
 refine W.region rfl ?_
 refine WL.run to 1 rfl ?_
 obtain ⟨⟨r28, r29⟩, hg27, H⟩ := bindE H
 refine WL.callH (docket_num.calls k _ F14 g16 o17 A18 c19 n20 r13 (Ctx.pre (qs := [CH.row g16 o17 q2]) (rest := [CH.row g8 0 q1]) C26) hn21 hl22 hm23 hS24 r28 r29 hg27) (Yenter.fn Tryz.func31 (by kernel_rfl) rfl (argsE (.cons rfl .nil))) ?_
 rintro e_ w_ ⟨A30, c31, n32, rfl, C37, hn33, hl34, hm35, hS36⟩
 refine ⟨_, rfl, ?_⟩
 let q3 : List Go.Value := [.slice A30 n32 c31, .int .i64 r29.at_, .int .i64 r29.e]
 have C38 : Ctx _ _ _ _ _ [CH.row g16 o17 q3, CH.row g8 0 q1] := Ctx.call (qs := [CH.row g16 o17 q2]) (rest := [CH.row g8 0 q1]) C26 C37
 refine WL.run to 1 rfl ?_
 obtain ⟨⟨r40, r41⟩, hg39, H⟩ := bindE H
 refine WL.callH (docket_num.calls k _ F14 g16 o17 A30 c31 n32 r29 (Ctx.pre (qs := [CH.row g16 o17 q3]) (rest := [CH.row g8 0 q1]) C38) hn33 hl34 hm35 hS36 r40 r41 hg39) (Yenter.fn Tryz.func31 (by kernel_rfl) rfl (argsE (.cons rfl .nil))) ?_
 rintro e_ w_ ⟨A42, c43, n44, rfl, C49, hn45, hl46, hm47, hS48⟩
 refine ⟨_, rfl, ?_⟩
 let q4 : List Go.Value := [.slice A42 n44 c43, .int .i64 r41.at_, .int .i64 r41.e]
 have C50 : Ctx _ _ _ _ _ [CH.row g16 o17 q4, CH.row g8 0 q1] := Ctx.call (qs := [CH.row g16 o17 q3]) (rest := [CH.row g8 0 q1]) C38 C49
 refine WL.run to 1 rfl ?_
 obtain ⟨⟨r52, r53⟩, hg51, H⟩ := bindE H
 refine WL.callH (wire_Reader_Digest.calls k _ F14 g16 o17 A42 c43 n44 r41 (Ctx.pre (qs := [CH.row g16 o17 q4]) (rest := [CH.row g8 0 q1]) C50) hn45 hl46 hm47 hS48 r52 r53 hg51) (Yenter.fn Tryz.func32 (by kernel_rfl) rfl (argsE (.cons rfl .nil))) ?_
 rintro e_ w_ ⟨A55, c56, n57, rfl, C62, ha54, hn58, hl59, hm60, hS61⟩
 refine ⟨_, rfl, ?_⟩
 let q5 : List Go.Value := [.slice A55 n57 c56, .int .i64 r53.at_, .int .i64 r53.e]
 have C63 : Ctx _ _ _ _ _ [CH.row g16 o17 q5, CH.row g8 0 q1] := Ctx.call (qs := [CH.row g16 o17 q4]) (rest := [CH.row g8 0 q1]) C50 C62
 refine WL.run to 1 rfl ?_
 obtain ⟨⟨r65, r66⟩, hg64, H⟩ := bindE H
 refine WL.callH (wire_Reader_Text.calls k _ F14 g16 o17 A55 c56 n57 r53 64 (Ctx.pre (qs := [CH.row g16 o17 q5]) (rest := [CH.row g8 0 q1]) C63) hn58 hl59 hm60 hS61 r65 r66 hg64) (Yenter.fn Tryz.func33 (by kernel_rfl) rfl (argsE (.cons rfl (.cons rfl .nil)))) ?_
 rintro e_ w_ ⟨A67, c68, n69, p71, A73, c74, n75, rfl, C80, hn70, hR72, hn76, hl77, hm78, hS79⟩
 refine ⟨_, rfl, ?_⟩
 let q6 : List Go.Value := [.slice A73 n75 c74, .int .i64 r66.at_, .int .i64 r66.e]
 have C81 : Ctx _ _ _ _ _ [CH.row g16 o17 q6, p71, CH.row g8 0 q1] := Ctx.call (qs := [CH.row g16 o17 q5]) (rest := [CH.row g8 0 q1]) C63 C80
 refine WL.run to 1 rfl ?_
 obtain ⟨⟨r83, r84⟩, hg82, H⟩ := bindE H
 refine WL.callH (docket_num.calls k _ F14 g16 o17 A73 c74 n75 r66 (Ctx.pre (qs := [CH.row g16 o17 q6]) (rest := [p71, CH.row g8 0 q1]) C81) hn76 hl77 hm78 hS79 r83 r84 hg82) (Yenter.fn Tryz.func31 (by kernel_rfl) rfl (argsE (.cons rfl .nil))) ?_
 rintro e_ w_ ⟨A85, c86, n87, rfl, C92, hn88, hl89, hm90, hS91⟩
 refine ⟨_, rfl, ?_⟩
 let q7 : List Go.Value := [.slice A85 n87 c86, .int .i64 r84.at_, .int .i64 r84.e]
 have C93 : Ctx _ _ _ _ _ [CH.row g16 o17 q7, p71, CH.row g8 0 q1] := Ctx.call (qs := [CH.row g16 o17 q6]) (rest := [p71, CH.row g8 0 q1]) C81 C92
 refine WL.run to 1 rfl ?_
 obtain ⟨⟨r95, r96⟩, hg94, H⟩ := bindE H
 refine WL.callH (docket_num.calls k _ F14 g16 o17 A85 c86 n87 r84 (Ctx.pre (qs := [CH.row g16 o17 q7]) (rest := [p71, CH.row g8 0 q1]) C93) hn88 hl89 hm90 hS91 r95 r96 hg94) (Yenter.fn Tryz.func31 (by kernel_rfl) rfl (argsE (.cons rfl .nil))) ?_
 rintro e_ w_ ⟨A97, c98, n99, rfl, C104, hn100, hl101, hm102, hS103⟩
 refine ⟨_, rfl, ?_⟩
 let q8 : List Go.Value := [.slice A97 n99 c98, .int .i64 r96.at_, .int .i64 r96.e]
 have C105 : Ctx _ _ _ _ _ [CH.row g16 o17 q8, p71, CH.row g8 0 q1] := Ctx.call (qs := [CH.row g16 o17 q7]) (rest := [p71, CH.row g8 0 q1]) C93 C104
 refine WL.run to 1 rfl ?_
 obtain ⟨⟨r107, r108⟩, hg106, H⟩ := bindE H
 refine WL.callH (docket_num.calls k _ F14 g16 o17 A97 c98 n99 r96 (Ctx.pre (qs := [CH.row g16 o17 q8]) (rest := [p71, CH.row g8 0 q1]) C105) hn100 hl101 hm102 hS103 r107 r108 hg106) (Yenter.fn Tryz.func31 (by kernel_rfl) rfl (argsE (.cons rfl .nil))) ?_
 rintro e_ w_ ⟨A109, c110, n111, rfl, C116, hn112, hl113, hm114, hS115⟩
 refine ⟨_, rfl, ?_⟩
 let q9 : List Go.Value := [.slice A109 n111 c110, .int .i64 r108.at_, .int .i64 r108.e]
 have C117 : Ctx _ _ _ _ _ [CH.row g16 o17 q9, p71, CH.row g8 0 q1] := Ctx.call (qs := [CH.row g16 o17 q8]) (rest := [p71, CH.row g8 0 q1]) C105 C116
 let q10 : List Go.Value := [.int .i64 r28, .int .i64 r40] ++ (r52.map (Value.int .u8) ++ [.slice A67 n69 c68, .int .i64 r83, .int .i64 r95, .int .i64 r107])
 refine WL.val (Yl.build (places := [(0, 1), (1, 1), (2, 32), (34, 1), (35, 1), (36, 1), (37, 1)]) (cs := List.toArray q10) Tryz.underlying26 zr26 (pl26 _ Tryz.underlying26) (partsB (.cons rfl (.cons rfl (.cons rfl (.cons rfl (.cons rfl (.cons rfl (.cons rfl .nil)))))))) (Fills.run (a := [.int .i64 0, .int .i64 0] ++ ((List.replicate 32 (0 : Int)).map (Value.int .u8) ++ [.slice none 0 0, .int .i64 0, .int .i64 0, .int .i64 0])) (c := [.int .i64 r28, .int .i64 r40] ++ (r52.map (Value.int .u8) ++ [.slice A67 n69 c68, .int .i64 r83, .int .i64 r95, .int .i64 r107])) (.put (us := [.int .i64 r28]) rfl rfl rfl (Put.left (Put.lit 0 rfl)) (.put (us := [.int .i64 r40]) rfl rfl rfl (Put.left (Put.lit 1 rfl)) (.put (us := r52.map (Value.int .u8)) rfl rfl (len_map ha54) (Put.skip 2 0 rfl (Put.here 32 (len_map (List.length_replicate ..)) (len_map ha54))) (.put (us := [.slice A67 n69 c68]) rfl rfl rfl (Put.skip 2 32 rfl (Put.skip 32 0 (len_map ha54) (Put.lit 0 rfl))) (.put (us := [.int .i64 r83]) rfl rfl rfl (Put.skip 2 33 rfl (Put.skip 32 1 (len_map ha54) (Put.lit 1 rfl))) (.put (us := [.int .i64 r95]) rfl rfl rfl (Put.skip 2 34 rfl (Put.skip 32 2 (len_map ha54) (Put.lit 2 rfl))) (.put (us := [.int .i64 r107]) rfl rfl rfl (Put.skip 2 35 rfl (Put.skip 32 3 (len_map ha54) (Put.lit 3 rfl))) .nil))))))))) ?_
 obtain ⟨g118, w119, hy120, C121⟩ := ev_alloc (P := Tryz.prog) (e := 26) q1 C117 zr26 rfl
 refine WL.val (hy120 _ _) ?_
 obtain ⟨w122, hy123, C124⟩ := ev_put (P := Tryz.prog) (ps1 := []) (ps2 := [CH.row g16 o17 q9, p71, CH.row g8 0 q1]) (t := 26) q10 (.agg (List.toArray q10)) C121 (Put.all 38 (len_app rfl (len_app (len_map (List.length_replicate ..)) rfl)) (len_app rfl (len_app (len_map ha54) rfl))) rfl (ones_append (ones_of rfl) (ones_append (one_ints _ _) (ones_of rfl))) (sz_of sz26 (len_app rfl (len_app (len_map ha54) rfl)))
 have C125 : Ctx _ _ _ _ _ [CH.row g118 0 q10, CH.row g16 o17 q9, p71, CH.row g8 0 q1] := C124
 refine WL.skip (hy123 _ _ _ _ rfl rfl) ?_
 refine WL.done ?_
 refine W.seq ?_
 refine W.seq ?_
 refine W.region rfl ?_
 refine WL.run to 1 rfl ?_
 have C126 : Ctx _ _ _ _ _ [CH.row g16 o17 q9, CH.row g118 0 q10, p71, CH.row g8 0 q1] := Ctx.pick [1, 0, 2, 3] C125 rfl
 obtain ⟨⟨r128, r129⟩, hg127, H⟩ := bindE H
 refine WL.callH (wire_Reader_End.calls k _ F14 g16 o17 A109 c110 n111 r108 (Ctx.pre (qs := [CH.row g16 o17 q9]) (rest := [CH.row g118 0 q10, p71, CH.row g8 0 q1]) C126) hn112 hl113 hm114 hS115 r128 r129 hg127) (Yenter.fn Tryz.func34 (by kernel_rfl) rfl (argsE (.cons rfl .nil))) ?_
 rintro e_ w_ ⟨A130, c131, n132, rfl, C137, hn133, hl134, hm135, hS136⟩
 refine ⟨_, rfl, ?_⟩
 let q11 : List Go.Value := [.slice A130 n132 c131, .int .i64 r129.at_, .int .i64 r129.e]
 have C138 : Ctx _ _ _ _ _ [CH.row g16 o17 q11, CH.row g118 0 q10, p71, CH.row g8 0 q1] := Ctx.call (qs := [CH.row g16 o17 q9]) (rest := [CH.row g118 0 q10, p71, CH.row g8 0 q1]) C126 C137
 refine WL.run to 1 rfl ?_
 refine WL.done ?_
 refine W.seq ?_
 refine W.region rfl ?_
 refine WL.run to 2 rfl ?_
 refine WL.done ?_
 rcases iteE H with ⟨hc139, H⟩ | ⟨hc139, H⟩
 ·refine W.condF (congrArg Value.bool (ndec_t hc139)) ?_
  refine W.skip ?_
  refine W.seq ?_
  refine W.seq ?_
  refine W.region rfl ?_
  refine WL.val (Yl.loadVA (g := g118) (off := 0) (o := 0) (cs := q10) (us := q10) rfl Tryz.underlying26 rfl (sz_of sz26 (len_app rfl (len_app (len_map ha54) rfl))) (Ctx.subI 1 C138 rfl) (take_all _)) ?_
  obtain ⟨F140, le141, lp142, C143⟩ := Ctx.fzI 2 C138 rfl
  replace C143 : Ctx _ _ _ _ _ [CH.row g16 o17 q11, CH.row g118 0 q10, CH.row g8 0 q1] := C143
  obtain ⟨r145, hg144, H⟩ := bindE H
  refine WL.callH (docket_may.calls k _ F140 A67 c68 n69 (⟨r28, r40, r52, r65, r83, r95, r107⟩ : TRecord) (Ctx.pre (qs := []) (rest := [CH.row g16 o17 q11, CH.row g118 0 q10, CH.row g8 0 q1]) C143) ha54 hn70 (Row.len_le hR72).1 (Row.len_le hR72).2.1 (Sl.mono (Row.sl hR72) le141 lp142) r145 hg144) (Yenter.fn Tryz.func22 (by kernel_rfl) rfl (argsE (.cons rfl .nil))) ?_
  rintro e_ w_ ⟨rfl, C146⟩
  refine ⟨_, rfl, ?_⟩
  have C147 : Ctx _ _ _ _ _ [CH.row g16 o17 q11, CH.row g118 0 q10, p71, CH.row g8 0 q1] := Ctx.callL (qs := []) (rest := [CH.row g16 o17 q11, CH.row g118 0 q10, p71, CH.row g8 0 q1]) C138 le141 C146
  refine WL.run to 1 rfl ?_
  refine WL.done ?_
  rcases iteE H with ⟨hc148, H⟩ | ⟨hc148, H⟩
  ·refine W.condF (congrArg Value.bool (nb_t hc148)) ?_
   refine W.skip ?_
   refine W.seq ?_
   refine W.region rfl ?_
   refine WL.val (Yl.loadVA (g := g118) (off := 0) (o := 0) (cs := q10) (us := q10) rfl Tryz.underlying26 rfl (sz_of sz26 (len_app rfl (len_app (len_map ha54) rfl))) (Ctx.subI 1 C147 rfl) (take_all _)) ?_
   obtain ⟨w149, hy150, C151⟩ := ev_put (P := Tryz.prog) (ps1 := [CH.row g16 o17 q11, CH.row g118 0 q10, p71]) (ps2 := []) (t := 26) q10 (.agg (List.toArray q10)) C147 (Put.all 38 (len_app rfl (len_app (len_map (List.length_replicate ..)) rfl)) (len_app rfl (len_app (len_map ha54) rfl))) rfl (ones_append (ones_of rfl) (ones_append (one_ints _ _) (ones_of rfl))) (sz_of sz26 (len_app rfl (len_app (len_map ha54) rfl)))
   have C152 : Ctx _ _ _ _ _ [CH.row g16 o17 q11, CH.row g118 0 q10, p71, CH.row g8 0 q10] := C151
   refine WL.skip (hy150 _ _ _ _ rfl rfl) ?_
   refine WL.run to 1 rfl ?_
   refine WL.done ?_
   refine W.ret ?_
   have C153 : Ctx _ _ _ _ _ [p71] := Ctx.pick [2] C152 rfl
   simp only [Option.some.injEq, Prod.mk.injEq] at H
   obtain ⟨e154, e155⟩ := H
   subst e154 e155
   exact post_r (resET rfl ((.cell rfl (run_loadVA2 (g := g8) (off := 0) (o := 0) (cs := q10) (us := q10) Tryz.underlying26 rfl (sz_of sz26 (len_app rfl (len_app (len_map ha54) rfl))) (Ctx.subI 3 C152 rfl) (take_all _)) (.tmp rfl .nil))) rfl) ⟨A67, c68, n69, p71, rfl, (Ctx.weak C153 (CH.le_refl _)), ha54, hn70, hR72⟩
  ·refine W.condT (congrArg Value.bool (nb_f hc148)) ?_
   refine W.seq ?_
   refine W.region rfl ?_
   refine WL.val (Yl.build (places := [(0, 1), (1, 1), (2, 32), (34, 1), (35, 1), (36, 1), (37, 1)]) (cs := List.toArray q1) Tryz.underlying26 zr26 (pl26 _ Tryz.underlying26) (partsB .nil) (Fills.run (a := [.int .i64 0, .int .i64 0] ++ ((List.replicate 32 (0 : Int)).map (Value.int .u8) ++ [.slice none 0 0, .int .i64 0, .int .i64 0, .int .i64 0])) (c := [.int .i64 0, .int .i64 0] ++ ((List.replicate 32 (0 : Int)).map (Value.int .u8) ++ [.slice none 0 0, .int .i64 0, .int .i64 0, .int .i64 0])) .nil)) ?_
   obtain ⟨w156, hy157, C158⟩ := ev_put (P := Tryz.prog) (ps1 := [CH.row g16 o17 q11, CH.row g118 0 q10, p71]) (ps2 := []) (t := 26) q1 (.agg (List.toArray q1)) C147 (Put.all 38 (len_app rfl (len_app (len_map (List.length_replicate ..)) rfl)) (len_app rfl (len_app (len_map (List.length_replicate ..)) rfl))) rfl (ones_append (ones_of rfl) (ones_append (one_ints _ _) (ones_of rfl))) (sz_of sz26 (len_app rfl (len_app (len_map (List.length_replicate ..)) rfl)))
   have C159 : Ctx _ _ _ _ _ [CH.row g16 o17 q11, CH.row g118 0 q10, p71, CH.row g8 0 q1] := C158
   refine WL.skip (hy157 _ _ _ _ rfl rfl) ?_
   refine WL.run to 1 rfl ?_
   refine WL.done ?_
   refine W.ret ?_
   refine thenE_r ?_
   have C160 : Ctx _ _ _ _ _ [CH.emp] := Ctx.pick [4] C159 rfl
   simp only [Option.some.injEq, Prod.mk.injEq] at H
   obtain ⟨e161, e162⟩ := H
   subst e161 e162
   exact post_r (resET rfl ((.cell rfl (run_loadVA2 (g := g8) (off := 0) (o := 0) (cs := q1) (us := q1) Tryz.underlying26 rfl (sz_of sz26 (len_app rfl (len_app (len_map (List.length_replicate ..)) rfl))) (Ctx.subI 3 C159 rfl) (take_all _)) (.tmp rfl .nil))) rfl) ⟨none, 0, 0, CH.emp, rfl, (Ctx.weak C160 (CH.le_refl _)), (List.length_replicate ..), rfl, (Row.nil _ _)⟩
 ·refine W.condT (congrArg Value.bool (ndec_f hc139)) ?_
  refine W.seq ?_
  refine W.region rfl ?_
  refine WL.val (Yl.build (places := [(0, 1), (1, 1), (2, 32), (34, 1), (35, 1), (36, 1), (37, 1)]) (cs := List.toArray q1) Tryz.underlying26 zr26 (pl26 _ Tryz.underlying26) (partsB .nil) (Fills.run (a := [.int .i64 0, .int .i64 0] ++ ((List.replicate 32 (0 : Int)).map (Value.int .u8) ++ [.slice none 0 0, .int .i64 0, .int .i64 0, .int .i64 0])) (c := [.int .i64 0, .int .i64 0] ++ ((List.replicate 32 (0 : Int)).map (Value.int .u8) ++ [.slice none 0 0, .int .i64 0, .int .i64 0, .int .i64 0])) .nil)) ?_
  refine WL.run to 1 rfl ?_
  obtain ⟨w163, hy164, C165⟩ := ev_put (P := Tryz.prog) (ps1 := [CH.row g16 o17 q11, CH.row g118 0 q10, p71]) (ps2 := []) (t := 26) q1 (.agg (List.toArray q1)) C138 (Put.all 38 (len_app rfl (len_app (len_map (List.length_replicate ..)) rfl)) (len_app rfl (len_app (len_map (List.length_replicate ..)) rfl))) rfl (ones_append (ones_of rfl) (ones_append (one_ints _ _) (ones_of rfl))) (sz_of sz26 (len_app rfl (len_app (len_map (List.length_replicate ..)) rfl)))
  have C166 : Ctx _ _ _ _ _ [CH.row g16 o17 q11, CH.row g118 0 q10, p71, CH.row g8 0 q1] := C165
  refine WL.skip (hy164 _ _ _ _ rfl rfl) ?_
  refine WL.run to 1 rfl ?_
  refine WL.done ?_
  refine W.ret ?_
  refine thenE_r ?_
  have C167 : Ctx _ _ _ _ _ [CH.emp] := Ctx.pick [4] C166 rfl
  simp only [Option.some.injEq, Prod.mk.injEq] at H
  obtain ⟨e168, e169⟩ := H
  subst e168 e169
  exact post_r (resET rfl ((.cell rfl (run_loadVA2 (g := g8) (off := 0) (o := 0) (cs := q1) (us := q1) Tryz.underlying26 rfl (sz_of sz26 (len_app rfl (len_app (len_map (List.length_replicate ..)) rfl))) (Ctx.subI 3 C166 rfl) (take_all _)) (.tmp rfl .nil))) rfl) ⟨none, 0, 0, CH.emp, rfl, (Ctx.weak C167 (CH.le_refl _)), (List.length_replicate ..), rfl, (Row.nil _ _)⟩
end Go.Proofs.YtobdpbnadjkhiaaGreat
