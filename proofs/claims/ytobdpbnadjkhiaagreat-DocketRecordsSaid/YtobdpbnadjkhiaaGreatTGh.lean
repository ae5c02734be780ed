/- Functions of the program: each as a plain function of numbers and lists, and the proof that the program's own comes to it. Nothing is assumed but what each theorem says. -/
import Derived.Test.YtobdpbnadjkhiaaGreatTGf
namespace Go.Proofs.YtobdpbnadjkhiaaGreat
open Go.RowKit Go.WG
set_option linter.unusedVariables false
set_option linter.unusedSimpArgs false
def juratlaw21_awake.l1 : Nat → Int → Int → TState → Option (Int × TState)
  | 0, _, _, _ => none
  | k + 1, x571, x575, x576 => if x575 < ([(⟨1, 1, (List.replicate 32 (0 : Int)), ([] : List Int), 0, 0, 0⟩ : TRecord), (⟨2, 0, (List.replicate 32 (0 : Int)), ([] : List Int), 0, 0, 0⟩ : TRecord), (⟨3, 0, (List.replicate 32 (0 : Int)), ([] : List Int), 1, 9, 0⟩ : TRecord), (⟨4, 0, (List.replicate 32 (0 : Int)), [7], 1, 0, 0⟩ : TRecord)].length : Int) then (if 0 ≤ x575 ∧ x575 < ([(⟨1, 1, (List.replicate 32 (0 : Int)), ([] : List Int), 0, 0, 0⟩ : TRecord), (⟨2, 0, (List.replicate 32 (0 : Int)), ([] : List Int), 0, 0, 0⟩ : TRecord), (⟨3, 0, (List.replicate 32 (0 : Int)), ([] : List Int), 1, 9, 0⟩ : TRecord), (⟨4, 0, (List.replicate 32 (0 : Int)), [7], 1, 0, 0⟩ : TRecord)].length : Int) then (if x571 = 0 then ((docket_Apply.f k (⟨0, 1, 0, 1, 1, 1, 0⟩ : TConfig) x576 ([(⟨1, 1, (List.replicate 32 (0 : Int)), ([] : List Int), 0, 0, 0⟩ : TRecord), (⟨2, 0, (List.replicate 32 (0 : Int)), ([] : List Int), 0, 0, 0⟩ : TRecord), (⟨3, 0, (List.replicate 32 (0 : Int)), ([] : List Int), 1, 9, 0⟩ : TRecord), (⟨4, 0, (List.replicate 32 (0 : Int)), [7], 1, 0, 0⟩ : TRecord)].getD x575.toNat TRecord.z)).bind fun ⟨r770, r771⟩ => juratlaw21_awake.l1 k r771 (wi64 (x575 + 1)) r770) else (juratlaw21_awake.l1 k x571 (wi64 (x575 + 1)) x576)) else none) else (some (x571, x576))
def juratlaw21_awake.f (k : Nat)  : Option Bool := (docket_New.f k (⟨0, 1, 0, 1, 1, 1, 0⟩ : TConfig)).bind fun ⟨r10, r11⟩ => (juratlaw21_awake.l1 k r11 0 r10).bind fun ⟨x429, x430⟩ => (if x429 = 0 then (if (x430.Jobs.length : Int) = 1 then (if 0 ≤ (0 : Int) ∧ (0 : Int) < (x430.Jobs.length : Int) then (if ((x430.Jobs.getD (0 : Int).toNat TJob.z).State) = 3 then (if (((x430.Jobs.getD (0 : Int).toNat TJob.z).Value).length : Int) = 1 then ((docket_Epoch.f k x430).bind fun r924 => some (decide (r924 = 1))) else (some false)) else (some false)) else none) else (some false)) else (some false)).bind fun x866 => some x866
set_option maxRecDepth 100000 in
set_option maxHeartbeats 4000000 in
theorem juratlaw21_awake.calls (k : Nat) (w : World) (F : CH)  (hp : Pre w F [])  (r0_ : Bool) (H : juratlaw21_awake.f k  = some r0_) :
    Calls Tryz.prog 5 #[] w fun e w' => e = .returned (.bool r0_) ∧ Ctx w F (domL []) w' F [] := by
 have C := Ctx.start hp
 generalize hD : domL [] = D at C ⊢
 unfold juratlaw21_awake.f at H
 refine Calls.ofW Tryz.func5 rfl (by simp [Tryz.ntmps5]) ?_
 refine W.seq ?_
 refine W.region rfl ?_
 refine WL.run to 1 rfl ?_
 refine WL.done ?_
 refine W.seq ?_
 refine W.region rfl ?_
 let q2 : List Go.Value := [.int .i64 0, .int .i64 1, .int .i64 0, .int .i64 1, .int .i64 1, .int .i64 1, .int .i64 0]
 refine WL.val (Yl.build (places := [(0, 1), (1, 1), (2, 1), (3, 1), (4, 1), (5, 1), (6, 1)]) (cs := List.toArray q2) Tryz.underlying42 zr42 (pl42 _ Tryz.underlying42) (partsB (.cons rfl (.cons rfl (.cons rfl (.cons rfl .nil))))) rfl) ?_
 let q3 : List Go.Value := [.int .i64 0, .int .i64 0, .int .i64 0, .int .i64 0, .int .i64 0, .int .i64 0, .int .i64 0]
 obtain ⟨g1, w2, hy3, C4⟩ := ev_alloc (P := Tryz.prog) (e := 42) q3 C zr42 rfl
 refine WL.val (hy3 _ _) ?_
 obtain ⟨w5, hy6, C7⟩ := ev_setI (P := Tryz.prog) (ps1 := []) (ps2 := []) (t := 42) 0 q2 (.agg (List.toArray q2)) C4 rfl rfl (ones_of rfl) sz42
 have C8 : Ctx _ _ _ _ _ [CH.row g1 0 q2] := C7
 refine WL.skip (hy6 _ _ _ _ rfl rfl) ?_
 refine WL.done ?_
 refine W.seq ?_
 refine W.region rfl ?_
 refine WL.val (Yl.loadVA (g := g1) (off := 0) (o := 0) (cs := q2) (us := q2) rfl Tryz.underlying42 rfl sz42 (Ctx.subI 0 C8 rfl) rfl) ?_
 obtain ⟨⟨r10, r11⟩, hg9, H⟩ := bindE H
 refine WL.callH (docket_New.calls k _ F (⟨0, 1, 0, 1, 1, 1, 0⟩ : TConfig) (Ctx.pre (qs := []) (rest := [CH.row g1 0 q2]) C8)  r10 r11 hg9) (Yenter.fn Tryz.func14 (by kernel_rfl) rfl (argsE (.cons rfl .nil))) ?_
 rintro e_ w_ ⟨A12, c13, n14, p16, A18, c19, n20, p22, A24, c25, n26, p28, A30, c31, n32, p34, rfl, C36, hn15, hR17, hn21, hR23, hn27, hR29, hn33, hR35⟩
 refine ⟨_, rfl, ?_⟩
 have C37 : Ctx _ _ _ _ _ [p16, p22, p28, p34, CH.row g1 0 q2] := Ctx.call (qs := []) (rest := [CH.row g1 0 q2]) C8 C36
 refine WL.run to 3 rfl ?_
 let q4 : List Go.Value := [.slice none 0 0, .slice none 0 0, .slice none 0 0, .slice none 0 0, .int .i64 0]
 obtain ⟨g38, w39, hy40, C41⟩ := ev_alloc (P := Tryz.prog) (e := 50) q4 C37 zr50 rfl
 refine WL.val (hy40 _ _) ?_
 let q5 : List Go.Value := [.slice A12 n14 c13, .slice A18 n20 c19, .slice A24 n26 c25, .slice A30 n32 c31, .int .i64 r10.Heads]
 obtain ⟨w42, hy43, C44⟩ := ev_setI (P := Tryz.prog) (ps1 := []) (ps2 := [p16, p22, p28, p34, CH.row g1 0 q2]) (t := 50) 0 q5 (.agg (List.toArray q5)) C41 rfl rfl (ones_of rfl) sz50
 have C45 : Ctx _ _ _ _ _ [CH.row g38 0 q5, p16, p22, p28, p34, CH.row g1 0 q2] := C44
 refine WL.skip (hy43 _ _ _ _ rfl rfl) ?_
 refine WL.run to 1 rfl ?_
 refine WL.done ?_
 refine W.seq ?_
 refine W.seq ?_
 refine W.region rfl ?_
 let q6 : List Go.Value := [.int .i64 1, .int .i64 1] ++ ((List.replicate 32 (0 : Int)).map (Value.int .u8) ++ [.slice none 0 0, .int .i64 0, .int .i64 0, .int .i64 0])
 refine WL.val (Yl.build (places := [(0, 1), (1, 1), (2, 32), (34, 1), (35, 1), (36, 1), (37, 1)]) (cs := List.toArray q6) Tryz.underlying26 zr26 (pl26 _ Tryz.underlying26) (partsB (.cons rfl (.cons rfl .nil))) (Fills.run (a := [.int .i64 0, .int .i64 0] ++ ((List.replicate 32 (0 : Int)).map (Value.int .u8) ++ [.slice none 0 0, .int .i64 0, .int .i64 0, .int .i64 0])) (c := [.int .i64 1, .int .i64 1] ++ ((List.replicate 32 (0 : Int)).map (Value.int .u8) ++ [.slice none 0 0, .int .i64 0, .int .i64 0, .int .i64 0])) (.put (us := [.int .i64 1]) rfl rfl rfl (Put.left (Put.lit 0 rfl)) (.put (us := [.int .i64 1]) rfl rfl rfl (Put.left (Put.lit 1 rfl)) .nil)))) ?_
 let q7 : List Go.Value := [.int .i64 2, .int .i64 0] ++ ((List.replicate 32 (0 : Int)).map (Value.int .u8) ++ [.slice none 0 0, .int .i64 0, .int .i64 0, .int .i64 0])
 refine WL.val (Yl.build (places := [(0, 1), (1, 1), (2, 32), (34, 1), (35, 1), (36, 1), (37, 1)]) (cs := List.toArray q7) Tryz.underlying26 zr26 (pl26 _ Tryz.underlying26) (partsB (.cons rfl .nil)) (Fills.run (a := [.int .i64 0, .int .i64 0] ++ ((List.replicate 32 (0 : Int)).map (Value.int .u8) ++ [.slice none 0 0, .int .i64 0, .int .i64 0, .int .i64 0])) (c := [.int .i64 2, .int .i64 0] ++ ((List.replicate 32 (0 : Int)).map (Value.int .u8) ++ [.slice none 0 0, .int .i64 0, .int .i64 0, .int .i64 0])) (.put (us := [.int .i64 2]) rfl rfl rfl (Put.left (Put.lit 0 rfl)) .nil))) ?_
 let q8 : List Go.Value := [.int .i64 3, .int .i64 0] ++ ((List.replicate 32 (0 : Int)).map (Value.int .u8) ++ [.slice none 0 0, .int .i64 1, .int .i64 9, .int .i64 0])
 refine WL.val (Yl.build (places := [(0, 1), (1, 1), (2, 32), (34, 1), (35, 1), (36, 1), (37, 1)]) (cs := List.toArray q8) Tryz.underlying26 zr26 (pl26 _ Tryz.underlying26) (partsB (.cons rfl (.cons rfl (.cons rfl .nil)))) (Fills.run (a := [.int .i64 0, .int .i64 0] ++ ((List.replicate 32 (0 : Int)).map (Value.int .u8) ++ [.slice none 0 0, .int .i64 0, .int .i64 0, .int .i64 0])) (c := [.int .i64 3, .int .i64 0] ++ ((List.replicate 32 (0 : Int)).map (Value.int .u8) ++ [.slice none 0 0, .int .i64 1, .int .i64 9, .int .i64 0])) (.put (us := [.int .i64 3]) rfl rfl rfl (Put.left (Put.lit 0 rfl)) (.put (us := [.int .i64 1]) rfl rfl rfl (Put.skip 2 33 rfl (Put.skip 32 1 (len_map (List.length_replicate ..)) (Put.lit 1 rfl))) (.put (us := [.int .i64 9]) rfl rfl rfl (Put.skip 2 34 rfl (Put.skip 32 2 (len_map (List.length_replicate ..)) (Put.lit 2 rfl))) .nil))))) ?_
 obtain ⟨A46, c47, n48, p49, w50, hn51, hy52, C53, hR54⟩ := ev_lit1' (P := Tryz.prog) 5 (Kd.int .u8) C45 Tryz.underlying24 ti5 ⟨by decide, by decide⟩ 7 (.int .u8 7) rfl
 refine WL.val (hy52 _ _ _ rfl) ?_
 let q9 : List Go.Value := [.int .i64 4, .int .i64 0] ++ ((List.replicate 32 (0 : Int)).map (Value.int .u8) ++ [.slice A46 n48 c47, .int .i64 1, .int .i64 0, .int .i64 0])
 refine WL.val (Yl.build (places := [(0, 1), (1, 1), (2, 32), (34, 1), (35, 1), (36, 1), (37, 1)]) (cs := List.toArray q9) Tryz.underlying26 zr26 (pl26 _ Tryz.underlying26) (partsB (.cons rfl (.cons rfl (.cons rfl .nil)))) (Fills.run (a := [.int .i64 0, .int .i64 0] ++ ((List.replicate 32 (0 : Int)).map (Value.int .u8) ++ [.slice none 0 0, .int .i64 0, .int .i64 0, .int .i64 0])) (c := [.int .i64 4, .int .i64 0] ++ ((List.replicate 32 (0 : Int)).map (Value.int .u8) ++ [.slice A46 n48 c47, .int .i64 1, .int .i64 0, .int .i64 0])) (.put (us := [.int .i64 4]) rfl rfl rfl (Put.left (Put.lit 0 rfl)) (.put (us := [.int .i64 1]) rfl rfl rfl (Put.skip 2 33 rfl (Put.skip 32 1 (len_map (List.length_replicate ..)) (Put.lit 1 rfl))) (.put (us := [.slice A46 n48 c47]) rfl rfl rfl (Put.skip 2 32 rfl (Put.skip 32 0 (len_map (List.length_replicate ..)) (Put.lit 0 rfl))) .nil))))) ?_
 obtain ⟨F55, le56, lp57, (C58 : Ctx _ _ _ _ _ [CH.row g38 0 q5, p16, p22, p28, p34, CH.row g1 0 q2])⟩ := Ctx.fzI 0 C53 rfl
 obtain ⟨hl59, hm60, hS61⟩ := Row.fz hR54 le56 lp57
 have hR62 := Row.mono hR17 le56
 have hR63 := Row.mono hR23 le56
 have hR64 := Row.mono hR29 le56
 have hR65 := Row.mono hR35 le56
 let q10 : List Go.Value := [.agg (List.toArray ([.int .i64 1, .int .i64 1] ++ ((List.replicate 32 (0 : Int)).map (Value.int .u8) ++ [.slice none 0 0, .int .i64 0, .int .i64 0, .int .i64 0]))), .agg (List.toArray ([.int .i64 2, .int .i64 0] ++ ((List.replicate 32 (0 : Int)).map (Value.int .u8) ++ [.slice none 0 0, .int .i64 0, .int .i64 0, .int .i64 0]))), .agg (List.toArray ([.int .i64 3, .int .i64 0] ++ ((List.replicate 32 (0 : Int)).map (Value.int .u8) ++ [.slice none 0 0, .int .i64 1, .int .i64 9, .int .i64 0]))), .agg (List.toArray ([.int .i64 4, .int .i64 0] ++ ((List.replicate 32 (0 : Int)).map (Value.int .u8) ++ [.slice A46 n48 c47, .int .i64 1, .int .i64 0, .int .i64 0])))]
 obtain ⟨A66, c67, n68, p69, w70, hn71, hy72, C73, hR74⟩ := ev_lit' (P := Tryz.prog) 26 TRecord.K C58 Tryz.underlying43 ti26 (by decide) [(⟨1, 1, (List.replicate 32 (0 : Int)), ([] : List Int), 0, 0, 0⟩ : TRecord), (⟨2, 0, (List.replicate 32 (0 : Int)), ([] : List Int), 0, 0, 0⟩ : TRecord), (⟨3, 0, (List.replicate 32 (0 : Int)), ([] : List Int), 1, 9, 0⟩ : TRecord), (⟨4, 0, (List.replicate 32 (0 : Int)), [7], 1, 0, 0⟩ : TRecord)] q10 (.cons (TRecord.mk' _ (⟨1, 1, (List.replicate 32 (0 : Int)), ([] : List Int), 0, 0, 0⟩ : TRecord) none 0 0 (List.length_replicate ..) rfl (Nat.le_refl _) (Nat.zero_le _) (Sl.nil _ _ _ _)) (.cons (TRecord.mk' _ (⟨2, 0, (List.replicate 32 (0 : Int)), ([] : List Int), 0, 0, 0⟩ : TRecord) none 0 0 (List.length_replicate ..) rfl (Nat.le_refl _) (Nat.zero_le _) (Sl.nil _ _ _ _)) (.cons (TRecord.mk' _ (⟨3, 0, (List.replicate 32 (0 : Int)), ([] : List Int), 1, 9, 0⟩ : TRecord) none 0 0 (List.length_replicate ..) rfl (Nat.le_refl _) (Nat.zero_le _) (Sl.nil _ _ _ _)) (.cons (TRecord.mk' _ (⟨4, 0, (List.replicate 32 (0 : Int)), [7], 1, 0, 0⟩ : TRecord) A46 c47 n48 (List.length_replicate ..) hn51 hl59 hm60 hS61) .nil)))) 4 rfl (by decide) (by decide)
 refine WL.val (hy72 _ [(.tmp 12), (.tmp 13), (.tmp 14), (.tmp 16)] _ (.cons rfl (.cons rfl (.cons rfl (.cons rfl .nil))))) ?_
 refine WL.val (Yl.lenN (A := A66) (l := n68) (q := c67) (n := ([(⟨1, 1, (List.replicate 32 (0 : Int)), ([] : List Int), 0, 0, 0⟩ : TRecord), (⟨2, 0, (List.replicate 32 (0 : Int)), ([] : List Int), 0, 0, 0⟩ : TRecord), (⟨3, 0, (List.replicate 32 (0 : Int)), ([] : List Int), 1, 9, 0⟩ : TRecord), (⟨4, 0, (List.replicate 32 (0 : Int)), [7], 1, 0, 0⟩ : TRecord)].length : Int)) rfl Tryz.underlying43 (by omega)) ?_
 refine WL.run to 1 rfl ?_
 refine WL.done ?_
 obtain ⟨⟨x429, x430⟩, hX456, H⟩ := bindE H
 refine W.cutM (fun env_ w_ => ∃ (F425 : CH) (A431 : Option Addr) (c432 : Nat) (n433 : Nat) (p435 : CH) (A437 : Option Addr) (c438 : Nat) (n439 : Nat) (p441 : CH) (A443 : Option Addr) (c444 : Nat) (n445 : Nat) (p447 : CH) (A449 : Option Addr) (c450 : Nat) (n451 : Nat) (p453 : CH), env_ 2 = .pointer (some ⟨g38, 0, none⟩) ∧ env_ 3 = .int .i64 x429 ∧ Ctx w F D w_ F425 [CH.row g38 0 [.slice A431 n433 c432, .slice A437 n439 c438, .slice A443 n445 c444, .slice A449 n451 c450, .int .i64 x430.Heads], p435, p441, p447, p453, p69, CH.row g1 0 q2] ∧ CH.le F55 F425 ∧ n433 = x430.Eras.length ∧ Row TEra.K F425 p435 (.slice A431 n433 c432) x430.Eras ∧ n439 = x430.Jobs.length ∧ Row TJob.K F425 p441 (.slice A437 n439 c438) x430.Jobs ∧ n445 = x430.Used.length ∧ Row (Kd.int .i64) F425 p447 (.slice A443 n445 c444) x430.Used ∧ n451 = x430.Barred.length ∧ Row Kd.bool F425 p453 (.slice A449 n451 c450) x430.Barred) ?_ ?_
 ·refine W.block ?_
  have C703 : Ctx _ _ _ _ _ [CH.row g38 0 q5, p16, p22, p28, p34, p69, CH.row g1 0 q2] := Ctx.pick [1, 2, 3, 4, 5, 0, 6] C73 rfl
  refine W.loop (fun g_ env_ w_ => ∃ (x571 : Int) (x575 : Int) (x576 : TState) (F566 : CH) (A577 : Option Addr) (c578 : Nat) (n579 : Nat) (p581 : CH) (A583 : Option Addr) (c584 : Nat) (n585 : Nat) (p587 : CH) (A589 : Option Addr) (c590 : Nat) (n591 : Nat) (p593 : CH) (A595 : Option Addr) (c596 : Nat) (n597 : Nat) (p599 : CH), env_ 1 = .pointer (some ⟨g1, 0, none⟩) ∧ env_ 2 = .pointer (some ⟨g38, 0, none⟩) ∧ env_ 3 = .int .i64 x571 ∧ env_ 17 = .slice A66 n68 c67 ∧ env_ 18 = .int .i64 ([(⟨1, 1, (List.replicate 32 (0 : Int)), ([] : List Int), 0, 0, 0⟩ : TRecord), (⟨2, 0, (List.replicate 32 (0 : Int)), ([] : List Int), 0, 0, 0⟩ : TRecord), (⟨3, 0, (List.replicate 32 (0 : Int)), ([] : List Int), 1, 9, 0⟩ : TRecord), (⟨4, 0, (List.replicate 32 (0 : Int)), [7], 1, 0, 0⟩ : TRecord)].length : Int) ∧ env_ 19 = .int .i64 x575 ∧ Ctx w F D w_ F566 [CH.row g38 0 [.slice A577 n579 c578, .slice A583 n585 c584, .slice A589 n591 c590, .slice A595 n597 c596, .int .i64 x576.Heads], p581, p587, p593, p599, p69, CH.row g1 0 q2] ∧ CH.le F55 F566 ∧ n579 = x576.Eras.length ∧ Row TEra.K F566 p581 (.slice A577 n579 c578) x576.Eras ∧ n585 = x576.Jobs.length ∧ Row TJob.K F566 p587 (.slice A583 n585 c584) x576.Jobs ∧ n591 = x576.Used.length ∧ Row (Kd.int .i64) F566 p593 (.slice A589 n591 c590) x576.Used ∧ n597 = x576.Barred.length ∧ Row Kd.bool F566 p599 (.slice A595 n597 c596) x576.Barred ∧ juratlaw21_awake.l1 g_ x571 x575 x576 = some (x429, x430)) k ⟨r11, 0, r10, F55, A12, c13, n14, p16, A18, c19, n20, p22, A24, c25, n26, p28, A30, c31, n32, p34, rfl, rfl, rfl, rfl, rfl, rfl, C703, (CH.le_refl _), hn15, hR62, hn21, hR63, hn27, hR64, hn33, hR65, hX456⟩ ?_
  clear hX456
  rintro g_ env_ w_ ⟨x571, x575, x576, F566, A577, c578, n579, p581, A583, c584, n585, p587, A589, c590, n591, p593, A595, c596, n597, p599, ho568, ho569, ho570, ho572, ho573, ho574, C601, le567, hn580, hR582, hn586, hR588, hn592, hR594, hn598, hR600, hX456⟩
  rcases g_ with _ | k702
  · exact absurd hX456 (by simp [juratlaw21_awake.l1])
  rw [juratlaw21_awake.l1] at hX456
  have hR704 := Row.mono hR74 le567
  apply kn env_ (.c ho568 (.c ho569 (.c ho570 (.c ho572 (.c ho573 (.c ho574 .n))))))
  refine W.seq ?_
  refine W.region rfl ?_
  refine WL.run to 1 rfl ?_
  refine WL.done ?_
  refine W.seq ?_
  rcases iteE hX456 with ⟨hc705, hX456⟩ | ⟨hc705, hX456⟩
  ·refine W.condT (congrArg Value.bool (decide_eq_true hc705)) ?_
   refine W.skip ?_
   refine W.seq ?_
   refine W.block ?_
   refine W.seq ?_
   refine W.region rfl ?_
   obtain ⟨hc706, hX456⟩ := guardE hX456
   obtain ⟨b707, of708, hA709, he710⟩ := (Row.sl hR704) (by omega)
   refine WL.val (Yl.elemAddr (i := x575) rfl rfl hA709 Tryz.underlying43 sz26 (by omega)) ?_
   obtain ⟨cs711, hr712, hx713⟩ := he710 x575.toNat _ (getD_some (d := TRecord.z) (by omega))
   obtain ⟨A715, c716, n717, rfl, ha714, hn718, hl719, hm720, hS721⟩ := TRecord.open hr712
   let q11 : List Go.Value := [.int .i64 (([(⟨1, 1, (List.replicate 32 (0 : Int)), ([] : List Int), 0, 0, 0⟩ : TRecord), (⟨2, 0, (List.replicate 32 (0 : Int)), ([] : List Int), 0, 0, 0⟩ : TRecord), (⟨3, 0, (List.replicate 32 (0 : Int)), ([] : List Int), 1, 9, 0⟩ : TRecord), (⟨4, 0, (List.replicate 32 (0 : Int)), [7], 1, 0, 0⟩ : TRecord)].getD x575.toNat TRecord.z).Kind), .int .i64 (([(⟨1, 1, (List.replicate 32 (0 : Int)), ([] : List Int), 0, 0, 0⟩ : TRecord), (⟨2, 0, (List.replicate 32 (0 : Int)), ([] : List Int), 0, 0, 0⟩ : TRecord), (⟨3, 0, (List.replicate 32 (0 : Int)), ([] : List Int), 1, 9, 0⟩ : TRecord), (⟨4, 0, (List.replicate 32 (0 : Int)), [7], 1, 0, 0⟩ : TRecord)].getD x575.toNat TRecord.z).Epoch)] ++ ((([(⟨1, 1, (List.replicate 32 (0 : Int)), ([] : List Int), 0, 0, 0⟩ : TRecord), (⟨2, 0, (List.replicate 32 (0 : Int)), ([] : List Int), 0, 0, 0⟩ : TRecord), (⟨3, 0, (List.replicate 32 (0 : Int)), ([] : List Int), 1, 9, 0⟩ : TRecord), (⟨4, 0, (List.replicate 32 (0 : Int)), [7], 1, 0, 0⟩ : TRecord)].getD x575.toNat TRecord.z).Nonce).map (Value.int .u8) ++ [.slice A715 n717 c716, .int .i64 (([(⟨1, 1, (List.replicate 32 (0 : Int)), ([] : List Int), 0, 0, 0⟩ : TRecord), (⟨2, 0, (List.replicate 32 (0 : Int)), ([] : List Int), 0, 0, 0⟩ : TRecord), (⟨3, 0, (List.replicate 32 (0 : Int)), ([] : List Int), 1, 9, 0⟩ : TRecord), (⟨4, 0, (List.replicate 32 (0 : Int)), [7], 1, 0, 0⟩ : TRecord)].getD x575.toNat TRecord.z).Job), .int .i64 (([(⟨1, 1, (List.replicate 32 (0 : Int)), ([] : List Int), 0, 0, 0⟩ : TRecord), (⟨2, 0, (List.replicate 32 (0 : Int)), ([] : List Int), 0, 0, 0⟩ : TRecord), (⟨3, 0, (List.replicate 32 (0 : Int)), ([] : List Int), 1, 9, 0⟩ : TRecord), (⟨4, 0, (List.replicate 32 (0 : Int)), [7], 1, 0, 0⟩ : TRecord)].getD x575.toNat TRecord.z).Time), .int .i64 (([(⟨1, 1, (List.replicate 32 (0 : Int)), ([] : List Int), 0, 0, 0⟩ : TRecord), (⟨2, 0, (List.replicate 32 (0 : Int)), ([] : List Int), 0, 0, 0⟩ : TRecord), (⟨3, 0, (List.replicate 32 (0 : Int)), ([] : List Int), 1, 9, 0⟩ : TRecord), (⟨4, 0, (List.replicate 32 (0 : Int)), [7], 1, 0, 0⟩ : TRecord)].getD x575.toNat TRecord.z).By)])
   refine WL.val (Yl.loadAgg (cs := q11) rfl Tryz.underlying26 rfl (sz_of sz26 (len_app rfl (len_app (len_map ha714) rfl))) (fun j u hu => by rw [add_of]; exact ((Ctx.subI 5 C601 rfl)).cell (hx713 _ _ hu))) ?_
   let q12 : List Go.Value := [.int .i64 0, .int .i64 0] ++ ((List.replicate 32 (0 : Int)).map (Value.int .u8) ++ [.slice none 0 0, .int .i64 0, .int .i64 0, .int .i64 0])
   obtain ⟨g722, w723, hy724, C725⟩ := ev_alloc (P := Tryz.prog) (e := 26) q12 C601 zr26 rfl
   refine WL.val (hy724 _ _) ?_
   let q13 : List Go.Value := [.slice A577 n579 c578, .slice A583 n585 c584, .slice A589 n591 c590, .slice A595 n597 c596, .int .i64 x576.Heads]
   obtain ⟨w726, hy727, C728⟩ := ev_put (P := Tryz.prog) (ps1 := []) (ps2 := [CH.row g38 0 q13, p581, p587, p593, p599, p69, CH.row g1 0 q2]) (t := 26) q11 (.agg (List.toArray q11)) C725 (Put.all 38 (len_app rfl (len_app (len_map (List.length_replicate ..)) rfl)) (len_app rfl (len_app (len_map ha714) rfl))) rfl (ones_append (ones_of rfl) (ones_append (one_ints _ _) (ones_of rfl))) (sz_of sz26 (len_app rfl (len_app (len_map ha714) rfl)))
   have C729 : Ctx _ _ _ _ _ [CH.row g722 0 q11, CH.row g38 0 q13, p581, p587, p593, p599, p69, CH.row g1 0 q2] := C728
   refine WL.skip (hy727 _ _ _ _ rfl rfl) ?_
   refine WL.done ?_
   refine W.seq ?_
   refine W.region rfl ?_
   refine WL.run to 2 rfl ?_
   refine WL.done ?_
   rcases iteE hX456 with ⟨hc730, hX456⟩ | ⟨hc730, hX456⟩
   ·refine W.condT (congrArg Value.bool (decide_eq_true hc730)) ?_
    refine W.region rfl ?_
    refine WL.val (Yl.loadVA (g := g1) (off := 0) (o := 0) (cs := q2) (us := q2) rfl Tryz.underlying42 rfl sz42 (Ctx.subI 7 C729 rfl) rfl) ?_
    refine WL.val (Yl.loadVA (g := g38) (off := 0) (o := 0) (cs := q13) (us := q13) rfl Tryz.underlying50 rfl sz50 (Ctx.subI 1 C729 rfl) rfl) ?_
    refine WL.val (Yl.loadVA (g := g722) (off := 0) (o := 0) (cs := q11) (us := q11) rfl Tryz.underlying26 rfl (sz_of sz26 (len_app rfl (len_app (len_map ha714) rfl))) (Ctx.subI 0 C729 rfl) (take_all _)) ?_
    obtain ⟨F731, le732, lp733, C734⟩ := Ctx.fzI 2 C729 rfl
    replace C734 : Ctx _ _ _ _ _ [CH.row g722 0 q11, CH.row g38 0 q13, p587, p593, p599, p69, CH.row g1 0 q2] := C734
    obtain ⟨hl735, hm736, hS737⟩ := Row.fz hR582 le732 lp733
    have hR738 := Row.mono hR704 le732
    have hR739 := Row.mono hR588 le732
    have hR740 := Row.mono hR594 le732
    have hR741 := Row.mono hR600 le732
    obtain ⟨F742, le743, lp744, C745⟩ := Ctx.fzI 2 C734 rfl
    replace C745 : Ctx _ _ _ _ _ [CH.row g722 0 q11, CH.row g38 0 q13, p593, p599, p69, CH.row g1 0 q2] := C745
    obtain ⟨hl746, hm747, hS748⟩ := Row.fz hR739 le743 lp744
    have hR749 := Row.mono hR738 le743
    have hR750 := Row.mono hR740 le743
    have hR751 := Row.mono hR741 le743
    obtain ⟨F752, le753, lp754, C755⟩ := Ctx.fzI 2 C745 rfl
    replace C755 : Ctx _ _ _ _ _ [CH.row g722 0 q11, CH.row g38 0 q13, p599, p69, CH.row g1 0 q2] := C755
    obtain ⟨hl756, hm757, hS758⟩ := Row.fz hR750 le753 lp754
    have hR759 := Row.mono hR749 le753
    have hR760 := Row.mono hR751 le753
    obtain ⟨F761, le762, lp763, C764⟩ := Ctx.fzI 2 C755 rfl
    replace C764 : Ctx _ _ _ _ _ [CH.row g722 0 q11, CH.row g38 0 q13, p69, CH.row g1 0 q2] := C764
    obtain ⟨hl765, hm766, hS767⟩ := Row.fz hR760 le762 lp763
    have hR768 := Row.mono hR759 le762
    obtain ⟨⟨r770, r771⟩, hg769, hX456⟩ := bindE hX456
    refine WL.callH (docket_Apply.calls k702 _ F761 (⟨0, 1, 0, 1, 1, 1, 0⟩ : TConfig) A577 c578 n579 A583 c584 n585 A589 c590 n591 A595 c596 n597 x576 A715 c716 n717 ([(⟨1, 1, (List.replicate 32 (0 : Int)), ([] : List Int), 0, 0, 0⟩ : TRecord), (⟨2, 0, (List.replicate 32 (0 : Int)), ([] : List Int), 0, 0, 0⟩ : TRecord), (⟨3, 0, (List.replicate 32 (0 : Int)), ([] : List Int), 1, 9, 0⟩ : TRecord), (⟨4, 0, (List.replicate 32 (0 : Int)), [7], 1, 0, 0⟩ : TRecord)].getD x575.toNat TRecord.z) (Ctx.pre (qs := []) (rest := [CH.row g722 0 q11, CH.row g38 0 q13, p69, CH.row g1 0 q2]) C764) hn580 hl735 hm736 (Sl.mono hS737 (CH.le_trans le743 (CH.le_trans le753 le762)) (CH.le_trans le743 (CH.le_trans le753 le762))) hn586 hl746 hm747 (Sl.mono hS748 (CH.le_trans le753 le762) (CH.le_trans le753 le762)) hn592 hl756 hm757 (Sl.mono hS758 le762 le762) hn598 hl765 hm766 hS767 ha714 hn718 hl719 hm720 (Sl.mono hS721 (CH.le_trans le732 (CH.le_trans le743 (CH.le_trans le753 le762))) (CH.le_trans le732 (CH.le_trans le743 (CH.le_trans le753 le762)))) r770 r771 hg769) (Yenter.fn Tryz.func15 (by kernel_rfl) rfl (argsE (.cons rfl (.cons rfl (.cons rfl .nil))))) ?_
    rintro e_ w_ ⟨F772, A774, c775, n776, p778, A780, c781, n782, p784, A786, c787, n788, p790, A792, c793, n794, p796, rfl, le773, C798, hn777, hR779, hn783, hR785, hn789, hR791, hn795, hR797⟩
    refine ⟨_, rfl, ?_⟩
    have C799 : Ctx _ _ _ _ _ [p778, p784, p790, p796, CH.row g722 0 q11, CH.row g38 0 q13, p69, CH.row g1 0 q2] := Ctx.call (qs := []) (rest := [CH.row g722 0 q11, CH.row g38 0 q13, p69, CH.row g1 0 q2]) C764 C798
    have hR800 := Row.mono hR768 le773
    refine WL.run to 3 rfl ?_
    let q14 : List Go.Value := [.slice A774 n776 c775, .slice A780 n782 c781, .slice A786 n788 c787, .slice A792 n794 c793, .int .i64 r770.Heads]
    obtain ⟨w801, hy802, C803⟩ := ev_setI (P := Tryz.prog) (ps1 := [p778, p784, p790, p796, CH.row g722 0 q11]) (ps2 := [p69, CH.row g1 0 q2]) (t := 50) 0 q14 (.agg (List.toArray q14)) C799 rfl rfl (ones_of rfl) sz50
    have C804 : Ctx _ _ _ _ _ [p778, p784, p790, p796, CH.row g722 0 q11, CH.row g38 0 q14, p69, CH.row g1 0 q2] := C803
    refine WL.skip (hy802 _ _ _ _ rfl rfl) ?_
    refine WL.run to 1 rfl ?_
    refine WL.done ?_
    refine inB_n ?_
    refine W.region rfl ?_
    refine WL.run to 2 rfl ?_
    refine WL.done ?_
    have C805 : Ctx _ _ _ _ _ [CH.row g38 0 q14, p778, p784, p790, p796, p69, CH.row g1 0 q2] := Ctx.pick [5, 0, 1, 2, 3, 6, 7] C804 rfl
    exact thenE_n ⟨k702, Nat.lt_succ_self _, r771, wi64 (x575 + 1), r770, F772, A774, c775, n776, p778, A780, c781, n782, p784, A786, c787, n788, p790, A792, c793, n794, p796, rfl, rfl, rfl, rfl, rfl, rfl, C805, (CH.le_trans le567 (CH.le_trans le732 (CH.le_trans le743 (CH.le_trans le753 (CH.le_trans le762 le773))))), hn777, hR779, hn783, hR785, hn789, hR791, hn795, hR797, hX456⟩
   ·refine W.condF (congrArg Value.bool (decide_eq_false hc730)) ?_
    refine W.skip ?_
    refine inB_n ?_
    refine W.region rfl ?_
    refine WL.run to 2 rfl ?_
    refine WL.done ?_
    have C806 : Ctx _ _ _ _ _ [CH.row g38 0 q13, p581, p587, p593, p599, p69, CH.row g1 0 q2] := Ctx.pick [1, 2, 3, 4, 5, 6, 7] C729 rfl
    exact thenE_n ⟨k702, Nat.lt_succ_self _, x571, wi64 (x575 + 1), x576, F566, A577, c578, n579, p581, A583, c584, n585, p587, A589, c590, n591, p593, A595, c596, n597, p599, rfl, rfl, rfl, rfl, rfl, rfl, C806, le567, hn580, hR582, hn586, hR588, hn592, hR594, hn598, hR600, hX456⟩
  ·refine W.condF (congrArg Value.bool (decide_eq_false hc705)) ?_
   refine W.exit ?_
   refine thenE_x ?_
   refine thenE_x ?_
   refine inB_here ?_
   cases hX456
   refine thenE_n ?_
   exact ⟨F566, A577, c578, n579, p581, A583, c584, n585, p587, A589, c590, n591, p593, A595, c596, n597, p599, rfl, rfl, C601, le567, hn580, hR582, hn586, hR588, hn592, hR594, hn598, hR600⟩
 ·rintro env_ w_ ⟨F425, A431, c432, n433, p435, A437, c438, n439, p441, A443, c444, n445, p447, A449, c450, n451, p453, ho427, ho428, C455, le426, hn434, hR436, hn440, hR442, hn446, hR448, hn452, hR454⟩
  apply kn env_ (.c ho427 (.c ho428 .n))
  refine W.seq ?_
  obtain ⟨x866, hX868, H⟩ := bindE H
  let q15 : List Go.Value := [.slice A431 n433 c432, .slice A437 n439 c438, .slice A443 n445 c444, .slice A449 n451 c450, .int .i64 x430.Heads]
  refine W.cutM (fun env_ w_ => env_ 0 = .bool x866 ∧ Ctx w F D w_ F425 [CH.row g38 0 q15, p435, p441, p447, p453, p69, CH.row g1 0 q2]) ?_ ?_
  ·refine W.region rfl ?_
   refine WL.run to 3 rfl ?_
   rcases iteE hX868 with ⟨hc869, hX868⟩ | ⟨hc869, hX868⟩
   ·refine WL.kn 35 (congrArg Value.bool (decide_eq_true hc869)) ?_
    refine WL.run to 1 rfl ?_
    refine WL.valOn rfl rfl (Yl.loadV (g := g38) (off := 0) (o := 1) (cs := q15) (v := .slice A437 n439 c438) rfl Tryz.underlying46 rfl (Ctx.subI 0 C455 rfl) rfl) ?_
    refine WL.valOn rfl rfl (Yl.lenN (A := A437) (l := n439) (q := c438) (n := (x430.Jobs.length : Int)) rfl Tryz.underlying46 (by omega)) ?_
    refine WL.run to 3 rfl ?_
    rcases iteE hX868 with ⟨hc870, hX868⟩ | ⟨hc870, hX868⟩
    ·refine WL.kn 41 (congrArg Value.bool (decide_eq_true hc870)) ?_
     refine WL.run to 1 rfl ?_
     refine WL.valOn rfl rfl (Yl.loadV (g := g38) (off := 0) (o := 1) (cs := q15) (v := .slice A437 n439 c438) rfl Tryz.underlying46 rfl (Ctx.subI 0 C455 rfl) rfl) ?_
     obtain ⟨hc871, hX868⟩ := guardE hX868
     obtain ⟨b872, of873, hA874, he875⟩ := (Row.sl hR442) (by omega)
     refine WL.valOn rfl rfl (Yl.elemAddr (i := 0) rfl rfl hA874 Tryz.underlying46 sz63 (by omega)) ?_
     refine WL.run to 1 rfl ?_
     obtain ⟨cs876, hr877, hx878⟩ := he875 (0 : Int).toNat _ (getD_some (d := TJob.z) (by omega))
     obtain ⟨A879, c880, n881, A886, c887, n888, A893, c894, n895, A900, c901, n902, A907, c908, n909, rfl, hn882, hl883, hm884, hS885, hn889, hl890, hm891, hS892, hn896, hl897, hm898, hS899, hn903, hl904, hm905, hS906, hn910, hl911, hm912, hS913⟩ := TJob.open hr877
     refine WL.valOn rfl rfl (Yl.load (v := .int .i64 ((x430.Jobs.getD (0 : Int).toNat TJob.z).State)) rfl Tryz.underlying3 rfl (((Ctx.subI 2 C455 rfl)).cell (hx878 1 _ rfl))) ?_
     refine WL.run to 3 rfl ?_
     rcases iteE hX868 with ⟨hc914, hX868⟩ | ⟨hc914, hX868⟩
     ·refine WL.kn 49 (congrArg Value.bool (decide_eq_true hc914)) ?_
      refine WL.run to 1 rfl ?_
      refine WL.valOn rfl rfl (Yl.loadV (g := g38) (off := 0) (o := 1) (cs := q15) (v := .slice A437 n439 c438) rfl Tryz.underlying46 rfl (Ctx.subI 0 C455 rfl) rfl) ?_
      refine WL.valOn rfl rfl (Yl.elemAddr (i := 0) rfl rfl hA874 Tryz.underlying46 sz63 (by omega)) ?_
      refine WL.run to 1 rfl ?_
      refine WL.valOn rfl rfl (Yl.load (v := .slice A907 n909 c908) rfl Tryz.underlying24 rfl (((Ctx.subI 2 C455 rfl)).cell (hx878 8 _ rfl))) ?_
      refine WL.valOn rfl rfl (Yl.lenN (A := A907) (l := n909) (q := c908) (n := (((x430.Jobs.getD (0 : Int).toNat TJob.z).Value).length : Int)) rfl Tryz.underlying24 (by omega)) ?_
      refine WL.run to 3 rfl ?_
      rcases iteE hX868 with ⟨hc915, hX868⟩ | ⟨hc915, hX868⟩
      ·refine WL.kn 58 (congrArg Value.bool (decide_eq_true hc915)) ?_
       refine WL.valOn rfl rfl (Yl.loadVA (g := g38) (off := 0) (o := 0) (cs := q15) (us := q15) rfl Tryz.underlying50 rfl sz50 (Ctx.subI 0 C455 rfl) rfl) ?_
       refine WL.on rfl rfl ?_
       obtain ⟨F916, le917, ⟨lp919, lp920, lp921, lp922, _⟩, C918⟩ := Ctx.lend [p435, p441, p447, p453] (ps := [CH.row g38 0 q15, p69, CH.row g1 0 q2]) (Ctx.pick [1, 2, 3, 4, 0, 5, 6] C455 rfl)
       obtain ⟨r924, hg923, hX868⟩ := bindE hX868
       refine WL.callH (docket_Epoch.calls k _ F916 A431 c432 n433 A437 c438 n439 A443 c444 n445 A449 c450 n451 x430 (Ctx.pre (qs := []) (rest := [CH.row g38 0 q15, p69, CH.row g1 0 q2]) C918) hn434 (Row.len_le hR436).1 (Row.len_le hR436).2.1 (Sl.mono (Row.sl hR436) le917 lp919) hn440 (Row.len_le hR442).1 (Row.len_le hR442).2.1 (Sl.mono (Row.sl hR442) le917 lp920) hn446 (Row.len_le hR448).1 (Row.len_le hR448).2.1 (Sl.mono (Row.sl hR448) le917 lp921) hn452 (Row.len_le hR454).1 (Row.len_le hR454).2.1 (Sl.mono (Row.sl hR454) le917 lp922) r924 hg923) (Yenter.fn Tryz.func21 (by kernel_rfl) rfl (argsE (.cons rfl .nil))) ?_
       rintro e_ w_ ⟨rfl, C925⟩
       refine ⟨_, rfl, ?_⟩
       have C926 : Ctx _ _ _ _ _ [CH.row g38 0 q15, p435, p441, p447, p453, p69, CH.row g1 0 q2] := Ctx.callL (qs := []) (rest := [CH.row g38 0 q15, p435, p441, p447, p453, p69, CH.row g1 0 q2]) C455 le917 C925
       refine WL.run to 3 rfl ?_
       refine WL.done ?_
       cases hX868
       refine thenE_n ?_
       exact ⟨rfl, C926⟩
      ·refine WL.kn 58 (congrArg Value.bool (decide_eq_false hc915)) ?_
       refine WL.offs 3 58 true rfl rfl ?_
       refine WL.run to 2 rfl ?_
       refine WL.done ?_
       cases hX868
       refine thenE_n ?_
       exact ⟨rfl, C455⟩
     ·refine WL.kn 49 (congrArg Value.bool (decide_eq_false hc914)) ?_
      refine WL.offs 7 49 true rfl rfl ?_
      refine WL.run to 2 rfl ?_
      refine WL.offs 3 58 true rfl rfl ?_
      refine WL.run to 2 rfl ?_
      refine WL.done ?_
      cases hX868
      refine thenE_n ?_
      exact ⟨rfl, C455⟩
    ·refine WL.kn 41 (congrArg Value.bool (decide_eq_false hc870)) ?_
     refine WL.offs 6 41 true rfl rfl ?_
     refine WL.run to 2 rfl ?_
     refine WL.offs 7 49 true rfl rfl ?_
     refine WL.run to 2 rfl ?_
     refine WL.offs 3 58 true rfl rfl ?_
     refine WL.run to 2 rfl ?_
     refine WL.done ?_
     cases hX868
     refine thenE_n ?_
     exact ⟨rfl, C455⟩
   ·refine WL.kn 35 (congrArg Value.bool (decide_eq_false hc869)) ?_
    refine WL.offs 4 35 true rfl rfl ?_
    refine WL.run to 2 rfl ?_
    refine WL.offs 6 41 true rfl rfl ?_
    refine WL.run to 2 rfl ?_
    refine WL.offs 7 49 true rfl rfl ?_
    refine WL.run to 2 rfl ?_
    refine WL.offs 3 58 true rfl rfl ?_
    refine WL.run to 2 rfl ?_
    refine WL.done ?_
    cases hX868
    refine thenE_n ?_
    exact ⟨rfl, C455⟩
  ·rintro env_ w_ ⟨ho865, C867⟩
   apply kn env_ (.c ho865 .n)
   refine W.ret ?_
   have C927 : Ctx _ _ _ _ _ [] := Ctx.pick [] C867 rfl
   have e928 := Option.some.inj H
   subst e928
   exact post_r (resE1 rfl rfl) ⟨rfl, (Ctx.weak C927 (CH.le_refl _))⟩
def juratlaw21_own.f (k : Nat) (a0 : TRecord) : Option TRecord := if (a0.Data.length + a0.Data.length / 4 + 192) * 1 ≤ 281474976710656 then (some (⟨a0.Kind, a0.Epoch, a0.Nonce, a0.Data, a0.Job, a0.Time, a0.By⟩ : TRecord)) else none
set_option maxRecDepth 100000 in
set_option maxHeartbeats 4000000 in
theorem juratlaw21_own.calls (k : Nat) (w : World) (F : CH) (A2 : Option Addr) (c3 : Nat) (n4 : Nat) (a0 : TRecord) (hp : Pre w F []) (ha1 : a0.Nonce.length = 32) (hn5 : n4 = a0.Data.length) (hl6 : a0.Data.length ≤ c3) (hm7 : c3 ≤ maxLen) (hS8 : Sl (Kd.int .u8) F F A2 a0.Data) (r0_ : TRecord) (H : juratlaw21_own.f k a0 = some r0_) :
    Calls Tryz.prog 7 #[.agg (List.toArray ([.int .i64 a0.Kind, .int .i64 a0.Epoch] ++ (a0.Nonce.map (Value.int .u8) ++ [.slice A2 n4 c3, .int .i64 a0.Job, .int .i64 a0.Time, .int .i64 a0.By])))] w fun e w' => ∃ (A48 : Option Addr) (c49 : Nat) (n50 : Nat) (p52 : CH), e = .returned (.agg (List.toArray ([.int .i64 r0_.Kind, .int .i64 r0_.Epoch] ++ (r0_.Nonce.map (Value.int .u8) ++ [.slice A48 n50 c49, .int .i64 r0_.Job, .int .i64 r0_.Time, .int .i64 r0_.By])))) ∧ Ctx w F (domL []) w' F [p52] ∧ r0_.Nonce.length = 32 ∧ n50 = r0_.Data.length ∧ Row (Kd.int .u8) F p52 (.slice A48 n50 c49) r0_.Data := by
 have C := Ctx.start hp
 generalize hD : domL [] = D at C ⊢
 unfold juratlaw21_own.f at H
 refine Calls.ofW Tryz.func7 rfl (by simp [Tryz.ntmps7]) ?_
 refine W.seq ?_
 refine W.region rfl ?_
 let q1 : List Go.Value := [.int .i64 a0.Kind, .int .i64 a0.Epoch] ++ (a0.Nonce.map (Value.int .u8) ++ [.slice A2 n4 c3, .int .i64 a0.Job, .int .i64 a0.Time, .int .i64 a0.By])
 obtain ⟨g9, w10, hy11, C12⟩ := ev_box (P := Tryz.prog) 26 (.agg (List.toArray q1)) q1 C rfl
 refine WL.val (hy11 _ _ _ rfl) ?_
 let q2 : List Go.Value := [.int .i64 0, .int .i64 0] ++ ((List.replicate 32 (0 : Int)).map (Value.int .u8) ++ [.slice none 0 0, .int .i64 0, .int .i64 0, .int .i64 0])
 obtain ⟨g13, w14, hy15, C16⟩ := ev_alloc (P := Tryz.prog) (e := 26) q2 C12 zr26 rfl
 refine WL.val (hy15 _ _) ?_
 refine WL.done ?_
 refine W.seq ?_
 refine W.region rfl ?_
 obtain ⟨A17, c18, n19, p20, w21, hn22, hy23, C24, hR25⟩ := ev_lit0 (P := Tryz.prog) 5 (Kd.int .u8) C16 Tryz.underlying24 ti5
 refine WL.val (hy23 _ _) ?_
 refine WL.run to 1 rfl ?_
 refine WL.val (Yl.loadV (g := g9) (off := 0) (o := 34) (cs := q1) (v := .slice A2 n4 c3) rfl Tryz.underlying24 rfl (Ctx.subI 2 C24 rfl) (at_skip 2 32 rfl (at_skip 32 0 (len_map ha1) rfl))) ?_
 obtain ⟨hc26, H⟩ := guardE H
 obtain ⟨A27, c28, n29, p30, w31, hn32, hy33, C34, hR35⟩ := ev_append' (P := Tryz.prog) (cb := c3) 5 (Kd.int .u8) [] [CH.row g13 0 q2, CH.row g9 0 q1] C24 hR25 hn5 hS8 C24.fro Tryz.underlying24 ti5 rfl zo5 (by decide) (by decide) (by simpa using hc26)
 have C36 : Ctx _ _ _ _ _ [p30, CH.row g13 0 q2, CH.row g9 0 q1] := C34
 rw [List.nil_append] at hn32 hR35
 refine WL.val (hy33 _ _ _ _ rfl rfl) ?_
 refine WL.run to 1 rfl ?_
 obtain ⟨w37, hy38, C39⟩ := ev_put (P := Tryz.prog) (ps1 := [p30, CH.row g13 0 q2]) (ps2 := []) (t := 24) [.slice A27 n29 c28] (.slice A27 n29 c28) C36 (Put.skip 2 32 rfl (Put.skip 32 0 (len_map ha1) (Put.lit 0 rfl))) rfl (ones_of rfl) sz24
 let q3 : List Go.Value := [.int .i64 a0.Kind, .int .i64 a0.Epoch] ++ (a0.Nonce.map (Value.int .u8) ++ [.slice A27 n29 c28, .int .i64 a0.Job, .int .i64 a0.Time, .int .i64 a0.By])
 have C40 : Ctx _ _ _ _ _ [p30, CH.row g13 0 q2, CH.row g9 0 q3] := C39
 refine WL.skip (hy38 _ _ _ _ rfl rfl) ?_
 refine WL.done ?_
 refine W.seq ?_
 refine W.region rfl ?_
 refine WL.val (Yl.loadVA (g := g9) (off := 0) (o := 0) (cs := q3) (us := q3) rfl Tryz.underlying26 rfl (sz_of sz26 (len_app rfl (len_app (len_map ha1) rfl))) (Ctx.subI 2 C40 rfl) (take_all _)) ?_
 obtain ⟨w41, hy42, C43⟩ := ev_put (P := Tryz.prog) (ps1 := [p30]) (ps2 := [CH.row g9 0 q3]) (t := 26) q3 (.agg (List.toArray q3)) C40 (Put.all 38 (len_app rfl (len_app (len_map (List.length_replicate ..)) rfl)) (len_app rfl (len_app (len_map ha1) rfl))) rfl (ones_append (ones_of rfl) (ones_append (one_ints _ _) (ones_of rfl))) (sz_of sz26 (len_app rfl (len_app (len_map ha1) rfl)))
 have C44 : Ctx _ _ _ _ _ [p30, CH.row g13 0 q3, CH.row g9 0 q3] := C43
 refine WL.skip (hy42 _ _ _ _ rfl rfl) ?_
 refine WL.done ?_
 refine W.ret ?_
 have C45 : Ctx _ _ _ _ _ [p30] := Ctx.pick [0] C44 rfl
 have e46 := Option.some.inj H
 subst e46
 exact post_r (resEC rfl ((.cell rfl (run_loadVA2 (g := g13) (off := 0) (o := 0) (cs := q3) (us := q3) Tryz.underlying26 rfl (sz_of sz26 (len_app rfl (len_app (len_map ha1) rfl))) (Ctx.subI 1 C44 rfl) (take_all _)) .nil))) ⟨A27, c28, n29, p30, rfl, C45, ha1, hn32, hR35⟩
end Go.Proofs.YtobdpbnadjkhiaaGreat
