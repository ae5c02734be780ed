/- Functions of the program: each as a plain function of numbers and lists, and the proof that the program's own comes to it. Nothing is assumed but what each theorem says. -/
import Derived.Test.YtobdpbnadjkhiaaTGf
namespace Go.Proofs.Ytobdpbnadjkhiaa
open Go.RowKit Go.WG
set_option linter.unusedVariables false
set_option linter.unusedSimpArgs false
def juratlaw21_awake.l1 : Nat → Int → Int → TState → Option (Int × TState)
  | 0, _, _, _ => none
  | k + 1, x571, x575, x576 => if x575 < ([(⟨1, 1, (List.replicate 32 (0 : Int)), ([] : List Int), 0, 0, 0⟩ : TRecord), (⟨2, 0, (List.replicate 32 (0 : Int)), ([] : List Int), 0, 0, 0⟩ : TRecord), (⟨3, 0, (List.replicate 32 (0 : Int)), ([] : List Int), 1, 9, 0⟩ : TRecord), (⟨4, 0, (List.replicate 32 (0 : Int)), [7], 1, 0, 0⟩ : TRecord)].length : Int) then (if 0 ≤ x575 ∧ x575 < ([(⟨1, 1, (List.replicate 32 (0 : Int)), ([] : List Int), 0, 0, 0⟩ : TRecord), (⟨2, 0, (List.replicate 32 (0 : Int)), ([] : List Int), 0, 0, 0⟩ : TRecord), (⟨3, 0, (List.replicate 32 (0 : Int)), ([] : List Int), 1, 9, 0⟩ : TRecord), (⟨4, 0, (List.replicate 32 (0 : Int)), [7], 1, 0, 0⟩ : TRecord)].length : Int) then (if x571 = 0 then ((docket_Apply.f k (⟨0, 1, 0, 1, 1, 1, 0⟩ : TConfig) x576 ([(⟨1, 1, (List.replicate 32 (0 : Int)), ([] : List Int), 0, 0, 0⟩ : TRecord), (⟨2, 0, (List.replicate 32 (0 : Int)), ([] : List Int), 0, 0, 0⟩ : TRecord), (⟨3, 0, (List.replicate 32 (0 : Int)), ([] : List Int), 1, 9, 0⟩ : TRecord), (⟨4, 0, (List.replicate 32 (0 : Int)), [7], 1, 0, 0⟩ : TRecord)].getD x575.toNat TRecord.z)).bind fun ⟨r770, r771⟩ => juratlaw21_awake.l1 k r771 (wi64 (x575 + 1)) r770) else (juratlaw21_awake.l1 k x571 (wi64 (x575 + 1)) x576)) else none) else (some (x571, x576))
def juratlaw21_awake.f (k : Nat)  : Option Bool := (docket_New.f k (⟨0, 1, 0, 1, 1, 1, 0⟩ : TConfig)).bind fun ⟨r10, r11⟩ => (juratlaw21_awake.l1 k r11 0 r10).bind fun ⟨x429, x430⟩ => (if x429 = 0 then (if (x430.Jobs.length : Int) = 1 then (if 0 ≤ (0 : Int) ∧ (0 : Int) < (x430.Jobs.length : Int) then (if ((x430.Jobs.getD (0 : Int).toNat TJob.z).State) = 3 then (if (((x430.Jobs.getD (0 : Int).toNat TJob.z).Value).length : Int) = 1 then ((docket_Epoch.f k x430).bind fun r942 => some (decide (r942 = 1))) else (some false)) else (some false)) else none) else (some false)) else (some false)).bind fun x875 => some x875
set_option maxRecDepth 100000 in
set_option maxHeartbeats 4000000 in
theorem juratlaw21_awake.calls (k : Nat) (w : World) (F : CH)  (hp : Pre w F [])  (r0_ : Bool) (H : juratlaw21_awake.f k  = some r0_) :
    Calls Try.prog 8 #[] w fun e w' => e = .returned (.bool r0_) ∧ Ctx w F (domL []) w' F [] := by
 have C := Ctx.start hp
 generalize hD : domL [] = D at C ⊢
 unfold juratlaw21_awake.f at H
 refine Calls.ofW Try.func8 rfl (by simp [Try.ntmps8]) ?_
 refine W.seq ?_
 refine W.region rfl ?_
 refine WL.val (Yl.assign (v := .bool false) rfl) ?_
 refine WL.done ?_
 refine W.seq ?_
 refine W.region rfl ?_
 let q2 : List Go.Value := [.int .i64 0, .int .i64 1, .int .i64 0, .int .i64 1, .int .i64 1, .int .i64 1, .int .i64 0]
 refine WL.val (Yl.build (places := [(0, 1), (1, 1), (2, 1), (3, 1), (4, 1), (5, 1), (6, 1)]) (cs := List.toArray q2) Try.underlying23 zr23 (pl23 _ Try.underlying23) (partsB (.cons rfl (.cons rfl (.cons rfl (.cons rfl .nil))))) rfl) ?_
 let q3 : List Go.Value := [.int .i64 0, .int .i64 0, .int .i64 0, .int .i64 0, .int .i64 0, .int .i64 0, .int .i64 0]
 obtain ⟨g1, w2, hy3, C4⟩ := ev_alloc (P := Try.prog) (e := 23) q3 C zr23 rfl
 refine WL.val (hy3 _ _) ?_
 obtain ⟨w5, hy6, C7⟩ := ev_setI (P := Try.prog) (ps1 := []) (ps2 := []) (t := 23) 0 q2 (.agg (List.toArray q2)) C4 rfl rfl (ones_of rfl) sz23
 have C8 : Ctx _ _ _ _ _ [CH.row g1 0 q2] := C7
 refine WL.skip (hy6 _ _ _ _ rfl rfl) ?_
 refine WL.done ?_
 refine W.seq ?_
 refine W.region rfl ?_
 refine WL.val (Yl.loadVA (g := g1) (off := 0) (o := 0) (cs := q2) (us := [.int .i64 0, .int .i64 1, .int .i64 0, .int .i64 1, .int .i64 1, .int .i64 1, .int .i64 0]) rfl Try.underlying23 rfl sz23 (Ctx.subI 0 C8 rfl) rfl) ?_
 obtain ⟨⟨r10, r11⟩, hg9, H⟩ := bindE H
 refine WL.callH (docket_New.calls k _ F (⟨0, 1, 0, 1, 1, 1, 0⟩ : TConfig) (Ctx.pre (qs := []) (rest := [CH.row g1 0 q2]) C8)  r10 r11 hg9) (Yenter.fn Try.func9 (by kernel_rfl) rfl (argsE (.cons rfl .nil))) ?_
 rintro e_ w_ ⟨A12, c13, n14, p16, A18, c19, n20, p22, A24, c25, n26, p28, A30, c31, n32, p34, rfl, C36, hn15, hR17, hn21, hR23, hn27, hR29, hn33, hR35⟩
 refine ⟨_, rfl, ?_⟩
 have C37 : Ctx _ _ _ _ _ [p16, p22, p28, p34, CH.row g1 0 q2] := Ctx.call (qs := []) (rest := [CH.row g1 0 q2]) C8 C36
 let q4 : List Go.Value := [.slice A12 n14 c13, .slice A18 n20 c19, .slice A24 n26 c25, .slice A30 n32 c31, .int .i64 r10.Heads]
 refine WL.val (Yl.move (v := .tuple #[(.agg (List.toArray q4)), (.int .i64 r11)]) rfl) ?_
 refine WL.val (Yl.extract (v := .agg (List.toArray q4)) rfl rfl) ?_
 refine WL.val (Yl.extract (v := .int .i64 r11) rfl rfl) ?_
 let q5 : List Go.Value := [.slice none 0 0, .slice none 0 0, .slice none 0 0, .slice none 0 0, .int .i64 0]
 obtain ⟨g38, w39, hy40, C41⟩ := ev_alloc (P := Try.prog) (e := 32) q5 C37 zr32 rfl
 refine WL.val (hy40 _ _) ?_
 obtain ⟨w42, hy43, C44⟩ := ev_setI (P := Try.prog) (ps1 := []) (ps2 := [p16, p22, p28, p34, CH.row g1 0 q2]) (t := 32) 0 q4 (.agg (List.toArray q4)) C41 rfl rfl (ones_of rfl) sz32
 have C45 : Ctx _ _ _ _ _ [CH.row g38 0 q4, p16, p22, p28, p34, CH.row g1 0 q2] := C44
 refine WL.skip (hy43 _ _ _ _ rfl rfl) ?_
 refine WL.val (Yl.assign (v := .int .i64 r11) rfl) ?_
 refine WL.done ?_
 refine W.seq ?_
 refine W.seq ?_
 refine W.region rfl ?_
 refine WL.val (Yl.build (places := [(0, 1), (1, 1), (2, 32), (34, 1), (35, 1), (36, 1), (37, 1)]) (cs := List.toArray ([.int .i64 1, .int .i64 1] ++ ((List.replicate 32 (0 : Int)).map (Value.int .u8) ++ [.slice none 0 0, .int .i64 0, .int .i64 0, .int .i64 0]))) Try.underlying46 zr46 (pl46 _ Try.underlying46) (partsB (.cons rfl (.cons rfl .nil))) (Fills.run (a := [.int .i64 0, .int .i64 0] ++ ((List.replicate 32 (0 : Int)).map (Value.int .u8) ++ [.slice none 0 0, .int .i64 0, .int .i64 0, .int .i64 0])) (c := [.int .i64 1, .int .i64 1] ++ ((List.replicate 32 (0 : Int)).map (Value.int .u8) ++ [.slice none 0 0, .int .i64 0, .int .i64 0, .int .i64 0])) (.seg (off := 0) (n := 1) (us := [.int .i64 1]) (b := [.int .i64 1, .int .i64 0] ++ ((List.replicate 32 (0 : Int)).map (Value.int .u8) ++ [.slice none 0 0, .int .i64 0, .int .i64 0, .int .i64 0])) (pre := []) (z := [.int .i64 0]) (post := [.int .i64 0] ++ ((List.replicate 32 (0 : Int)).map (Value.int .u8) ++ [.slice none 0 0, .int .i64 0, .int .i64 0, .int .i64 0])) rfl rfl (by simp [(List.length_replicate ..)]) (by simp) (by simp) (by simp [(List.length_replicate ..)]) (by simp [(List.length_replicate ..)]) (.seg (off := 1) (n := 1) (us := [.int .i64 1]) (b := [.int .i64 1, .int .i64 1] ++ ((List.replicate 32 (0 : Int)).map (Value.int .u8) ++ [.slice none 0 0, .int .i64 0, .int .i64 0, .int .i64 0])) (pre := [.int .i64 1]) (z := [.int .i64 0]) (post := (List.replicate 32 (0 : Int)).map (Value.int .u8) ++ [.slice none 0 0, .int .i64 0, .int .i64 0, .int .i64 0]) rfl rfl (by simp [(List.length_replicate ..)]) (by simp) (by simp) (by simp [(List.length_replicate ..)]) (by simp [(List.length_replicate ..)]) .nil)))) ?_
 refine WL.val (Yl.build (places := [(0, 1), (1, 1), (2, 32), (34, 1), (35, 1), (36, 1), (37, 1)]) (cs := List.toArray ([.int .i64 2, .int .i64 0] ++ ((List.replicate 32 (0 : Int)).map (Value.int .u8) ++ [.slice none 0 0, .int .i64 0, .int .i64 0, .int .i64 0]))) Try.underlying46 zr46 (pl46 _ Try.underlying46) (partsB (.cons rfl .nil)) (Fills.run (a := [.int .i64 0, .int .i64 0] ++ ((List.replicate 32 (0 : Int)).map (Value.int .u8) ++ [.slice none 0 0, .int .i64 0, .int .i64 0, .int .i64 0])) (c := [.int .i64 2, .int .i64 0] ++ ((List.replicate 32 (0 : Int)).map (Value.int .u8) ++ [.slice none 0 0, .int .i64 0, .int .i64 0, .int .i64 0])) (.seg (off := 0) (n := 1) (us := [.int .i64 2]) (b := [.int .i64 2, .int .i64 0] ++ ((List.replicate 32 (0 : Int)).map (Value.int .u8) ++ [.slice none 0 0, .int .i64 0, .int .i64 0, .int .i64 0])) (pre := []) (z := [.int .i64 0]) (post := [.int .i64 0] ++ ((List.replicate 32 (0 : Int)).map (Value.int .u8) ++ [.slice none 0 0, .int .i64 0, .int .i64 0, .int .i64 0])) rfl rfl (by simp [(List.length_replicate ..)]) (by simp) (by simp) (by simp [(List.length_replicate ..)]) (by simp [(List.length_replicate ..)]) .nil))) ?_
 refine WL.val (Yl.build (places := [(0, 1), (1, 1), (2, 32), (34, 1), (35, 1), (36, 1), (37, 1)]) (cs := List.toArray ([.int .i64 3, .int .i64 0] ++ ((List.replicate 32 (0 : Int)).map (Value.int .u8) ++ [.slice none 0 0, .int .i64 1, .int .i64 9, .int .i64 0]))) Try.underlying46 zr46 (pl46 _ Try.underlying46) (partsB (.cons rfl (.cons rfl (.cons rfl .nil)))) (Fills.run (a := [.int .i64 0, .int .i64 0] ++ ((List.replicate 32 (0 : Int)).map (Value.int .u8) ++ [.slice none 0 0, .int .i64 0, .int .i64 0, .int .i64 0])) (c := [.int .i64 3, .int .i64 0] ++ ((List.replicate 32 (0 : Int)).map (Value.int .u8) ++ [.slice none 0 0, .int .i64 1, .int .i64 9, .int .i64 0])) (.seg (off := 0) (n := 1) (us := [.int .i64 3]) (b := [.int .i64 3, .int .i64 0] ++ ((List.replicate 32 (0 : Int)).map (Value.int .u8) ++ [.slice none 0 0, .int .i64 0, .int .i64 0, .int .i64 0])) (pre := []) (z := [.int .i64 0]) (post := [.int .i64 0] ++ ((List.replicate 32 (0 : Int)).map (Value.int .u8) ++ [.slice none 0 0, .int .i64 0, .int .i64 0, .int .i64 0])) rfl rfl (by simp [(List.length_replicate ..)]) (by simp) (by simp) (by simp [(List.length_replicate ..)]) (by simp [(List.length_replicate ..)]) (.seg (off := 35) (n := 1) (us := [.int .i64 1]) (b := [.int .i64 3, .int .i64 0] ++ ((List.replicate 32 (0 : Int)).map (Value.int .u8) ++ [.slice none 0 0, .int .i64 1, .int .i64 0, .int .i64 0])) (pre := [.int .i64 3, .int .i64 0] ++ ((List.replicate 32 (0 : Int)).map (Value.int .u8) ++ [.slice none 0 0])) (z := [.int .i64 0]) (post := [.int .i64 0, .int .i64 0]) rfl rfl (by simp [(List.length_replicate ..)]) (by simp) (by simp) (by simp [(List.length_replicate ..)]) (by simp [(List.length_replicate ..)]) (.seg (off := 36) (n := 1) (us := [.int .i64 9]) (b := [.int .i64 3, .int .i64 0] ++ ((List.replicate 32 (0 : Int)).map (Value.int .u8) ++ [.slice none 0 0, .int .i64 1, .int .i64 9, .int .i64 0])) (pre := [.int .i64 3, .int .i64 0] ++ ((List.replicate 32 (0 : Int)).map (Value.int .u8) ++ [.slice none 0 0, .int .i64 1])) (z := [.int .i64 0]) (post := [.int .i64 0]) rfl rfl (by simp [(List.length_replicate ..)]) (by simp) (by simp) (by simp [(List.length_replicate ..)]) (by simp [(List.length_replicate ..)]) .nil))))) ?_
 obtain ⟨A46, c47, n48, p49, w50, hn51, hy52, C53, hR54⟩ := ev_lit1' (P := Try.prog) 5 (Kd.int .u8) C45 Try.underlying44 ti5 ⟨by decide, by decide⟩ 7 (.int .u8 7) rfl
 refine WL.val (hy52 _ _ _ rfl) ?_
 refine WL.val (Yl.build (places := [(0, 1), (1, 1), (2, 32), (34, 1), (35, 1), (36, 1), (37, 1)]) (cs := List.toArray ([.int .i64 4, .int .i64 0] ++ ((List.replicate 32 (0 : Int)).map (Value.int .u8) ++ [.slice A46 n48 c47, .int .i64 1, .int .i64 0, .int .i64 0]))) Try.underlying46 zr46 (pl46 _ Try.underlying46) (partsB (.cons rfl (.cons rfl (.cons rfl .nil)))) (Fills.run (a := [.int .i64 0, .int .i64 0] ++ ((List.replicate 32 (0 : Int)).map (Value.int .u8) ++ [.slice none 0 0, .int .i64 0, .int .i64 0, .int .i64 0])) (c := [.int .i64 4, .int .i64 0] ++ ((List.replicate 32 (0 : Int)).map (Value.int .u8) ++ [.slice A46 n48 c47, .int .i64 1, .int .i64 0, .int .i64 0])) (.seg (off := 0) (n := 1) (us := [.int .i64 4]) (b := [.int .i64 4, .int .i64 0] ++ ((List.replicate 32 (0 : Int)).map (Value.int .u8) ++ [.slice none 0 0, .int .i64 0, .int .i64 0, .int .i64 0])) (pre := []) (z := [.int .i64 0]) (post := [.int .i64 0] ++ ((List.replicate 32 (0 : Int)).map (Value.int .u8) ++ [.slice none 0 0, .int .i64 0, .int .i64 0, .int .i64 0])) rfl rfl (by simp [(List.length_replicate ..)]) (by simp) (by simp) (by simp [(List.length_replicate ..)]) (by simp [(List.length_replicate ..)]) (.seg (off := 35) (n := 1) (us := [.int .i64 1]) (b := [.int .i64 4, .int .i64 0] ++ ((List.replicate 32 (0 : Int)).map (Value.int .u8) ++ [.slice none 0 0, .int .i64 1, .int .i64 0, .int .i64 0])) (pre := [.int .i64 4, .int .i64 0] ++ ((List.replicate 32 (0 : Int)).map (Value.int .u8) ++ [.slice none 0 0])) (z := [.int .i64 0]) (post := [.int .i64 0, .int .i64 0]) rfl rfl (by simp [(List.length_replicate ..)]) (by simp) (by simp) (by simp [(List.length_replicate ..)]) (by simp [(List.length_replicate ..)]) (.seg (off := 34) (n := 1) (us := [.slice A46 n48 c47]) (b := [.int .i64 4, .int .i64 0] ++ ((List.replicate 32 (0 : Int)).map (Value.int .u8) ++ [.slice A46 n48 c47, .int .i64 1, .int .i64 0, .int .i64 0])) (pre := [.int .i64 4, .int .i64 0] ++ ((List.replicate 32 (0 : Int)).map (Value.int .u8))) (z := [.slice none 0 0]) (post := [.int .i64 1, .int .i64 0, .int .i64 0]) rfl rfl (by simp [(List.length_replicate ..)]) (by simp) (by simp) (by simp [(List.length_replicate ..)]) (by simp [(List.length_replicate ..)]) .nil))))) ?_
 obtain ⟨F55, le56, lp57, (C58 : Ctx _ _ _ _ _ [CH.row g38 0 q4, p16, p22, p28, p34, CH.row g1 0 q2])⟩ := Ctx.fzI 0 C53 rfl
 obtain ⟨hl59, hm60, hS61⟩ := Row.fz hR54 le56 lp57
 have hR62 := Row.mono hR17 le56
 have hR63 := Row.mono hR23 le56
 have hR64 := Row.mono hR29 le56
 have hR65 := Row.mono hR35 le56
 let q6 : List Go.Value := [.agg (List.toArray ([.int .i64 1, .int .i64 1] ++ ((List.replicate 32 (0 : Int)).map (Value.int .u8) ++ [.slice none 0 0, .int .i64 0, .int .i64 0, .int .i64 0]))), .agg (List.toArray ([.int .i64 2, .int .i64 0] ++ ((List.replicate 32 (0 : Int)).map (Value.int .u8) ++ [.slice none 0 0, .int .i64 0, .int .i64 0, .int .i64 0]))), .agg (List.toArray ([.int .i64 3, .int .i64 0] ++ ((List.replicate 32 (0 : Int)).map (Value.int .u8) ++ [.slice none 0 0, .int .i64 1, .int .i64 9, .int .i64 0]))), .agg (List.toArray ([.int .i64 4, .int .i64 0] ++ ((List.replicate 32 (0 : Int)).map (Value.int .u8) ++ [.slice A46 n48 c47, .int .i64 1, .int .i64 0, .int .i64 0])))]
 obtain ⟨A66, c67, n68, p69, w70, hn71, hy72, C73, hR74⟩ := ev_lit' (P := Try.prog) 46 TRecord.K C58 Try.underlying24 ti46 (by decide) [(⟨1, 1, (List.replicate 32 (0 : Int)), ([] : List Int), 0, 0, 0⟩ : TRecord), (⟨2, 0, (List.replicate 32 (0 : Int)), ([] : List Int), 0, 0, 0⟩ : TRecord), (⟨3, 0, (List.replicate 32 (0 : Int)), ([] : List Int), 1, 9, 0⟩ : TRecord), (⟨4, 0, (List.replicate 32 (0 : Int)), [7], 1, 0, 0⟩ : TRecord)] q6 (.cons (TRecord.mk' _ (⟨1, 1, (List.replicate 32 (0 : Int)), ([] : List Int), 0, 0, 0⟩ : TRecord) none 0 0 (List.length_replicate ..) rfl (Nat.le_refl _) (Nat.zero_le _) (Sl.nil _ _ _ _)) (.cons (TRecord.mk' _ (⟨2, 0, (List.replicate 32 (0 : Int)), ([] : List Int), 0, 0, 0⟩ : TRecord) none 0 0 (List.length_replicate ..) rfl (Nat.le_refl _) (Nat.zero_le _) (Sl.nil _ _ _ _)) (.cons (TRecord.mk' _ (⟨3, 0, (List.replicate 32 (0 : Int)), ([] : List Int), 1, 9, 0⟩ : TRecord) none 0 0 (List.length_replicate ..) rfl (Nat.le_refl _) (Nat.zero_le _) (Sl.nil _ _ _ _)) (.cons (TRecord.mk' _ (⟨4, 0, (List.replicate 32 (0 : Int)), [7], 1, 0, 0⟩ : TRecord) A46 c47 n48 (List.length_replicate ..) hn51 hl59 hm60 hS61) .nil)))) 4 rfl (by decide) (by decide)
 refine WL.val (hy72 _ [(.tmp 12), (.tmp 13), (.tmp 14), (.tmp 16)] _ (.cons rfl (.cons rfl (.cons rfl (.cons rfl .nil))))) ?_
 refine WL.val (Yl.lenN (A := A66) (l := n68) (q := c67) (n := ([(⟨1, 1, (List.replicate 32 (0 : Int)), ([] : List Int), 0, 0, 0⟩ : TRecord), (⟨2, 0, (List.replicate 32 (0 : Int)), ([] : List Int), 0, 0, 0⟩ : TRecord), (⟨3, 0, (List.replicate 32 (0 : Int)), ([] : List Int), 1, 9, 0⟩ : TRecord), (⟨4, 0, (List.replicate 32 (0 : Int)), [7], 1, 0, 0⟩ : TRecord)].length : Int)) rfl Try.underlying24 (by omega)) ?_
 refine WL.val (Yl.move (v := .int .i64 0) rfl) ?_
 refine WL.done ?_
 obtain ⟨⟨x429, x430⟩, hX456, H⟩ := bindE H
 refine W.cutM (fun env_ w_ => ∃ (F425 : CH) (A431 : Option Addr) (c432 : Nat) (n433 : Nat) (p435 : CH) (A437 : Option Addr) (c438 : Nat) (n439 : Nat) (p441 : CH) (A443 : Option Addr) (c444 : Nat) (n445 : Nat) (p447 : CH) (A449 : Option Addr) (c450 : Nat) (n451 : Nat) (p453 : CH), env_ 2 = .pointer (some ⟨g38, 0, none⟩) ∧ env_ 3 = .int .i64 x429 ∧ Ctx w F D w_ F425 [CH.row g38 0 [.slice A431 n433 c432, .slice A437 n439 c438, .slice A443 n445 c444, .slice A449 n451 c450, .int .i64 x430.Heads], p435, p441, p447, p453, p69, CH.row g1 0 q2] ∧ CH.le F55 F425 ∧ n433 = x430.Eras.length ∧ Row TEra.K F425 p435 (.slice A431 n433 c432) x430.Eras ∧ n439 = x430.Jobs.length ∧ Row TJob.K F425 p441 (.slice A437 n439 c438) x430.Jobs ∧ n445 = x430.Used.length ∧ Row (Kd.int .i64) F425 p447 (.slice A443 n445 c444) x430.Used ∧ n451 = x430.Barred.length ∧ Row Kd.bool F425 p453 (.slice A449 n451 c450) x430.Barred) ?_ ?_
 ·refine W.block ?_
  have C703 : Ctx _ _ _ _ _ [CH.row g38 0 q4, p16, p22, p28, p34, p69, CH.row g1 0 q2] := Ctx.pick [1, 2, 3, 4, 5, 0, 6] C73 rfl
  refine W.loop (fun g_ env_ w_ => ∃ (x571 : Int) (x575 : Int) (x576 : TState) (F566 : CH) (A577 : Option Addr) (c578 : Nat) (n579 : Nat) (p581 : CH) (A583 : Option Addr) (c584 : Nat) (n585 : Nat) (p587 : CH) (A589 : Option Addr) (c590 : Nat) (n591 : Nat) (p593 : CH) (A595 : Option Addr) (c596 : Nat) (n597 : Nat) (p599 : CH), env_ 1 = .pointer (some ⟨g1, 0, none⟩) ∧ env_ 2 = .pointer (some ⟨g38, 0, none⟩) ∧ env_ 3 = .int .i64 x571 ∧ env_ 17 = .slice A66 n68 c67 ∧ env_ 18 = .int .i64 ([(⟨1, 1, (List.replicate 32 (0 : Int)), ([] : List Int), 0, 0, 0⟩ : TRecord), (⟨2, 0, (List.replicate 32 (0 : Int)), ([] : List Int), 0, 0, 0⟩ : TRecord), (⟨3, 0, (List.replicate 32 (0 : Int)), ([] : List Int), 1, 9, 0⟩ : TRecord), (⟨4, 0, (List.replicate 32 (0 : Int)), [7], 1, 0, 0⟩ : TRecord)].length : Int) ∧ env_ 19 = .int .i64 x575 ∧ Ctx w F D w_ F566 [CH.row g38 0 [.slice A577 n579 c578, .slice A583 n585 c584, .slice A589 n591 c590, .slice A595 n597 c596, .int .i64 x576.Heads], p581, p587, p593, p599, p69, CH.row g1 0 q2] ∧ CH.le F55 F566 ∧ n579 = x576.Eras.length ∧ Row TEra.K F566 p581 (.slice A577 n579 c578) x576.Eras ∧ n585 = x576.Jobs.length ∧ Row TJob.K F566 p587 (.slice A583 n585 c584) x576.Jobs ∧ n591 = x576.Used.length ∧ Row (Kd.int .i64) F566 p593 (.slice A589 n591 c590) x576.Used ∧ n597 = x576.Barred.length ∧ Row Kd.bool F566 p599 (.slice A595 n597 c596) x576.Barred ∧ juratlaw21_awake.l1 g_ x571 x575 x576 = some (x429, x430)) k ⟨r11, 0, r10, F55, A12, c13, n14, p16, A18, c19, n20, p22, A24, c25, n26, p28, A30, c31, n32, p34, rfl, rfl, rfl, rfl, rfl, rfl, C703, (CH.le_refl _), hn15, hR62, hn21, hR63, hn27, hR64, hn33, hR65, hX456⟩ ?_
  clear hX456
  rintro g_ env_ w_ ⟨x571, x575, x576, F566, A577, c578, n579, p581, A583, c584, n585, p587, A589, c590, n591, p593, A595, c596, n597, p599, ho568, ho569, ho570, ho572, ho573, ho574, C601, le567, hn580, hR582, hn586, hR588, hn592, hR594, hn598, hR600, hX456⟩
  rcases g_ with _ | k702
  · exact absurd hX456 (by simp [juratlaw21_awake.l1])
  rw [juratlaw21_awake.l1] at hX456
  have hR704 := Row.mono hR74 le567
  refine W.seq ?_
  refine W.region rfl ?_
  refine WL.val (Yl.lss (m := x575) (n := ([(⟨1, 1, (List.replicate 32 (0 : Int)), ([] : List Int), 0, 0, 0⟩ : TRecord), (⟨2, 0, (List.replicate 32 (0 : Int)), ([] : List Int), 0, 0, 0⟩ : TRecord), (⟨3, 0, (List.replicate 32 (0 : Int)), ([] : List Int), 1, 9, 0⟩ : TRecord), (⟨4, 0, (List.replicate 32 (0 : Int)), [7], 1, 0, 0⟩ : TRecord)].length : Int)) (q := decide (x575 < ([(⟨1, 1, (List.replicate 32 (0 : Int)), ([] : List Int), 0, 0, 0⟩ : TRecord), (⟨2, 0, (List.replicate 32 (0 : Int)), ([] : List Int), 0, 0, 0⟩ : TRecord), (⟨3, 0, (List.replicate 32 (0 : Int)), ([] : List Int), 1, 9, 0⟩ : TRecord), (⟨4, 0, (List.replicate 32 (0 : Int)), [7], 1, 0, 0⟩ : TRecord)].length : Int))) ho574 ho573 rfl) ?_
  refine WL.done ?_
  refine W.seq ?_
  rcases iteE hX456 with ⟨hc705, hX456⟩ | ⟨hc705, hX456⟩
  ·refine W.condT (congrArg Value.bool (decide_eq_true hc705)) ?_
   refine W.skip ?_
   refine W.seq ?_
   refine W.block ?_
   refine W.seq ?_
   refine W.region rfl ?_
   obtain ⟨hc706, hX456⟩ := guardE hX456
   obtain ⟨b707, of708, hA709, he710⟩ := (Row.sl hR704) (by omega)
   refine WL.val (Yl.elemAddr (i := x575) ho572 ho574 hA709 Try.underlying24 sz46 (by omega)) ?_
   obtain ⟨cs711, hr712, hx713⟩ := he710 x575.toNat _ (getD_some (d := TRecord.z) (by omega))
   obtain ⟨A715, c716, n717, rfl, ha714, hn718, hl719, hm720, hS721⟩ := TRecord.open hr712
   refine WL.val (Yl.loadAgg (cs := [.int .i64 (([(⟨1, 1, (List.replicate 32 (0 : Int)), ([] : List Int), 0, 0, 0⟩ : TRecord), (⟨2, 0, (List.replicate 32 (0 : Int)), ([] : List Int), 0, 0, 0⟩ : TRecord), (⟨3, 0, (List.replicate 32 (0 : Int)), ([] : List Int), 1, 9, 0⟩ : TRecord), (⟨4, 0, (List.replicate 32 (0 : Int)), [7], 1, 0, 0⟩ : TRecord)].getD x575.toNat TRecord.z).Kind), .int .i64 (([(⟨1, 1, (List.replicate 32 (0 : Int)), ([] : List Int), 0, 0, 0⟩ : TRecord), (⟨2, 0, (List.replicate 32 (0 : Int)), ([] : List Int), 0, 0, 0⟩ : TRecord), (⟨3, 0, (List.replicate 32 (0 : Int)), ([] : List Int), 1, 9, 0⟩ : TRecord), (⟨4, 0, (List.replicate 32 (0 : Int)), [7], 1, 0, 0⟩ : TRecord)].getD x575.toNat TRecord.z).Epoch)] ++ ((([(⟨1, 1, (List.replicate 32 (0 : Int)), ([] : List Int), 0, 0, 0⟩ : TRecord), (⟨2, 0, (List.replicate 32 (0 : Int)), ([] : List Int), 0, 0, 0⟩ : TRecord), (⟨3, 0, (List.replicate 32 (0 : Int)), ([] : List Int), 1, 9, 0⟩ : TRecord), (⟨4, 0, (List.replicate 32 (0 : Int)), [7], 1, 0, 0⟩ : TRecord)].getD x575.toNat TRecord.z).Nonce).map (Value.int .u8) ++ [.slice A715 n717 c716, .int .i64 (([(⟨1, 1, (List.replicate 32 (0 : Int)), ([] : List Int), 0, 0, 0⟩ : TRecord), (⟨2, 0, (List.replicate 32 (0 : Int)), ([] : List Int), 0, 0, 0⟩ : TRecord), (⟨3, 0, (List.replicate 32 (0 : Int)), ([] : List Int), 1, 9, 0⟩ : TRecord), (⟨4, 0, (List.replicate 32 (0 : Int)), [7], 1, 0, 0⟩ : TRecord)].getD x575.toNat TRecord.z).Job), .int .i64 (([(⟨1, 1, (List.replicate 32 (0 : Int)), ([] : List Int), 0, 0, 0⟩ : TRecord), (⟨2, 0, (List.replicate 32 (0 : Int)), ([] : List Int), 0, 0, 0⟩ : TRecord), (⟨3, 0, (List.replicate 32 (0 : Int)), ([] : List Int), 1, 9, 0⟩ : TRecord), (⟨4, 0, (List.replicate 32 (0 : Int)), [7], 1, 0, 0⟩ : TRecord)].getD x575.toNat TRecord.z).Time), .int .i64 (([(⟨1, 1, (List.replicate 32 (0 : Int)), ([] : List Int), 0, 0, 0⟩ : TRecord), (⟨2, 0, (List.replicate 32 (0 : Int)), ([] : List Int), 0, 0, 0⟩ : TRecord), (⟨3, 0, (List.replicate 32 (0 : Int)), ([] : List Int), 1, 9, 0⟩ : TRecord), (⟨4, 0, (List.replicate 32 (0 : Int)), [7], 1, 0, 0⟩ : TRecord)].getD x575.toNat TRecord.z).By)])) rfl Try.underlying46 rfl (sz_of sz46 (by first | (simp only [List.length_append, List.length_map, List.length_cons, List.length_nil, ha714]; done) | simp [ha714])) (fun j u hu => by rw [add_of]; exact ((Ctx.subI 5 C601 rfl)).cell (hx713 _ _ hu))) ?_
   obtain ⟨g722, w723, hy724, C725⟩ := ev_alloc (P := Try.prog) (e := 46) ([.int .i64 0, .int .i64 0] ++ ((List.replicate 32 (0 : Int)).map (Value.int .u8) ++ [.slice none 0 0, .int .i64 0, .int .i64 0, .int .i64 0])) C601 zr46 rfl
   refine WL.val (hy724 _ _) ?_
   obtain ⟨w726, hy727, C728⟩ := ev_set (P := Try.prog) (ps1 := []) (ps2 := [CH.row g38 0 [.slice A577 n579 c578, .slice A583 n585 c584, .slice A589 n591 c590, .slice A595 n597 c596, .int .i64 x576.Heads], p581, p587, p593, p599, p69, CH.row g1 0 [.int .i64 0, .int .i64 1, .int .i64 0, .int .i64 1, .int .i64 1, .int .i64 1, .int .i64 0]]) (t := 46) (o := 0) ([.int .i64 0, .int .i64 0] ++ ((List.replicate 32 (0 : Int)).map (Value.int .u8) ++ [.slice none 0 0, .int .i64 0, .int .i64 0, .int .i64 0])) [] ([.int .i64 0, .int .i64 0] ++ ((List.replicate 32 (0 : Int)).map (Value.int .u8) ++ [.slice none 0 0, .int .i64 0, .int .i64 0, .int .i64 0])) [] ([.int .i64 (([(⟨1, 1, (List.replicate 32 (0 : Int)), ([] : List Int), 0, 0, 0⟩ : TRecord), (⟨2, 0, (List.replicate 32 (0 : Int)), ([] : List Int), 0, 0, 0⟩ : TRecord), (⟨3, 0, (List.replicate 32 (0 : Int)), ([] : List Int), 1, 9, 0⟩ : TRecord), (⟨4, 0, (List.replicate 32 (0 : Int)), [7], 1, 0, 0⟩ : TRecord)].getD x575.toNat TRecord.z).Kind), .int .i64 (([(⟨1, 1, (List.replicate 32 (0 : Int)), ([] : List Int), 0, 0, 0⟩ : TRecord), (⟨2, 0, (List.replicate 32 (0 : Int)), ([] : List Int), 0, 0, 0⟩ : TRecord), (⟨3, 0, (List.replicate 32 (0 : Int)), ([] : List Int), 1, 9, 0⟩ : TRecord), (⟨4, 0, (List.replicate 32 (0 : Int)), [7], 1, 0, 0⟩ : TRecord)].getD x575.toNat TRecord.z).Epoch)] ++ ((([(⟨1, 1, (List.replicate 32 (0 : Int)), ([] : List Int), 0, 0, 0⟩ : TRecord), (⟨2, 0, (List.replicate 32 (0 : Int)), ([] : List Int), 0, 0, 0⟩ : TRecord), (⟨3, 0, (List.replicate 32 (0 : Int)), ([] : List Int), 1, 9, 0⟩ : TRecord), (⟨4, 0, (List.replicate 32 (0 : Int)), [7], 1, 0, 0⟩ : TRecord)].getD x575.toNat TRecord.z).Nonce).map (Value.int .u8) ++ [.slice A715 n717 c716, .int .i64 (([(⟨1, 1, (List.replicate 32 (0 : Int)), ([] : List Int), 0, 0, 0⟩ : TRecord), (⟨2, 0, (List.replicate 32 (0 : Int)), ([] : List Int), 0, 0, 0⟩ : TRecord), (⟨3, 0, (List.replicate 32 (0 : Int)), ([] : List Int), 1, 9, 0⟩ : TRecord), (⟨4, 0, (List.replicate 32 (0 : Int)), [7], 1, 0, 0⟩ : TRecord)].getD x575.toNat TRecord.z).Job), .int .i64 (([(⟨1, 1, (List.replicate 32 (0 : Int)), ([] : List Int), 0, 0, 0⟩ : TRecord), (⟨2, 0, (List.replicate 32 (0 : Int)), ([] : List Int), 0, 0, 0⟩ : TRecord), (⟨3, 0, (List.replicate 32 (0 : Int)), ([] : List Int), 1, 9, 0⟩ : TRecord), (⟨4, 0, (List.replicate 32 (0 : Int)), [7], 1, 0, 0⟩ : TRecord)].getD x575.toNat TRecord.z).Time), .int .i64 (([(⟨1, 1, (List.replicate 32 (0 : Int)), ([] : List Int), 0, 0, 0⟩ : TRecord), (⟨2, 0, (List.replicate 32 (0 : Int)), ([] : List Int), 0, 0, 0⟩ : TRecord), (⟨3, 0, (List.replicate 32 (0 : Int)), ([] : List Int), 1, 9, 0⟩ : TRecord), (⟨4, 0, (List.replicate 32 (0 : Int)), [7], 1, 0, 0⟩ : TRecord)].getD x575.toNat TRecord.z).By)])) (.agg (List.toArray ([.int .i64 (([(⟨1, 1, (List.replicate 32 (0 : Int)), ([] : List Int), 0, 0, 0⟩ : TRecord), (⟨2, 0, (List.replicate 32 (0 : Int)), ([] : List Int), 0, 0, 0⟩ : TRecord), (⟨3, 0, (List.replicate 32 (0 : Int)), ([] : List Int), 1, 9, 0⟩ : TRecord), (⟨4, 0, (List.replicate 32 (0 : Int)), [7], 1, 0, 0⟩ : TRecord)].getD x575.toNat TRecord.z).Kind), .int .i64 (([(⟨1, 1, (List.replicate 32 (0 : Int)), ([] : List Int), 0, 0, 0⟩ : TRecord), (⟨2, 0, (List.replicate 32 (0 : Int)), ([] : List Int), 0, 0, 0⟩ : TRecord), (⟨3, 0, (List.replicate 32 (0 : Int)), ([] : List Int), 1, 9, 0⟩ : TRecord), (⟨4, 0, (List.replicate 32 (0 : Int)), [7], 1, 0, 0⟩ : TRecord)].getD x575.toNat TRecord.z).Epoch)] ++ ((([(⟨1, 1, (List.replicate 32 (0 : Int)), ([] : List Int), 0, 0, 0⟩ : TRecord), (⟨2, 0, (List.replicate 32 (0 : Int)), ([] : List Int), 0, 0, 0⟩ : TRecord), (⟨3, 0, (List.replicate 32 (0 : Int)), ([] : List Int), 1, 9, 0⟩ : TRecord), (⟨4, 0, (List.replicate 32 (0 : Int)), [7], 1, 0, 0⟩ : TRecord)].getD x575.toNat TRecord.z).Nonce).map (Value.int .u8) ++ [.slice A715 n717 c716, .int .i64 (([(⟨1, 1, (List.replicate 32 (0 : Int)), ([] : List Int), 0, 0, 0⟩ : TRecord), (⟨2, 0, (List.replicate 32 (0 : Int)), ([] : List Int), 0, 0, 0⟩ : TRecord), (⟨3, 0, (List.replicate 32 (0 : Int)), ([] : List Int), 1, 9, 0⟩ : TRecord), (⟨4, 0, (List.replicate 32 (0 : Int)), [7], 1, 0, 0⟩ : TRecord)].getD x575.toNat TRecord.z).Job), .int .i64 (([(⟨1, 1, (List.replicate 32 (0 : Int)), ([] : List Int), 0, 0, 0⟩ : TRecord), (⟨2, 0, (List.replicate 32 (0 : Int)), ([] : List Int), 0, 0, 0⟩ : TRecord), (⟨3, 0, (List.replicate 32 (0 : Int)), ([] : List Int), 1, 9, 0⟩ : TRecord), (⟨4, 0, (List.replicate 32 (0 : Int)), [7], 1, 0, 0⟩ : TRecord)].getD x575.toNat TRecord.z).Time), .int .i64 (([(⟨1, 1, (List.replicate 32 (0 : Int)), ([] : List Int), 0, 0, 0⟩ : TRecord), (⟨2, 0, (List.replicate 32 (0 : Int)), ([] : List Int), 0, 0, 0⟩ : TRecord), (⟨3, 0, (List.replicate 32 (0 : Int)), ([] : List Int), 1, 9, 0⟩ : TRecord), (⟨4, 0, (List.replicate 32 (0 : Int)), [7], 1, 0, 0⟩ : TRecord)].getD x575.toNat TRecord.z).By)])))) C725 (by first | (simp only [List.length_append, List.length_map, List.length_cons, List.length_nil, (List.length_replicate ..), ha714]; done) | simp [(List.length_replicate ..), ha714]) (by first | (simp only [List.length_append, List.length_map, List.length_cons, List.length_nil, (List.length_replicate ..), ha714]; done) | simp [(List.length_replicate ..), ha714]) (by first | (simp only [List.length_append, List.length_map, List.length_cons, List.length_nil, (List.length_replicate ..), ha714]; done) | simp [(List.length_replicate ..), ha714]) rfl (ones_append (ones_of rfl) (ones_append (one_ints _ _) (ones_of rfl))) (sz_of sz46 (by first | (simp only [List.length_append, List.length_map, List.length_cons, List.length_nil, ha714]; done) | simp [ha714]))
   let q7 : List Go.Value := [.slice A577 n579 c578, .slice A583 n585 c584, .slice A589 n591 c590, .slice A595 n597 c596, .int .i64 x576.Heads]
   have C729 : Ctx _ _ _ _ _ [CH.row g722 0 ([.int .i64 (([(⟨1, 1, (List.replicate 32 (0 : Int)), ([] : List Int), 0, 0, 0⟩ : TRecord), (⟨2, 0, (List.replicate 32 (0 : Int)), ([] : List Int), 0, 0, 0⟩ : TRecord), (⟨3, 0, (List.replicate 32 (0 : Int)), ([] : List Int), 1, 9, 0⟩ : TRecord), (⟨4, 0, (List.replicate 32 (0 : Int)), [7], 1, 0, 0⟩ : TRecord)].getD x575.toNat TRecord.z).Kind), .int .i64 (([(⟨1, 1, (List.replicate 32 (0 : Int)), ([] : List Int), 0, 0, 0⟩ : TRecord), (⟨2, 0, (List.replicate 32 (0 : Int)), ([] : List Int), 0, 0, 0⟩ : TRecord), (⟨3, 0, (List.replicate 32 (0 : Int)), ([] : List Int), 1, 9, 0⟩ : TRecord), (⟨4, 0, (List.replicate 32 (0 : Int)), [7], 1, 0, 0⟩ : TRecord)].getD x575.toNat TRecord.z).Epoch)] ++ ((([(⟨1, 1, (List.replicate 32 (0 : Int)), ([] : List Int), 0, 0, 0⟩ : TRecord), (⟨2, 0, (List.replicate 32 (0 : Int)), ([] : List Int), 0, 0, 0⟩ : TRecord), (⟨3, 0, (List.replicate 32 (0 : Int)), ([] : List Int), 1, 9, 0⟩ : TRecord), (⟨4, 0, (List.replicate 32 (0 : Int)), [7], 1, 0, 0⟩ : TRecord)].getD x575.toNat TRecord.z).Nonce).map (Value.int .u8) ++ [.slice A715 n717 c716, .int .i64 (([(⟨1, 1, (List.replicate 32 (0 : Int)), ([] : List Int), 0, 0, 0⟩ : TRecord), (⟨2, 0, (List.replicate 32 (0 : Int)), ([] : List Int), 0, 0, 0⟩ : TRecord), (⟨3, 0, (List.replicate 32 (0 : Int)), ([] : List Int), 1, 9, 0⟩ : TRecord), (⟨4, 0, (List.replicate 32 (0 : Int)), [7], 1, 0, 0⟩ : TRecord)].getD x575.toNat TRecord.z).Job), .int .i64 (([(⟨1, 1, (List.replicate 32 (0 : Int)), ([] : List Int), 0, 0, 0⟩ : TRecord), (⟨2, 0, (List.replicate 32 (0 : Int)), ([] : List Int), 0, 0, 0⟩ : TRecord), (⟨3, 0, (List.replicate 32 (0 : Int)), ([] : List Int), 1, 9, 0⟩ : TRecord), (⟨4, 0, (List.replicate 32 (0 : Int)), [7], 1, 0, 0⟩ : TRecord)].getD x575.toNat TRecord.z).Time), .int .i64 (([(⟨1, 1, (List.replicate 32 (0 : Int)), ([] : List Int), 0, 0, 0⟩ : TRecord), (⟨2, 0, (List.replicate 32 (0 : Int)), ([] : List Int), 0, 0, 0⟩ : TRecord), (⟨3, 0, (List.replicate 32 (0 : Int)), ([] : List Int), 1, 9, 0⟩ : TRecord), (⟨4, 0, (List.replicate 32 (0 : Int)), [7], 1, 0, 0⟩ : TRecord)].getD x575.toNat TRecord.z).By)])), CH.row g38 0 q7, p581, p587, p593, p599, p69, CH.row g1 0 q2] := (by simpa using C728)
   refine WL.skip (hy727 _ _ _ _ rfl rfl) ?_
   refine WL.done ?_
   refine W.seq ?_
   refine W.region rfl ?_
   refine WL.val (Yl.move (v := .int .i64 x571) ho570) ?_
   refine WL.val (Yl.eql (m := x571) (n := 0) (q := decide (x571 = 0)) rfl rfl rfl) ?_
   refine WL.done ?_
   rcases iteE hX456 with ⟨hc730, hX456⟩ | ⟨hc730, hX456⟩
   ·refine W.condT (congrArg Value.bool (decide_eq_true hc730)) ?_
    refine W.region rfl ?_
    refine WL.val (Yl.loadVA (g := g1) (off := 0) (o := 0) (cs := q2) (us := [.int .i64 0, .int .i64 1, .int .i64 0, .int .i64 1, .int .i64 1, .int .i64 1, .int .i64 0]) ho568 Try.underlying23 rfl sz23 (Ctx.subI 7 C729 rfl) rfl) ?_
    refine WL.val (Yl.loadVA (g := g38) (off := 0) (o := 0) (cs := q7) (us := [.slice A577 n579 c578, .slice A583 n585 c584, .slice A589 n591 c590, .slice A595 n597 c596, .int .i64 x576.Heads]) ho569 Try.underlying32 rfl sz32 (Ctx.subI 1 C729 rfl) rfl) ?_
    refine WL.val (Yl.loadVA (g := g722) (off := 0) (o := 0) (cs := [.int .i64 (([(⟨1, 1, (List.replicate 32 (0 : Int)), ([] : List Int), 0, 0, 0⟩ : TRecord), (⟨2, 0, (List.replicate 32 (0 : Int)), ([] : List Int), 0, 0, 0⟩ : TRecord), (⟨3, 0, (List.replicate 32 (0 : Int)), ([] : List Int), 1, 9, 0⟩ : TRecord), (⟨4, 0, (List.replicate 32 (0 : Int)), [7], 1, 0, 0⟩ : TRecord)].getD x575.toNat TRecord.z).Kind), .int .i64 (([(⟨1, 1, (List.replicate 32 (0 : Int)), ([] : List Int), 0, 0, 0⟩ : TRecord), (⟨2, 0, (List.replicate 32 (0 : Int)), ([] : List Int), 0, 0, 0⟩ : TRecord), (⟨3, 0, (List.replicate 32 (0 : Int)), ([] : List Int), 1, 9, 0⟩ : TRecord), (⟨4, 0, (List.replicate 32 (0 : Int)), [7], 1, 0, 0⟩ : TRecord)].getD x575.toNat TRecord.z).Epoch)] ++ ((([(⟨1, 1, (List.replicate 32 (0 : Int)), ([] : List Int), 0, 0, 0⟩ : TRecord), (⟨2, 0, (List.replicate 32 (0 : Int)), ([] : List Int), 0, 0, 0⟩ : TRecord), (⟨3, 0, (List.replicate 32 (0 : Int)), ([] : List Int), 1, 9, 0⟩ : TRecord), (⟨4, 0, (List.replicate 32 (0 : Int)), [7], 1, 0, 0⟩ : TRecord)].getD x575.toNat TRecord.z).Nonce).map (Value.int .u8) ++ [.slice A715 n717 c716, .int .i64 (([(⟨1, 1, (List.replicate 32 (0 : Int)), ([] : List Int), 0, 0, 0⟩ : TRecord), (⟨2, 0, (List.replicate 32 (0 : Int)), ([] : List Int), 0, 0, 0⟩ : TRecord), (⟨3, 0, (List.replicate 32 (0 : Int)), ([] : List Int), 1, 9, 0⟩ : TRecord), (⟨4, 0, (List.replicate 32 (0 : Int)), [7], 1, 0, 0⟩ : TRecord)].getD x575.toNat TRecord.z).Job), .int .i64 (([(⟨1, 1, (List.replicate 32 (0 : Int)), ([] : List Int), 0, 0, 0⟩ : TRecord), (⟨2, 0, (List.replicate 32 (0 : Int)), ([] : List Int), 0, 0, 0⟩ : TRecord), (⟨3, 0, (List.replicate 32 (0 : Int)), ([] : List Int), 1, 9, 0⟩ : TRecord), (⟨4, 0, (List.replicate 32 (0 : Int)), [7], 1, 0, 0⟩ : TRecord)].getD x575.toNat TRecord.z).Time), .int .i64 (([(⟨1, 1, (List.replicate 32 (0 : Int)), ([] : List Int), 0, 0, 0⟩ : TRecord), (⟨2, 0, (List.replicate 32 (0 : Int)), ([] : List Int), 0, 0, 0⟩ : TRecord), (⟨3, 0, (List.replicate 32 (0 : Int)), ([] : List Int), 1, 9, 0⟩ : TRecord), (⟨4, 0, (List.replicate 32 (0 : Int)), [7], 1, 0, 0⟩ : TRecord)].getD x575.toNat TRecord.z).By)])) (us := [.int .i64 (([(⟨1, 1, (List.replicate 32 (0 : Int)), ([] : List Int), 0, 0, 0⟩ : TRecord), (⟨2, 0, (List.replicate 32 (0 : Int)), ([] : List Int), 0, 0, 0⟩ : TRecord), (⟨3, 0, (List.replicate 32 (0 : Int)), ([] : List Int), 1, 9, 0⟩ : TRecord), (⟨4, 0, (List.replicate 32 (0 : Int)), [7], 1, 0, 0⟩ : TRecord)].getD x575.toNat TRecord.z).Kind), .int .i64 (([(⟨1, 1, (List.replicate 32 (0 : Int)), ([] : List Int), 0, 0, 0⟩ : TRecord), (⟨2, 0, (List.replicate 32 (0 : Int)), ([] : List Int), 0, 0, 0⟩ : TRecord), (⟨3, 0, (List.replicate 32 (0 : Int)), ([] : List Int), 1, 9, 0⟩ : TRecord), (⟨4, 0, (List.replicate 32 (0 : Int)), [7], 1, 0, 0⟩ : TRecord)].getD x575.toNat TRecord.z).Epoch)] ++ ((([(⟨1, 1, (List.replicate 32 (0 : Int)), ([] : List Int), 0, 0, 0⟩ : TRecord), (⟨2, 0, (List.replicate 32 (0 : Int)), ([] : List Int), 0, 0, 0⟩ : TRecord), (⟨3, 0, (List.replicate 32 (0 : Int)), ([] : List Int), 1, 9, 0⟩ : TRecord), (⟨4, 0, (List.replicate 32 (0 : Int)), [7], 1, 0, 0⟩ : TRecord)].getD x575.toNat TRecord.z).Nonce).map (Value.int .u8) ++ [.slice A715 n717 c716, .int .i64 (([(⟨1, 1, (List.replicate 32 (0 : Int)), ([] : List Int), 0, 0, 0⟩ : TRecord), (⟨2, 0, (List.replicate 32 (0 : Int)), ([] : List Int), 0, 0, 0⟩ : TRecord), (⟨3, 0, (List.replicate 32 (0 : Int)), ([] : List Int), 1, 9, 0⟩ : TRecord), (⟨4, 0, (List.replicate 32 (0 : Int)), [7], 1, 0, 0⟩ : TRecord)].getD x575.toNat TRecord.z).Job), .int .i64 (([(⟨1, 1, (List.replicate 32 (0 : Int)), ([] : List Int), 0, 0, 0⟩ : TRecord), (⟨2, 0, (List.replicate 32 (0 : Int)), ([] : List Int), 0, 0, 0⟩ : TRecord), (⟨3, 0, (List.replicate 32 (0 : Int)), ([] : List Int), 1, 9, 0⟩ : TRecord), (⟨4, 0, (List.replicate 32 (0 : Int)), [7], 1, 0, 0⟩ : TRecord)].getD x575.toNat TRecord.z).Time), .int .i64 (([(⟨1, 1, (List.replicate 32 (0 : Int)), ([] : List Int), 0, 0, 0⟩ : TRecord), (⟨2, 0, (List.replicate 32 (0 : Int)), ([] : List Int), 0, 0, 0⟩ : TRecord), (⟨3, 0, (List.replicate 32 (0 : Int)), ([] : List Int), 1, 9, 0⟩ : TRecord), (⟨4, 0, (List.replicate 32 (0 : Int)), [7], 1, 0, 0⟩ : TRecord)].getD x575.toNat TRecord.z).By)])) rfl Try.underlying46 rfl (sz_of sz46 (by first | (simp only [List.length_append, List.length_map, List.length_cons, List.length_nil, ha714]; done) | simp [ha714])) (Ctx.subI 0 C729 rfl) (take_all _)) ?_
    obtain ⟨F731, le732, lp733, C734⟩ := Ctx.fzI 2 C729 rfl
    replace C734 : Ctx _ _ _ _ _ [CH.row g722 0 ([.int .i64 (([(⟨1, 1, (List.replicate 32 (0 : Int)), ([] : List Int), 0, 0, 0⟩ : TRecord), (⟨2, 0, (List.replicate 32 (0 : Int)), ([] : List Int), 0, 0, 0⟩ : TRecord), (⟨3, 0, (List.replicate 32 (0 : Int)), ([] : List Int), 1, 9, 0⟩ : TRecord), (⟨4, 0, (List.replicate 32 (0 : Int)), [7], 1, 0, 0⟩ : TRecord)].getD x575.toNat TRecord.z).Kind), .int .i64 (([(⟨1, 1, (List.replicate 32 (0 : Int)), ([] : List Int), 0, 0, 0⟩ : TRecord), (⟨2, 0, (List.replicate 32 (0 : Int)), ([] : List Int), 0, 0, 0⟩ : TRecord), (⟨3, 0, (List.replicate 32 (0 : Int)), ([] : List Int), 1, 9, 0⟩ : TRecord), (⟨4, 0, (List.replicate 32 (0 : Int)), [7], 1, 0, 0⟩ : TRecord)].getD x575.toNat TRecord.z).Epoch)] ++ ((([(⟨1, 1, (List.replicate 32 (0 : Int)), ([] : List Int), 0, 0, 0⟩ : TRecord), (⟨2, 0, (List.replicate 32 (0 : Int)), ([] : List Int), 0, 0, 0⟩ : TRecord), (⟨3, 0, (List.replicate 32 (0 : Int)), ([] : List Int), 1, 9, 0⟩ : TRecord), (⟨4, 0, (List.replicate 32 (0 : Int)), [7], 1, 0, 0⟩ : TRecord)].getD x575.toNat TRecord.z).Nonce).map (Value.int .u8) ++ [.slice A715 n717 c716, .int .i64 (([(⟨1, 1, (List.replicate 32 (0 : Int)), ([] : List Int), 0, 0, 0⟩ : TRecord), (⟨2, 0, (List.replicate 32 (0 : Int)), ([] : List Int), 0, 0, 0⟩ : TRecord), (⟨3, 0, (List.replicate 32 (0 : Int)), ([] : List Int), 1, 9, 0⟩ : TRecord), (⟨4, 0, (List.replicate 32 (0 : Int)), [7], 1, 0, 0⟩ : TRecord)].getD x575.toNat TRecord.z).Job), .int .i64 (([(⟨1, 1, (List.replicate 32 (0 : Int)), ([] : List Int), 0, 0, 0⟩ : TRecord), (⟨2, 0, (List.replicate 32 (0 : Int)), ([] : List Int), 0, 0, 0⟩ : TRecord), (⟨3, 0, (List.replicate 32 (0 : Int)), ([] : List Int), 1, 9, 0⟩ : TRecord), (⟨4, 0, (List.replicate 32 (0 : Int)), [7], 1, 0, 0⟩ : TRecord)].getD x575.toNat TRecord.z).Time), .int .i64 (([(⟨1, 1, (List.replicate 32 (0 : Int)), ([] : List Int), 0, 0, 0⟩ : TRecord), (⟨2, 0, (List.replicate 32 (0 : Int)), ([] : List Int), 0, 0, 0⟩ : TRecord), (⟨3, 0, (List.replicate 32 (0 : Int)), ([] : List Int), 1, 9, 0⟩ : TRecord), (⟨4, 0, (List.replicate 32 (0 : Int)), [7], 1, 0, 0⟩ : TRecord)].getD x575.toNat TRecord.z).By)])), CH.row g38 0 q7, p587, p593, p599, p69, CH.row g1 0 q2] := C734
    obtain ⟨hl735, hm736, hS737⟩ := Row.fz hR582 le732 lp733
    have hR738 := Row.mono hR704 le732
    have hR739 := Row.mono hR588 le732
    have hR740 := Row.mono hR594 le732
    have hR741 := Row.mono hR600 le732
    obtain ⟨F742, le743, lp744, C745⟩ := Ctx.fzI 2 C734 rfl
    replace C745 : Ctx _ _ _ _ _ [CH.row g722 0 ([.int .i64 (([(⟨1, 1, (List.replicate 32 (0 : Int)), ([] : List Int), 0, 0, 0⟩ : TRecord), (⟨2, 0, (List.replicate 32 (0 : Int)), ([] : List Int), 0, 0, 0⟩ : TRecord), (⟨3, 0, (List.replicate 32 (0 : Int)), ([] : List Int), 1, 9, 0⟩ : TRecord), (⟨4, 0, (List.replicate 32 (0 : Int)), [7], 1, 0, 0⟩ : TRecord)].getD x575.toNat TRecord.z).Kind), .int .i64 (([(⟨1, 1, (List.replicate 32 (0 : Int)), ([] : List Int), 0, 0, 0⟩ : TRecord), (⟨2, 0, (List.replicate 32 (0 : Int)), ([] : List Int), 0, 0, 0⟩ : TRecord), (⟨3, 0, (List.replicate 32 (0 : Int)), ([] : List Int), 1, 9, 0⟩ : TRecord), (⟨4, 0, (List.replicate 32 (0 : Int)), [7], 1, 0, 0⟩ : TRecord)].getD x575.toNat TRecord.z).Epoch)] ++ ((([(⟨1, 1, (List.replicate 32 (0 : Int)), ([] : List Int), 0, 0, 0⟩ : TRecord), (⟨2, 0, (List.replicate 32 (0 : Int)), ([] : List Int), 0, 0, 0⟩ : TRecord), (⟨3, 0, (List.replicate 32 (0 : Int)), ([] : List Int), 1, 9, 0⟩ : TRecord), (⟨4, 0, (List.replicate 32 (0 : Int)), [7], 1, 0, 0⟩ : TRecord)].getD x575.toNat TRecord.z).Nonce).map (Value.int .u8) ++ [.slice A715 n717 c716, .int .i64 (([(⟨1, 1, (List.replicate 32 (0 : Int)), ([] : List Int), 0, 0, 0⟩ : TRecord), (⟨2, 0, (List.replicate 32 (0 : Int)), ([] : List Int), 0, 0, 0⟩ : TRecord), (⟨3, 0, (List.replicate 32 (0 : Int)), ([] : List Int), 1, 9, 0⟩ : TRecord), (⟨4, 0, (List.replicate 32 (0 : Int)), [7], 1, 0, 0⟩ : TRecord)].getD x575.toNat TRecord.z).Job), .int .i64 (([(⟨1, 1, (List.replicate 32 (0 : Int)), ([] : List Int), 0, 0, 0⟩ : TRecord), (⟨2, 0, (List.replicate 32 (0 : Int)), ([] : List Int), 0, 0, 0⟩ : TRecord), (⟨3, 0, (List.replicate 32 (0 : Int)), ([] : List Int), 1, 9, 0⟩ : TRecord), (⟨4, 0, (List.replicate 32 (0 : Int)), [7], 1, 0, 0⟩ : TRecord)].getD x575.toNat TRecord.z).Time), .int .i64 (([(⟨1, 1, (List.replicate 32 (0 : Int)), ([] : List Int), 0, 0, 0⟩ : TRecord), (⟨2, 0, (List.replicate 32 (0 : Int)), ([] : List Int), 0, 0, 0⟩ : TRecord), (⟨3, 0, (List.replicate 32 (0 : Int)), ([] : List Int), 1, 9, 0⟩ : TRecord), (⟨4, 0, (List.replicate 32 (0 : Int)), [7], 1, 0, 0⟩ : TRecord)].getD x575.toNat TRecord.z).By)])), CH.row g38 0 q7, p593, p599, p69, CH.row g1 0 q2] := C745
    obtain ⟨hl746, hm747, hS748⟩ := Row.fz hR739 le743 lp744
    have hR749 := Row.mono hR738 le743
    have hR750 := Row.mono hR740 le743
    have hR751 := Row.mono hR741 le743
    obtain ⟨F752, le753, lp754, C755⟩ := Ctx.fzI 2 C745 rfl
    replace C755 : Ctx _ _ _ _ _ [CH.row g722 0 ([.int .i64 (([(⟨1, 1, (List.replicate 32 (0 : Int)), ([] : List Int), 0, 0, 0⟩ : TRecord), (⟨2, 0, (List.replicate 32 (0 : Int)), ([] : List Int), 0, 0, 0⟩ : TRecord), (⟨3, 0, (List.replicate 32 (0 : Int)), ([] : List Int), 1, 9, 0⟩ : TRecord), (⟨4, 0, (List.replicate 32 (0 : Int)), [7], 1, 0, 0⟩ : TRecord)].getD x575.toNat TRecord.z).Kind), .int .i64 (([(⟨1, 1, (List.replicate 32 (0 : Int)), ([] : List Int), 0, 0, 0⟩ : TRecord), (⟨2, 0, (List.replicate 32 (0 : Int)), ([] : List Int), 0, 0, 0⟩ : TRecord), (⟨3, 0, (List.replicate 32 (0 : Int)), ([] : List Int), 1, 9, 0⟩ : TRecord), (⟨4, 0, (List.replicate 32 (0 : Int)), [7], 1, 0, 0⟩ : TRecord)].getD x575.toNat TRecord.z).Epoch)] ++ ((([(⟨1, 1, (List.replicate 32 (0 : Int)), ([] : List Int), 0, 0, 0⟩ : TRecord), (⟨2, 0, (List.replicate 32 (0 : Int)), ([] : List Int), 0, 0, 0⟩ : TRecord), (⟨3, 0, (List.replicate 32 (0 : Int)), ([] : List Int), 1, 9, 0⟩ : TRecord), (⟨4, 0, (List.replicate 32 (0 : Int)), [7], 1, 0, 0⟩ : TRecord)].getD x575.toNat TRecord.z).Nonce).map (Value.int .u8) ++ [.slice A715 n717 c716, .int .i64 (([(⟨1, 1, (List.replicate 32 (0 : Int)), ([] : List Int), 0, 0, 0⟩ : TRecord), (⟨2, 0, (List.replicate 32 (0 : Int)), ([] : List Int), 0, 0, 0⟩ : TRecord), (⟨3, 0, (List.replicate 32 (0 : Int)), ([] : List Int), 1, 9, 0⟩ : TRecord), (⟨4, 0, (List.replicate 32 (0 : Int)), [7], 1, 0, 0⟩ : TRecord)].getD x575.toNat TRecord.z).Job), .int .i64 (([(⟨1, 1, (List.replicate 32 (0 : Int)), ([] : List Int), 0, 0, 0⟩ : TRecord), (⟨2, 0, (List.replicate 32 (0 : Int)), ([] : List Int), 0, 0, 0⟩ : TRecord), (⟨3, 0, (List.replicate 32 (0 : Int)), ([] : List Int), 1, 9, 0⟩ : TRecord), (⟨4, 0, (List.replicate 32 (0 : Int)), [7], 1, 0, 0⟩ : TRecord)].getD x575.toNat TRecord.z).Time), .int .i64 (([(⟨1, 1, (List.replicate 32 (0 : Int)), ([] : List Int), 0, 0, 0⟩ : TRecord), (⟨2, 0, (List.replicate 32 (0 : Int)), ([] : List Int), 0, 0, 0⟩ : TRecord), (⟨3, 0, (List.replicate 32 (0 : Int)), ([] : List Int), 1, 9, 0⟩ : TRecord), (⟨4, 0, (List.replicate 32 (0 : Int)), [7], 1, 0, 0⟩ : TRecord)].getD x575.toNat TRecord.z).By)])), CH.row g38 0 q7, p599, p69, CH.row g1 0 q2] := C755
    obtain ⟨hl756, hm757, hS758⟩ := Row.fz hR750 le753 lp754
    have hR759 := Row.mono hR749 le753
    have hR760 := Row.mono hR751 le753
    obtain ⟨F761, le762, lp763, C764⟩ := Ctx.fzI 2 C755 rfl
    replace C764 : Ctx _ _ _ _ _ [CH.row g722 0 ([.int .i64 (([(⟨1, 1, (List.replicate 32 (0 : Int)), ([] : List Int), 0, 0, 0⟩ : TRecord), (⟨2, 0, (List.replicate 32 (0 : Int)), ([] : List Int), 0, 0, 0⟩ : TRecord), (⟨3, 0, (List.replicate 32 (0 : Int)), ([] : List Int), 1, 9, 0⟩ : TRecord), (⟨4, 0, (List.replicate 32 (0 : Int)), [7], 1, 0, 0⟩ : TRecord)].getD x575.toNat TRecord.z).Kind), .int .i64 (([(⟨1, 1, (List.replicate 32 (0 : Int)), ([] : List Int), 0, 0, 0⟩ : TRecord), (⟨2, 0, (List.replicate 32 (0 : Int)), ([] : List Int), 0, 0, 0⟩ : TRecord), (⟨3, 0, (List.replicate 32 (0 : Int)), ([] : List Int), 1, 9, 0⟩ : TRecord), (⟨4, 0, (List.replicate 32 (0 : Int)), [7], 1, 0, 0⟩ : TRecord)].getD x575.toNat TRecord.z).Epoch)] ++ ((([(⟨1, 1, (List.replicate 32 (0 : Int)), ([] : List Int), 0, 0, 0⟩ : TRecord), (⟨2, 0, (List.replicate 32 (0 : Int)), ([] : List Int), 0, 0, 0⟩ : TRecord), (⟨3, 0, (List.replicate 32 (0 : Int)), ([] : List Int), 1, 9, 0⟩ : TRecord), (⟨4, 0, (List.replicate 32 (0 : Int)), [7], 1, 0, 0⟩ : TRecord)].getD x575.toNat TRecord.z).Nonce).map (Value.int .u8) ++ [.slice A715 n717 c716, .int .i64 (([(⟨1, 1, (List.replicate 32 (0 : Int)), ([] : List Int), 0, 0, 0⟩ : TRecord), (⟨2, 0, (List.replicate 32 (0 : Int)), ([] : List Int), 0, 0, 0⟩ : TRecord), (⟨3, 0, (List.replicate 32 (0 : Int)), ([] : List Int), 1, 9, 0⟩ : TRecord), (⟨4, 0, (List.replicate 32 (0 : Int)), [7], 1, 0, 0⟩ : TRecord)].getD x575.toNat TRecord.z).Job), .int .i64 (([(⟨1, 1, (List.replicate 32 (0 : Int)), ([] : List Int), 0, 0, 0⟩ : TRecord), (⟨2, 0, (List.replicate 32 (0 : Int)), ([] : List Int), 0, 0, 0⟩ : TRecord), (⟨3, 0, (List.replicate 32 (0 : Int)), ([] : List Int), 1, 9, 0⟩ : TRecord), (⟨4, 0, (List.replicate 32 (0 : Int)), [7], 1, 0, 0⟩ : TRecord)].getD x575.toNat TRecord.z).Time), .int .i64 (([(⟨1, 1, (List.replicate 32 (0 : Int)), ([] : List Int), 0, 0, 0⟩ : TRecord), (⟨2, 0, (List.replicate 32 (0 : Int)), ([] : List Int), 0, 0, 0⟩ : TRecord), (⟨3, 0, (List.replicate 32 (0 : Int)), ([] : List Int), 1, 9, 0⟩ : TRecord), (⟨4, 0, (List.replicate 32 (0 : Int)), [7], 1, 0, 0⟩ : TRecord)].getD x575.toNat TRecord.z).By)])), CH.row g38 0 q7, p69, CH.row g1 0 q2] := C764
    obtain ⟨hl765, hm766, hS767⟩ := Row.fz hR760 le762 lp763
    have hR768 := Row.mono hR759 le762
    obtain ⟨⟨r770, r771⟩, hg769, hX456⟩ := bindE hX456
    refine WL.callH (docket_Apply.calls k702 _ F761 (⟨0, 1, 0, 1, 1, 1, 0⟩ : TConfig) A577 c578 n579 A583 c584 n585 A589 c590 n591 A595 c596 n597 x576 A715 c716 n717 ([(⟨1, 1, (List.replicate 32 (0 : Int)), ([] : List Int), 0, 0, 0⟩ : TRecord), (⟨2, 0, (List.replicate 32 (0 : Int)), ([] : List Int), 0, 0, 0⟩ : TRecord), (⟨3, 0, (List.replicate 32 (0 : Int)), ([] : List Int), 1, 9, 0⟩ : TRecord), (⟨4, 0, (List.replicate 32 (0 : Int)), [7], 1, 0, 0⟩ : TRecord)].getD x575.toNat TRecord.z) (Ctx.pre (qs := []) (rest := [CH.row g722 0 ([.int .i64 (([(⟨1, 1, (List.replicate 32 (0 : Int)), ([] : List Int), 0, 0, 0⟩ : TRecord), (⟨2, 0, (List.replicate 32 (0 : Int)), ([] : List Int), 0, 0, 0⟩ : TRecord), (⟨3, 0, (List.replicate 32 (0 : Int)), ([] : List Int), 1, 9, 0⟩ : TRecord), (⟨4, 0, (List.replicate 32 (0 : Int)), [7], 1, 0, 0⟩ : TRecord)].getD x575.toNat TRecord.z).Kind), .int .i64 (([(⟨1, 1, (List.replicate 32 (0 : Int)), ([] : List Int), 0, 0, 0⟩ : TRecord), (⟨2, 0, (List.replicate 32 (0 : Int)), ([] : List Int), 0, 0, 0⟩ : TRecord), (⟨3, 0, (List.replicate 32 (0 : Int)), ([] : List Int), 1, 9, 0⟩ : TRecord), (⟨4, 0, (List.replicate 32 (0 : Int)), [7], 1, 0, 0⟩ : TRecord)].getD x575.toNat TRecord.z).Epoch)] ++ ((([(⟨1, 1, (List.replicate 32 (0 : Int)), ([] : List Int), 0, 0, 0⟩ : TRecord), (⟨2, 0, (List.replicate 32 (0 : Int)), ([] : List Int), 0, 0, 0⟩ : TRecord), (⟨3, 0, (List.replicate 32 (0 : Int)), ([] : List Int), 1, 9, 0⟩ : TRecord), (⟨4, 0, (List.replicate 32 (0 : Int)), [7], 1, 0, 0⟩ : TRecord)].getD x575.toNat TRecord.z).Nonce).map (Value.int .u8) ++ [.slice A715 n717 c716, .int .i64 (([(⟨1, 1, (List.replicate 32 (0 : Int)), ([] : List Int), 0, 0, 0⟩ : TRecord), (⟨2, 0, (List.replicate 32 (0 : Int)), ([] : List Int), 0, 0, 0⟩ : TRecord), (⟨3, 0, (List.replicate 32 (0 : Int)), ([] : List Int), 1, 9, 0⟩ : TRecord), (⟨4, 0, (List.replicate 32 (0 : Int)), [7], 1, 0, 0⟩ : TRecord)].getD x575.toNat TRecord.z).Job), .int .i64 (([(⟨1, 1, (List.replicate 32 (0 : Int)), ([] : List Int), 0, 0, 0⟩ : TRecord), (⟨2, 0, (List.replicate 32 (0 : Int)), ([] : List Int), 0, 0, 0⟩ : TRecord), (⟨3, 0, (List.replicate 32 (0 : Int)), ([] : List Int), 1, 9, 0⟩ : TRecord), (⟨4, 0, (List.replicate 32 (0 : Int)), [7], 1, 0, 0⟩ : TRecord)].getD x575.toNat TRecord.z).Time), .int .i64 (([(⟨1, 1, (List.replicate 32 (0 : Int)), ([] : List Int), 0, 0, 0⟩ : TRecord), (⟨2, 0, (List.replicate 32 (0 : Int)), ([] : List Int), 0, 0, 0⟩ : TRecord), (⟨3, 0, (List.replicate 32 (0 : Int)), ([] : List Int), 1, 9, 0⟩ : TRecord), (⟨4, 0, (List.replicate 32 (0 : Int)), [7], 1, 0, 0⟩ : TRecord)].getD x575.toNat TRecord.z).By)])), CH.row g38 0 q7, p69, CH.row g1 0 q2]) C764) hn580 hl735 hm736 (Sl.mono hS737 (CH.le_trans le743 (CH.le_trans le753 le762)) (CH.le_trans le743 (CH.le_trans le753 le762))) hn586 hl746 hm747 (Sl.mono hS748 (CH.le_trans le753 le762) (CH.le_trans le753 le762)) hn592 hl756 hm757 (Sl.mono hS758 le762 le762) hn598 hl765 hm766 hS767 ha714 hn718 hl719 hm720 (Sl.mono hS721 (CH.le_trans le732 (CH.le_trans le743 (CH.le_trans le753 le762))) (CH.le_trans le732 (CH.le_trans le743 (CH.le_trans le753 le762)))) r770 r771 hg769) (Yenter.fn Try.func14 (by kernel_rfl) rfl (argsE (.cons rfl (.cons rfl (.cons rfl .nil))))) ?_
    rintro e_ w_ ⟨F772, A774, c775, n776, p778, A780, c781, n782, p784, A786, c787, n788, p790, A792, c793, n794, p796, rfl, le773, C798, hn777, hR779, hn783, hR785, hn789, hR791, hn795, hR797⟩
    refine ⟨_, rfl, ?_⟩
    have C799 : Ctx _ _ _ _ _ [p778, p784, p790, p796, CH.row g722 0 ([.int .i64 (([(⟨1, 1, (List.replicate 32 (0 : Int)), ([] : List Int), 0, 0, 0⟩ : TRecord), (⟨2, 0, (List.replicate 32 (0 : Int)), ([] : List Int), 0, 0, 0⟩ : TRecord), (⟨3, 0, (List.replicate 32 (0 : Int)), ([] : List Int), 1, 9, 0⟩ : TRecord), (⟨4, 0, (List.replicate 32 (0 : Int)), [7], 1, 0, 0⟩ : TRecord)].getD x575.toNat TRecord.z).Kind), .int .i64 (([(⟨1, 1, (List.replicate 32 (0 : Int)), ([] : List Int), 0, 0, 0⟩ : TRecord), (⟨2, 0, (List.replicate 32 (0 : Int)), ([] : List Int), 0, 0, 0⟩ : TRecord), (⟨3, 0, (List.replicate 32 (0 : Int)), ([] : List Int), 1, 9, 0⟩ : TRecord), (⟨4, 0, (List.replicate 32 (0 : Int)), [7], 1, 0, 0⟩ : TRecord)].getD x575.toNat TRecord.z).Epoch)] ++ ((([(⟨1, 1, (List.replicate 32 (0 : Int)), ([] : List Int), 0, 0, 0⟩ : TRecord), (⟨2, 0, (List.replicate 32 (0 : Int)), ([] : List Int), 0, 0, 0⟩ : TRecord), (⟨3, 0, (List.replicate 32 (0 : Int)), ([] : List Int), 1, 9, 0⟩ : TRecord), (⟨4, 0, (List.replicate 32 (0 : Int)), [7], 1, 0, 0⟩ : TRecord)].getD x575.toNat TRecord.z).Nonce).map (Value.int .u8) ++ [.slice A715 n717 c716, .int .i64 (([(⟨1, 1, (List.replicate 32 (0 : Int)), ([] : List Int), 0, 0, 0⟩ : TRecord), (⟨2, 0, (List.replicate 32 (0 : Int)), ([] : List Int), 0, 0, 0⟩ : TRecord), (⟨3, 0, (List.replicate 32 (0 : Int)), ([] : List Int), 1, 9, 0⟩ : TRecord), (⟨4, 0, (List.replicate 32 (0 : Int)), [7], 1, 0, 0⟩ : TRecord)].getD x575.toNat TRecord.z).Job), .int .i64 (([(⟨1, 1, (List.replicate 32 (0 : Int)), ([] : List Int), 0, 0, 0⟩ : TRecord), (⟨2, 0, (List.replicate 32 (0 : Int)), ([] : List Int), 0, 0, 0⟩ : TRecord), (⟨3, 0, (List.replicate 32 (0 : Int)), ([] : List Int), 1, 9, 0⟩ : TRecord), (⟨4, 0, (List.replicate 32 (0 : Int)), [7], 1, 0, 0⟩ : TRecord)].getD x575.toNat TRecord.z).Time), .int .i64 (([(⟨1, 1, (List.replicate 32 (0 : Int)), ([] : List Int), 0, 0, 0⟩ : TRecord), (⟨2, 0, (List.replicate 32 (0 : Int)), ([] : List Int), 0, 0, 0⟩ : TRecord), (⟨3, 0, (List.replicate 32 (0 : Int)), ([] : List Int), 1, 9, 0⟩ : TRecord), (⟨4, 0, (List.replicate 32 (0 : Int)), [7], 1, 0, 0⟩ : TRecord)].getD x575.toNat TRecord.z).By)])), CH.row g38 0 q7, p69, CH.row g1 0 q2] := Ctx.call (qs := []) (rest := [CH.row g722 0 ([.int .i64 (([(⟨1, 1, (List.replicate 32 (0 : Int)), ([] : List Int), 0, 0, 0⟩ : TRecord), (⟨2, 0, (List.replicate 32 (0 : Int)), ([] : List Int), 0, 0, 0⟩ : TRecord), (⟨3, 0, (List.replicate 32 (0 : Int)), ([] : List Int), 1, 9, 0⟩ : TRecord), (⟨4, 0, (List.replicate 32 (0 : Int)), [7], 1, 0, 0⟩ : TRecord)].getD x575.toNat TRecord.z).Kind), .int .i64 (([(⟨1, 1, (List.replicate 32 (0 : Int)), ([] : List Int), 0, 0, 0⟩ : TRecord), (⟨2, 0, (List.replicate 32 (0 : Int)), ([] : List Int), 0, 0, 0⟩ : TRecord), (⟨3, 0, (List.replicate 32 (0 : Int)), ([] : List Int), 1, 9, 0⟩ : TRecord), (⟨4, 0, (List.replicate 32 (0 : Int)), [7], 1, 0, 0⟩ : TRecord)].getD x575.toNat TRecord.z).Epoch)] ++ ((([(⟨1, 1, (List.replicate 32 (0 : Int)), ([] : List Int), 0, 0, 0⟩ : TRecord), (⟨2, 0, (List.replicate 32 (0 : Int)), ([] : List Int), 0, 0, 0⟩ : TRecord), (⟨3, 0, (List.replicate 32 (0 : Int)), ([] : List Int), 1, 9, 0⟩ : TRecord), (⟨4, 0, (List.replicate 32 (0 : Int)), [7], 1, 0, 0⟩ : TRecord)].getD x575.toNat TRecord.z).Nonce).map (Value.int .u8) ++ [.slice A715 n717 c716, .int .i64 (([(⟨1, 1, (List.replicate 32 (0 : Int)), ([] : List Int), 0, 0, 0⟩ : TRecord), (⟨2, 0, (List.replicate 32 (0 : Int)), ([] : List Int), 0, 0, 0⟩ : TRecord), (⟨3, 0, (List.replicate 32 (0 : Int)), ([] : List Int), 1, 9, 0⟩ : TRecord), (⟨4, 0, (List.replicate 32 (0 : Int)), [7], 1, 0, 0⟩ : TRecord)].getD x575.toNat TRecord.z).Job), .int .i64 (([(⟨1, 1, (List.replicate 32 (0 : Int)), ([] : List Int), 0, 0, 0⟩ : TRecord), (⟨2, 0, (List.replicate 32 (0 : Int)), ([] : List Int), 0, 0, 0⟩ : TRecord), (⟨3, 0, (List.replicate 32 (0 : Int)), ([] : List Int), 1, 9, 0⟩ : TRecord), (⟨4, 0, (List.replicate 32 (0 : Int)), [7], 1, 0, 0⟩ : TRecord)].getD x575.toNat TRecord.z).Time), .int .i64 (([(⟨1, 1, (List.replicate 32 (0 : Int)), ([] : List Int), 0, 0, 0⟩ : TRecord), (⟨2, 0, (List.replicate 32 (0 : Int)), ([] : List Int), 0, 0, 0⟩ : TRecord), (⟨3, 0, (List.replicate 32 (0 : Int)), ([] : List Int), 1, 9, 0⟩ : TRecord), (⟨4, 0, (List.replicate 32 (0 : Int)), [7], 1, 0, 0⟩ : TRecord)].getD x575.toNat TRecord.z).By)])), CH.row g38 0 q7, p69, CH.row g1 0 q2]) C764 C798
    have hR800 := Row.mono hR768 le773
    let q8 : List Go.Value := [.slice A774 n776 c775, .slice A780 n782 c781, .slice A786 n788 c787, .slice A792 n794 c793, .int .i64 r770.Heads]
    refine WL.val (Yl.move (v := .tuple #[(.agg (List.toArray q8)), (.int .i64 r771)]) rfl) ?_
    refine WL.val (Yl.extract (v := .agg (List.toArray q8)) rfl rfl) ?_
    refine WL.val (Yl.extract (v := .int .i64 r771) rfl rfl) ?_
    obtain ⟨w801, hy802, C803⟩ := ev_setI (P := Try.prog) (ps1 := [p778, p784, p790, p796, CH.row g722 0 ([.int .i64 (([(⟨1, 1, (List.replicate 32 (0 : Int)), ([] : List Int), 0, 0, 0⟩ : TRecord), (⟨2, 0, (List.replicate 32 (0 : Int)), ([] : List Int), 0, 0, 0⟩ : TRecord), (⟨3, 0, (List.replicate 32 (0 : Int)), ([] : List Int), 1, 9, 0⟩ : TRecord), (⟨4, 0, (List.replicate 32 (0 : Int)), [7], 1, 0, 0⟩ : TRecord)].getD x575.toNat TRecord.z).Kind), .int .i64 (([(⟨1, 1, (List.replicate 32 (0 : Int)), ([] : List Int), 0, 0, 0⟩ : TRecord), (⟨2, 0, (List.replicate 32 (0 : Int)), ([] : List Int), 0, 0, 0⟩ : TRecord), (⟨3, 0, (List.replicate 32 (0 : Int)), ([] : List Int), 1, 9, 0⟩ : TRecord), (⟨4, 0, (List.replicate 32 (0 : Int)), [7], 1, 0, 0⟩ : TRecord)].getD x575.toNat TRecord.z).Epoch)] ++ ((([(⟨1, 1, (List.replicate 32 (0 : Int)), ([] : List Int), 0, 0, 0⟩ : TRecord), (⟨2, 0, (List.replicate 32 (0 : Int)), ([] : List Int), 0, 0, 0⟩ : TRecord), (⟨3, 0, (List.replicate 32 (0 : Int)), ([] : List Int), 1, 9, 0⟩ : TRecord), (⟨4, 0, (List.replicate 32 (0 : Int)), [7], 1, 0, 0⟩ : TRecord)].getD x575.toNat TRecord.z).Nonce).map (Value.int .u8) ++ [.slice A715 n717 c716, .int .i64 (([(⟨1, 1, (List.replicate 32 (0 : Int)), ([] : List Int), 0, 0, 0⟩ : TRecord), (⟨2, 0, (List.replicate 32 (0 : Int)), ([] : List Int), 0, 0, 0⟩ : TRecord), (⟨3, 0, (List.replicate 32 (0 : Int)), ([] : List Int), 1, 9, 0⟩ : TRecord), (⟨4, 0, (List.replicate 32 (0 : Int)), [7], 1, 0, 0⟩ : TRecord)].getD x575.toNat TRecord.z).Job), .int .i64 (([(⟨1, 1, (List.replicate 32 (0 : Int)), ([] : List Int), 0, 0, 0⟩ : TRecord), (⟨2, 0, (List.replicate 32 (0 : Int)), ([] : List Int), 0, 0, 0⟩ : TRecord), (⟨3, 0, (List.replicate 32 (0 : Int)), ([] : List Int), 1, 9, 0⟩ : TRecord), (⟨4, 0, (List.replicate 32 (0 : Int)), [7], 1, 0, 0⟩ : TRecord)].getD x575.toNat TRecord.z).Time), .int .i64 (([(⟨1, 1, (List.replicate 32 (0 : Int)), ([] : List Int), 0, 0, 0⟩ : TRecord), (⟨2, 0, (List.replicate 32 (0 : Int)), ([] : List Int), 0, 0, 0⟩ : TRecord), (⟨3, 0, (List.replicate 32 (0 : Int)), ([] : List Int), 1, 9, 0⟩ : TRecord), (⟨4, 0, (List.replicate 32 (0 : Int)), [7], 1, 0, 0⟩ : TRecord)].getD x575.toNat TRecord.z).By)]))]) (ps2 := [p69, CH.row g1 0 q2]) (t := 32) 0 q8 (.agg (List.toArray q8)) C799 rfl rfl (ones_of rfl) sz32
    have C804 : Ctx _ _ _ _ _ [p778, p784, p790, p796, CH.row g722 0 ([.int .i64 (([(⟨1, 1, (List.replicate 32 (0 : Int)), ([] : List Int), 0, 0, 0⟩ : TRecord), (⟨2, 0, (List.replicate 32 (0 : Int)), ([] : List Int), 0, 0, 0⟩ : TRecord), (⟨3, 0, (List.replicate 32 (0 : Int)), ([] : List Int), 1, 9, 0⟩ : TRecord), (⟨4, 0, (List.replicate 32 (0 : Int)), [7], 1, 0, 0⟩ : TRecord)].getD x575.toNat TRecord.z).Kind), .int .i64 (([(⟨1, 1, (List.replicate 32 (0 : Int)), ([] : List Int), 0, 0, 0⟩ : TRecord), (⟨2, 0, (List.replicate 32 (0 : Int)), ([] : List Int), 0, 0, 0⟩ : TRecord), (⟨3, 0, (List.replicate 32 (0 : Int)), ([] : List Int), 1, 9, 0⟩ : TRecord), (⟨4, 0, (List.replicate 32 (0 : Int)), [7], 1, 0, 0⟩ : TRecord)].getD x575.toNat TRecord.z).Epoch)] ++ ((([(⟨1, 1, (List.replicate 32 (0 : Int)), ([] : List Int), 0, 0, 0⟩ : TRecord), (⟨2, 0, (List.replicate 32 (0 : Int)), ([] : List Int), 0, 0, 0⟩ : TRecord), (⟨3, 0, (List.replicate 32 (0 : Int)), ([] : List Int), 1, 9, 0⟩ : TRecord), (⟨4, 0, (List.replicate 32 (0 : Int)), [7], 1, 0, 0⟩ : TRecord)].getD x575.toNat TRecord.z).Nonce).map (Value.int .u8) ++ [.slice A715 n717 c716, .int .i64 (([(⟨1, 1, (List.replicate 32 (0 : Int)), ([] : List Int), 0, 0, 0⟩ : TRecord), (⟨2, 0, (List.replicate 32 (0 : Int)), ([] : List Int), 0, 0, 0⟩ : TRecord), (⟨3, 0, (List.replicate 32 (0 : Int)), ([] : List Int), 1, 9, 0⟩ : TRecord), (⟨4, 0, (List.replicate 32 (0 : Int)), [7], 1, 0, 0⟩ : TRecord)].getD x575.toNat TRecord.z).Job), .int .i64 (([(⟨1, 1, (List.replicate 32 (0 : Int)), ([] : List Int), 0, 0, 0⟩ : TRecord), (⟨2, 0, (List.replicate 32 (0 : Int)), ([] : List Int), 0, 0, 0⟩ : TRecord), (⟨3, 0, (List.replicate 32 (0 : Int)), ([] : List Int), 1, 9, 0⟩ : TRecord), (⟨4, 0, (List.replicate 32 (0 : Int)), [7], 1, 0, 0⟩ : TRecord)].getD x575.toNat TRecord.z).Time), .int .i64 (([(⟨1, 1, (List.replicate 32 (0 : Int)), ([] : List Int), 0, 0, 0⟩ : TRecord), (⟨2, 0, (List.replicate 32 (0 : Int)), ([] : List Int), 0, 0, 0⟩ : TRecord), (⟨3, 0, (List.replicate 32 (0 : Int)), ([] : List Int), 1, 9, 0⟩ : TRecord), (⟨4, 0, (List.replicate 32 (0 : Int)), [7], 1, 0, 0⟩ : TRecord)].getD x575.toNat TRecord.z).By)])), CH.row g38 0 q8, p69, CH.row g1 0 q2] := C803
    refine WL.skip (hy802 _ _ _ _ ho569 rfl) ?_
    refine WL.val (Yl.assign (v := .int .i64 r771) rfl) ?_
    refine WL.done ?_
    refine inB_n ?_
    refine W.region rfl ?_
    refine WL.val (Yl.add (m := x575) (n := 1) (r := wi64 (x575 + 1)) ho574 rfl rfl) ?_
    refine WL.val (Yl.move (v := .int .i64 (wi64 (x575 + 1))) rfl) ?_
    refine WL.done ?_
    have C805 : Ctx _ _ _ _ _ [CH.row g38 0 q8, p778, p784, p790, p796, p69, CH.row g1 0 q2] := Ctx.pick [5, 0, 1, 2, 3, 6, 7] C804 rfl
    exact thenE_n ⟨k702, Nat.lt_succ_self _, r771, wi64 (x575 + 1), r770, F772, A774, c775, n776, p778, A780, c781, n782, p784, A786, c787, n788, p790, A792, c793, n794, p796, ho568, ho569, rfl, ho572, ho573, rfl, C805, (CH.le_trans le567 (CH.le_trans le732 (CH.le_trans le743 (CH.le_trans le753 (CH.le_trans le762 le773))))), hn777, hR779, hn783, hR785, hn789, hR791, hn795, hR797, hX456⟩
   ·refine W.condF (congrArg Value.bool (decide_eq_false hc730)) ?_
    refine W.skip ?_
    refine inB_n ?_
    refine W.region rfl ?_
    refine WL.val (Yl.add (m := x575) (n := 1) (r := wi64 (x575 + 1)) ho574 rfl rfl) ?_
    refine WL.val (Yl.move (v := .int .i64 (wi64 (x575 + 1))) rfl) ?_
    refine WL.done ?_
    have C806 : Ctx _ _ _ _ _ [CH.row g38 0 q7, p581, p587, p593, p599, p69, CH.row g1 0 q2] := Ctx.pick [1, 2, 3, 4, 5, 6, 7] C729 rfl
    exact thenE_n ⟨k702, Nat.lt_succ_self _, x571, wi64 (x575 + 1), x576, F566, A577, c578, n579, p581, A583, c584, n585, p587, A589, c590, n591, p593, A595, c596, n597, p599, ho568, ho569, ho570, ho572, ho573, rfl, C806, le567, hn580, hR582, hn586, hR588, hn592, hR594, hn598, hR600, hX456⟩
  ·refine W.condF (congrArg Value.bool (decide_eq_false hc705)) ?_
   refine W.exit ?_
   refine thenE_x ?_
   refine thenE_x ?_
   refine inB_here ?_
   cases hX456
   refine thenE_n ?_
   exact ⟨F566, A577, c578, n579, p581, A583, c584, n585, p587, A589, c590, n591, p593, A595, c596, n597, p599, ho569, ho570, C601, le567, hn580, hR582, hn586, hR588, hn592, hR594, hn598, hR600⟩
 ·rintro env_ w_ ⟨F425, A431, c432, n433, p435, A437, c438, n439, p441, A443, c444, n445, p447, A449, c450, n451, p453, ho427, ho428, C455, le426, hn434, hR436, hn440, hR442, hn446, hR448, hn452, hR454⟩
  refine W.seq ?_
  obtain ⟨x875, hX877, H⟩ := bindE H
  let q9 : List Go.Value := [.slice A431 n433 c432, .slice A437 n439 c438, .slice A443 n445 c444, .slice A449 n451 c450, .int .i64 x430.Heads]
  refine W.cutM (fun env_ w_ => env_ 0 = .bool x875 ∧ Ctx w F D w_ F425 [CH.row g38 0 q9, p435, p441, p447, p453, p69, CH.row g1 0 q2]) ?_ ?_
  ·refine W.region rfl ?_
   refine WL.val (Yl.move (v := .int .i64 x429) ho428) ?_
   refine WL.val (Yl.eql (m := x429) (n := 0) (q := decide (x429 = 0)) rfl rfl rfl) ?_
   refine WL.val (Yl.move (v := .bool (decide (x429 = 0))) rfl) ?_
   rcases iteE hX877 with ⟨hc878, hX877⟩ | ⟨hc878, hX877⟩
   ·refine WL.valOn rfl (congrArg Value.bool (decide_eq_true hc878)) (Yl.fieldAddr (i := 1) ho427 Try.underlying32 rfl sz28) ?_
    refine WL.valOn rfl (congrArg Value.bool (decide_eq_true hc878)) (Yl.loadV (g := g38) (off := 0) (o := 1) (cs := q9) (v := .slice A437 n439 c438) rfl Try.underlying28 rfl (Ctx.subI 0 C455 rfl) rfl) ?_
    refine WL.valOn rfl (congrArg Value.bool (decide_eq_true hc878)) (Yl.lenN (A := A437) (l := n439) (q := c438) (n := (x430.Jobs.length : Int)) rfl Try.underlying28 (by omega)) ?_
    refine WL.valOn rfl (congrArg Value.bool (decide_eq_true hc878)) (Yl.eql (m := (x430.Jobs.length : Int)) (n := 1) (q := decide ((x430.Jobs.length : Int) = 1)) rfl rfl rfl) ?_
    refine WL.val (Yl.pickT (v := .bool (decide ((x430.Jobs.length : Int) = 1))) (congrArg Value.bool (decide_eq_true hc878)) rfl) ?_
    refine WL.val (Yl.move (v := .bool (decide ((x430.Jobs.length : Int) = 1))) rfl) ?_
    rcases iteE hX877 with ⟨hc879, hX877⟩ | ⟨hc879, hX877⟩
    ·refine WL.valOn rfl (congrArg Value.bool (decide_eq_true hc879)) (Yl.fieldAddr (i := 1) ho427 Try.underlying32 rfl sz28) ?_
     refine WL.valOn rfl (congrArg Value.bool (decide_eq_true hc879)) (Yl.loadV (g := g38) (off := 0) (o := 1) (cs := q9) (v := .slice A437 n439 c438) rfl Try.underlying28 rfl (Ctx.subI 0 C455 rfl) rfl) ?_
     obtain ⟨hc880, hX877⟩ := guardE hX877
     obtain ⟨b881, of882, hA883, he884⟩ := (Row.sl hR442) (by omega)
     refine WL.valOn rfl (congrArg Value.bool (decide_eq_true hc879)) (Yl.elemAddr (i := 0) rfl rfl hA883 Try.underlying28 sz55 (by omega)) ?_
     refine WL.valOn rfl (congrArg Value.bool (decide_eq_true hc879)) (Yl.fieldAddr (i := 1) rfl Try.underlying55 rfl sz3) ?_
     obtain ⟨cs885, hr886, hx887⟩ := he884 (0 : Int).toNat _ (getD_some (d := TJob.z) (by omega))
     obtain ⟨A888, c889, n890, A895, c896, n897, A902, c903, n904, A909, c910, n911, A916, c917, n918, rfl, hn891, hl892, hm893, hS894, hn898, hl899, hm900, hS901, hn905, hl906, hm907, hS908, hn912, hl913, hm914, hS915, hn919, hl920, hm921, hS922⟩ := TJob.open hr886
     refine WL.valOn rfl (congrArg Value.bool (decide_eq_true hc879)) (Yl.load (v := .int .i64 ((x430.Jobs.getD (0 : Int).toNat TJob.z).State)) rfl Try.underlying3 rfl (((Ctx.subI 2 C455 rfl)).cell (hx887 1 _ rfl))) ?_
     refine WL.valOn rfl (congrArg Value.bool (decide_eq_true hc879)) (Yl.eql (m := (x430.Jobs.getD (0 : Int).toNat TJob.z).State) (n := 3) (q := decide (((x430.Jobs.getD (0 : Int).toNat TJob.z).State) = 3)) rfl rfl rfl) ?_
     refine WL.val (Yl.pickT (v := .bool (decide (((x430.Jobs.getD (0 : Int).toNat TJob.z).State) = 3))) (congrArg Value.bool (decide_eq_true hc879)) rfl) ?_
     refine WL.val (Yl.move (v := .bool (decide (((x430.Jobs.getD (0 : Int).toNat TJob.z).State) = 3))) rfl) ?_
     rcases iteE hX877 with ⟨hc923, hX877⟩ | ⟨hc923, hX877⟩
     ·refine WL.valOn rfl (congrArg Value.bool (decide_eq_true hc923)) (Yl.fieldAddr (i := 1) ho427 Try.underlying32 rfl sz28) ?_
      refine WL.valOn rfl (congrArg Value.bool (decide_eq_true hc923)) (Yl.loadV (g := g38) (off := 0) (o := 1) (cs := q9) (v := .slice A437 n439 c438) rfl Try.underlying28 rfl (Ctx.subI 0 C455 rfl) rfl) ?_
      refine WL.valOn rfl (congrArg Value.bool (decide_eq_true hc923)) (Yl.elemAddr (i := 0) rfl rfl hA883 Try.underlying28 sz55 (by omega)) ?_
      refine WL.valOn rfl (congrArg Value.bool (decide_eq_true hc923)) (Yl.fieldAddr (i := 8) rfl Try.underlying55 rfl sz44) ?_
      refine WL.valOn rfl (congrArg Value.bool (decide_eq_true hc923)) (Yl.load (v := .slice A916 n918 c917) rfl Try.underlying44 rfl (((Ctx.subI 2 C455 rfl)).cell (hx887 8 _ rfl))) ?_
      refine WL.valOn rfl (congrArg Value.bool (decide_eq_true hc923)) (Yl.lenN (A := A916) (l := n918) (q := c917) (n := (((x430.Jobs.getD (0 : Int).toNat TJob.z).Value).length : Int)) rfl Try.underlying44 (by omega)) ?_
      refine WL.valOn rfl (congrArg Value.bool (decide_eq_true hc923)) (Yl.eql (m := (((x430.Jobs.getD (0 : Int).toNat TJob.z).Value).length : Int)) (n := 1) (q := decide ((((x430.Jobs.getD (0 : Int).toNat TJob.z).Value).length : Int) = 1)) rfl rfl rfl) ?_
      refine WL.val (Yl.pickT (v := .bool (decide ((((x430.Jobs.getD (0 : Int).toNat TJob.z).Value).length : Int) = 1))) (congrArg Value.bool (decide_eq_true hc923)) rfl) ?_
      refine WL.val (Yl.move (v := .bool (decide ((((x430.Jobs.getD (0 : Int).toNat TJob.z).Value).length : Int) = 1))) rfl) ?_
      rcases iteE hX877 with ⟨hc924, hX877⟩ | ⟨hc924, hX877⟩
      ·refine WL.valOn rfl (congrArg Value.bool (decide_eq_true hc924)) (Yl.loadVA (g := g38) (off := 0) (o := 0) (cs := q9) (us := [.slice A431 n433 c432, .slice A437 n439 c438, .slice A443 n445 c444, .slice A449 n451 c450, .int .i64 x430.Heads]) ho427 Try.underlying32 rfl sz32 (Ctx.subI 0 C455 rfl) rfl) ?_
       refine WL.on rfl (congrArg Value.bool (decide_eq_true hc924)) ?_
       obtain ⟨F925, le926, lp927, (C928 : Ctx _ _ _ _ _ [CH.row g38 0 q9, p441, p447, p453, p69, CH.row g1 0 q2])⟩ := Ctx.fzI 1 C455 rfl
       obtain ⟨F929, le930, lp931, (C932 : Ctx _ _ _ _ _ [CH.row g38 0 q9, p447, p453, p69, CH.row g1 0 q2])⟩ := Ctx.fzI 1 C928 rfl
       obtain ⟨F933, le934, lp935, (C936 : Ctx _ _ _ _ _ [CH.row g38 0 q9, p453, p69, CH.row g1 0 q2])⟩ := Ctx.fzI 1 C932 rfl
       obtain ⟨F937, le938, lp939, (C940 : Ctx _ _ _ _ _ [CH.row g38 0 q9, p69, CH.row g1 0 q2])⟩ := Ctx.fzI 1 C936 rfl
       obtain ⟨r942, hg941, hX877⟩ := bindE hX877
       refine WL.callH (docket_Epoch.calls k _ F937 A431 c432 n433 A437 c438 n439 A443 c444 n445 A449 c450 n451 x430 (Ctx.pre (qs := []) (rest := [CH.row g38 0 q9, p69, CH.row g1 0 q2]) C940) hn434 (Row.len_le hR436).1 (Row.len_le hR436).2.1 (Sl.mono (Row.sl hR436) (CH.le_trans (CH.le_trans (CH.le_trans le926 le930) le934) le938) (CH.le_trans (CH.le_trans (CH.le_trans lp927 le930) le934) le938)) hn440 (Row.len_le hR442).1 (Row.len_le hR442).2.1 (Sl.mono (Row.sl hR442) (CH.le_trans (CH.le_trans (CH.le_trans le926 le930) le934) le938) (CH.le_trans (CH.le_trans lp931 le934) le938)) hn446 (Row.len_le hR448).1 (Row.len_le hR448).2.1 (Sl.mono (Row.sl hR448) (CH.le_trans (CH.le_trans (CH.le_trans le926 le930) le934) le938) (CH.le_trans lp935 le938)) hn452 (Row.len_le hR454).1 (Row.len_le hR454).2.1 (Sl.mono (Row.sl hR454) (CH.le_trans (CH.le_trans (CH.le_trans le926 le930) le934) le938) lp939) r942 hg941) (Yenter.fn Try.func19 (by kernel_rfl) rfl (argsE (.cons rfl .nil))) ?_
       rintro e_ w_ ⟨rfl, C943⟩
       refine ⟨_, rfl, ?_⟩
       have C944 : Ctx _ _ _ _ _ [CH.row g38 0 q9, p435, p441, p447, p453, p69, CH.row g1 0 q2] := Ctx.callL (qs := []) (rest := [CH.row g38 0 q9, p435, p441, p447, p453, p69, CH.row g1 0 q2]) C455 (CH.le_trans (CH.le_trans (CH.le_trans le926 le930) le934) le938) C943
       refine WL.valOn rfl (congrArg Value.bool (decide_eq_true hc924)) (Yl.eql (m := r942) (n := 1) (q := decide (r942 = 1)) rfl rfl rfl) ?_
       refine WL.val (Yl.pickT (v := .bool (decide (r942 = 1))) (congrArg Value.bool (decide_eq_true hc924)) rfl) ?_
       refine WL.val (Yl.assign (v := .bool (decide (r942 = 1))) rfl) ?_
       refine WL.done ?_
       cases hX877
       refine thenE_n ?_
       exact ⟨rfl, C944⟩
      ·refine WL.offs 3 58 true (congrArg Value.bool (decide_eq_false hc924)) rfl ?_
       refine WL.val (Yl.pickF (v := .bool false) (congrArg Value.bool (decide_eq_false hc924)) rfl) ?_
       refine WL.val (Yl.assign (v := .bool false) rfl) ?_
       refine WL.done ?_
       cases hX877
       refine thenE_n ?_
       exact ⟨rfl, C455⟩
     ·refine WL.offs 7 49 true (congrArg Value.bool (decide_eq_false hc923)) rfl ?_
      refine WL.val (Yl.pickF (v := .bool false) (congrArg Value.bool (decide_eq_false hc923)) rfl) ?_
      refine WL.val (Yl.move (v := .bool false) rfl) ?_
      refine WL.offs 3 58 true rfl rfl ?_
      refine WL.val (Yl.pickF (v := .bool false) rfl rfl) ?_
      refine WL.val (Yl.assign (v := .bool false) rfl) ?_
      refine WL.done ?_
      cases hX877
      refine thenE_n ?_
      exact ⟨rfl, C455⟩
    ·refine WL.offs 6 41 true (congrArg Value.bool (decide_eq_false hc879)) rfl ?_
     refine WL.val (Yl.pickF (v := .bool false) (congrArg Value.bool (decide_eq_false hc879)) rfl) ?_
     refine WL.val (Yl.move (v := .bool false) rfl) ?_
     refine WL.offs 7 49 true rfl rfl ?_
     refine WL.val (Yl.pickF (v := .bool false) rfl rfl) ?_
     refine WL.val (Yl.move (v := .bool false) rfl) ?_
     refine WL.offs 3 58 true rfl rfl ?_
     refine WL.val (Yl.pickF (v := .bool false) rfl rfl) ?_
     refine WL.val (Yl.assign (v := .bool false) rfl) ?_
     refine WL.done ?_
     cases hX877
     refine thenE_n ?_
     exact ⟨rfl, C455⟩
   ·refine WL.offs 4 35 true (congrArg Value.bool (decide_eq_false hc878)) rfl ?_
    refine WL.val (Yl.pickF (v := .bool false) (congrArg Value.bool (decide_eq_false hc878)) rfl) ?_
    refine WL.val (Yl.move (v := .bool false) rfl) ?_
    refine WL.offs 6 41 true rfl rfl ?_
    refine WL.val (Yl.pickF (v := .bool false) rfl rfl) ?_
    refine WL.val (Yl.move (v := .bool false) rfl) ?_
    refine WL.offs 7 49 true rfl rfl ?_
    refine WL.val (Yl.pickF (v := .bool false) rfl rfl) ?_
    refine WL.val (Yl.move (v := .bool false) rfl) ?_
    refine WL.offs 3 58 true rfl rfl ?_
    refine WL.val (Yl.pickF (v := .bool false) rfl rfl) ?_
    refine WL.val (Yl.assign (v := .bool false) rfl) ?_
    refine WL.done ?_
    cases hX877
    refine thenE_n ?_
    exact ⟨rfl, C455⟩
  ·rintro env_ w_ ⟨ho874, C876⟩
   refine W.ret ?_
   have C945 : Ctx _ _ _ _ _ [] := Ctx.pick [] C876 rfl
   have e946 := Option.some.inj H
   subst e946
   exact post_r (resE1 rfl ho874) ⟨rfl, (Ctx.weak C945 (CH.le_refl _))⟩
def juratlaw21_own.f (k : Nat) (a0 : TRecord) : Option TRecord := if (a0.Data.length + a0.Data.length / 4 + 192) * 1 ≤ 281474976710656 then (some (⟨a0.Kind, a0.Epoch, a0.Nonce, a0.Data, a0.Job, a0.Time, a0.By⟩ : TRecord)) else none
set_option maxRecDepth 100000 in
set_option maxHeartbeats 4000000 in
theorem juratlaw21_own.calls (k : Nat) (w : World) (F : CH) (A2 : Option Addr) (c3 : Nat) (n4 : Nat) (a0 : TRecord) (hp : Pre w F []) (ha1 : a0.Nonce.length = 32) (hn5 : n4 = a0.Data.length) (hl6 : a0.Data.length ≤ c3) (hm7 : c3 ≤ maxLen) (hS8 : Sl (Kd.int .u8) F F A2 a0.Data) (r0_ : TRecord) (H : juratlaw21_own.f k a0 = some r0_) :
    Calls Try.prog 15 #[.agg (List.toArray ([.int .i64 a0.Kind, .int .i64 a0.Epoch] ++ (a0.Nonce.map (Value.int .u8) ++ [.slice A2 n4 c3, .int .i64 a0.Job, .int .i64 a0.Time, .int .i64 a0.By])))] w fun e w' => ∃ (A48 : Option Addr) (c49 : Nat) (n50 : Nat) (p52 : CH), e = .returned (.agg (List.toArray ([.int .i64 r0_.Kind, .int .i64 r0_.Epoch] ++ (r0_.Nonce.map (Value.int .u8) ++ [.slice A48 n50 c49, .int .i64 r0_.Job, .int .i64 r0_.Time, .int .i64 r0_.By])))) ∧ Ctx w F (domL []) w' F [p52] ∧ r0_.Nonce.length = 32 ∧ n50 = r0_.Data.length ∧ Row (Kd.int .u8) F p52 (.slice A48 n50 c49) r0_.Data := by
 have C := Ctx.start hp
 generalize hD : domL [] = D at C ⊢
 unfold juratlaw21_own.f at H
 refine Calls.ofW Try.func15 rfl (by simp [Try.ntmps15]) ?_
 refine W.seq ?_
 refine W.region rfl ?_
 obtain ⟨g9, w10, hy11, C12⟩ := ev_box (P := Try.prog) 46 (.agg (List.toArray ([.int .i64 a0.Kind, .int .i64 a0.Epoch] ++ (a0.Nonce.map (Value.int .u8) ++ [.slice A2 n4 c3, .int .i64 a0.Job, .int .i64 a0.Time, .int .i64 a0.By])))) ([.int .i64 a0.Kind, .int .i64 a0.Epoch] ++ (a0.Nonce.map (Value.int .u8) ++ [.slice A2 n4 c3, .int .i64 a0.Job, .int .i64 a0.Time, .int .i64 a0.By])) C rfl
 refine WL.val (hy11 _ _ _ rfl) ?_
 obtain ⟨g13, w14, hy15, C16⟩ := ev_alloc (P := Try.prog) (e := 46) ([.int .i64 0, .int .i64 0] ++ ((List.replicate 32 (0 : Int)).map (Value.int .u8) ++ [.slice none 0 0, .int .i64 0, .int .i64 0, .int .i64 0])) C12 zr46 rfl
 refine WL.val (hy15 _ _) ?_
 refine WL.done ?_
 refine W.seq ?_
 refine W.region rfl ?_
 obtain ⟨A17, c18, n19, p20, w21, hn22, hy23, C24, hR25⟩ := ev_lit0 (P := Try.prog) 5 (Kd.int .u8) C16 Try.underlying44 ti5
 refine WL.val (hy23 _ _) ?_
 refine WL.val (Yl.fieldAddr (i := 3) rfl Try.underlying46 rfl sz44) ?_
 refine WL.val (Yl.loadV (g := g9) (off := 0) (o := 34) (cs := [.int .i64 a0.Kind, .int .i64 a0.Epoch] ++ (a0.Nonce.map (Value.int .u8) ++ [.slice A2 n4 c3, .int .i64 a0.Job, .int .i64 a0.Time, .int .i64 a0.By])) (v := .slice A2 n4 c3) rfl Try.underlying44 rfl (Ctx.subI 2 C24 rfl) (by simp [List.getElem?_append, ha1])) ?_
 obtain ⟨hc26, H⟩ := guardE H
 obtain ⟨A27, c28, n29, p30, w31, hn32, hy33, C34, hR35⟩ := ev_append' (P := Try.prog) (cb := c3) 5 (Kd.int .u8) [] [CH.row g13 0 ([.int .i64 0, .int .i64 0] ++ ((List.replicate 32 (0 : Int)).map (Value.int .u8) ++ [.slice none 0 0, .int .i64 0, .int .i64 0, .int .i64 0])), CH.row g9 0 ([.int .i64 a0.Kind, .int .i64 a0.Epoch] ++ (a0.Nonce.map (Value.int .u8) ++ [.slice A2 n4 c3, .int .i64 a0.Job, .int .i64 a0.Time, .int .i64 a0.By]))] C24 hR25 hn5 hS8 C24.fro Try.underlying44 ti5 rfl zo5 (by decide) (by decide) (by simpa using hc26)
 have C36 : Ctx _ _ _ _ _ [p30, CH.row g13 0 ([.int .i64 0, .int .i64 0] ++ ((List.replicate 32 (0 : Int)).map (Value.int .u8) ++ [.slice none 0 0, .int .i64 0, .int .i64 0, .int .i64 0])), CH.row g9 0 ([.int .i64 a0.Kind, .int .i64 a0.Epoch] ++ (a0.Nonce.map (Value.int .u8) ++ [.slice A2 n4 c3, .int .i64 a0.Job, .int .i64 a0.Time, .int .i64 a0.By]))] := C34
 rw [List.nil_append] at hn32 hR35
 refine WL.val (hy33 _ _ _ _ rfl rfl) ?_
 refine WL.val (Yl.fieldAddr (i := 3) rfl Try.underlying46 rfl sz44) ?_
 obtain ⟨w37, hy38, C39⟩ := ev_set (P := Try.prog) (ps1 := [p30, CH.row g13 0 ([.int .i64 0, .int .i64 0] ++ ((List.replicate 32 (0 : Int)).map (Value.int .u8) ++ [.slice none 0 0, .int .i64 0, .int .i64 0, .int .i64 0]))]) (ps2 := []) (t := 44) (o := 34) ([.int .i64 a0.Kind, .int .i64 a0.Epoch] ++ (a0.Nonce.map (Value.int .u8) ++ [.slice A2 n4 c3, .int .i64 a0.Job, .int .i64 a0.Time, .int .i64 a0.By])) ([.int .i64 a0.Kind, .int .i64 a0.Epoch] ++ (a0.Nonce.map (Value.int .u8))) [.slice A2 n4 c3] [.int .i64 a0.Job, .int .i64 a0.Time, .int .i64 a0.By] [.slice A27 n29 c28] (.slice A27 n29 c28) C36 (by first | (simp only [List.length_append, List.length_map, List.length_cons, List.length_nil, ha1]; done) | simp [ha1]) (by first | (simp only [List.length_append, List.length_map, List.length_cons, List.length_nil, ha1]; done) | simp [ha1]) (by first | (simp only [List.length_append, List.length_map, List.length_cons, List.length_nil, ha1]; done) | simp [ha1]) rfl (ones_of rfl) sz44
 have C40 : Ctx _ _ _ _ _ [p30, CH.row g13 0 ([.int .i64 0, .int .i64 0] ++ ((List.replicate 32 (0 : Int)).map (Value.int .u8) ++ [.slice none 0 0, .int .i64 0, .int .i64 0, .int .i64 0])), CH.row g9 0 ([.int .i64 a0.Kind, .int .i64 a0.Epoch] ++ (a0.Nonce.map (Value.int .u8) ++ [.slice A27 n29 c28, .int .i64 a0.Job, .int .i64 a0.Time, .int .i64 a0.By]))] := (by simpa using C39)
 refine WL.skip (hy38 _ _ _ _ rfl rfl) ?_
 refine WL.done ?_
 refine W.seq ?_
 refine W.region rfl ?_
 refine WL.val (Yl.loadVA (g := g9) (off := 0) (o := 0) (cs := [.int .i64 a0.Kind, .int .i64 a0.Epoch] ++ (a0.Nonce.map (Value.int .u8) ++ [.slice A27 n29 c28, .int .i64 a0.Job, .int .i64 a0.Time, .int .i64 a0.By])) (us := [.int .i64 a0.Kind, .int .i64 a0.Epoch] ++ (a0.Nonce.map (Value.int .u8) ++ [.slice A27 n29 c28, .int .i64 a0.Job, .int .i64 a0.Time, .int .i64 a0.By])) rfl Try.underlying46 rfl (sz_of sz46 (by first | (simp only [List.length_append, List.length_map, List.length_cons, List.length_nil, ha1]; done) | simp [ha1])) (Ctx.subI 2 C40 rfl) (take_all _)) ?_
 obtain ⟨w41, hy42, C43⟩ := ev_set (P := Try.prog) (ps1 := [p30]) (ps2 := [CH.row g9 0 ([.int .i64 a0.Kind, .int .i64 a0.Epoch] ++ (a0.Nonce.map (Value.int .u8) ++ [.slice A27 n29 c28, .int .i64 a0.Job, .int .i64 a0.Time, .int .i64 a0.By]))]) (t := 46) (o := 0) ([.int .i64 0, .int .i64 0] ++ ((List.replicate 32 (0 : Int)).map (Value.int .u8) ++ [.slice none 0 0, .int .i64 0, .int .i64 0, .int .i64 0])) [] ([.int .i64 0, .int .i64 0] ++ ((List.replicate 32 (0 : Int)).map (Value.int .u8) ++ [.slice none 0 0, .int .i64 0, .int .i64 0, .int .i64 0])) [] ([.int .i64 a0.Kind, .int .i64 a0.Epoch] ++ (a0.Nonce.map (Value.int .u8) ++ [.slice A27 n29 c28, .int .i64 a0.Job, .int .i64 a0.Time, .int .i64 a0.By])) (.agg (List.toArray ([.int .i64 a0.Kind, .int .i64 a0.Epoch] ++ (a0.Nonce.map (Value.int .u8) ++ [.slice A27 n29 c28, .int .i64 a0.Job, .int .i64 a0.Time, .int .i64 a0.By])))) C40 (by first | (simp only [List.length_append, List.length_map, List.length_cons, List.length_nil, (List.length_replicate ..), ha1]; done) | simp [(List.length_replicate ..), ha1]) (by first | (simp only [List.length_append, List.length_map, List.length_cons, List.length_nil, (List.length_replicate ..), ha1]; done) | simp [(List.length_replicate ..), ha1]) (by first | (simp only [List.length_append, List.length_map, List.length_cons, List.length_nil, (List.length_replicate ..), ha1]; done) | simp [(List.length_replicate ..), ha1]) rfl (ones_append (ones_of rfl) (ones_append (one_ints _ _) (ones_of rfl))) (sz_of sz46 (by first | (simp only [List.length_append, List.length_map, List.length_cons, List.length_nil, ha1]; done) | simp [ha1]))
 have C44 : Ctx _ _ _ _ _ [p30, CH.row g13 0 ([.int .i64 a0.Kind, .int .i64 a0.Epoch] ++ (a0.Nonce.map (Value.int .u8) ++ [.slice A27 n29 c28, .int .i64 a0.Job, .int .i64 a0.Time, .int .i64 a0.By])), CH.row g9 0 ([.int .i64 a0.Kind, .int .i64 a0.Epoch] ++ (a0.Nonce.map (Value.int .u8) ++ [.slice A27 n29 c28, .int .i64 a0.Job, .int .i64 a0.Time, .int .i64 a0.By]))] := (by simpa using C43)
 refine WL.skip (hy42 _ _ _ _ rfl rfl) ?_
 refine WL.done ?_
 refine W.ret ?_
 have C45 : Ctx _ _ _ _ _ [p30] := Ctx.pick [0] C44 rfl
 have e46 := Option.some.inj H
 subst e46
 exact post_r (resEC rfl ((.cell rfl (run_loadVA2 (g := g13) (off := 0) (o := 0) (cs := [.int .i64 a0.Kind, .int .i64 a0.Epoch] ++ (a0.Nonce.map (Value.int .u8) ++ [.slice A27 n29 c28, .int .i64 a0.Job, .int .i64 a0.Time, .int .i64 a0.By])) (us := [.int .i64 a0.Kind, .int .i64 a0.Epoch] ++ (a0.Nonce.map (Value.int .u8) ++ [.slice A27 n29 c28, .int .i64 a0.Job, .int .i64 a0.Time, .int .i64 a0.By])) Try.underlying46 rfl (sz_of sz46 (by first | (simp only [List.length_append, List.length_map, List.length_cons, List.length_nil, ha1]; done) | simp [ha1])) (Ctx.subI 1 C44 rfl) (take_all _)) .nil))) ⟨A27, c28, n29, p30, rfl, C45, ha1, hn32, hR35⟩
def juratlaw21_Great.l1 : Nat → List TRecord → Int → Option (Sum Unit Bool)
  | 0, _, _ => none
  | k + 1, a0, x58 => if x58 < (a0.length : Int) then (if 0 ≤ x58 ∧ x58 < (a0.length : Int) then (if (((a0.getD x58.toNat TRecord.z).Data).length : Int) > 200 then (some (Sum.inr true)) else (juratlaw21_Great.l1 k a0 (wi64 (x58 + 1)))) else none) else (some (Sum.inl ()))
def juratlaw21_Great.f (k : Nat) (a0 : List TRecord) : Option Bool := if (a0.length : Int) > 80 then (some true) else ((juratlaw21_Great.l1 k a0 0).bind fun o_ => sumE o_ (fun _ => some false) (fun p_ => some p_))
set_option maxRecDepth 100000 in
set_option maxHeartbeats 4000000 in
theorem juratlaw21_Great.calls (k : Nat) (w : World) (F : CH) (A1 : Option Addr) (c2 : Nat) (n3 : Nat) (a0 : List TRecord) (hp : Pre w F []) (hn4 : n3 = a0.length) (hl5 : a0.length ≤ c2) (hm6 : c2 ≤ maxLen) (hS7 : Sl TRecord.K F F A1 a0) (r0_ : Bool) (H : juratlaw21_Great.f k a0 = some r0_) :
    Calls Try.prog 7 #[.slice A1 n3 c2] w fun e w' => e = .returned (.bool r0_) ∧ (∃ n_, w' = w.drewN n_) := by
 have C := Ctx.start hp
 generalize domL [] = D at C
 have W0 : ∃ n_, w = w.drewN n_ := ⟨0, rfl⟩
 unfold juratlaw21_Great.f at H
 refine Calls.ofW Try.func7 rfl (by simp [Try.ntmps7]) ?_
 refine W.seq ?_
 refine W.region rfl ?_
 refine WL.val (Yl.assign (v := .bool false) rfl) ?_
 refine WL.done ?_
 refine W.seq ?_
 refine W.seq ?_
 refine W.region rfl ?_
 refine WL.val (Yl.move (v := .slice A1 n3 c2) rfl) ?_
 refine WL.val (Yl.lenN (A := A1) (l := n3) (q := c2) (n := (a0.length : Int)) rfl Try.underlying24 (by omega)) ?_
 refine WL.val (Yl.gtr (m := (a0.length : Int)) (n := 80) (q := decide ((a0.length : Int) > 80)) rfl rfl rfl) ?_
 refine WL.done ?_
 rcases iteE H with ⟨hc8, H⟩ | ⟨hc8, H⟩
 ·refine W.condT (congrArg Value.bool (decide_eq_true hc8)) ?_
  refine W.seq ?_
  refine W.region rfl ?_
  refine WL.val (Yl.assign (v := .bool true) rfl) ?_
  refine WL.done ?_
  refine W.ret ?_
  refine thenE_r ?_
  have e9 := Option.some.inj H
  subst e9
  exact post_r (resE1 rfl rfl) ⟨rfl, W0⟩
 ·refine W.condF (congrArg Value.bool (decide_eq_false hc8)) ?_
  refine W.skip ?_
  refine W.seq ?_
  refine W.seq ?_
  refine W.region rfl ?_
  refine WL.val (Yl.assign (v := .int .i64 0) rfl) ?_
  refine WL.done ?_
  obtain ⟨o55, hX54, H⟩ := bindE H
  refine W.cutM (fun env_ w_ => Ctx w F D w_ F [] ∧ (∃ n_, w_ = w.drewN n_) ∧ o55 = Sum.inl ()) ?_ ?_
  ·refine W.block ?_
   refine W.loop (fun g_ env_ w_ => ∃ (x58 : Int), env_ 0 = .slice A1 n3 c2 ∧ env_ 3 = .int .i64 x58 ∧ Ctx w F D w_ F [] ∧ (∃ n_, w_ = w.drewN n_) ∧ juratlaw21_Great.l1 g_ a0 x58 = some o55) k ⟨0, rfl, rfl, C, W0, hX54⟩ ?_
   clear hX54
   rintro g_ env_ w_ ⟨x58, ho56, ho57, C59, Wq60, hX54⟩
   rcases g_ with _ | k79
   · exact absurd hX54 (by simp [juratlaw21_Great.l1])
   rw [juratlaw21_Great.l1] at hX54
   refine W.seq ?_
   refine W.seq ?_
   refine W.region rfl ?_
   refine WL.val (Yl.move (v := .int .i64 x58) ho57) ?_
   refine WL.val (Yl.move (v := .slice A1 n3 c2) ho56) ?_
   refine WL.val (Yl.lenN (A := A1) (l := n3) (q := c2) (n := (a0.length : Int)) rfl Try.underlying24 (by omega)) ?_
   refine WL.val (Yl.lss (m := x58) (n := (a0.length : Int)) (q := decide (x58 < (a0.length : Int))) rfl rfl rfl) ?_
   refine WL.done ?_
   rcases iteE hX54 with ⟨hc80, hX54⟩ | ⟨hc80, hX54⟩
   ·refine W.condT (congrArg Value.bool (decide_eq_true hc80)) ?_
    refine W.skip ?_
    refine W.seq ?_
    refine W.block ?_
    refine W.seq ?_
    refine W.region rfl ?_
    refine WL.val (Yl.move (v := .slice A1 n3 c2) ho56) ?_
    refine WL.val (Yl.move (v := .int .i64 x58) ho57) ?_
    obtain ⟨hc81, hX54⟩ := guardE hX54
    obtain ⟨b82, of83, hA84, he85⟩ := hS7 (by omega)
    refine WL.val (Yl.elemAddr (i := x58) rfl rfl hA84 Try.underlying24 sz46 (by omega)) ?_
    refine WL.val (Yl.fieldAddr (i := 3) rfl Try.underlying46 rfl sz44) ?_
    obtain ⟨cs86, hr87, hx88⟩ := he85 x58.toNat _ (getD_some (d := TRecord.z) (by omega))
    obtain ⟨A90, c91, n92, rfl, ha89, hn93, hl94, hm95, hS96⟩ := TRecord.open hr87
    refine WL.val (Yl.load (v := .slice A90 n92 c91) rfl Try.underlying44 rfl (((C59.fro)).cell (hx88 34 _ (by simp [-List.getD_eq_getElem?_getD, List.getElem?_append, ha89])))) ?_
    refine WL.val (Yl.lenN (A := A90) (l := n92) (q := c91) (n := (((a0.getD x58.toNat TRecord.z).Data).length : Int)) rfl Try.underlying44 (by omega)) ?_
    refine WL.val (Yl.gtr (m := (((a0.getD x58.toNat TRecord.z).Data).length : Int)) (n := 200) (q := decide ((((a0.getD x58.toNat TRecord.z).Data).length : Int) > 200)) rfl rfl rfl) ?_
    refine WL.done ?_
    rcases iteE hX54 with ⟨hc97, hX54⟩ | ⟨hc97, hX54⟩
    ·refine W.condT (congrArg Value.bool (decide_eq_true hc97)) ?_
     refine W.seq ?_
     refine W.region rfl ?_
     refine WL.val (Yl.assign (v := .bool true) rfl) ?_
     refine WL.done ?_
     refine W.ret ?_
     refine inB_r ?_
     refine thenE_r ?_
     refine thenE_r ?_
     refine inB_r ?_
     refine thenE_r ?_
     refine thenE_r ?_
     cases hX54
     replace H := sumE_r H
     have e98 := Option.some.inj H
     subst e98
     exact post_r (resE1 rfl rfl) ⟨rfl, Wq60⟩
    ·refine W.condF (congrArg Value.bool (decide_eq_false hc97)) ?_
     refine W.skip ?_
     refine inB_n ?_
     refine W.region rfl ?_
     refine WL.val (Yl.move (v := .int .i64 x58) ho57) ?_
     refine WL.val (Yl.add (m := x58) (n := 1) (r := wi64 (x58 + 1)) rfl rfl rfl) ?_
     refine WL.val (Yl.assign (v := .int .i64 (wi64 (x58 + 1))) rfl) ?_
     refine WL.done ?_
     exact thenE_n ⟨k79, Nat.lt_succ_self _, wi64 (x58 + 1), ho56, rfl, C59, Wq60, hX54⟩
   ·refine W.condF (congrArg Value.bool (decide_eq_false hc80)) ?_
    refine W.exit ?_
    refine thenE_x ?_
    refine thenE_x ?_
    refine inB_here ?_
    cases hX54
    refine thenE_n ?_
    exact ⟨C59, Wq60, rfl⟩
  ·rintro env_ w_ ⟨C52, Wq53, rfl⟩
   replace H := sumE_l H
   refine W.seq ?_
   refine W.region rfl ?_
   refine WL.val (Yl.assign (v := .bool false) rfl) ?_
   refine WL.done ?_
   refine W.ret ?_
   have e99 := Option.some.inj H
   subst e99
   exact post_r (resE1 rfl rfl) ⟨rfl, Wq53⟩
def juratlaw21_right.f (k : Nat) (a0 : List Int) : Option (List Int) := if 0 ≤ (if 20 < (a0.length : Int) then 20 else (a0.length : Int)) ∧ (if 20 < (a0.length : Int) then 20 else (a0.length : Int)) ≤ (a0.length : Int) then (if ([114].length + (a0.take (if 20 < (a0.length : Int) then 20 else (a0.length : Int)).toNat).length + ([114].length + (a0.take (if 20 < (a0.length : Int) then 20 else (a0.length : Int)).toNat).length) / 4 + 192) * 1 ≤ 281474976710656 then (some ([114] ++ (a0.take (if 20 < (a0.length : Int) then 20 else (a0.length : Int)).toNat))) else none) else none
set_option maxRecDepth 100000 in
set_option maxHeartbeats 4000000 in
theorem juratlaw21_right.calls (k : Nat) (w : World) (F : CH) (A1 : Option Addr) (c2 : Nat) (n3 : Nat) (a0 : List Int) (hp : Pre w F []) (hn4 : n3 = a0.length) (hl5 : a0.length ≤ c2) (hm6 : c2 ≤ maxLen) (hS7 : Sl (Kd.int .u8) F F A1 a0) (r0_ : List Int) (H : juratlaw21_right.f k a0 = some r0_) :
    Calls Try.prog 23 #[.slice A1 n3 c2] w fun e w' => ∃ (A32 : Option Addr) (c33 : Nat) (n34 : Nat) (p36 : CH), e = .returned (.slice A32 n34 c33) ∧ Ctx w F (domL []) w' F [p36] ∧ n34 = r0_.length ∧ Row (Kd.int .u8) F p36 (.slice A32 n34 c33) r0_ := by
 have C := Ctx.start hp
 generalize hD : domL [] = D at C ⊢
 unfold juratlaw21_right.f at H
 refine Calls.ofW Try.func23 rfl (by simp [Try.ntmps23]) ?_
 refine W.seq ?_
 refine W.region rfl ?_
 refine WL.val (Yl.assign (v := .slice none 0 0) rfl) ?_
 refine WL.done ?_
 refine W.seq ?_
 refine W.region rfl ?_
 obtain ⟨A8, c9, n10, p11, w12, hn13, hy14, C15, hR16⟩ := ev_lit1' (P := Try.prog) 5 (Kd.int .u8) C Try.underlying44 ti5 ⟨by decide, by decide⟩ 114 (.int .u8 114) rfl
 refine WL.val (hy14 _ _ _ rfl) ?_
 refine WL.val (Yl.move (v := .slice A1 n3 c2) rfl) ?_
 refine WL.val (Yl.move (v := .slice A1 n3 c2) rfl) ?_
 refine WL.val (Yl.lenN (A := A1) (l := n3) (q := c2) (n := (a0.length : Int)) rfl Try.underlying44 (by omega)) ?_
 refine WL.val (Yl.min2 (m := (a0.length : Int)) (n := 20) (r := (if 20 < (a0.length : Int) then 20 else (a0.length : Int))) rfl rfl rfl) ?_
 obtain ⟨hc17, H⟩ := guardE H
 have hn18 : (if 20 < (a0.length : Int) then 20 else (a0.length : Int)).toNat = (a0.take (if 20 < (a0.length : Int) then 20 else (a0.length : Int)).toNat).length := by rw [List.length_take]; omega
 refine WL.val (Yl.sliceHi rfl Try.underlying44 sz5 rfl ⟨hc17.1, by omega⟩) ?_
 obtain ⟨hc20, H⟩ := guardE H
 obtain ⟨A21, c22, n23, p24, w25, hn26, hy27, C28, hR29⟩ := ev_append' (P := Try.prog) (cb := c2) 5 (Kd.int .u8) [] [] C15 hR16 hn18 (Sl.take hS7 _) C15.fro Try.underlying44 ti5 rfl zo5 (by decide) (by decide) (by simpa using hc20)
 have C30 : Ctx _ _ _ _ _ [p24] := C28
 refine WL.val (hy27 _ _ _ _ rfl rfl) ?_
 refine WL.val (Yl.assign (v := .slice A21 n23 c22) rfl) ?_
 refine WL.done ?_
 refine W.ret ?_
 have e31 := Option.some.inj H
 subst e31
 exact post_r (resE1 rfl rfl) ⟨A21, c22, n23, p24, rfl, C30, hn26, hR29⟩
end Go.Proofs.Ytobdpbnadjkhiaa
