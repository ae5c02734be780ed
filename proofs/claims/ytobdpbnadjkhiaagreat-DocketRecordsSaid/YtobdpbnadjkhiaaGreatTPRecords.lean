/- Functions of the program: each as a plain function of numbers and lists, and the proof that the program's own comes to it. Nothing is assumed but what each theorem says. -/
import Derived.Test.YtobdpbnadjkhiaaGreatTGh
import Derived.Test.YtobdpbnadjkhiaaGreatTGm
import Derived.Test.YtobdpbnadjkhiaaGreatTGn
namespace Go.Proofs.YtobdpbnadjkhiaaGreat
open Go.RowKit Go.WG
set_option linter.unusedVariables false
set_option linter.unusedSimpArgs false
def juratlaw21_DocketRecords.f (k : Nat) (a0 : TRecord) (a1 : List Int) : Option Bool := (if (a0.Data.length : Int) > 200 then (some (true)) else (some (decide ((a1.length : Int) > 500)))).bind fun g20 => if g20 = true then ((juratlaw21_awake.f k ).bind fun r29 => some r29) else ((juratlaw21_own.f k a0).bind fun r35 => (docket_Encode.f k r35).bind fun ⟨r50, r51⟩ => (juratref21_Encode.f k a0).bind fun ⟨r62, r63⟩ => if (a1.length + a1.length / 4 + 192) * 1 ≤ 281474976710656 then ((docket_Decode.f k a1).bind fun ⟨r97, r98⟩ => (juratref21_Decode.f k a1).bind fun ⟨r118, r119⟩ => (if r51 = r63 then ((juratref01_Same.f k r50 r62).bind fun r175 => if r175 = true then (if r98 = r119 then ((juratref21_SameRecord.f k r97 r118).bind fun r186 => some (!r186)) else (some true)) else (some true)) else (some true)).bind fun x165 => if x165 = true then (some false) else ((if r51 = 0 then ((docket_Decode.f k r50).bind fun ⟨r256, r257⟩ => (if r257 = 0 then ((juratref21_SameRecord.f k r256 a0).bind fun r298 => some (!r298)) else (some true)).bind fun x289 => if x289 = true then (some (Sum.inr false)) else (some (Sum.inl ()))) else (some (Sum.inl ()))).bind fun o_ => sumE o_ (fun _ => if r98 = 0 then ((docket_Encode.f k r97).bind fun ⟨r311, r312⟩ => (if r312 = 0 then ((juratref01_Same.f k r311 a1).bind fun r330 => some (!r330)) else (some (true))).bind fun g322 => if g322 = true then (some false) else ((juratlaw21_awake.f k ).bind fun r339 => some r339)) else ((juratlaw21_awake.f k ).bind fun r345 => some r345)) (fun p_ => some p_))) else none)
set_option maxRecDepth 100000 in
set_option maxHeartbeats 4000000 in
theorem juratlaw21_DocketRecords.calls (k : Nat) (w : World) (F : CH) (A2 : Option Addr) (c3 : Nat) (n4 : Nat) (a0 : TRecord) (A9 : Option Addr) (c10 : Nat) (n11 : Nat) (a1 : List Int) (hp : Pre w F []) (ha1 : a0.Nonce.length = 32) (hn5 : n4 = a0.Data.length) (hl6 : a0.Data.length ≤ c3) (hm7 : c3 ≤ maxLen) (hS8 : Sl (Kd.int .u8) F F A2 a0.Data) (hn12 : n11 = a1.length) (hl13 : a1.length ≤ c10) (hm14 : c10 ≤ maxLen) (hS15 : Sl (Kd.int .u8) F F A9 a1) (r0_ : Bool) (H : juratlaw21_DocketRecords.f k a0 a1 = some r0_) :
    Calls Tryz.prog 3 #[.agg (List.toArray ([.int .i64 a0.Kind, .int .i64 a0.Epoch] ++ (a0.Nonce.map (Value.int .u8) ++ [.slice A2 n4 c3, .int .i64 a0.Job, .int .i64 a0.Time, .int .i64 a0.By]))), .slice A9 n11 c10] w fun e w' => e = .returned (.bool r0_) ∧ Ctx w F (domL []) w' F [] := by
 have C := Ctx.start hp
 generalize hD : domL [] = D at C ⊢
 unfold juratlaw21_DocketRecords.f at H
 refine Calls.ofW Tryz.func3 rfl (by simp [Tryz.ntmps3]) ?_
 refine W.seq ?_
 refine W.region rfl ?_
 let q1 : List Go.Value := [.int .i64 a0.Kind, .int .i64 a0.Epoch] ++ (a0.Nonce.map (Value.int .u8) ++ [.slice A2 n4 c3, .int .i64 a0.Job, .int .i64 a0.Time, .int .i64 a0.By])
 obtain ⟨g16, w17, hy18, C19⟩ := ev_box (P := Tryz.prog) 26 (.agg (List.toArray q1)) q1 C rfl
 refine WL.val (hy18 _ _ _ rfl) ?_
 refine WL.run to 1 rfl ?_
 refine WL.done ?_
 refine W.seq ?_
 refine W.seq ?_
 refine W.region rfl ?_
 refine WL.run to 1 rfl ?_
 refine WL.val (Yl.loadV (g := g16) (off := 0) (o := 34) (cs := q1) (v := .slice A2 n4 c3) rfl Tryz.underlying24 rfl (Ctx.subI 0 C19 rfl) (at_skip 2 32 rfl (at_skip 32 0 (len_map ha1) rfl))) ?_
 refine WL.val (Yl.lenN (A := A2) (l := n4) (q := c3) (n := (a0.Data.length : Int)) rfl Tryz.underlying24 (by omega)) ?_
 refine WL.run to 2 rfl ?_
 obtain ⟨g20, HE21, H⟩ := bindE H
 refine WL.cut (fun env_ w_ => env_ 25 = .bool g20 ∧ env_ 1 = .slice A9 n11 c10 ∧ env_ 2 = .pointer (some ⟨g16, 0, none⟩) ∧ Ctx w F D w_ F [CH.row g16 0 q1]) ?_ ?_
 ·rcases iteE HE21 with ⟨hc22, HE21⟩ | ⟨hc22, HE21⟩
  ·refine WL.kn 21 (congrArg Value.bool (decide_eq_true hc22)) ?_
   refine WL.offs 3 21 false rfl rfl ?_
   refine WL.run to 1 rfl ?_
   cases HE21
   exact WL.done ⟨rfl, rfl, rfl, C19⟩
  ·refine WL.kn 21 (congrArg Value.bool (decide_eq_false hc22)) ?_
   refine WL.run to 1 rfl ?_
   refine WL.valOn rfl rfl (Yl.lenN (A := A9) (l := n11) (q := c10) (n := (a1.length : Int)) rfl Tryz.underlying24 (by omega)) ?_
   refine WL.run to 2 rfl ?_
   cases HE21
   exact WL.done ⟨rfl, rfl, rfl, C19⟩
 ·rintro env_ w_ ⟨ho23, ho24, ho25, C26⟩
  apply kn env_ (.c ho23 (.c ho24 (.c ho25 .n)))
  rcases iteE H with ⟨hc27, H⟩ | ⟨hc27, H⟩
  ·refine W.condT (congrArg Value.bool hc27) ?_
   refine W.seq ?_
   refine W.region rfl ?_
   obtain ⟨r29, hg28, H⟩ := bindE H
   refine WL.callH (juratlaw21_awake.calls k _ F  (Ctx.pre (qs := []) (rest := [CH.row g16 0 q1]) C26)  r29 hg28) (Yenter.fn Tryz.func5 (by kernel_rfl) rfl (argsE .nil)) ?_
   rintro e_ w_ ⟨rfl, C30⟩
   refine ⟨_, rfl, ?_⟩
   have C31 : Ctx _ _ _ _ _ [CH.row g16 0 q1] := Ctx.call (qs := []) (rest := [CH.row g16 0 q1]) C26 C30
   refine WL.run to 1 rfl ?_
   refine WL.done ?_
   refine W.ret ?_
   refine thenE_r ?_
   have C32 : Ctx _ _ _ _ _ [] := Ctx.pick [] C31 rfl
   have e33 := Option.some.inj H
   subst e33
   exact post_r (resE1 rfl rfl) ⟨rfl, C32⟩
  ·refine W.condF (congrArg Value.bool (Bool.eq_false_iff.2 hc27)) ?_
   refine W.skip ?_
   refine W.seq ?_
   refine W.region rfl ?_
   refine WL.val (Yl.loadVA (g := g16) (off := 0) (o := 0) (cs := q1) (us := q1) rfl Tryz.underlying26 rfl (sz_of sz26 (len_app rfl (len_app (len_map ha1) rfl))) (Ctx.subI 0 C26 rfl) (take_all _)) ?_
   obtain ⟨r35, hg34, H⟩ := bindE H
   refine WL.callH (juratlaw21_own.calls k _ F A2 c3 n4 a0 (Ctx.pre (qs := []) (rest := [CH.row g16 0 q1]) C26) ha1 hn5 hl6 hm7 hS8 r35 hg34) (Yenter.fn Tryz.func7 (by kernel_rfl) rfl (argsE (.cons rfl .nil))) ?_
   rintro e_ w_ ⟨A37, c38, n39, p41, rfl, C43, ha36, hn40, hR42⟩
   refine ⟨_, rfl, ?_⟩
   have C44 : Ctx _ _ _ _ _ [p41, CH.row g16 0 q1] := Ctx.call (qs := []) (rest := [CH.row g16 0 q1]) C26 C43
   obtain ⟨F45, le46, lp47, C48⟩ := Ctx.fzI 0 C44 rfl
   replace C48 : Ctx _ _ _ _ _ [CH.row g16 0 q1] := C48
   obtain ⟨⟨r50, r51⟩, hg49, H⟩ := bindE H
   refine WL.callH (docket_Encode.calls k _ F45 A37 c38 n39 r35 (Ctx.pre (qs := []) (rest := [CH.row g16 0 q1]) C48) ha36 hn40 (Row.len_le hR42).1 (Row.len_le hR42).2.1 (Sl.mono (Row.sl hR42) le46 lp47) r50 r51 hg49) (Yenter.fn Tryz.func6 (by kernel_rfl) rfl (argsE (.cons rfl .nil))) ?_
   rintro e_ w_ ⟨A52, c53, n54, p56, rfl, C58, hn55, hR57⟩
   refine ⟨_, rfl, ?_⟩
   have hR59 : Row (Kd.int .u8) F p56 (.slice A52 n54 c53) r50 := hR57
   have C60 : Ctx _ _ _ _ _ [p56, p41, CH.row g16 0 q1] := Ctx.callL (qs := []) (rest := [p41, CH.row g16 0 q1]) C44 le46 C58
   refine WL.run to 5 rfl ?_
   refine WL.done ?_
   refine W.seq ?_
   refine W.region rfl ?_
   refine WL.val (Yl.loadVA (g := g16) (off := 0) (o := 0) (cs := q1) (us := q1) rfl Tryz.underlying26 rfl (sz_of sz26 (len_app rfl (len_app (len_map ha1) rfl))) (Ctx.subI 2 C60 rfl) (take_all _)) ?_
   obtain ⟨⟨r62, r63⟩, hg61, H⟩ := bindE H
   refine WL.callH (juratref21_Encode.calls k _ F A2 c3 n4 a0 (Ctx.pre (qs := []) (rest := [p56, p41, CH.row g16 0 q1]) C60) ha1 hn5 hl6 hm7 hS8 r62 r63 hg61) (Yenter.fn Tryz.func8 (by kernel_rfl) rfl (argsE (.cons rfl .nil))) ?_
   rintro e_ w_ ⟨A64, c65, n66, p68, rfl, C70, hn67, hR69⟩
   refine ⟨_, rfl, ?_⟩
   have C71 : Ctx _ _ _ _ _ [p68, p56, p41, CH.row g16 0 q1] := Ctx.call (qs := []) (rest := [p56, p41, CH.row g16 0 q1]) C60 C70
   refine WL.run to 5 rfl ?_
   refine WL.done ?_
   refine W.seq ?_
   refine W.region rfl ?_
   obtain ⟨A72, c73, n74, p75, w76, hn77, hy78, C79, hR80⟩ := ev_lit0 (P := Tryz.prog) 5 (Kd.int .u8) C71 Tryz.underlying24 ti5
   refine WL.val (hy78 _ _) ?_
   refine WL.run to 1 rfl ?_
   obtain ⟨hc81, H⟩ := guardE H
   obtain ⟨A82, c83, n84, p85, w86, hn87, hy88, C89, hR90⟩ := ev_append' (P := Tryz.prog) (cb := c10) 5 (Kd.int .u8) [] [p68, p56, p41, CH.row g16 0 q1] C79 hR80 hn12 hS15 C79.fro Tryz.underlying24 ti5 rfl zo5 (by decide) (by decide) (by simpa using hc81)
   have C91 : Ctx _ _ _ _ _ [p85, p68, p56, p41, CH.row g16 0 q1] := C89
   rw [List.nil_append] at hn87 hR90
   refine WL.val (hy88 _ _ _ _ rfl rfl) ?_
   obtain ⟨F92, le93, lp94, C95⟩ := Ctx.fzI 0 C91 rfl
   replace C95 : Ctx _ _ _ _ _ [p68, p56, p41, CH.row g16 0 q1] := C95
   obtain ⟨⟨r97, r98⟩, hg96, H⟩ := bindE H
   refine WL.callH (docket_Decode.calls k _ F92 A82 c83 n84 a1 (Ctx.pre (qs := []) (rest := [p68, p56, p41, CH.row g16 0 q1]) C95) hn87 (Row.len_le hR90).1 (Row.len_le hR90).2.1 (Sl.mono (Row.sl hR90) le93 lp94) r97 r98 hg96) (Yenter.fn Tryz.func9 (by kernel_rfl) rfl (argsE (.cons rfl .nil))) ?_
   rintro e_ w_ ⟨A100, c101, n102, p104, rfl, C106, ha99, hn103, hR105⟩
   refine ⟨_, rfl, ?_⟩
   have hR107 : Row (Kd.int .u8) F p104 (.slice A100 n102 c101) r97.Data := hR105
   have C108 : Ctx _ _ _ _ _ [p104, p85, p68, p56, p41, CH.row g16 0 q1] := Ctx.callL (qs := []) (rest := [p85, p68, p56, p41, CH.row g16 0 q1]) C91 le93 C106
   refine WL.run to 3 rfl ?_
   let q2 : List Go.Value := [.int .i64 0, .int .i64 0] ++ ((List.replicate 32 (0 : Int)).map (Value.int .u8) ++ [.slice none 0 0, .int .i64 0, .int .i64 0, .int .i64 0])
   obtain ⟨g109, w110, hy111, C112⟩ := ev_alloc (P := Tryz.prog) (e := 26) q2 C108 zr26 rfl
   refine WL.val (hy111 _ _) ?_
   let q3 : List Go.Value := [.int .i64 r97.Kind, .int .i64 r97.Epoch] ++ (r97.Nonce.map (Value.int .u8) ++ [.slice A100 n102 c101, .int .i64 r97.Job, .int .i64 r97.Time, .int .i64 r97.By])
   obtain ⟨w113, hy114, C115⟩ := ev_put (P := Tryz.prog) (ps1 := []) (ps2 := [p104, p85, p68, p56, p41, CH.row g16 0 q1]) (t := 26) q3 (.agg (List.toArray q3)) C112 (Put.all 38 (len_app rfl (len_app (len_map (List.length_replicate ..)) rfl)) (len_app rfl (len_app (len_map ha99) rfl))) rfl (ones_append (ones_of rfl) (ones_append (one_ints _ _) (ones_of rfl))) (sz_of sz26 (len_app rfl (len_app (len_map ha99) rfl)))
   have C116 : Ctx _ _ _ _ _ [CH.row g109 0 q3, p104, p85, p68, p56, p41, CH.row g16 0 q1] := C115
   refine WL.skip (hy114 _ _ _ _ rfl rfl) ?_
   refine WL.run to 1 rfl ?_
   refine WL.done ?_
   refine W.seq ?_
   refine W.region rfl ?_
   refine WL.run to 1 rfl ?_
   obtain ⟨⟨r118, r119⟩, hg117, H⟩ := bindE H
   refine WL.callH (juratref21_Decode.calls k _ F A9 c10 n11 a1 (Ctx.pre (qs := []) (rest := [CH.row g109 0 q3, p104, p85, p68, p56, p41, CH.row g16 0 q1]) C116) hn12 hl13 hm14 hS15 r118 r119 hg117) (Yenter.fn Tryz.func10 (by kernel_rfl) rfl (argsE (.cons rfl .nil))) ?_
   rintro e_ w_ ⟨A121, c122, n123, p125, rfl, C127, ha120, hn124, hR126⟩
   refine ⟨_, rfl, ?_⟩
   have C128 : Ctx _ _ _ _ _ [p125, CH.row g109 0 q3, p104, p85, p68, p56, p41, CH.row g16 0 q1] := Ctx.call (qs := []) (rest := [CH.row g109 0 q3, p104, p85, p68, p56, p41, CH.row g16 0 q1]) C116 C127
   refine WL.run to 3 rfl ?_
   obtain ⟨g129, w130, hy131, C132⟩ := ev_alloc (P := Tryz.prog) (e := 26) q2 C128 zr26 rfl
   refine WL.val (hy131 _ _) ?_
   let q4 : List Go.Value := [.int .i64 r118.Kind, .int .i64 r118.Epoch] ++ (r118.Nonce.map (Value.int .u8) ++ [.slice A121 n123 c122, .int .i64 r118.Job, .int .i64 r118.Time, .int .i64 r118.By])
   obtain ⟨w133, hy134, C135⟩ := ev_put (P := Tryz.prog) (ps1 := []) (ps2 := [p125, CH.row g109 0 q3, p104, p85, p68, p56, p41, CH.row g16 0 q1]) (t := 26) q4 (.agg (List.toArray q4)) C132 (Put.all 38 (len_app rfl (len_app (len_map (List.length_replicate ..)) rfl)) (len_app rfl (len_app (len_map ha120) rfl))) rfl (ones_append (ones_of rfl) (ones_append (one_ints _ _) (ones_of rfl))) (sz_of sz26 (len_app rfl (len_app (len_map ha120) rfl)))
   have C136 : Ctx _ _ _ _ _ [CH.row g129 0 q4, p125, CH.row g109 0 q3, p104, p85, p68, p56, p41, CH.row g16 0 q1] := C135
   refine WL.skip (hy134 _ _ _ _ rfl rfl) ?_
   refine WL.run to 1 rfl ?_
   refine WL.done ?_
   refine W.seq ?_
   refine W.seq ?_
   obtain ⟨x165, hX167, H⟩ := bindE H
   refine W.cutM (fun env_ w_ => env_ 1 = .slice A9 n11 c10 ∧ env_ 2 = .pointer (some ⟨g16, 0, none⟩) ∧ env_ 5 = .slice A52 n54 c53 ∧ env_ 6 = .int .i64 r51 ∧ env_ 9 = .pointer (some ⟨g109, 0, none⟩) ∧ env_ 10 = .int .i64 r98 ∧ env_ 69 = .bool x165 ∧ Ctx w F D w_ F [CH.row g129 0 q4, p125, CH.row g109 0 q3, p104, p85, p68, p56, p41, CH.row g16 0 q1]) ?_ ?_
   ·refine W.region rfl ?_
    refine WL.run to 4 rfl ?_
    rcases iteE hX167 with ⟨hc168, hX167⟩ | ⟨hc168, hX167⟩
    ·refine WL.kn 53 (congrArg Value.bool (ndec_t hc168)) ?_
     refine WL.run to 2 rfl ?_
     refine WL.on rfl rfl ?_
     obtain ⟨F169, le170, ⟨lp172, lp173, _⟩, C171⟩ := Ctx.lend [p56, p68] (ps := [CH.row g129 0 q4, p125, CH.row g109 0 q3, p104, p85, p41, CH.row g16 0 q1]) (Ctx.pick [6, 5, 0, 1, 2, 3, 4, 7, 8] C136 rfl)
     obtain ⟨r175, hg174, hX167⟩ := bindE hX167
     refine WL.callH (juratref01_Same.calls k _ F169 A52 c53 n54 r50 A64 c65 n66 r62 C171.pre0 hn55 (Row.len_le hR59).1 (Row.len_le hR59).2.1 (Sl.mono (Row.sl hR59) le170 lp172) hn67 (Row.len_le hR69).1 (Row.len_le hR69).2.1 (Sl.mono (Row.sl hR69) le170 lp173) r175 hg174) (Yenter.fn Tryz.func11 (by kernel_rfl) rfl (argsE (.cons rfl (.cons rfl .nil)))) ?_
     rintro e_ w_ ⟨rfl, ⟨m176, rfl⟩⟩
     refine ⟨_, rfl, ?_⟩
     have C177 := Ctx.drewN C136 m176
     refine WL.run to 3 rfl ?_
     rcases iteE hX167 with ⟨hc178, hX167⟩ | ⟨hc178, hX167⟩
     ·refine WL.kn 59 (congrArg Value.bool (nb_t hc178)) ?_
      refine WL.run to 5 rfl ?_
      rcases iteE hX167 with ⟨hc179, hX167⟩ | ⟨hc179, hX167⟩
      ·refine WL.kn 64 (congrArg Value.bool (ndec_t hc179)) ?_
       refine WL.valOn rfl rfl (Yl.loadVA (g := g109) (off := 0) (o := 0) (cs := q3) (us := q3) rfl Tryz.underlying26 rfl (sz_of sz26 (len_app rfl (len_app (len_map ha99) rfl))) (Ctx.subI 2 C177 rfl) (take_all _)) ?_
       refine WL.valOn rfl rfl (Yl.loadVA (g := g129) (off := 0) (o := 0) (cs := q4) (us := q4) rfl Tryz.underlying26 rfl (sz_of sz26 (len_app rfl (len_app (len_map ha120) rfl))) (Ctx.subI 0 C177 rfl) (take_all _)) ?_
       refine WL.on rfl rfl ?_
       obtain ⟨F180, le181, ⟨lp183, lp184, _⟩, C182⟩ := Ctx.lend [p104, p125] (ps := [CH.row g129 0 q4, CH.row g109 0 q3, p85, p68, p56, p41, CH.row g16 0 q1]) (Ctx.pick [3, 1, 0, 2, 4, 5, 6, 7, 8] C177 rfl)
       obtain ⟨r186, hg185, hX167⟩ := bindE hX167
       refine WL.callH (juratref21_SameRecord.calls k _ F180 A100 c101 n102 r97 A121 c122 n123 r118 (Ctx.pre (qs := []) (rest := [CH.row g129 0 q4, CH.row g109 0 q3, p85, p68, p56, p41, CH.row g16 0 q1]) C182) ha99 hn103 (Row.len_le hR107).1 (Row.len_le hR107).2.1 (Sl.mono (Row.sl hR107) le181 lp183) ha120 hn124 (Row.len_le hR126).1 (Row.len_le hR126).2.1 (Sl.mono (Row.sl hR126) le181 lp184) r186 hg185) (Yenter.fn Tryz.func12 (by kernel_rfl) rfl (argsE (.cons rfl (.cons rfl .nil)))) ?_
       rintro e_ w_ ⟨rfl, C187⟩
       refine ⟨_, rfl, ?_⟩
       have C188 : Ctx _ _ _ _ _ [CH.row g129 0 q4, p125, CH.row g109 0 q3, p104, p85, p68, p56, p41, CH.row g16 0 q1] := Ctx.callL (qs := []) (rest := [CH.row g129 0 q4, p125, CH.row g109 0 q3, p104, p85, p68, p56, p41, CH.row g16 0 q1]) C177 le181 C187
       refine WL.run to 2 rfl ?_
       refine WL.done ?_
       cases hX167
       refine thenE_n ?_
       exact ⟨rfl, rfl, rfl, rfl, rfl, rfl, rfl, C188⟩
      ·refine WL.kn 64 (congrArg Value.bool (ndec_f hc179)) ?_
       refine WL.offs 4 64 false rfl rfl ?_
       refine WL.run to 1 rfl ?_
       refine WL.done ?_
       cases hX167
       refine thenE_n ?_
       exact ⟨rfl, rfl, rfl, rfl, rfl, rfl, rfl, C177⟩
     ·refine WL.kn 59 (congrArg Value.bool (nb_f hc178)) ?_
      refine WL.offs 3 59 false rfl rfl ?_
      refine WL.run to 2 rfl ?_
      refine WL.offs 4 64 false rfl rfl ?_
      refine WL.run to 1 rfl ?_
      refine WL.done ?_
      cases hX167
      refine thenE_n ?_
      exact ⟨rfl, rfl, rfl, rfl, rfl, rfl, rfl, C177⟩
    ·refine WL.kn 53 (congrArg Value.bool (ndec_f hc168)) ?_
     refine WL.offs 4 53 false rfl rfl ?_
     refine WL.run to 2 rfl ?_
     refine WL.offs 3 59 false rfl rfl ?_
     refine WL.run to 2 rfl ?_
     refine WL.offs 4 64 false rfl rfl ?_
     refine WL.run to 1 rfl ?_
     refine WL.done ?_
     cases hX167
     refine thenE_n ?_
     exact ⟨rfl, rfl, rfl, rfl, rfl, rfl, rfl, C136⟩
   ·rintro env_ w_ ⟨ho158, ho159, ho160, ho161, ho162, ho163, ho164, C166⟩
    apply kn env_ (.c ho158 (.c ho159 (.c ho160 (.c ho161 (.c ho162 (.c ho163 (.c ho164 .n)))))))
    rcases iteE H with ⟨hc189, H⟩ | ⟨hc189, H⟩
    ·refine W.condT (congrArg Value.bool hc189) ?_
     refine W.seq ?_
     refine W.region rfl ?_
     refine WL.run to 1 rfl ?_
     refine WL.done ?_
     refine W.ret ?_
     refine thenE_r ?_
     have C190 : Ctx _ _ _ _ _ [] := Ctx.pick [] C166 rfl
     have e191 := Option.some.inj H
     subst e191
     exact post_r (resE1 rfl rfl) ⟨rfl, C190⟩
    ·refine W.condF (congrArg Value.bool (Bool.eq_false_iff.2 hc189)) ?_
     refine W.skip ?_
     refine W.seq ?_
     obtain ⟨o249, hX248, H⟩ := bindE H
     refine W.cutM (fun env_ w_ => env_ 1 = .slice A9 n11 c10 ∧ env_ 9 = .pointer (some ⟨g109, 0, none⟩) ∧ env_ 10 = .int .i64 r98 ∧ Ctx w F D w_ F [CH.row g129 0 q4, p125, CH.row g109 0 q3, p104, p85, p68, p56, p41, CH.row g16 0 q1] ∧ o249 = Sum.inl ()) ?_ ?_
     ·refine W.seq ?_
      refine W.region rfl ?_
      refine WL.run to 2 rfl ?_
      refine WL.done ?_
      rcases iteE hX248 with ⟨hc250, hX248⟩ | ⟨hc250, hX248⟩
      ·refine W.condT (congrArg Value.bool (decide_eq_true hc250)) ?_
       refine W.seq ?_
       refine W.region rfl ?_
       refine WL.run to 1 rfl ?_
       obtain ⟨F251, le252, lp253, C254⟩ := Ctx.fzI 6 C166 rfl
       replace C254 : Ctx _ _ _ _ _ [CH.row g129 0 q4, p125, CH.row g109 0 q3, p104, p85, p68, p41, CH.row g16 0 q1] := C254
       obtain ⟨⟨r256, r257⟩, hg255, hX248⟩ := bindE hX248
       refine WL.callH (docket_Decode.calls k _ F251 A52 c53 n54 r50 (Ctx.pre (qs := []) (rest := [CH.row g129 0 q4, p125, CH.row g109 0 q3, p104, p85, p68, p41, CH.row g16 0 q1]) C254) hn55 (Row.len_le hR59).1 (Row.len_le hR59).2.1 (Sl.mono (Row.sl hR59) le252 lp253) r256 r257 hg255) (Yenter.fn Tryz.func9 (by kernel_rfl) rfl (argsE (.cons rfl .nil))) ?_
       rintro e_ w_ ⟨A259, c260, n261, p263, rfl, C265, ha258, hn262, hR264⟩
       refine ⟨_, rfl, ?_⟩
       have hR266 : Row (Kd.int .u8) F p263 (.slice A259 n261 c260) r256.Data := hR264
       have C267 : Ctx _ _ _ _ _ [p263, CH.row g129 0 q4, p125, CH.row g109 0 q3, p104, p85, p68, p56, p41, CH.row g16 0 q1] := Ctx.callL (qs := []) (rest := [CH.row g129 0 q4, p125, CH.row g109 0 q3, p104, p85, p68, p56, p41, CH.row g16 0 q1]) C166 le252 C265
       refine WL.run to 3 rfl ?_
       obtain ⟨g268, w269, hy270, C271⟩ := ev_alloc (P := Tryz.prog) (e := 26) q2 C267 zr26 rfl
       refine WL.val (hy270 _ _) ?_
       let q5 : List Go.Value := [.int .i64 r256.Kind, .int .i64 r256.Epoch] ++ (r256.Nonce.map (Value.int .u8) ++ [.slice A259 n261 c260, .int .i64 r256.Job, .int .i64 r256.Time, .int .i64 r256.By])
       obtain ⟨w272, hy273, C274⟩ := ev_put (P := Tryz.prog) (ps1 := []) (ps2 := [p263, CH.row g129 0 q4, p125, CH.row g109 0 q3, p104, p85, p68, p56, p41, CH.row g16 0 q1]) (t := 26) q5 (.agg (List.toArray q5)) C271 (Put.all 38 (len_app rfl (len_app (len_map (List.length_replicate ..)) rfl)) (len_app rfl (len_app (len_map ha258) rfl))) rfl (ones_append (ones_of rfl) (ones_append (one_ints _ _) (ones_of rfl))) (sz_of sz26 (len_app rfl (len_app (len_map ha258) rfl)))
       have C275 : Ctx _ _ _ _ _ [CH.row g268 0 q5, p263, CH.row g129 0 q4, p125, CH.row g109 0 q3, p104, p85, p68, p56, p41, CH.row g16 0 q1] := C274
       refine WL.skip (hy273 _ _ _ _ rfl rfl) ?_
       refine WL.run to 1 rfl ?_
       refine WL.done ?_
       refine W.seq ?_
       obtain ⟨x289, hX291, hX248⟩ := bindE hX248
       refine W.cutM (fun env_ w_ => env_ 1 = .slice A9 n11 c10 ∧ env_ 9 = .pointer (some ⟨g109, 0, none⟩) ∧ env_ 10 = .int .i64 r98 ∧ env_ 84 = .bool x289 ∧ Ctx w F D w_ F [CH.row g268 0 q5, p263, CH.row g129 0 q4, p125, CH.row g109 0 q3, p104, p85, p68, p56, p41, CH.row g16 0 q1]) ?_ ?_
       ·refine W.region rfl ?_
        refine WL.run to 3 rfl ?_
        rcases iteE hX291 with ⟨hc292, hX291⟩ | ⟨hc292, hX291⟩
        ·refine WL.kn 79 (congrArg Value.bool (ndec_t hc292)) ?_
         refine WL.valOn rfl rfl (Yl.loadVA (g := g268) (off := 0) (o := 0) (cs := q5) (us := q5) rfl Tryz.underlying26 rfl (sz_of sz26 (len_app rfl (len_app (len_map ha258) rfl))) (Ctx.subI 0 C275 rfl) (take_all _)) ?_
         refine WL.valOn rfl rfl (Yl.loadVA (g := g16) (off := 0) (o := 0) (cs := q1) (us := q1) rfl Tryz.underlying26 rfl (sz_of sz26 (len_app rfl (len_app (len_map ha1) rfl))) (Ctx.subI 10 C275 rfl) (take_all _)) ?_
         refine WL.on rfl rfl ?_
         obtain ⟨F293, le294, lp295, C296⟩ := Ctx.fzI 1 C275 rfl
         replace C296 : Ctx _ _ _ _ _ [CH.row g268 0 q5, CH.row g129 0 q4, p125, CH.row g109 0 q3, p104, p85, p68, p56, p41, CH.row g16 0 q1] := C296
         obtain ⟨r298, hg297, hX291⟩ := bindE hX291
         refine WL.callH (juratref21_SameRecord.calls k _ F293 A259 c260 n261 r256 A2 c3 n4 a0 (Ctx.pre (qs := []) (rest := [CH.row g268 0 q5, CH.row g129 0 q4, p125, CH.row g109 0 q3, p104, p85, p68, p56, p41, CH.row g16 0 q1]) C296) ha258 hn262 (Row.len_le hR266).1 (Row.len_le hR266).2.1 (Sl.mono (Row.sl hR266) le294 lp295) ha1 hn5 hl6 hm7 (Sl.mono hS8 le294 le294) r298 hg297) (Yenter.fn Tryz.func12 (by kernel_rfl) rfl (argsE (.cons rfl (.cons rfl .nil)))) ?_
         rintro e_ w_ ⟨rfl, C299⟩
         refine ⟨_, rfl, ?_⟩
         have C300 : Ctx _ _ _ _ _ [CH.row g268 0 q5, p263, CH.row g129 0 q4, p125, CH.row g109 0 q3, p104, p85, p68, p56, p41, CH.row g16 0 q1] := Ctx.callL (qs := []) (rest := [CH.row g268 0 q5, p263, CH.row g129 0 q4, p125, CH.row g109 0 q3, p104, p85, p68, p56, p41, CH.row g16 0 q1]) C275 le294 C299
         refine WL.run to 2 rfl ?_
         refine WL.done ?_
         cases hX291
         refine thenE_n ?_
         exact ⟨rfl, rfl, rfl, rfl, C300⟩
        ·refine WL.kn 79 (congrArg Value.bool (ndec_f hc292)) ?_
         refine WL.offs 4 79 false rfl rfl ?_
         refine WL.run to 1 rfl ?_
         refine WL.done ?_
         cases hX291
         refine thenE_n ?_
         exact ⟨rfl, rfl, rfl, rfl, C275⟩
       ·rintro env_ w_ ⟨ho285, ho286, ho287, ho288, C290⟩
        apply kn env_ (.c ho285 (.c ho286 (.c ho287 (.c ho288 .n))))
        rcases iteE hX248 with ⟨hc301, hX248⟩ | ⟨hc301, hX248⟩
        ·refine W.condT (congrArg Value.bool hc301) ?_
         refine W.seq ?_
         refine W.region rfl ?_
         refine WL.run to 1 rfl ?_
         refine WL.done ?_
         refine W.ret ?_
         refine thenE_r ?_
         refine thenE_r ?_
         cases hX248
         replace H := sumE_r H
         have C302 : Ctx _ _ _ _ _ [] := Ctx.pick [] C290 rfl
         have e303 := Option.some.inj H
         subst e303
         exact post_r (resE1 rfl rfl) ⟨rfl, C302⟩
        ·refine W.condF (congrArg Value.bool (Bool.eq_false_iff.2 hc301)) ?_
         refine W.skip ?_
         have C304 : Ctx _ _ _ _ _ [CH.row g129 0 q4, p125, CH.row g109 0 q3, p104, p85, p68, p56, p41, CH.row g16 0 q1] := Ctx.pick [2, 3, 4, 5, 6, 7, 8, 9, 10] C290 rfl
         cases hX248
         refine thenE_n ?_
         exact ⟨rfl, rfl, rfl, C304, rfl⟩
      ·refine W.condF (congrArg Value.bool (decide_eq_false hc250)) ?_
       refine W.skip ?_
       cases hX248
       refine thenE_n ?_
       exact ⟨rfl, rfl, rfl, C166, rfl⟩
     ·rintro env_ w_ ⟨ho244, ho245, ho246, C247, rfl⟩
      replace H := sumE_l H
      apply kn env_ (.c ho244 (.c ho245 (.c ho246 .n)))
      refine W.seq ?_
      refine W.seq ?_
      refine W.region rfl ?_
      refine WL.run to 2 rfl ?_
      refine WL.done ?_
      rcases iteE H with ⟨hc305, H⟩ | ⟨hc305, H⟩
      ·refine W.condT (congrArg Value.bool (decide_eq_true hc305)) ?_
       refine W.seq ?_
       refine W.region rfl ?_
       refine WL.val (Yl.loadVA (g := g109) (off := 0) (o := 0) (cs := q3) (us := q3) rfl Tryz.underlying26 rfl (sz_of sz26 (len_app rfl (len_app (len_map ha99) rfl))) (Ctx.subI 2 C247 rfl) (take_all _)) ?_
       obtain ⟨F306, le307, lp308, C309⟩ := Ctx.fzI 3 C247 rfl
       replace C309 : Ctx _ _ _ _ _ [CH.row g129 0 q4, p125, CH.row g109 0 q3, p85, p68, p56, p41, CH.row g16 0 q1] := C309
       obtain ⟨⟨r311, r312⟩, hg310, H⟩ := bindE H
       refine WL.callH (docket_Encode.calls k _ F306 A100 c101 n102 r97 (Ctx.pre (qs := []) (rest := [CH.row g129 0 q4, p125, CH.row g109 0 q3, p85, p68, p56, p41, CH.row g16 0 q1]) C309) ha99 hn103 (Row.len_le hR107).1 (Row.len_le hR107).2.1 (Sl.mono (Row.sl hR107) le307 lp308) r311 r312 hg310) (Yenter.fn Tryz.func6 (by kernel_rfl) rfl (argsE (.cons rfl .nil))) ?_
       rintro e_ w_ ⟨A313, c314, n315, p317, rfl, C319, hn316, hR318⟩
       refine ⟨_, rfl, ?_⟩
       have hR320 : Row (Kd.int .u8) F p317 (.slice A313 n315 c314) r311 := hR318
       have C321 : Ctx _ _ _ _ _ [p317, CH.row g129 0 q4, p125, CH.row g109 0 q3, p104, p85, p68, p56, p41, CH.row g16 0 q1] := Ctx.callL (qs := []) (rest := [CH.row g129 0 q4, p125, CH.row g109 0 q3, p104, p85, p68, p56, p41, CH.row g16 0 q1]) C247 le307 C319
       refine WL.run to 5 rfl ?_
       refine WL.done ?_
       refine W.seq ?_
       refine W.region rfl ?_
       refine WL.run to 3 rfl ?_
       obtain ⟨g322, HE323, H⟩ := bindE H
       refine WL.cut (fun env_ w_ => env_ 99 = .bool g322 ∧ Ctx w F D w_ F [p317, CH.row g129 0 q4, p125, CH.row g109 0 q3, p104, p85, p68, p56, p41, CH.row g16 0 q1]) ?_ ?_
       ·rcases iteE HE323 with ⟨hc324, HE323⟩ | ⟨hc324, HE323⟩
        ·refine WL.kn 94 (congrArg Value.bool (ndec_t hc324)) ?_
         refine WL.run to 2 rfl ?_
         refine WL.on rfl rfl ?_
         obtain ⟨F325, le326, lp327, C328⟩ := Ctx.fzI 0 C321 rfl
         replace C328 : Ctx _ _ _ _ _ [CH.row g129 0 q4, p125, CH.row g109 0 q3, p104, p85, p68, p56, p41, CH.row g16 0 q1] := C328
         obtain ⟨r330, hg329, HE323⟩ := bindE HE323
         refine WL.callH (juratref01_Same.calls k _ F325 A313 c314 n315 r311 A9 c10 n11 a1 C328.pre0 hn316 (Row.len_le hR320).1 (Row.len_le hR320).2.1 (Sl.mono (Row.sl hR320) le326 lp327) hn12 hl13 hm14 (Sl.mono hS15 le326 le326) r330 hg329) (Yenter.fn Tryz.func11 (by kernel_rfl) rfl (argsE (.cons rfl (.cons rfl .nil)))) ?_
         rintro e_ w_ ⟨rfl, ⟨m331, rfl⟩⟩
         refine ⟨_, rfl, ?_⟩
         have C332 := Ctx.drewN C321 m331
         refine WL.run to 2 rfl ?_
         cases HE323
         exact WL.done ⟨rfl, C332⟩
        ·refine WL.kn 94 (congrArg Value.bool (ndec_f hc324)) ?_
         refine WL.offs 4 94 false rfl rfl ?_
         refine WL.run to 1 rfl ?_
         cases HE323
         exact WL.done ⟨rfl, C321⟩
       ·rintro env_ w_ ⟨ho333, C334⟩
        apply kn env_ (.c ho333 .n)
        rcases iteE H with ⟨hc335, H⟩ | ⟨hc335, H⟩
        ·refine W.condT (congrArg Value.bool hc335) ?_
         refine W.seq ?_
         refine W.region rfl ?_
         refine WL.run to 1 rfl ?_
         refine WL.done ?_
         refine W.ret ?_
         refine thenE_r ?_
         have C336 : Ctx _ _ _ _ _ [] := Ctx.pick [] C334 rfl
         have e337 := Option.some.inj H
         subst e337
         exact post_r (resE1 rfl rfl) ⟨rfl, C336⟩
        ·refine W.condF (congrArg Value.bool (Bool.eq_false_iff.2 hc335)) ?_
         refine W.skip ?_
         refine W.seq ?_
         refine W.region rfl ?_
         obtain ⟨r339, hg338, H⟩ := bindE H
         refine WL.callH (juratlaw21_awake.calls k _ F  (Ctx.pre (qs := []) (rest := [p317, CH.row g129 0 q4, p125, CH.row g109 0 q3, p104, p85, p68, p56, p41, CH.row g16 0 q1]) C334)  r339 hg338) (Yenter.fn Tryz.func5 (by kernel_rfl) rfl (argsE .nil)) ?_
         rintro e_ w_ ⟨rfl, C340⟩
         refine ⟨_, rfl, ?_⟩
         have C341 : Ctx _ _ _ _ _ [p317, CH.row g129 0 q4, p125, CH.row g109 0 q3, p104, p85, p68, p56, p41, CH.row g16 0 q1] := Ctx.call (qs := []) (rest := [p317, CH.row g129 0 q4, p125, CH.row g109 0 q3, p104, p85, p68, p56, p41, CH.row g16 0 q1]) C334 C340
         refine WL.run to 1 rfl ?_
         refine WL.done ?_
         refine W.ret ?_
         have C342 : Ctx _ _ _ _ _ [] := Ctx.pick [] C341 rfl
         have e343 := Option.some.inj H
         subst e343
         exact post_r (resE1 rfl rfl) ⟨rfl, C342⟩
      ·refine W.condF (congrArg Value.bool (decide_eq_false hc305)) ?_
       refine W.skip ?_
       refine W.seq ?_
       refine W.region rfl ?_
       obtain ⟨r345, hg344, H⟩ := bindE H
       refine WL.callH (juratlaw21_awake.calls k _ F  (Ctx.pre (qs := []) (rest := [CH.row g129 0 q4, p125, CH.row g109 0 q3, p104, p85, p68, p56, p41, CH.row g16 0 q1]) C247)  r345 hg344) (Yenter.fn Tryz.func5 (by kernel_rfl) rfl (argsE .nil)) ?_
       rintro e_ w_ ⟨rfl, C346⟩
       refine ⟨_, rfl, ?_⟩
       have C347 : Ctx _ _ _ _ _ [CH.row g129 0 q4, p125, CH.row g109 0 q3, p104, p85, p68, p56, p41, CH.row g16 0 q1] := Ctx.call (qs := []) (rest := [CH.row g129 0 q4, p125, CH.row g109 0 q3, p104, p85, p68, p56, p41, CH.row g16 0 q1]) C247 C346
       refine WL.run to 1 rfl ?_
       refine WL.done ?_
       refine W.ret ?_
       have C348 : Ctx _ _ _ _ _ [] := Ctx.pick [] C347 rfl
       have e349 := Option.some.inj H
       subst e349
       exact post_r (resE1 rfl rfl) ⟨rfl, C348⟩
end Go.Proofs.YtobdpbnadjkhiaaGreat
