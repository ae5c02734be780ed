/- Functions of the program: each as a plain function of numbers and lists, and the proof that the program's own comes to it. Nothing is assumed but what each theorem says. -/
import Derived.Test.YtobdpbnadjkhiaaTGh
import Derived.Test.YtobdpbnadjkhiaaTGa
namespace Go.Proofs.Ytobdpbnadjkhiaa
open Go.RowKit Go.WG
set_option linter.unusedVariables false
set_option linter.unusedSimpArgs false
def juratlaw21_DocketKeys.l3 : Nat → List TRecord → Int → TState → List TGiven → Int → Int → Option (Sum Unit Bool)
  | 0, _, _, _, _, _, _ => none
  | k + 1, a1, x7524, rs9430_7_0, x10523, x10534, x10889 => if x10889 < (x10523.length : Int) then (if 0 ≤ x10889 ∧ x10889 < (x10523.length : Int) then (if ((x10523.getD x10889.toNat TGiven.z).Worker) = (((rs9430_7_0.Jobs.getD (wi64 (((a1.getD x7524.toNat TRecord.z).Job) - 1)).toNat TJob.z).Workers).getD x10534.toNat 0) ∧ ((x10523.getD x10889.toNat TGiven.z).Index) = (((rs9430_7_0.Jobs.getD (wi64 (((a1.getD x7524.toNat TRecord.z).Job) - 1)).toNat TJob.z).Indexes).getD x10534.toNat 0) then (some (Sum.inr false)) else (juratlaw21_DocketKeys.l3 k a1 x7524 rs9430_7_0 x10523 x10534 (wi64 (x10889 + 1)))) else none) else (some (Sum.inl ()))
def juratlaw21_DocketKeys.l2 : Nat → TConfig → List TRecord → Int → TState → TState → List TGiven → Int → Option (Sum (List TGiven) Bool)
  | 0, _, _, _, _, _, _, _ => none
  | k + 1, a0, a1, x7524, x7525, rs9430_7_0, x10523, x10534 => if x10534 < (((rs9430_7_0.Jobs.getD (wi64 (((a1.getD x7524.toNat TRecord.z).Job) - 1)).toNat TJob.z).Workers).length : Int) then (if 0 ≤ x10534 ∧ x10534 < (((rs9430_7_0.Jobs.getD (wi64 (((a1.getD x7524.toNat TRecord.z).Job) - 1)).toNat TJob.z).Workers).length : Int) then (if 0 ≤ x10534 ∧ x10534 < (((rs9430_7_0.Jobs.getD (wi64 (((a1.getD x7524.toNat TRecord.z).Job) - 1)).toNat TJob.z).Indexes).length : Int) then ((if (((rs9430_7_0.Jobs.getD (wi64 (((a1.getD x7524.toNat TRecord.z).Job) - 1)).toNat TJob.z).Indexes).getD x10534.toNat 0) < 0 then (some (true)) else (if 0 ≤ a0.Height then (if (((rs9430_7_0.Jobs.getD (wi64 (((a1.getD x7524.toNat TRecord.z).Job) - 1)).toNat TJob.z).Indexes).getD x10534.toNat 0) ≥ (shlOp .i64 1 a0.Height) then (some (true)) else (if 0 ≤ (((rs9430_7_0.Jobs.getD (wi64 (((a1.getD x7524.toNat TRecord.z).Job) - 1)).toNat TJob.z).Workers).getD x10534.toNat 0) ∧ (((rs9430_7_0.Jobs.getD (wi64 (((a1.getD x7524.toNat TRecord.z).Job) - 1)).toNat TJob.z).Workers).getD x10534.toNat 0) < (x7525.Barred.length : Int) then (some (x7525.Barred.getD (((rs9430_7_0.Jobs.getD (wi64 (((a1.getD x7524.toNat TRecord.z).Job) - 1)).toNat TJob.z).Workers).getD x10534.toNat 0).toNat false)) else none)) else none)).bind fun g10802 => if g10802 = true then (some (Sum.inr false)) else ((juratlaw21_DocketKeys.l3 k a1 x7524 rs9430_7_0 x10523 x10534 0).bind fun o_ => sumE o_ (fun _ => if (x10523.length + 1 + (x10523.length + 1) / 4 + 192) * 16 ≤ 281474976710656 then (juratlaw21_DocketKeys.l2 k a0 a1 x7524 x7525 rs9430_7_0 (x10523 ++ [(⟨((rs9430_7_0.Jobs.getD (wi64 (((a1.getD x7524.toNat TRecord.z).Job) - 1)).toNat TJob.z).Workers).getD x10534.toNat 0, ((rs9430_7_0.Jobs.getD (wi64 (((a1.getD x7524.toNat TRecord.z).Job) - 1)).toNat TJob.z).Indexes).getD x10534.toNat 0⟩ : TGiven)]) (wi64 (x10534 + 1))) else none) (fun p_ => some (Sum.inr p_)))) else none) else none) else (some (Sum.inl x10523))
def juratlaw21_DocketKeys.l1 : Nat → TConfig → List TRecord → List TGiven → Int → TState → Option (Sum Unit Bool)
  | 0, _, _, _, _, _ => none
  | k + 1, a0, a1, x7516, x7524, x7525 => if x7524 < (a1.length : Int) then (if 0 ≤ x7524 ∧ x7524 < (a1.length : Int) then ((juratlaw21_own.f k (a1.getD x7524.toNat TRecord.z)).bind fun rs9430_6_0 => (docket_Apply.f k a0 x7525 rs9430_6_0).bind fun ⟨rs9430_7_0, rs9430_7_1⟩ => if rs9430_7_1 = 0 then (if ((a1.getD x7524.toNat TRecord.z).Kind) = 3 then (if 0 ≤ (wi64 (((a1.getD x7524.toNat TRecord.z).Job) - 1)) ∧ (wi64 (((a1.getD x7524.toNat TRecord.z).Job) - 1)) < (rs9430_7_0.Jobs.length : Int) then ((if (((rs9430_7_0.Jobs.getD (wi64 (((a1.getD x7524.toNat TRecord.z).Job) - 1)).toNat TJob.z).Workers).length : Int) = (wi64 ((wi64 (2 * a0.Faulty)) + 1)) then (some (!decide ((((rs9430_7_0.Jobs.getD (wi64 (((a1.getD x7524.toNat TRecord.z).Job) - 1)).toNat TJob.z).Indexes).length : Int) = (((rs9430_7_0.Jobs.getD (wi64 (((a1.getD x7524.toNat TRecord.z).Job) - 1)).toNat TJob.z).Workers).length : Int)))) else (some (true))).bind fun g10072 => if g10072 = true then (some (Sum.inr false)) else ((juratlaw21_DocketKeys.l2 k a0 a1 x7524 x7525 rs9430_7_0 x7516 0).bind fun o_ => sumE o_ (fun x10507 => juratlaw21_DocketKeys.l1 k a0 a1 x10507 (wi64 (x7524 + 1)) rs9430_7_0) (fun p_ => some (Sum.inr p_)))) else none) else (juratlaw21_DocketKeys.l1 k a0 a1 x7516 (wi64 (x7524 + 1)) rs9430_7_0)) else (juratlaw21_DocketKeys.l1 k a0 a1 x7516 (wi64 (x7524 + 1)) x7525)) else none) else (some (Sum.inl ()))
def juratlaw21_DocketKeys.f (k : Nat) (a0 : TConfig) (a1 : List TRecord) : Option Bool := (juratlaw21_Great.f k a1).bind fun r13 => if r13 = true then ((juratlaw21_awake.f k ).bind fun r18 => some r18) else ((juratlaw21_awake.f k ).bind fun r24 => if r24 = true then ((docket_New.f k a0).bind fun ⟨r29, r30⟩ => (juratlaw21_DocketKeys.l1 k a0 a1 ([] : List TGiven) 0 r29).bind fun o_ => sumE o_ (fun _ => (juratlaw21_awake.f k ).bind fun r11029 => some r11029) (fun p_ => some p_)) else (some false))
set_option maxRecDepth 100000 in
set_option maxHeartbeats 4000000 in
theorem juratlaw21_DocketKeys.calls (k : Nat) (w : World) (F : CH) (a0 : TConfig) (A1 : Option Addr) (c2 : Nat) (n3 : Nat) (a1 : List TRecord) (hp : Pre w F []) (hn4 : n3 = a1.length) (hl5 : a1.length ≤ c2) (hm6 : c2 ≤ maxLen) (hS7 : Sl TRecord.K F F A1 a1) (r0_ : Bool) (H : juratlaw21_DocketKeys.f k a0 a1 = some r0_) :
    Calls Try.prog 5 #[.agg (List.toArray [.int .i64 a0.Faulty, .int .i64 a0.Workers, .int .i64 a0.Height, .int .i64 a0.Bits, .int .i64 a0.Jobs, .int .i64 a0.Term, .int .i64 a0.Heads]), .slice A1 n3 c2] w fun e w' => e = .returned (.bool r0_) ∧ Ctx w F (domL []) w' F [] := by
 have C := Ctx.start hp
 generalize hD : domL [] = D at C ⊢
 unfold juratlaw21_DocketKeys.f at H
 refine Calls.ofW Try.func5 rfl (by simp [Try.ntmps5]) ?_
 refine W.seq ?_
 refine W.region rfl ?_
 let q1 : List Go.Value := [.int .i64 a0.Faulty, .int .i64 a0.Workers, .int .i64 a0.Height, .int .i64 a0.Bits, .int .i64 a0.Jobs, .int .i64 a0.Term, .int .i64 a0.Heads]
 obtain ⟨g8, w9, hy10, C11⟩ := ev_box (P := Try.prog) 23 (.agg (List.toArray q1)) q1 C rfl
 refine WL.val (hy10 _ _ _ rfl) ?_
 refine WL.val (Yl.assign (v := .bool false) rfl) ?_
 refine WL.done ?_
 refine W.seq ?_
 refine W.seq ?_
 refine W.region rfl ?_
 refine WL.val (Yl.move (v := .slice A1 n3 c2) rfl) ?_
 obtain ⟨r13, hg12, H⟩ := bindE H
 refine WL.callH (juratlaw21_Great.calls k _ F A1 c2 n3 a1 C11.pre0 hn4 hl5 hm6 hS7 r13 hg12) (Yenter.fn Try.func7 (by kernel_rfl) rfl (argsE (.cons rfl .nil))) ?_
 rintro e_ w_ ⟨rfl, ⟨m14, rfl⟩⟩
 refine ⟨_, rfl, ?_⟩
 have C15 := Ctx.drewN C11 m14
 refine WL.done ?_
 rcases iteE H with ⟨hc16, H⟩ | ⟨hc16, H⟩
 ·refine W.condT (congrArg Value.bool hc16) ?_
  refine W.seq ?_
  refine W.region rfl ?_
  obtain ⟨r18, hg17, H⟩ := bindE H
  refine WL.callH (juratlaw21_awake.calls k _ F  (Ctx.pre (qs := []) (rest := [CH.row g8 0 q1]) C15)  r18 hg17) (Yenter.fn Try.func8 (by kernel_rfl) rfl (argsE .nil)) ?_
  rintro e_ w_ ⟨rfl, C19⟩
  refine ⟨_, rfl, ?_⟩
  have C20 : Ctx _ _ _ _ _ [CH.row g8 0 q1] := Ctx.call (qs := []) (rest := [CH.row g8 0 q1]) C15 C19
  refine WL.val (Yl.assign (v := .bool r18) rfl) ?_
  refine WL.done ?_
  refine W.ret ?_
  refine thenE_r ?_
  have C21 : Ctx _ _ _ _ _ [] := Ctx.pick [] C20 rfl
  have e22 := Option.some.inj H
  subst e22
  exact post_r (resE1 rfl rfl) ⟨rfl, C21⟩
 ·refine W.condF (congrArg Value.bool (Bool.eq_false_iff.2 hc16)) ?_
  refine W.skip ?_
  refine W.seq ?_
  refine W.seq ?_
  refine W.region rfl ?_
  obtain ⟨r24, hg23, H⟩ := bindE H
  refine WL.callH (juratlaw21_awake.calls k _ F  (Ctx.pre (qs := []) (rest := [CH.row g8 0 q1]) C15)  r24 hg23) (Yenter.fn Try.func8 (by kernel_rfl) rfl (argsE .nil)) ?_
  rintro e_ w_ ⟨rfl, C25⟩
  refine ⟨_, rfl, ?_⟩
  have C26 : Ctx _ _ _ _ _ [CH.row g8 0 q1] := Ctx.call (qs := []) (rest := [CH.row g8 0 q1]) C15 C25
  refine WL.val (Yl.not (p := r24) (q := !r24) rfl rfl) ?_
  refine WL.done ?_
  rcases iteE H with ⟨hc27, H⟩ | ⟨hc27, H⟩
  ·refine W.condF (congrArg Value.bool (nb_t hc27)) ?_
   refine W.skip ?_
   refine W.seq ?_
   refine W.region rfl ?_
   refine WL.val (Yl.loadVA (g := g8) (off := 0) (o := 0) (cs := q1) (us := [.int .i64 a0.Faulty, .int .i64 a0.Workers, .int .i64 a0.Height, .int .i64 a0.Bits, .int .i64 a0.Jobs, .int .i64 a0.Term, .int .i64 a0.Heads]) rfl Try.underlying23 rfl sz23 (Ctx.subI 0 C26 rfl) rfl) ?_
   obtain ⟨⟨r29, r30⟩, hg28, H⟩ := bindE H
   refine WL.callH (docket_New.calls k _ F a0 (Ctx.pre (qs := []) (rest := [CH.row g8 0 q1]) C26)  r29 r30 hg28) (Yenter.fn Try.func9 (by kernel_rfl) rfl (argsE (.cons rfl .nil))) ?_
   rintro e_ w_ ⟨A31, c32, n33, p35, A37, c38, n39, p41, A43, c44, n45, p47, A49, c50, n51, p53, rfl, C55, hn34, hR36, hn40, hR42, hn46, hR48, hn52, hR54⟩
   refine ⟨_, rfl, ?_⟩
   have C56 : Ctx _ _ _ _ _ [p35, p41, p47, p53, CH.row g8 0 q1] := Ctx.call (qs := []) (rest := [CH.row g8 0 q1]) C26 C55
   let q2 : List Go.Value := [.slice A31 n33 c32, .slice A37 n39 c38, .slice A43 n45 c44, .slice A49 n51 c50, .int .i64 r29.Heads]
   refine WL.val (Yl.move (v := .tuple #[(.agg (List.toArray q2)), (.int .i64 r30)]) rfl) ?_
   refine WL.val (Yl.extract (v := .agg (List.toArray q2)) rfl rfl) ?_
   refine WL.val (Yl.extract (v := .int .i64 r30) rfl rfl) ?_
   let q3 : List Go.Value := [.slice none 0 0, .slice none 0 0, .slice none 0 0, .slice none 0 0, .int .i64 0]
   obtain ⟨g57, w58, hy59, C60⟩ := ev_alloc (P := Try.prog) (e := 32) q3 C56 zr32 rfl
   refine WL.val (hy59 _ _) ?_
   obtain ⟨w61, hy62, C63⟩ := ev_setI (P := Try.prog) (ps1 := []) (ps2 := [p35, p41, p47, p53, CH.row g8 0 q1]) (t := 32) 0 q2 (.agg (List.toArray q2)) C60 rfl rfl (ones_of rfl) sz32
   have C64 : Ctx _ _ _ _ _ [CH.row g57 0 q2, p35, p41, p47, p53, CH.row g8 0 q1] := C63
   refine WL.skip (hy62 _ _ _ _ rfl rfl) ?_
   refine WL.val (Yl.assign (v := .int .i64 r30) rfl) ?_
   refine WL.done ?_
   refine W.seq ?_
   refine W.region rfl ?_
   refine WL.val (Yl.assign (v := .slice none 0 0) rfl) ?_
   refine WL.done ?_
   refine W.seq ?_
   refine W.seq ?_
   refine W.region rfl ?_
   refine WL.val (Yl.assign (v := .int .i64 0) rfl) ?_
   refine WL.done ?_
   obtain ⟨o5543, hX5542, H⟩ := bindE H
   refine W.cutM (fun env_ w_ => Ctx w F D w_ F [CH.row g8 0 q1] ∧ o5543 = Sum.inl ()) ?_ ?_
   ·refine W.block ?_
    obtain ⟨F9231, le9232, lp9233, (C9234 : Ctx _ _ _ _ _ [CH.row g57 0 q2, p41, p47, p53, CH.row g8 0 q1])⟩ := Ctx.fzI 1 C64 rfl
    obtain ⟨hl9235, hm9236, hS9237⟩ := Row.fz hR36 le9232 lp9233
    have hR9238 := Row.mono hR42 le9232
    have hR9239 := Row.mono hR48 le9232
    have hR9240 := Row.mono hR54 le9232
    obtain ⟨F9241, le9242, lp9243, (C9244 : Ctx _ _ _ _ _ [CH.row g57 0 q2, p47, p53, CH.row g8 0 q1])⟩ := Ctx.fzI 1 C9234 rfl
    obtain ⟨hl9245, hm9246, hS9247⟩ := Row.fz hR9238 le9242 lp9243
    have hR9248 := Row.mono hR9239 le9242
    have hR9249 := Row.mono hR9240 le9242
    obtain ⟨F9250, le9251, lp9252, (C9253 : Ctx _ _ _ _ _ [CH.row g57 0 q2, p53, CH.row g8 0 q1])⟩ := Ctx.fzI 1 C9244 rfl
    obtain ⟨hl9254, hm9255, hS9256⟩ := Row.fz hR9248 le9251 lp9252
    have hR9257 := Row.mono hR9249 le9251
    obtain ⟨F9258, le9259, lp9260, (C9261 : Ctx _ _ _ _ _ [CH.row g57 0 q2, CH.row g8 0 q1])⟩ := Ctx.fzI 1 C9253 rfl
    obtain ⟨hl9262, hm9263, hS9264⟩ := Row.fz hR9257 le9259 lp9260
    have C9265 : Ctx _ _ _ _ _ [CH.emp, CH.row g57 0 q2, CH.row g8 0 q1] := Ctx.pick [2, 0, 1] C9261 rfl
    refine W.loop (fun g_ env_ w_ => ∃ (x7516 : List TGiven) (x7524 : Int) (x7525 : TState) (F7510 : CH) (A7517 : Option Addr) (c7518 : Nat) (n7519 : Nat) (p7521 : CH) (A7526 : Option Addr) (c7527 : Nat) (n7528 : Nat) (A7533 : Option Addr) (c7534 : Nat) (n7535 : Nat) (A7540 : Option Addr) (c7541 : Nat) (n7542 : Nat) (A7547 : Option Addr) (c7548 : Nat) (n7549 : Nat), env_ 1 = .slice A1 n3 c2 ∧ env_ 2 = .pointer (some ⟨g8, 0, none⟩) ∧ env_ 5 = .pointer (some ⟨g57, 0, none⟩) ∧ env_ 7 = .slice A7517 n7519 c7518 ∧ env_ 8 = .int .i64 x7524 ∧ Ctx w F D w_ F7510 [p7521, CH.row g57 0 [.slice A7526 n7528 c7527, .slice A7533 n7535 c7534, .slice A7540 n7542 c7541, .slice A7547 n7549 c7548, .int .i64 x7525.Heads], CH.row g8 0 q1] ∧ CH.le F F7510 ∧ n7519 = x7516.length ∧ Row TGiven.K F7510 p7521 (.slice A7517 n7519 c7518) x7516 ∧ n7528 = x7525.Eras.length ∧ x7525.Eras.length ≤ c7527 ∧ c7527 ≤ maxLen ∧ Sl TEra.K F7510 F7510 A7526 x7525.Eras ∧ n7535 = x7525.Jobs.length ∧ x7525.Jobs.length ≤ c7534 ∧ c7534 ≤ maxLen ∧ Sl TJob.K F7510 F7510 A7533 x7525.Jobs ∧ n7542 = x7525.Used.length ∧ x7525.Used.length ≤ c7541 ∧ c7541 ≤ maxLen ∧ Sl (Kd.int .i64) F7510 F7510 A7540 x7525.Used ∧ n7549 = x7525.Barred.length ∧ x7525.Barred.length ≤ c7548 ∧ c7548 ≤ maxLen ∧ Sl Kd.bool F7510 F7510 A7547 x7525.Barred ∧ juratlaw21_DocketKeys.l1 g_ a0 a1 x7516 x7524 x7525 = some o5543) k ⟨([] : List TGiven), 0, r29, F9258, none, 0, 0, CH.emp, A31, c32, n33, A37, c38, n39, A43, c44, n45, A49, c50, n51, rfl, rfl, rfl, rfl, rfl, C9265, (CH.le_trans le9232 (CH.le_trans le9242 (CH.le_trans le9251 le9259))), rfl, (Row.nil _ _), hn34, hl9235, hm9236, (Sl.mono hS9237 (CH.le_trans le9242 (CH.le_trans le9251 le9259)) (CH.le_trans le9242 (CH.le_trans le9251 le9259))), hn40, hl9245, hm9246, (Sl.mono hS9247 (CH.le_trans le9251 le9259) (CH.le_trans le9251 le9259)), hn46, hl9254, hm9255, (Sl.mono hS9256 le9259 le9259), hn52, hl9262, hm9263, hS9264, hX5542⟩ ?_
    clear hX5542
    rintro g_ env_ w_ ⟨x7516, x7524, x7525, F7510, A7517, c7518, n7519, p7521, A7526, c7527, n7528, A7533, c7534, n7535, A7540, c7541, n7542, A7547, c7548, n7549, ho7512, ho7513, ho7514, ho7515, ho7523, C7554, le7511, hn7520, hR7522, hn7529, hl7530, hm7531, hS7532, hn7536, hl7537, hm7538, hS7539, hn7543, hl7544, hm7545, hS7546, hn7550, hl7551, hm7552, hS7553, hX5542⟩
    rcases g_ with _ | k9230
    · exact absurd hX5542 (by simp [juratlaw21_DocketKeys.l1])
    rw [juratlaw21_DocketKeys.l1] at hX5542
    refine W.seq ?_
    refine W.seq ?_
    refine W.region rfl ?_
    refine WL.val (Yl.move (v := .int .i64 x7524) ho7523) ?_
    refine WL.val (Yl.move (v := .slice A1 n3 c2) ho7512) ?_
    refine WL.val (Yl.lenN (A := A1) (l := n3) (q := c2) (n := (a1.length : Int)) rfl Try.underlying24 (by omega)) ?_
    refine WL.val (Yl.lss (m := x7524) (n := (a1.length : Int)) (q := decide (x7524 < (a1.length : Int))) rfl rfl rfl) ?_
    refine WL.done ?_
    rcases iteE hX5542 with ⟨hc9266, hX5542⟩ | ⟨hc9266, hX5542⟩
    ·refine W.condT (congrArg Value.bool (decide_eq_true hc9266)) ?_
     refine W.skip ?_
     refine W.seq ?_
     refine W.block ?_
     refine W.seq ?_
     let q4 : List Go.Value := [.slice A7526 n7528 c7527, .slice A7533 n7535 c7534, .slice A7540 n7542 c7541, .slice A7547 n7549 c7548, .int .i64 x7525.Heads]
     refine W.regionA [([7, 12], CH.row g8 0 q1), ([7, 12], CH.row g57 0 q4), ([6, 7, 12], F7510)] (by kernel_rfl) ?_
     have C9342 := Ctx.drewN C7554 1
     refine WA.takes [(0, some 0), (1, some 1), (2, none), (3, none), (4, none), (5, some 2)] ⟨(Ctx.subI 2 C9342 rfl), (Ctx.subI 1 C9342 rfl), (C9342.fro), trivial⟩ (by kernel_rfl) ?_
     refine WT.val rfl (fun _ hC_ => Yl.loadVA (g := g8) (off := 0) (o := 0) (cs := q1) (us := [.int .i64 a0.Faulty, .int .i64 a0.Workers, .int .i64 a0.Height, .int .i64 a0.Bits, .int .i64 a0.Jobs, .int .i64 a0.Term, .int .i64 a0.Heads]) (by exact ho7513) Try.underlying23 rfl sz23 (show Sub (CH.row g8 0 q1) _ from hC_) rfl) ?_
     refine WT.val rfl (fun _ hC_ => Yl.loadVA (g := g57) (off := 0) (o := 0) (cs := q4) (us := [.slice A7526 n7528 c7527, .slice A7533 n7535 c7534, .slice A7540 n7542 c7541, .slice A7547 n7549 c7548, .int .i64 x7525.Heads]) (by exact ho7514) Try.underlying32 rfl sz32 (show Sub (CH.row g57 0 q4) _ from hC_) rfl) ?_
     refine WT.val rfl (fun _ hC_ => Yl.move (v := .slice A1 n3 c2) (by exact ho7512)) ?_
     refine WT.val rfl (fun _ hC_ => Yl.move (v := .int .i64 x7524) (by exact ho7523)) ?_
     obtain ⟨hc9359, hX5542⟩ := guardE hX5542
     obtain ⟨b9360, of9361, hA9362, he9363⟩ := hS7 (by omega)
     refine WT.val rfl (fun _ hC_ => Yl.elemAddr (i := x7524) rfl rfl hA9362 Try.underlying24 sz46 (by omega)) ?_
     obtain ⟨cs9364, hr9365, hx9366⟩ := he9363 x7524.toNat _ (getD_some (d := TRecord.z) (by omega))
     obtain ⟨A9368, c9369, n9370, rfl, ha9367, hn9371, hl9372, hm9373, hS9374⟩ := TRecord.open hr9365
     refine WT.val rfl (fun _ hC_ => Yl.loadAgg (cs := [.int .i64 ((a1.getD x7524.toNat TRecord.z).Kind), .int .i64 ((a1.getD x7524.toNat TRecord.z).Epoch)] ++ (((a1.getD x7524.toNat TRecord.z).Nonce).map (Value.int .u8) ++ [.slice A9368 n9370 c9369, .int .i64 ((a1.getD x7524.toNat TRecord.z).Job), .int .i64 ((a1.getD x7524.toNat TRecord.z).Time), .int .i64 ((a1.getD x7524.toNat TRecord.z).By)])) rfl Try.underlying46 rfl (sz_of sz46 (by first | (simp only [List.length_append, List.length_map, List.length_cons, List.length_nil, ha9367]; done) | simp [ha9367])) (fun j u hu => by rw [add_of]; exact ((Sub.mono (show Sub F7510 _ from hC_) le7511)).cell (hx9366 _ _ hu))) ?_
     refine WT.done ?_
     obtain ⟨rs9430_6_0, rs9430_6h, hX5542⟩ := bindE hX5542
     obtain ⟨⟨rs9430_7_0, rs9430_7_1⟩, rs9430_7h, hX5542⟩ := bindE hX5542
     refine WA.joinAt (fun env_ w_ => ∃ (F9713 : CH) (g9721 : Nat) (o9722 : Nat) (A9723 : Option Addr) (c9724 : Nat) (n9725 : Nat) (p9727 : CH) (A9729 : Option Addr) (c9730 : Nat) (n9731 : Nat) (p9733 : CH) (A9735 : Option Addr) (c9736 : Nat) (n9737 : Nat) (p9739 : CH) (A9741 : Option Addr) (c9742 : Nat) (n9743 : Nat) (p9745 : CH) (A9748 : Option Addr) (c9749 : Nat) (n9750 : Nat) (p9752 : CH) (A9754 : Option Addr) (c9755 : Nat) (n9756 : Nat) (p9758 : CH) (A9760 : Option Addr) (c9761 : Nat) (n9762 : Nat) (p9764 : CH) (A9766 : Option Addr) (c9767 : Nat) (n9768 : Nat) (p9770 : CH), env_ 1 = .slice A1 n3 c2 ∧ env_ 2 = .pointer (some ⟨g8, 0, none⟩) ∧ env_ 5 = .pointer (some ⟨g57, 0, none⟩) ∧ env_ 7 = .slice A7517 n7519 c7518 ∧ env_ 8 = .int .i64 x7524 ∧ env_ 9 = .pointer (some ⟨g9721, o9722, none⟩) ∧ env_ 40 = .agg (List.toArray [.slice A9748 n9750 c9749, .slice A9754 n9756 c9755, .slice A9760 n9762 c9761, .slice A9766 n9768 c9767, .int .i64 rs9430_7_0.Heads]) ∧ env_ 41 = .int .i64 rs9430_7_1 ∧ Ctx w F D w_ F9713 [CH.row g9721 o9722 [.slice A9723 n9725 c9724, .slice A9729 n9731 c9730, .slice A9735 n9737 c9736, .slice A9741 n9743 c9742, .int .i64 ((⟨([] : List TEra), ([] : List TJob), ([] : List Int), ([] : List Bool), 0⟩ : TState).Heads)], p9727, p9733, p9739, p9745, p9752, p9758, p9764, p9770, p7521, CH.row g57 0 q4, CH.row g8 0 q1] ∧ CH.le F7510 F9713 ∧ n9725 = ((⟨([] : List TEra), ([] : List TJob), ([] : List Int), ([] : List Bool), 0⟩ : TState).Eras).length ∧ Row TEra.K F9713 p9727 (.slice A9723 n9725 c9724) ((⟨([] : List TEra), ([] : List TJob), ([] : List Int), ([] : List Bool), 0⟩ : TState).Eras) ∧ n9731 = ((⟨([] : List TEra), ([] : List TJob), ([] : List Int), ([] : List Bool), 0⟩ : TState).Jobs).length ∧ Row TJob.K F9713 p9733 (.slice A9729 n9731 c9730) ((⟨([] : List TEra), ([] : List TJob), ([] : List Int), ([] : List Bool), 0⟩ : TState).Jobs) ∧ n9737 = ((⟨([] : List TEra), ([] : List TJob), ([] : List Int), ([] : List Bool), 0⟩ : TState).Used).length ∧ Row (Kd.int .i64) F9713 p9739 (.slice A9735 n9737 c9736) ((⟨([] : List TEra), ([] : List TJob), ([] : List Int), ([] : List Bool), 0⟩ : TState).Used) ∧ n9743 = ((⟨([] : List TEra), ([] : List TJob), ([] : List Int), ([] : List Bool), 0⟩ : TState).Barred).length ∧ Row Kd.bool F9713 p9745 (.slice A9741 n9743 c9742) ((⟨([] : List TEra), ([] : List TJob), ([] : List Int), ([] : List Bool), 0⟩ : TState).Barred) ∧ n9750 = rs9430_7_0.Eras.length ∧ Row TEra.K F9713 p9752 (.slice A9748 n9750 c9749) rs9430_7_0.Eras ∧ n9756 = rs9430_7_0.Jobs.length ∧ Row TJob.K F9713 p9758 (.slice A9754 n9756 c9755) rs9430_7_0.Jobs ∧ n9762 = rs9430_7_0.Used.length ∧ Row (Kd.int .i64) F9713 p9764 (.slice A9760 n9762 c9761) rs9430_7_0.Used ∧ n9768 = rs9430_7_0.Barred.length ∧ Row Kd.bool F9713 p9770 (.slice A9766 n9768 c9767) rs9430_7_0.Barred) #[true, true, true, true, true, true, true, true, true, true, true, true, false, false] 2 ?_ ?_
     ·intro kJ9774
      refine WA.up2 6 11 (by kernel_rfl) ?_ ?_
      ·refine Up.callH rfl (by kernel_rfl) rfl (juratlaw21_own.calls k9230 _ F7510 A9368 c9369 n9370 (a1.getD x7524.toNat TRecord.z) (Ctx.pre (qs := []) (rest := [p7521, CH.row g57 0 q4, CH.row g8 0 q1]) C9342) ha9367 hn9371 hl9372 hm9373 (Sl.mono hS9374 le7511 le7511) rs9430_6_0 rs9430_6h) (Yenter.fn Try.func15 (by kernel_rfl) rfl (argsE (.cons rfl .nil))) ?_
       rintro e_ w_ ⟨A9776, c9777, n9778, p9780, rfl, C9782, ha9775, hn9779, hR9781⟩
       have C9783 : Ctx _ _ _ _ _ [p9780, p7521, CH.row g57 0 q4, CH.row g8 0 q1] := Ctx.call (qs := []) (rest := [p7521, CH.row g57 0 q4, CH.row g8 0 q1]) C9342 C9782
       refine ⟨_, rfl, ⟨(Ctx.subI 3 C9783 rfl), (Ctx.subI 2 C9783 rfl), trivial, trivial⟩, ?_⟩
       refine WA.up2 7 11 (by kernel_rfl) ?_ ?_
       ·obtain ⟨F9784, le9785, lp9786, (C9787 : Ctx _ _ _ _ _ [p7521, CH.row g57 0 q4, CH.row g8 0 q1])⟩ := Ctx.fzI 0 C9783 rfl
        obtain ⟨hl9788, hm9789, hS9790⟩ := Row.fz hR9781 le9785 lp9786
        have hR9791 := Row.mono hR7522 le9785
        refine Up.callH rfl (by kernel_rfl) rfl (docket_Apply.calls k9230 _ F9784 a0 A7526 c7527 n7528 A7533 c7534 n7535 A7540 c7541 n7542 A7547 c7548 n7549 x7525 A9776 c9777 n9778 rs9430_6_0 (Ctx.pre (qs := []) (rest := [p7521, CH.row g57 0 q4, CH.row g8 0 q1]) C9787) hn7529 hl7530 hm7531 (Sl.mono hS7532 le9785 le9785) hn7536 hl7537 hm7538 (Sl.mono hS7539 le9785 le9785) hn7543 hl7544 hm7545 (Sl.mono hS7546 le9785 le9785) hn7550 hl7551 hm7552 (Sl.mono hS7553 le9785 le9785) ha9775 hn9779 hl9788 hm9789 hS9790 rs9430_7_0 rs9430_7_1 rs9430_7h) (Yenter.fn Try.func14 (by kernel_rfl) rfl (argsE (.cons rfl (.cons rfl (.cons rfl .nil))))) ?_
        rintro e_ w_ ⟨F9792, A9794, c9795, n9796, p9798, A9800, c9801, n9802, p9804, A9806, c9807, n9808, p9810, A9812, c9813, n9814, p9816, rfl, le9793, C9818, hn9797, hR9799, hn9803, hR9805, hn9809, hR9811, hn9815, hR9817⟩
        have C9819 : Ctx _ _ _ _ _ [p9798, p9804, p9810, p9816, p7521, CH.row g57 0 q4, CH.row g8 0 q1] := Ctx.call (qs := []) (rest := [p7521, CH.row g57 0 q4, CH.row g8 0 q1]) C9787 C9818
        have hR9820 := Row.mono hR9791 le9793
        refine ⟨_, rfl, ⟨trivial, trivial, trivial, trivial⟩, ?_⟩
        let q5 : List Go.Value := [.slice A9794 n9796 c9795, .slice A9800 n9802 c9801, .slice A9806 n9808 c9807, .slice A9812 n9814 c9813, .int .i64 rs9430_7_0.Heads]
        refine WA.take none [] 8 rfl (by kernel_rfl) (by kernel_rfl) rfl trivial ⟨trivial, trivial, trivial, trivial⟩ (fun _ hC_ => Yl.move (v := .tuple #[(.agg (List.toArray q5)), (.int .i64 rs9430_7_1)]) rfl) ?_
        refine WA.take none [] 9 rfl (by kernel_rfl) (by kernel_rfl) rfl trivial ⟨trivial, trivial, trivial, trivial⟩ (fun _ hC_ => Yl.extract (v := .agg (List.toArray q5)) rfl rfl) ?_
        refine WA.take none [] 10 rfl (by kernel_rfl) (by kernel_rfl) rfl trivial ⟨trivial, trivial, trivial, trivial⟩ (fun _ hC_ => Yl.extract (v := .int .i64 rs9430_7_1) rfl rfl) ?_
        obtain ⟨g9821, w9822, hy9823, C9824⟩ := ev_alloc (P := Try.prog) (e := 32) q3 C9819 zr32 rfl
        refine WA.up1 11 (by kernel_rfl) (Up.val rfl rfl rfl (hy9823 _ _) ⟨trivial, trivial, trivial, trivial⟩ ?_)
        have C9825 : Ctx _ _ _ _ _ [CH.row g9821 0 q3, CH.emp, CH.emp, CH.emp, CH.emp, p9798, p9804, p9810, p9816, p7521, CH.row g57 0 q4, CH.row g8 0 q1] := Ctx.pick [0, 8, 8, 8, 8, 1, 2, 3, 4, 5, 6, 7] C9824 rfl
        exact kJ9774 _ _ ⟨F9792, g9821, 0, none, 0, 0, CH.emp, none, 0, 0, CH.emp, none, 0, 0, CH.emp, none, 0, 0, CH.emp, A9794, c9795, n9796, p9798, A9800, c9801, n9802, p9804, A9806, c9807, n9808, p9810, A9812, c9813, n9814, p9816, ho7512, ho7513, ho7514, ho7515, ho7523, rfl, rfl, rfl, C9825, (CH.le_trans le9785 le9793), rfl, (Row.nil _ _), rfl, (Row.nil _ _), rfl, (Row.nil _ _), rfl, (Row.nil _ _), hn9797, hR9799, hn9803, hR9805, hn9809, hR9811, hn9815, hR9817⟩
       ·obtain ⟨g9826, w9827, hy9828, C9829⟩ := ev_alloc (P := Try.prog) (e := 32) q3 C9783 zr32 rfl
        refine Up.val rfl rfl rfl (hy9828 _ _) ⟨(Ctx.subI 4 C9829 rfl), (Ctx.subI 3 C9829 rfl), trivial, trivial⟩ ?_
        obtain ⟨F9830, le9831, lp9832, (C9833 : Ctx _ _ _ _ _ [CH.row g9826 0 q3, p7521, CH.row g57 0 q4, CH.row g8 0 q1])⟩ := Ctx.fzI 1 C9829 rfl
        obtain ⟨hl9834, hm9835, hS9836⟩ := Row.fz hR9781 le9831 lp9832
        have hR9837 := Row.mono hR7522 le9831
        refine WA.up1 7 (by kernel_rfl) (Up.callH rfl (by kernel_rfl) rfl (docket_Apply.calls k9230 _ F9830 a0 A7526 c7527 n7528 A7533 c7534 n7535 A7540 c7541 n7542 A7547 c7548 n7549 x7525 A9776 c9777 n9778 rs9430_6_0 (Ctx.pre (qs := []) (rest := [CH.row g9826 0 q3, p7521, CH.row g57 0 q4, CH.row g8 0 q1]) C9833) hn7529 hl7530 hm7531 (Sl.mono hS7532 le9831 le9831) hn7536 hl7537 hm7538 (Sl.mono hS7539 le9831 le9831) hn7543 hl7544 hm7545 (Sl.mono hS7546 le9831 le9831) hn7550 hl7551 hm7552 (Sl.mono hS7553 le9831 le9831) ha9775 hn9779 hl9834 hm9835 hS9836 rs9430_7_0 rs9430_7_1 rs9430_7h) (Yenter.fn Try.func14 (by kernel_rfl) rfl (argsE (.cons rfl (.cons rfl (.cons rfl .nil))))) ?_)
        rintro e_ w_ ⟨F9838, A9840, c9841, n9842, p9844, A9846, c9847, n9848, p9850, A9852, c9853, n9854, p9856, A9858, c9859, n9860, p9862, rfl, le9839, C9864, hn9843, hR9845, hn9849, hR9851, hn9855, hR9857, hn9861, hR9863⟩
        have C9865 : Ctx _ _ _ _ _ [p9844, p9850, p9856, p9862, CH.row g9826 0 q3, p7521, CH.row g57 0 q4, CH.row g8 0 q1] := Ctx.call (qs := []) (rest := [CH.row g9826 0 q3, p7521, CH.row g57 0 q4, CH.row g8 0 q1]) C9833 C9864
        have hR9866 := Row.mono hR9837 le9839
        refine ⟨_, rfl, ⟨trivial, trivial, trivial, trivial⟩, ?_⟩
        let q6 : List Go.Value := [.slice A9840 n9842 c9841, .slice A9846 n9848 c9847, .slice A9852 n9854 c9853, .slice A9858 n9860 c9859, .int .i64 rs9430_7_0.Heads]
        refine WA.take none [] 8 rfl (by kernel_rfl) (by kernel_rfl) rfl trivial ⟨trivial, trivial, trivial, trivial⟩ (fun _ hC_ => Yl.move (v := .tuple #[(.agg (List.toArray q6)), (.int .i64 rs9430_7_1)]) rfl) ?_
        refine WA.take none [] 9 rfl (by kernel_rfl) (by kernel_rfl) rfl trivial ⟨trivial, trivial, trivial, trivial⟩ (fun _ hC_ => Yl.extract (v := .agg (List.toArray q6)) rfl rfl) ?_
        refine WA.take none [] 10 rfl (by kernel_rfl) (by kernel_rfl) rfl trivial ⟨trivial, trivial, trivial, trivial⟩ (fun _ hC_ => Yl.extract (v := .int .i64 rs9430_7_1) rfl rfl) ?_
        have C9867 : Ctx _ _ _ _ _ [CH.row g9826 0 q3, CH.emp, CH.emp, CH.emp, CH.emp, p9844, p9850, p9856, p9862, p7521, CH.row g57 0 q4, CH.row g8 0 q1] := Ctx.pick [4, 8, 8, 8, 8, 0, 1, 2, 3, 5, 6, 7] C9865 rfl
        exact kJ9774 _ _ ⟨F9838, g9826, 0, none, 0, 0, CH.emp, none, 0, 0, CH.emp, none, 0, 0, CH.emp, none, 0, 0, CH.emp, A9840, c9841, n9842, p9844, A9846, c9847, n9848, p9850, A9852, c9853, n9854, p9856, A9858, c9859, n9860, p9862, ho7512, ho7513, ho7514, ho7515, ho7523, rfl, rfl, rfl, C9867, (CH.le_trans le9831 le9839), rfl, (Row.nil _ _), rfl, (Row.nil _ _), rfl, (Row.nil _ _), rfl, (Row.nil _ _), hn9843, hR9845, hn9849, hR9851, hn9855, hR9857, hn9861, hR9863⟩
      ·obtain ⟨g9868, w9869, hy9870, C9871⟩ := ev_alloc (P := Try.prog) (e := 32) q3 C9342 zr32 rfl
       refine Up.val rfl rfl rfl (hy9870 _ _) ⟨(Ctx.subI 3 C9871 rfl), (Ctx.subI 2 C9871 rfl), (C9871.fro), trivial⟩ ?_
       refine WA.up1 6 (by kernel_rfl) (Up.callH rfl (by kernel_rfl) rfl (juratlaw21_own.calls k9230 _ F7510 A9368 c9369 n9370 (a1.getD x7524.toNat TRecord.z) (Ctx.pre (qs := []) (rest := [CH.row g9868 0 q3, p7521, CH.row g57 0 q4, CH.row g8 0 q1]) C9871) ha9367 hn9371 hl9372 hm9373 (Sl.mono hS9374 le7511 le7511) rs9430_6_0 rs9430_6h) (Yenter.fn Try.func15 (by kernel_rfl) rfl (argsE (.cons rfl .nil))) ?_)
       rintro e_ w_ ⟨A9873, c9874, n9875, p9877, rfl, C9879, ha9872, hn9876, hR9878⟩
       have C9880 : Ctx _ _ _ _ _ [p9877, CH.row g9868 0 q3, p7521, CH.row g57 0 q4, CH.row g8 0 q1] := Ctx.call (qs := []) (rest := [CH.row g9868 0 q3, p7521, CH.row g57 0 q4, CH.row g8 0 q1]) C9871 C9879
       refine ⟨_, rfl, ⟨(Ctx.subI 4 C9880 rfl), (Ctx.subI 3 C9880 rfl), trivial, trivial⟩, ?_⟩
       obtain ⟨F9881, le9882, lp9883, (C9884 : Ctx _ _ _ _ _ [CH.row g9868 0 q3, p7521, CH.row g57 0 q4, CH.row g8 0 q1])⟩ := Ctx.fzI 0 C9880 rfl
       obtain ⟨hl9885, hm9886, hS9887⟩ := Row.fz hR9878 le9882 lp9883
       have hR9888 := Row.mono hR7522 le9882
       refine WA.up1 7 (by kernel_rfl) (Up.callH rfl (by kernel_rfl) rfl (docket_Apply.calls k9230 _ F9881 a0 A7526 c7527 n7528 A7533 c7534 n7535 A7540 c7541 n7542 A7547 c7548 n7549 x7525 A9873 c9874 n9875 rs9430_6_0 (Ctx.pre (qs := []) (rest := [CH.row g9868 0 q3, p7521, CH.row g57 0 q4, CH.row g8 0 q1]) C9884) hn7529 hl7530 hm7531 (Sl.mono hS7532 le9882 le9882) hn7536 hl7537 hm7538 (Sl.mono hS7539 le9882 le9882) hn7543 hl7544 hm7545 (Sl.mono hS7546 le9882 le9882) hn7550 hl7551 hm7552 (Sl.mono hS7553 le9882 le9882) ha9872 hn9876 hl9885 hm9886 hS9887 rs9430_7_0 rs9430_7_1 rs9430_7h) (Yenter.fn Try.func14 (by kernel_rfl) rfl (argsE (.cons rfl (.cons rfl (.cons rfl .nil))))) ?_)
       rintro e_ w_ ⟨F9889, A9891, c9892, n9893, p9895, A9897, c9898, n9899, p9901, A9903, c9904, n9905, p9907, A9909, c9910, n9911, p9913, rfl, le9890, C9915, hn9894, hR9896, hn9900, hR9902, hn9906, hR9908, hn9912, hR9914⟩
       have C9916 : Ctx _ _ _ _ _ [p9895, p9901, p9907, p9913, CH.row g9868 0 q3, p7521, CH.row g57 0 q4, CH.row g8 0 q1] := Ctx.call (qs := []) (rest := [CH.row g9868 0 q3, p7521, CH.row g57 0 q4, CH.row g8 0 q1]) C9884 C9915
       have hR9917 := Row.mono hR9888 le9890
       refine ⟨_, rfl, ⟨trivial, trivial, trivial, trivial⟩, ?_⟩
       let q7 : List Go.Value := [.slice A9891 n9893 c9892, .slice A9897 n9899 c9898, .slice A9903 n9905 c9904, .slice A9909 n9911 c9910, .int .i64 rs9430_7_0.Heads]
       refine WA.take none [] 8 rfl (by kernel_rfl) (by kernel_rfl) rfl trivial ⟨trivial, trivial, trivial, trivial⟩ (fun _ hC_ => Yl.move (v := .tuple #[(.agg (List.toArray q7)), (.int .i64 rs9430_7_1)]) rfl) ?_
       refine WA.take none [] 9 rfl (by kernel_rfl) (by kernel_rfl) rfl trivial ⟨trivial, trivial, trivial, trivial⟩ (fun _ hC_ => Yl.extract (v := .agg (List.toArray q7)) rfl rfl) ?_
       refine WA.take none [] 10 rfl (by kernel_rfl) (by kernel_rfl) rfl trivial ⟨trivial, trivial, trivial, trivial⟩ (fun _ hC_ => Yl.extract (v := .int .i64 rs9430_7_1) rfl rfl) ?_
       have C9918 : Ctx _ _ _ _ _ [CH.row g9868 0 q3, CH.emp, CH.emp, CH.emp, CH.emp, p9895, p9901, p9907, p9913, p7521, CH.row g57 0 q4, CH.row g8 0 q1] := Ctx.pick [4, 8, 8, 8, 8, 0, 1, 2, 3, 5, 6, 7] C9916 rfl
       exact kJ9774 _ _ ⟨F9889, g9868, 0, none, 0, 0, CH.emp, none, 0, 0, CH.emp, none, 0, 0, CH.emp, none, 0, 0, CH.emp, A9891, c9892, n9893, p9895, A9897, c9898, n9899, p9901, A9903, c9904, n9905, p9907, A9909, c9910, n9911, p9913, ho7512, ho7513, ho7514, ho7515, ho7523, rfl, rfl, rfl, C9918, (CH.le_trans le9882 le9890), rfl, (Row.nil _ _), rfl, (Row.nil _ _), rfl, (Row.nil _ _), rfl, (Row.nil _ _), hn9894, hR9896, hn9900, hR9902, hn9906, hR9908, hn9912, hR9914⟩
     ·rintro env_ w_ ⟨F9713, g9721, o9722, A9723, c9724, n9725, p9727, A9729, c9730, n9731, p9733, A9735, c9736, n9737, p9739, A9741, c9742, n9743, p9745, A9748, c9749, n9750, p9752, A9754, c9755, n9756, p9758, A9760, c9761, n9762, p9764, A9766, c9767, n9768, p9770, ho9715, ho9716, ho9717, ho9718, ho9719, ho9720, ho9747, ho9772, C9773, le9714, hn9726, hR9728, hn9732, hR9734, hn9738, hR9740, hn9744, hR9746, hn9751, hR9753, hn9757, hR9759, hn9763, hR9765, hn9769, hR9771⟩
      have hR9919 := Row.mono hR7522 le9714
      let q8 : List Go.Value := [.slice A9748 n9750 c9749, .slice A9754 n9756 c9755, .slice A9760 n9762 c9761, .slice A9766 n9768 c9767, .int .i64 rs9430_7_0.Heads]
      obtain ⟨w9920, hy9921, C9922⟩ := ev_setI (P := Try.prog) (ps1 := []) (ps2 := [p9727, p9733, p9739, p9745, p9752, p9758, p9764, p9770, p7521, CH.row g57 0 q4, CH.row g8 0 q1]) (t := 32) 0 q8 (.agg (List.toArray q8)) C9773 rfl rfl (ones_of rfl) sz32
      have C9923 : Ctx _ _ _ _ _ [CH.row g9721 o9722 q8, p9727, p9733, p9739, p9745, p9752, p9758, p9764, p9770, p7521, CH.row g57 0 q4, CH.row g8 0 q1] := C9922
      refine WA.up1 12 (by kernel_rfl) (Up.skip rfl rfl (hy9921 _ _ _ _ ho9720 ho9747) ⟨trivial, trivial, trivial, trivial⟩ ?_)
      refine WA.take none [] 13 rfl (by kernel_rfl) (by kernel_rfl) rfl trivial ⟨trivial, trivial, trivial, trivial⟩ (fun _ hC_ => Yl.assign (v := .int .i64 rs9430_7_1) ho9772) ?_
      refine WA.done (by kernel_rfl) ?_
      refine W.seq ?_
      refine W.seq ?_
      refine W.region rfl ?_
      refine WL.val (Yl.move (v := .int .i64 rs9430_7_1) rfl) ?_
      refine WL.val (Yl.neq (m := rs9430_7_1) (n := 0) (q := !decide (rs9430_7_1 = 0)) rfl rfl rfl) ?_
      refine WL.done ?_
      rcases iteE hX5542 with ⟨hc9924, hX5542⟩ | ⟨hc9924, hX5542⟩
      ·refine W.condF (congrArg Value.bool (ndec_t hc9924)) ?_
       refine W.skip ?_
       refine W.seq ?_
       refine W.seq ?_
       refine W.region rfl ?_
       refine WL.val (Yl.move (v := .slice A1 n3 c2) ho9715) ?_
       refine WL.val (Yl.move (v := .int .i64 x7524) ho9719) ?_
       refine WL.val (Yl.elemAddr (i := x7524) rfl rfl hA9362 Try.underlying24 sz46 (by omega)) ?_
       refine WL.val (Yl.fieldAddr (i := 0) rfl Try.underlying46 rfl sz3) ?_
       refine WL.val (Yl.load (v := .int .i64 ((a1.getD x7524.toNat TRecord.z).Kind)) rfl Try.underlying3 rfl (((C9923.fro.mono (CH.le_trans le7511 le9714))).cell (hx9366 0 _ rfl))) ?_
       refine WL.val (Yl.eql (m := (a1.getD x7524.toNat TRecord.z).Kind) (n := 3) (q := decide (((a1.getD x7524.toNat TRecord.z).Kind) = 3)) rfl rfl rfl) ?_
       refine WL.done ?_
       rcases iteE hX5542 with ⟨hc9925, hX5542⟩ | ⟨hc9925, hX5542⟩
       ·refine W.condT (congrArg Value.bool (decide_eq_true hc9925)) ?_
        refine W.seq ?_
        refine W.regionA [([11], CH.row g9721 o9722 q8), ([11], F9713), ([11], p9758)] (by kernel_rfl) ?_
        have C9977 := Ctx.drewN C9923 1
        refine WA.takes [(0, none), (1, some 0), (2, none), (3, none), (4, none), (5, none), (6, some 1), (7, none), (8, none), (9, some 2)] ⟨(Ctx.subI 0 C9977 rfl), (C9977.fro), (Ctx.subI 6 C9977 rfl), trivial⟩ (by kernel_rfl) ?_
        refine WT.val rfl (fun _ hC_ => Yl.fieldAddr (i := 1) (by exact ho9720) Try.underlying32 rfl sz28) ?_
        refine WT.val rfl (fun _ hC_ => Yl.loadV (g := g9721) (off := o9722) (o := 1) (cs := q8) (v := .slice A9754 n9756 c9755) rfl Try.underlying28 rfl (show Sub (CH.row g9721 o9722 q8) _ from hC_) rfl) ?_
        refine WT.val rfl (fun _ hC_ => Yl.move (v := .slice A1 n3 c2) (by exact ho9715)) ?_
        refine WT.val rfl (fun _ hC_ => Yl.move (v := .int .i64 x7524) (by exact ho9719)) ?_
        refine WT.val rfl (fun _ hC_ => Yl.elemAddr (i := x7524) rfl rfl hA9362 Try.underlying24 sz46 (by omega)) ?_
        refine WT.val rfl (fun _ hC_ => Yl.fieldAddr (i := 4) rfl Try.underlying46 rfl sz3) ?_
        refine WT.val rfl (fun _ hC_ => Yl.load (v := .int .i64 ((a1.getD x7524.toNat TRecord.z).Job)) rfl Try.underlying3 rfl (((Sub.mono (show Sub F9713 _ from hC_) (CH.le_trans le7511 le9714))).cell (hx9366 35 _ (by simp [-List.getD_eq_getElem?_getD, List.getElem?_append, ha9367])))) ?_
        refine WT.val rfl (fun _ hC_ => Yl.sub (m := (a1.getD x7524.toNat TRecord.z).Job) (n := 1) (r := wi64 (((a1.getD x7524.toNat TRecord.z).Job) - 1)) rfl rfl rfl) ?_
        obtain ⟨hc10021, hX5542⟩ := guardE hX5542
        obtain ⟨b10022, of10023, hA10024, he10025⟩ := (Row.sl hR9759) (by omega)
        refine WT.val rfl (fun _ hC_ => Yl.elemAddr (i := wi64 (((a1.getD x7524.toNat TRecord.z).Job) - 1)) rfl rfl hA10024 Try.underlying28 sz55 (by omega)) ?_
        obtain ⟨cs10026, hr10027, hx10028⟩ := he10025 (wi64 (((a1.getD x7524.toNat TRecord.z).Job) - 1)).toNat _ (getD_some (d := TJob.z) (by omega))
        obtain ⟨A10029, c10030, n10031, A10036, c10037, n10038, A10043, c10044, n10045, A10050, c10051, n10052, A10057, c10058, n10059, rfl, hn10032, hl10033, hm10034, hS10035, hn10039, hl10040, hm10041, hS10042, hn10046, hl10047, hm10048, hS10049, hn10053, hl10054, hm10055, hS10056, hn10060, hl10061, hm10062, hS10063⟩ := TJob.open hr10027
        let q9 : List Go.Value := [.slice A10029 n10031 c10030, .int .i64 ((rs9430_7_0.Jobs.getD (wi64 (((a1.getD x7524.toNat TRecord.z).Job) - 1)).toNat TJob.z).State), .int .i64 ((rs9430_7_0.Jobs.getD (wi64 (((a1.getD x7524.toNat TRecord.z).Job) - 1)).toNat TJob.z).Attempt), .int .i64 ((rs9430_7_0.Jobs.getD (wi64 (((a1.getD x7524.toNat TRecord.z).Job) - 1)).toNat TJob.z).Epoch), .int .i64 ((rs9430_7_0.Jobs.getD (wi64 (((a1.getD x7524.toNat TRecord.z).Job) - 1)).toNat TJob.z).Until), .slice A10036 n10038 c10037, .slice A10043 n10045 c10044, .slice A10050 n10052 c10051, .slice A10057 n10059 c10058]
        refine WT.val rfl (fun _ hC_ => Yl.loadAgg (cs := q9) rfl Try.underlying55 rfl sz55 (fun j u hu => by rw [add_of]; exact ((show Sub p9758 _ from hC_)).cell (hx10028 _ _ hu))) ?_
        refine WT.done ?_
        let q10 : List Go.Value := [.slice none 0 0, .int .i64 0, .int .i64 0, .int .i64 0, .int .i64 0, .slice none 0 0, .slice none 0 0, .slice none 0 0, .slice none 0 0]
        obtain ⟨g10064, w10065, hy10066, C10067⟩ := ev_alloc (P := Try.prog) (e := 55) q10 C9977 zr55 rfl
        refine WA.up1 10 (by kernel_rfl) (Up.val rfl rfl rfl (hy10066 _ _) ⟨(Ctx.subI 1 C10067 rfl), (C10067.fro), (Ctx.subI 7 C10067 rfl), trivial⟩ ?_)
        obtain ⟨w10068, hy10069, C10070⟩ := ev_setI (P := Try.prog) (ps1 := []) (ps2 := [CH.row g9721 o9722 q8, p9727, p9733, p9739, p9745, p9752, p9758, p9764, p9770, p7521, CH.row g57 0 q4, CH.row g8 0 q1]) (t := 55) 0 q9 (.agg (List.toArray q9)) C10067 rfl rfl (ones_of rfl) sz55
        have C10071 : Ctx _ _ _ _ _ [CH.row g10064 0 q9, CH.row g9721 o9722 q8, p9727, p9733, p9739, p9745, p9752, p9758, p9764, p9770, p7521, CH.row g57 0 q4, CH.row g8 0 q1] := C10070
        refine WA.up1 11 (by kernel_rfl) (Up.skip rfl rfl (hy10069 _ _ _ _ rfl rfl) ⟨trivial, trivial, trivial, trivial⟩ ?_)
        refine WA.done (by kernel_rfl) ?_
        refine W.seq ?_
        refine W.seq ?_
        refine W.region rfl ?_
        refine WL.val (Yl.fieldAddr (i := 5) rfl Try.underlying55 rfl sz29) ?_
        refine WL.val (Yl.loadV (g := g10064) (off := 0) (o := 5) (cs := q9) (v := .slice A10036 n10038 c10037) rfl Try.underlying29 rfl (Ctx.subI 0 C10071 rfl) rfl) ?_
        refine WL.val (Yl.lenN (A := A10036) (l := n10038) (q := c10037) (n := (((rs9430_7_0.Jobs.getD (wi64 (((a1.getD x7524.toNat TRecord.z).Job) - 1)).toNat TJob.z).Workers).length : Int)) rfl Try.underlying29 (by omega)) ?_
        refine WL.val (Yl.fieldAddr (i := 0) ho9716 Try.underlying23 rfl sz3) ?_
        refine WL.val (Yl.loadV (g := g8) (off := 0) (o := 0) (cs := q1) (v := .int .i64 a0.Faulty) rfl Try.underlying3 rfl (Ctx.subI 12 C10071 rfl) rfl) ?_
        refine WL.val (Yl.mul (m := 2) (n := a0.Faulty) (r := wi64 (2 * a0.Faulty)) rfl rfl rfl) ?_
        refine WL.val (Yl.add (m := wi64 (2 * a0.Faulty)) (n := 1) (r := wi64 ((wi64 (2 * a0.Faulty)) + 1)) rfl rfl rfl) ?_
        refine WL.val (Yl.neq (m := (((rs9430_7_0.Jobs.getD (wi64 (((a1.getD x7524.toNat TRecord.z).Job) - 1)).toNat TJob.z).Workers).length : Int)) (n := wi64 ((wi64 (2 * a0.Faulty)) + 1)) (q := !decide ((((rs9430_7_0.Jobs.getD (wi64 (((a1.getD x7524.toNat TRecord.z).Job) - 1)).toNat TJob.z).Workers).length : Int) = (wi64 ((wi64 (2 * a0.Faulty)) + 1)))) rfl rfl rfl) ?_
        refine WL.val (Yl.move (v := .bool (!decide ((((rs9430_7_0.Jobs.getD (wi64 (((a1.getD x7524.toNat TRecord.z).Job) - 1)).toNat TJob.z).Workers).length : Int) = (wi64 ((wi64 (2 * a0.Faulty)) + 1))))) rfl) ?_
        obtain ⟨g10072, HE10073, hX5542⟩ := bindE hX5542
        refine WL.cut (fun env_ w_ => env_ 76 = .bool g10072 ∧ env_ 1 = .slice A1 n3 c2 ∧ env_ 2 = .pointer (some ⟨g8, 0, none⟩) ∧ env_ 5 = .pointer (some ⟨g57, 0, none⟩) ∧ env_ 7 = .slice A7517 n7519 c7518 ∧ env_ 8 = .int .i64 x7524 ∧ env_ 9 = .pointer (some ⟨g9721, o9722, none⟩) ∧ env_ 11 = .pointer (some ⟨g10064, 0, none⟩) ∧ Ctx w F D w_ F9713 [CH.row g10064 0 q9, CH.row g9721 o9722 q8, p9727, p9733, p9739, p9745, p9752, p9758, p9764, p9770, p7521, CH.row g57 0 q4, CH.row g8 0 q1]) ?_ ?_
        ·rcases iteE HE10073 with ⟨hc10074, HE10073⟩ | ⟨hc10074, HE10073⟩
         ·refine WL.valOn rfl (congrArg Value.bool (ndec_t hc10074)) (Yl.fieldAddr (i := 6) rfl Try.underlying55 rfl sz29) ?_
          refine WL.valOn rfl (congrArg Value.bool (ndec_t hc10074)) (Yl.loadV (g := g10064) (off := 0) (o := 6) (cs := q9) (v := .slice A10043 n10045 c10044) rfl Try.underlying29 rfl (Ctx.subI 0 C10071 rfl) rfl) ?_
          refine WL.valOn rfl (congrArg Value.bool (ndec_t hc10074)) (Yl.lenN (A := A10043) (l := n10045) (q := c10044) (n := (((rs9430_7_0.Jobs.getD (wi64 (((a1.getD x7524.toNat TRecord.z).Job) - 1)).toNat TJob.z).Indexes).length : Int)) rfl Try.underlying29 (by omega)) ?_
          refine WL.valOn rfl (congrArg Value.bool (ndec_t hc10074)) (Yl.fieldAddr (i := 5) rfl Try.underlying55 rfl sz29) ?_
          refine WL.valOn rfl (congrArg Value.bool (ndec_t hc10074)) (Yl.loadV (g := g10064) (off := 0) (o := 5) (cs := q9) (v := .slice A10036 n10038 c10037) rfl Try.underlying29 rfl (Ctx.subI 0 C10071 rfl) rfl) ?_
          refine WL.valOn rfl (congrArg Value.bool (ndec_t hc10074)) (Yl.lenN (A := A10036) (l := n10038) (q := c10037) (n := (((rs9430_7_0.Jobs.getD (wi64 (((a1.getD x7524.toNat TRecord.z).Job) - 1)).toNat TJob.z).Workers).length : Int)) rfl Try.underlying29 (by omega)) ?_
          refine WL.valOn rfl (congrArg Value.bool (ndec_t hc10074)) (Yl.neq (m := (((rs9430_7_0.Jobs.getD (wi64 (((a1.getD x7524.toNat TRecord.z).Job) - 1)).toNat TJob.z).Indexes).length : Int)) (n := (((rs9430_7_0.Jobs.getD (wi64 (((a1.getD x7524.toNat TRecord.z).Job) - 1)).toNat TJob.z).Workers).length : Int)) (q := !decide ((((rs9430_7_0.Jobs.getD (wi64 (((a1.getD x7524.toNat TRecord.z).Job) - 1)).toNat TJob.z).Indexes).length : Int) = (((rs9430_7_0.Jobs.getD (wi64 (((a1.getD x7524.toNat TRecord.z).Job) - 1)).toNat TJob.z).Workers).length : Int))) rfl rfl rfl) ?_
          refine WL.val (Yl.pickF (v := .bool (!decide ((((rs9430_7_0.Jobs.getD (wi64 (((a1.getD x7524.toNat TRecord.z).Job) - 1)).toNat TJob.z).Indexes).length : Int) = (((rs9430_7_0.Jobs.getD (wi64 (((a1.getD x7524.toNat TRecord.z).Job) - 1)).toNat TJob.z).Workers).length : Int)))) (congrArg Value.bool (ndec_t hc10074)) rfl) ?_
          cases HE10073
          exact WL.done ⟨rfl, ho9715, ho9716, ho9717, ho9718, ho9719, ho9720, rfl, C10071⟩
         ·refine WL.offs 7 68 false (congrArg Value.bool (ndec_f hc10074)) rfl ?_
          refine WL.val (Yl.pickT (v := .bool true) (congrArg Value.bool (ndec_f hc10074)) rfl) ?_
          cases HE10073
          exact WL.done ⟨rfl, ho9715, ho9716, ho9717, ho9718, ho9719, ho9720, rfl, C10071⟩
        ·rintro env_ w_ ⟨ho10075, ho10076, ho10077, ho10078, ho10079, ho10080, ho10081, ho10082, C10083⟩
         rcases iteE hX5542 with ⟨hc10084, hX5542⟩ | ⟨hc10084, hX5542⟩
         ·refine W.condT (ho10075.trans (congrArg Value.bool hc10084)) ?_
          refine W.seq ?_
          refine W.region rfl ?_
          refine WL.val (Yl.assign (v := .bool false) rfl) ?_
          refine WL.done ?_
          refine W.ret ?_
          refine thenE_r ?_
          refine thenE_r ?_
          refine inB_r ?_
          refine thenE_r ?_
          refine thenE_r ?_
          refine inB_r ?_
          refine thenE_r ?_
          refine thenE_r ?_
          cases hX5542
          replace H := sumE_r H
          have C10085 : Ctx _ _ _ _ _ [] := Ctx.pick [] C10083 rfl
          have e10086 := Option.some.inj H
          subst e10086
          exact post_r (resE1 rfl rfl) ⟨rfl, (Ctx.weak C10085 (CH.le_refl _))⟩
         ·refine W.condF (ho10075.trans (congrArg Value.bool (Bool.eq_false_iff.2 hc10084))) ?_
          refine W.skip ?_
          refine W.seq ?_
          refine W.region rfl ?_
          refine WL.val (Yl.assign (v := .int .i64 0) rfl) ?_
          refine WL.done ?_
          obtain ⟨o10518, hX10517, hX5542⟩ := bindE hX5542
          refine W.cutM (fun env_ w_ => ∃ (x10507 : List TGiven) (A10508 : Option Addr) (c10509 : Nat) (n10510 : Nat) (p10512 : CH), env_ 1 = .slice A1 n3 c2 ∧ env_ 2 = .pointer (some ⟨g8, 0, none⟩) ∧ env_ 5 = .pointer (some ⟨g57, 0, none⟩) ∧ env_ 7 = .slice A10508 n10510 c10509 ∧ env_ 8 = .int .i64 x7524 ∧ env_ 9 = .pointer (some ⟨g9721, o9722, none⟩) ∧ Ctx w F D w_ F9713 [p10512, CH.row g10064 0 q9, CH.row g9721 o9722 q8, p9727, p9733, p9739, p9745, p9752, p9758, p9764, p9770, CH.row g57 0 q4, CH.row g8 0 q1] ∧ n10510 = x10507.length ∧ Row TGiven.K F9713 p10512 (.slice A10508 n10510 c10509) x10507 ∧ o10518 = Sum.inl x10507) ?_ ?_
          ·refine W.block ?_
           have C10735 : Ctx _ _ _ _ _ [p7521, CH.row g10064 0 q9, CH.row g9721 o9722 q8, p9727, p9733, p9739, p9745, p9752, p9758, p9764, p9770, CH.row g57 0 q4, CH.row g8 0 q1] := Ctx.pick [10, 0, 1, 2, 3, 4, 5, 6, 7, 8, 9, 11, 12] C10083 rfl
           refine W.loop (fun g_ env_ w_ => ∃ (x10523 : List TGiven) (x10534 : Int) (A10524 : Option Addr) (c10525 : Nat) (n10526 : Nat) (p10528 : CH), env_ 1 = .slice A1 n3 c2 ∧ env_ 2 = .pointer (some ⟨g8, 0, none⟩) ∧ env_ 5 = .pointer (some ⟨g57, 0, none⟩) ∧ env_ 7 = .slice A10524 n10526 c10525 ∧ env_ 8 = .int .i64 x7524 ∧ env_ 9 = .pointer (some ⟨g9721, o9722, none⟩) ∧ env_ 11 = .pointer (some ⟨g10064, 0, none⟩) ∧ env_ 12 = .int .i64 x10534 ∧ Ctx w F D w_ F9713 [p10528, CH.row g10064 0 q9, CH.row g9721 o9722 q8, p9727, p9733, p9739, p9745, p9752, p9758, p9764, p9770, CH.row g57 0 q4, CH.row g8 0 q1] ∧ n10526 = x10523.length ∧ Row TGiven.K F9713 p10528 (.slice A10524 n10526 c10525) x10523 ∧ juratlaw21_DocketKeys.l2 g_ a0 a1 x7524 x7525 rs9430_7_0 x10523 x10534 = some o10518) k9230 ⟨x7516, 0, A7517, c7518, n7519, p7521, ho10076, ho10077, ho10078, ho10079, ho10080, ho10081, ho10082, rfl, C10735, hn7520, hR9919, hX10517⟩ ?_
           clear hX10517
           rintro g_ env_ w_ ⟨x10523, x10534, A10524, c10525, n10526, p10528, ho10519, ho10520, ho10521, ho10522, ho10530, ho10531, ho10532, ho10533, C10535, hn10527, hR10529, hX10517⟩
           rcases g_ with _ | k10734
           · exact absurd hX10517 (by simp [juratlaw21_DocketKeys.l2])
           rw [juratlaw21_DocketKeys.l2] at hX10517
           refine W.seq ?_
           refine W.seq ?_
           refine W.region rfl ?_
           refine WL.val (Yl.move (v := .int .i64 x10534) ho10533) ?_
           refine WL.val (Yl.fieldAddr (i := 5) ho10532 Try.underlying55 rfl sz29) ?_
           refine WL.val (Yl.loadV (g := g10064) (off := 0) (o := 5) (cs := q9) (v := .slice A10036 n10038 c10037) rfl Try.underlying29 rfl (Ctx.subI 1 C10535 rfl) rfl) ?_
           refine WL.val (Yl.lenN (A := A10036) (l := n10038) (q := c10037) (n := (((rs9430_7_0.Jobs.getD (wi64 (((a1.getD x7524.toNat TRecord.z).Job) - 1)).toNat TJob.z).Workers).length : Int)) rfl Try.underlying29 (by omega)) ?_
           refine WL.val (Yl.lss (m := x10534) (n := (((rs9430_7_0.Jobs.getD (wi64 (((a1.getD x7524.toNat TRecord.z).Job) - 1)).toNat TJob.z).Workers).length : Int)) (q := decide (x10534 < (((rs9430_7_0.Jobs.getD (wi64 (((a1.getD x7524.toNat TRecord.z).Job) - 1)).toNat TJob.z).Workers).length : Int))) rfl rfl rfl) ?_
           refine WL.done ?_
           rcases iteE hX10517 with ⟨hc10736, hX10517⟩ | ⟨hc10736, hX10517⟩
           ·refine W.condT (congrArg Value.bool (decide_eq_true hc10736)) ?_
            refine W.skip ?_
            refine W.seq ?_
            refine W.block ?_
            refine W.seq ?_
            refine W.regionA [([12], CH.row g10064 0 q9), ([12], F9713)] (by kernel_rfl) ?_
            have C10761 := Ctx.drewN C10535 1
            refine WA.takes [(0, none), (1, some 0), (2, none), (3, none), (4, some 1), (5, none), (6, some 0), (7, none), (8, none), (9, some 1), (10, none)] ⟨(Ctx.subI 1 C10761 rfl), (C10761.fro), trivial⟩ (by kernel_rfl) ?_
            refine WT.val rfl (fun _ hC_ => Yl.fieldAddr (i := 5) (by exact ho10532) Try.underlying55 rfl sz29) ?_
            refine WT.val rfl (fun _ hC_ => Yl.loadV (g := g10064) (off := 0) (o := 5) (cs := q9) (v := .slice A10036 n10038 c10037) rfl Try.underlying29 rfl (show Sub (CH.row g10064 0 q9) _ from hC_) rfl) ?_
            refine WT.val rfl (fun _ hC_ => Yl.move (v := .int .i64 x10534) (by exact ho10533)) ?_
            obtain ⟨hc10778, hX10517⟩ := guardE hX10517
            obtain ⟨b10779, of10780, hA10781, he10782⟩ := hS10042 (by omega)
            refine WT.val rfl (fun _ hC_ => Yl.elemAddr (i := x10534) rfl rfl hA10781 Try.underlying29 sz3 (by omega)) ?_
            obtain ⟨cs10783, hr10784, hx10785⟩ := he10782 x10534.toNat _ (getD_some (d := 0) (by omega))
            obtain rfl := hr10784
            refine WT.val rfl (fun _ hC_ => Yl.load (v := .int .i64 (((rs9430_7_0.Jobs.getD (wi64 (((a1.getD x7524.toNat TRecord.z).Job) - 1)).toNat TJob.z).Workers).getD x10534.toNat 0)) rfl Try.underlying3 rfl (((Sub.mono (show Sub F9713 _ from hC_) (CH.le_refl _))).cell (hx10785 0 _ rfl))) ?_
            refine WT.val rfl (fun _ hC_ => Yl.fieldAddr (i := 6) (by exact ho10532) Try.underlying55 rfl sz29) ?_
            refine WT.val rfl (fun _ hC_ => Yl.loadV (g := g10064) (off := 0) (o := 6) (cs := q9) (v := .slice A10043 n10045 c10044) rfl Try.underlying29 rfl (show Sub (CH.row g10064 0 q9) _ from hC_) rfl) ?_
            refine WT.val rfl (fun _ hC_ => Yl.move (v := .int .i64 x10534) (by exact ho10533)) ?_
            obtain ⟨hc10786, hX10517⟩ := guardE hX10517
            obtain ⟨b10787, of10788, hA10789, he10790⟩ := hS10049 (by omega)
            refine WT.val rfl (fun _ hC_ => Yl.elemAddr (i := x10534) rfl rfl hA10789 Try.underlying29 sz3 (by omega)) ?_
            obtain ⟨cs10791, hr10792, hx10793⟩ := he10790 x10534.toNat _ (getD_some (d := 0) (by omega))
            obtain rfl := hr10792
            refine WT.val rfl (fun _ hC_ => Yl.load (v := .int .i64 (((rs9430_7_0.Jobs.getD (wi64 (((a1.getD x7524.toNat TRecord.z).Job) - 1)).toNat TJob.z).Indexes).getD x10534.toNat 0)) rfl Try.underlying3 rfl (((Sub.mono (show Sub F9713 _ from hC_) (CH.le_refl _))).cell (hx10793 0 _ rfl))) ?_
            let q11 : List Go.Value := [.int .i64 (((rs9430_7_0.Jobs.getD (wi64 (((a1.getD x7524.toNat TRecord.z).Job) - 1)).toNat TJob.z).Workers).getD x10534.toNat 0), .int .i64 (((rs9430_7_0.Jobs.getD (wi64 (((a1.getD x7524.toNat TRecord.z).Job) - 1)).toNat TJob.z).Indexes).getD x10534.toNat 0)]
            refine WT.val rfl (fun _ hC_ => Yl.build (places := [(0, 1), (1, 1)]) (cs := List.toArray q11) Try.underlying59 zr59 (pl59 _ Try.underlying59) (partsB (.cons rfl (.cons rfl .nil))) rfl) ?_
            refine WT.done ?_
            obtain ⟨g10794, w10795, hy10796, C10797⟩ := ev_alloc (P := Try.prog) (e := 59) [.int .i64 0, .int .i64 0] C10761 zr59 rfl
            refine WA.up1 11 (by kernel_rfl) (Up.val rfl rfl rfl (hy10796 _ _) ⟨(Ctx.subI 2 C10797 rfl), (C10797.fro), trivial⟩ ?_)
            obtain ⟨w10798, hy10799, C10800⟩ := ev_setI (P := Try.prog) (ps1 := []) (ps2 := [p10528, CH.row g10064 0 q9, CH.row g9721 o9722 q8, p9727, p9733, p9739, p9745, p9752, p9758, p9764, p9770, CH.row g57 0 q4, CH.row g8 0 q1]) (t := 59) 0 q11 (.agg (List.toArray q11)) C10797 rfl rfl (ones_of rfl) sz59
            have C10801 : Ctx _ _ _ _ _ [CH.row g10794 0 q11, p10528, CH.row g10064 0 q9, CH.row g9721 o9722 q8, p9727, p9733, p9739, p9745, p9752, p9758, p9764, p9770, CH.row g57 0 q4, CH.row g8 0 q1] := C10800
            refine WA.up1 12 (by kernel_rfl) (Up.skip rfl rfl (hy10799 _ _ _ _ rfl rfl) ⟨trivial, trivial, trivial⟩ ?_)
            refine WA.done (by kernel_rfl) ?_
            refine W.seq ?_
            refine W.seq ?_
            refine W.region_quiet (by kernel_rfl) (by kernel_rfl) rfl ?_
            refine WQ.vl (fun _ => Yl.fieldAddr (i := 1) rfl Try.underlying59 rfl sz3) ?_
            refine WQ.vl (fun _ => Yl.loadV (g := g10794) (off := 0) (o := 1) (cs := q11) (v := .int .i64 (((rs9430_7_0.Jobs.getD (wi64 (((a1.getD x7524.toNat TRecord.z).Job) - 1)).toNat TJob.z).Indexes).getD x10534.toNat 0)) rfl Try.underlying3 rfl (Ctx.subI 0 (C10801.drewN _) rfl) rfl) ?_
            refine WQ.vl (fun _ => Yl.lss (m := ((rs9430_7_0.Jobs.getD (wi64 (((a1.getD x7524.toNat TRecord.z).Job) - 1)).toNat TJob.z).Indexes).getD x10534.toNat 0) (n := 0) (q := decide ((((rs9430_7_0.Jobs.getD (wi64 (((a1.getD x7524.toNat TRecord.z).Job) - 1)).toNat TJob.z).Indexes).getD x10534.toNat 0) < 0)) rfl rfl rfl) ?_
            refine WQ.vl (fun _ => Yl.move (v := .bool (decide ((((rs9430_7_0.Jobs.getD (wi64 (((a1.getD x7524.toNat TRecord.z).Job) - 1)).toNat TJob.z).Indexes).getD x10534.toNat 0) < 0))) rfl) ?_
            obtain ⟨g10802, HE10803, hX10517⟩ := bindE hX10517
            refine WQ.cut (fun env_ => env_ 113 = .bool g10802 ∧ env_ 1 = .slice A1 n3 c2 ∧ env_ 2 = .pointer (some ⟨g8, 0, none⟩) ∧ env_ 5 = .pointer (some ⟨g57, 0, none⟩) ∧ env_ 7 = .slice A10524 n10526 c10525 ∧ env_ 8 = .int .i64 x7524 ∧ env_ 9 = .pointer (some ⟨g9721, o9722, none⟩) ∧ env_ 11 = .pointer (some ⟨g10064, 0, none⟩) ∧ env_ 12 = .int .i64 x10534 ∧ env_ 13 = .pointer (some ⟨g10794, 0, none⟩)) ?_ ?_
            ·rcases iteE HE10803 with ⟨hc10804, HE10803⟩ | ⟨hc10804, HE10803⟩
             ·refine WQ.offs 6 98 false (congrArg Value.bool (decide_eq_true hc10804)) rfl ?_
              refine WQ.vl (fun _ => Yl.pickT (v := .bool true) (congrArg Value.bool (decide_eq_true hc10804)) rfl) ?_
              refine WQ.vl (fun _ => Yl.move (v := .bool true) rfl) ?_
              refine WQ.offs 6 106 false rfl rfl ?_
              refine WQ.vl (fun _ => Yl.pickT (v := .bool true) rfl rfl) ?_
              cases HE10803
              exact WQ.done ⟨rfl, ho10519, ho10520, ho10521, ho10522, ho10530, ho10531, ho10532, ho10533, rfl⟩
             ·refine WQ.vOn rfl (congrArg Value.bool (decide_eq_false hc10804)) (fun _ => Yl.fieldAddr (i := 1) rfl Try.underlying59 rfl sz3) ?_
              refine WQ.vOn rfl (congrArg Value.bool (decide_eq_false hc10804)) (fun _ => Yl.loadV (g := g10794) (off := 0) (o := 1) (cs := q11) (v := .int .i64 (((rs9430_7_0.Jobs.getD (wi64 (((a1.getD x7524.toNat TRecord.z).Job) - 1)).toNat TJob.z).Indexes).getD x10534.toNat 0)) rfl Try.underlying3 rfl (Ctx.subI 0 (C10801.drewN _) rfl) rfl) ?_
              refine WQ.vOn rfl (congrArg Value.bool (decide_eq_false hc10804)) (fun _ => Yl.fieldAddr (i := 2) ho10520 Try.underlying23 rfl sz3) ?_
              refine WQ.vOn rfl (congrArg Value.bool (decide_eq_false hc10804)) (fun _ => Yl.loadV (g := g8) (off := 0) (o := 2) (cs := q1) (v := .int .i64 a0.Height) rfl Try.underlying3 rfl (Ctx.subI 13 (C10801.drewN _) rfl) rfl) ?_
              obtain ⟨hc10805, HE10803⟩ := guardE HE10803
              refine WQ.vOn rfl (congrArg Value.bool (decide_eq_false hc10804)) (fun _ => Yl.shl (m := 1) (n := a0.Height) (r := shlOp .i64 1 a0.Height) rfl rfl hc10805 rfl) ?_
              refine WQ.vOn rfl (congrArg Value.bool (decide_eq_false hc10804)) (fun _ => Yl.geq (m := ((rs9430_7_0.Jobs.getD (wi64 (((a1.getD x7524.toNat TRecord.z).Job) - 1)).toNat TJob.z).Indexes).getD x10534.toNat 0) (n := shlOp .i64 1 a0.Height) (q := decide ((((rs9430_7_0.Jobs.getD (wi64 (((a1.getD x7524.toNat TRecord.z).Job) - 1)).toNat TJob.z).Indexes).getD x10534.toNat 0) ≥ (shlOp .i64 1 a0.Height))) rfl rfl rfl) ?_
              refine WQ.vl (fun _ => Yl.pickF (v := .bool (decide ((((rs9430_7_0.Jobs.getD (wi64 (((a1.getD x7524.toNat TRecord.z).Job) - 1)).toNat TJob.z).Indexes).getD x10534.toNat 0) ≥ (shlOp .i64 1 a0.Height)))) (congrArg Value.bool (decide_eq_false hc10804)) rfl) ?_
              refine WQ.vl (fun _ => Yl.move (v := .bool (decide ((((rs9430_7_0.Jobs.getD (wi64 (((a1.getD x7524.toNat TRecord.z).Job) - 1)).toNat TJob.z).Indexes).getD x10534.toNat 0) ≥ (shlOp .i64 1 a0.Height)))) rfl) ?_
              rcases iteE HE10803 with ⟨hc10806, HE10803⟩ | ⟨hc10806, HE10803⟩
              ·refine WQ.offs 6 106 false (congrArg Value.bool (decide_eq_true hc10806)) rfl ?_
               refine WQ.vl (fun _ => Yl.pickT (v := .bool true) (congrArg Value.bool (decide_eq_true hc10806)) rfl) ?_
               cases HE10803
               exact WQ.done ⟨rfl, ho10519, ho10520, ho10521, ho10522, ho10530, ho10531, ho10532, ho10533, rfl⟩
              ·refine WQ.vOn rfl (congrArg Value.bool (decide_eq_false hc10806)) (fun _ => Yl.fieldAddr (i := 3) ho10521 Try.underlying32 rfl sz30) ?_
               refine WQ.vOn rfl (congrArg Value.bool (decide_eq_false hc10806)) (fun _ => Yl.loadV (g := g57) (off := 0) (o := 3) (cs := q4) (v := .slice A7547 n7549 c7548) rfl Try.underlying30 rfl (Ctx.subI 12 (C10801.drewN _) rfl) rfl) ?_
               refine WQ.vOn rfl (congrArg Value.bool (decide_eq_false hc10806)) (fun _ => Yl.fieldAddr (i := 0) rfl Try.underlying59 rfl sz3) ?_
               refine WQ.vOn rfl (congrArg Value.bool (decide_eq_false hc10806)) (fun _ => Yl.loadV (g := g10794) (off := 0) (o := 0) (cs := q11) (v := .int .i64 (((rs9430_7_0.Jobs.getD (wi64 (((a1.getD x7524.toNat TRecord.z).Job) - 1)).toNat TJob.z).Workers).getD x10534.toNat 0)) rfl Try.underlying3 rfl (Ctx.subI 0 (C10801.drewN _) rfl) rfl) ?_
               obtain ⟨hc10807, HE10803⟩ := guardE HE10803
               obtain ⟨b10808, of10809, hA10810, he10811⟩ := hS7553 (by omega)
               refine WQ.vOn rfl (congrArg Value.bool (decide_eq_false hc10806)) (fun _ => Yl.elemAddr (i := ((rs9430_7_0.Jobs.getD (wi64 (((a1.getD x7524.toNat TRecord.z).Job) - 1)).toNat TJob.z).Workers).getD x10534.toNat 0) rfl rfl hA10810 Try.underlying30 sz4 (by omega)) ?_
               obtain ⟨cs10812, hr10813, hx10814⟩ := he10811 (((rs9430_7_0.Jobs.getD (wi64 (((a1.getD x7524.toNat TRecord.z).Job) - 1)).toNat TJob.z).Workers).getD x10534.toNat 0).toNat _ (getD_some (d := false) (by omega))
               obtain rfl := hr10813
               refine WQ.vOn rfl (congrArg Value.bool (decide_eq_false hc10806)) (fun _ => Yl.load (v := .bool (x7525.Barred.getD (((rs9430_7_0.Jobs.getD (wi64 (((a1.getD x7524.toNat TRecord.z).Job) - 1)).toNat TJob.z).Workers).getD x10534.toNat 0).toNat false)) rfl Try.underlying4 rfl ((((C10801.drewN _).fro.mono le9714)).cell (hx10814 0 _ rfl))) ?_
               refine WQ.vl (fun _ => Yl.pickF (v := .bool (x7525.Barred.getD (((rs9430_7_0.Jobs.getD (wi64 (((a1.getD x7524.toNat TRecord.z).Job) - 1)).toNat TJob.z).Workers).getD x10534.toNat 0).toNat false)) (congrArg Value.bool (decide_eq_false hc10806)) rfl) ?_
               cases HE10803
               exact WQ.done ⟨rfl, ho10519, ho10520, ho10521, ho10522, ho10530, ho10531, ho10532, ho10533, rfl⟩
            ·rintro env_ ⟨ho10815, ho10816, ho10817, ho10818, ho10819, ho10820, ho10821, ho10822, ho10823, ho10824⟩
             intro nq10825
             have C10826 := Ctx.drewN C10801 nq10825
             rcases iteE hX10517 with ⟨hc10827, hX10517⟩ | ⟨hc10827, hX10517⟩
             ·refine W.condT (ho10815.trans (congrArg Value.bool hc10827)) ?_
              refine W.seq ?_
              refine W.region rfl ?_
              refine WL.val (Yl.assign (v := .bool false) rfl) ?_
              refine WL.done ?_
              refine W.ret ?_
              refine thenE_r ?_
              refine inB_r ?_
              refine thenE_r ?_
              refine thenE_r ?_
              refine inB_r ?_
              refine thenE_r ?_
              refine thenE_r ?_
              refine inB_r ?_
              refine thenE_r ?_
              refine thenE_r ?_
              refine inB_r ?_
              refine thenE_r ?_
              refine thenE_r ?_
              cases hX10517
              replace hX5542 := sumE_r hX5542
              cases hX5542
              replace H := sumE_r H
              have C10828 : Ctx _ _ _ _ _ [] := Ctx.pick [] C10826 rfl
              have e10829 := Option.some.inj H
              subst e10829
              exact post_r (resE1 rfl rfl) ⟨rfl, (Ctx.weak C10828 (CH.le_refl _))⟩
             ·refine W.condF (ho10815.trans (congrArg Value.bool (Bool.eq_false_iff.2 hc10827))) ?_
              refine W.skip ?_
              refine W.seq ?_
              refine W.seq ?_
              refine W.region rfl ?_
              refine WL.val (Yl.assign (v := .int .i64 0) rfl) ?_
              refine WL.done ?_
              obtain ⟨o10878, hX10877, hX10517⟩ := bindE hX10517
              refine W.cutM (fun env_ w_ => env_ 1 = .slice A1 n3 c2 ∧ env_ 2 = .pointer (some ⟨g8, 0, none⟩) ∧ env_ 5 = .pointer (some ⟨g57, 0, none⟩) ∧ env_ 7 = .slice A10524 n10526 c10525 ∧ env_ 8 = .int .i64 x7524 ∧ env_ 9 = .pointer (some ⟨g9721, o9722, none⟩) ∧ env_ 11 = .pointer (some ⟨g10064, 0, none⟩) ∧ env_ 12 = .int .i64 x10534 ∧ env_ 13 = .pointer (some ⟨g10794, 0, none⟩) ∧ Ctx w F D w_ F9713 [CH.row g10794 0 q11, p10528, CH.row g10064 0 q9, CH.row g9721 o9722 q8, p9727, p9733, p9739, p9745, p9752, p9758, p9764, p9770, CH.row g57 0 q4, CH.row g8 0 q1] ∧ o10878 = Sum.inl ()) ?_ ?_
              ·refine W.block ?_
               refine W.loop (fun g_ env_ w_ => ∃ (x10889 : Int), env_ 1 = .slice A1 n3 c2 ∧ env_ 2 = .pointer (some ⟨g8, 0, none⟩) ∧ env_ 5 = .pointer (some ⟨g57, 0, none⟩) ∧ env_ 7 = .slice A10524 n10526 c10525 ∧ env_ 8 = .int .i64 x7524 ∧ env_ 9 = .pointer (some ⟨g9721, o9722, none⟩) ∧ env_ 11 = .pointer (some ⟨g10064, 0, none⟩) ∧ env_ 12 = .int .i64 x10534 ∧ env_ 13 = .pointer (some ⟨g10794, 0, none⟩) ∧ env_ 14 = .int .i64 x10889 ∧ Ctx w F D w_ F9713 [CH.row g10794 0 q11, p10528, CH.row g10064 0 q9, CH.row g9721 o9722 q8, p9727, p9733, p9739, p9745, p9752, p9758, p9764, p9770, CH.row g57 0 q4, CH.row g8 0 q1] ∧ juratlaw21_DocketKeys.l3 g_ a1 x7524 rs9430_7_0 x10523 x10534 x10889 = some o10878) k10734 ⟨0, ho10816, ho10817, ho10818, ho10819, ho10820, ho10821, ho10822, ho10823, ho10824, rfl, C10826, hX10877⟩ ?_
               clear hX10877
               rintro g_ env_ w_ ⟨x10889, ho10879, ho10880, ho10881, ho10882, ho10883, ho10884, ho10885, ho10886, ho10887, ho10888, C10890, hX10877⟩
               rcases g_ with _ | k10903
               · exact absurd hX10877 (by simp [juratlaw21_DocketKeys.l3])
               rw [juratlaw21_DocketKeys.l3] at hX10877
               refine W.seq ?_
               refine W.seq ?_
               refine W.region rfl ?_
               refine WL.val (Yl.move (v := .int .i64 x10889) ho10888) ?_
               refine WL.val (Yl.move (v := .slice A10524 n10526 c10525) ho10882) ?_
               refine WL.val (Yl.lenN (A := A10524) (l := n10526) (q := c10525) (n := (x10523.length : Int)) rfl Try.underlying57 (by omega)) ?_
               refine WL.val (Yl.lss (m := x10889) (n := (x10523.length : Int)) (q := decide (x10889 < (x10523.length : Int))) rfl rfl rfl) ?_
               refine WL.done ?_
               rcases iteE hX10877 with ⟨hc10904, hX10877⟩ | ⟨hc10904, hX10877⟩
               ·refine W.condT (congrArg Value.bool (decide_eq_true hc10904)) ?_
                refine W.skip ?_
                refine W.seq ?_
                refine W.block ?_
                refine W.seq ?_
                refine W.region_quiet (by kernel_rfl) (by kernel_rfl) rfl ?_
                refine WQ.vl (fun _ => Yl.move (v := .slice A10524 n10526 c10525) ho10882) ?_
                refine WQ.vl (fun _ => Yl.move (v := .int .i64 x10889) ho10888) ?_
                obtain ⟨hc10905, hX10877⟩ := guardE hX10877
                obtain ⟨b10906, of10907, hA10908, he10909⟩ := (Row.sl hR10529) (by omega)
                refine WQ.vl (fun _ => Yl.elemAddr (i := x10889) rfl rfl hA10908 Try.underlying57 sz59 (by omega)) ?_
                obtain ⟨cs10910, hr10911, hx10912⟩ := he10909 x10889.toNat _ (getD_some (d := TGiven.z) (by omega))
                obtain ⟨rfl⟩ := TGiven.open hr10911
                let q12 : List Go.Value := [.int .i64 ((x10523.getD x10889.toNat TGiven.z).Worker), .int .i64 ((x10523.getD x10889.toNat TGiven.z).Index)]
                refine WQ.vl (fun _ => Yl.loadAgg (cs := q12) rfl Try.underlying59 rfl sz59 (fun j u hu => by rw [add_of]; exact ((Ctx.subI 1 (C10890.drewN _) rfl)).cell (hx10912 _ _ hu))) ?_
                refine WQ.vl (fun _ => Yl.loadVA (g := g10794) (off := 0) (o := 0) (cs := q11) (us := [.int .i64 (((rs9430_7_0.Jobs.getD (wi64 (((a1.getD x7524.toNat TRecord.z).Job) - 1)).toNat TJob.z).Workers).getD x10534.toNat 0), .int .i64 (((rs9430_7_0.Jobs.getD (wi64 (((a1.getD x7524.toNat TRecord.z).Job) - 1)).toNat TJob.z).Indexes).getD x10534.toNat 0)]) ho10887 Try.underlying59 rfl sz59 (Ctx.subI 0 (C10890.drewN _) rfl) rfl) ?_
                refine WQ.vl (fun _ => Yl.aeql (n := 2) (xs := q12) (ys := q11) rfl rfl eg59 (EqV.struct (n := 1) Try.underlying59 sh59 (EqFs.cons (by decide) (PartE.one (v := .int .i64 ((x10523.getD x10889.toNat TGiven.z).Worker)) Try.underlying3 rfl rfl) (PartE.one (v := .int .i64 (((rs9430_7_0.Jobs.getD (wi64 (((a1.getD x7524.toNat TRecord.z).Job) - 1)).toNat TJob.z).Workers).getD x10534.toNat 0)) Try.underlying3 rfl rfl) (EqV.int Try.underlying3) (EqFs.one (by decide) (PartE.one (v := .int .i64 ((x10523.getD x10889.toNat TGiven.z).Index)) Try.underlying3 rfl rfl) (PartE.one (v := .int .i64 (((rs9430_7_0.Jobs.getD (wi64 (((a1.getD x7524.toNat TRecord.z).Job) - 1)).toNat TJob.z).Indexes).getD x10534.toNat 0)) Try.underlying3 rfl rfl) (EqV.int Try.underlying3)))) (by decide)) ?_
                refine WQ.done (fun nq10913 => ?_)
                have C10914 := Ctx.drewN C10890 nq10913
                rcases iteE hX10877 with ⟨hc10915, hX10877⟩ | ⟨hc10915, hX10877⟩
                ·refine W.condT (congrArg Value.bool (decide_eq_true hc10915)) ?_
                 refine W.seq ?_
                 refine W.region rfl ?_
                 refine WL.val (Yl.assign (v := .bool false) rfl) ?_
                 refine WL.done ?_
                 refine W.ret ?_
                 refine inB_r ?_
                 refine thenE_r ?_
                 refine thenE_r ?_
                 refine inB_r ?_
                 refine thenE_r ?_
                 refine thenE_r ?_
                 refine inB_r ?_
                 refine thenE_r ?_
                 refine thenE_r ?_
                 refine inB_r ?_
                 refine thenE_r ?_
                 refine thenE_r ?_
                 refine inB_r ?_
                 refine thenE_r ?_
                 refine thenE_r ?_
                 refine inB_r ?_
                 refine thenE_r ?_
                 refine thenE_r ?_
                 cases hX10877
                 replace hX10517 := sumE_r hX10517
                 cases hX10517
                 replace hX5542 := sumE_r hX5542
                 cases hX5542
                 replace H := sumE_r H
                 have C10916 : Ctx _ _ _ _ _ [] := Ctx.pick [] C10914 rfl
                 have e10917 := Option.some.inj H
                 subst e10917
                 exact post_r (resE1 rfl rfl) ⟨rfl, (Ctx.weak C10916 (CH.le_refl _))⟩
                ·refine W.condF (congrArg Value.bool (decide_eq_false hc10915)) ?_
                 refine W.skip ?_
                 refine inB_n ?_
                 refine W.region rfl ?_
                 refine WL.val (Yl.move (v := .int .i64 x10889) ho10888) ?_
                 refine WL.val (Yl.add (m := x10889) (n := 1) (r := wi64 (x10889 + 1)) rfl rfl rfl) ?_
                 refine WL.val (Yl.assign (v := .int .i64 (wi64 (x10889 + 1))) rfl) ?_
                 refine WL.done ?_
                 exact thenE_n ⟨k10903, Nat.lt_succ_self _, wi64 (x10889 + 1), ho10879, ho10880, ho10881, ho10882, ho10883, ho10884, ho10885, ho10886, ho10887, rfl, C10914, hX10877⟩
               ·refine W.condF (congrArg Value.bool (decide_eq_false hc10904)) ?_
                refine W.exit ?_
                refine thenE_x ?_
                refine thenE_x ?_
                refine inB_here ?_
                cases hX10877
                refine thenE_n ?_
                exact ⟨ho10879, ho10880, ho10881, ho10882, ho10883, ho10884, ho10885, ho10886, ho10887, C10890, rfl⟩
              ·rintro env_ w_ ⟨ho10867, ho10868, ho10869, ho10870, ho10871, ho10872, ho10873, ho10874, ho10875, C10876, rfl⟩
               replace hX10517 := sumE_l hX10517
               refine W.region rfl ?_
               refine WL.val (Yl.move (v := .slice A10524 n10526 c10525) ho10870) ?_
               refine WL.val (Yl.loadVA (g := g10794) (off := 0) (o := 0) (cs := q11) (us := [.int .i64 (((rs9430_7_0.Jobs.getD (wi64 (((a1.getD x7524.toNat TRecord.z).Job) - 1)).toNat TJob.z).Workers).getD x10534.toNat 0), .int .i64 (((rs9430_7_0.Jobs.getD (wi64 (((a1.getD x7524.toNat TRecord.z).Job) - 1)).toNat TJob.z).Indexes).getD x10534.toNat 0)]) ho10875 Try.underlying59 rfl sz59 (Ctx.subI 0 C10876 rfl) rfl) ?_
               obtain ⟨A10918, c10919, n10920, p10921, w10922, hn10923, hy10924, C10925, hR10926⟩ := ev_lit1' (P := Try.prog) 59 TGiven.K C10876 Try.underlying57 ti59 ⟨by decide, by decide⟩ (⟨((rs9430_7_0.Jobs.getD (wi64 (((a1.getD x7524.toNat TRecord.z).Job) - 1)).toNat TJob.z).Workers).getD x10534.toNat 0, ((rs9430_7_0.Jobs.getD (wi64 (((a1.getD x7524.toNat TRecord.z).Job) - 1)).toNat TJob.z).Indexes).getD x10534.toNat 0⟩ : TGiven) (.agg (List.toArray q11)) (TGiven.mk' _ (⟨((rs9430_7_0.Jobs.getD (wi64 (((a1.getD x7524.toNat TRecord.z).Job) - 1)).toNat TJob.z).Workers).getD x10534.toNat 0, ((rs9430_7_0.Jobs.getD (wi64 (((a1.getD x7524.toNat TRecord.z).Job) - 1)).toNat TJob.z).Indexes).getD x10534.toNat 0⟩ : TGiven)  )
               refine WL.val (hy10924 _ _ _ rfl) ?_
               obtain ⟨hc10927, hX10517⟩ := guardE hX10517
               obtain ⟨A10928, c10929, n10930, p10931, w10932, hn10933, hy10934, C10935, hR10936⟩ := ev_append' (P := Try.prog) (cb := c10919) 59 TGiven.K [p10921, CH.row g10794 0 q11] [CH.row g10064 0 q9, CH.row g9721 o9722 q8, p9727, p9733, p9739, p9745, p9752, p9758, p9764, p9770, CH.row g57 0 q4, CH.row g8 0 q1] C10925 hR10529 hn10923 (Row.sl hR10926) (Ctx.subI 0 C10925 rfl) Try.underlying57 ti59 rfl zo59 (by decide) (by decide) (by simpa using hc10927)
               have C10937 : Ctx _ _ _ _ _ [p10921, CH.row g10794 0 q11, p10931, CH.row g10064 0 q9, CH.row g9721 o9722 q8, p9727, p9733, p9739, p9745, p9752, p9758, p9764, p9770, CH.row g57 0 q4, CH.row g8 0 q1] := C10935
               refine WL.val (hy10934 _ _ _ _ rfl rfl) ?_
               refine WL.val (Yl.assign (v := .slice A10928 n10930 c10929) rfl) ?_
               refine WL.done ?_
               refine inB_n ?_
               refine W.region rfl ?_
               refine WL.val (Yl.move (v := .int .i64 x10534) ho10874) ?_
               refine WL.val (Yl.add (m := x10534) (n := 1) (r := wi64 (x10534 + 1)) rfl rfl rfl) ?_
               refine WL.val (Yl.assign (v := .int .i64 (wi64 (x10534 + 1))) rfl) ?_
               refine WL.done ?_
               have C10938 : Ctx _ _ _ _ _ [p10931, CH.row g10064 0 q9, CH.row g9721 o9722 q8, p9727, p9733, p9739, p9745, p9752, p9758, p9764, p9770, CH.row g57 0 q4, CH.row g8 0 q1] := Ctx.pick [2, 3, 4, 5, 6, 7, 8, 9, 10, 11, 12, 13, 14] C10937 rfl
               exact thenE_n ⟨k10734, Nat.lt_succ_self _, x10523 ++ [(⟨((rs9430_7_0.Jobs.getD (wi64 (((a1.getD x7524.toNat TRecord.z).Job) - 1)).toNat TJob.z).Workers).getD x10534.toNat 0, ((rs9430_7_0.Jobs.getD (wi64 (((a1.getD x7524.toNat TRecord.z).Job) - 1)).toNat TJob.z).Indexes).getD x10534.toNat 0⟩ : TGiven)], wi64 (x10534 + 1), A10928, c10929, n10930, p10931, ho10867, ho10868, ho10869, rfl, ho10871, ho10872, ho10873, rfl, C10938, hn10933, hR10936, hX10517⟩
           ·refine W.condF (congrArg Value.bool (decide_eq_false hc10736)) ?_
            refine W.exit ?_
            refine thenE_x ?_
            refine thenE_x ?_
            refine inB_here ?_
            cases hX10517
            refine thenE_n ?_
            exact ⟨x10523, A10524, c10525, n10526, p10528, ho10519, ho10520, ho10521, ho10522, ho10530, ho10531, C10535, hn10527, hR10529, rfl⟩
          ·rintro env_ w_ ⟨x10507, A10508, c10509, n10510, p10512, ho10503, ho10504, ho10505, ho10506, ho10514, ho10515, C10516, hn10511, hR10513, rfl⟩
           replace hX5542 := sumE_l hX5542
           refine W.region rfl ?_
           refine WL.val (Yl.loadVA (g := g9721) (off := o9722) (o := 0) (cs := q8) (us := [.slice A9748 n9750 c9749, .slice A9754 n9756 c9755, .slice A9760 n9762 c9761, .slice A9766 n9768 c9767, .int .i64 rs9430_7_0.Heads]) ho10515 Try.underlying32 rfl sz32 (Ctx.subI 2 C10516 rfl) rfl) ?_
           obtain ⟨w10939, hy10940, C10941⟩ := ev_setI (P := Try.prog) (ps1 := [p10512, CH.row g10064 0 q9, CH.row g9721 o9722 q8, p9727, p9733, p9739, p9745, p9752, p9758, p9764, p9770]) (ps2 := [CH.row g8 0 q1]) (t := 32) 0 q8 (.agg (List.toArray q8)) C10516 rfl rfl (ones_of rfl) sz32
           have C10942 : Ctx _ _ _ _ _ [p10512, CH.row g10064 0 q9, CH.row g9721 o9722 q8, p9727, p9733, p9739, p9745, p9752, p9758, p9764, p9770, CH.row g57 0 q8, CH.row g8 0 q1] := C10941
           refine WL.skip (hy10940 _ _ _ _ ho10505 rfl) ?_
           refine WL.done ?_
           refine inB_n ?_
           refine W.region rfl ?_
           refine WL.val (Yl.move (v := .int .i64 x7524) ho10514) ?_
           refine WL.val (Yl.add (m := x7524) (n := 1) (r := wi64 (x7524 + 1)) rfl rfl rfl) ?_
           refine WL.val (Yl.assign (v := .int .i64 (wi64 (x7524 + 1))) rfl) ?_
           refine WL.done ?_
           obtain ⟨F10943, le10944, lp10945, (C10946 : Ctx _ _ _ _ _ [p10512, CH.row g10064 0 q9, CH.row g9721 o9722 q8, p9727, p9733, p9739, p9745, p9758, p9764, p9770, CH.row g57 0 q8, CH.row g8 0 q1])⟩ := Ctx.fzI 7 C10942 rfl
           obtain ⟨hl10947, hm10948, hS10949⟩ := Row.fz hR9753 le10944 lp10945
           have hR10950 := Row.mono hR10513 le10944
           have hR10951 := Row.mono hR9759 le10944
           have hR10952 := Row.mono hR9765 le10944
           have hR10953 := Row.mono hR9771 le10944
           obtain ⟨F10954, le10955, lp10956, (C10957 : Ctx _ _ _ _ _ [p10512, CH.row g10064 0 q9, CH.row g9721 o9722 q8, p9727, p9733, p9739, p9745, p9764, p9770, CH.row g57 0 q8, CH.row g8 0 q1])⟩ := Ctx.fzI 7 C10946 rfl
           obtain ⟨hl10958, hm10959, hS10960⟩ := Row.fz hR10951 le10955 lp10956
           have hR10961 := Row.mono hR10950 le10955
           have hR10962 := Row.mono hR10952 le10955
           have hR10963 := Row.mono hR10953 le10955
           obtain ⟨F10964, le10965, lp10966, (C10967 : Ctx _ _ _ _ _ [p10512, CH.row g10064 0 q9, CH.row g9721 o9722 q8, p9727, p9733, p9739, p9745, p9770, CH.row g57 0 q8, CH.row g8 0 q1])⟩ := Ctx.fzI 7 C10957 rfl
           obtain ⟨hl10968, hm10969, hS10970⟩ := Row.fz hR10962 le10965 lp10966
           have hR10971 := Row.mono hR10961 le10965
           have hR10972 := Row.mono hR10963 le10965
           obtain ⟨F10973, le10974, lp10975, (C10976 : Ctx _ _ _ _ _ [p10512, CH.row g10064 0 q9, CH.row g9721 o9722 q8, p9727, p9733, p9739, p9745, CH.row g57 0 q8, CH.row g8 0 q1])⟩ := Ctx.fzI 7 C10967 rfl
           obtain ⟨hl10977, hm10978, hS10979⟩ := Row.fz hR10972 le10974 lp10975
           have hR10980 := Row.mono hR10971 le10974
           have C10981 : Ctx _ _ _ _ _ [p10512, CH.row g57 0 q8, CH.row g8 0 q1] := Ctx.pick [0, 7, 8] C10976 rfl
           exact thenE_n ⟨k9230, Nat.lt_succ_self _, x10507, wi64 (x7524 + 1), rs9430_7_0, F10973, A10508, c10509, n10510, p10512, A9748, c9749, n9750, A9754, c9755, n9756, A9760, c9761, n9762, A9766, c9767, n9768, ho10503, ho10504, ho10505, ho10506, rfl, C10981, (CH.le_trans le7511 (CH.le_trans le9714 (CH.le_trans le10944 (CH.le_trans le10955 (CH.le_trans le10965 le10974))))), hn10511, hR10980, hn9751, hl10947, hm10948, (Sl.mono hS10949 (CH.le_trans le10955 (CH.le_trans le10965 le10974)) (CH.le_trans le10955 (CH.le_trans le10965 le10974))), hn9757, hl10958, hm10959, (Sl.mono hS10960 (CH.le_trans le10965 le10974) (CH.le_trans le10965 le10974)), hn9763, hl10968, hm10969, (Sl.mono hS10970 le10974 le10974), hn9769, hl10977, hm10978, hS10979, hX5542⟩
       ·refine W.condF (congrArg Value.bool (decide_eq_false hc9925)) ?_
        refine W.skip ?_
        refine W.region rfl ?_
        refine WL.val (Yl.loadVA (g := g9721) (off := o9722) (o := 0) (cs := q8) (us := [.slice A9748 n9750 c9749, .slice A9754 n9756 c9755, .slice A9760 n9762 c9761, .slice A9766 n9768 c9767, .int .i64 rs9430_7_0.Heads]) ho9720 Try.underlying32 rfl sz32 (Ctx.subI 0 C9923 rfl) rfl) ?_
        obtain ⟨w10982, hy10983, C10984⟩ := ev_setI (P := Try.prog) (ps1 := [CH.row g9721 o9722 q8, p9727, p9733, p9739, p9745, p9752, p9758, p9764, p9770, p7521]) (ps2 := [CH.row g8 0 q1]) (t := 32) 0 q8 (.agg (List.toArray q8)) C9923 rfl rfl (ones_of rfl) sz32
        have C10985 : Ctx _ _ _ _ _ [CH.row g9721 o9722 q8, p9727, p9733, p9739, p9745, p9752, p9758, p9764, p9770, p7521, CH.row g57 0 q8, CH.row g8 0 q1] := C10984
        refine WL.skip (hy10983 _ _ _ _ ho9717 rfl) ?_
        refine WL.done ?_
        refine inB_n ?_
        refine W.region rfl ?_
        refine WL.val (Yl.move (v := .int .i64 x7524) ho9719) ?_
        refine WL.val (Yl.add (m := x7524) (n := 1) (r := wi64 (x7524 + 1)) rfl rfl rfl) ?_
        refine WL.val (Yl.assign (v := .int .i64 (wi64 (x7524 + 1))) rfl) ?_
        refine WL.done ?_
        obtain ⟨F10986, le10987, lp10988, (C10989 : Ctx _ _ _ _ _ [CH.row g9721 o9722 q8, p9727, p9733, p9739, p9745, p9758, p9764, p9770, p7521, CH.row g57 0 q8, CH.row g8 0 q1])⟩ := Ctx.fzI 5 C10985 rfl
        obtain ⟨hl10990, hm10991, hS10992⟩ := Row.fz hR9753 le10987 lp10988
        have hR10993 := Row.mono hR9919 le10987
        have hR10994 := Row.mono hR9759 le10987
        have hR10995 := Row.mono hR9765 le10987
        have hR10996 := Row.mono hR9771 le10987
        obtain ⟨F10997, le10998, lp10999, (C11000 : Ctx _ _ _ _ _ [CH.row g9721 o9722 q8, p9727, p9733, p9739, p9745, p9764, p9770, p7521, CH.row g57 0 q8, CH.row g8 0 q1])⟩ := Ctx.fzI 5 C10989 rfl
        obtain ⟨hl11001, hm11002, hS11003⟩ := Row.fz hR10994 le10998 lp10999
        have hR11004 := Row.mono hR10993 le10998
        have hR11005 := Row.mono hR10995 le10998
        have hR11006 := Row.mono hR10996 le10998
        obtain ⟨F11007, le11008, lp11009, (C11010 : Ctx _ _ _ _ _ [CH.row g9721 o9722 q8, p9727, p9733, p9739, p9745, p9770, p7521, CH.row g57 0 q8, CH.row g8 0 q1])⟩ := Ctx.fzI 5 C11000 rfl
        obtain ⟨hl11011, hm11012, hS11013⟩ := Row.fz hR11005 le11008 lp11009
        have hR11014 := Row.mono hR11004 le11008
        have hR11015 := Row.mono hR11006 le11008
        obtain ⟨F11016, le11017, lp11018, (C11019 : Ctx _ _ _ _ _ [CH.row g9721 o9722 q8, p9727, p9733, p9739, p9745, p7521, CH.row g57 0 q8, CH.row g8 0 q1])⟩ := Ctx.fzI 5 C11010 rfl
        obtain ⟨hl11020, hm11021, hS11022⟩ := Row.fz hR11015 le11017 lp11018
        have hR11023 := Row.mono hR11014 le11017
        have C11024 : Ctx _ _ _ _ _ [p7521, CH.row g57 0 q8, CH.row g8 0 q1] := Ctx.pick [5, 6, 7] C11019 rfl
        exact thenE_n ⟨k9230, Nat.lt_succ_self _, x7516, wi64 (x7524 + 1), rs9430_7_0, F11016, A7517, c7518, n7519, p7521, A9748, c9749, n9750, A9754, c9755, n9756, A9760, c9761, n9762, A9766, c9767, n9768, ho9715, ho9716, ho9717, ho9718, rfl, C11024, (CH.le_trans le7511 (CH.le_trans le9714 (CH.le_trans le10987 (CH.le_trans le10998 (CH.le_trans le11008 le11017))))), hn7520, hR11023, hn9751, hl10990, hm10991, (Sl.mono hS10992 (CH.le_trans le10998 (CH.le_trans le11008 le11017)) (CH.le_trans le10998 (CH.le_trans le11008 le11017))), hn9757, hl11001, hm11002, (Sl.mono hS11003 (CH.le_trans le11008 le11017) (CH.le_trans le11008 le11017)), hn9763, hl11011, hm11012, (Sl.mono hS11013 le11017 le11017), hn9769, hl11020, hm11021, hS11022, hX5542⟩
      ·refine W.condT (congrArg Value.bool (ndec_f hc9924)) ?_
       refine W.exit ?_
       refine thenE_x ?_
       refine inB_here ?_
       refine W.region rfl ?_
       refine WL.val (Yl.move (v := .int .i64 x7524) ho9719) ?_
       refine WL.val (Yl.add (m := x7524) (n := 1) (r := wi64 (x7524 + 1)) rfl rfl rfl) ?_
       refine WL.val (Yl.assign (v := .int .i64 (wi64 (x7524 + 1))) rfl) ?_
       refine WL.done ?_
       have C11025 : Ctx _ _ _ _ _ [p7521, CH.row g57 0 q4, CH.row g8 0 q1] := Ctx.pick [9, 10, 11] C9923 rfl
       exact thenE_n ⟨k9230, Nat.lt_succ_self _, x7516, wi64 (x7524 + 1), x7525, F9713, A7517, c7518, n7519, p7521, A7526, c7527, n7528, A7533, c7534, n7535, A7540, c7541, n7542, A7547, c7548, n7549, ho9715, ho9716, ho9717, ho9718, rfl, C11025, (CH.le_trans le7511 le9714), hn7520, hR9919, hn7529, hl7530, hm7531, (Sl.mono hS7532 le9714 le9714), hn7536, hl7537, hm7538, (Sl.mono hS7539 le9714 le9714), hn7543, hl7544, hm7545, (Sl.mono hS7546 le9714 le9714), hn7550, hl7551, hm7552, (Sl.mono hS7553 le9714 le9714), hX5542⟩
    ·refine W.condF (congrArg Value.bool (decide_eq_false hc9266)) ?_
     refine W.exit ?_
     refine thenE_x ?_
     refine thenE_x ?_
     refine inB_here ?_
     have C11026 : Ctx _ _ _ _ _ [CH.row g8 0 q1] := Ctx.pick [2] C7554 rfl
     have C11027 := Ctx.lower C11026 (CH.le_refl _) le7511
     cases hX5542
     refine thenE_n ?_
     exact ⟨C11027, rfl⟩
   ·rintro env_ w_ ⟨C5541, rfl⟩
    replace H := sumE_l H
    refine W.seq ?_
    refine W.region rfl ?_
    obtain ⟨r11029, hg11028, H⟩ := bindE H
    refine WL.callH (juratlaw21_awake.calls k _ F  (Ctx.pre (qs := []) (rest := [CH.row g8 0 q1]) C5541)  r11029 hg11028) (Yenter.fn Try.func8 (by kernel_rfl) rfl (argsE .nil)) ?_
    rintro e_ w_ ⟨rfl, C11030⟩
    refine ⟨_, rfl, ?_⟩
    have C11031 : Ctx _ _ _ _ _ [CH.row g8 0 q1] := Ctx.call (qs := []) (rest := [CH.row g8 0 q1]) C5541 C11030
    refine WL.val (Yl.assign (v := .bool r11029) rfl) ?_
    refine WL.done ?_
    refine W.ret ?_
    have C11032 : Ctx _ _ _ _ _ [] := Ctx.pick [] C11031 rfl
    have e11033 := Option.some.inj H
    subst e11033
    exact post_r (resE1 rfl rfl) ⟨rfl, C11032⟩
  ·refine W.condT (congrArg Value.bool (nb_f hc27)) ?_
   refine W.seq ?_
   refine W.region rfl ?_
   refine WL.val (Yl.assign (v := .bool false) rfl) ?_
   refine WL.done ?_
   refine W.ret ?_
   refine thenE_r ?_
   have C11034 : Ctx _ _ _ _ _ [] := Ctx.pick [] C26 rfl
   have e11035 := Option.some.inj H
   subst e11035
   exact post_r (resE1 rfl rfl) ⟨rfl, C11034⟩
end Go.Proofs.Ytobdpbnadjkhiaa
