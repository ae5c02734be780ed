/- Functions of the program: each as a plain function of numbers and lists, and the proof that the program's own comes to it. Nothing is assumed but what each theorem says. -/
import Derived.Test.YtaajcpjhcckecaaTGa
import Derived.Test.YtaajcpjhcckecaaTGv
import Derived.Test.YtaajcpjhcckecaaTGs
namespace Go.Proofs.Ytaajcpjhcckecaa
open Go.RowKit Go.WG
set_option linter.unusedVariables false
set_option linter.unusedSimpArgs false
def tally_own.f (k : Nat) (a0 : List Int) : Option (List Int) := if (a0.length + a0.length / 4 + 192) * 1 ≤ 281474976710656 then (some a0) else none
set_option maxRecDepth 100000 in
set_option maxHeartbeats 4000000 in
theorem tally_own.calls (k : Nat) (w : World) (F : CH) (A1 : Option Addr) (c2 : Nat) (n3 : Nat) (a0 : List Int) (hp : Pre w F []) (hn4 : n3 = a0.length) (hl5 : a0.length ≤ c2) (hm6 : c2 ≤ maxLen) (hS7 : Sl (Kd.int .u8) F F A1 a0) (r0_ : List Int) (H : tally_own.f k a0 = some r0_) :
    Calls Try.prog 26 #[.slice A1 n3 c2] w fun e w' => ∃ (A29 : Option Addr) (c30 : Nat) (n31 : Nat) (p33 : CH), e = .returned (.slice A29 n31 c30) ∧ Ctx w F (domL []) w' F [p33] ∧ n31 = r0_.length ∧ Row (Kd.int .u8) F p33 (.slice A29 n31 c30) r0_ := by
  have C := Ctx.start hp
  generalize hD : domL [] = D at C ⊢
  unfold tally_own.f at H
  refine Calls.ofW Try.func26 rfl (by simp [Try.ntmps26]) ?_
  refine W.seq ?_
  refine W.region rfl ?_
  refine WL.val (Yl.assign (v := .slice none 0 0) rfl) ?_
  refine WL.done ?_
  refine W.seq ?_
  refine W.region rfl ?_
  obtain ⟨A8, c9, n10, p11, w12, hn13, hy14, C15, hR16⟩ := ev_lit0 (P := Try.prog) 5 (Kd.int .u8) C Try.underlying23 ti5
  refine WL.val (hy14 _ _) ?_
  refine WL.val (Yl.move (v := .slice A1 n3 c2) rfl) ?_
  obtain ⟨hc17, H⟩ := guardE H
  obtain ⟨A18, c19, n20, p21, w22, hn23, hy24, C25, hR26⟩ := ev_append' (P := Try.prog) (cb := c2) 5 (Kd.int .u8) [] [] C15 hR16 hn4 hS7 C15.fro Try.underlying23 ti5 rfl zo5 (by decide) (by decide) (by simpa using hc17)
  have C27 : Ctx _ _ _ _ F [p21] := C25
  rw [List.nil_append] at hn23 hR26
  refine WL.val (hy24 _ _ _ _ rfl rfl) ?_
  refine WL.val (Yl.assign (v := .slice A18 n20 c19) rfl) ?_
  refine WL.done ?_
  refine W.ret ?_
  have e28 := Option.some.inj H
  subst e28
  exact post_r (resE1 rfl rfl) ⟨A18, c19, n20, p21, rfl, C27, hn23, hR26⟩
def bytes_Equal.f (k : Nat) (a0 : List Int) (a1 : List Int) : Option Bool := some (decide ((strOfNums a0) = (strOfNums a1)))
set_option maxRecDepth 100000 in
set_option maxHeartbeats 4000000 in
theorem bytes_Equal.calls (k : Nat) (w : World) (F : CH) (A1 : Option Addr) (c2 : Nat) (n3 : Nat) (a0 : List Int) (A8 : Option Addr) (c9 : Nat) (n10 : Nat) (a1 : List Int) (hp : Pre w F []) (hn4 : n3 = a0.length) (hl5 : a0.length ≤ c2) (hm6 : c2 ≤ maxLen) (hS7 : Sl (Kd.int .u8) F F A1 a0) (hn11 : n10 = a1.length) (hl12 : a1.length ≤ c9) (hm13 : c9 ≤ maxLen) (hS14 : Sl (Kd.int .u8) F F A8 a1) (r0_ : Bool) (H : bytes_Equal.f k a0 a1 = some r0_) :
    Calls Try.prog 27 #[.slice A1 n3 c2, .slice A8 n10 c9] w fun e w' => e = .returned (.bool r0_) ∧ (∃ n_, w' = w.drewN n_) := by
  have C := Ctx.start hp
  generalize domL [] = D at C
  have W0 : ∃ n_, w = w.drewN n_ := ⟨0, rfl⟩
  unfold bytes_Equal.f at H
  refine Calls.ofW Try.func27 rfl (by simp [Try.ntmps27]) ?_
  refine W.seq ?_
  refine W.region rfl ?_
  refine WL.val (Yl.assign (v := .bool false) rfl) ?_
  refine WL.done ?_
  refine W.seq ?_
  refine W.region rfl ?_
  refine WL.val (Yl.move (v := .slice A1 n3 c2) rfl) ?_
  refine WL.val (Yl.convBS (xs := a0) rfl hn4 hS7 (C.fro) Try.underlying23 Try.underlying5 Try.underlying9) ?_
  refine WL.val (Yl.move (v := .slice A8 n10 c9) rfl) ?_
  refine WL.val (Yl.convBS (xs := a1) rfl hn11 hS14 (C.fro) Try.underlying23 Try.underlying5 Try.underlying9) ?_
  refine WL.val (Yl.seqD (p := strOfNums a0) (q := strOfNums a1) rfl rfl) ?_
  refine WL.val (Yl.assign (v := .bool (decide ((strOfNums a0) = (strOfNums a1)))) rfl) ?_
  refine WL.done ?_
  refine W.ret ?_
  have e15 := Option.some.inj H
  subst e15
  exact post_r (resE1 rfl rfl) ⟨rfl, W0⟩
def tally_Decide.l1 : Nat → List TCast → Int → List (ByteArray × List (Int × Int)) → Int → Option (Sum Unit ((List Int) × Bool))
  | 0, _, _, _, _ => none
  | k + 1, a0, a1, r13, x112 => if x112 < (a0.length : Int) then (if 0 ≤ x112 ∧ x112 < (a0.length : Int) then (if (((mget r13 (strOfNums ((a0.getD x112.toNat TCast.z).Value))).getD []).length : Int) > a1 then ((tally_own.f k ((a0.getD x112.toNat TCast.z).Value)).bind fun r182 => some (Sum.inr (r182, true))) else (tally_Decide.l1 k a0 a1 r13 (wi64 (x112 + 1)))) else none) else (some (Sum.inl ()))
def tally_Decide.f (k : Nat) (a0 : List TCast) (a1 : Int) : Option ((List Int) × Bool) := if a1 < 0 then (some (([] : List Int), false)) else ((tally_voters.f k a0).bind fun r13 => (tally_Decide.l1 k a0 a1 r13 0).bind fun o_ => sumE o_ (fun _ => some (([] : List Int), false)) (fun p_ => some p_))
set_option maxRecDepth 100000 in
set_option maxHeartbeats 4000000 in
theorem tally_Decide.calls (k : Nat) (w : World) (F : CH) (A1 : Option Addr) (c2 : Nat) (n3 : Nat) (a0 : List TCast) (a1 : Int) (hp : Pre w F []) (hn4 : n3 = a0.length) (hl5 : a0.length ≤ c2) (hm6 : c2 ≤ maxLen) (hS7 : Sl TCast.K F F A1 a0) (r0_ : List Int) (r1_ : Bool) (H : tally_Decide.f k a0 a1 = some (r0_, r1_)) :
    Calls Try.prog 13 #[.slice A1 n3 c2, .int .i64 a1] w fun e w' => ∃ (A200 : Option Addr) (c201 : Nat) (n202 : Nat) (p204 : CH), e = .returned (.tuple #[(.slice A200 n202 c201), (.bool r1_)]) ∧ Ctx w F (domL []) w' F [p204] ∧ n202 = r0_.length ∧ Row (Kd.int .u8) F p204 (.slice A200 n202 c201) r0_ := by
  have C := Ctx.start hp
  generalize hD : domL [] = D at C ⊢
  unfold tally_Decide.f at H
  refine Calls.ofW Try.func13 rfl (by simp [Try.ntmps13]) ?_
  refine W.seq ?_
  refine W.region rfl ?_
  refine WL.val (Yl.assign (v := .slice none 0 0) rfl) ?_
  refine WL.val (Yl.assign (v := .bool false) rfl) ?_
  refine WL.done ?_
  refine W.seq ?_
  refine W.seq ?_
  refine W.region rfl ?_
  refine WL.val (Yl.move (v := .int .i64 a1) rfl) ?_
  refine WL.val (Yl.lss (m := a1) (n := 0) (q := decide (a1 < 0)) rfl rfl rfl) ?_
  refine WL.done ?_
  rcases iteE H with ⟨hc8, H⟩ | ⟨hc8, H⟩
  · skip
    refine W.condT (congrArg Value.bool (decide_eq_true hc8)) ?_
    refine W.seq ?_
    refine W.region rfl ?_
    refine WL.val (Yl.assign (v := .slice none 0 0) rfl) ?_
    refine WL.val (Yl.assign (v := .bool false) rfl) ?_
    refine WL.done ?_
    refine W.ret ?_
    refine thenE_r ?_
    have C9 : Ctx _ _ _ _ F [CH.emp] := Ctx.emp C
    simp only [Option.some.injEq, Prod.mk.injEq] at H
    obtain ⟨e10, e11⟩ := H
    subst e10 e11
    exact post_r (resE2 rfl rfl rfl) ⟨none, 0, 0, CH.emp, rfl, C9, rfl, (Row.nil _ _)⟩
  · skip
    refine W.condF (congrArg Value.bool (decide_eq_false hc8)) ?_
    refine W.skip ?_
    refine W.seq ?_
    refine W.region rfl ?_
    refine WL.val (Yl.move (v := .slice A1 n3 c2) rfl) ?_
    obtain ⟨r13, hg12, H⟩ := bindE H
    refine WL.call (args := #[.slice A1 n3 c2]) (Yenter.fn Try.func25 (by kernel_rfl) rfl (argsE (.cons rfl .nil))) (tally_voters.calls k _ F A1 c2 n3 a0 (Ctx.pre (qs := []) (rest := []) C) hn4 hl5 hm6 hS7 r13 hg12) ?_
    rintro e_ w_ ⟨g14, p15, rfl, C17, hM16⟩
    refine ⟨_, rfl, ?_⟩
    have C18 : Ctx _ _ _ _ F [p15] := Ctx.call (qs := []) (rest := []) C C17
    refine WL.val (Yl.assign (v := .map (some g14)) rfl) ?_
    refine WL.done ?_
    refine W.seq ?_
    refine W.seq ?_
    refine W.region rfl ?_
    refine WL.val (Yl.move (v := .slice A1 n3 c2) rfl) ?_
    refine WL.val (Yl.lenN (A := A1) (l := n3) (q := c2) (n := (a0.length : Int)) rfl Try.underlying26 (by omega)) ?_
    refine WL.val (Yl.move (v := .int .i64 0) rfl) ?_
    refine WL.done ?_
    obtain ⟨o106, hX105, H⟩ := bindE H
    refine W.cutM (fun env_ w_ => Ctx w F D w_ F [p15] ∧ o106 = Sum.inl ()) ?_ ?_
    · skip
      refine W.block ?_
      refine W.loop (fun g_ env_ w_ => ∃ (x112 : Int), env_ 1 = .int .i64 a1 ∧ env_ 6 = .map (some g14) ∧ env_ 13 = .slice A1 n3 c2 ∧ env_ 14 = .int .i64 (a0.length : Int) ∧ env_ 15 = .int .i64 x112 ∧ Ctx w F D w_ F [p15] ∧ tally_Decide.l1 g_ a0 a1 r13 x112 = some o106) k ⟨0, rfl, rfl, rfl, rfl, rfl, C18, hX105⟩ ?_
      clear hX105
      rintro g_ env_ w_ ⟨x112, ho107, ho108, ho109, ho110, ho111, C113, hX105⟩
      rcases g_ with _ | k152
      · exact absurd hX105 (by simp [tally_Decide.l1])
      rw [tally_Decide.l1] at hX105
      refine W.seq ?_
      refine W.region rfl ?_
      refine WL.val (Yl.lss (m := x112) (n := (a0.length : Int)) (q := decide (x112 < (a0.length : Int))) ho111 ho110 rfl) ?_
      refine WL.done ?_
      refine W.seq ?_
      rcases iteE hX105 with ⟨hc153, hX105⟩ | ⟨hc153, hX105⟩
      · skip
        refine W.condT (congrArg Value.bool (decide_eq_true hc153)) ?_
        refine W.skip ?_
        refine W.seq ?_
        refine W.block ?_
        refine W.seq ?_
        refine W.region rfl ?_
        obtain ⟨hc154, hX105⟩ := guardE hX105
        obtain ⟨b155, of156, hA157, he158⟩ := hS7 (by omega)
        refine WL.val (Yl.elemAddr (i := x112) ho109 ho111 hA157 Try.underlying26 sz37 (by omega)) ?_
        obtain ⟨cs159, hr160, hx161⟩ := he158 x112.toNat _ (getD_some (d := TCast.z) (by omega))
        obtain ⟨A162, c163, n164, rfl, hn165, hl166, hm167, hS168⟩ := TCast.open hr160
        refine WL.val (Yl.loadAgg (cs := [.int .i64 ((a0.getD x112.toNat TCast.z).Worker), .slice A162 n164 c163]) rfl Try.underlying37 rfl sz37 (fun j u hu => by rw [add_of]; exact ((C113.fro)).cell (hx161 _ _ hu))) ?_
        obtain ⟨g169, w170, hy171, C172⟩ := ev_alloc (P := Try.prog) (e := 37) [.int .i64 0, .slice none 0 0] C113 zr37 rfl
        refine WL.val (hy171 _ _) ?_
        obtain ⟨w173, hy174, C175⟩ := ev_set (P := Try.prog) (ps1 := []) (ps2 := [p15]) (t := 37) (o := 0) [.int .i64 0, .slice none 0 0] [] [.int .i64 0, .slice none 0 0] [] [.int .i64 ((a0.getD x112.toNat TCast.z).Worker), .slice A162 n164 c163] (.agg (List.toArray [.int .i64 ((a0.getD x112.toNat TCast.z).Worker), .slice A162 n164 c163])) C172 rfl rfl rfl rfl (by simp [Value.oneCell']) sz37
        have C176 : Ctx _ _ _ _ F [CH.row g169 0 [.int .i64 ((a0.getD x112.toNat TCast.z).Worker), .slice A162 n164 c163], p15] := C175
        refine WL.skip (hy174 _ _ _ _ rfl rfl) ?_
        refine WL.done ?_
        refine W.seq ?_
        refine W.region rfl ?_
        refine WL.val (Yl.move (v := .map (some g14)) ho108) ?_
        refine WL.val (Yl.fieldAddr (i := 1) rfl Try.underlying37 rfl sz23) ?_
        refine WL.val (Yl.loadV (g := g169) (off := 0) (o := 1) (cs := [.int .i64 ((a0.getD x112.toNat TCast.z).Worker), .slice A162 n164 c163]) (v := .slice A162 n164 c163) rfl Try.underlying23 rfl (Ctx.sub_of [] [p15] C176) rfl) ?_
        refine WL.val (Yl.convBS (xs := (a0.getD x112.toNat TCast.z).Value) rfl hn165 hS168 (C176.fro) Try.underlying23 Try.underlying5 Try.underlying9) ?_
        obtain ⟨v177, hV178, hy179⟩ := NMap.get hM16 Try.underlying50 Try.underlying9 rfl (keyStr) zr52 (strOfNums ((a0.getD x112.toNat TCast.z).Value))
        refine WL.val (hy179 _ (Ctx.sub_of [CH.row g169 0 [.int .i64 ((a0.getD x112.toNat TCast.z).Worker), .slice A162 n164 c163]] [] C176) _ _ _ _ rfl rfl) ?_
        refine WL.val (Yl.lenMV hV178 (Ctx.sub_of [CH.row g169 0 [.int .i64 ((a0.getD x112.toNat TCast.z).Worker), .slice A162 n164 c163]] [] C176) rfl Try.underlying52) ?_
        refine WL.val (Yl.move (v := .int .i64 a1) ho107) ?_
        refine WL.val (Yl.gtr (m := (((mget r13 (strOfNums ((a0.getD x112.toNat TCast.z).Value))).getD []).length : Int)) (n := a1) (q := decide ((((mget r13 (strOfNums ((a0.getD x112.toNat TCast.z).Value))).getD []).length : Int) > a1)) rfl rfl rfl) ?_
        refine WL.done ?_
        rcases iteE hX105 with ⟨hc180, hX105⟩ | ⟨hc180, hX105⟩
        · skip
          refine W.condT (congrArg Value.bool (decide_eq_true hc180)) ?_
          refine W.seq ?_
          refine W.region rfl ?_
          refine WL.val (Yl.fieldAddr (i := 1) rfl Try.underlying37 rfl sz23) ?_
          refine WL.val (Yl.loadV (g := g169) (off := 0) (o := 1) (cs := [.int .i64 ((a0.getD x112.toNat TCast.z).Worker), .slice A162 n164 c163]) (v := .slice A162 n164 c163) rfl Try.underlying23 rfl (Ctx.sub_of [] [p15] C176) rfl) ?_
          obtain ⟨r182, hg181, hX105⟩ := bindE hX105
          refine WL.call (args := #[.slice A162 n164 c163]) (Yenter.fn Try.func26 (by kernel_rfl) rfl (argsE (.cons rfl .nil))) (tally_own.calls k152 _ F A162 c163 n164 ((a0.getD x112.toNat TCast.z).Value) (Ctx.pre (qs := []) (rest := [CH.row g169 0 [.int .i64 ((a0.getD x112.toNat TCast.z).Worker), .slice A162 n164 c163], p15]) C176) hn165 hl166 hm167 hS168 r182 hg181) ?_
          rintro e_ w_ ⟨A183, c184, n185, p187, rfl, C189, hn186, hR188⟩
          refine ⟨_, rfl, ?_⟩
          have C190 : Ctx _ _ _ _ F [p187, CH.row g169 0 [.int .i64 ((a0.getD x112.toNat TCast.z).Worker), .slice A162 n164 c163], p15] := Ctx.call (qs := []) (rest := [CH.row g169 0 [.int .i64 ((a0.getD x112.toNat TCast.z).Worker), .slice A162 n164 c163], p15]) C176 C189
          refine WL.val (Yl.assign (v := .slice A183 n185 c184) rfl) ?_
          refine WL.val (Yl.assign (v := .bool true) rfl) ?_
          refine WL.done ?_
          refine W.ret ?_
          refine inB_r ?_
          refine thenE_r ?_
          refine thenE_r ?_
          refine inB_r ?_
          refine thenE_r ?_
          refine thenE_r ?_
          cases hX105
          replace H := sumE_r H
          have C191 : Ctx _ _ _ _ F [p187, p15] := Ctx.drop [p187] [p15] C190
          have C192 : Ctx _ _ _ _ F [p187] := Ctx.drop [p187] [] C191
          simp only [Option.some.injEq, Prod.mk.injEq] at H
          obtain ⟨e193, e194⟩ := H
          subst e193 e194
          exact post_r (resE2 rfl rfl rfl) ⟨A183, c184, n185, p187, rfl, C192, hn186, hR188⟩
        · skip
          refine W.condF (congrArg Value.bool (decide_eq_false hc180)) ?_
          refine W.skip ?_
          refine inB_n ?_
          refine W.region rfl ?_
          refine WL.val (Yl.add (m := x112) (n := 1) (r := wi64 (x112 + 1)) ho111 rfl rfl) ?_
          refine WL.val (Yl.move (v := .int .i64 (wi64 (x112 + 1))) rfl) ?_
          refine WL.done ?_
          have C195 : Ctx _ _ _ _ F [p15] := Ctx.drop [] [p15] C176
          exact thenE_n ⟨k152, Nat.lt_succ_self _, wi64 (x112 + 1), ho107, ho108, ho109, ho110, rfl, C195, hX105⟩
      · skip
        refine W.condF (congrArg Value.bool (decide_eq_false hc153)) ?_
        refine W.exit ?_
        refine thenE_x ?_
        refine thenE_x ?_
        refine inB_here ?_
        cases hX105
        refine thenE_n ?_
        exact ⟨C113, rfl⟩
    · skip
      rintro env_ w_ ⟨C104, rfl⟩
      replace H := sumE_l H
      refine W.seq ?_
      refine W.region rfl ?_
      refine WL.val (Yl.assign (v := .slice none 0 0) rfl) ?_
      refine WL.val (Yl.assign (v := .bool false) rfl) ?_
      refine WL.done ?_
      refine W.ret ?_
      have C196 : Ctx _ _ _ _ F [] := Ctx.drop [] [] C104
      have C197 : Ctx _ _ _ _ F [CH.emp] := Ctx.emp C196
      simp only [Option.some.injEq, Prod.mk.injEq] at H
      obtain ⟨e198, e199⟩ := H
      subst e198 e199
      exact post_r (resE2 rfl rfl rfl) ⟨none, 0, 0, CH.emp, rfl, C197, rfl, (Row.nil _ _)⟩
def tally_Liars.l1 : Nat → List TCast → List Int → List (Int × Int) → Int → Option (List (Int × Int))
  | 0, _, _, _, _ => none
  | k + 1, a0, a1, x198, x205 => if x205 < (a0.length : Int) then (if 0 ≤ x205 ∧ x205 < (a0.length : Int) then ((bytes_Equal.f k ((a0.getD x205.toNat TCast.z).Value) a1).bind fun r268 => if r268 = true then (tally_Liars.l1 k a0 a1 x198 (wi64 (x205 + 1))) else (tally_Liars.l1 k a0 a1 (mset x198 ((a0.getD x205.toNat TCast.z).Worker) x205) (wi64 (x205 + 1)))) else none) else (some x198)
def tally_Liars.f (k : Nat) (a0 : List TCast) (a1 : List Int) : Option (List Int) := (tally_Liars.l1 k a0 a1 ([] : List (Int × Int)) 0).bind fun x148 => if x148.length * 8 ≤ 140737488355328 then (some (sortI (x148.map (·.1)))) else none
set_option maxRecDepth 100000 in
set_option maxHeartbeats 4000000 in
theorem tally_Liars.calls (k : Nat) (w : World) (F : CH) (A1 : Option Addr) (c2 : Nat) (n3 : Nat) (a0 : List TCast) (A8 : Option Addr) (c9 : Nat) (n10 : Nat) (a1 : List Int) (hp : Pre w F []) (hn4 : n3 = a0.length) (hl5 : a0.length ≤ c2) (hm6 : c2 ≤ maxLen) (hS7 : Sl TCast.K F F A1 a0) (hn11 : n10 = a1.length) (hl12 : a1.length ≤ c9) (hm13 : c9 ≤ maxLen) (hS14 : Sl (Kd.int .u8) F F A8 a1) (r0_ : List Int) (H : tally_Liars.f k a0 a1 = some r0_) :
    Calls Try.prog 14 #[.slice A1 n3 c2, .slice A8 n10 c9] w fun e w' => ∃ (A311 : Option Addr) (c312 : Nat) (n313 : Nat) (p315 : CH), e = .returned (.slice A311 n313 c312) ∧ Ctx w F (domL []) w' F [p315] ∧ n313 = r0_.length ∧ Row (Kd.int .i64) F p315 (.slice A311 n313 c312) r0_ := by
  have C := Ctx.start hp
  generalize hD : domL [] = D at C ⊢
  unfold tally_Liars.f at H
  refine Calls.ofW Try.func14 rfl (by simp [Try.ntmps14]) ?_
  refine W.seq ?_
  refine W.region rfl ?_
  refine WL.val (Yl.assign (v := .slice none 0 0) rfl) ?_
  refine WL.done ?_
  refine W.seq ?_
  refine W.region rfl ?_
  obtain ⟨g15, p16, w17, hy18, C19, hM20⟩ := ev_makeMap (P := Try.prog) (α := Int) (β := Int) (t := 52) (Value.int .i64) (Value.int .i64) C
  refine WL.val (hy18 _ _) ?_
  refine WL.val (Yl.assign (v := .map (some g15)) rfl) ?_
  refine WL.done ?_
  refine W.seq ?_
  refine W.seq ?_
  refine W.region rfl ?_
  refine WL.val (Yl.move (v := .slice A1 n3 c2) rfl) ?_
  refine WL.val (Yl.lenN (A := A1) (l := n3) (q := c2) (n := (a0.length : Int)) rfl Try.underlying26 (by omega)) ?_
  refine WL.val (Yl.move (v := .int .i64 0) rfl) ?_
  refine WL.done ?_
  obtain ⟨x148, hX153, H⟩ := bindE H
  refine W.cutM (fun env_ w_ => ∃ (g149 : Nat) (p150 : CH), env_ 5 = .map (some g149) ∧ Ctx w F D w_ F [p150] ∧ MRow (Value.int .i64) (Value.int .i64) p150 g149 x148) ?_ ?_
  · skip
    refine W.block ?_
    refine W.loop (fun g_ env_ w_ => ∃ (x198 : List (Int × Int)) (x205 : Int) (g199 : Nat) (p200 : CH), env_ 1 = .slice A8 n10 c9 ∧ env_ 5 = .map (some g199) ∧ env_ 11 = .slice A1 n3 c2 ∧ env_ 12 = .int .i64 (a0.length : Int) ∧ env_ 13 = .int .i64 x205 ∧ Ctx w F D w_ F [p200] ∧ MRow (Value.int .i64) (Value.int .i64) p200 g199 x198 ∧ tally_Liars.l1 g_ a0 a1 x198 x205 = some x148) k ⟨([] : List (Int × Int)), 0, g15, p16, rfl, rfl, rfl, rfl, rfl, C19, hM20, hX153⟩ ?_
    clear hX153
    rintro g_ env_ w_ ⟨x198, x205, g199, p200, ho196, ho197, ho202, ho203, ho204, C206, hM201, hX153⟩
    rcases g_ with _ | k242
    · exact absurd hX153 (by simp [tally_Liars.l1])
    rw [tally_Liars.l1] at hX153
    refine W.seq ?_
    refine W.region rfl ?_
    refine WL.val (Yl.lss (m := x205) (n := (a0.length : Int)) (q := decide (x205 < (a0.length : Int))) ho204 ho203 rfl) ?_
    refine WL.done ?_
    refine W.seq ?_
    rcases iteE hX153 with ⟨hc243, hX153⟩ | ⟨hc243, hX153⟩
    · skip
      refine W.condT (congrArg Value.bool (decide_eq_true hc243)) ?_
      refine W.skip ?_
      refine W.seq ?_
      refine W.block ?_
      refine W.seq ?_
      refine W.region rfl ?_
      refine WL.val (Yl.move (v := .int .i64 x205) ho204) ?_
      obtain ⟨hc244, hX153⟩ := guardE hX153
      obtain ⟨b245, of246, hA247, he248⟩ := hS7 (by omega)
      refine WL.val (Yl.elemAddr (i := x205) ho202 ho204 hA247 Try.underlying26 sz37 (by omega)) ?_
      obtain ⟨cs249, hr250, hx251⟩ := he248 x205.toNat _ (getD_some (d := TCast.z) (by omega))
      obtain ⟨A252, c253, n254, rfl, hn255, hl256, hm257, hS258⟩ := TCast.open hr250
      refine WL.val (Yl.loadAgg (cs := [.int .i64 ((a0.getD x205.toNat TCast.z).Worker), .slice A252 n254 c253]) rfl Try.underlying37 rfl sz37 (fun j u hu => by rw [add_of]; exact ((C206.fro)).cell (hx251 _ _ hu))) ?_
      obtain ⟨g259, w260, hy261, C262⟩ := ev_alloc (P := Try.prog) (e := 37) [.int .i64 0, .slice none 0 0] C206 zr37 rfl
      refine WL.val (hy261 _ _) ?_
      refine WL.val (Yl.assign (v := .int .i64 x205) rfl) ?_
      obtain ⟨w263, hy264, C265⟩ := ev_set (P := Try.prog) (ps1 := []) (ps2 := [p200]) (t := 37) (o := 0) [.int .i64 0, .slice none 0 0] [] [.int .i64 0, .slice none 0 0] [] [.int .i64 ((a0.getD x205.toNat TCast.z).Worker), .slice A252 n254 c253] (.agg (List.toArray [.int .i64 ((a0.getD x205.toNat TCast.z).Worker), .slice A252 n254 c253])) C262 rfl rfl rfl rfl (by simp [Value.oneCell']) sz37
      have C266 : Ctx _ _ _ _ F [CH.row g259 0 [.int .i64 ((a0.getD x205.toNat TCast.z).Worker), .slice A252 n254 c253], p200] := C265
      refine WL.skip (hy264 _ _ _ _ rfl rfl) ?_
      refine WL.done ?_
      refine W.seq ?_
      refine W.region rfl ?_
      refine WL.val (Yl.fieldAddr (i := 1) rfl Try.underlying37 rfl sz23) ?_
      refine WL.val (Yl.loadV (g := g259) (off := 0) (o := 1) (cs := [.int .i64 ((a0.getD x205.toNat TCast.z).Worker), .slice A252 n254 c253]) (v := .slice A252 n254 c253) rfl Try.underlying23 rfl (Ctx.sub_of [] [p200] C266) rfl) ?_
      refine WL.val (Yl.move (v := .slice A8 n10 c9) ho196) ?_
      obtain ⟨r268, hg267, hX153⟩ := bindE hX153
      refine WL.call (args := #[.slice A252 n254 c253, .slice A8 n10 c9]) (Yenter.fn Try.func27 (by kernel_rfl) rfl (argsE (.cons rfl (.cons rfl .nil)))) (bytes_Equal.calls k242 _ F A252 c253 n254 ((a0.getD x205.toNat TCast.z).Value) A8 c9 n10 a1 C266.pre0 hn255 hl256 hm257 hS258 hn11 hl12 hm13 hS14 r268 hg267) ?_
      rintro e_ w_ ⟨rfl, ⟨m269, rfl⟩⟩
      refine ⟨_, rfl, ?_⟩
      have C270 := Ctx.drewN C266 m269
      refine WL.val (Yl.not (p := r268) (q := !r268) rfl rfl) ?_
      refine WL.done ?_
      rcases iteE hX153 with ⟨hc271, hX153⟩ | ⟨hc271, hX153⟩
      · skip
        refine W.condF (congrArg Value.bool (nb_t hc271)) ?_
        refine W.skip ?_
        refine inB_n ?_
        refine W.region rfl ?_
        refine WL.val (Yl.add (m := x205) (n := 1) (r := wi64 (x205 + 1)) ho204 rfl rfl) ?_
        refine WL.val (Yl.move (v := .int .i64 (wi64 (x205 + 1))) rfl) ?_
        refine WL.done ?_
        have C272 : Ctx _ _ _ _ F [p200] := Ctx.drop [] [p200] C270
        exact thenE_n ⟨k242, Nat.lt_succ_self _, x198, wi64 (x205 + 1), g199, p200, ho196, ho197, ho202, ho203, rfl, C272, hM201, hX153⟩
      · skip
        refine W.condT (congrArg Value.bool (nb_f hc271)) ?_
        refine W.region rfl ?_
        refine WL.val (Yl.move (v := .map (some g199)) ho197) ?_
        refine WL.val (Yl.fieldAddr (i := 0) rfl Try.underlying37 rfl sz3) ?_
        refine WL.val (Yl.loadV (g := g259) (off := 0) (o := 0) (cs := [.int .i64 ((a0.getD x205.toNat TCast.z).Worker), .slice A252 n254 c253]) (v := .int .i64 ((a0.getD x205.toNat TCast.z).Worker)) rfl Try.underlying3 rfl (Ctx.sub_of [] [p200] C270) rfl) ?_
        refine WL.val (Yl.move (v := .int .i64 x205) rfl) ?_
        obtain ⟨p273, w274, hy275, C276, hM277⟩ := ev_mapUpdate (P := Try.prog) (ps1 := [CH.row g259 0 [.int .i64 ((a0.getD x205.toNat TCast.z).Worker), .slice A252 n254 c253]]) (ps2 := []) ((a0.getD x205.toNat TCast.z).Worker) x205 C270 hM201 Try.underlying52 Try.underlying3 rfl (keyInt .i64)
        have C278 : Ctx _ _ _ _ F [CH.row g259 0 [.int .i64 ((a0.getD x205.toNat TCast.z).Worker), .slice A252 n254 c253], p273] := C276
        refine WL.skip (hy275 _ _ _ _ _ rfl rfl rfl) ?_
        refine WL.done ?_
        refine inB_n ?_
        refine W.region rfl ?_
        refine WL.val (Yl.add (m := x205) (n := 1) (r := wi64 (x205 + 1)) ho204 rfl rfl) ?_
        refine WL.val (Yl.move (v := .int .i64 (wi64 (x205 + 1))) rfl) ?_
        refine WL.done ?_
        have C279 : Ctx _ _ _ _ F [p273] := Ctx.drop [] [p273] C278
        exact thenE_n ⟨k242, Nat.lt_succ_self _, mset x198 ((a0.getD x205.toNat TCast.z).Worker) x205, wi64 (x205 + 1), g199, p273, ho196, ho197, ho202, ho203, rfl, C279, hM277, hX153⟩
    · skip
      refine W.condF (congrArg Value.bool (decide_eq_false hc243)) ?_
      refine W.exit ?_
      refine thenE_x ?_
      refine thenE_x ?_
      refine inB_here ?_
      cases hX153
      refine thenE_n ?_
      exact ⟨g199, p200, ho197, C206, hM201⟩
  · skip
    rintro env_ w_ ⟨g149, p150, ho147, C152, hM151⟩
    refine W.seq ?_
    refine W.region rfl ?_
    refine WL.val (Yl.assign (v := .slice none 0 0) rfl) ?_
    refine WL.done ?_
    obtain ⟨hc280, H⟩ := guardE H
    obtain ⟨es281, cl282, hp283, hE284⟩ := hM151
    have C285 : Ctx _ _ _ _ F [CH.emp, p150] := Ctx.emp C152
    refine W.seq ?_
    refine W.cutM (fun env_ w_ => ∃ (A_ : Option Addr) (c_ n_ : Nat) (p_ : CH) (xs_ : List Int), env_ 8 = .slice A_ n_ c_ ∧ Ctx w F D w_ F [p_, p150] ∧ n_ = xs_.length ∧ Row (Kd.int .i64) F p_ (.slice A_ n_ c_) xs_ ∧ xs_.Perm (x148.map (·.1))) ?_ ?_
    · skip
      refine W.seq ?_
      refine W.region rfl ?_
      refine WL.val (Yl.move (v := .map (some g149)) ho147) ?_
      obtain ⟨r286, w287, hy288, C289, hr290, I291⟩ := ev_range (P := Try.prog) (ek := (Value.int .i64)) (ev' := (Value.int .i64)) (l := x148) C285 (Sub.mono (Ctx.sub_mem (p := p150) C285 (by simp)) (by rw [hp283]; exact CH.le_refl _)) Try.underlying52
      refine WL.val (hy288 _ _ _ rfl) ?_
      refine WL.done ?_
      refine W.block ?_
      refine W.loop (fun g_ env_ w_ => ∃ (A_ : Option Addr) (c_ n_ : Nat) (p_ : CH) (xs_ : List Int), env_ 29 = .pointer (some ⟨r286, 0, none⟩) ∧ env_ 8 = .slice A_ n_ c_ ∧ Ctx w F D w_ F [p_, p150] ∧ n_ = xs_.length ∧ Row (Kd.int .i64) F p_ (.slice A_ n_ c_) xs_ ∧ Iter (Value.int .i64) (Value.int .i64) w_ r286 g149 es281 cl282 xs_ g_) _ ⟨none, 0, 0, CH.emp, [], rfl, rfl, C289, rfl, Row.nil _ _, I291⟩ ?_
      rintro g_ env_ w_ ⟨A_, c_, n_, p_, xs_, hi_, h8_, C_, hn_, hR_, I_⟩
      refine W.seq ?_
      refine W.region rfl ?_
      rcases Iter.next (P := Try.prog) (fun v => match v with | .int _ n => n | _ => 0) (fun _ => rfl) I_ C_ (Sub.mono (Ctx.sub_mem (p := p150) C_ (by simp)) (by rw [hp283]; exact CH.le_refl _)) hr290 hE284 with ⟨hperm_, hy_⟩ | ⟨k_, v_, w2_, left_, hl_, hlen_, hy_, C2_, I2_, he_⟩
      · skip
        refine WL.val (hy_ _ _ _ hi_) ?_
        refine WL.val (Yl.extract (v := .bool false) rfl rfl) ?_
        refine WL.done ?_
        refine thenE_n ?_
        refine W.seq ?_
        refine W.condF rfl ?_
        refine W.exit ?_
        refine thenE_x ?_
        refine thenE_x ?_
        refine inB_here ?_
        exact thenE_n ⟨A_, c_, n_, p_, xs_, h8_, C_, hn_, hR_, hperm_⟩
      · skip
        refine WL.val (hy_ _ _ _ hi_) ?_
        refine WL.val (Yl.extract (v := .bool true) rfl rfl) ?_
        refine WL.done ?_
        refine thenE_n ?_
        refine W.seq ?_
        refine W.condT rfl ?_
        refine W.skip ?_
        refine thenE_n ?_
        refine W.block ?_
        refine W.seq ?_
        refine W.region rfl ?_
        refine WL.val (he_ _ _ _ hi_) ?_
        refine WL.val (Yl.extract (v := .int .i64 k_) rfl rfl) ?_
        refine WL.val (Yl.assign (v := .int .i64 k_) rfl) ?_
        refine WL.done ?_
        refine thenE_n ?_
        refine W.region rfl ?_
        refine WL.val (Yl.move (v := .slice A_ n_ c_) h8_) ?_
        refine WL.val (Yl.move (v := .int .i64 k_) rfl) ?_
        have K0_ := Ctx.start C2_.pre1
        obtain ⟨A1_, c1_, n1_, p1_, w3_, hn1_, hy1_, K1_, hR1_⟩ := ev_lit1' (P := Try.prog) 3 (Kd.int .i64) K0_ Try.underlying31 ti3 ⟨by decide, by decide⟩ k_ (.int .i64 k_) rfl
        refine WL.val (hy1_ _ _ _ rfl) ?_
        obtain ⟨A4_, c4_, n4_, p4_, w4_, hn4_, hy4_, K4_, hR4_⟩ := ev_append' (P := Try.prog) (cb := c1_) 3 (Kd.int .i64) [p1_] [p150] K1_ hR_ hn1_ (Row.sl hR1_) (Ctx.sub_of [] [p_, p150] K1_) Try.underlying31 ti3 rfl zo3 (by decide) (by decide) (by have hl2_ : xs_.length + 1 ≤ x148.length := hlen_; have hq2_ := hc280; simp only [List.length_cons, List.length_nil]; omega)
        have K5_ : Ctx _ _ _ _ F [p4_, p150] := Ctx.drop [] [p4_, p150] K4_
        refine WL.val (hy4_ _ _ _ _ rfl rfl) ?_
        refine WL.val (Yl.assign (v := .slice A4_ n4_ c4_) rfl) ?_
        refine WL.done ?_
        refine inB_n ?_
        exact thenE_n ⟨left_, hl_, A4_, c4_, n4_, p4_, xs_ ++ [k_], hi_, rfl, C2_.call1 K5_, hn4_, hR4_, Iter.keep I2_ C2_ K5_⟩
    · skip
      rintro env_ w_ ⟨A292, c293, n294, p295, xs296, h8297, C298, hn299, hR300, hp301⟩
      have hl307 : slices_Sort.f 0 xs296 = some (sortI (x148.map (·.1))) := by unfold slices_Sort.f; rw [if_pos (by rw [hp301.length_eq, List.length_map]; exact hc280), sortI_perm hp301]
      refine W.seq ?_
      refine W.region rfl ?_
      refine WL.val (Yl.move (v := .slice A292 n294 c293) h8297) ?_
      refine WL.call (args := #[.slice A292 n294 c293]) (Yenter.fn Try.func28 (by kernel_rfl) rfl (argsE (.cons rfl .nil))) (slices_Sort.calls 0 _ F A292 c293 n294 p295 xs296 (Ctx.pre (qs := [p295]) (rest := [p150]) C298) hn299 hR300 _ hl307) ?_
      rintro e_ w_ ⟨p303, rfl, C304, hn305, hR306⟩
      refine ⟨_, rfl, ?_⟩
      refine WL.done ?_
      have C308 : Ctx _ _ _ _ F [p303, p150] := Ctx.call (qs := [p295]) (rest := [p150]) C298 C304
      refine thenE_n ?_
      refine W.seq ?_
      refine W.region rfl ?_
      refine WL.val (Yl.move (v := .slice A292 n294 c293) h8297) ?_
      refine WL.val (Yl.assign (v := .slice A292 n294 c293) rfl) ?_
      refine WL.done ?_
      refine W.ret ?_
      have C309 : Ctx _ _ _ _ F [p303] := Ctx.drop [p303] [] C308
      have e310 := Option.some.inj H
      subst e310
      exact post_r (resE1 rfl rfl) ⟨A292, c293, n294, p303, rfl, C309, hn305, hR306⟩
end Go.Proofs.Ytaajcpjhcckecaa
