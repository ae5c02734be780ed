/- Functions of the program: each as a plain function of numbers and lists, and the proof that the program's own comes to it. Nothing is assumed but what each theorem says. -/
import Derived.Test.YtobdpbnadjkhiaaTGh
import Derived.Test.YtobdpbnadjkhiaaTGa
import Derived.Test.YtobdpbnadjkhiaaTGk
namespace Go.Proofs.Ytobdpbnadjkhiaa
open Go.RowKit Go.WG
set_option linter.unusedVariables false
set_option linter.unusedSimpArgs false
def juratlaw21_DocketHonest.l1 : Nat → TConfig → List Bool → List Bool → Int → Int → Option (List Bool)
  | 0, _, _, _, _, _ => none
  | k + 1, a0, a2, x378, x386, x388 => (if x388 < a0.Workers then (some (decide (x388 < (a2.length : Int)))) else (some (false))).bind fun g444 => if g444 = true then (if 0 ≤ x388 ∧ x388 < (a2.length : Int) then (if ((a2.getD x388.toNat false) && (decide (x386 > 0))) = true then (if 0 ≤ x388 ∧ x388 < (x378.length : Int) then (juratlaw21_DocketHonest.l1 k a0 a2 (x378.set x388.toNat true) (wi64 (x386 - 1)) (wi64 (x388 + 1))) else none) else (juratlaw21_DocketHonest.l1 k a0 a2 x378 x386 (wi64 (x388 + 1)))) else none) else (some x378)
def juratlaw21_DocketHonest.l2 : Nat → TConfig → List TRecord → List Bool → Int → TState → Option TState
  | 0, _, _, _, _, _ => none
  | k + 1, a0, a1, x301, x1829, x1830 => if x1829 < (a1.length : Int) then (if 0 ≤ x1829 ∧ x1829 < (a1.length : Int) then ((juratlaw21_own.f k (a1.getD x1829.toNat TRecord.z)).bind fun r2187 => ((if r2187.Kind = 4 then (if r2187.By ≥ 0 then (if r2187.By < a0.Workers then (if 0 ≤ r2187.By ∧ r2187.By < (x301.length : Int) then (if (x301.getD r2187.By.toNat false) = true then (some (false)) else (if r2187.Job ≥ 1 then (some (decide (r2187.Job ≤ (x1830.Jobs.length : Int)))) else (some (false)))) else none) else (some (false))) else (some (false))) else (some (false))).bind fun g2302 => if g2302 = true then (if 0 ≤ (wi64 (r2187.Job - 1)) ∧ (wi64 (r2187.Job - 1)) < (x1830.Jobs.length : Int) then ((juratlaw21_right.f k ((x1830.Jobs.getD (wi64 (r2187.Job - 1)).toNat TJob.z).Payload)).bind fun r2370 => some (⟨r2187.Kind, r2187.Epoch, r2187.Nonce, r2370, r2187.Job, r2187.Time, r2187.By⟩ : TRecord)) else none) else (some r2187)).bind fun x2292 => (docket_Apply.f k a0 x1830 x2292).bind fun ⟨r2393, r2394⟩ => if r2394 = 0 then (juratlaw21_DocketHonest.l2 k a0 a1 x301 (wi64 (x1829 + 1)) r2393) else (juratlaw21_DocketHonest.l2 k a0 a1 x301 (wi64 (x1829 + 1)) x1830)) else none) else (some x1830)
def juratlaw21_DocketHonest.l3 : Nat → TState → Int → Option (Sum Unit Bool)
  | 0, _, _ => none
  | k + 1, x1474, x4551 => if x4551 < (x1474.Jobs.length : Int) then ((if ((x1474.Jobs.getD x4551.toNat TJob.z).State) = 3 then (if 0 ≤ x4551 ∧ x4551 < (x1474.Jobs.length : Int) then ((juratlaw21_right.f k ((x1474.Jobs.getD x4551.toNat TJob.z).Payload)).bind fun r6418 => (juratref01_Same.f k ((x1474.Jobs.getD x4551.toNat TJob.z).Value) r6418).bind fun r6432 => some (!r6432)) else none) else (if 0 ≤ x4551 ∧ x4551 < (x1474.Jobs.length : Int) then (some false) else none)).bind fun x6118 => if x6118 = true then (some (Sum.inr false)) else (juratlaw21_DocketHonest.l3 k x1474 (wi64 (x4551 + 1)))) else (some (Sum.inl ()))
def juratlaw21_DocketHonest.l4 : Nat → TConfig → List Bool → TState → Int → Option (Sum Unit Bool)
  | 0, _, _, _, _ => none
  | k + 1, a0, x301, x1474, x6697 => if x6697 < a0.Workers then (if 0 ≤ x6697 ∧ x6697 < (x1474.Barred.length : Int) then ((if (x1474.Barred.getD x6697.toNat false) = true then (if 0 ≤ x6697 ∧ x6697 < (x301.length : Int) then (some (!(x301.getD x6697.toNat false))) else none) else (some (false))).bind fun g6752 => if g6752 = true then (some (Sum.inr false)) else (juratlaw21_DocketHonest.l4 k a0 x301 x1474 (wi64 (x6697 + 1)))) else none) else (some (Sum.inl ()))
def juratlaw21_DocketHonest.f (k : Nat) (a0 : TConfig) (a1 : List TRecord) (a2 : List Bool) : Option Bool := ((juratlaw21_Great.f k a1).bind fun r48 => if r48 = true then (some true) else ((juratref21_Right.f k a0).bind fun r53 => some (!r53))).bind fun x40 => if x40 = true then ((juratlaw21_awake.f k ).bind fun r58 => some r58) else ((docket_New.f k a0).bind fun ⟨r64, r65⟩ => if 0 ≤ a0.Workers ∧ a0.Workers * 1 ≤ 140737488355328 then ((juratlaw21_DocketHonest.l1 k a0 a2 (List.replicate a0.Workers.toNat (false : Bool)) a0.Faulty 0).bind fun x301 => (juratlaw21_DocketHonest.l2 k a0 a1 x301 0 r64).bind fun x1474 => (juratlaw21_DocketHonest.l3 k x1474 0).bind fun o_ => sumE o_ (fun _ => if (x1474.Barred.length : Int) = a0.Workers then ((juratlaw21_DocketHonest.l4 k a0 x301 x1474 0).bind fun o_ => sumE o_ (fun _ => (juratlaw21_awake.f k ).bind fun r6773 => some r6773) (fun p_ => some p_)) else (some false)) (fun p_ => some p_)) else none)
set_option maxRecDepth 100000 in
set_option maxHeartbeats 4000000 in
theorem juratlaw21_DocketHonest.calls (k : Nat) (w : World) (F : CH) (a0 : TConfig) (A1 : Option Addr) (c2 : Nat) (n3 : Nat) (a1 : List TRecord) (A8 : Option Addr) (c9 : Nat) (n10 : Nat) (a2 : List Bool) (hp : Pre w F []) (hn4 : n3 = a1.length) (hl5 : a1.length ≤ c2) (hm6 : c2 ≤ maxLen) (hS7 : Sl TRecord.K F F A1 a1) (hn11 : n10 = a2.length) (hl12 : a2.length ≤ c9) (hm13 : c9 ≤ maxLen) (hS14 : Sl Kd.bool F F A8 a2) (r0_ : Bool) (H : juratlaw21_DocketHonest.f k a0 a1 a2 = some r0_) :
    Calls Try.prog 6 #[.agg (List.toArray [.int .i64 a0.Faulty, .int .i64 a0.Workers, .int .i64 a0.Height, .int .i64 a0.Bits, .int .i64 a0.Jobs, .int .i64 a0.Term, .int .i64 a0.Heads]), .slice A1 n3 c2, .slice A8 n10 c9] w fun e w' => e = .returned (.bool r0_) ∧ Ctx w F (domL []) w' F [] := by
 have C := Ctx.start hp
 generalize hD : domL [] = D at C ⊢
 unfold juratlaw21_DocketHonest.f at H
 refine Calls.ofW Try.func6 rfl (by simp [Try.ntmps6]) ?_
 refine W.seq ?_
 refine W.region rfl ?_
 let q1 : List Go.Value := [.int .i64 a0.Faulty, .int .i64 a0.Workers, .int .i64 a0.Height, .int .i64 a0.Bits, .int .i64 a0.Jobs, .int .i64 a0.Term, .int .i64 a0.Heads]
 obtain ⟨g15, w16, hy17, C18⟩ := ev_box (P := Try.prog) 23 (.agg (List.toArray q1)) q1 C rfl
 refine WL.val (hy17 _ _ _ rfl) ?_
 refine WL.val (Yl.assign (v := .bool false) rfl) ?_
 refine WL.done ?_
 refine W.seq ?_
 refine W.seq ?_
 obtain ⟨x40, hX42, H⟩ := bindE H
 refine W.cutM (fun env_ w_ => env_ 1 = .slice A1 n3 c2 ∧ env_ 2 = .slice A8 n10 c9 ∧ env_ 3 = .pointer (some ⟨g15, 0, none⟩) ∧ env_ 24 = .bool x40 ∧ Ctx w F D w_ F [CH.row g15 0 q1]) ?_ ?_
 ·refine W.region rfl ?_
  refine WL.val (Yl.move (v := .slice A1 n3 c2) rfl) ?_
  obtain ⟨r48, hg47, hX42⟩ := bindE hX42
  refine WL.callH (juratlaw21_Great.calls k _ F A1 c2 n3 a1 C18.pre0 hn4 hl5 hm6 hS7 r48 hg47) (Yenter.fn Try.func7 (by kernel_rfl) rfl (argsE (.cons rfl .nil))) ?_
  rintro e_ w_ ⟨rfl, ⟨m49, rfl⟩⟩
  refine ⟨_, rfl, ?_⟩
  have C50 := Ctx.drewN C18 m49
  refine WL.val (Yl.move (v := .bool r48) rfl) ?_
  rcases iteE hX42 with ⟨hc51, hX42⟩ | ⟨hc51, hX42⟩
  ·refine WL.offs 3 20 false (congrArg Value.bool hc51) rfl ?_
   refine WL.val (Yl.pickT (v := .bool true) (congrArg Value.bool hc51) rfl) ?_
   refine WL.done ?_
   cases hX42
   refine thenE_n ?_
   exact ⟨rfl, rfl, rfl, rfl, C50⟩
  ·refine WL.valOn rfl (congrArg Value.bool (Bool.eq_false_iff.2 hc51)) (Yl.loadVA (g := g15) (off := 0) (o := 0) (cs := q1) (us := [.int .i64 a0.Faulty, .int .i64 a0.Workers, .int .i64 a0.Height, .int .i64 a0.Bits, .int .i64 a0.Jobs, .int .i64 a0.Term, .int .i64 a0.Heads]) rfl Try.underlying23 rfl sz23 (Ctx.subI 0 C50 rfl) rfl) ?_
   refine WL.on rfl (congrArg Value.bool (Bool.eq_false_iff.2 hc51)) ?_
   obtain ⟨r53, hg52, hX42⟩ := bindE hX42
   refine WL.callH (juratref21_Right.calls k _ F a0 (Ctx.pre (qs := []) (rest := [CH.row g15 0 q1]) C50)  r53 hg52) (Yenter.fn Try.func22 (by kernel_rfl) rfl (argsE (.cons rfl .nil))) ?_
   rintro e_ w_ ⟨rfl, C54⟩
   refine ⟨_, rfl, ?_⟩
   have C55 : Ctx _ _ _ _ _ [CH.row g15 0 q1] := Ctx.call (qs := []) (rest := [CH.row g15 0 q1]) C50 C54
   refine WL.valOn rfl (congrArg Value.bool (Bool.eq_false_iff.2 hc51)) (Yl.not (p := r53) (q := !r53) rfl rfl) ?_
   refine WL.val (Yl.pickF (v := .bool (!r53)) (congrArg Value.bool (Bool.eq_false_iff.2 hc51)) rfl) ?_
   refine WL.done ?_
   cases hX42
   refine thenE_n ?_
   exact ⟨rfl, rfl, rfl, rfl, C55⟩
 ·rintro env_ w_ ⟨ho36, ho37, ho38, ho39, C41⟩
  rcases iteE H with ⟨hc56, H⟩ | ⟨hc56, H⟩
  ·refine W.condT (ho39.trans (congrArg Value.bool hc56)) ?_
   refine W.seq ?_
   refine W.region rfl ?_
   obtain ⟨r58, hg57, H⟩ := bindE H
   refine WL.callH (juratlaw21_awake.calls k _ F  (Ctx.pre (qs := []) (rest := [CH.row g15 0 q1]) C41)  r58 hg57) (Yenter.fn Try.func8 (by kernel_rfl) rfl (argsE .nil)) ?_
   rintro e_ w_ ⟨rfl, C59⟩
   refine ⟨_, rfl, ?_⟩
   have C60 : Ctx _ _ _ _ _ [CH.row g15 0 q1] := Ctx.call (qs := []) (rest := [CH.row g15 0 q1]) C41 C59
   refine WL.val (Yl.assign (v := .bool r58) rfl) ?_
   refine WL.done ?_
   refine W.ret ?_
   refine thenE_r ?_
   have C61 : Ctx _ _ _ _ _ [] := Ctx.pick [] C60 rfl
   have e62 := Option.some.inj H
   subst e62
   exact post_r (resE1 rfl rfl) ⟨rfl, C61⟩
  ·refine W.condF (ho39.trans (congrArg Value.bool (Bool.eq_false_iff.2 hc56))) ?_
   refine W.skip ?_
   refine W.seq ?_
   refine W.region rfl ?_
   refine WL.val (Yl.loadVA (g := g15) (off := 0) (o := 0) (cs := q1) (us := [.int .i64 a0.Faulty, .int .i64 a0.Workers, .int .i64 a0.Height, .int .i64 a0.Bits, .int .i64 a0.Jobs, .int .i64 a0.Term, .int .i64 a0.Heads]) ho38 Try.underlying23 rfl sz23 (Ctx.subI 0 C41 rfl) rfl) ?_
   obtain ⟨⟨r64, r65⟩, hg63, H⟩ := bindE H
   refine WL.callH (docket_New.calls k _ F a0 (Ctx.pre (qs := []) (rest := [CH.row g15 0 q1]) C41)  r64 r65 hg63) (Yenter.fn Try.func9 (by kernel_rfl) rfl (argsE (.cons rfl .nil))) ?_
   rintro e_ w_ ⟨A66, c67, n68, p70, A72, c73, n74, p76, A78, c79, n80, p82, A84, c85, n86, p88, rfl, C90, hn69, hR71, hn75, hR77, hn81, hR83, hn87, hR89⟩
   refine ⟨_, rfl, ?_⟩
   have C91 : Ctx _ _ _ _ _ [p70, p76, p82, p88, CH.row g15 0 q1] := Ctx.call (qs := []) (rest := [CH.row g15 0 q1]) C41 C90
   let q2 : List Go.Value := [.slice A66 n68 c67, .slice A72 n74 c73, .slice A78 n80 c79, .slice A84 n86 c85, .int .i64 r64.Heads]
   refine WL.val (Yl.move (v := .tuple #[(.agg (List.toArray q2)), (.int .i64 r65)]) rfl) ?_
   refine WL.val (Yl.extract (v := .agg (List.toArray q2)) rfl rfl) ?_
   refine WL.val (Yl.extract (v := .int .i64 r65) rfl rfl) ?_
   let q3 : List Go.Value := [.slice none 0 0, .slice none 0 0, .slice none 0 0, .slice none 0 0, .int .i64 0]
   obtain ⟨g92, w93, hy94, C95⟩ := ev_alloc (P := Try.prog) (e := 32) q3 C91 zr32 rfl
   refine WL.val (hy94 _ _) ?_
   obtain ⟨w96, hy97, C98⟩ := ev_setI (P := Try.prog) (ps1 := []) (ps2 := [p70, p76, p82, p88, CH.row g15 0 q1]) (t := 32) 0 q2 (.agg (List.toArray q2)) C95 rfl rfl (ones_of rfl) sz32
   have C99 : Ctx _ _ _ _ _ [CH.row g92 0 q2, p70, p76, p82, p88, CH.row g15 0 q1] := C98
   refine WL.skip (hy97 _ _ _ _ rfl rfl) ?_
   refine WL.val (Yl.assign (v := .int .i64 r65) rfl) ?_
   refine WL.done ?_
   refine W.seq ?_
   refine W.region rfl ?_
   refine WL.val (Yl.fieldAddr (i := 1) ho38 Try.underlying23 rfl sz3) ?_
   refine WL.val (Yl.loadV (g := g15) (off := 0) (o := 1) (cs := q1) (v := .int .i64 a0.Workers) rfl Try.underlying3 rfl (Ctx.subI 5 C99 rfl) rfl) ?_
   obtain ⟨hc100, H⟩ := guardE H
   obtain ⟨A101, c102, n103, p104, w105, hn106, hy107, C108, hR109⟩ := ev_make' (P := Try.prog) 4 Kd.bool C99 Try.underlying30 ti4 false rfl (by decide) a0.Workers hc100
   refine WL.val (hy107 _ _ _ _ _ _ rfl rfl) ?_
   refine WL.val (Yl.assign (v := .slice A101 n103 c102) rfl) ?_
   refine WL.done ?_
   refine W.seq ?_
   refine W.region rfl ?_
   refine WL.val (Yl.fieldAddr (i := 0) ho38 Try.underlying23 rfl sz3) ?_
   refine WL.val (Yl.loadV (g := g15) (off := 0) (o := 0) (cs := q1) (v := .int .i64 a0.Faulty) rfl Try.underlying3 rfl (Ctx.subI 6 C108 rfl) rfl) ?_
   refine WL.val (Yl.assign (v := .int .i64 a0.Faulty) rfl) ?_
   refine WL.done ?_
   refine W.seq ?_
   refine W.seq ?_
   refine W.region rfl ?_
   refine WL.val (Yl.assign (v := .int .i64 0) rfl) ?_
   refine WL.done ?_
   obtain ⟨x301, hX309, H⟩ := bindE H
   refine W.cutM (fun env_ w_ => ∃ (A302 : Option Addr) (c303 : Nat) (n304 : Nat) (p306 : CH), env_ 1 = .slice A1 n3 c2 ∧ env_ 3 = .pointer (some ⟨g15, 0, none⟩) ∧ env_ 7 = .pointer (some ⟨g92, 0, none⟩) ∧ env_ 9 = .slice A302 n304 c303 ∧ Ctx w F D w_ F [p306, CH.row g92 0 q2, p70, p76, p82, p88, CH.row g15 0 q1] ∧ n304 = x301.length ∧ Row Kd.bool F p306 (.slice A302 n304 c303) x301) ?_ ?_
   ·refine W.block ?_
    refine W.loop (fun g_ env_ w_ => ∃ (x378 : List Bool) (x386 : Int) (x388 : Int) (A379 : Option Addr) (c380 : Nat) (n381 : Nat) (p383 : CH), env_ 1 = .slice A1 n3 c2 ∧ env_ 2 = .slice A8 n10 c9 ∧ env_ 3 = .pointer (some ⟨g15, 0, none⟩) ∧ env_ 7 = .pointer (some ⟨g92, 0, none⟩) ∧ env_ 9 = .slice A379 n381 c380 ∧ env_ 10 = .int .i64 x386 ∧ env_ 11 = .int .i64 x388 ∧ Ctx w F D w_ F [p383, CH.row g92 0 q2, p70, p76, p82, p88, CH.row g15 0 q1] ∧ n381 = x378.length ∧ Row Kd.bool F p383 (.slice A379 n381 c380) x378 ∧ juratlaw21_DocketHonest.l1 g_ a0 a2 x378 x386 x388 = some x301) k ⟨(List.replicate a0.Workers.toNat (false : Bool)), a0.Faulty, 0, A101, c102, n103, p104, ho36, ho37, ho38, rfl, rfl, rfl, rfl, C108, hn106, hR109, hX309⟩ ?_
    clear hX309
    rintro g_ env_ w_ ⟨x378, x386, x388, A379, c380, n381, p383, ho373, ho374, ho375, ho376, ho377, ho385, ho387, C389, hn382, hR384, hX309⟩
    rcases g_ with _ | k443
    · exact absurd hX309 (by simp [juratlaw21_DocketHonest.l1])
    rw [juratlaw21_DocketHonest.l1] at hX309
    refine W.seq ?_
    refine W.seq ?_
    refine W.region rfl ?_
    refine WL.val (Yl.move (v := .int .i64 x388) ho387) ?_
    refine WL.val (Yl.fieldAddr (i := 1) ho375 Try.underlying23 rfl sz3) ?_
    refine WL.val (Yl.loadV (g := g15) (off := 0) (o := 1) (cs := q1) (v := .int .i64 a0.Workers) rfl Try.underlying3 rfl (Ctx.subI 6 C389 rfl) rfl) ?_
    refine WL.val (Yl.lss (m := x388) (n := a0.Workers) (q := decide (x388 < a0.Workers)) rfl rfl rfl) ?_
    refine WL.val (Yl.move (v := .bool (decide (x388 < a0.Workers))) rfl) ?_
    obtain ⟨g444, HE445, hX309⟩ := bindE hX309
    refine WL.cut (fun env_ w_ => env_ 45 = .bool g444 ∧ env_ 1 = .slice A1 n3 c2 ∧ env_ 2 = .slice A8 n10 c9 ∧ env_ 3 = .pointer (some ⟨g15, 0, none⟩) ∧ env_ 7 = .pointer (some ⟨g92, 0, none⟩) ∧ env_ 9 = .slice A379 n381 c380 ∧ env_ 10 = .int .i64 x386 ∧ env_ 11 = .int .i64 x388 ∧ Ctx w F D w_ F [p383, CH.row g92 0 q2, p70, p76, p82, p88, CH.row g15 0 q1]) ?_ ?_
    ·rcases iteE HE445 with ⟨hc446, HE445⟩ | ⟨hc446, HE445⟩
     ·refine WL.valOn rfl (congrArg Value.bool (decide_eq_true hc446)) (Yl.move (v := .int .i64 x388) ho387) ?_
      refine WL.valOn rfl (congrArg Value.bool (decide_eq_true hc446)) (Yl.move (v := .slice A8 n10 c9) ho374) ?_
      refine WL.valOn rfl (congrArg Value.bool (decide_eq_true hc446)) (Yl.lenN (A := A8) (l := n10) (q := c9) (n := (a2.length : Int)) rfl Try.underlying30 (by omega)) ?_
      refine WL.valOn rfl (congrArg Value.bool (decide_eq_true hc446)) (Yl.lss (m := x388) (n := (a2.length : Int)) (q := decide (x388 < (a2.length : Int))) rfl rfl rfl) ?_
      refine WL.val (Yl.pickT (v := .bool (decide (x388 < (a2.length : Int)))) (congrArg Value.bool (decide_eq_true hc446)) rfl) ?_
      cases HE445
      exact WL.done ⟨rfl, ho373, ho374, ho375, ho376, ho377, ho385, ho387, C389⟩
     ·refine WL.offs 4 40 true (congrArg Value.bool (decide_eq_false hc446)) rfl ?_
      refine WL.val (Yl.pickF (v := .bool false) (congrArg Value.bool (decide_eq_false hc446)) rfl) ?_
      cases HE445
      exact WL.done ⟨rfl, ho373, ho374, ho375, ho376, ho377, ho385, ho387, C389⟩
    ·rintro env_ w_ ⟨ho447, ho448, ho449, ho450, ho451, ho452, ho453, ho454, C455⟩
     rcases iteE hX309 with ⟨hc456, hX309⟩ | ⟨hc456, hX309⟩
     ·refine W.condT (ho447.trans (congrArg Value.bool hc456)) ?_
      refine W.skip ?_
      refine W.seq ?_
      refine W.block ?_
      refine W.seq ?_
      refine W.region rfl ?_
      refine WL.val (Yl.move (v := .slice A8 n10 c9) ho449) ?_
      refine WL.val (Yl.move (v := .int .i64 x388) ho454) ?_
      obtain ⟨hc465, hX309⟩ := guardE hX309
      obtain ⟨b466, of467, hA468, he469⟩ := hS14 (by omega)
      refine WL.val (Yl.elemAddr (i := x388) rfl rfl hA468 Try.underlying30 sz4 (by omega)) ?_
      obtain ⟨cs470, hr471, hx472⟩ := he469 x388.toNat _ (getD_some (d := false) (by omega))
      obtain rfl := hr471
      refine WL.val (Yl.load (v := .bool (a2.getD x388.toNat false)) rfl Try.underlying4 rfl (((C455.fro)).cell (hx472 0 _ rfl))) ?_
      refine WL.val (Yl.move (v := .bool (a2.getD x388.toNat false)) rfl) ?_
      refine WL.cut (fun env_ w_ => env_ 55 = .bool ((a2.getD x388.toNat false) && (decide (x386 > 0))) ∧ env_ 1 = .slice A1 n3 c2 ∧ env_ 2 = .slice A8 n10 c9 ∧ env_ 3 = .pointer (some ⟨g15, 0, none⟩) ∧ env_ 7 = .pointer (some ⟨g92, 0, none⟩) ∧ env_ 9 = .slice A379 n381 c380 ∧ env_ 10 = .int .i64 x386 ∧ env_ 11 = .int .i64 x388 ∧ Ctx w F D w_ F [p383, CH.row g92 0 q2, p70, p76, p82, p88, CH.row g15 0 q1]) ?_ ?_
      ·rcases Bool.eq_false_or_eq_true (a2.getD x388.toNat false) with hb473 | hb473
       ·refine WL.valOn rfl (congrArg Value.bool hb473) (Yl.move (v := .int .i64 x386) ho453) ?_
        refine WL.valOn rfl (congrArg Value.bool hb473) (Yl.gtr (m := x386) (n := 0) (q := decide (x386 > 0)) rfl rfl rfl) ?_
        refine WL.val (Yl.pickT (v := .bool (decide (x386 > 0))) (congrArg Value.bool hb473) rfl) ?_
        exact WL.done ⟨(congrArg Value.bool (show (decide (x386 > 0)) = ((a2.getD x388.toNat false) && (decide (x386 > 0))) from by simp [-List.getD_eq_getElem?_getD, hb473])), ho448, ho449, ho450, ho451, ho452, ho453, ho454, C455⟩
       ·refine WL.offs 2 52 true (congrArg Value.bool hb473) rfl ?_
        refine WL.val (Yl.pickF (v := .bool false) (congrArg Value.bool hb473) rfl) ?_
        exact WL.done ⟨(congrArg Value.bool (show false = ((a2.getD x388.toNat false) && (decide (x386 > 0))) from by simp [-List.getD_eq_getElem?_getD, hb473])), ho448, ho449, ho450, ho451, ho452, ho453, ho454, C455⟩
      ·rintro env_ w_ ⟨ho474, ho475, ho476, ho477, ho478, ho479, ho480, ho481, C482⟩
       rcases iteE hX309 with ⟨hc483, hX309⟩ | ⟨hc483, hX309⟩
       ·refine W.condT (ho474.trans (congrArg Value.bool hc483)) ?_
        refine W.seq ?_
        refine W.region rfl ?_
        refine WL.val (Yl.move (v := .slice A379 n381 c380) ho479) ?_
        refine WL.val (Yl.move (v := .int .i64 x388) ho481) ?_
        obtain ⟨hc484, hX309⟩ := guardE hX309
        obtain ⟨b485, of486, hA487, he488⟩ := (Row.sl hR384) (by omega)
        refine WL.val (Yl.elemAddr (i := x388) rfl rfl hA487 Try.underlying30 sz4 (by omega)) ?_
        have hj494 : x388.toNat < x378.length := by first | omega | (simp only [List.length_set, List.length_replicate] at *; omega)
        obtain ⟨p489, w490, hy491, C492, hR493⟩ := ev_store (P := Try.prog) (t := 4) Kd.bool [] [CH.row g92 0 q2, p70, p76, p82, p88, CH.row g15 0 q1] C482 hR384 hA487 x388.toNat 0 hj494 false (.bool true) ([.bool true]) rfl (ones_of rfl) (Nat.le_of_ble_eq_true rfl) sz4 (true) (fun _ h_ => rep_whole h_ rfl) ⟨b485, of486 + x388.toNat * 1, none⟩ rfl
        have hn495 : n381 = (x378.set x388.toNat true).length := by rw [List.length_set]; omega
        have C496 : Ctx _ _ _ _ _ [p489, CH.row g92 0 q2, p70, p76, p82, p88, CH.row g15 0 q1] := C492
        refine WL.skip (hy491 _ _ _ _ rfl rfl) ?_
        refine WL.done ?_
        refine W.region rfl ?_
        refine WL.val (Yl.move (v := .int .i64 x386) ho480) ?_
        refine WL.val (Yl.sub (m := x386) (n := 1) (r := wi64 (x386 - 1)) rfl rfl rfl) ?_
        refine WL.val (Yl.assign (v := .int .i64 (wi64 (x386 - 1))) rfl) ?_
        refine WL.done ?_
        refine inB_n ?_
        refine W.region rfl ?_
        refine WL.val (Yl.move (v := .int .i64 x388) ho481) ?_
        refine WL.val (Yl.add (m := x388) (n := 1) (r := wi64 (x388 + 1)) rfl rfl rfl) ?_
        refine WL.val (Yl.assign (v := .int .i64 (wi64 (x388 + 1))) rfl) ?_
        refine WL.done ?_
        exact thenE_n ⟨k443, Nat.lt_succ_self _, x378.set x388.toNat true, wi64 (x386 - 1), wi64 (x388 + 1), A379, c380, n381, p489, ho475, ho476, ho477, ho478, ho479, rfl, rfl, C496, hn495, hR493, hX309⟩
       ·refine W.condF (ho474.trans (congrArg Value.bool (Bool.eq_false_iff.2 hc483))) ?_
        refine W.skip ?_
        refine inB_n ?_
        refine W.region rfl ?_
        refine WL.val (Yl.move (v := .int .i64 x388) ho481) ?_
        refine WL.val (Yl.add (m := x388) (n := 1) (r := wi64 (x388 + 1)) rfl rfl rfl) ?_
        refine WL.val (Yl.assign (v := .int .i64 (wi64 (x388 + 1))) rfl) ?_
        refine WL.done ?_
        exact thenE_n ⟨k443, Nat.lt_succ_self _, x378, x386, wi64 (x388 + 1), A379, c380, n381, p383, ho475, ho476, ho477, ho478, ho479, ho480, rfl, C482, hn382, hR384, hX309⟩
     ·refine W.condF (ho447.trans (congrArg Value.bool (Bool.eq_false_iff.2 hc456))) ?_
      refine W.exit ?_
      refine thenE_x ?_
      refine thenE_x ?_
      refine inB_here ?_
      cases hX309
      refine thenE_n ?_
      exact ⟨A379, c380, n381, p383, ho448, ho450, ho451, ho452, C455, hn382, hR384⟩
   ·rintro env_ w_ ⟨A302, c303, n304, p306, ho297, ho298, ho299, ho300, C308, hn305, hR307⟩
    refine W.seq ?_
    refine W.seq ?_
    refine W.region rfl ?_
    refine WL.val (Yl.assign (v := .int .i64 0) rfl) ?_
    refine WL.done ?_
    obtain ⟨x1474, hX1504, H⟩ := bindE H
    refine W.cutM (fun env_ w_ => ∃ (F1469 : CH) (A1475 : Option Addr) (c1476 : Nat) (n1477 : Nat) (A1482 : Option Addr) (c1483 : Nat) (n1484 : Nat) (A1489 : Option Addr) (c1490 : Nat) (n1491 : Nat) (A1496 : Option Addr) (c1497 : Nat) (n1498 : Nat), env_ 3 = .pointer (some ⟨g15, 0, none⟩) ∧ env_ 7 = .pointer (some ⟨g92, 0, none⟩) ∧ env_ 9 = .slice A302 n304 c303 ∧ Ctx w F D w_ F1469 [CH.row g92 0 [.slice A1475 n1477 c1476, .slice A1482 n1484 c1483, .slice A1489 n1491 c1490, .slice A1496 n1498 c1497, .int .i64 x1474.Heads], p306, CH.row g15 0 q1] ∧ CH.le F F1469 ∧ n1477 = x1474.Eras.length ∧ x1474.Eras.length ≤ c1476 ∧ c1476 ≤ maxLen ∧ Sl TEra.K F1469 F1469 A1475 x1474.Eras ∧ n1484 = x1474.Jobs.length ∧ x1474.Jobs.length ≤ c1483 ∧ c1483 ≤ maxLen ∧ Sl TJob.K F1469 F1469 A1482 x1474.Jobs ∧ n1491 = x1474.Used.length ∧ x1474.Used.length ≤ c1490 ∧ c1490 ≤ maxLen ∧ Sl (Kd.int .i64) F1469 F1469 A1489 x1474.Used ∧ n1498 = x1474.Barred.length ∧ x1474.Barred.length ≤ c1497 ∧ c1497 ≤ maxLen ∧ Sl Kd.bool F1469 F1469 A1496 x1474.Barred) ?_ ?_
    ·refine W.block ?_
     obtain ⟨F2129, le2130, lp2131, (C2132 : Ctx _ _ _ _ _ [p306, CH.row g92 0 q2, p76, p82, p88, CH.row g15 0 q1])⟩ := Ctx.fzI 2 C308 rfl
     obtain ⟨hl2133, hm2134, hS2135⟩ := Row.fz hR71 le2130 lp2131
     have hR2136 := Row.mono hR307 le2130
     have hR2137 := Row.mono hR77 le2130
     have hR2138 := Row.mono hR83 le2130
     have hR2139 := Row.mono hR89 le2130
     obtain ⟨F2140, le2141, lp2142, (C2143 : Ctx _ _ _ _ _ [p306, CH.row g92 0 q2, p82, p88, CH.row g15 0 q1])⟩ := Ctx.fzI 2 C2132 rfl
     obtain ⟨hl2144, hm2145, hS2146⟩ := Row.fz hR2137 le2141 lp2142
     have hR2147 := Row.mono hR2136 le2141
     have hR2148 := Row.mono hR2138 le2141
     have hR2149 := Row.mono hR2139 le2141
     obtain ⟨F2150, le2151, lp2152, (C2153 : Ctx _ _ _ _ _ [p306, CH.row g92 0 q2, p88, CH.row g15 0 q1])⟩ := Ctx.fzI 2 C2143 rfl
     obtain ⟨hl2154, hm2155, hS2156⟩ := Row.fz hR2148 le2151 lp2152
     have hR2157 := Row.mono hR2147 le2151
     have hR2158 := Row.mono hR2149 le2151
     obtain ⟨F2159, le2160, lp2161, (C2162 : Ctx _ _ _ _ _ [p306, CH.row g92 0 q2, CH.row g15 0 q1])⟩ := Ctx.fzI 2 C2153 rfl
     obtain ⟨hl2163, hm2164, hS2165⟩ := Row.fz hR2158 le2160 lp2161
     have hR2166 := Row.mono hR2157 le2160
     have C2167 : Ctx _ _ _ _ _ [CH.row g92 0 q2, p306, CH.row g15 0 q1] := Ctx.pick [1, 0, 2] C2162 rfl
     refine W.loop (fun g_ env_ w_ => ∃ (x1829 : Int) (x1830 : TState) (F1822 : CH) (A1831 : Option Addr) (c1832 : Nat) (n1833 : Nat) (A1838 : Option Addr) (c1839 : Nat) (n1840 : Nat) (A1845 : Option Addr) (c1846 : Nat) (n1847 : Nat) (A1852 : Option Addr) (c1853 : Nat) (n1854 : Nat), env_ 1 = .slice A1 n3 c2 ∧ env_ 3 = .pointer (some ⟨g15, 0, none⟩) ∧ env_ 7 = .pointer (some ⟨g92, 0, none⟩) ∧ env_ 9 = .slice A302 n304 c303 ∧ env_ 12 = .int .i64 x1829 ∧ Ctx w F D w_ F1822 [CH.row g92 0 [.slice A1831 n1833 c1832, .slice A1838 n1840 c1839, .slice A1845 n1847 c1846, .slice A1852 n1854 c1853, .int .i64 x1830.Heads], p306, CH.row g15 0 q1] ∧ CH.le F F1822 ∧ n1833 = x1830.Eras.length ∧ x1830.Eras.length ≤ c1832 ∧ c1832 ≤ maxLen ∧ Sl TEra.K F1822 F1822 A1831 x1830.Eras ∧ n1840 = x1830.Jobs.length ∧ x1830.Jobs.length ≤ c1839 ∧ c1839 ≤ maxLen ∧ Sl TJob.K F1822 F1822 A1838 x1830.Jobs ∧ n1847 = x1830.Used.length ∧ x1830.Used.length ≤ c1846 ∧ c1846 ≤ maxLen ∧ Sl (Kd.int .i64) F1822 F1822 A1845 x1830.Used ∧ n1854 = x1830.Barred.length ∧ x1830.Barred.length ≤ c1853 ∧ c1853 ≤ maxLen ∧ Sl Kd.bool F1822 F1822 A1852 x1830.Barred ∧ juratlaw21_DocketHonest.l2 g_ a0 a1 x301 x1829 x1830 = some x1474) k ⟨0, r64, F2159, A66, c67, n68, A72, c73, n74, A78, c79, n80, A84, c85, n86, ho297, ho298, ho299, ho300, rfl, C2167, (CH.le_trans le2130 (CH.le_trans le2141 (CH.le_trans le2151 le2160))), hn69, hl2133, hm2134, (Sl.mono hS2135 (CH.le_trans le2141 (CH.le_trans le2151 le2160)) (CH.le_trans le2141 (CH.le_trans le2151 le2160))), hn75, hl2144, hm2145, (Sl.mono hS2146 (CH.le_trans le2151 le2160) (CH.le_trans le2151 le2160)), hn81, hl2154, hm2155, (Sl.mono hS2156 le2160 le2160), hn87, hl2163, hm2164, hS2165, hX1504⟩ ?_
     clear hX1504
     rintro g_ env_ w_ ⟨x1829, x1830, F1822, A1831, c1832, n1833, A1838, c1839, n1840, A1845, c1846, n1847, A1852, c1853, n1854, ho1824, ho1825, ho1826, ho1827, ho1828, C1859, le1823, hn1834, hl1835, hm1836, hS1837, hn1841, hl1842, hm1843, hS1844, hn1848, hl1849, hm1850, hS1851, hn1855, hl1856, hm1857, hS1858, hX1504⟩
     rcases g_ with _ | k2128
     · exact absurd hX1504 (by simp [juratlaw21_DocketHonest.l2])
     rw [juratlaw21_DocketHonest.l2] at hX1504
     have hR2168 := Row.mono hR307 le1823
     refine W.seq ?_
     refine W.seq ?_
     refine W.region rfl ?_
     refine WL.val (Yl.move (v := .int .i64 x1829) ho1828) ?_
     refine WL.val (Yl.move (v := .slice A1 n3 c2) ho1824) ?_
     refine WL.val (Yl.lenN (A := A1) (l := n3) (q := c2) (n := (a1.length : Int)) rfl Try.underlying24 (by omega)) ?_
     refine WL.val (Yl.lss (m := x1829) (n := (a1.length : Int)) (q := decide (x1829 < (a1.length : Int))) rfl rfl rfl) ?_
     refine WL.done ?_
     rcases iteE hX1504 with ⟨hc2169, hX1504⟩ | ⟨hc2169, hX1504⟩
     ·refine W.condT (congrArg Value.bool (decide_eq_true hc2169)) ?_
      refine W.skip ?_
      refine W.seq ?_
      refine W.block ?_
      refine W.seq ?_
      refine W.region rfl ?_
      refine WL.val (Yl.move (v := .slice A1 n3 c2) ho1824) ?_
      refine WL.val (Yl.move (v := .int .i64 x1829) ho1828) ?_
      obtain ⟨hc2170, hX1504⟩ := guardE hX1504
      obtain ⟨b2171, of2172, hA2173, he2174⟩ := hS7 (by omega)
      refine WL.val (Yl.elemAddr (i := x1829) rfl rfl hA2173 Try.underlying24 sz46 (by omega)) ?_
      obtain ⟨cs2175, hr2176, hx2177⟩ := he2174 x1829.toNat _ (getD_some (d := TRecord.z) (by omega))
      obtain ⟨A2179, c2180, n2181, rfl, ha2178, hn2182, hl2183, hm2184, hS2185⟩ := TRecord.open hr2176
      refine WL.val (Yl.loadAgg (cs := [.int .i64 ((a1.getD x1829.toNat TRecord.z).Kind), .int .i64 ((a1.getD x1829.toNat TRecord.z).Epoch)] ++ (((a1.getD x1829.toNat TRecord.z).Nonce).map (Value.int .u8) ++ [.slice A2179 n2181 c2180, .int .i64 ((a1.getD x1829.toNat TRecord.z).Job), .int .i64 ((a1.getD x1829.toNat TRecord.z).Time), .int .i64 ((a1.getD x1829.toNat TRecord.z).By)])) rfl Try.underlying46 rfl (sz_of sz46 (by first | (simp only [List.length_append, List.length_map, List.length_cons, List.length_nil, ha2178]; done) | simp [ha2178])) (fun j u hu => by rw [add_of]; exact ((C1859.fro.mono le1823)).cell (hx2177 _ _ hu))) ?_
      obtain ⟨r2187, hg2186, hX1504⟩ := bindE hX1504
      let q4 : List Go.Value := [.slice A1831 n1833 c1832, .slice A1838 n1840 c1839, .slice A1845 n1847 c1846, .slice A1852 n1854 c1853, .int .i64 x1830.Heads]
      refine WL.callH (juratlaw21_own.calls k2128 _ F1822 A2179 c2180 n2181 (a1.getD x1829.toNat TRecord.z) (Ctx.pre (qs := []) (rest := [CH.row g92 0 q4, p306, CH.row g15 0 q1]) C1859) ha2178 hn2182 hl2183 hm2184 (Sl.mono hS2185 le1823 le1823) r2187 hg2186) (Yenter.fn Try.func15 (by kernel_rfl) rfl (argsE (.cons rfl .nil))) ?_
      rintro e_ w_ ⟨A2189, c2190, n2191, p2193, rfl, C2195, ha2188, hn2192, hR2194⟩
      refine ⟨_, rfl, ?_⟩
      have C2196 : Ctx _ _ _ _ _ [p2193, CH.row g92 0 q4, p306, CH.row g15 0 q1] := Ctx.call (qs := []) (rest := [CH.row g92 0 q4, p306, CH.row g15 0 q1]) C1859 C2195
      obtain ⟨g2197, w2198, hy2199, C2200⟩ := ev_alloc (P := Try.prog) (e := 46) ([.int .i64 0, .int .i64 0] ++ ((List.replicate 32 (0 : Int)).map (Value.int .u8) ++ [.slice none 0 0, .int .i64 0, .int .i64 0, .int .i64 0])) C2196 zr46 rfl
      refine WL.val (hy2199 _ _) ?_
      obtain ⟨w2201, hy2202, C2203⟩ := ev_set (P := Try.prog) (ps1 := []) (ps2 := [p2193, CH.row g92 0 [.slice A1831 n1833 c1832, .slice A1838 n1840 c1839, .slice A1845 n1847 c1846, .slice A1852 n1854 c1853, .int .i64 x1830.Heads], p306, CH.row g15 0 [.int .i64 a0.Faulty, .int .i64 a0.Workers, .int .i64 a0.Height, .int .i64 a0.Bits, .int .i64 a0.Jobs, .int .i64 a0.Term, .int .i64 a0.Heads]]) (t := 46) (o := 0) ([.int .i64 0, .int .i64 0] ++ ((List.replicate 32 (0 : Int)).map (Value.int .u8) ++ [.slice none 0 0, .int .i64 0, .int .i64 0, .int .i64 0])) [] ([.int .i64 0, .int .i64 0] ++ ((List.replicate 32 (0 : Int)).map (Value.int .u8) ++ [.slice none 0 0, .int .i64 0, .int .i64 0, .int .i64 0])) [] ([.int .i64 r2187.Kind, .int .i64 r2187.Epoch] ++ (r2187.Nonce.map (Value.int .u8) ++ [.slice A2189 n2191 c2190, .int .i64 r2187.Job, .int .i64 r2187.Time, .int .i64 r2187.By])) (.agg (List.toArray ([.int .i64 r2187.Kind, .int .i64 r2187.Epoch] ++ (r2187.Nonce.map (Value.int .u8) ++ [.slice A2189 n2191 c2190, .int .i64 r2187.Job, .int .i64 r2187.Time, .int .i64 r2187.By])))) C2200 (by first | (simp only [List.length_append, List.length_map, List.length_cons, List.length_nil, (List.length_replicate ..), ha2188]; done) | simp [(List.length_replicate ..), ha2188]) (by first | (simp only [List.length_append, List.length_map, List.length_cons, List.length_nil, (List.length_replicate ..), ha2188]; done) | simp [(List.length_replicate ..), ha2188]) (by first | (simp only [List.length_append, List.length_map, List.length_cons, List.length_nil, (List.length_replicate ..), ha2188]; done) | simp [(List.length_replicate ..), ha2188]) rfl (ones_append (ones_of rfl) (ones_append (one_ints _ _) (ones_of rfl))) (sz_of sz46 (by first | (simp only [List.length_append, List.length_map, List.length_cons, List.length_nil, ha2188]; done) | simp [ha2188]))
      have C2204 : Ctx _ _ _ _ _ [CH.row g2197 0 ([.int .i64 r2187.Kind, .int .i64 r2187.Epoch] ++ (r2187.Nonce.map (Value.int .u8) ++ [.slice A2189 n2191 c2190, .int .i64 r2187.Job, .int .i64 r2187.Time, .int .i64 r2187.By])), p2193, CH.row g92 0 q4, p306, CH.row g15 0 q1] := (by simpa using C2203)
      refine WL.skip (hy2202 _ _ _ _ rfl rfl) ?_
      refine WL.done ?_
      refine W.seq ?_
      obtain ⟨x2292, hX2301, hX1504⟩ := bindE hX1504
      refine W.cutM (fun env_ w_ => ∃ (A2294 : Option Addr) (c2295 : Nat) (n2296 : Nat) (p2298 : CH), env_ 1 = .slice A1 n3 c2 ∧ env_ 3 = .pointer (some ⟨g15, 0, none⟩) ∧ env_ 7 = .pointer (some ⟨g92, 0, none⟩) ∧ env_ 9 = .slice A302 n304 c303 ∧ env_ 12 = .int .i64 x1829 ∧ env_ 13 = .pointer (some ⟨g2197, 0, none⟩) ∧ Ctx w F D w_ F1822 [CH.row g2197 0 ([.int .i64 x2292.Kind, .int .i64 x2292.Epoch] ++ (x2292.Nonce.map (Value.int .u8) ++ [.slice A2294 n2296 c2295, .int .i64 x2292.Job, .int .i64 x2292.Time, .int .i64 x2292.By])), p2298, CH.row g92 0 q4, p306, CH.row g15 0 q1] ∧ x2292.Nonce.length = 32 ∧ n2296 = x2292.Data.length ∧ Row (Kd.int .u8) F1822 p2298 (.slice A2294 n2296 c2295) x2292.Data) ?_ ?_
      ·refine W.seq ?_
       refine W.region rfl ?_
       refine WL.val (Yl.fieldAddr (i := 0) rfl Try.underlying46 rfl sz3) ?_
       refine WL.val (Yl.loadV (g := g2197) (off := 0) (o := 0) (cs := [.int .i64 r2187.Kind, .int .i64 r2187.Epoch] ++ (r2187.Nonce.map (Value.int .u8) ++ [.slice A2189 n2191 c2190, .int .i64 r2187.Job, .int .i64 r2187.Time, .int .i64 r2187.By])) (v := .int .i64 r2187.Kind) rfl Try.underlying3 rfl (Ctx.subI 0 C2204 rfl) (by simp [List.getElem?_append, ha2188])) ?_
       refine WL.val (Yl.eql (m := r2187.Kind) (n := 4) (q := decide (r2187.Kind = 4)) rfl rfl rfl) ?_
       refine WL.val (Yl.move (v := .bool (decide (r2187.Kind = 4))) rfl) ?_
       obtain ⟨g2302, HE2303, hX2301⟩ := bindE hX2301
       refine WL.cut (fun env_ w_ => env_ 107 = .bool g2302 ∧ env_ 1 = .slice A1 n3 c2 ∧ env_ 3 = .pointer (some ⟨g15, 0, none⟩) ∧ env_ 7 = .pointer (some ⟨g92, 0, none⟩) ∧ env_ 9 = .slice A302 n304 c303 ∧ env_ 12 = .int .i64 x1829 ∧ env_ 13 = .pointer (some ⟨g2197, 0, none⟩) ∧ Ctx w F D w_ F1822 [CH.row g2197 0 ([.int .i64 r2187.Kind, .int .i64 r2187.Epoch] ++ (r2187.Nonce.map (Value.int .u8) ++ [.slice A2189 n2191 c2190, .int .i64 r2187.Job, .int .i64 r2187.Time, .int .i64 r2187.By])), p2193, CH.row g92 0 q4, p306, CH.row g15 0 q1]) ?_ ?_
       ·rcases iteE HE2303 with ⟨hc2304, HE2303⟩ | ⟨hc2304, HE2303⟩
        ·refine WL.valOn rfl (congrArg Value.bool (decide_eq_true hc2304)) (Yl.fieldAddr (i := 6) rfl Try.underlying46 rfl sz3) ?_
         refine WL.valOn rfl (congrArg Value.bool (decide_eq_true hc2304)) (Yl.loadV (g := g2197) (off := 0) (o := 37) (cs := [.int .i64 r2187.Kind, .int .i64 r2187.Epoch] ++ (r2187.Nonce.map (Value.int .u8) ++ [.slice A2189 n2191 c2190, .int .i64 r2187.Job, .int .i64 r2187.Time, .int .i64 r2187.By])) (v := .int .i64 r2187.By) rfl Try.underlying3 rfl (Ctx.subI 0 C2204 rfl) (by simp [List.getElem?_append, ha2188])) ?_
         refine WL.valOn rfl (congrArg Value.bool (decide_eq_true hc2304)) (Yl.geq (m := r2187.By) (n := 0) (q := decide (r2187.By ≥ 0)) rfl rfl rfl) ?_
         refine WL.val (Yl.pickT (v := .bool (decide (r2187.By ≥ 0))) (congrArg Value.bool (decide_eq_true hc2304)) rfl) ?_
         refine WL.val (Yl.move (v := .bool (decide (r2187.By ≥ 0))) rfl) ?_
         rcases iteE HE2303 with ⟨hc2305, HE2303⟩ | ⟨hc2305, HE2303⟩
         ·refine WL.valOn rfl (congrArg Value.bool (decide_eq_true hc2305)) (Yl.fieldAddr (i := 6) rfl Try.underlying46 rfl sz3) ?_
          refine WL.valOn rfl (congrArg Value.bool (decide_eq_true hc2305)) (Yl.loadV (g := g2197) (off := 0) (o := 37) (cs := [.int .i64 r2187.Kind, .int .i64 r2187.Epoch] ++ (r2187.Nonce.map (Value.int .u8) ++ [.slice A2189 n2191 c2190, .int .i64 r2187.Job, .int .i64 r2187.Time, .int .i64 r2187.By])) (v := .int .i64 r2187.By) rfl Try.underlying3 rfl (Ctx.subI 0 C2204 rfl) (by simp [List.getElem?_append, ha2188])) ?_
          refine WL.valOn rfl (congrArg Value.bool (decide_eq_true hc2305)) (Yl.fieldAddr (i := 1) ho1825 Try.underlying23 rfl sz3) ?_
          refine WL.valOn rfl (congrArg Value.bool (decide_eq_true hc2305)) (Yl.loadV (g := g15) (off := 0) (o := 1) (cs := q1) (v := .int .i64 a0.Workers) rfl Try.underlying3 rfl (Ctx.subI 4 C2204 rfl) rfl) ?_
          refine WL.valOn rfl (congrArg Value.bool (decide_eq_true hc2305)) (Yl.lss (m := r2187.By) (n := a0.Workers) (q := decide (r2187.By < a0.Workers)) rfl rfl rfl) ?_
          refine WL.val (Yl.pickT (v := .bool (decide (r2187.By < a0.Workers))) (congrArg Value.bool (decide_eq_true hc2305)) rfl) ?_
          refine WL.val (Yl.move (v := .bool (decide (r2187.By < a0.Workers))) rfl) ?_
          rcases iteE HE2303 with ⟨hc2306, HE2303⟩ | ⟨hc2306, HE2303⟩
          ·refine WL.valOn rfl (congrArg Value.bool (decide_eq_true hc2306)) (Yl.move (v := .slice A302 n304 c303) ho1827) ?_
           refine WL.valOn rfl (congrArg Value.bool (decide_eq_true hc2306)) (Yl.fieldAddr (i := 6) rfl Try.underlying46 rfl sz3) ?_
           refine WL.valOn rfl (congrArg Value.bool (decide_eq_true hc2306)) (Yl.loadV (g := g2197) (off := 0) (o := 37) (cs := [.int .i64 r2187.Kind, .int .i64 r2187.Epoch] ++ (r2187.Nonce.map (Value.int .u8) ++ [.slice A2189 n2191 c2190, .int .i64 r2187.Job, .int .i64 r2187.Time, .int .i64 r2187.By])) (v := .int .i64 r2187.By) rfl Try.underlying3 rfl (Ctx.subI 0 C2204 rfl) (by simp [List.getElem?_append, ha2188])) ?_
           obtain ⟨hc2307, HE2303⟩ := guardE HE2303
           obtain ⟨b2308, of2309, hA2310, he2311⟩ := (Row.sl hR2168) (by omega)
           refine WL.valOn rfl (congrArg Value.bool (decide_eq_true hc2306)) (Yl.elemAddr (i := r2187.By) rfl rfl hA2310 Try.underlying30 sz4 (by omega)) ?_
           obtain ⟨cs2312, hr2313, hx2314⟩ := he2311 r2187.By.toNat _ (getD_some (d := false) (by omega))
           obtain rfl := hr2313
           refine WL.valOn rfl (congrArg Value.bool (decide_eq_true hc2306)) (Yl.load (v := .bool (x301.getD r2187.By.toNat false)) rfl Try.underlying4 rfl (((Ctx.subI 3 C2204 rfl)).cell (hx2314 0 _ rfl))) ?_
           refine WL.valOn rfl (congrArg Value.bool (decide_eq_true hc2306)) (Yl.not (p := x301.getD r2187.By.toNat false) (q := !(x301.getD r2187.By.toNat false)) rfl rfl) ?_
           refine WL.val (Yl.pickT (v := .bool (!(x301.getD r2187.By.toNat false))) (congrArg Value.bool (decide_eq_true hc2306)) rfl) ?_
           refine WL.val (Yl.move (v := .bool (!(x301.getD r2187.By.toNat false))) rfl) ?_
           rcases iteE HE2303 with ⟨hc2315, HE2303⟩ | ⟨hc2315, HE2303⟩
           ·refine WL.offs 3 95 true (congrArg Value.bool (nb_t hc2315)) rfl ?_
            refine WL.val (Yl.pickF (v := .bool false) (congrArg Value.bool (nb_t hc2315)) rfl) ?_
            refine WL.val (Yl.move (v := .bool false) rfl) ?_
            refine WL.offs 6 100 true rfl rfl ?_
            refine WL.val (Yl.pickF (v := .bool false) rfl rfl) ?_
            cases HE2303
            exact WL.done ⟨rfl, ho1824, ho1825, ho1826, ho1827, ho1828, rfl, C2204⟩
           ·refine WL.valOn rfl (congrArg Value.bool (nb_f hc2315)) (Yl.fieldAddr (i := 4) rfl Try.underlying46 rfl sz3) ?_
            refine WL.valOn rfl (congrArg Value.bool (nb_f hc2315)) (Yl.loadV (g := g2197) (off := 0) (o := 35) (cs := [.int .i64 r2187.Kind, .int .i64 r2187.Epoch] ++ (r2187.Nonce.map (Value.int .u8) ++ [.slice A2189 n2191 c2190, .int .i64 r2187.Job, .int .i64 r2187.Time, .int .i64 r2187.By])) (v := .int .i64 r2187.Job) rfl Try.underlying3 rfl (Ctx.subI 0 C2204 rfl) (by simp [List.getElem?_append, ha2188])) ?_
            refine WL.valOn rfl (congrArg Value.bool (nb_f hc2315)) (Yl.geq (m := r2187.Job) (n := 1) (q := decide (r2187.Job ≥ 1)) rfl rfl rfl) ?_
            refine WL.val (Yl.pickT (v := .bool (decide (r2187.Job ≥ 1))) (congrArg Value.bool (nb_f hc2315)) rfl) ?_
            refine WL.val (Yl.move (v := .bool (decide (r2187.Job ≥ 1))) rfl) ?_
            rcases iteE HE2303 with ⟨hc2316, HE2303⟩ | ⟨hc2316, HE2303⟩
            ·refine WL.valOn rfl (congrArg Value.bool (decide_eq_true hc2316)) (Yl.fieldAddr (i := 4) rfl Try.underlying46 rfl sz3) ?_
             refine WL.valOn rfl (congrArg Value.bool (decide_eq_true hc2316)) (Yl.loadV (g := g2197) (off := 0) (o := 35) (cs := [.int .i64 r2187.Kind, .int .i64 r2187.Epoch] ++ (r2187.Nonce.map (Value.int .u8) ++ [.slice A2189 n2191 c2190, .int .i64 r2187.Job, .int .i64 r2187.Time, .int .i64 r2187.By])) (v := .int .i64 r2187.Job) rfl Try.underlying3 rfl (Ctx.subI 0 C2204 rfl) (by simp [List.getElem?_append, ha2188])) ?_
             refine WL.valOn rfl (congrArg Value.bool (decide_eq_true hc2316)) (Yl.fieldAddr (i := 1) ho1826 Try.underlying32 rfl sz28) ?_
             refine WL.valOn rfl (congrArg Value.bool (decide_eq_true hc2316)) (Yl.loadV (g := g92) (off := 0) (o := 1) (cs := q4) (v := .slice A1838 n1840 c1839) rfl Try.underlying28 rfl (Ctx.subI 2 C2204 rfl) rfl) ?_
             refine WL.valOn rfl (congrArg Value.bool (decide_eq_true hc2316)) (Yl.lenN (A := A1838) (l := n1840) (q := c1839) (n := (x1830.Jobs.length : Int)) rfl Try.underlying28 (by omega)) ?_
             refine WL.valOn rfl (congrArg Value.bool (decide_eq_true hc2316)) (Yl.leq (m := r2187.Job) (n := (x1830.Jobs.length : Int)) (q := decide (r2187.Job ≤ (x1830.Jobs.length : Int))) rfl rfl rfl) ?_
             refine WL.val (Yl.pickT (v := .bool (decide (r2187.Job ≤ (x1830.Jobs.length : Int)))) (congrArg Value.bool (decide_eq_true hc2316)) rfl) ?_
             cases HE2303
             exact WL.done ⟨rfl, ho1824, ho1825, ho1826, ho1827, ho1828, rfl, C2204⟩
            ·refine WL.offs 6 100 true (congrArg Value.bool (decide_eq_false hc2316)) rfl ?_
             refine WL.val (Yl.pickF (v := .bool false) (congrArg Value.bool (decide_eq_false hc2316)) rfl) ?_
             cases HE2303
             exact WL.done ⟨rfl, ho1824, ho1825, ho1826, ho1827, ho1828, rfl, C2204⟩
          ·refine WL.offs 6 87 true (congrArg Value.bool (decide_eq_false hc2306)) rfl ?_
           refine WL.val (Yl.pickF (v := .bool false) (congrArg Value.bool (decide_eq_false hc2306)) rfl) ?_
           refine WL.val (Yl.move (v := .bool false) rfl) ?_
           refine WL.offs 3 95 true rfl rfl ?_
           refine WL.val (Yl.pickF (v := .bool false) rfl rfl) ?_
           refine WL.val (Yl.move (v := .bool false) rfl) ?_
           refine WL.offs 6 100 true rfl rfl ?_
           refine WL.val (Yl.pickF (v := .bool false) rfl rfl) ?_
           cases HE2303
           exact WL.done ⟨rfl, ho1824, ho1825, ho1826, ho1827, ho1828, rfl, C2204⟩
         ·refine WL.offs 5 80 true (congrArg Value.bool (decide_eq_false hc2305)) rfl ?_
          refine WL.val (Yl.pickF (v := .bool false) (congrArg Value.bool (decide_eq_false hc2305)) rfl) ?_
          refine WL.val (Yl.move (v := .bool false) rfl) ?_
          refine WL.offs 6 87 true rfl rfl ?_
          refine WL.val (Yl.pickF (v := .bool false) rfl rfl) ?_
          refine WL.val (Yl.move (v := .bool false) rfl) ?_
          refine WL.offs 3 95 true rfl rfl ?_
          refine WL.val (Yl.pickF (v := .bool false) rfl rfl) ?_
          refine WL.val (Yl.move (v := .bool false) rfl) ?_
          refine WL.offs 6 100 true rfl rfl ?_
          refine WL.val (Yl.pickF (v := .bool false) rfl rfl) ?_
          cases HE2303
          exact WL.done ⟨rfl, ho1824, ho1825, ho1826, ho1827, ho1828, rfl, C2204⟩
        ·refine WL.offs 3 75 true (congrArg Value.bool (decide_eq_false hc2304)) rfl ?_
         refine WL.val (Yl.pickF (v := .bool false) (congrArg Value.bool (decide_eq_false hc2304)) rfl) ?_
         refine WL.val (Yl.move (v := .bool false) rfl) ?_
         refine WL.offs 5 80 true rfl rfl ?_
         refine WL.val (Yl.pickF (v := .bool false) rfl rfl) ?_
         refine WL.val (Yl.move (v := .bool false) rfl) ?_
         refine WL.offs 6 87 true rfl rfl ?_
         refine WL.val (Yl.pickF (v := .bool false) rfl rfl) ?_
         refine WL.val (Yl.move (v := .bool false) rfl) ?_
         refine WL.offs 3 95 true rfl rfl ?_
         refine WL.val (Yl.pickF (v := .bool false) rfl rfl) ?_
         refine WL.val (Yl.move (v := .bool false) rfl) ?_
         refine WL.offs 6 100 true rfl rfl ?_
         refine WL.val (Yl.pickF (v := .bool false) rfl rfl) ?_
         cases HE2303
         exact WL.done ⟨rfl, ho1824, ho1825, ho1826, ho1827, ho1828, rfl, C2204⟩
       ·rintro env_ w_ ⟨ho2317, ho2318, ho2319, ho2320, ho2321, ho2322, ho2323, C2324⟩
        rcases iteE hX2301 with ⟨hc2325, hX2301⟩ | ⟨hc2325, hX2301⟩
        ·refine W.condT (ho2317.trans (congrArg Value.bool hc2325)) ?_
         refine W.region rfl ?_
         refine WL.val (Yl.fieldAddr (i := 1) ho2320 Try.underlying32 rfl sz28) ?_
         refine WL.val (Yl.loadV (g := g92) (off := 0) (o := 1) (cs := q4) (v := .slice A1838 n1840 c1839) rfl Try.underlying28 rfl (Ctx.subI 2 C2324 rfl) rfl) ?_
         refine WL.val (Yl.fieldAddr (i := 4) ho2323 Try.underlying46 rfl sz3) ?_
         refine WL.val (Yl.loadV (g := g2197) (off := 0) (o := 35) (cs := [.int .i64 r2187.Kind, .int .i64 r2187.Epoch] ++ (r2187.Nonce.map (Value.int .u8) ++ [.slice A2189 n2191 c2190, .int .i64 r2187.Job, .int .i64 r2187.Time, .int .i64 r2187.By])) (v := .int .i64 r2187.Job) rfl Try.underlying3 rfl (Ctx.subI 0 C2324 rfl) (by simp [List.getElem?_append, ha2188])) ?_
         refine WL.val (Yl.sub (m := r2187.Job) (n := 1) (r := wi64 (r2187.Job - 1)) rfl rfl rfl) ?_
         obtain ⟨hc2326, hX2301⟩ := guardE hX2301
         obtain ⟨b2327, of2328, hA2329, he2330⟩ := hS1844 (by omega)
         refine WL.val (Yl.elemAddr (i := wi64 (r2187.Job - 1)) rfl rfl hA2329 Try.underlying28 sz55 (by omega)) ?_
         refine WL.val (Yl.fieldAddr (i := 0) rfl Try.underlying55 rfl sz44) ?_
         obtain ⟨cs2331, hr2332, hx2333⟩ := he2330 (wi64 (r2187.Job - 1)).toNat _ (getD_some (d := TJob.z) (by omega))
         obtain ⟨A2334, c2335, n2336, A2341, c2342, n2343, A2348, c2349, n2350, A2355, c2356, n2357, A2362, c2363, n2364, rfl, hn2337, hl2338, hm2339, hS2340, hn2344, hl2345, hm2346, hS2347, hn2351, hl2352, hm2353, hS2354, hn2358, hl2359, hm2360, hS2361, hn2365, hl2366, hm2367, hS2368⟩ := TJob.open hr2332
         refine WL.val (Yl.load (v := .slice A2334 n2336 c2335) rfl Try.underlying44 rfl (((C2324.fro)).cell (hx2333 0 _ rfl))) ?_
         obtain ⟨r2370, hg2369, hX2301⟩ := bindE hX2301
         refine WL.callH (juratlaw21_right.calls k2128 _ F1822 A2334 c2335 n2336 ((x1830.Jobs.getD (wi64 (r2187.Job - 1)).toNat TJob.z).Payload) (Ctx.pre (qs := []) (rest := [CH.row g2197 0 ([.int .i64 r2187.Kind, .int .i64 r2187.Epoch] ++ (r2187.Nonce.map (Value.int .u8) ++ [.slice A2189 n2191 c2190, .int .i64 r2187.Job, .int .i64 r2187.Time, .int .i64 r2187.By])), p2193, CH.row g92 0 q4, p306, CH.row g15 0 q1]) C2324) hn2337 hl2338 hm2339 hS2340 r2370 hg2369) (Yenter.fn Try.func23 (by kernel_rfl) rfl (argsE (.cons rfl .nil))) ?_
         rintro e_ w_ ⟨A2371, c2372, n2373, p2375, rfl, C2377, hn2374, hR2376⟩
         refine ⟨_, rfl, ?_⟩
         have C2378 : Ctx _ _ _ _ _ [p2375, CH.row g2197 0 ([.int .i64 r2187.Kind, .int .i64 r2187.Epoch] ++ (r2187.Nonce.map (Value.int .u8) ++ [.slice A2189 n2191 c2190, .int .i64 r2187.Job, .int .i64 r2187.Time, .int .i64 r2187.By])), p2193, CH.row g92 0 q4, p306, CH.row g15 0 q1] := Ctx.call (qs := []) (rest := [CH.row g2197 0 ([.int .i64 r2187.Kind, .int .i64 r2187.Epoch] ++ (r2187.Nonce.map (Value.int .u8) ++ [.slice A2189 n2191 c2190, .int .i64 r2187.Job, .int .i64 r2187.Time, .int .i64 r2187.By])), p2193, CH.row g92 0 q4, p306, CH.row g15 0 q1]) C2324 C2377
         refine WL.val (Yl.fieldAddr (i := 3) ho2323 Try.underlying46 rfl sz44) ?_
         obtain ⟨w2379, hy2380, C2381⟩ := ev_set (P := Try.prog) (ps1 := [p2375]) (ps2 := [p2193, CH.row g92 0 [.slice A1831 n1833 c1832, .slice A1838 n1840 c1839, .slice A1845 n1847 c1846, .slice A1852 n1854 c1853, .int .i64 x1830.Heads], p306, CH.row g15 0 [.int .i64 a0.Faulty, .int .i64 a0.Workers, .int .i64 a0.Height, .int .i64 a0.Bits, .int .i64 a0.Jobs, .int .i64 a0.Term, .int .i64 a0.Heads]]) (t := 44) (o := 34) ([.int .i64 r2187.Kind, .int .i64 r2187.Epoch] ++ (r2187.Nonce.map (Value.int .u8) ++ [.slice A2189 n2191 c2190, .int .i64 r2187.Job, .int .i64 r2187.Time, .int .i64 r2187.By])) ([.int .i64 r2187.Kind, .int .i64 r2187.Epoch] ++ (r2187.Nonce.map (Value.int .u8))) [.slice A2189 n2191 c2190] [.int .i64 r2187.Job, .int .i64 r2187.Time, .int .i64 r2187.By] [.slice A2371 n2373 c2372] (.slice A2371 n2373 c2372) C2378 (by first | (simp only [List.length_append, List.length_map, List.length_cons, List.length_nil, ha2188]; done) | simp [ha2188]) (by first | (simp only [List.length_append, List.length_map, List.length_cons, List.length_nil, ha2188]; done) | simp [ha2188]) (by first | (simp only [List.length_append, List.length_map, List.length_cons, List.length_nil, ha2188]; done) | simp [ha2188]) rfl (ones_of rfl) sz44
         have C2382 : Ctx _ _ _ _ _ [p2375, CH.row g2197 0 ([.int .i64 r2187.Kind, .int .i64 r2187.Epoch] ++ (r2187.Nonce.map (Value.int .u8) ++ [.slice A2371 n2373 c2372, .int .i64 r2187.Job, .int .i64 r2187.Time, .int .i64 r2187.By])), p2193, CH.row g92 0 q4, p306, CH.row g15 0 q1] := (by simpa using C2381)
         refine WL.skip (hy2380 _ _ _ _ rfl rfl) ?_
         refine WL.done ?_
         have C2383 : Ctx _ _ _ _ _ [CH.row g2197 0 ([.int .i64 r2187.Kind, .int .i64 r2187.Epoch] ++ (r2187.Nonce.map (Value.int .u8) ++ [.slice A2371 n2373 c2372, .int .i64 r2187.Job, .int .i64 r2187.Time, .int .i64 r2187.By])), p2375, CH.row g92 0 q4, p306, CH.row g15 0 q1] := Ctx.pick [1, 0, 3, 4, 5] C2382 rfl
         cases hX2301
         refine thenE_n ?_
         exact ⟨A2371, c2372, n2373, p2375, ho2318, ho2319, ho2320, ho2321, ho2322, ho2323, C2383, ha2188, hn2374, hR2376⟩
        ·refine W.condF (ho2317.trans (congrArg Value.bool (Bool.eq_false_iff.2 hc2325))) ?_
         refine W.skip ?_
         cases hX2301
         refine thenE_n ?_
         exact ⟨A2189, c2190, n2191, p2193, ho2318, ho2319, ho2320, ho2321, ho2322, ho2323, C2324, ha2188, hn2192, hR2194⟩
      ·rintro env_ w_ ⟨A2294, c2295, n2296, p2298, ho2286, ho2287, ho2288, ho2289, ho2290, ho2291, C2300, ha2293, hn2297, hR2299⟩
       refine W.seq ?_
       refine W.region rfl ?_
       refine WL.val (Yl.loadVA (g := g15) (off := 0) (o := 0) (cs := q1) (us := [.int .i64 a0.Faulty, .int .i64 a0.Workers, .int .i64 a0.Height, .int .i64 a0.Bits, .int .i64 a0.Jobs, .int .i64 a0.Term, .int .i64 a0.Heads]) ho2287 Try.underlying23 rfl sz23 (Ctx.subI 4 C2300 rfl) rfl) ?_
       refine WL.val (Yl.loadVA (g := g92) (off := 0) (o := 0) (cs := q4) (us := [.slice A1831 n1833 c1832, .slice A1838 n1840 c1839, .slice A1845 n1847 c1846, .slice A1852 n1854 c1853, .int .i64 x1830.Heads]) ho2288 Try.underlying32 rfl sz32 (Ctx.subI 2 C2300 rfl) rfl) ?_
       refine WL.val (Yl.loadVA (g := g2197) (off := 0) (o := 0) (cs := [.int .i64 x2292.Kind, .int .i64 x2292.Epoch] ++ (x2292.Nonce.map (Value.int .u8) ++ [.slice A2294 n2296 c2295, .int .i64 x2292.Job, .int .i64 x2292.Time, .int .i64 x2292.By])) (us := [.int .i64 x2292.Kind, .int .i64 x2292.Epoch] ++ (x2292.Nonce.map (Value.int .u8) ++ [.slice A2294 n2296 c2295, .int .i64 x2292.Job, .int .i64 x2292.Time, .int .i64 x2292.By])) ho2291 Try.underlying46 rfl (sz_of sz46 (by first | (simp only [List.length_append, List.length_map, List.length_cons, List.length_nil, ha2293]; done) | simp [ha2293])) (Ctx.subI 0 C2300 rfl) (take_all _)) ?_
       obtain ⟨F2384, le2385, lp2386, C2387⟩ := Ctx.fzI 1 C2300 rfl
       replace C2387 : Ctx _ _ _ _ _ [CH.row g2197 0 ([.int .i64 x2292.Kind, .int .i64 x2292.Epoch] ++ (x2292.Nonce.map (Value.int .u8) ++ [.slice A2294 n2296 c2295, .int .i64 x2292.Job, .int .i64 x2292.Time, .int .i64 x2292.By])), CH.row g92 0 q4, p306, CH.row g15 0 q1] := C2387
       obtain ⟨hl2388, hm2389, hS2390⟩ := Row.fz hR2299 le2385 lp2386
       have hR2391 := Row.mono hR2168 le2385
       obtain ⟨⟨r2393, r2394⟩, hg2392, hX1504⟩ := bindE hX1504
       refine WL.callH (docket_Apply.calls k2128 _ F2384 a0 A1831 c1832 n1833 A1838 c1839 n1840 A1845 c1846 n1847 A1852 c1853 n1854 x1830 A2294 c2295 n2296 x2292 (Ctx.pre (qs := []) (rest := [CH.row g2197 0 ([.int .i64 x2292.Kind, .int .i64 x2292.Epoch] ++ (x2292.Nonce.map (Value.int .u8) ++ [.slice A2294 n2296 c2295, .int .i64 x2292.Job, .int .i64 x2292.Time, .int .i64 x2292.By])), CH.row g92 0 q4, p306, CH.row g15 0 q1]) C2387) hn1834 hl1835 hm1836 (Sl.mono hS1837 le2385 le2385) hn1841 hl1842 hm1843 (Sl.mono hS1844 le2385 le2385) hn1848 hl1849 hm1850 (Sl.mono hS1851 le2385 le2385) hn1855 hl1856 hm1857 (Sl.mono hS1858 le2385 le2385) ha2293 hn2297 hl2388 hm2389 hS2390 r2393 r2394 hg2392) (Yenter.fn Try.func14 (by kernel_rfl) rfl (argsE (.cons rfl (.cons rfl (.cons rfl .nil))))) ?_
       rintro e_ w_ ⟨F2395, A2397, c2398, n2399, p2401, A2403, c2404, n2405, p2407, A2409, c2410, n2411, p2413, A2415, c2416, n2417, p2419, rfl, le2396, C2421, hn2400, hR2402, hn2406, hR2408, hn2412, hR2414, hn2418, hR2420⟩
       refine ⟨_, rfl, ?_⟩
       have C2422 : Ctx _ _ _ _ _ [p2401, p2407, p2413, p2419, CH.row g2197 0 ([.int .i64 x2292.Kind, .int .i64 x2292.Epoch] ++ (x2292.Nonce.map (Value.int .u8) ++ [.slice A2294 n2296 c2295, .int .i64 x2292.Job, .int .i64 x2292.Time, .int .i64 x2292.By])), CH.row g92 0 q4, p306, CH.row g15 0 q1] := Ctx.call (qs := []) (rest := [CH.row g2197 0 ([.int .i64 x2292.Kind, .int .i64 x2292.Epoch] ++ (x2292.Nonce.map (Value.int .u8) ++ [.slice A2294 n2296 c2295, .int .i64 x2292.Job, .int .i64 x2292.Time, .int .i64 x2292.By])), CH.row g92 0 q4, p306, CH.row g15 0 q1]) C2387 C2421
       have hR2423 := Row.mono hR2391 le2396
       let q5 : List Go.Value := [.slice A2397 n2399 c2398, .slice A2403 n2405 c2404, .slice A2409 n2411 c2410, .slice A2415 n2417 c2416, .int .i64 r2393.Heads]
       refine WL.val (Yl.move (v := .tuple #[(.agg (List.toArray q5)), (.int .i64 r2394)]) rfl) ?_
       refine WL.val (Yl.extract (v := .agg (List.toArray q5)) rfl rfl) ?_
       refine WL.val (Yl.extract (v := .int .i64 r2394) rfl rfl) ?_
       obtain ⟨g2424, w2425, hy2426, C2427⟩ := ev_alloc (P := Try.prog) (e := 32) q3 C2422 zr32 rfl
       refine WL.val (hy2426 _ _) ?_
       obtain ⟨w2428, hy2429, C2430⟩ := ev_setI (P := Try.prog) (ps1 := []) (ps2 := [p2401, p2407, p2413, p2419, CH.row g2197 0 ([.int .i64 x2292.Kind, .int .i64 x2292.Epoch] ++ (x2292.Nonce.map (Value.int .u8) ++ [.slice A2294 n2296 c2295, .int .i64 x2292.Job, .int .i64 x2292.Time, .int .i64 x2292.By])), CH.row g92 0 q4, p306, CH.row g15 0 q1]) (t := 32) 0 q5 (.agg (List.toArray q5)) C2427 rfl rfl (ones_of rfl) sz32
       have C2431 : Ctx _ _ _ _ _ [CH.row g2424 0 q5, p2401, p2407, p2413, p2419, CH.row g2197 0 ([.int .i64 x2292.Kind, .int .i64 x2292.Epoch] ++ (x2292.Nonce.map (Value.int .u8) ++ [.slice A2294 n2296 c2295, .int .i64 x2292.Job, .int .i64 x2292.Time, .int .i64 x2292.By])), CH.row g92 0 q4, p306, CH.row g15 0 q1] := C2430
       refine WL.skip (hy2429 _ _ _ _ rfl rfl) ?_
       refine WL.val (Yl.assign (v := .int .i64 r2394) rfl) ?_
       refine WL.done ?_
       refine W.seq ?_
       refine W.region rfl ?_
       refine WL.val (Yl.move (v := .int .i64 r2394) rfl) ?_
       refine WL.val (Yl.eql (m := r2394) (n := 0) (q := decide (r2394 = 0)) rfl rfl rfl) ?_
       refine WL.done ?_
       rcases iteE hX1504 with ⟨hc2432, hX1504⟩ | ⟨hc2432, hX1504⟩
       ·refine W.condT (congrArg Value.bool (decide_eq_true hc2432)) ?_
        refine W.region rfl ?_
        refine WL.val (Yl.loadVA (g := g2424) (off := 0) (o := 0) (cs := q5) (us := [.slice A2397 n2399 c2398, .slice A2403 n2405 c2404, .slice A2409 n2411 c2410, .slice A2415 n2417 c2416, .int .i64 r2393.Heads]) rfl Try.underlying32 rfl sz32 (Ctx.subI 0 C2431 rfl) rfl) ?_
        obtain ⟨w2433, hy2434, C2435⟩ := ev_setI (P := Try.prog) (ps1 := [CH.row g2424 0 q5, p2401, p2407, p2413, p2419, CH.row g2197 0 ([.int .i64 x2292.Kind, .int .i64 x2292.Epoch] ++ (x2292.Nonce.map (Value.int .u8) ++ [.slice A2294 n2296 c2295, .int .i64 x2292.Job, .int .i64 x2292.Time, .int .i64 x2292.By]))]) (ps2 := [p306, CH.row g15 0 q1]) (t := 32) 0 q5 (.agg (List.toArray q5)) C2431 rfl rfl (ones_of rfl) sz32
        have C2436 : Ctx _ _ _ _ _ [CH.row g2424 0 q5, p2401, p2407, p2413, p2419, CH.row g2197 0 ([.int .i64 x2292.Kind, .int .i64 x2292.Epoch] ++ (x2292.Nonce.map (Value.int .u8) ++ [.slice A2294 n2296 c2295, .int .i64 x2292.Job, .int .i64 x2292.Time, .int .i64 x2292.By])), CH.row g92 0 q5, p306, CH.row g15 0 q1] := C2435
        refine WL.skip (hy2434 _ _ _ _ ho2288 rfl) ?_
        refine WL.done ?_
        refine inB_n ?_
        refine W.region rfl ?_
        refine WL.val (Yl.move (v := .int .i64 x1829) ho2290) ?_
        refine WL.val (Yl.add (m := x1829) (n := 1) (r := wi64 (x1829 + 1)) rfl rfl rfl) ?_
        refine WL.val (Yl.assign (v := .int .i64 (wi64 (x1829 + 1))) rfl) ?_
        refine WL.done ?_
        obtain ⟨F2437, le2438, lp2439, C2440⟩ := Ctx.fzI 1 C2436 rfl
        replace C2440 : Ctx _ _ _ _ _ [CH.row g2424 0 q5, p2407, p2413, p2419, CH.row g2197 0 ([.int .i64 x2292.Kind, .int .i64 x2292.Epoch] ++ (x2292.Nonce.map (Value.int .u8) ++ [.slice A2294 n2296 c2295, .int .i64 x2292.Job, .int .i64 x2292.Time, .int .i64 x2292.By])), CH.row g92 0 q5, p306, CH.row g15 0 q1] := C2440
        obtain ⟨hl2441, hm2442, hS2443⟩ := Row.fz hR2402 le2438 lp2439
        have hR2444 := Row.mono hR2423 le2438
        have hR2445 := Row.mono hR2408 le2438
        have hR2446 := Row.mono hR2414 le2438
        have hR2447 := Row.mono hR2420 le2438
        obtain ⟨F2448, le2449, lp2450, C2451⟩ := Ctx.fzI 1 C2440 rfl
        replace C2451 : Ctx _ _ _ _ _ [CH.row g2424 0 q5, p2413, p2419, CH.row g2197 0 ([.int .i64 x2292.Kind, .int .i64 x2292.Epoch] ++ (x2292.Nonce.map (Value.int .u8) ++ [.slice A2294 n2296 c2295, .int .i64 x2292.Job, .int .i64 x2292.Time, .int .i64 x2292.By])), CH.row g92 0 q5, p306, CH.row g15 0 q1] := C2451
        obtain ⟨hl2452, hm2453, hS2454⟩ := Row.fz hR2445 le2449 lp2450
        have hR2455 := Row.mono hR2444 le2449
        have hR2456 := Row.mono hR2446 le2449
        have hR2457 := Row.mono hR2447 le2449
        obtain ⟨F2458, le2459, lp2460, C2461⟩ := Ctx.fzI 1 C2451 rfl
        replace C2461 : Ctx _ _ _ _ _ [CH.row g2424 0 q5, p2419, CH.row g2197 0 ([.int .i64 x2292.Kind, .int .i64 x2292.Epoch] ++ (x2292.Nonce.map (Value.int .u8) ++ [.slice A2294 n2296 c2295, .int .i64 x2292.Job, .int .i64 x2292.Time, .int .i64 x2292.By])), CH.row g92 0 q5, p306, CH.row g15 0 q1] := C2461
        obtain ⟨hl2462, hm2463, hS2464⟩ := Row.fz hR2456 le2459 lp2460
        have hR2465 := Row.mono hR2455 le2459
        have hR2466 := Row.mono hR2457 le2459
        obtain ⟨F2467, le2468, lp2469, C2470⟩ := Ctx.fzI 1 C2461 rfl
        replace C2470 : Ctx _ _ _ _ _ [CH.row g2424 0 q5, CH.row g2197 0 ([.int .i64 x2292.Kind, .int .i64 x2292.Epoch] ++ (x2292.Nonce.map (Value.int .u8) ++ [.slice A2294 n2296 c2295, .int .i64 x2292.Job, .int .i64 x2292.Time, .int .i64 x2292.By])), CH.row g92 0 q5, p306, CH.row g15 0 q1] := C2470
        obtain ⟨hl2471, hm2472, hS2473⟩ := Row.fz hR2466 le2468 lp2469
        have hR2474 := Row.mono hR2465 le2468
        have C2475 : Ctx _ _ _ _ _ [CH.row g92 0 q5, p306, CH.row g15 0 q1] := Ctx.pick [2, 3, 4] C2470 rfl
        exact thenE_n ⟨k2128, Nat.lt_succ_self _, wi64 (x1829 + 1), r2393, F2467, A2397, c2398, n2399, A2403, c2404, n2405, A2409, c2410, n2411, A2415, c2416, n2417, ho2286, ho2287, ho2288, ho2289, rfl, C2475, (CH.le_trans le1823 (CH.le_trans le2385 (CH.le_trans le2396 (CH.le_trans le2438 (CH.le_trans le2449 (CH.le_trans le2459 le2468)))))), hn2400, hl2441, hm2442, (Sl.mono hS2443 (CH.le_trans le2449 (CH.le_trans le2459 le2468)) (CH.le_trans le2449 (CH.le_trans le2459 le2468))), hn2406, hl2452, hm2453, (Sl.mono hS2454 (CH.le_trans le2459 le2468) (CH.le_trans le2459 le2468)), hn2412, hl2462, hm2463, (Sl.mono hS2464 le2468 le2468), hn2418, hl2471, hm2472, hS2473, hX1504⟩
       ·refine W.condF (congrArg Value.bool (decide_eq_false hc2432)) ?_
        refine W.skip ?_
        refine inB_n ?_
        refine W.region rfl ?_
        refine WL.val (Yl.move (v := .int .i64 x1829) ho2290) ?_
        refine WL.val (Yl.add (m := x1829) (n := 1) (r := wi64 (x1829 + 1)) rfl rfl rfl) ?_
        refine WL.val (Yl.assign (v := .int .i64 (wi64 (x1829 + 1))) rfl) ?_
        refine WL.done ?_
        have C2476 : Ctx _ _ _ _ _ [CH.row g92 0 q4, p306, CH.row g15 0 q1] := Ctx.pick [6, 7, 8] C2431 rfl
        exact thenE_n ⟨k2128, Nat.lt_succ_self _, wi64 (x1829 + 1), x1830, F2395, A1831, c1832, n1833, A1838, c1839, n1840, A1845, c1846, n1847, A1852, c1853, n1854, ho2286, ho2287, ho2288, ho2289, rfl, C2476, (CH.le_trans le1823 (CH.le_trans le2385 le2396)), hn1834, hl1835, hm1836, (Sl.mono hS1837 (CH.le_trans le2385 le2396) (CH.le_trans le2385 le2396)), hn1841, hl1842, hm1843, (Sl.mono hS1844 (CH.le_trans le2385 le2396) (CH.le_trans le2385 le2396)), hn1848, hl1849, hm1850, (Sl.mono hS1851 (CH.le_trans le2385 le2396) (CH.le_trans le2385 le2396)), hn1855, hl1856, hm1857, (Sl.mono hS1858 (CH.le_trans le2385 le2396) (CH.le_trans le2385 le2396)), hX1504⟩
     ·refine W.condF (congrArg Value.bool (decide_eq_false hc2169)) ?_
      refine W.exit ?_
      refine thenE_x ?_
      refine thenE_x ?_
      refine inB_here ?_
      cases hX1504
      refine thenE_n ?_
      exact ⟨F1822, A1831, c1832, n1833, A1838, c1839, n1840, A1845, c1846, n1847, A1852, c1853, n1854, ho1825, ho1826, ho1827, C1859, le1823, hn1834, hl1835, hm1836, hS1837, hn1841, hl1842, hm1843, hS1844, hn1848, hl1849, hm1850, hS1851, hn1855, hl1856, hm1857, hS1858⟩
    ·rintro env_ w_ ⟨F1469, A1475, c1476, n1477, A1482, c1483, n1484, A1489, c1490, n1491, A1496, c1497, n1498, ho1471, ho1472, ho1473, C1503, le1470, hn1478, hl1479, hm1480, hS1481, hn1485, hl1486, hm1487, hS1488, hn1492, hl1493, hm1494, hS1495, hn1499, hl1500, hm1501, hS1502⟩
     have hR2477 := Row.mono hR307 le1470
     refine W.seq ?_
     refine W.seq ?_
     refine W.region rfl ?_
     refine WL.val (Yl.assign (v := .int .i64 0) rfl) ?_
     refine WL.done ?_
     obtain ⟨o4546, hX4545, H⟩ := bindE H
     let q6 : List Go.Value := [.slice A1475 n1477 c1476, .slice A1482 n1484 c1483, .slice A1489 n1491 c1490, .slice A1496 n1498 c1497, .int .i64 x1474.Heads]
     refine W.cutM (fun env_ w_ => env_ 3 = .pointer (some ⟨g15, 0, none⟩) ∧ env_ 7 = .pointer (some ⟨g92, 0, none⟩) ∧ env_ 9 = .slice A302 n304 c303 ∧ Ctx w F D w_ F1469 [CH.row g92 0 q6, p306, CH.row g15 0 q1] ∧ o4546 = Sum.inl ()) ?_ ?_
     ·refine W.block ?_
      refine W.loop (fun g_ env_ w_ => ∃ (x4551 : Int), env_ 3 = .pointer (some ⟨g15, 0, none⟩) ∧ env_ 7 = .pointer (some ⟨g92, 0, none⟩) ∧ env_ 9 = .slice A302 n304 c303 ∧ env_ 16 = .int .i64 x4551 ∧ Ctx w F D w_ F1469 [CH.row g92 0 q6, p306, CH.row g15 0 q1] ∧ juratlaw21_DocketHonest.l3 g_ x1474 x4551 = some o4546) k ⟨0, ho1471, ho1472, ho1473, rfl, C1503, hX4545⟩ ?_
      clear hX4545
      rintro g_ env_ w_ ⟨x4551, ho4547, ho4548, ho4549, ho4550, C4552, hX4545⟩
      rcases g_ with _ | k5581
      · exact absurd hX4545 (by simp [juratlaw21_DocketHonest.l3])
      rw [juratlaw21_DocketHonest.l3] at hX4545
      refine W.seq ?_
      refine W.seq ?_
      refine W.region rfl ?_
      refine WL.val (Yl.move (v := .int .i64 x4551) ho4550) ?_
      refine WL.val (Yl.fieldAddr (i := 1) ho4548 Try.underlying32 rfl sz28) ?_
      refine WL.val (Yl.loadV (g := g92) (off := 0) (o := 1) (cs := q6) (v := .slice A1482 n1484 c1483) rfl Try.underlying28 rfl (Ctx.subI 0 C4552 rfl) rfl) ?_
      refine WL.val (Yl.lenN (A := A1482) (l := n1484) (q := c1483) (n := (x1474.Jobs.length : Int)) rfl Try.underlying28 (by omega)) ?_
      refine WL.val (Yl.lss (m := x4551) (n := (x1474.Jobs.length : Int)) (q := decide (x4551 < (x1474.Jobs.length : Int))) rfl rfl rfl) ?_
      refine WL.done ?_
      rcases iteE hX4545 with ⟨hc5582, hX4545⟩ | ⟨hc5582, hX4545⟩
      ·refine W.condT (congrArg Value.bool (decide_eq_true hc5582)) ?_
       refine W.skip ?_
       refine W.seq ?_
       refine W.block ?_
       refine W.seq ?_
       obtain ⟨x6118, hX6120, hX4545⟩ := bindE hX4545
       refine W.cutM (fun env_ w_ => env_ 3 = .pointer (some ⟨g15, 0, none⟩) ∧ env_ 7 = .pointer (some ⟨g92, 0, none⟩) ∧ env_ 9 = .slice A302 n304 c303 ∧ env_ 16 = .int .i64 x4551 ∧ env_ 158 = .bool x6118 ∧ Ctx w F D w_ F1469 [CH.row g92 0 q6, p306, CH.row g15 0 q1]) ?_ ?_
       ·rcases iteE hX6120 with ⟨hc6207, hX6120⟩ | ⟨hc6207, hX6120⟩
        ·refine W.regionA [([21], CH.row g92 0 q6), ([21], F1469)] (by kernel_rfl) ?_
         have C6330 := Ctx.drewN C4552 1
         refine WA.takes [(0, none), (1, some 0), (2, none), (3, none), (4, none), (5, some 1), (6, none), (7, none), (8, none), (9, some 0), (10, none), (11, none), (12, none), (13, some 1), (14, none), (15, some 0), (16, none), (17, none), (18, none), (19, some 1)] ⟨(Ctx.subI 0 C6330 rfl), (C6330.fro), trivial⟩ (by kernel_rfl) ?_
         refine WT.val rfl (fun _ hC_ => Yl.fieldAddr (i := 1) (by exact ho4548) Try.underlying32 rfl sz28) ?_
         refine WT.val rfl (fun _ hC_ => Yl.loadV (g := g92) (off := 0) (o := 1) (cs := q6) (v := .slice A1482 n1484 c1483) rfl Try.underlying28 rfl (show Sub (CH.row g92 0 q6) _ from hC_) rfl) ?_
         refine WT.val rfl (fun _ hC_ => Yl.move (v := .int .i64 x4551) (by exact ho4550)) ?_
         obtain ⟨hc6374, hX6120⟩ := guardE hX6120
         obtain ⟨b6375, of6376, hA6377, he6378⟩ := hS1488 (by omega)
         refine WT.val rfl (fun _ hC_ => Yl.elemAddr (i := x4551) rfl rfl hA6377 Try.underlying28 sz55 (by omega)) ?_
         refine WT.val rfl (fun _ hC_ => Yl.fieldAddr (i := 1) rfl Try.underlying55 rfl sz3) ?_
         obtain ⟨cs6379, hr6380, hx6381⟩ := he6378 x4551.toNat _ (getD_some (d := TJob.z) (by omega))
         obtain ⟨A6382, c6383, n6384, A6389, c6390, n6391, A6396, c6397, n6398, A6403, c6404, n6405, A6410, c6411, n6412, rfl, hn6385, hl6386, hm6387, hS6388, hn6392, hl6393, hm6394, hS6395, hn6399, hl6400, hm6401, hS6402, hn6406, hl6407, hm6408, hS6409, hn6413, hl6414, hm6415, hS6416⟩ := TJob.open hr6380
         refine WT.val rfl (fun _ hC_ => Yl.load (v := .int .i64 ((x1474.Jobs.getD x4551.toNat TJob.z).State)) rfl Try.underlying3 rfl (((Sub.mono (show Sub F1469 _ from hC_) (CH.le_refl _))).cell (hx6381 1 _ rfl))) ?_
         refine WT.val rfl (fun _ hC_ => Yl.eql (m := (x1474.Jobs.getD x4551.toNat TJob.z).State) (n := 3) (q := decide (((x1474.Jobs.getD x4551.toNat TJob.z).State) = 3)) rfl rfl rfl) ?_
         refine WT.val rfl (fun _ hC_ => Yl.move (v := .bool (decide (((x1474.Jobs.getD x4551.toNat TJob.z).State) = 3))) rfl) ?_
         refine WT.on rfl rfl (congrArg Value.bool (decide_eq_true hc6207)) (fun _ hC_ => Yl.fieldAddr (i := 1) (by exact ho4548) Try.underlying32 rfl sz28) ?_
         refine WT.on rfl rfl (congrArg Value.bool (decide_eq_true hc6207)) (fun _ hC_ => Yl.loadV (g := g92) (off := 0) (o := 1) (cs := q6) (v := .slice A1482 n1484 c1483) rfl Try.underlying28 rfl (show Sub (CH.row g92 0 q6) _ from hC_) rfl) ?_
         refine WT.on rfl rfl (congrArg Value.bool (decide_eq_true hc6207)) (fun _ hC_ => Yl.move (v := .int .i64 x4551) (by exact ho4550)) ?_
         refine WT.on rfl rfl (congrArg Value.bool (decide_eq_true hc6207)) (fun _ hC_ => Yl.elemAddr (i := x4551) rfl rfl hA6377 Try.underlying28 sz55 (by omega)) ?_
         refine WT.on rfl rfl (congrArg Value.bool (decide_eq_true hc6207)) (fun _ hC_ => Yl.fieldAddr (i := 8) rfl Try.underlying55 rfl sz44) ?_
         refine WT.on rfl rfl (congrArg Value.bool (decide_eq_true hc6207)) (fun _ hC_ => Yl.load (v := .slice A6410 n6412 c6411) rfl Try.underlying44 rfl (((Sub.mono (show Sub F1469 _ from hC_) (CH.le_refl _))).cell (hx6381 8 _ rfl))) ?_
         refine WT.on rfl rfl (congrArg Value.bool (decide_eq_true hc6207)) (fun _ hC_ => Yl.fieldAddr (i := 1) (by exact ho4548) Try.underlying32 rfl sz28) ?_
         refine WT.on rfl rfl (congrArg Value.bool (decide_eq_true hc6207)) (fun _ hC_ => Yl.loadV (g := g92) (off := 0) (o := 1) (cs := q6) (v := .slice A1482 n1484 c1483) rfl Try.underlying28 rfl (show Sub (CH.row g92 0 q6) _ from hC_) rfl) ?_
         refine WT.on rfl rfl (congrArg Value.bool (decide_eq_true hc6207)) (fun _ hC_ => Yl.move (v := .int .i64 x4551) (by exact ho4550)) ?_
         refine WT.on rfl rfl (congrArg Value.bool (decide_eq_true hc6207)) (fun _ hC_ => Yl.elemAddr (i := x4551) rfl rfl hA6377 Try.underlying28 sz55 (by omega)) ?_
         refine WT.on rfl rfl (congrArg Value.bool (decide_eq_true hc6207)) (fun _ hC_ => Yl.fieldAddr (i := 0) rfl Try.underlying55 rfl sz44) ?_
         refine WT.on rfl rfl (congrArg Value.bool (decide_eq_true hc6207)) (fun _ hC_ => Yl.load (v := .slice A6382 n6384 c6383) rfl Try.underlying44 rfl (((Sub.mono (show Sub F1469 _ from hC_) (CH.le_refl _))).cell (hx6381 0 _ rfl))) ?_
         refine WT.done ?_
         obtain ⟨r6418, hg6417, hX6120⟩ := bindE hX6120
         refine WA.up1 20 (by kernel_rfl) (Up.callG (args := #[.slice A6382 n6384 c6383]) rfl rfl (congrArg Value.bool (decide_eq_true hc6207)) (by kernel_rfl) rfl (Yenter.fn Try.func23 (by kernel_rfl) rfl (argsE (.cons rfl .nil))) (juratlaw21_right.calls k5581 _ F1469 A6382 c6383 n6384 ((x1474.Jobs.getD x4551.toNat TJob.z).Payload) (Ctx.pre (qs := []) (rest := [CH.row g92 0 q6, p306, CH.row g15 0 q1]) C6330) hn6385 hl6386 hm6387 hS6388 r6418 hg6417) ?_)
         rintro e_ w_ ⟨A6419, c6420, n6421, p6423, rfl, C6425, hn6422, hR6424⟩
         have C6426 : Ctx _ _ _ _ _ [p6423, CH.row g92 0 q6, p306, CH.row g15 0 q1] := Ctx.call (qs := []) (rest := [CH.row g92 0 q6, p306, CH.row g15 0 q1]) C6330 C6425
         refine ⟨_, rfl, ⟨(Ctx.subI 1 C6426 rfl), (C6426.fro), trivial⟩, ?_⟩
         obtain ⟨F6427, le6428, lp6429, (C6430 : Ctx _ _ _ _ _ [CH.row g92 0 q6, p306, CH.row g15 0 q1])⟩ := Ctx.fzI 0 C6426 rfl
         obtain ⟨r6432, hg6431, hX6120⟩ := bindE hX6120
         refine WA.up1 21 (by kernel_rfl) (Up.callG (args := #[.slice A6410 n6412 c6411, .slice A6419 n6421 c6420]) rfl rfl (congrArg Value.bool (decide_eq_true hc6207)) (by kernel_rfl) rfl (Yenter.fn Try.func21 (by kernel_rfl) rfl (argsE (.cons rfl (.cons rfl .nil)))) (juratref01_Same.calls k5581 _ F6427 A6410 c6411 n6412 ((x1474.Jobs.getD x4551.toNat TJob.z).Value) A6419 c6420 n6421 r6418 C6430.pre0 hn6413 hl6414 hm6415 (Sl.mono hS6416 le6428 le6428) hn6422 (Row.len_le hR6424).1 (Row.len_le hR6424).2.1 (Sl.mono (Row.sl hR6424) le6428 lp6429) r6432 hg6431) ?_)
         rintro e_ w_ ⟨rfl, ⟨m6433, rfl⟩⟩
         have C6434 := Ctx.drewN C6426 m6433
         refine ⟨_, rfl, ⟨trivial, trivial, trivial⟩, ?_⟩
         refine WA.takes [(22, none), (23, none)] ⟨(Ctx.subI 1 C6434 rfl), (C6434.fro), trivial⟩ (by kernel_rfl) ?_
         refine WT.on rfl rfl (congrArg Value.bool (decide_eq_true hc6207)) (fun _ hC_ => Yl.not (p := r6432) (q := !r6432) rfl rfl) ?_
         refine WT.val rfl (fun _ hC_ => Yl.pickT (v := .bool (!r6432)) (congrArg Value.bool (decide_eq_true hc6207)) rfl) ?_
         refine WT.done ?_
         refine WA.done (by kernel_rfl) ?_
         have C6435 : Ctx _ _ _ _ _ [CH.row g92 0 q6, p306, CH.row g15 0 q1] := Ctx.pick [1, 2, 3] C6434 rfl
         cases hX6120
         refine thenE_n ?_
         exact ⟨ho4547, ho4548, ho4549, ho4550, rfl, C6435⟩
        ·refine W.regionA [([], CH.row g92 0 q6), ([], F1469)] (by kernel_rfl) ?_
         have C6522 := Ctx.drewN C4552 1
         refine WA.takes [(0, none), (1, some 0), (2, none), (3, none), (4, none), (5, some 1), (6, none), (7, none), (8, none), (9, none), (10, none), (11, none), (12, none), (13, none), (14, none), (15, none), (16, none), (17, none), (18, none), (19, none), (20, none), (21, none), (22, none), (23, none)] ⟨(Ctx.subI 0 C6522 rfl), (C6522.fro), trivial⟩ (by kernel_rfl) ?_
         refine WT.val rfl (fun _ hC_ => Yl.fieldAddr (i := 1) (by exact ho4548) Try.underlying32 rfl sz28) ?_
         refine WT.val rfl (fun _ hC_ => Yl.loadV (g := g92) (off := 0) (o := 1) (cs := q6) (v := .slice A1482 n1484 c1483) rfl Try.underlying28 rfl (show Sub (CH.row g92 0 q6) _ from hC_) rfl) ?_
         refine WT.val rfl (fun _ hC_ => Yl.move (v := .int .i64 x4551) (by exact ho4550)) ?_
         obtain ⟨hc6566, hX6120⟩ := guardE hX6120
         obtain ⟨b6567, of6568, hA6569, he6570⟩ := hS1488 (by omega)
         refine WT.val rfl (fun _ hC_ => Yl.elemAddr (i := x4551) rfl rfl hA6569 Try.underlying28 sz55 (by omega)) ?_
         refine WT.val rfl (fun _ hC_ => Yl.fieldAddr (i := 1) rfl Try.underlying55 rfl sz3) ?_
         obtain ⟨cs6571, hr6572, hx6573⟩ := he6570 x4551.toNat _ (getD_some (d := TJob.z) (by omega))
         obtain ⟨A6574, c6575, n6576, A6581, c6582, n6583, A6588, c6589, n6590, A6595, c6596, n6597, A6602, c6603, n6604, rfl, hn6577, hl6578, hm6579, hS6580, hn6584, hl6585, hm6586, hS6587, hn6591, hl6592, hm6593, hS6594, hn6598, hl6599, hm6600, hS6601, hn6605, hl6606, hm6607, hS6608⟩ := TJob.open hr6572
         refine WT.val rfl (fun _ hC_ => Yl.load (v := .int .i64 ((x1474.Jobs.getD x4551.toNat TJob.z).State)) rfl Try.underlying3 rfl (((Sub.mono (show Sub F1469 _ from hC_) (CH.le_refl _))).cell (hx6573 1 _ rfl))) ?_
         refine WT.val rfl (fun _ hC_ => Yl.eql (m := (x1474.Jobs.getD x4551.toNat TJob.z).State) (n := 3) (q := decide (((x1474.Jobs.getD x4551.toNat TJob.z).State) = 3)) rfl rfl rfl) ?_
         refine WT.val rfl (fun _ hC_ => Yl.move (v := .bool (decide (((x1474.Jobs.getD x4551.toNat TJob.z).State) = 3))) rfl) ?_
         refine WT.off rfl rfl (congrArg Value.bool (decide_eq_false hc6207)) ?_
         refine WT.off rfl rfl (congrArg Value.bool (decide_eq_false hc6207)) ?_
         refine WT.off rfl rfl (congrArg Value.bool (decide_eq_false hc6207)) ?_
         refine WT.off rfl rfl (congrArg Value.bool (decide_eq_false hc6207)) ?_
         refine WT.off rfl rfl (congrArg Value.bool (decide_eq_false hc6207)) ?_
         refine WT.off rfl rfl (congrArg Value.bool (decide_eq_false hc6207)) ?_
         refine WT.off rfl rfl (congrArg Value.bool (decide_eq_false hc6207)) ?_
         refine WT.off rfl rfl (congrArg Value.bool (decide_eq_false hc6207)) ?_
         refine WT.off rfl rfl (congrArg Value.bool (decide_eq_false hc6207)) ?_
         refine WT.off rfl rfl (congrArg Value.bool (decide_eq_false hc6207)) ?_
         refine WT.off rfl rfl (congrArg Value.bool (decide_eq_false hc6207)) ?_
         refine WT.off rfl rfl (congrArg Value.bool (decide_eq_false hc6207)) ?_
         refine WT.off rfl rfl (congrArg Value.bool (decide_eq_false hc6207)) ?_
         refine WT.off rfl rfl (congrArg Value.bool (decide_eq_false hc6207)) ?_
         refine WT.off rfl rfl (congrArg Value.bool (decide_eq_false hc6207)) ?_
         refine WT.val rfl (fun _ hC_ => Yl.pickF (v := .bool false) (congrArg Value.bool (decide_eq_false hc6207)) rfl) ?_
         refine WT.done ?_
         refine WA.done (by kernel_rfl) ?_
         cases hX6120
         refine thenE_n ?_
         exact ⟨ho4547, ho4548, ho4549, ho4550, rfl, C6522⟩
       ·rintro env_ w_ ⟨ho6113, ho6114, ho6115, ho6116, ho6117, C6119⟩
        rcases iteE hX4545 with ⟨hc6609, hX4545⟩ | ⟨hc6609, hX4545⟩
        ·refine W.condT (ho6117.trans (congrArg Value.bool hc6609)) ?_
         refine W.seq ?_
         refine W.region rfl ?_
         refine WL.val (Yl.assign (v := .bool false) rfl) ?_
         refine WL.done ?_
         refine W.ret ?_
         refine inB_r ?_
         refine thenE_r ?_
         refine thenE_r ?_
         refine inB_r ?_
         refine thenE_r ?_
         refine thenE_r ?_
         cases hX4545
         replace H := sumE_r H
         have C6610 : Ctx _ _ _ _ _ [] := Ctx.pick [] C6119 rfl
         have e6611 := Option.some.inj H
         subst e6611
         exact post_r (resE1 rfl rfl) ⟨rfl, (Ctx.weak C6610 (CH.le_refl _))⟩
        ·refine W.condF (ho6117.trans (congrArg Value.bool (Bool.eq_false_iff.2 hc6609))) ?_
         refine W.skip ?_
         refine inB_n ?_
         refine W.region rfl ?_
         refine WL.val (Yl.move (v := .int .i64 x4551) ho6116) ?_
         refine WL.val (Yl.add (m := x4551) (n := 1) (r := wi64 (x4551 + 1)) rfl rfl rfl) ?_
         refine WL.val (Yl.assign (v := .int .i64 (wi64 (x4551 + 1))) rfl) ?_
         refine WL.done ?_
         exact thenE_n ⟨k5581, Nat.lt_succ_self _, wi64 (x4551 + 1), ho6113, ho6114, ho6115, rfl, C6119, hX4545⟩
      ·refine W.condF (congrArg Value.bool (decide_eq_false hc5582)) ?_
       refine W.exit ?_
       refine thenE_x ?_
       refine thenE_x ?_
       refine inB_here ?_
       cases hX4545
       refine thenE_n ?_
       exact ⟨ho4547, ho4548, ho4549, C4552, rfl⟩
     ·rintro env_ w_ ⟨ho4541, ho4542, ho4543, C4544, rfl⟩
      replace H := sumE_l H
      refine W.seq ?_
      refine W.seq ?_
      refine W.region rfl ?_
      refine WL.val (Yl.fieldAddr (i := 3) ho4542 Try.underlying32 rfl sz30) ?_
      refine WL.val (Yl.loadV (g := g92) (off := 0) (o := 3) (cs := q6) (v := .slice A1496 n1498 c1497) rfl Try.underlying30 rfl (Ctx.subI 0 C4544 rfl) rfl) ?_
      refine WL.val (Yl.lenN (A := A1496) (l := n1498) (q := c1497) (n := (x1474.Barred.length : Int)) rfl Try.underlying30 (by omega)) ?_
      refine WL.val (Yl.fieldAddr (i := 1) ho4541 Try.underlying23 rfl sz3) ?_
      refine WL.val (Yl.loadV (g := g15) (off := 0) (o := 1) (cs := q1) (v := .int .i64 a0.Workers) rfl Try.underlying3 rfl (Ctx.subI 2 C4544 rfl) rfl) ?_
      refine WL.val (Yl.neq (m := (x1474.Barred.length : Int)) (n := a0.Workers) (q := !decide ((x1474.Barred.length : Int) = a0.Workers)) rfl rfl rfl) ?_
      refine WL.done ?_
      rcases iteE H with ⟨hc6612, H⟩ | ⟨hc6612, H⟩
      ·refine W.condF (congrArg Value.bool (ndec_t hc6612)) ?_
       refine W.skip ?_
       refine W.seq ?_
       refine W.seq ?_
       refine W.region rfl ?_
       refine WL.val (Yl.assign (v := .int .i64 0) rfl) ?_
       refine WL.done ?_
       obtain ⟨o6692, hX6691, H⟩ := bindE H
       refine W.cutM (fun env_ w_ => Ctx w F D w_ F1469 [CH.row g92 0 q6, p306, CH.row g15 0 q1] ∧ o6692 = Sum.inl ()) ?_ ?_
       ·refine W.block ?_
        refine W.loop (fun g_ env_ w_ => ∃ (x6697 : Int), env_ 3 = .pointer (some ⟨g15, 0, none⟩) ∧ env_ 7 = .pointer (some ⟨g92, 0, none⟩) ∧ env_ 9 = .slice A302 n304 c303 ∧ env_ 17 = .int .i64 x6697 ∧ Ctx w F D w_ F1469 [CH.row g92 0 q6, p306, CH.row g15 0 q1] ∧ juratlaw21_DocketHonest.l4 g_ a0 x301 x1474 x6697 = some o6692) k ⟨0, ho4541, ho4542, ho4543, rfl, C4544, hX6691⟩ ?_
        clear hX6691
        rintro g_ env_ w_ ⟨x6697, ho6693, ho6694, ho6695, ho6696, C6698, hX6691⟩
        rcases g_ with _ | k6734
        · exact absurd hX6691 (by simp [juratlaw21_DocketHonest.l4])
        rw [juratlaw21_DocketHonest.l4] at hX6691
        refine W.seq ?_
        refine W.seq ?_
        refine W.region rfl ?_
        refine WL.val (Yl.move (v := .int .i64 x6697) ho6696) ?_
        refine WL.val (Yl.fieldAddr (i := 1) ho6693 Try.underlying23 rfl sz3) ?_
        refine WL.val (Yl.loadV (g := g15) (off := 0) (o := 1) (cs := q1) (v := .int .i64 a0.Workers) rfl Try.underlying3 rfl (Ctx.subI 2 C6698 rfl) rfl) ?_
        refine WL.val (Yl.lss (m := x6697) (n := a0.Workers) (q := decide (x6697 < a0.Workers)) rfl rfl rfl) ?_
        refine WL.done ?_
        rcases iteE hX6691 with ⟨hc6735, hX6691⟩ | ⟨hc6735, hX6691⟩
        ·refine W.condT (congrArg Value.bool (decide_eq_true hc6735)) ?_
         refine W.skip ?_
         refine W.seq ?_
         refine W.block ?_
         refine W.seq ?_
         refine W.region rfl ?_
         refine WL.val (Yl.fieldAddr (i := 3) ho6694 Try.underlying32 rfl sz30) ?_
         refine WL.val (Yl.loadV (g := g92) (off := 0) (o := 3) (cs := q6) (v := .slice A1496 n1498 c1497) rfl Try.underlying30 rfl (Ctx.subI 0 C6698 rfl) rfl) ?_
         refine WL.val (Yl.move (v := .int .i64 x6697) ho6696) ?_
         obtain ⟨hc6744, hX6691⟩ := guardE hX6691
         obtain ⟨b6745, of6746, hA6747, he6748⟩ := hS1502 (by omega)
         refine WL.val (Yl.elemAddr (i := x6697) rfl rfl hA6747 Try.underlying30 sz4 (by omega)) ?_
         obtain ⟨cs6749, hr6750, hx6751⟩ := he6748 x6697.toNat _ (getD_some (d := false) (by omega))
         obtain rfl := hr6750
         refine WL.val (Yl.load (v := .bool (x1474.Barred.getD x6697.toNat false)) rfl Try.underlying4 rfl (((C6698.fro)).cell (hx6751 0 _ rfl))) ?_
         refine WL.val (Yl.move (v := .bool (x1474.Barred.getD x6697.toNat false)) rfl) ?_
         obtain ⟨g6752, HE6753, hX6691⟩ := bindE hX6691
         refine WL.cut (fun env_ w_ => env_ 182 = .bool g6752 ∧ env_ 3 = .pointer (some ⟨g15, 0, none⟩) ∧ env_ 7 = .pointer (some ⟨g92, 0, none⟩) ∧ env_ 9 = .slice A302 n304 c303 ∧ env_ 17 = .int .i64 x6697 ∧ Ctx w F D w_ F1469 [CH.row g92 0 q6, p306, CH.row g15 0 q1]) ?_ ?_
         ·rcases iteE HE6753 with ⟨hc6754, HE6753⟩ | ⟨hc6754, HE6753⟩
          ·refine WL.valOn rfl (congrArg Value.bool hc6754) (Yl.move (v := .slice A302 n304 c303) ho6695) ?_
           refine WL.valOn rfl (congrArg Value.bool hc6754) (Yl.move (v := .int .i64 x6697) ho6696) ?_
           obtain ⟨hc6755, HE6753⟩ := guardE HE6753
           obtain ⟨b6756, of6757, hA6758, he6759⟩ := (Row.sl hR2477) (by omega)
           refine WL.valOn rfl (congrArg Value.bool hc6754) (Yl.elemAddr (i := x6697) rfl rfl hA6758 Try.underlying30 sz4 (by omega)) ?_
           obtain ⟨cs6760, hr6761, hx6762⟩ := he6759 x6697.toNat _ (getD_some (d := false) (by omega))
           obtain rfl := hr6761
           refine WL.valOn rfl (congrArg Value.bool hc6754) (Yl.load (v := .bool (x301.getD x6697.toNat false)) rfl Try.underlying4 rfl (((Ctx.subI 1 C6698 rfl)).cell (hx6762 0 _ rfl))) ?_
           refine WL.valOn rfl (congrArg Value.bool hc6754) (Yl.not (p := x301.getD x6697.toNat false) (q := !(x301.getD x6697.toNat false)) rfl rfl) ?_
           refine WL.val (Yl.pickT (v := .bool (!(x301.getD x6697.toNat false))) (congrArg Value.bool hc6754) rfl) ?_
           cases HE6753
           exact WL.done ⟨rfl, ho6693, ho6694, ho6695, ho6696, C6698⟩
          ·refine WL.offs 5 176 true (congrArg Value.bool (Bool.eq_false_iff.2 hc6754)) rfl ?_
           refine WL.val (Yl.pickF (v := .bool false) (congrArg Value.bool (Bool.eq_false_iff.2 hc6754)) rfl) ?_
           cases HE6753
           exact WL.done ⟨rfl, ho6693, ho6694, ho6695, ho6696, C6698⟩
         ·rintro env_ w_ ⟨ho6763, ho6764, ho6765, ho6766, ho6767, C6768⟩
          rcases iteE hX6691 with ⟨hc6769, hX6691⟩ | ⟨hc6769, hX6691⟩
          ·refine W.condT (ho6763.trans (congrArg Value.bool hc6769)) ?_
           refine W.seq ?_
           refine W.region rfl ?_
           refine WL.val (Yl.assign (v := .bool false) rfl) ?_
           refine WL.done ?_
           refine W.ret ?_
           refine inB_r ?_
           refine thenE_r ?_
           refine thenE_r ?_
           refine inB_r ?_
           refine thenE_r ?_
           refine thenE_r ?_
           cases hX6691
           replace H := sumE_r H
           have C6770 : Ctx _ _ _ _ _ [] := Ctx.pick [] C6768 rfl
           have e6771 := Option.some.inj H
           subst e6771
           exact post_r (resE1 rfl rfl) ⟨rfl, (Ctx.weak C6770 (CH.le_refl _))⟩
          ·refine W.condF (ho6763.trans (congrArg Value.bool (Bool.eq_false_iff.2 hc6769))) ?_
           refine W.skip ?_
           refine inB_n ?_
           refine W.region rfl ?_
           refine WL.val (Yl.move (v := .int .i64 x6697) ho6767) ?_
           refine WL.val (Yl.add (m := x6697) (n := 1) (r := wi64 (x6697 + 1)) rfl rfl rfl) ?_
           refine WL.val (Yl.assign (v := .int .i64 (wi64 (x6697 + 1))) rfl) ?_
           refine WL.done ?_
           exact thenE_n ⟨k6734, Nat.lt_succ_self _, wi64 (x6697 + 1), ho6764, ho6765, ho6766, rfl, C6768, hX6691⟩
        ·refine W.condF (congrArg Value.bool (decide_eq_false hc6735)) ?_
         refine W.exit ?_
         refine thenE_x ?_
         refine thenE_x ?_
         refine inB_here ?_
         cases hX6691
         refine thenE_n ?_
         exact ⟨C6698, rfl⟩
       ·rintro env_ w_ ⟨C6690, rfl⟩
        replace H := sumE_l H
        refine W.seq ?_
        refine W.region rfl ?_
        obtain ⟨r6773, hg6772, H⟩ := bindE H
        refine WL.callH (juratlaw21_awake.calls k _ F1469  (Ctx.pre (qs := []) (rest := [CH.row g92 0 q6, p306, CH.row g15 0 q1]) C6690)  r6773 hg6772) (Yenter.fn Try.func8 (by kernel_rfl) rfl (argsE .nil)) ?_
        rintro e_ w_ ⟨rfl, C6774⟩
        refine ⟨_, rfl, ?_⟩
        have C6775 : Ctx _ _ _ _ _ [CH.row g92 0 q6, p306, CH.row g15 0 q1] := Ctx.call (qs := []) (rest := [CH.row g92 0 q6, p306, CH.row g15 0 q1]) C6690 C6774
        refine WL.val (Yl.assign (v := .bool r6773) rfl) ?_
        refine WL.done ?_
        refine W.ret ?_
        have C6776 : Ctx _ _ _ _ _ [] := Ctx.pick [] C6775 rfl
        have e6777 := Option.some.inj H
        subst e6777
        exact post_r (resE1 rfl rfl) ⟨rfl, (Ctx.weak C6776 (CH.le_refl _))⟩
      ·refine W.condT (congrArg Value.bool (ndec_f hc6612)) ?_
       refine W.seq ?_
       refine W.region rfl ?_
       refine WL.val (Yl.assign (v := .bool false) rfl) ?_
       refine WL.done ?_
       refine W.ret ?_
       refine thenE_r ?_
       have C6778 : Ctx _ _ _ _ _ [] := Ctx.pick [] C4544 rfl
       have e6779 := Option.some.inj H
       subst e6779
       exact post_r (resE1 rfl rfl) ⟨rfl, (Ctx.weak C6778 (CH.le_refl _))⟩
end Go.Proofs.Ytobdpbnadjkhiaa
