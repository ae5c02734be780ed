/- Functions of the program: each as a plain function of numbers and lists, and the proof that the program's own comes to it. Nothing is assumed but what each theorem says. -/
import Derived.Test.YtobdpbnadjkhiaaGreatTGe
import Derived.Test.YtobdpbnadjkhiaaGreatTGc
namespace Go.Proofs.YtobdpbnadjkhiaaGreat
open Go.RowKit Go.WG
set_option linter.unusedVariables false
set_option linter.unusedSimpArgs false
def docket_work_vote.l1 : Nat → List Int → Int → Twork → Option Twork
  | 0, _, _, _ => none
  | k + 1, r316, x489, x490 => if x489 < (r316.length : Int) then (if 0 ≤ x489 ∧ x489 < (r316.length : Int) then (if 0 ≤ (r316.getD x489.toNat 0) ∧ (r316.getD x489.toNat 0) < (x490.State.Barred.length : Int) then (docket_work_vote.l1 k r316 (wi64 (x489 + 1)) (⟨x490.c, (⟨x490.State.Eras, x490.State.Jobs, x490.State.Used, x490.State.Barred.set (r316.getD x489.toNat 0).toNat true, x490.State.Heads⟩ : TState)⟩ : Twork)) else none) else none) else (some x490)
def docket_work_vote.f (k : Nat) (a0 : Twork) (a1 : TRecord) : Option (Int × Twork) := (docket_work_job.f k a0 a1).bind fun ⟨r48, r49⟩ => if 0 ≤ r48 ∧ r48 < (a0.State.Jobs.length : Int) then (if r49 = 0 then (if ((a0.State.Jobs.getD r48.toNat TJob.z).State) = 1 then (some (212, a0)) else ((docket_asked.f k (a0.State.Jobs.getD r48.toNat TJob.z) a1.By).bind fun r106 => if r106 = true then ((tally_Cast.f k ((a0.State.Jobs.getD r48.toNat TJob.z).Votes) (⟨a1.By, a1.Data⟩ : TCast)).bind fun ⟨r129, r130⟩ => if r130 = 0 then ((some (a0.State.Jobs.set r48.toNat ({ a0.State.Jobs.getD r48.toNat TJob.z with Votes := r129 }))).bind fun xs199 => (tally_Decide.f k r129 a0.c.Faulty).bind fun ⟨r203, r204⟩ => if r204 = true then ((some (xs199.set r48.toNat ({ xs199.getD r48.toNat TJob.z with State := 3 }))).bind fun xs256 => (some (xs256.set r48.toNat ({ xs256.getD r48.toNat TJob.z with Value := r203 }))).bind fun xs312 => (tally_Liars.f k r129 r203).bind fun r316 => (docket_work_vote.l1 k r316 0 (⟨a0.c, (⟨a0.State.Eras, xs312, a0.State.Used, a0.State.Barred, a0.State.Heads⟩ : TState)⟩ : Twork)).bind fun x430 => some (0, x430)) else (some (0, (⟨a0.c, (⟨a0.State.Eras, xs199, a0.State.Used, a0.State.Barred, a0.State.Heads⟩ : TState)⟩ : Twork)))) else (some (r130, a0))) else (some (214, a0)))) else (some (r49, a0))) else (if r49 = 0 then (if False then (none) else none) else (some (r49, a0)))
set_option maxRecDepth 100000 in
set_option maxHeartbeats 4000000 in
theorem docket_work_vote.calls (k : Nat) (w : World) (F : CH) (g1 : Nat) (o2 : Nat) (A3 : Option Addr) (c4 : Nat) (n5 : Nat) (p7 : CH) (A9 : Option Addr) (c10 : Nat) (n11 : Nat) (p13 : CH) (A15 : Option Addr) (c16 : Nat) (n17 : Nat) (p19 : CH) (A21 : Option Addr) (c22 : Nat) (n23 : Nat) (p25 : CH) (a0 : Twork) (A28 : Option Addr) (c29 : Nat) (n30 : Nat) (a1 : TRecord) (hp : Pre w F [CH.row g1 o2 [.int .i64 a0.c.Faulty, .int .i64 a0.c.Workers, .int .i64 a0.c.Height, .int .i64 a0.c.Bits, .int .i64 a0.c.Jobs, .int .i64 a0.c.Term, .int .i64 a0.c.Heads, .slice A3 n5 c4, .slice A9 n11 c10, .slice A15 n17 c16, .slice A21 n23 c22, .int .i64 a0.State.Heads], p7, p13, p19, p25]) (hn6 : n5 = a0.State.Eras.length) (hR8 : Row TEra.K F p7 (.slice A3 n5 c4) a0.State.Eras) (hn12 : n11 = a0.State.Jobs.length) (hR14 : Row TJob.K F p13 (.slice A9 n11 c10) a0.State.Jobs) (hn18 : n17 = a0.State.Used.length) (hR20 : Row (Kd.int .i64) F p19 (.slice A15 n17 c16) a0.State.Used) (hn24 : n23 = a0.State.Barred.length) (hR26 : Row Kd.bool F p25 (.slice A21 n23 c22) a0.State.Barred) (ha27 : a1.Nonce.length = 32) (hn31 : n30 = a1.Data.length) (hl32 : a1.Data.length ≤ c29) (hm33 : c29 ≤ maxLen) (hS34 : Sl (Kd.int .u8) F F A28 a1.Data) (r0_ : Int) (r1_ : Twork) (H : docket_work_vote.f k a0 a1 = some (r0_, r1_)) :
    Calls Tryz.prog 67 #[.pointer (some ⟨g1, o2, none⟩), .agg (List.toArray ([.int .i64 a1.Kind, .int .i64 a1.Epoch] ++ (a1.Nonce.map (Value.int .u8) ++ [.slice A28 n30 c29, .int .i64 a1.Job, .int .i64 a1.Time, .int .i64 a1.By])))] w fun e w' => ∃ (F' : CH) (A582 : Option Addr) (c583 : Nat) (n584 : Nat) (p586 : CH) (A588 : Option Addr) (c589 : Nat) (n590 : Nat) (p592 : CH) (A594 : Option Addr) (c595 : Nat) (n596 : Nat) (p598 : CH) (A600 : Option Addr) (c601 : Nat) (n602 : Nat) (p604 : CH), e = .returned (.int .i64 r0_) ∧ CH.le F F' ∧ Ctx w F (domL [CH.row g1 o2 [.int .i64 a0.c.Faulty, .int .i64 a0.c.Workers, .int .i64 a0.c.Height, .int .i64 a0.c.Bits, .int .i64 a0.c.Jobs, .int .i64 a0.c.Term, .int .i64 a0.c.Heads, .slice A3 n5 c4, .slice A9 n11 c10, .slice A15 n17 c16, .slice A21 n23 c22, .int .i64 a0.State.Heads], p7, p13, p19, p25]) w' F' [CH.row g1 o2 [.int .i64 r1_.c.Faulty, .int .i64 r1_.c.Workers, .int .i64 r1_.c.Height, .int .i64 r1_.c.Bits, .int .i64 r1_.c.Jobs, .int .i64 r1_.c.Term, .int .i64 r1_.c.Heads, .slice A582 n584 c583, .slice A588 n590 c589, .slice A594 n596 c595, .slice A600 n602 c601, .int .i64 r1_.State.Heads], p586, p592, p598, p604] ∧ n584 = r1_.State.Eras.length ∧ Row TEra.K F' p586 (.slice A582 n584 c583) r1_.State.Eras ∧ n590 = r1_.State.Jobs.length ∧ Row TJob.K F' p592 (.slice A588 n590 c589) r1_.State.Jobs ∧ n596 = r1_.State.Used.length ∧ Row (Kd.int .i64) F' p598 (.slice A594 n596 c595) r1_.State.Used ∧ n602 = r1_.State.Barred.length ∧ Row Kd.bool F' p604 (.slice A600 n602 c601) r1_.State.Barred := by
 have C := Ctx.start hp
 generalize hD : domL [CH.row g1 o2 [.int .i64 a0.c.Faulty, .int .i64 a0.c.Workers, .int .i64 a0.c.Height, .int .i64 a0.c.Bits, .int .i64 a0.c.Jobs, .int .i64 a0.c.Term, .int .i64 a0.c.Heads, .slice A3 n5 c4, .slice A9 n11 c10, .slice A15 n17 c16, .slice A21 n23 c22, .int .i64 a0.State.Heads], p7, p13, p19, p25] = D at C ⊢
 unfold docket_work_vote.f at H
 refine Calls.ofW Tryz.func67 rfl (by simp [Tryz.ntmps67]) ?_
 refine W.seq ?_
 refine W.region rfl ?_
 let q1 : List Go.Value := [.int .i64 a1.Kind, .int .i64 a1.Epoch] ++ (a1.Nonce.map (Value.int .u8) ++ [.slice A28 n30 c29, .int .i64 a1.Job, .int .i64 a1.Time, .int .i64 a1.By])
 obtain ⟨g35, w36, hy37, C38⟩ := ev_box (P := Tryz.prog) 26 (.agg (List.toArray q1)) q1 C rfl
 refine WL.val (hy37 _ _ _ rfl) ?_
 refine WL.run to 1 rfl ?_
 refine WL.done ?_
 refine W.seq ?_
 refine W.region rfl ?_
 refine WL.run to 1 rfl ?_
 refine WL.val (Yl.loadVA (g := g35) (off := 0) (o := 0) (cs := q1) (us := q1) rfl Tryz.underlying26 rfl (sz_of sz26 (len_app rfl (len_app (len_map ha27) rfl))) (Ctx.subI 0 C38 rfl) (take_all _)) ?_
 let q2 : List Go.Value := [.int .i64 a0.c.Faulty, .int .i64 a0.c.Workers, .int .i64 a0.c.Height, .int .i64 a0.c.Bits, .int .i64 a0.c.Jobs, .int .i64 a0.c.Term, .int .i64 a0.c.Heads, .slice A3 n5 c4, .slice A9 n11 c10, .slice A15 n17 c16, .slice A21 n23 c22, .int .i64 a0.State.Heads]
 obtain ⟨F39, le40, ⟨lp42, lp43, lp44, lp45, lp46, _⟩, C41⟩ := Ctx.lend [CH.row g1 o2 q2, p7, p13, p19, p25] (ps := [CH.row g35 0 q1]) (Ctx.pick [1, 2, 3, 4, 5, 0] C38 rfl)
 obtain ⟨⟨r48, r49⟩, hg47, H⟩ := bindE H
 refine WL.callH (docket_work_job.calls k _ F39 g1 o2 A3 c4 n5 A9 c10 n11 A15 c16 n17 A21 c22 n23 a0 A28 c29 n30 a1 (Ctx.pre (qs := []) (rest := [CH.row g35 0 q1]) C41) hn6 (Row.len_le hR8).1 (Row.len_le hR8).2.1 (Sl.mono (Row.sl hR8) le40 lp43) hn12 (Row.len_le hR14).1 (Row.len_le hR14).2.1 (Sl.mono (Row.sl hR14) le40 lp44) hn18 (Row.len_le hR20).1 (Row.len_le hR20).2.1 (Sl.mono (Row.sl hR20) le40 lp45) hn24 (Row.len_le hR26).1 (Row.len_le hR26).2.1 (Sl.mono (Row.sl hR26) le40 lp46) lp42 ha27 hn31 hl32 hm33 (Sl.mono hS34 le40 le40) r48 r49 hg47) (Yenter.fn Tryz.func79 (by kernel_rfl) rfl (argsE (.cons rfl (.cons rfl .nil)))) ?_
 rintro e_ w_ ⟨rfl, C50⟩
 refine ⟨_, rfl, ?_⟩
 have C51 : Ctx _ _ _ _ _ [CH.row g35 0 q1, CH.row g1 o2 q2, p7, p13, p19, p25] := Ctx.callL (qs := []) (rest := [CH.row g35 0 q1, CH.row g1 o2 q2, p7, p13, p19, p25]) C38 le40 C50
 refine WL.run to 1 rfl ?_
 refine WL.val (Yl.extract (v := elp A9 n11 9 r48) rfl rfl) ?_
 refine WL.run to 1 rfl ?_
 rcases iteE H with ⟨hc52, H⟩ | ⟨hc52, H⟩
 ·obtain ⟨b53, of54, hA55, he56⟩ := (Row.sl hR14) (by omega)
  refine WL.val (Yl.assign (v := .pointer (some ⟨b53, of54 + r48.toNat * 9, none⟩)) (elp_eq hA55 hc52 hn12)) ?_
  refine WL.run to 1 rfl ?_
  refine WL.done ?_
  refine W.seq ?_
  refine W.block ?_
  refine W.seq ?_
  refine W.region rfl ?_
  refine WL.run to 3 rfl ?_
  refine WL.done ?_
  rcases iteE H with ⟨hc57, H⟩ | ⟨hc57, H⟩
  ·refine W.condF (congrArg Value.bool (ndec_t hc57)) ?_
   refine W.seq ?_
   refine W.region rfl ?_
   refine WL.run to 3 rfl ?_
   obtain ⟨cs58, hr59, hx60⟩ := he56 r48.toNat _ (getD_some (d := TJob.z) (by omega))
   obtain ⟨A61, c62, n63, A68, c69, n70, A75, c76, n77, A82, c83, n84, A89, c90, n91, rfl, hn64, hl65, hm66, hS67, hn71, hl72, hm73, hS74, hn78, hl79, hm80, hS81, hn85, hl86, hm87, hS88, hn92, hl93, hm94, hS95⟩ := TJob.open hr59
   refine WL.val (Yl.load (v := .int .i64 ((a0.State.Jobs.getD r48.toNat TJob.z).State)) rfl Tryz.underlying3 rfl (((Ctx.subI 3 C51 rfl)).cell (hx60 1 _ rfl))) ?_
   refine WL.run to 2 rfl ?_
   refine WL.done ?_
   rcases iteE H with ⟨hc96, H⟩ | ⟨hc96, H⟩
   ·refine W.condT (congrArg Value.bool (decide_eq_true hc96)) ?_
    refine W.seq ?_
    refine W.region rfl ?_
    refine WL.run to 1 rfl ?_
    refine WL.done ?_
    refine W.ret ?_
    refine inB_r ?_
    refine thenE_r ?_
    have C97 : Ctx _ _ _ _ _ [CH.row g1 o2 q2, p7, p13, p19, p25] := Ctx.pick [1, 2, 3, 4, 5] C51 rfl
    simp only [Option.some.injEq, Prod.mk.injEq] at H
    obtain ⟨e98, e99⟩ := H
    subst e98 e99
    exact post_r (resE1 rfl rfl) ⟨F, A3, c4, n5, p7, A9, c10, n11, p13, A15, c16, n17, p19, A21, c22, n23, p25, rfl, (CH.le_refl _), C97, hn6, hR8, hn12, hR14, hn18, hR20, hn24, hR26⟩
   ·refine W.condF (congrArg Value.bool (decide_eq_false hc96)) ?_
    refine W.seq ?_
    refine W.regionA [([5], p13), ([5], CH.row g35 0 q1)] (by kernel_rfl) ?_
    have C104 := Ctx.drewN C51 1
    refine WA.takes [(0, none), (1, none), (2, some 0), (3, none), (4, some 1)] ⟨(Ctx.subI 3 C104 rfl), (Ctx.subI 0 C104 rfl), trivial⟩ (by kernel_rfl) ?_
    refine WT.run to 2 rfl ?_
    let q3 : List Go.Value := [.slice A61 n63 c62, .int .i64 ((a0.State.Jobs.getD r48.toNat TJob.z).State), .int .i64 ((a0.State.Jobs.getD r48.toNat TJob.z).Attempt), .int .i64 ((a0.State.Jobs.getD r48.toNat TJob.z).Epoch), .int .i64 ((a0.State.Jobs.getD r48.toNat TJob.z).Until), .slice A68 n70 c69, .slice A75 n77 c76, .slice A82 n84 c83, .slice A89 n91 c90]
    refine WT.val rfl (fun _ hC_ => Yl.loadAgg (cs := q3) rfl Tryz.underlying63 rfl sz63 (fun j u hu => by rw [add_of]; exact ((show Sub p13 _ from hC_)).cell (hx60 _ _ hu))) ?_
    refine WT.run to 1 rfl ?_
    refine WT.val rfl (fun _ hC_ => Yl.loadV (g := g35) (off := 0) (o := 37) (cs := q1) (v := .int .i64 a1.By) rfl Tryz.underlying3 rfl (show Sub (CH.row g35 0 q1) _ from hC_) (at_skip 2 35 rfl (at_skip 32 3 (len_map ha27) rfl))) ?_
    refine WT.done ?_
    obtain ⟨r106, hg105, H⟩ := bindE H
    refine WA.up1 5 (by kernel_rfl) (Up.callH rfl (by kernel_rfl) rfl (docket_asked.calls k _ F A61 c62 n63 A68 c69 n70 A75 c76 n77 A82 c83 n84 A89 c90 n91 (a0.State.Jobs.getD r48.toNat TJob.z) a1.By (Ctx.pre (qs := []) (rest := [CH.row g35 0 q1, CH.row g1 o2 q2, p7, p13, p19, p25]) C104) hn64 hl65 hm66 hS67 hn71 hl72 hm73 hS74 hn78 hl79 hm80 hS81 hn85 hl86 hm87 hS88 hn92 hl93 hm94 hS95 r106 hg105) (Yenter.fn Tryz.func82 (by kernel_rfl) rfl (argsE (.cons rfl (.cons rfl .nil)))) ?_)
    rintro e_ w_ ⟨rfl, C107⟩
    have C108 : Ctx _ _ _ _ _ [CH.row g35 0 q1, CH.row g1 o2 q2, p7, p13, p19, p25] := Ctx.call (qs := []) (rest := [CH.row g35 0 q1, CH.row g1 o2 q2, p7, p13, p19, p25]) C104 C107
    refine ⟨_, rfl, ⟨trivial, trivial, trivial⟩, ?_⟩
    refine WA.takes [(6, none), (7, none)] ⟨(Ctx.subI 3 C108 rfl), (Ctx.subI 0 C108 rfl), trivial⟩ (by kernel_rfl) ?_
    refine WT.run to 2 rfl ?_
    refine WT.done ?_
    refine WA.done (by kernel_rfl) ?_
    rcases iteE H with ⟨hc109, H⟩ | ⟨hc109, H⟩
    ·refine W.condF (congrArg Value.bool (nb_t hc109)) ?_
     refine W.skip ?_
     refine inB_n ?_
     refine W.seq ?_
     refine W.regionA [([9], p13), ([9], CH.row g35 0 q1)] (by kernel_rfl) ?_
     have C127 := Ctx.drewN C108 1
     refine WA.takes [(0, none), (1, none), (2, none), (3, some 0), (4, none), (5, some 1), (6, none), (7, some 1), (8, none)] ⟨(Ctx.subI 3 C127 rfl), (Ctx.subI 0 C127 rfl), trivial⟩ (by kernel_rfl) ?_
     refine WT.run to 3 rfl ?_
     refine WT.val rfl (fun _ hC_ => Yl.load (v := .slice A82 n84 c83) rfl Tryz.underlying61 rfl (((show Sub p13 _ from hC_)).cell (hx60 7 _ rfl))) ?_
     refine WT.run to 1 rfl ?_
     refine WT.val rfl (fun _ hC_ => Yl.loadV (g := g35) (off := 0) (o := 37) (cs := q1) (v := .int .i64 a1.By) rfl Tryz.underlying3 rfl (show Sub (CH.row g35 0 q1) _ from hC_) (at_skip 2 35 rfl (at_skip 32 3 (len_map ha27) rfl))) ?_
     refine WT.run to 1 rfl ?_
     refine WT.val rfl (fun _ hC_ => Yl.loadV (g := g35) (off := 0) (o := 34) (cs := q1) (v := .slice A28 n30 c29) rfl Tryz.underlying24 rfl (show Sub (CH.row g35 0 q1) _ from hC_) (at_skip 2 32 rfl (at_skip 32 0 (len_map ha27) rfl))) ?_
     refine WT.val rfl (fun _ hC_ => Yl.build (places := [(0, 1), (1, 1)]) (cs := List.toArray [.int .i64 a1.By, .slice A28 n30 c29]) Tryz.underlying96 zr96 (pl96 _ Tryz.underlying96) (partsB (.cons rfl (.cons rfl .nil))) rfl) ?_
     refine WT.done ?_
     obtain ⟨⟨r129, r130⟩, hg128, H⟩ := bindE H
     refine WA.up1 9 (by kernel_rfl) (Up.callH rfl (by kernel_rfl) rfl (tally_Cast.calls k _ F A82 c83 n84 ((a0.State.Jobs.getD r48.toNat TJob.z).Votes) A28 c29 n30 (⟨a1.By, a1.Data⟩ : TCast) (Ctx.pre (qs := []) (rest := [CH.row g35 0 q1, CH.row g1 o2 q2, p7, p13, p19, p25]) C127) hn85 hl86 hm87 hS88 hn31 hl32 hm33 hS34 r129 r130 hg128) (Yenter.fn Tryz.func83 (by kernel_rfl) rfl (argsE (.cons rfl (.cons rfl .nil)))) ?_)
     rintro e_ w_ ⟨F131, A133, c134, n135, p137, rfl, le132, C139, hn136, hR138⟩
     have C140 : Ctx _ _ _ _ _ [p137, CH.row g35 0 q1, CH.row g1 o2 q2, p7, p13, p19, p25] := Ctx.call (qs := []) (rest := [CH.row g35 0 q1, CH.row g1 o2 q2, p7, p13, p19, p25]) C127 C139
     have hR141 := Row.mono hR8 le132
     have hR142 := Row.mono hR14 le132
     have hR143 := Row.mono hR20 le132
     have hR144 := Row.mono hR26 le132
     refine ⟨_, rfl, ⟨trivial, trivial, trivial⟩, ?_⟩
     refine WA.takes [(10, none), (11, none), (12, none), (13, none), (14, none)] ⟨(Ctx.subI 4 C140 rfl), (Ctx.subI 1 C140 rfl), trivial⟩ (by kernel_rfl) ?_
     refine WT.run to 5 rfl ?_
     refine WT.done ?_
     refine WA.done (by kernel_rfl) ?_
     refine W.seq ?_
     refine W.seq ?_
     refine W.region rfl ?_
     refine WL.run to 2 rfl ?_
     refine WL.done ?_
     rcases iteE H with ⟨hc145, H⟩ | ⟨hc145, H⟩
     ·refine W.condF (congrArg Value.bool (ndec_t hc145)) ?_
      refine W.skip ?_
      refine W.seq ?_
      refine W.region rfl ?_
      refine WL.run to 4 rfl ?_
      obtain ⟨F146, le147, lp148, C149⟩ := Ctx.fzI 0 C140 rfl
      replace C149 : Ctx _ _ _ _ _ [CH.row g35 0 q1, CH.row g1 o2 q2, p7, p13, p19, p25] := C149
      obtain ⟨hl150, hm151, hS152⟩ := Row.fz hR138 le147 lp148
      have hR153 := Row.mono hR141 le147
      have hR154 := Row.mono hR142 le147
      have hR155 := Row.mono hR143 le147
      have hR156 := Row.mono hR144 le147
      have hj197 : r48.toNat < a0.State.Jobs.length := by first | omega | (simp only [List.length_set, List.length_replicate] at *; omega)
      obtain ⟨p192, w193, hy194, C195, hR196⟩ := ev_store (P := Tryz.prog) (t := 61) TJob.K [CH.row g35 0 q1, CH.row g1 o2 q2, p7] [p19, p25] C149 hR154 hA55 r48.toNat 7 hj197 TJob.z (.slice A133 n135 c134) ([.slice A133 n135 c134]) rfl (ones_of rfl) (Nat.le_of_ble_eq_true rfl) sz61 ({ a0.State.Jobs.getD r48.toNat TJob.z with Votes := r129 }) (by rintro _ h_; obtain ⟨A157, c158, n159, A164, c165, n166, A171, c172, n173, A178, c179, n180, A185, c186, n187, rfl, hn160, hl161, hm162, hS163, hn167, hl168, hm169, hS170, hn174, hl175, hm176, hS177, hn181, hl182, hm183, hS184, hn188, hl189, hm190, hS191⟩ := TJob.open h_; exact TJob.mk' _ ({ a0.State.Jobs.getD r48.toNat TJob.z with Votes := r129 }) A157 c158 n159 A164 c165 n166 A171 c172 n173 A133 c134 n135 A185 c186 n187 hn160 hl161 hm162 hS163 hn167 hl168 hm169 hS170 hn174 hl175 hm176 hS177 hn136 hl150 hm151 hS152 hn188 hl189 hm190 hS191) ⟨b53, of54 + r48.toNat * 9 + 7, none⟩ rfl
      have hn198 : n11 = (a0.State.Jobs.set r48.toNat ({ a0.State.Jobs.getD r48.toNat TJob.z with Votes := r129 })).length := by rw [List.length_set]; omega
      obtain ⟨xs199, hx200, H⟩ := bindE H
      replace hx200 := Option.some.inj hx200
      rw [hx200] at hR196 hn198
      have C201 : Ctx _ _ _ _ _ [CH.row g35 0 q1, CH.row g1 o2 q2, p7, p192, p19, p25] := C195
      refine WL.skip (hy194 _ _ _ _ rfl rfl) ?_
      refine WL.done ?_
      refine W.seq ?_
      refine W.seq ?_
      refine W.region rfl ?_
      refine WL.run to 5 rfl ?_
      refine WL.val (Yl.loadV (g := g1) (off := o2) (o := 0) (cs := q2) (v := .int .i64 a0.c.Faulty) rfl Tryz.underlying3 rfl (Ctx.subI 1 C201 rfl) rfl) ?_
      obtain ⟨⟨r203, r204⟩, hg202, H⟩ := bindE H
      refine WL.callH (tally_Decide.calls k _ F146 A133 c134 n135 r129 a0.c.Faulty (Ctx.pre (qs := []) (rest := [CH.row g35 0 q1, CH.row g1 o2 q2, p7, p192, p19, p25]) C201) hn136 hl150 hm151 hS152 r203 r204 hg202) (Yenter.fn Tryz.func84 (by kernel_rfl) rfl (argsE (.cons rfl (.cons rfl .nil)))) ?_
      rintro e_ w_ ⟨A205, c206, n207, p209, rfl, C211, hn208, hR210⟩
      refine ⟨_, rfl, ?_⟩
      have C212 : Ctx _ _ _ _ _ [p209, CH.row g35 0 q1, CH.row g1 o2 q2, p7, p192, p19, p25] := Ctx.call (qs := []) (rest := [CH.row g35 0 q1, CH.row g1 o2 q2, p7, p192, p19, p25]) C201 C211
      refine WL.run to 5 rfl ?_
      refine WL.done ?_
      refine W.seq ?_
      refine W.region rfl ?_
      refine WL.run to 1 rfl ?_
      refine WL.done ?_
      rcases iteE H with ⟨hc213, H⟩ | ⟨hc213, H⟩
      ·refine W.condT (congrArg Value.bool hc213) ?_
       refine W.seq ?_
       refine W.region rfl ?_
       refine WL.run to 5 rfl ?_
       have hj254 : r48.toNat < xs199.length := by first | omega | (simp only [List.length_set, List.length_replicate] at *; omega)
       obtain ⟨p249, w250, hy251, C252, hR253⟩ := ev_store (P := Tryz.prog) (t := 3) TJob.K [p209, CH.row g35 0 q1, CH.row g1 o2 q2, p7] [p19, p25] C212 hR196 hA55 r48.toNat 1 hj254 TJob.z (.int .i64 3) ([.int .i64 3]) rfl (ones_of rfl) (Nat.le_of_ble_eq_true rfl) sz3 ({ xs199.getD r48.toNat TJob.z with State := 3 }) (by rintro _ h_; obtain ⟨A214, c215, n216, A221, c222, n223, A228, c229, n230, A235, c236, n237, A242, c243, n244, rfl, hn217, hl218, hm219, hS220, hn224, hl225, hm226, hS227, hn231, hl232, hm233, hS234, hn238, hl239, hm240, hS241, hn245, hl246, hm247, hS248⟩ := TJob.open h_; exact TJob.mk' _ ({ xs199.getD r48.toNat TJob.z with State := 3 }) A214 c215 n216 A221 c222 n223 A228 c229 n230 A235 c236 n237 A242 c243 n244 hn217 hl218 hm219 hS220 hn224 hl225 hm226 hS227 hn231 hl232 hm233 hS234 hn238 hl239 hm240 hS241 hn245 hl246 hm247 hS248) ⟨b53, of54 + r48.toNat * 9 + 1, none⟩ rfl
       have hn255 : n11 = (xs199.set r48.toNat ({ xs199.getD r48.toNat TJob.z with State := 3 })).length := by rw [List.length_set]; omega
       obtain ⟨xs256, hx257, H⟩ := bindE H
       replace hx257 := Option.some.inj hx257
       rw [hx257] at hR253 hn255
       have C258 : Ctx _ _ _ _ _ [p209, CH.row g35 0 q1, CH.row g1 o2 q2, p7, p249, p19, p25] := C252
       refine WL.skip (hy251 _ _ _ _ rfl rfl) ?_
       refine WL.run to 2 rfl ?_
       obtain ⟨F259, le260, lp261, C262⟩ := Ctx.fzI 0 C258 rfl
       replace C262 : Ctx _ _ _ _ _ [CH.row g35 0 q1, CH.row g1 o2 q2, p7, p249, p19, p25] := C262
       obtain ⟨hl263, hm264, hS265⟩ := Row.fz hR210 le260 lp261
       have hR266 := Row.mono hR153 le260
       have hR267 := Row.mono hR253 le260
       have hR268 := Row.mono hR155 le260
       have hR269 := Row.mono hR156 le260
       have hj310 : r48.toNat < xs256.length := by first | omega | (simp only [List.length_set, List.length_replicate] at *; omega)
       obtain ⟨p305, w306, hy307, C308, hR309⟩ := ev_store (P := Tryz.prog) (t := 24) TJob.K [CH.row g35 0 q1, CH.row g1 o2 q2, p7] [p19, p25] C262 hR267 hA55 r48.toNat 8 hj310 TJob.z (.slice A205 n207 c206) ([.slice A205 n207 c206]) rfl (ones_of rfl) (Nat.le_of_ble_eq_true rfl) sz24 ({ xs256.getD r48.toNat TJob.z with Value := r203 }) (by rintro _ h_; obtain ⟨A270, c271, n272, A277, c278, n279, A284, c285, n286, A291, c292, n293, A298, c299, n300, rfl, hn273, hl274, hm275, hS276, hn280, hl281, hm282, hS283, hn287, hl288, hm289, hS290, hn294, hl295, hm296, hS297, hn301, hl302, hm303, hS304⟩ := TJob.open h_; exact TJob.mk' _ ({ xs256.getD r48.toNat TJob.z with Value := r203 }) A270 c271 n272 A277 c278 n279 A284 c285 n286 A291 c292 n293 A205 c206 n207 hn273 hl274 hm275 hS276 hn280 hl281 hm282 hS283 hn287 hl288 hm289 hS290 hn294 hl295 hm296 hS297 hn208 hl263 hm264 hS265) ⟨b53, of54 + r48.toNat * 9 + 8, none⟩ rfl
       have hn311 : n11 = (xs256.set r48.toNat ({ xs256.getD r48.toNat TJob.z with Value := r203 })).length := by rw [List.length_set]; omega
       obtain ⟨xs312, hx313, H⟩ := bindE H
       replace hx313 := Option.some.inj hx313
       rw [hx313] at hR309 hn311
       have C314 : Ctx _ _ _ _ _ [CH.row g35 0 q1, CH.row g1 o2 q2, p7, p305, p19, p25] := C308
       refine WL.skip (hy307 _ _ _ _ rfl rfl) ?_
       refine WL.done ?_
       refine W.seq ?_
       refine W.region rfl ?_
       refine WL.run to 2 rfl ?_
       obtain ⟨r316, hg315, H⟩ := bindE H
       refine WL.callH (tally_Liars.calls k _ F259 A133 c134 n135 r129 A205 c206 n207 r203 (Ctx.pre (qs := []) (rest := [CH.row g35 0 q1, CH.row g1 o2 q2, p7, p305, p19, p25]) C314) hn136 hl150 hm151 (Sl.mono hS152 le260 le260) hn208 hl263 hm264 hS265 r316 hg315) (Yenter.fn Tryz.func85 (by kernel_rfl) rfl (argsE (.cons rfl (.cons rfl .nil)))) ?_
       rintro e_ w_ ⟨A317, c318, n319, p321, rfl, C323, hn320, hR322⟩
       refine ⟨_, rfl, ?_⟩
       have C324 : Ctx _ _ _ _ _ [p321, CH.row g35 0 q1, CH.row g1 o2 q2, p7, p305, p19, p25] := Ctx.call (qs := []) (rest := [CH.row g35 0 q1, CH.row g1 o2 q2, p7, p305, p19, p25]) C314 C323
       refine WL.val (Yl.lenN (A := A317) (l := n319) (q := c318) (n := (r316.length : Int)) rfl Tryz.underlying47 (by omega)) ?_
       refine WL.run to 1 rfl ?_
       refine WL.done ?_
       obtain ⟨x430, hX456, H⟩ := bindE H
       refine W.cutM (fun env_ w_ => ∃ (A431 : Option Addr) (c432 : Nat) (n433 : Nat) (p435 : CH) (A437 : Option Addr) (c438 : Nat) (n439 : Nat) (p441 : CH) (A443 : Option Addr) (c444 : Nat) (n445 : Nat) (p447 : CH) (A449 : Option Addr) (c450 : Nat) (n451 : Nat) (p453 : CH), Ctx w F D w_ F259 [CH.row g1 o2 [.int .i64 x430.c.Faulty, .int .i64 x430.c.Workers, .int .i64 x430.c.Height, .int .i64 x430.c.Bits, .int .i64 x430.c.Jobs, .int .i64 x430.c.Term, .int .i64 x430.c.Heads, .slice A431 n433 c432, .slice A437 n439 c438, .slice A443 n445 c444, .slice A449 n451 c450, .int .i64 x430.State.Heads], p435, p441, p447, p453, p321, CH.row g35 0 q1] ∧ n433 = x430.State.Eras.length ∧ Row TEra.K F259 p435 (.slice A431 n433 c432) x430.State.Eras ∧ n439 = x430.State.Jobs.length ∧ Row TJob.K F259 p441 (.slice A437 n439 c438) x430.State.Jobs ∧ n445 = x430.State.Used.length ∧ Row (Kd.int .i64) F259 p447 (.slice A443 n445 c444) x430.State.Used ∧ n451 = x430.State.Barred.length ∧ Row Kd.bool F259 p453 (.slice A449 n451 c450) x430.State.Barred) ?_ ?_
       ·refine W.block ?_
        have C539 : Ctx _ _ _ _ _ [CH.row g1 o2 q2, p7, p305, p19, p25, p321, CH.row g35 0 q1] := Ctx.pick [2, 3, 4, 5, 6, 0, 1] C324 rfl
        refine W.loop (fun g_ env_ w_ => ∃ (x489 : Int) (x490 : Twork) (A491 : Option Addr) (c492 : Nat) (n493 : Nat) (p495 : CH) (A497 : Option Addr) (c498 : Nat) (n499 : Nat) (p501 : CH) (A503 : Option Addr) (c504 : Nat) (n505 : Nat) (p507 : CH) (A509 : Option Addr) (c510 : Nat) (n511 : Nat) (p513 : CH), env_ 0 = .pointer (some ⟨g1, o2, none⟩) ∧ env_ 76 = .slice A317 n319 c318 ∧ env_ 77 = .int .i64 (r316.length : Int) ∧ env_ 78 = .int .i64 x489 ∧ Ctx w F D w_ F259 [CH.row g1 o2 [.int .i64 x490.c.Faulty, .int .i64 x490.c.Workers, .int .i64 x490.c.Height, .int .i64 x490.c.Bits, .int .i64 x490.c.Jobs, .int .i64 x490.c.Term, .int .i64 x490.c.Heads, .slice A491 n493 c492, .slice A497 n499 c498, .slice A503 n505 c504, .slice A509 n511 c510, .int .i64 x490.State.Heads], p495, p501, p507, p513, p321, CH.row g35 0 q1] ∧ n493 = x490.State.Eras.length ∧ Row TEra.K F259 p495 (.slice A491 n493 c492) x490.State.Eras ∧ n499 = x490.State.Jobs.length ∧ Row TJob.K F259 p501 (.slice A497 n499 c498) x490.State.Jobs ∧ n505 = x490.State.Used.length ∧ Row (Kd.int .i64) F259 p507 (.slice A503 n505 c504) x490.State.Used ∧ n511 = x490.State.Barred.length ∧ Row Kd.bool F259 p513 (.slice A509 n511 c510) x490.State.Barred ∧ docket_work_vote.l1 g_ r316 x489 x490 = some x430) k ⟨0, (⟨a0.c, (⟨a0.State.Eras, xs312, a0.State.Used, a0.State.Barred, a0.State.Heads⟩ : TState)⟩ : Twork), A3, c4, n5, p7, A9, c10, n11, p305, A15, c16, n17, p19, A21, c22, n23, p25, rfl, rfl, rfl, rfl, C539, hn6, hR266, hn311, hR309, hn18, hR268, hn24, hR269, hX456⟩ ?_
        clear hX456
        rintro g_ env_ w_ ⟨x489, x490, A491, c492, n493, p495, A497, c498, n499, p501, A503, c504, n505, p507, A509, c510, n511, p513, ho485, ho486, ho487, ho488, C515, hn494, hR496, hn500, hR502, hn506, hR508, hn512, hR514, hX456⟩
        rcases g_ with _ | k538
        · exact absurd hX456 (by simp [docket_work_vote.l1])
        rw [docket_work_vote.l1] at hX456
        apply kn env_ (.c ho485 (.c ho486 (.c ho487 (.c ho488 .n))))
        refine W.seq ?_
        refine W.region rfl ?_
        refine WL.run to 1 rfl ?_
        refine WL.done ?_
        refine W.seq ?_
        rcases iteE hX456 with ⟨hc540, hX456⟩ | ⟨hc540, hX456⟩
        ·refine W.condT (congrArg Value.bool (decide_eq_true hc540)) ?_
         refine W.skip ?_
         refine W.seq ?_
         refine W.block ?_
         refine W.seq ?_
         refine W.region rfl ?_
         obtain ⟨hc541, hX456⟩ := guardE hX456
         obtain ⟨b542, of543, hA544, he545⟩ := (Row.sl hR322) (by omega)
         refine WL.val (Yl.elemAddr (i := x489) rfl rfl hA544 Tryz.underlying47 sz3 (by omega)) ?_
         obtain ⟨cs546, hr547, hx548⟩ := he545 x489.toNat _ (getD_some (d := 0) (by omega))
         obtain rfl := hr547
         refine WL.val (Yl.load (v := .int .i64 (r316.getD x489.toNat 0)) rfl Tryz.underlying3 rfl (((Ctx.subI 5 C515 rfl)).cell (hx548 0 _ rfl))) ?_
         refine WL.run to 1 rfl ?_
         refine WL.done ?_
         refine W.region rfl ?_
         refine WL.run to 4 rfl ?_
         let q4 : List Go.Value := [.int .i64 x490.c.Faulty, .int .i64 x490.c.Workers, .int .i64 x490.c.Height, .int .i64 x490.c.Bits, .int .i64 x490.c.Jobs, .int .i64 x490.c.Term, .int .i64 x490.c.Heads, .slice A491 n493 c492, .slice A497 n499 c498, .slice A503 n505 c504, .slice A509 n511 c510, .int .i64 x490.State.Heads]
         refine WL.val (Yl.loadV (g := g1) (off := o2) (o := 10) (cs := q4) (v := .slice A509 n511 c510) rfl Tryz.underlying48 rfl (Ctx.subI 0 C515 rfl) rfl) ?_
         refine WL.run to 1 rfl ?_
         obtain ⟨hc549, hX456⟩ := guardE hX456
         obtain ⟨b550, of551, hA552, he553⟩ := (Row.sl hR514) (by omega)
         refine WL.val (Yl.elemAddr (i := r316.getD x489.toNat 0) rfl rfl hA552 Tryz.underlying48 sz4 (by omega)) ?_
         have hj559 : (r316.getD x489.toNat 0).toNat < x490.State.Barred.length := by first | omega | (simp only [List.length_set, List.length_replicate] at *; omega)
         obtain ⟨p554, w555, hy556, C557, hR558⟩ := ev_store (P := Tryz.prog) (t := 4) Kd.bool [CH.row g1 o2 q4, p495, p501, p507] [p321, CH.row g35 0 q1] C515 hR514 hA552 (r316.getD x489.toNat 0).toNat 0 hj559 false (.bool true) ([.bool true]) rfl (ones_of rfl) (Nat.le_of_ble_eq_true rfl) sz4 (true) (fun _ h_ => rep_whole h_ rfl) ⟨b550, of551 + (r316.getD x489.toNat 0).toNat * 1, none⟩ rfl
         have hn560 : n511 = (x490.State.Barred.set (r316.getD x489.toNat 0).toNat true).length := by rw [List.length_set]; omega
         have C561 : Ctx _ _ _ _ _ [CH.row g1 o2 q4, p495, p501, p507, p554, p321, CH.row g35 0 q1] := C557
         refine WL.skip (hy556 _ _ _ _ rfl rfl) ?_
         refine WL.done ?_
         refine inB_n ?_
         refine W.region rfl ?_
         refine WL.run to 2 rfl ?_
         refine WL.done ?_
         exact thenE_n ⟨k538, Nat.lt_succ_self _, wi64 (x489 + 1), (⟨x490.c, (⟨x490.State.Eras, x490.State.Jobs, x490.State.Used, x490.State.Barred.set (r316.getD x489.toNat 0).toNat true, x490.State.Heads⟩ : TState)⟩ : Twork), A491, c492, n493, p495, A497, c498, n499, p501, A503, c504, n505, p507, A509, c510, n511, p554, rfl, rfl, rfl, rfl, C561, hn494, hR496, hn500, hR502, hn506, hR508, hn560, hR558, hX456⟩
        ·refine W.condF (congrArg Value.bool (decide_eq_false hc540)) ?_
         refine W.exit ?_
         refine thenE_x ?_
         refine thenE_x ?_
         refine inB_here ?_
         cases hX456
         refine thenE_n ?_
         exact ⟨A491, c492, n493, p495, A497, c498, n499, p501, A503, c504, n505, p507, A509, c510, n511, p513, C515, hn494, hR496, hn500, hR502, hn506, hR508, hn512, hR514⟩
       ·rintro env_ w_ ⟨A431, c432, n433, p435, A437, c438, n439, p441, A443, c444, n445, p447, A449, c450, n451, p453, C455, hn434, hR436, hn440, hR442, hn446, hR448, hn452, hR454⟩
        refine W.seq ?_
        refine W.region rfl ?_
        refine WL.run to 1 rfl ?_
        refine WL.done ?_
        refine W.ret ?_
        let q5 : List Go.Value := [.int .i64 x430.c.Faulty, .int .i64 x430.c.Workers, .int .i64 x430.c.Height, .int .i64 x430.c.Bits, .int .i64 x430.c.Jobs, .int .i64 x430.c.Term, .int .i64 x430.c.Heads, .slice A431 n433 c432, .slice A437 n439 c438, .slice A443 n445 c444, .slice A449 n451 c450, .int .i64 x430.State.Heads]
        have C562 : Ctx _ _ _ _ _ [CH.row g1 o2 q5, p435, p441, p447, p453] := Ctx.pick [0, 1, 2, 3, 4] C455 rfl
        simp only [Option.some.injEq, Prod.mk.injEq] at H
        obtain ⟨e563, e564⟩ := H
        subst e563 e564
        exact post_r (resE1 rfl rfl) ⟨F259, A431, c432, n433, p435, A437, c438, n439, p441, A443, c444, n445, p447, A449, c450, n451, p453, rfl, (CH.le_trans le132 (CH.le_trans le147 le260)), C562, hn434, hR436, hn440, hR442, hn446, hR448, hn452, hR454⟩
      ·refine W.condF (congrArg Value.bool (Bool.eq_false_iff.2 hc213)) ?_
       refine W.skip ?_
       refine W.seq ?_
       refine W.region rfl ?_
       refine WL.run to 1 rfl ?_
       refine WL.done ?_
       refine W.ret ?_
       have C565 : Ctx _ _ _ _ _ [CH.row g1 o2 q2, p7, p192, p19, p25] := Ctx.pick [2, 3, 4, 5, 6] C212 rfl
       simp only [Option.some.injEq, Prod.mk.injEq] at H
       obtain ⟨e566, e567⟩ := H
       subst e566 e567
       exact post_r (resE1 rfl rfl) ⟨F146, A3, c4, n5, p7, A9, c10, n11, p192, A15, c16, n17, p19, A21, c22, n23, p25, rfl, (CH.le_trans le132 le147), C565, hn6, hR153, hn198, hR196, hn18, hR155, hn24, hR156⟩
     ·refine W.condT (congrArg Value.bool (ndec_f hc145)) ?_
      refine W.seq ?_
      refine W.region rfl ?_
      refine WL.run to 2 rfl ?_
      refine WL.done ?_
      refine W.ret ?_
      refine thenE_r ?_
      have C568 : Ctx _ _ _ _ _ [CH.row g1 o2 q2, p7, p13, p19, p25] := Ctx.pick [2, 3, 4, 5, 6] C140 rfl
      simp only [Option.some.injEq, Prod.mk.injEq] at H
      obtain ⟨e569, e570⟩ := H
      subst e569 e570
      exact post_r (resE1 rfl rfl) ⟨F131, A3, c4, n5, p7, A9, c10, n11, p13, A15, c16, n17, p19, A21, c22, n23, p25, rfl, le132, C568, hn6, hR141, hn12, hR142, hn18, hR143, hn24, hR144⟩
    ·refine W.condT (congrArg Value.bool (nb_f hc109)) ?_
     refine W.seq ?_
     refine W.region rfl ?_
     refine WL.run to 1 rfl ?_
     refine WL.done ?_
     refine W.ret ?_
     refine inB_r ?_
     refine thenE_r ?_
     have C571 : Ctx _ _ _ _ _ [CH.row g1 o2 q2, p7, p13, p19, p25] := Ctx.pick [1, 2, 3, 4, 5] C108 rfl
     simp only [Option.some.injEq, Prod.mk.injEq] at H
     obtain ⟨e572, e573⟩ := H
     subst e572 e573
     exact post_r (resE1 rfl rfl) ⟨F, A3, c4, n5, p7, A9, c10, n11, p13, A15, c16, n17, p19, A21, c22, n23, p25, rfl, (CH.le_refl _), C571, hn6, hR8, hn12, hR14, hn18, hR20, hn24, hR26⟩
  ·refine W.condT (congrArg Value.bool (ndec_f hc57)) ?_
   refine W.seq ?_
   refine W.region rfl ?_
   refine WL.run to 2 rfl ?_
   refine WL.done ?_
   refine W.ret ?_
   refine inB_r ?_
   refine thenE_r ?_
   have C574 : Ctx _ _ _ _ _ [CH.row g1 o2 q2, p7, p13, p19, p25] := Ctx.pick [1, 2, 3, 4, 5] C51 rfl
   simp only [Option.some.injEq, Prod.mk.injEq] at H
   obtain ⟨e575, e576⟩ := H
   subst e575 e576
   exact post_r (resE1 rfl rfl) ⟨F, A3, c4, n5, p7, A9, c10, n11, p13, A15, c16, n17, p19, A21, c22, n23, p25, rfl, (CH.le_refl _), C574, hn6, hR8, hn12, hR14, hn18, hR20, hn24, hR26⟩
 ·refine WL.val (Yl.assign (v := .pointer none) (elp_no hc52 hn12)) ?_
  refine WL.run to 1 rfl ?_
  refine WL.done ?_
  refine W.seq ?_
  refine W.block ?_
  refine W.seq ?_
  refine W.region rfl ?_
  refine WL.run to 3 rfl ?_
  refine WL.done ?_
  rcases iteE H with ⟨hc577, H⟩ | ⟨hc577, H⟩
  ·refine W.condF (congrArg Value.bool (ndec_t hc577)) ?_
   refine W.seq ?_
   refine W.region rfl ?_
   refine WL.run to 1 rfl ?_
   obtain ⟨hc578, H⟩ := guardE H
   exact hc578.elim
  ·refine W.condT (congrArg Value.bool (ndec_f hc577)) ?_
   refine W.seq ?_
   refine W.region rfl ?_
   refine WL.run to 2 rfl ?_
   refine WL.done ?_
   refine W.ret ?_
   refine inB_r ?_
   refine thenE_r ?_
   have C579 : Ctx _ _ _ _ _ [CH.row g1 o2 q2, p7, p13, p19, p25] := Ctx.pick [1, 2, 3, 4, 5] C51 rfl
   simp only [Option.some.injEq, Prod.mk.injEq] at H
   obtain ⟨e580, e581⟩ := H
   subst e580 e581
   exact post_r (resE1 rfl rfl) ⟨F, A3, c4, n5, p7, A9, c10, n11, p13, A15, c16, n17, p19, A21, c22, n23, p25, rfl, (CH.le_refl _), C579, hn6, hR8, hn12, hR14, hn18, hR20, hn24, hR26⟩
def docket_work_assign.l1 : Nat → List Int → Int → Twork → TJob → Option (Twork × TJob)
  | 0, _, _, _, _ => none
  | k + 1, r223, x821, x822, x841 => if x821 < (r223.length : Int) then (if 0 ≤ x821 ∧ x821 < (r223.length : Int) then (if 0 ≤ (r223.getD x821.toNat 0) ∧ (r223.getD x821.toNat 0) < (x822.State.Used.length : Int) then (if (x841.Indexes.length + 1 + (x841.Indexes.length + 1) / 4 + 192) * 8 ≤ 281474976710656 then (docket_work_assign.l1 k r223 (wi64 (x821 + 1)) (⟨x822.c, (⟨x822.State.Eras, x822.State.Jobs, x822.State.Used.set (r223.getD x821.toNat 0).toNat (wi64 ((x822.State.Used.getD (r223.getD x821.toNat 0).toNat 0) + 1)), x822.State.Barred, x822.State.Heads⟩ : TState)⟩ : Twork) (⟨x841.Payload, x841.State, x841.Attempt, x841.Epoch, x841.Until, x841.Workers, x841.Indexes ++ [x822.State.Used.getD (r223.getD x821.toNat 0).toNat 0], x841.Votes, x841.Value⟩ : TJob)) else none) else none) else none) else (some (x822, x841))
def docket_work_assign.f (k : Nat) (a0 : Twork) (a1 : TRecord) : Option (Int × Twork) := (docket_work_era.f k a0).bind fun r48 => if r48 = 0 then ((docket_work_job.f k a0 a1).bind fun ⟨r124, r125⟩ => if 0 ≤ r124 ∧ r124 < (a0.State.Jobs.length : Int) then (if r125 = 0 then (if ((a0.State.Jobs.getD r124.toNat TJob.z).State) = 1 then (if a1.Time = 0 then (some (213, (⟨a0.c, (⟨a0.State.Eras, a0.State.Jobs.set r124.toNat (a0.State.Jobs.getD r124.toNat TJob.z), a0.State.Used, a0.State.Barred, a0.State.Heads⟩ : TState)⟩ : Twork))) else (if 0 ≤ a0.c.Height then ((docket_hands.f k a0.c).bind fun r214 => (crew_Pick.f k a0.State.Used a0.State.Barred (shlOp .i64 1 a0.c.Height) r214).bind fun ⟨r223, r224⟩ => if r224 = 0 then ((docket_Epoch_raw.f k a0.State).bind fun r269 => (docket_work_assign.l1 k r223 0 a0 (⟨(a0.State.Jobs.getD r124.toNat TJob.z).Payload, 2, wi64 (((a0.State.Jobs.getD r124.toNat TJob.z).Attempt) + 1), r269, a1.Time, r223, ([] : List Int), (a0.State.Jobs.getD r124.toNat TJob.z).Votes, (a0.State.Jobs.getD r124.toNat TJob.z).Value⟩ : TJob)).bind fun ⟨x651, x670⟩ => some (0, (⟨x651.c, (⟨x651.State.Eras, a0.State.Jobs.set r124.toNat x670, x651.State.Used, x651.State.Barred, x651.State.Heads⟩ : TState)⟩ : Twork))) else (some (r224, (⟨a0.c, (⟨a0.State.Eras, a0.State.Jobs.set r124.toNat (a0.State.Jobs.getD r124.toNat TJob.z), a0.State.Used, a0.State.Barred, a0.State.Heads⟩ : TState)⟩ : Twork)))) else none)) else (some (212, (⟨a0.c, (⟨a0.State.Eras, a0.State.Jobs.set r124.toNat (a0.State.Jobs.getD r124.toNat TJob.z), a0.State.Used, a0.State.Barred, a0.State.Heads⟩ : TState)⟩ : Twork)))) else (some (r125, (⟨a0.c, (⟨a0.State.Eras, a0.State.Jobs.set r124.toNat (a0.State.Jobs.getD r124.toNat TJob.z), a0.State.Used, a0.State.Barred, a0.State.Heads⟩ : TState)⟩ : Twork)))) else (if r125 = 0 then (if False then (none) else none) else (some (r125, a0)))) else (some (r48, a0))
set_option maxRecDepth 100000 in
set_option maxHeartbeats 4000000 in
theorem docket_work_assign.calls (k : Nat) (w : World) (F : CH) (g1 : Nat) (o2 : Nat) (A3 : Option Addr) (c4 : Nat) (n5 : Nat) (p7 : CH) (A9 : Option Addr) (c10 : Nat) (n11 : Nat) (p13 : CH) (A15 : Option Addr) (c16 : Nat) (n17 : Nat) (p19 : CH) (A21 : Option Addr) (c22 : Nat) (n23 : Nat) (p25 : CH) (a0 : Twork) (A28 : Option Addr) (c29 : Nat) (n30 : Nat) (a1 : TRecord) (hp : Pre w F [CH.row g1 o2 [.int .i64 a0.c.Faulty, .int .i64 a0.c.Workers, .int .i64 a0.c.Height, .int .i64 a0.c.Bits, .int .i64 a0.c.Jobs, .int .i64 a0.c.Term, .int .i64 a0.c.Heads, .slice A3 n5 c4, .slice A9 n11 c10, .slice A15 n17 c16, .slice A21 n23 c22, .int .i64 a0.State.Heads], p7, p13, p19, p25]) (hn6 : n5 = a0.State.Eras.length) (hR8 : Row TEra.K F p7 (.slice A3 n5 c4) a0.State.Eras) (hn12 : n11 = a0.State.Jobs.length) (hR14 : Row TJob.K F p13 (.slice A9 n11 c10) a0.State.Jobs) (hn18 : n17 = a0.State.Used.length) (hR20 : Row (Kd.int .i64) F p19 (.slice A15 n17 c16) a0.State.Used) (hn24 : n23 = a0.State.Barred.length) (hR26 : Row Kd.bool F p25 (.slice A21 n23 c22) a0.State.Barred) (ha27 : a1.Nonce.length = 32) (hn31 : n30 = a1.Data.length) (hl32 : a1.Data.length ≤ c29) (hm33 : c29 ≤ maxLen) (hS34 : Sl (Kd.int .u8) F F A28 a1.Data) (r0_ : Int) (r1_ : Twork) (H : docket_work_assign.f k a0 a1 = some (r0_, r1_)) :
    Calls Tryz.prog 66 #[.pointer (some ⟨g1, o2, none⟩), .agg (List.toArray ([.int .i64 a1.Kind, .int .i64 a1.Epoch] ++ (a1.Nonce.map (Value.int .u8) ++ [.slice A28 n30 c29, .int .i64 a1.Job, .int .i64 a1.Time, .int .i64 a1.By])))] w fun e w' => ∃ (F' : CH) (A1112 : Option Addr) (c1113 : Nat) (n1114 : Nat) (p1116 : CH) (A1118 : Option Addr) (c1119 : Nat) (n1120 : Nat) (p1122 : CH) (A1124 : Option Addr) (c1125 : Nat) (n1126 : Nat) (p1128 : CH) (A1130 : Option Addr) (c1131 : Nat) (n1132 : Nat) (p1134 : CH), e = .returned (.int .i64 r0_) ∧ CH.le F F' ∧ Ctx w F (domL [CH.row g1 o2 [.int .i64 a0.c.Faulty, .int .i64 a0.c.Workers, .int .i64 a0.c.Height, .int .i64 a0.c.Bits, .int .i64 a0.c.Jobs, .int .i64 a0.c.Term, .int .i64 a0.c.Heads, .slice A3 n5 c4, .slice A9 n11 c10, .slice A15 n17 c16, .slice A21 n23 c22, .int .i64 a0.State.Heads], p7, p13, p19, p25]) w' F' [CH.row g1 o2 [.int .i64 r1_.c.Faulty, .int .i64 r1_.c.Workers, .int .i64 r1_.c.Height, .int .i64 r1_.c.Bits, .int .i64 r1_.c.Jobs, .int .i64 r1_.c.Term, .int .i64 r1_.c.Heads, .slice A1112 n1114 c1113, .slice A1118 n1120 c1119, .slice A1124 n1126 c1125, .slice A1130 n1132 c1131, .int .i64 r1_.State.Heads], p1116, p1122, p1128, p1134] ∧ n1114 = r1_.State.Eras.length ∧ Row TEra.K F' p1116 (.slice A1112 n1114 c1113) r1_.State.Eras ∧ n1120 = r1_.State.Jobs.length ∧ Row TJob.K F' p1122 (.slice A1118 n1120 c1119) r1_.State.Jobs ∧ n1126 = r1_.State.Used.length ∧ Row (Kd.int .i64) F' p1128 (.slice A1124 n1126 c1125) r1_.State.Used ∧ n1132 = r1_.State.Barred.length ∧ Row Kd.bool F' p1134 (.slice A1130 n1132 c1131) r1_.State.Barred := by
 have C := Ctx.start hp
 generalize hD : domL [CH.row g1 o2 [.int .i64 a0.c.Faulty, .int .i64 a0.c.Workers, .int .i64 a0.c.Height, .int .i64 a0.c.Bits, .int .i64 a0.c.Jobs, .int .i64 a0.c.Term, .int .i64 a0.c.Heads, .slice A3 n5 c4, .slice A9 n11 c10, .slice A15 n17 c16, .slice A21 n23 c22, .int .i64 a0.State.Heads], p7, p13, p19, p25] = D at C ⊢
 unfold docket_work_assign.f at H
 refine Calls.ofW Tryz.func66 rfl (by simp [Tryz.ntmps66]) ?_
 refine W.seq ?_
 refine W.region rfl ?_
 let q1 : List Go.Value := [.int .i64 a1.Kind, .int .i64 a1.Epoch] ++ (a1.Nonce.map (Value.int .u8) ++ [.slice A28 n30 c29, .int .i64 a1.Job, .int .i64 a1.Time, .int .i64 a1.By])
 obtain ⟨g35, w36, hy37, C38⟩ := ev_box (P := Tryz.prog) 26 (.agg (List.toArray q1)) q1 C rfl
 refine WL.val (hy37 _ _ _ rfl) ?_
 refine WL.run to 1 rfl ?_
 refine WL.done ?_
 refine W.seq ?_
 refine W.region rfl ?_
 refine WL.run to 1 rfl ?_
 let q2 : List Go.Value := [.int .i64 a0.c.Faulty, .int .i64 a0.c.Workers, .int .i64 a0.c.Height, .int .i64 a0.c.Bits, .int .i64 a0.c.Jobs, .int .i64 a0.c.Term, .int .i64 a0.c.Heads, .slice A3 n5 c4, .slice A9 n11 c10, .slice A15 n17 c16, .slice A21 n23 c22, .int .i64 a0.State.Heads]
 obtain ⟨F39, le40, ⟨lp42, lp43, lp44, lp45, lp46, _⟩, C41⟩ := Ctx.lend [CH.row g1 o2 q2, p7, p13, p19, p25] (ps := [CH.row g35 0 q1]) (Ctx.pick [1, 2, 3, 4, 5, 0] C38 rfl)
 obtain ⟨r48, hg47, H⟩ := bindE H
 refine WL.callH (docket_work_era.calls k _ F39 g1 o2 A3 c4 n5 A9 c10 n11 A15 c16 n17 A21 c22 n23 a0 C41.pre0 hn6 (Row.len_le hR8).1 (Row.len_le hR8).2.1 (Sl.mono (Row.sl hR8) le40 lp43) hn12 (Row.len_le hR14).1 (Row.len_le hR14).2.1 (Sl.mono (Row.sl hR14) le40 lp44) hn18 (Row.len_le hR20).1 (Row.len_le hR20).2.1 (Sl.mono (Row.sl hR20) le40 lp45) hn24 (Row.len_le hR26).1 (Row.len_le hR26).2.1 (Sl.mono (Row.sl hR26) le40 lp46) lp42 r48 hg47) (Yenter.fn Tryz.func78 (by kernel_rfl) rfl (argsE (.cons rfl .nil))) ?_
 rintro e_ w_ ⟨rfl, ⟨m49, rfl⟩⟩
 refine ⟨_, rfl, ?_⟩
 have C50 := Ctx.drewN C38 m49
 refine WL.run to 1 rfl ?_
 refine WL.done ?_
 refine W.seq ?_
 refine W.region rfl ?_
 refine WL.run to 1 rfl ?_
 refine WL.done ?_
 refine W.seq ?_
 refine W.seq ?_
 refine W.region rfl ?_
 refine WL.run to 2 rfl ?_
 refine WL.done ?_
 rcases iteE H with ⟨hc114, H⟩ | ⟨hc114, H⟩
 ·refine W.condT (congrArg Value.bool (decide_eq_true hc114)) ?_
  refine W.region rfl ?_
  refine WL.run to 1 rfl ?_
  refine WL.val (Yl.loadVA (g := g35) (off := 0) (o := 0) (cs := q1) (us := q1) rfl Tryz.underlying26 rfl (sz_of sz26 (len_app rfl (len_app (len_map ha27) rfl))) (Ctx.subI 0 C50 rfl) (take_all _)) ?_
  obtain ⟨F115, le116, ⟨lp118, lp119, lp120, lp121, lp122, _⟩, C117⟩ := Ctx.lend [CH.row g1 o2 q2, p7, p13, p19, p25] (ps := [CH.row g35 0 q1]) (Ctx.pick [1, 2, 3, 4, 5, 0] C50 rfl)
  obtain ⟨⟨r124, r125⟩, hg123, H⟩ := bindE H
  refine WL.callH (docket_work_job.calls k _ F115 g1 o2 A3 c4 n5 A9 c10 n11 A15 c16 n17 A21 c22 n23 a0 A28 c29 n30 a1 (Ctx.pre (qs := []) (rest := [CH.row g35 0 q1]) C117) hn6 (Row.len_le hR8).1 (Row.len_le hR8).2.1 (Sl.mono (Row.sl hR8) le116 lp119) hn12 (Row.len_le hR14).1 (Row.len_le hR14).2.1 (Sl.mono (Row.sl hR14) le116 lp120) hn18 (Row.len_le hR20).1 (Row.len_le hR20).2.1 (Sl.mono (Row.sl hR20) le116 lp121) hn24 (Row.len_le hR26).1 (Row.len_le hR26).2.1 (Sl.mono (Row.sl hR26) le116 lp122) lp118 ha27 hn31 hl32 hm33 (Sl.mono hS34 le116 le116) r124 r125 hg123) (Yenter.fn Tryz.func79 (by kernel_rfl) rfl (argsE (.cons rfl (.cons rfl .nil)))) ?_
  rintro e_ w_ ⟨rfl, C126⟩
  refine ⟨_, rfl, ?_⟩
  have C127 : Ctx _ _ _ _ _ [CH.row g35 0 q1, CH.row g1 o2 q2, p7, p13, p19, p25] := Ctx.callL (qs := []) (rest := [CH.row g35 0 q1, CH.row g1 o2 q2, p7, p13, p19, p25]) C50 le116 C126
  refine WL.run to 1 rfl ?_
  refine WL.val (Yl.extract (v := elp A9 n11 9 r124) rfl rfl) ?_
  refine WL.run to 1 rfl ?_
  rcases iteE H with ⟨hc128, H⟩ | ⟨hc128, H⟩
  ·obtain ⟨b129, of130, hA131, he132⟩ := (Row.sl hR14) (by omega)
   have C133 : Ctx _ _ _ _ _ [p13, CH.row g35 0 q1, CH.row g1 o2 q2, p7, p19, p25] := Ctx.pick [3, 0, 1, 2, 4, 5] C127 rfl
   obtain ⟨pa134, pb135, cs136, hr137, C138, hput139⟩ := Row.foc hR14 hA131 C133 r124.toNat 9 rfl (by omega) TJob.z
   obtain ⟨A140, c141, n142, A147, c148, n149, A154, c155, n156, A161, c162, n163, A168, c169, n170, rfl, hn143, hl144, hm145, hS146, hn150, hl151, hm152, hS153, hn157, hl158, hm159, hS160, hn164, hl165, hm166, hS167, hn171, hl172, hm173, hS174⟩ := TJob.open hr137
   let q3 : List Go.Value := [.slice A140 n142 c141, .int .i64 ((a0.State.Jobs.getD r124.toNat TJob.z).State), .int .i64 ((a0.State.Jobs.getD r124.toNat TJob.z).Attempt), .int .i64 ((a0.State.Jobs.getD r124.toNat TJob.z).Epoch), .int .i64 ((a0.State.Jobs.getD r124.toNat TJob.z).Until), .slice A147 n149 c148, .slice A154 n156 c155, .slice A161 n163 c162, .slice A168 n170 c169]
   let v4 : CH := CH.row b129 (of130 + r124.toNat * 9) q3
   have C176 : Ctx _ _ _ _ _ [pa134, v4, pb135, CH.row g35 0 q1, CH.row g1 o2 q2, p7, p19, p25] := C138
   refine WL.val (Yl.assign (v := .pointer (some ⟨b129, of130 + r124.toNat * 9, none⟩)) (elp_eq hA131 hc128 hn12)) ?_
   refine WL.run to 1 rfl ?_
   refine WL.done ?_
   refine W.seq ?_
   refine W.block ?_
   refine W.seq ?_
   refine W.region rfl ?_
   refine WL.run to 3 rfl ?_
   refine WL.done ?_
   rcases iteE H with ⟨hc177, H⟩ | ⟨hc177, H⟩
   ·refine W.condF (congrArg Value.bool (ndec_t hc177)) ?_
    refine W.seq ?_
    refine W.region rfl ?_
    refine WL.run to 3 rfl ?_
    refine WL.val (Yl.loadV (g := b129) (off := (of130 + r124.toNat * 9)) (o := 1) (cs := q3) (v := .int .i64 ((a0.State.Jobs.getD r124.toNat TJob.z).State)) rfl Tryz.underlying3 rfl (Ctx.subI 1 C176 rfl) rfl) ?_
    refine WL.run to 2 rfl ?_
    refine WL.done ?_
    rcases iteE H with ⟨hc178, H⟩ | ⟨hc178, H⟩
    ·refine W.condF (congrArg Value.bool (ndec_t hc178)) ?_
     refine W.seq ?_
     refine W.region rfl ?_
     refine WL.run to 1 rfl ?_
     refine WL.val (Yl.loadV (g := g35) (off := 0) (o := 36) (cs := q1) (v := .int .i64 a1.Time) rfl Tryz.underlying3 rfl (Ctx.subI 3 C176 rfl) (at_skip 2 34 rfl (at_skip 32 2 (len_map ha27) rfl))) ?_
     refine WL.run to 2 rfl ?_
     refine WL.done ?_
     rcases iteE H with ⟨hc179, H⟩ | ⟨hc179, H⟩
     ·refine W.condT (congrArg Value.bool (decide_eq_true hc179)) ?_
      refine W.seq ?_
      refine W.region rfl ?_
      refine WL.run to 1 rfl ?_
      refine WL.done ?_
      refine W.ret ?_
      refine inB_r ?_
      refine thenE_r ?_
      obtain ⟨p180, C181, hR182⟩ := Row.unfoc (x := (a0.State.Jobs.getD r124.toNat TJob.z)) hput139 (CH.le_refl _) (TJob.mk' _ (a0.State.Jobs.getD r124.toNat TJob.z) A140 c141 n142 A147 c148 n149 A154 c155 n156 A161 c162 n163 A168 c169 n170 hn143 hl144 hm145 hS146 hn150 hl151 hm152 hS153 hn157 hl158 hm159 hS160 hn164 hl165 hm166 hS167 hn171 hl172 hm173 hS174) C176
      have hn183 : n11 = (a0.State.Jobs.set r124.toNat (a0.State.Jobs.getD r124.toNat TJob.z)).length := by rw [List.length_set]; omega
      have C184 : Ctx _ _ _ _ _ [p180, CH.row g35 0 q1, CH.row g1 o2 q2, p7, p19, p25] := C181
      have C185 : Ctx _ _ _ _ _ [CH.row g1 o2 q2, p7, p180, p19, p25] := Ctx.pick [2, 3, 0, 4, 5] C184 rfl
      simp only [Option.some.injEq, Prod.mk.injEq] at H
      obtain ⟨e186, e187⟩ := H
      subst e186 e187
      exact post_r (resE1 rfl rfl) ⟨F, A3, c4, n5, p7, A9, c10, n11, p180, A15, c16, n17, p19, A21, c22, n23, p25, rfl, (CH.le_refl _), C185, hn6, hR8, hn183, hR182, hn18, hR20, hn24, hR26⟩
     ·refine W.condF (congrArg Value.bool (decide_eq_false hc179)) ?_
      refine W.skip ?_
      refine inB_n ?_
      refine W.seq ?_
      refine W.regionA [([21], CH.row g1 o2 q2)] (by kernel_rfl) ?_
      have C210 := Ctx.drewN C176 1
      refine WA.takes [(0, none), (1, none), (2, none), (3, none), (4, some 0), (5, none), (6, none), (7, none), (8, none), (9, some 0), (10, none), (11, none), (12, none), (13, none), (14, some 0), (15, none), (16, none), (17, none), (18, none), (19, some 0)] ⟨(Ctx.subI 4 C210 rfl), trivial⟩ (by kernel_rfl) ?_
      refine WT.run to 4 rfl ?_
      refine WT.val rfl (fun _ hC_ => Yl.loadV (g := g1) (off := o2) (o := 9) (cs := q2) (v := .slice A15 n17 c16) rfl Tryz.underlying47 rfl (show Sub (CH.row g1 o2 q2) _ from hC_) rfl) ?_
      refine WT.run to 4 rfl ?_
      refine WT.val rfl (fun _ hC_ => Yl.loadV (g := g1) (off := o2) (o := 10) (cs := q2) (v := .slice A21 n23 c22) rfl Tryz.underlying48 rfl (show Sub (CH.row g1 o2 q2) _ from hC_) rfl) ?_
      refine WT.run to 4 rfl ?_
      refine WT.val rfl (fun _ hC_ => Yl.loadV (g := g1) (off := o2) (o := 2) (cs := q2) (v := .int .i64 a0.c.Height) rfl Tryz.underlying3 rfl (show Sub (CH.row g1 o2 q2) _ from hC_) rfl) ?_
      obtain ⟨hc212, H⟩ := guardE H
      refine WT.val rfl (fun _ hC_ => Yl.shl (m := 1) (n := a0.c.Height) (r := shlOp .i64 1 a0.c.Height) rfl rfl hc212 rfl) ?_
      refine WT.run to 3 rfl ?_
      let q5 : List Go.Value := [.int .i64 a0.c.Faulty, .int .i64 a0.c.Workers, .int .i64 a0.c.Height, .int .i64 a0.c.Bits, .int .i64 a0.c.Jobs, .int .i64 a0.c.Term, .int .i64 a0.c.Heads]
      refine WT.val rfl (fun _ hC_ => Yl.loadVA (g := g1) (off := o2) (o := 0) (cs := q2) (us := q5) rfl Tryz.underlying42 rfl sz42 (show Sub (CH.row g1 o2 q2) _ from hC_) rfl) ?_
      refine WT.done ?_
      obtain ⟨r214, hg213, H⟩ := bindE H
      refine WA.up1 20 (by kernel_rfl) (Up.callH rfl (by kernel_rfl) rfl (docket_hands.calls k _ F a0.c (Ctx.pre (qs := []) (rest := [pa134, v4, pb135, CH.row g35 0 q1, CH.row g1 o2 q2, p7, p19, p25]) C210)  r214 hg213) (Yenter.fn Tryz.func81 (by kernel_rfl) rfl (argsE (.cons rfl .nil))) ?_)
      rintro e_ w_ ⟨rfl, C215⟩
      have C216 : Ctx _ _ _ _ _ [pa134, v4, pb135, CH.row g35 0 q1, CH.row g1 o2 q2, p7, p19, p25] := Ctx.call (qs := []) (rest := [pa134, v4, pb135, CH.row g35 0 q1, CH.row g1 o2 q2, p7, p19, p25]) C210 C215
      refine ⟨_, rfl, ⟨(Ctx.subI 4 C216 rfl), trivial⟩, ?_⟩
      obtain ⟨F217, le218, ⟨lp220, lp221, _⟩, C219⟩ := Ctx.lend [p19, p25] (ps := [pa134, v4, pb135, CH.row g35 0 q1, CH.row g1 o2 q2, p7]) (Ctx.pick [6, 7, 0, 1, 2, 3, 4, 5] C216 rfl)
      obtain ⟨⟨r223, r224⟩, hg222, H⟩ := bindE H
      refine WA.up1 21 (by kernel_rfl) (Up.callH rfl (by kernel_rfl) rfl (crew_Pick.calls k _ F217 A15 c16 n17 a0.State.Used A21 c22 n23 a0.State.Barred (shlOp .i64 1 a0.c.Height) r214 (Ctx.pre (qs := []) (rest := [pa134, v4, pb135, CH.row g35 0 q1, CH.row g1 o2 q2, p7]) C219) hn18 (Row.len_le hR20).1 (Row.len_le hR20).2.1 (Sl.mono (Row.sl hR20) le218 lp220) hn24 (Row.len_le hR26).1 (Row.len_le hR26).2.1 (Sl.mono (Row.sl hR26) le218 lp221) r223 r224 hg222) (Yenter.fn Tryz.func80 (by kernel_rfl) rfl (argsE (.cons rfl (.cons rfl (.cons rfl (.cons rfl .nil)))))) ?_)
      rintro e_ w_ ⟨A225, c226, n227, p229, rfl, C231, hn228, hR230⟩
      have hR232 : Row (Kd.int .i64) F p229 (.slice A225 n227 c226) r223 := hR230
      have C233 : Ctx _ _ _ _ _ [p229, pa134, v4, pb135, CH.row g35 0 q1, CH.row g1 o2 q2, p7, p19, p25] := Ctx.callL (qs := []) (rest := [pa134, v4, pb135, CH.row g35 0 q1, CH.row g1 o2 q2, p7, p19, p25]) C216 le218 C231
      refine ⟨_, rfl, ⟨trivial, trivial⟩, ?_⟩
      refine WA.takes [(22, none), (23, none), (24, none), (25, none), (26, none)] ⟨(Ctx.subI 5 C233 rfl), trivial⟩ (by kernel_rfl) ?_
      refine WT.run to 5 rfl ?_
      refine WT.done ?_
      refine WA.done (by kernel_rfl) ?_
      refine W.seq ?_
      refine W.seq ?_
      refine W.region rfl ?_
      refine WL.run to 2 rfl ?_
      refine WL.done ?_
      rcases iteE H with ⟨hc234, H⟩ | ⟨hc234, H⟩
      ·refine W.condF (congrArg Value.bool (ndec_t hc234)) ?_
       refine W.skip ?_
       refine W.seq ?_
       refine W.regionA [([20, 23, 26, 29, 32], v4), ([14, 20, 23, 26, 29, 32], CH.row g1 o2 q2), ([29, 32], CH.row g35 0 q1)] (by kernel_rfl) ?_
       have C263 := Ctx.drewN C233 1
       refine WA.takes [(0, none), (1, none), (2, none), (3, none), (4, none), (5, none), (6, none), (7, none), (8, some 0), (9, none), (10, none), (11, none), (12, none), (13, some 1), (15, none), (16, some 2), (17, none)] ⟨(Ctx.subI 2 C263 rfl), (Ctx.subI 5 C263 rfl), (Ctx.subI 4 C263 rfl), trivial⟩ (by kernel_rfl) ?_
       refine WT.run to 8 rfl ?_
       refine WT.val rfl (fun _ hC_ => Yl.loadV (g := b129) (off := (of130 + r124.toNat * 9)) (o := 2) (cs := q3) (v := .int .i64 ((a0.State.Jobs.getD r124.toNat TJob.z).Attempt)) rfl Tryz.underlying3 rfl (show Sub (v4) _ from hC_) rfl) ?_
       refine WT.run to 4 rfl ?_
       let q6 : List Go.Value := [.slice A3 n5 c4, .slice A9 n11 c10, .slice A15 n17 c16, .slice A21 n23 c22, .int .i64 a0.State.Heads]
       refine WT.val rfl (fun _ hC_ => Yl.loadVA (g := g1) (off := o2) (o := 7) (cs := q2) (us := q6) rfl Tryz.underlying50 rfl sz50 (show Sub (CH.row g1 o2 q2) _ from hC_) rfl) ?_
       refine WT.run to 1 rfl ?_
       refine WT.val rfl (fun _ hC_ => Yl.loadV (g := g35) (off := 0) (o := 36) (cs := q1) (v := .int .i64 a1.Time) rfl Tryz.underlying3 rfl (show Sub (CH.row g35 0 q1) _ from hC_) (at_skip 2 34 rfl (at_skip 32 2 (len_map ha27) rfl))) ?_
       refine WT.run to 1 rfl ?_
       refine WT.done ?_
       obtain ⟨F264, le265, lp266, C267⟩ := Ctx.fzI 6 C263 rfl
       replace C267 : Ctx _ _ _ _ _ [p229, pa134, v4, pb135, CH.row g35 0 q1, CH.row g1 o2 q2, p19, p25] := C267
       obtain ⟨r269, hg268, H⟩ := bindE H
       refine WA.up1 14 (by kernel_rfl) (Up.callH rfl (by kernel_rfl) rfl (docket_Epoch_raw.calls k _ F264 A3 c4 n5 A9 c10 n11 A15 c16 n17 A21 c22 n23 a0.State (Ctx.pre (qs := []) (rest := [p229, pa134, v4, pb135, CH.row g35 0 q1, CH.row g1 o2 q2, p19, p25]) C267) hn6 (Row.len_le hR8).1 (Row.len_le hR8).2.1 (Sl.mono (Row.sl hR8) le265 lp266) r269 hg268) (Yenter.fn Tryz.func21 (by kernel_rfl) rfl (argsE (.cons rfl .nil))) ?_)
       rintro e_ w_ ⟨rfl, C270⟩
       have C271 : Ctx _ _ _ _ _ [p229, pa134, v4, pb135, CH.row g35 0 q1, CH.row g1 o2 q2, p7, p19, p25] := Ctx.callL (qs := []) (rest := [p229, pa134, v4, pb135, CH.row g35 0 q1, CH.row g1 o2 q2, p7, p19, p25]) C263 le265 C270
       refine ⟨_, rfl, ⟨(Ctx.subI 2 C271 rfl), trivial, (Ctx.subI 4 C271 rfl), trivial⟩, ?_⟩
       refine WA.takes [(18, none), (19, none)] ⟨(Ctx.subI 2 C271 rfl), (Ctx.subI 5 C271 rfl), (Ctx.subI 4 C271 rfl), trivial⟩ (by kernel_rfl) ?_
       refine WT.run to 2 rfl ?_
       refine WT.done ?_
       obtain ⟨w272, hy273, C274⟩ := ev_setI (P := Tryz.prog) (ps1 := [p229, pa134]) (ps2 := [pb135, CH.row g35 0 q1, CH.row g1 o2 q2, p7, p19, p25]) (t := 3) 1 [.int .i64 2] (.int .i64 2) C271 rfl rfl (ones_of rfl) sz3
       let q7 : List Go.Value := [.slice A140 n142 c141, .int .i64 2, .int .i64 ((a0.State.Jobs.getD r124.toNat TJob.z).Attempt), .int .i64 ((a0.State.Jobs.getD r124.toNat TJob.z).Epoch), .int .i64 ((a0.State.Jobs.getD r124.toNat TJob.z).Until), .slice A147 n149 c148, .slice A154 n156 c155, .slice A161 n163 c162, .slice A168 n170 c169]
       let v8 : CH := CH.row b129 (of130 + r124.toNat * 9) q7
       have C275 : Ctx _ _ _ _ _ [p229, pa134, v8, pb135, CH.row g35 0 q1, CH.row g1 o2 q2, p7, p19, p25] := C274
       refine WA.up1 20 (by kernel_rfl) (Up.skip rfl rfl (hy273 _ _ _ _ rfl rfl) ⟨trivial, trivial, (Ctx.subI 4 C275 rfl), trivial⟩ ?_)
       refine WA.take none [] 21 rfl (by kernel_rfl) (by kernel_rfl) rfl trivial ⟨trivial, trivial, (Ctx.subI 4 C275 rfl), trivial⟩ (fun _ hC_ => Yl.nilCheck rfl) ?_
       refine WA.take none [] 22 rfl (by kernel_rfl) (by kernel_rfl) rfl trivial ⟨trivial, trivial, (Ctx.subI 4 C275 rfl), trivial⟩ (fun _ hC_ => Yl.fieldAddr (i := 2) rfl Tryz.underlying63 rfl sz3) ?_
       let q9 : List Go.Value := [.int .i64 (wi64 (((a0.State.Jobs.getD r124.toNat TJob.z).Attempt) + 1))]
       obtain ⟨w276, hy277, C278⟩ := ev_setI (P := Tryz.prog) (ps1 := [p229, pa134]) (ps2 := [pb135, CH.row g35 0 q1, CH.row g1 o2 q2, p7, p19, p25]) (t := 3) 2 q9 (.int .i64 (wi64 (((a0.State.Jobs.getD r124.toNat TJob.z).Attempt) + 1))) C275 rfl rfl (ones_of rfl) sz3
       let q10 : List Go.Value := [.slice A140 n142 c141, .int .i64 2, .int .i64 (wi64 (((a0.State.Jobs.getD r124.toNat TJob.z).Attempt) + 1)), .int .i64 ((a0.State.Jobs.getD r124.toNat TJob.z).Epoch), .int .i64 ((a0.State.Jobs.getD r124.toNat TJob.z).Until), .slice A147 n149 c148, .slice A154 n156 c155, .slice A161 n163 c162, .slice A168 n170 c169]
       let v11 : CH := CH.row b129 (of130 + r124.toNat * 9) q10
       have C279 : Ctx _ _ _ _ _ [p229, pa134, v11, pb135, CH.row g35 0 q1, CH.row g1 o2 q2, p7, p19, p25] := C278
       refine WA.up1 23 (by kernel_rfl) (Up.skip rfl rfl (hy277 _ _ _ _ rfl rfl) ⟨trivial, trivial, (Ctx.subI 4 C279 rfl), trivial⟩ ?_)
       refine WA.take none [] 24 rfl (by kernel_rfl) (by kernel_rfl) rfl trivial ⟨trivial, trivial, (Ctx.subI 4 C279 rfl), trivial⟩ (fun _ hC_ => Yl.nilCheck rfl) ?_
       refine WA.take none [] 25 rfl (by kernel_rfl) (by kernel_rfl) rfl trivial ⟨trivial, trivial, (Ctx.subI 4 C279 rfl), trivial⟩ (fun _ hC_ => Yl.fieldAddr (i := 3) rfl Tryz.underlying63 rfl sz3) ?_
       obtain ⟨w280, hy281, C282⟩ := ev_setI (P := Tryz.prog) (ps1 := [p229, pa134]) (ps2 := [pb135, CH.row g35 0 q1, CH.row g1 o2 q2, p7, p19, p25]) (t := 3) 3 [.int .i64 r269] (.int .i64 r269) C279 rfl rfl (ones_of rfl) sz3
       let q12 : List Go.Value := [.slice A140 n142 c141, .int .i64 2, .int .i64 (wi64 (((a0.State.Jobs.getD r124.toNat TJob.z).Attempt) + 1)), .int .i64 r269, .int .i64 ((a0.State.Jobs.getD r124.toNat TJob.z).Until), .slice A147 n149 c148, .slice A154 n156 c155, .slice A161 n163 c162, .slice A168 n170 c169]
       let v13 : CH := CH.row b129 (of130 + r124.toNat * 9) q12
       have C283 : Ctx _ _ _ _ _ [p229, pa134, v13, pb135, CH.row g35 0 q1, CH.row g1 o2 q2, p7, p19, p25] := C282
       refine WA.up1 26 (by kernel_rfl) (Up.skip rfl rfl (hy281 _ _ _ _ rfl rfl) ⟨trivial, trivial, (Ctx.subI 4 C283 rfl), trivial⟩ ?_)
       refine WA.take none [] 27 rfl (by kernel_rfl) (by kernel_rfl) rfl trivial ⟨trivial, trivial, (Ctx.subI 4 C283 rfl), trivial⟩ (fun _ hC_ => Yl.nilCheck rfl) ?_
       refine WA.take none [] 28 rfl (by kernel_rfl) (by kernel_rfl) rfl trivial ⟨trivial, trivial, (Ctx.subI 4 C283 rfl), trivial⟩ (fun _ hC_ => Yl.fieldAddr (i := 4) rfl Tryz.underlying63 rfl sz3) ?_
       obtain ⟨w284, hy285, C286⟩ := ev_setI (P := Tryz.prog) (ps1 := [p229, pa134]) (ps2 := [pb135, CH.row g35 0 q1, CH.row g1 o2 q2, p7, p19, p25]) (t := 3) 4 [.int .i64 a1.Time] (.int .i64 a1.Time) C283 rfl rfl (ones_of rfl) sz3
       let q14 : List Go.Value := [.slice A140 n142 c141, .int .i64 2, .int .i64 (wi64 (((a0.State.Jobs.getD r124.toNat TJob.z).Attempt) + 1)), .int .i64 r269, .int .i64 a1.Time, .slice A147 n149 c148, .slice A154 n156 c155, .slice A161 n163 c162, .slice A168 n170 c169]
       let v15 : CH := CH.row b129 (of130 + r124.toNat * 9) q14
       have C287 : Ctx _ _ _ _ _ [p229, pa134, v15, pb135, CH.row g35 0 q1, CH.row g1 o2 q2, p7, p19, p25] := C286
       refine WA.up1 29 (by kernel_rfl) (Up.skip rfl rfl (hy285 _ _ _ _ rfl rfl) ⟨trivial, trivial, trivial, trivial⟩ ?_)
       refine WA.take none [] 30 rfl (by kernel_rfl) (by kernel_rfl) rfl trivial ⟨trivial, trivial, trivial, trivial⟩ (fun _ hC_ => Yl.nilCheck rfl) ?_
       refine WA.take none [] 31 rfl (by kernel_rfl) (by kernel_rfl) rfl trivial ⟨trivial, trivial, trivial, trivial⟩ (fun _ hC_ => Yl.fieldAddr (i := 5) rfl Tryz.underlying63 rfl sz47) ?_
       obtain ⟨w288, hy289, C290⟩ := ev_setI (P := Tryz.prog) (ps1 := [p229, pa134]) (ps2 := [pb135, CH.row g35 0 q1, CH.row g1 o2 q2, p7, p19, p25]) (t := 47) 5 [.slice A225 n227 c226] (.slice A225 n227 c226) C287 rfl rfl (ones_of rfl) sz47
       let q16 : List Go.Value := [.slice A140 n142 c141, .int .i64 2, .int .i64 (wi64 (((a0.State.Jobs.getD r124.toNat TJob.z).Attempt) + 1)), .int .i64 r269, .int .i64 a1.Time, .slice A225 n227 c226, .slice A154 n156 c155, .slice A161 n163 c162, .slice A168 n170 c169]
       let v17 : CH := CH.row b129 (of130 + r124.toNat * 9) q16
       have C291 : Ctx _ _ _ _ _ [p229, pa134, v17, pb135, CH.row g35 0 q1, CH.row g1 o2 q2, p7, p19, p25] := C290
       refine WA.up1 32 (by kernel_rfl) (Up.skip rfl rfl (hy289 _ _ _ _ rfl rfl) ⟨trivial, trivial, trivial, trivial⟩ ?_)
       refine WA.done (by kernel_rfl) ?_
       refine W.seq ?_
       refine W.region rfl ?_
       refine WL.run to 3 rfl ?_
       obtain ⟨w292, hy293, C294⟩ := ev_setI (P := Tryz.prog) (ps1 := [p229, pa134]) (ps2 := [pb135, CH.row g35 0 q1, CH.row g1 o2 q2, p7, p19, p25]) (t := 47) 6 [.slice none 0 0] (.slice none 0 0) C291 rfl rfl (ones_of rfl) sz47
       let q18 : List Go.Value := [.slice A140 n142 c141, .int .i64 2, .int .i64 (wi64 (((a0.State.Jobs.getD r124.toNat TJob.z).Attempt) + 1)), .int .i64 r269, .int .i64 a1.Time, .slice A225 n227 c226, .slice none 0 0, .slice A161 n163 c162, .slice A168 n170 c169]
       let v19 : CH := CH.row b129 (of130 + r124.toNat * 9) q18
       have C295 : Ctx _ _ _ _ _ [p229, pa134, v19, pb135, CH.row g35 0 q1, CH.row g1 o2 q2, p7, p19, p25] := C294
       refine WL.skip (hy293 _ _ _ _ rfl rfl) ?_
       refine WL.done ?_
       refine W.seq ?_
       refine W.seq ?_
       refine W.region rfl ?_
       refine WL.run to 1 rfl ?_
       refine WL.val (Yl.lenN (A := A225) (l := n227) (q := c226) (n := (r223.length : Int)) rfl Tryz.underlying47 (by omega)) ?_
       refine WL.run to 1 rfl ?_
       refine WL.done ?_
       obtain ⟨⟨x651, x670⟩, hX706, H⟩ := bindE H
       refine W.cutM (fun env_ w_ => ∃ (F649 : CH) (A652 : Option Addr) (c653 : Nat) (n654 : Nat) (p656 : CH) (A658 : Option Addr) (c659 : Nat) (n660 : Nat) (p662 : CH) (A664 : Option Addr) (c665 : Nat) (n666 : Nat) (p668 : CH) (A671 : Option Addr) (c672 : Nat) (n673 : Nat) (A678 : Option Addr) (c679 : Nat) (n680 : Nat) (A685 : Option Addr) (c686 : Nat) (n687 : Nat) (p689 : CH) (A691 : Option Addr) (c692 : Nat) (n693 : Nat) (A698 : Option Addr) (c699 : Nat) (n700 : Nat), Ctx w F D w_ F649 [CH.row g1 o2 [.int .i64 x651.c.Faulty, .int .i64 x651.c.Workers, .int .i64 x651.c.Height, .int .i64 x651.c.Bits, .int .i64 x651.c.Jobs, .int .i64 x651.c.Term, .int .i64 x651.c.Heads, .slice A652 n654 c653, .slice A9 n11 c10, .slice A658 n660 c659, .slice A664 n666 c665, .int .i64 x651.State.Heads], p656, p662, p668, CH.row b129 (of130 + r124.toNat * 9) [.slice A671 n673 c672, .int .i64 x670.State, .int .i64 x670.Attempt, .int .i64 x670.Epoch, .int .i64 x670.Until, .slice A678 n680 c679, .slice A685 n687 c686, .slice A691 n693 c692, .slice A698 n700 c699], p689, pa134, pb135, CH.row g35 0 q1] ∧ CH.le F F649 ∧ n654 = x651.State.Eras.length ∧ Row TEra.K F649 p656 (.slice A652 n654 c653) x651.State.Eras ∧ n660 = x651.State.Used.length ∧ Row (Kd.int .i64) F649 p662 (.slice A658 n660 c659) x651.State.Used ∧ n666 = x651.State.Barred.length ∧ Row Kd.bool F649 p668 (.slice A664 n666 c665) x651.State.Barred ∧ n673 = x670.Payload.length ∧ x670.Payload.length ≤ c672 ∧ c672 ≤ maxLen ∧ Sl (Kd.int .u8) F649 F649 A671 x670.Payload ∧ n680 = x670.Workers.length ∧ x670.Workers.length ≤ c679 ∧ c679 ≤ maxLen ∧ Sl (Kd.int .i64) F649 F649 A678 x670.Workers ∧ n687 = x670.Indexes.length ∧ Row (Kd.int .i64) F649 p689 (.slice A685 n687 c686) x670.Indexes ∧ n693 = x670.Votes.length ∧ x670.Votes.length ≤ c692 ∧ c692 ≤ maxLen ∧ Sl TCast.K F649 F649 A691 x670.Votes ∧ n700 = x670.Value.length ∧ x670.Value.length ≤ c699 ∧ c699 ≤ maxLen ∧ Sl (Kd.int .u8) F649 F649 A698 x670.Value) ?_ ?_
       ·refine W.block ?_
        obtain ⟨F707, le708, lp709, C710⟩ := Ctx.fzI 0 C295 rfl
        replace C710 : Ctx _ _ _ _ _ [pa134, v19, pb135, CH.row g35 0 q1, CH.row g1 o2 q2, p7, p19, p25] := C710
        obtain ⟨hl711, hm712, hS713⟩ := Row.fz hR232 le708 lp709
        have hR714 := Row.mono hR20 le708
        have hR715 := Row.mono hR26 le708
        have hR716 := Row.mono hR8 le708
        have C968 : Ctx _ _ _ _ _ [CH.row g1 o2 q2, p7, p19, p25, v19, CH.emp, pa134, pb135, CH.row g35 0 q1] := Ctx.pick [4, 5, 6, 7, 1, 8, 0, 2, 3] C710 rfl
        refine W.loop (fun g_ env_ w_ => ∃ (x821 : Int) (x822 : Twork) (x841 : TJob) (A823 : Option Addr) (c824 : Nat) (n825 : Nat) (p827 : CH) (A829 : Option Addr) (c830 : Nat) (n831 : Nat) (p833 : CH) (A835 : Option Addr) (c836 : Nat) (n837 : Nat) (p839 : CH) (A842 : Option Addr) (c843 : Nat) (n844 : Nat) (A849 : Option Addr) (c850 : Nat) (n851 : Nat) (A856 : Option Addr) (c857 : Nat) (n858 : Nat) (p860 : CH) (A862 : Option Addr) (c863 : Nat) (n864 : Nat) (A869 : Option Addr) (c870 : Nat) (n871 : Nat), env_ 0 = .pointer (some ⟨g1, o2, none⟩) ∧ env_ 6 = .pointer (some ⟨b129, of130 + r124.toNat * 9, none⟩) ∧ env_ 93 = .slice A225 n227 c226 ∧ env_ 94 = .int .i64 (r223.length : Int) ∧ env_ 95 = .int .i64 x821 ∧ Ctx w F D w_ F707 [CH.row g1 o2 [.int .i64 x822.c.Faulty, .int .i64 x822.c.Workers, .int .i64 x822.c.Height, .int .i64 x822.c.Bits, .int .i64 x822.c.Jobs, .int .i64 x822.c.Term, .int .i64 x822.c.Heads, .slice A823 n825 c824, .slice A9 n11 c10, .slice A829 n831 c830, .slice A835 n837 c836, .int .i64 x822.State.Heads], p827, p833, p839, CH.row b129 (of130 + r124.toNat * 9) [.slice A842 n844 c843, .int .i64 x841.State, .int .i64 x841.Attempt, .int .i64 x841.Epoch, .int .i64 x841.Until, .slice A849 n851 c850, .slice A856 n858 c857, .slice A862 n864 c863, .slice A869 n871 c870], p860, pa134, pb135, CH.row g35 0 q1] ∧ n825 = x822.State.Eras.length ∧ Row TEra.K F707 p827 (.slice A823 n825 c824) x822.State.Eras ∧ n831 = x822.State.Used.length ∧ Row (Kd.int .i64) F707 p833 (.slice A829 n831 c830) x822.State.Used ∧ n837 = x822.State.Barred.length ∧ Row Kd.bool F707 p839 (.slice A835 n837 c836) x822.State.Barred ∧ n844 = x841.Payload.length ∧ x841.Payload.length ≤ c843 ∧ c843 ≤ maxLen ∧ Sl (Kd.int .u8) F707 F707 A842 x841.Payload ∧ n851 = x841.Workers.length ∧ x841.Workers.length ≤ c850 ∧ c850 ≤ maxLen ∧ Sl (Kd.int .i64) F707 F707 A849 x841.Workers ∧ n858 = x841.Indexes.length ∧ Row (Kd.int .i64) F707 p860 (.slice A856 n858 c857) x841.Indexes ∧ n864 = x841.Votes.length ∧ x841.Votes.length ≤ c863 ∧ c863 ≤ maxLen ∧ Sl TCast.K F707 F707 A862 x841.Votes ∧ n871 = x841.Value.length ∧ x841.Value.length ≤ c870 ∧ c870 ≤ maxLen ∧ Sl (Kd.int .u8) F707 F707 A869 x841.Value ∧ docket_work_assign.l1 g_ r223 x821 x822 x841 = some (x651, x670)) k ⟨0, a0, (⟨(a0.State.Jobs.getD r124.toNat TJob.z).Payload, 2, wi64 (((a0.State.Jobs.getD r124.toNat TJob.z).Attempt) + 1), r269, a1.Time, r223, ([] : List Int), (a0.State.Jobs.getD r124.toNat TJob.z).Votes, (a0.State.Jobs.getD r124.toNat TJob.z).Value⟩ : TJob), A3, c4, n5, p7, A15, c16, n17, p19, A21, c22, n23, p25, A140, c141, n142, A225, c226, n227, none, 0, 0, CH.emp, A161, c162, n163, A168, c169, n170, rfl, rfl, rfl, rfl, rfl, C968, hn6, hR716, hn18, hR714, hn24, hR715, hn143, hl144, hm145, (Sl.mono hS146 le708 le708), hn228, hl711, hm712, hS713, rfl, (Row.nil _ _), hn164, hl165, hm166, (Sl.mono hS167 le708 le708), hn171, hl172, hm173, (Sl.mono hS174 le708 le708), hX706⟩ ?_
        clear hX706
        rintro g_ env_ w_ ⟨x821, x822, x841, A823, c824, n825, p827, A829, c830, n831, p833, A835, c836, n837, p839, A842, c843, n844, A849, c850, n851, A856, c857, n858, p860, A862, c863, n864, A869, c870, n871, ho816, ho817, ho818, ho819, ho820, C876, hn826, hR828, hn832, hR834, hn838, hR840, hn845, hl846, hm847, hS848, hn852, hl853, hm854, hS855, hn859, hR861, hn865, hl866, hm867, hS868, hn872, hl873, hm874, hS875, hX706⟩
        rcases g_ with _ | k967
        · exact absurd hX706 (by simp [docket_work_assign.l1])
        rw [docket_work_assign.l1] at hX706
        apply kn env_ (.c ho816 (.c ho817 (.c ho818 (.c ho819 (.c ho820 .n)))))
        refine W.seq ?_
        refine W.region rfl ?_
        refine WL.run to 1 rfl ?_
        refine WL.done ?_
        refine W.seq ?_
        rcases iteE hX706 with ⟨hc969, hX706⟩ | ⟨hc969, hX706⟩
        ·refine W.condT (congrArg Value.bool (decide_eq_true hc969)) ?_
         refine W.skip ?_
         refine W.seq ?_
         refine W.block ?_
         refine W.seq ?_
         refine W.region rfl ?_
         obtain ⟨hc970, hX706⟩ := guardE hX706
         obtain ⟨b971, of972, hA973, he974⟩ := hS713 (by omega)
         refine WL.val (Yl.elemAddr (i := x821) rfl rfl hA973 Tryz.underlying47 sz3 (by omega)) ?_
         obtain ⟨cs975, hr976, hx977⟩ := he974 x821.toNat _ (getD_some (d := 0) (by omega))
         obtain rfl := hr976
         refine WL.val (Yl.load (v := .int .i64 (r223.getD x821.toNat 0)) rfl Tryz.underlying3 rfl (((C876.fro)).cell (hx977 0 _ rfl))) ?_
         refine WL.run to 1 rfl ?_
         refine WL.done ?_
         refine W.seq ?_
         let q20 : List Go.Value := [.slice A842 n844 c843, .int .i64 x841.State, .int .i64 x841.Attempt, .int .i64 x841.Epoch, .int .i64 x841.Until, .slice A849 n851 c850, .slice A856 n858 c857, .slice A862 n864 c863, .slice A869 n871 c870]
         let q21 : List Go.Value := [.int .i64 x822.c.Faulty, .int .i64 x822.c.Workers, .int .i64 x822.c.Height, .int .i64 x822.c.Bits, .int .i64 x822.c.Jobs, .int .i64 x822.c.Term, .int .i64 x822.c.Heads, .slice A823 n825 c824, .slice A9 n11 c10, .slice A829 n831 c830, .slice A835 n837 c836, .int .i64 x822.State.Heads]
         let v22 : CH := CH.row b129 (of130 + r124.toNat * 9) q20
         refine W.regionA [([14, 17], v22), ([13, 14, 17], CH.row g1 o2 q21), ([13, 14, 17], p833)] (by kernel_rfl) ?_
         have C1010 := Ctx.drewN C876 1
         refine WA.takes [(0, none), (1, none), (2, none), (3, none), (4, some 0), (5, none), (6, none), (7, none), (8, none), (9, some 1), (10, none), (11, none), (12, some 2)] ⟨(Ctx.subI 4 C1010 rfl), (Ctx.subI 0 C1010 rfl), (Ctx.subI 2 C1010 rfl), trivial⟩ (by kernel_rfl) ?_
         refine WT.run to 4 rfl ?_
         refine WT.val rfl (fun _ hC_ => Yl.loadV (g := b129) (off := (of130 + r124.toNat * 9)) (o := 6) (cs := q20) (v := .slice A856 n858 c857) rfl Tryz.underlying47 rfl (show Sub (v22) _ from hC_) rfl) ?_
         refine WT.run to 4 rfl ?_
         refine WT.val rfl (fun _ hC_ => Yl.loadV (g := g1) (off := o2) (o := 9) (cs := q21) (v := .slice A829 n831 c830) rfl Tryz.underlying47 rfl (show Sub (CH.row g1 o2 q21) _ from hC_) rfl) ?_
         refine WT.run to 1 rfl ?_
         obtain ⟨hc1019, hX706⟩ := guardE hX706
         obtain ⟨b1020, of1021, hA1022, he1023⟩ := (Row.sl hR834) (by omega)
         refine WT.val rfl (fun _ hC_ => Yl.elemAddr (i := r223.getD x821.toNat 0) rfl rfl hA1022 Tryz.underlying47 sz3 (by omega)) ?_
         obtain ⟨cs1024, hr1025, hx1026⟩ := he1023 (r223.getD x821.toNat 0).toNat _ (getD_some (d := 0) (by omega))
         obtain rfl := hr1025
         refine WT.val rfl (fun _ hC_ => Yl.load (v := .int .i64 (x822.State.Used.getD (r223.getD x821.toNat 0).toNat 0)) rfl Tryz.underlying3 rfl (((show Sub p833 _ from hC_)).cell (hx1026 0 _ rfl))) ?_
         refine WT.done ?_
         obtain ⟨A1027, c1028, n1029, p1030, w1031, hn1032, hy1033, C1034, hR1035⟩ := ev_lit1' (P := Tryz.prog) 3 (Kd.int .i64) C1010 Tryz.underlying47 ti3 ⟨by decide, by decide⟩ (x822.State.Used.getD (r223.getD x821.toNat 0).toNat 0) (.int .i64 (x822.State.Used.getD (r223.getD x821.toNat 0).toNat 0)) rfl
         refine WA.up1 13 (by kernel_rfl) (Up.val rfl rfl rfl (hy1033 _ _ _ rfl) ⟨(Ctx.subI 5 C1034 rfl), trivial, trivial, trivial⟩ ?_)
         obtain ⟨hc1036, hX706⟩ := guardE hX706
         obtain ⟨A1037, c1038, n1039, p1040, w1041, hn1042, hy1043, C1044, hR1045⟩ := ev_append' (P := Tryz.prog) (cb := c1028) 3 (Kd.int .i64) [p1030, CH.row g1 o2 q21, p827, p833, p839, v22] [pa134, pb135, CH.row g35 0 q1] C1034 hR861 hn1032 (Row.sl hR1035) (Ctx.subI 0 C1034 rfl) Tryz.underlying47 ti3 rfl zo3 (by decide) (by decide) (by simpa using hc1036)
         have C1046 : Ctx _ _ _ _ _ [p1030, CH.row g1 o2 q21, p827, p833, p839, v22, p1040, pa134, pb135, CH.row g35 0 q1] := C1044
         refine WA.up1 14 (by kernel_rfl) (Up.val rfl rfl rfl (hy1043 _ _ _ _ rfl rfl) ⟨trivial, trivial, trivial, trivial⟩ ?_)
         refine WA.takes [(15, none), (16, none)] ⟨(Ctx.subI 5 C1046 rfl), (Ctx.subI 1 C1046 rfl), (Ctx.subI 3 C1046 rfl), trivial⟩ (by kernel_rfl) ?_
         refine WT.run to 2 rfl ?_
         refine WT.done ?_
         obtain ⟨w1047, hy1048, C1049⟩ := ev_setI (P := Tryz.prog) (ps1 := [p1030, CH.row g1 o2 q21, p827, p833, p839]) (ps2 := [p1040, pa134, pb135, CH.row g35 0 q1]) (t := 47) 6 [.slice A1037 n1039 c1038] (.slice A1037 n1039 c1038) C1046 rfl rfl (ones_of rfl) sz47
         let q23 : List Go.Value := [.slice A842 n844 c843, .int .i64 x841.State, .int .i64 x841.Attempt, .int .i64 x841.Epoch, .int .i64 x841.Until, .slice A849 n851 c850, .slice A1037 n1039 c1038, .slice A862 n864 c863, .slice A869 n871 c870]
         let v24 : CH := CH.row b129 (of130 + r124.toNat * 9) q23
         have C1050 : Ctx _ _ _ _ _ [p1030, CH.row g1 o2 q21, p827, p833, p839, v24, p1040, pa134, pb135, CH.row g35 0 q1] := C1049
         refine WA.up1 17 (by kernel_rfl) (Up.skip rfl rfl (hy1048 _ _ _ _ rfl rfl) ⟨trivial, trivial, trivial, trivial⟩ ?_)
         refine WA.done (by kernel_rfl) ?_
         refine W.region rfl ?_
         refine WL.run to 4 rfl ?_
         refine WL.val (Yl.loadV (g := g1) (off := o2) (o := 9) (cs := q21) (v := .slice A829 n831 c830) rfl Tryz.underlying47 rfl (Ctx.subI 1 C1050 rfl) rfl) ?_
         refine WL.run to 1 rfl ?_
         refine WL.val (Yl.elemAddr (i := r223.getD x821.toNat 0) rfl rfl hA1022 Tryz.underlying47 sz3 (by omega)) ?_
         refine WL.val (Yl.load (v := .int .i64 (x822.State.Used.getD (r223.getD x821.toNat 0).toNat 0)) rfl Tryz.underlying3 rfl (((Ctx.subI 3 C1050 rfl)).cell (hx1026 0 _ rfl))) ?_
         refine WL.run to 1 rfl ?_
         refine WL.val (Yl.elemAddr (i := r223.getD x821.toNat 0) rfl rfl hA1022 Tryz.underlying47 sz3 (by omega)) ?_
         have hj1056 : (r223.getD x821.toNat 0).toNat < x822.State.Used.length := by first | omega | (simp only [List.length_set, List.length_replicate] at *; omega)
         let q25 : List Go.Value := [.int .i64 (wi64 ((x822.State.Used.getD (r223.getD x821.toNat 0).toNat 0) + 1))]
         obtain ⟨p1051, w1052, hy1053, C1054, hR1055⟩ := ev_store (P := Tryz.prog) (t := 3) (Kd.int .i64) [p1030, CH.row g1 o2 q21, p827] [p839, v24, p1040, pa134, pb135, CH.row g35 0 q1] C1050 hR834 hA1022 (r223.getD x821.toNat 0).toNat 0 hj1056 0 (.int .i64 (wi64 ((x822.State.Used.getD (r223.getD x821.toNat 0).toNat 0) + 1))) (q25) rfl (ones_of rfl) (Nat.le_of_ble_eq_true rfl) sz3 (wi64 ((x822.State.Used.getD (r223.getD x821.toNat 0).toNat 0) + 1)) (fun _ h_ => rep_whole h_ rfl) ⟨b1020, of1021 + (r223.getD x821.toNat 0).toNat * 1, none⟩ rfl
         have hn1057 : n831 = (x822.State.Used.set (r223.getD x821.toNat 0).toNat (wi64 ((x822.State.Used.getD (r223.getD x821.toNat 0).toNat 0) + 1))).length := by rw [List.length_set]; omega
         have C1058 : Ctx _ _ _ _ _ [p1030, CH.row g1 o2 q21, p827, p1051, p839, v24, p1040, pa134, pb135, CH.row g35 0 q1] := C1054
         refine WL.skip (hy1053 _ _ _ _ rfl rfl) ?_
         refine WL.done ?_
         refine inB_n ?_
         refine W.region rfl ?_
         refine WL.run to 2 rfl ?_
         refine WL.done ?_
         have C1059 : Ctx _ _ _ _ _ [CH.row g1 o2 q21, p827, p1051, p839, v24, p1040, pa134, pb135, CH.row g35 0 q1] := Ctx.pick [1, 2, 3, 4, 5, 6, 7, 8, 9] C1058 rfl
         exact thenE_n ⟨k967, Nat.lt_succ_self _, wi64 (x821 + 1), (⟨x822.c, (⟨x822.State.Eras, x822.State.Jobs, x822.State.Used.set (r223.getD x821.toNat 0).toNat (wi64 ((x822.State.Used.getD (r223.getD x821.toNat 0).toNat 0) + 1)), x822.State.Barred, x822.State.Heads⟩ : TState)⟩ : Twork), (⟨x841.Payload, x841.State, x841.Attempt, x841.Epoch, x841.Until, x841.Workers, x841.Indexes ++ [x822.State.Used.getD (r223.getD x821.toNat 0).toNat 0], x841.Votes, x841.Value⟩ : TJob), A823, c824, n825, p827, A829, c830, n831, p1051, A835, c836, n837, p839, A842, c843, n844, A849, c850, n851, A1037, c1038, n1039, p1040, A862, c863, n864, A869, c870, n871, rfl, rfl, rfl, rfl, rfl, C1059, hn826, hR828, hn1057, hR1055, hn838, hR840, hn845, hl846, hm847, hS848, hn852, hl853, hm854, hS855, hn1042, hR1045, hn865, hl866, hm867, hS868, hn872, hl873, hm874, hS875, hX706⟩
        ·refine W.condF (congrArg Value.bool (decide_eq_false hc969)) ?_
         refine W.exit ?_
         refine thenE_x ?_
         refine thenE_x ?_
         refine inB_here ?_
         cases hX706
         refine thenE_n ?_
         exact ⟨F707, A823, c824, n825, p827, A829, c830, n831, p833, A835, c836, n837, p839, A842, c843, n844, A849, c850, n851, A856, c857, n858, p860, A862, c863, n864, A869, c870, n871, C876, le708, hn826, hR828, hn832, hR834, hn838, hR840, hn845, hl846, hm847, hS848, hn852, hl853, hm854, hS855, hn859, hR861, hn865, hl866, hm867, hS868, hn872, hl873, hm874, hS875⟩
       ·rintro env_ w_ ⟨F649, A652, c653, n654, p656, A658, c659, n660, p662, A664, c665, n666, p668, A671, c672, n673, A678, c679, n680, A685, c686, n687, p689, A691, c692, n693, A698, c699, n700, C705, le650, hn655, hR657, hn661, hR663, hn667, hR669, hn674, hl675, hm676, hS677, hn681, hl682, hm683, hS684, hn688, hR690, hn694, hl695, hm696, hS697, hn701, hl702, hm703, hS704⟩
        refine W.seq ?_
        refine W.region rfl ?_
        refine WL.run to 1 rfl ?_
        refine WL.done ?_
        refine W.ret ?_
        obtain ⟨F1060, le1061, lp1062, C1063⟩ := Ctx.fzI 5 C705 rfl
        let q26 : List Go.Value := [.int .i64 x651.c.Faulty, .int .i64 x651.c.Workers, .int .i64 x651.c.Height, .int .i64 x651.c.Bits, .int .i64 x651.c.Jobs, .int .i64 x651.c.Term, .int .i64 x651.c.Heads, .slice A652 n654 c653, .slice A9 n11 c10, .slice A658 n660 c659, .slice A664 n666 c665, .int .i64 x651.State.Heads]
        let q27 : List Go.Value := [.slice A671 n673 c672, .int .i64 x670.State, .int .i64 x670.Attempt, .int .i64 x670.Epoch, .int .i64 x670.Until, .slice A678 n680 c679, .slice A685 n687 c686, .slice A691 n693 c692, .slice A698 n700 c699]
        let v28 : CH := CH.row b129 (of130 + r124.toNat * 9) q27
        replace C1063 : Ctx _ _ _ _ _ [CH.row g1 o2 q26, p656, p662, p668, v28, pa134, pb135, CH.row g35 0 q1] := C1063
        obtain ⟨hl1064, hm1065, hS1066⟩ := Row.fz hR690 le1061 lp1062
        have hR1067 := Row.mono hR657 le1061
        have hR1068 := Row.mono hR663 le1061
        have hR1069 := Row.mono hR669 le1061
        have C1070 : Ctx _ _ _ _ _ [pa134, v28, pb135, CH.row g1 o2 q26, p656, p662, p668, CH.row g35 0 q1] := Ctx.pick [5, 4, 6, 0, 1, 2, 3, 7] C1063 rfl
        obtain ⟨p1071, C1072, hR1073⟩ := Row.unfoc (x := x670) hput139 (CH.le_trans le650 le1061) (TJob.mk' _ x670 A671 c672 n673 A678 c679 n680 A685 c686 n687 A691 c692 n693 A698 c699 n700 hn674 hl675 hm676 (Sl.mono hS677 le1061 le1061) hn681 hl682 hm683 (Sl.mono hS684 le1061 le1061) hn688 hl1064 hm1065 hS1066 hn694 hl695 hm696 (Sl.mono hS697 le1061 le1061) hn701 hl702 hm703 (Sl.mono hS704 le1061 le1061)) C1070
        have hn1074 : n11 = (a0.State.Jobs.set r124.toNat x670).length := by rw [List.length_set]; omega
        have C1075 : Ctx _ _ _ _ _ [p1071, CH.row g1 o2 q26, p656, p662, p668, CH.row g35 0 q1] := C1072
        have C1076 : Ctx _ _ _ _ _ [CH.row g1 o2 q26, p656, p1071, p662, p668] := Ctx.pick [1, 2, 0, 3, 4] C1075 rfl
        simp only [Option.some.injEq, Prod.mk.injEq] at H
        obtain ⟨e1077, e1078⟩ := H
        subst e1077 e1078
        exact post_r (resE1 rfl rfl) ⟨F1060, A652, c653, n654, p656, A9, c10, n11, p1071, A658, c659, n660, p662, A664, c665, n666, p668, rfl, (CH.le_trans le650 le1061), C1076, hn655, hR1067, hn1074, hR1073, hn661, hR1068, hn667, hR1069⟩
      ·refine W.condT (congrArg Value.bool (ndec_f hc234)) ?_
       refine W.seq ?_
       refine W.region rfl ?_
       refine WL.run to 2 rfl ?_
       refine WL.done ?_
       refine W.ret ?_
       refine thenE_r ?_
       have C1079 : Ctx _ _ _ _ _ [pa134, v4, pb135, p229, CH.row g35 0 q1, CH.row g1 o2 q2, p7, p19, p25] := Ctx.pick [1, 2, 3, 0, 4, 5, 6, 7, 8] C233 rfl
       obtain ⟨p1080, C1081, hR1082⟩ := Row.unfoc (x := (a0.State.Jobs.getD r124.toNat TJob.z)) hput139 (CH.le_refl _) (TJob.mk' _ (a0.State.Jobs.getD r124.toNat TJob.z) A140 c141 n142 A147 c148 n149 A154 c155 n156 A161 c162 n163 A168 c169 n170 hn143 hl144 hm145 hS146 hn150 hl151 hm152 hS153 hn157 hl158 hm159 hS160 hn164 hl165 hm166 hS167 hn171 hl172 hm173 hS174) C1079
       have hn1083 : n11 = (a0.State.Jobs.set r124.toNat (a0.State.Jobs.getD r124.toNat TJob.z)).length := by rw [List.length_set]; omega
       have C1084 : Ctx _ _ _ _ _ [p1080, p229, CH.row g35 0 q1, CH.row g1 o2 q2, p7, p19, p25] := C1081
       have C1085 : Ctx _ _ _ _ _ [CH.row g1 o2 q2, p7, p1080, p19, p25] := Ctx.pick [3, 4, 0, 5, 6] C1084 rfl
       simp only [Option.some.injEq, Prod.mk.injEq] at H
       obtain ⟨e1086, e1087⟩ := H
       subst e1086 e1087
       exact post_r (resE1 rfl rfl) ⟨F, A3, c4, n5, p7, A9, c10, n11, p1080, A15, c16, n17, p19, A21, c22, n23, p25, rfl, (CH.le_refl _), C1085, hn6, hR8, hn1083, hR1082, hn18, hR20, hn24, hR26⟩
    ·refine W.condT (congrArg Value.bool (ndec_f hc178)) ?_
     refine W.seq ?_
     refine W.region rfl ?_
     refine WL.run to 1 rfl ?_
     refine WL.done ?_
     refine W.ret ?_
     refine inB_r ?_
     refine thenE_r ?_
     obtain ⟨p1088, C1089, hR1090⟩ := Row.unfoc (x := (a0.State.Jobs.getD r124.toNat TJob.z)) hput139 (CH.le_refl _) (TJob.mk' _ (a0.State.Jobs.getD r124.toNat TJob.z) A140 c141 n142 A147 c148 n149 A154 c155 n156 A161 c162 n163 A168 c169 n170 hn143 hl144 hm145 hS146 hn150 hl151 hm152 hS153 hn157 hl158 hm159 hS160 hn164 hl165 hm166 hS167 hn171 hl172 hm173 hS174) C176
     have hn1091 : n11 = (a0.State.Jobs.set r124.toNat (a0.State.Jobs.getD r124.toNat TJob.z)).length := by rw [List.length_set]; omega
     have C1092 : Ctx _ _ _ _ _ [p1088, CH.row g35 0 q1, CH.row g1 o2 q2, p7, p19, p25] := C1089
     have C1093 : Ctx _ _ _ _ _ [CH.row g1 o2 q2, p7, p1088, p19, p25] := Ctx.pick [2, 3, 0, 4, 5] C1092 rfl
     simp only [Option.some.injEq, Prod.mk.injEq] at H
     obtain ⟨e1094, e1095⟩ := H
     subst e1094 e1095
     exact post_r (resE1 rfl rfl) ⟨F, A3, c4, n5, p7, A9, c10, n11, p1088, A15, c16, n17, p19, A21, c22, n23, p25, rfl, (CH.le_refl _), C1093, hn6, hR8, hn1091, hR1090, hn18, hR20, hn24, hR26⟩
   ·refine W.condT (congrArg Value.bool (ndec_f hc177)) ?_
    refine W.seq ?_
    refine W.region rfl ?_
    refine WL.run to 2 rfl ?_
    refine WL.done ?_
    refine W.ret ?_
    refine inB_r ?_
    refine thenE_r ?_
    obtain ⟨p1096, C1097, hR1098⟩ := Row.unfoc (x := (a0.State.Jobs.getD r124.toNat TJob.z)) hput139 (CH.le_refl _) (TJob.mk' _ (a0.State.Jobs.getD r124.toNat TJob.z) A140 c141 n142 A147 c148 n149 A154 c155 n156 A161 c162 n163 A168 c169 n170 hn143 hl144 hm145 hS146 hn150 hl151 hm152 hS153 hn157 hl158 hm159 hS160 hn164 hl165 hm166 hS167 hn171 hl172 hm173 hS174) C176
    have hn1099 : n11 = (a0.State.Jobs.set r124.toNat (a0.State.Jobs.getD r124.toNat TJob.z)).length := by rw [List.length_set]; omega
    have C1100 : Ctx _ _ _ _ _ [p1096, CH.row g35 0 q1, CH.row g1 o2 q2, p7, p19, p25] := C1097
    have C1101 : Ctx _ _ _ _ _ [CH.row g1 o2 q2, p7, p1096, p19, p25] := Ctx.pick [2, 3, 0, 4, 5] C1100 rfl
    simp only [Option.some.injEq, Prod.mk.injEq] at H
    obtain ⟨e1102, e1103⟩ := H
    subst e1102 e1103
    exact post_r (resE1 rfl rfl) ⟨F, A3, c4, n5, p7, A9, c10, n11, p1096, A15, c16, n17, p19, A21, c22, n23, p25, rfl, (CH.le_refl _), C1101, hn6, hR8, hn1099, hR1098, hn18, hR20, hn24, hR26⟩
  ·refine WL.val (Yl.assign (v := .pointer none) (elp_no hc128 hn12)) ?_
   refine WL.run to 1 rfl ?_
   refine WL.done ?_
   refine W.seq ?_
   refine W.block ?_
   refine W.seq ?_
   refine W.region rfl ?_
   refine WL.run to 3 rfl ?_
   refine WL.done ?_
   rcases iteE H with ⟨hc1104, H⟩ | ⟨hc1104, H⟩
   ·refine W.condF (congrArg Value.bool (ndec_t hc1104)) ?_
    refine W.seq ?_
    refine W.region rfl ?_
    refine WL.run to 1 rfl ?_
    obtain ⟨hc1105, H⟩ := guardE H
    exact hc1105.elim
   ·refine W.condT (congrArg Value.bool (ndec_f hc1104)) ?_
    refine W.seq ?_
    refine W.region rfl ?_
    refine WL.run to 2 rfl ?_
    refine WL.done ?_
    refine W.ret ?_
    refine inB_r ?_
    refine thenE_r ?_
    have C1106 : Ctx _ _ _ _ _ [CH.row g1 o2 q2, p7, p13, p19, p25] := Ctx.pick [1, 2, 3, 4, 5] C127 rfl
    simp only [Option.some.injEq, Prod.mk.injEq] at H
    obtain ⟨e1107, e1108⟩ := H
    subst e1107 e1108
    exact post_r (resE1 rfl rfl) ⟨F, A3, c4, n5, p7, A9, c10, n11, p13, A15, c16, n17, p19, A21, c22, n23, p25, rfl, (CH.le_refl _), C1106, hn6, hR8, hn12, hR14, hn18, hR20, hn24, hR26⟩
 ·refine W.condF (congrArg Value.bool (decide_eq_false hc114)) ?_
  refine W.skip ?_
  refine W.seq ?_
  refine W.block ?_
  refine W.seq ?_
  refine W.region rfl ?_
  refine WL.run to 3 rfl ?_
  refine WL.done ?_
  refine W.condT (congrArg Value.bool (ndec_f hc114)) ?_
  refine W.seq ?_
  refine W.region rfl ?_
  refine WL.run to 2 rfl ?_
  refine WL.done ?_
  refine W.ret ?_
  refine inB_r ?_
  refine thenE_r ?_
  have C1109 : Ctx _ _ _ _ _ [CH.row g1 o2 q2, p7, p13, p19, p25] := Ctx.pick [1, 2, 3, 4, 5] C50 rfl
  simp only [Option.some.injEq, Prod.mk.injEq] at H
  obtain ⟨e1110, e1111⟩ := H
  subst e1110 e1111
  exact post_r (resE1 rfl rfl) ⟨F, A3, c4, n5, p7, A9, c10, n11, p13, A15, c16, n17, p19, A21, c22, n23, p25, rfl, (CH.le_refl _), C1109, hn6, hR8, hn12, hR14, hn18, hR20, hn24, hR26⟩
def docket_what.f (k : Nat) (a0 : Int) : Option Int := if a0 = 1 then (some 64) else (if a0 = 2 then (some 65) else (if a0 = 3 then (some 66) else (if a0 = 4 then (some 67) else (if a0 = 5 then (some 68) else (some 69)))))
set_option maxRecDepth 100000 in
set_option maxHeartbeats 4000000 in
theorem docket_what.calls (k : Nat) (w : World) (F : CH) (a0 : Int) (hp : Pre w F [])  (r0_ : Int) (H : docket_what.f k a0 = some r0_) :
    Calls Tryz.prog 42 #[.int .i64 a0] w fun e w' => e = .returned (fnV r0_) ∧ (∃ n_, w' = w.drewN n_) := by
 have C := Ctx.start hp
 generalize domL [] = D at C
 have W0 : ∃ n_, w = w.drewN n_ := ⟨0, rfl⟩
 unfold docket_what.f at H
 refine Calls.ofW Tryz.func42 rfl (by simp [Tryz.ntmps42]) ?_
 refine W.seq ?_
 refine W.region rfl ?_
 refine WL.run to 1 rfl ?_
 refine WL.done ?_
 refine W.seq ?_
 refine W.seq ?_
 refine W.region rfl ?_
 refine WL.run to 1 rfl ?_
 refine WL.done ?_
 refine W.block ?_
 refine W.seq ?_
 refine W.region rfl ?_
 refine WL.run to 2 rfl ?_
 refine WL.done ?_
 rcases iteE H with ⟨hc1, H⟩ | ⟨hc1, H⟩
 ·refine W.condT (congrArg Value.bool (decide_eq_true hc1)) ?_
  refine W.seq ?_
  refine W.region rfl ?_
  refine WL.run to 1 rfl ?_
  refine WL.done ?_
  refine W.ret ?_
  refine inB_r ?_
  refine thenE_r ?_
  have e2 := Option.some.inj H
  subst e2
  exact post_r (resE1 (t := 2) rfl ((show _ = Value.func (.func 64) #[] #[] from rfl).trans (fnV_eq 64).symm)) ⟨rfl, W0⟩
 ·refine W.condF (congrArg Value.bool (decide_eq_false hc1)) ?_
  refine W.seq ?_
  refine W.region rfl ?_
  refine WL.run to 2 rfl ?_
  refine WL.done ?_
  rcases iteE H with ⟨hc3, H⟩ | ⟨hc3, H⟩
  ·refine W.condT (congrArg Value.bool (decide_eq_true hc3)) ?_
   refine W.seq ?_
   refine W.region rfl ?_
   refine WL.run to 1 rfl ?_
   refine WL.done ?_
   refine W.ret ?_
   refine inB_r ?_
   refine thenE_r ?_
   have e4 := Option.some.inj H
   subst e4
   exact post_r (resE1 (t := 2) rfl ((show _ = Value.func (.func 65) #[] #[] from rfl).trans (fnV_eq 65).symm)) ⟨rfl, W0⟩
  ·refine W.condF (congrArg Value.bool (decide_eq_false hc3)) ?_
   refine W.seq ?_
   refine W.region rfl ?_
   refine WL.run to 2 rfl ?_
   refine WL.done ?_
   rcases iteE H with ⟨hc5, H⟩ | ⟨hc5, H⟩
   ·refine W.condT (congrArg Value.bool (decide_eq_true hc5)) ?_
    refine W.seq ?_
    refine W.region rfl ?_
    refine WL.run to 1 rfl ?_
    refine WL.done ?_
    refine W.ret ?_
    refine inB_r ?_
    refine thenE_r ?_
    have e6 := Option.some.inj H
    subst e6
    exact post_r (resE1 (t := 2) rfl ((show _ = Value.func (.func 66) #[] #[] from rfl).trans (fnV_eq 66).symm)) ⟨rfl, W0⟩
   ·refine W.condF (congrArg Value.bool (decide_eq_false hc5)) ?_
    refine W.seq ?_
    refine W.region rfl ?_
    refine WL.run to 2 rfl ?_
    refine WL.done ?_
    rcases iteE H with ⟨hc7, H⟩ | ⟨hc7, H⟩
    ·refine W.condT (congrArg Value.bool (decide_eq_true hc7)) ?_
     refine W.seq ?_
     refine W.region rfl ?_
     refine WL.run to 1 rfl ?_
     refine WL.done ?_
     refine W.ret ?_
     refine inB_r ?_
     refine thenE_r ?_
     have e8 := Option.some.inj H
     subst e8
     exact post_r (resE1 (t := 2) rfl ((show _ = Value.func (.func 67) #[] #[] from rfl).trans (fnV_eq 67).symm)) ⟨rfl, W0⟩
    ·refine W.condF (congrArg Value.bool (decide_eq_false hc7)) ?_
     refine W.seq ?_
     refine W.region rfl ?_
     refine WL.run to 2 rfl ?_
     refine WL.done ?_
     rcases iteE H with ⟨hc9, H⟩ | ⟨hc9, H⟩
     ·refine W.condT (congrArg Value.bool (decide_eq_true hc9)) ?_
      refine W.seq ?_
      refine W.region rfl ?_
      refine WL.run to 1 rfl ?_
      refine WL.done ?_
      refine W.ret ?_
      refine inB_r ?_
      refine thenE_r ?_
      have e10 := Option.some.inj H
      subst e10
      exact post_r (resE1 (t := 2) rfl ((show _ = Value.func (.func 68) #[] #[] from rfl).trans (fnV_eq 68).symm)) ⟨rfl, W0⟩
     ·refine W.condF (congrArg Value.bool (decide_eq_false hc9)) ?_
      refine W.skip ?_
      refine inB_n ?_
      refine W.seq ?_
      refine W.region rfl ?_
      refine WL.run to 1 rfl ?_
      refine WL.done ?_
      refine W.ret ?_
      have e11 := Option.some.inj H
      subst e11
      exact post_r (resE1 (t := 2) rfl ((show _ = Value.func (.func 69) #[] #[] from rfl).trans (fnV_eq 69).symm)) ⟨rfl, W0⟩
def docket_Apply.f (k : Nat) (a0 : TConfig) (a1 : TState) (a2 : TRecord) : Option (TState × Int) := ((docket_Check.f k a0).bind fun r88 => if r88 = 0 then ((docket_right.f k a0 a1).bind fun r93 => if r93 = true then ((docket_may.f k a2).bind fun r98 => some (!r98)) else (some true)) else (some true)).bind fun x80 => if x80 = true then (some ((⟨([] : List TEra), ([] : List TJob), ([] : List Int), ([] : List Bool), 0⟩ : TState), 1)) else ((docket_clone.f k a1).bind fun r145 => ((docket_what.f k a2.Kind).bind fun r805 => if r805 = 64 then ((docket_work_epoch.f k (⟨a0, r145⟩ : Twork) a2).bind fun ⟨r810, r811⟩ => some (r810, r811)) else (if r805 = 65 then ((docket_work_submit.f k (⟨a0, r145⟩ : Twork) a2).bind fun ⟨r842, r843⟩ => some (r842, r843)) else (if r805 = 66 then ((docket_work_assign.f k (⟨a0, r145⟩ : Twork) a2).bind fun ⟨r874, r875⟩ => some (r874, r875)) else (if r805 = 67 then ((docket_work_vote.f k (⟨a0, r145⟩ : Twork) a2).bind fun ⟨r906, r907⟩ => some (r906, r907)) else (if r805 = 68 then ((docket_work_expire.f k (⟨a0, r145⟩ : Twork) a2).bind fun ⟨r938, r939⟩ => some (r938, r939)) else (if r805 = 69 then ((docket_work_head.f k (⟨a0, r145⟩ : Twork) a2).bind fun ⟨r970, r971⟩ => some (r970, r971)) else (if False then (none) else none))))))).bind fun ⟨x578, x579⟩ => if x578 = 0 then (some (x579.State, 0)) else (some ((⟨([] : List TEra), ([] : List TJob), ([] : List Int), ([] : List Bool), 0⟩ : TState), x578)))
set_option maxRecDepth 100000 in
set_option maxHeartbeats 4000000 in
theorem docket_Apply.calls (k : Nat) (w : World) (F : CH) (a0 : TConfig) (A1 : Option Addr) (c2 : Nat) (n3 : Nat) (A8 : Option Addr) (c9 : Nat) (n10 : Nat) (A15 : Option Addr) (c16 : Nat) (n17 : Nat) (A22 : Option Addr) (c23 : Nat) (n24 : Nat) (a1 : TState) (A30 : Option Addr) (c31 : Nat) (n32 : Nat) (a2 : TRecord) (hp : Pre w F []) (hn4 : n3 = a1.Eras.length) (hl5 : a1.Eras.length ≤ c2) (hm6 : c2 ≤ maxLen) (hS7 : Sl TEra.K F F A1 a1.Eras) (hn11 : n10 = a1.Jobs.length) (hl12 : a1.Jobs.length ≤ c9) (hm13 : c9 ≤ maxLen) (hS14 : Sl TJob.K F F A8 a1.Jobs) (hn18 : n17 = a1.Used.length) (hl19 : a1.Used.length ≤ c16) (hm20 : c16 ≤ maxLen) (hS21 : Sl (Kd.int .i64) F F A15 a1.Used) (hn25 : n24 = a1.Barred.length) (hl26 : a1.Barred.length ≤ c23) (hm27 : c23 ≤ maxLen) (hS28 : Sl Kd.bool F F A22 a1.Barred) (ha29 : a2.Nonce.length = 32) (hn33 : n32 = a2.Data.length) (hl34 : a2.Data.length ≤ c31) (hm35 : c31 ≤ maxLen) (hS36 : Sl (Kd.int .u8) F F A30 a2.Data) (r0_ : TState) (r1_ : Int) (H : docket_Apply.f k a0 a1 a2 = some (r0_, r1_)) :
    Calls Tryz.prog 15 #[.agg (List.toArray [.int .i64 a0.Faulty, .int .i64 a0.Workers, .int .i64 a0.Height, .int .i64 a0.Bits, .int .i64 a0.Jobs, .int .i64 a0.Term, .int .i64 a0.Heads]), .agg (List.toArray [.slice A1 n3 c2, .slice A8 n10 c9, .slice A15 n17 c16, .slice A22 n24 c23, .int .i64 a1.Heads]), .agg (List.toArray ([.int .i64 a2.Kind, .int .i64 a2.Epoch] ++ (a2.Nonce.map (Value.int .u8) ++ [.slice A30 n32 c31, .int .i64 a2.Job, .int .i64 a2.Time, .int .i64 a2.By])))] w fun e w' => ∃ (F' : CH) (A1016 : Option Addr) (c1017 : Nat) (n1018 : Nat) (p1020 : CH) (A1022 : Option Addr) (c1023 : Nat) (n1024 : Nat) (p1026 : CH) (A1028 : Option Addr) (c1029 : Nat) (n1030 : Nat) (p1032 : CH) (A1034 : Option Addr) (c1035 : Nat) (n1036 : Nat) (p1038 : CH), e = .returned (.tuple #[(.agg (List.toArray [.slice A1016 n1018 c1017, .slice A1022 n1024 c1023, .slice A1028 n1030 c1029, .slice A1034 n1036 c1035, .int .i64 r0_.Heads])), (.int .i64 r1_)]) ∧ CH.le F F' ∧ Ctx w F (domL []) w' F' [p1020, p1026, p1032, p1038] ∧ n1018 = r0_.Eras.length ∧ Row TEra.K F' p1020 (.slice A1016 n1018 c1017) r0_.Eras ∧ n1024 = r0_.Jobs.length ∧ Row TJob.K F' p1026 (.slice A1022 n1024 c1023) r0_.Jobs ∧ n1030 = r0_.Used.length ∧ Row (Kd.int .i64) F' p1032 (.slice A1028 n1030 c1029) r0_.Used ∧ n1036 = r0_.Barred.length ∧ Row Kd.bool F' p1038 (.slice A1034 n1036 c1035) r0_.Barred := by
 have C := Ctx.start hp
 generalize hD : domL [] = D at C ⊢
 unfold docket_Apply.f at H
 refine Calls.ofW Tryz.func15 rfl (by simp [Tryz.ntmps15]) ?_
 refine W.seq ?_
 refine W.region rfl ?_
 let q1 : List Go.Value := [.int .i64 a0.Faulty, .int .i64 a0.Workers, .int .i64 a0.Height, .int .i64 a0.Bits, .int .i64 a0.Jobs, .int .i64 a0.Term, .int .i64 a0.Heads]
 obtain ⟨g37, w38, hy39, C40⟩ := ev_box (P := Tryz.prog) 42 (.agg (List.toArray q1)) q1 C rfl
 refine WL.val (hy39 _ _ _ rfl) ?_
 let q2 : List Go.Value := [.slice A1 n3 c2, .slice A8 n10 c9, .slice A15 n17 c16, .slice A22 n24 c23, .int .i64 a1.Heads]
 obtain ⟨g41, w42, hy43, C44⟩ := ev_box (P := Tryz.prog) 50 (.agg (List.toArray q2)) q2 C40 rfl
 refine WL.val (hy43 _ _ _ rfl) ?_
 let q3 : List Go.Value := [.int .i64 a2.Kind, .int .i64 a2.Epoch] ++ (a2.Nonce.map (Value.int .u8) ++ [.slice A30 n32 c31, .int .i64 a2.Job, .int .i64 a2.Time, .int .i64 a2.By])
 obtain ⟨g45, w46, hy47, C48⟩ := ev_box (P := Tryz.prog) 26 (.agg (List.toArray q3)) q3 C44 rfl
 refine WL.val (hy47 _ _ _ rfl) ?_
 let q4 : List Go.Value := [.slice none 0 0, .slice none 0 0, .slice none 0 0, .slice none 0 0, .int .i64 0]
 obtain ⟨g49, w50, hy51, C52⟩ := ev_alloc (P := Tryz.prog) (e := 50) q4 C48 zr50 rfl
 refine WL.val (hy51 _ _) ?_
 refine WL.run to 1 rfl ?_
 refine WL.done ?_
 refine W.seq ?_
 refine W.seq ?_
 obtain ⟨x80, hX82, H⟩ := bindE H
 refine W.cutM (fun env_ w_ => env_ 3 = .pointer (some ⟨g37, 0, none⟩) ∧ env_ 4 = .pointer (some ⟨g41, 0, none⟩) ∧ env_ 5 = .pointer (some ⟨g45, 0, none⟩) ∧ env_ 6 = .pointer (some ⟨g49, 0, none⟩) ∧ env_ 23 = .bool x80 ∧ Ctx w F D w_ F [CH.row g49 0 q4, CH.row g45 0 q3, CH.row g41 0 q2, CH.row g37 0 q1]) ?_ ?_
 ·refine W.region rfl ?_
  refine WL.val (Yl.loadVA (g := g37) (off := 0) (o := 0) (cs := q1) (us := q1) rfl Tryz.underlying42 rfl sz42 (Ctx.subI 3 C52 rfl) rfl) ?_
  obtain ⟨r88, hg87, hX82⟩ := bindE hX82
  refine WL.callH (docket_Check.calls k _ F a0 (Ctx.pre (qs := []) (rest := [CH.row g49 0 q4, CH.row g45 0 q3, CH.row g41 0 q2, CH.row g37 0 q1]) C52)  r88 hg87) (Yenter.fn Tryz.func39 (by kernel_rfl) rfl (argsE (.cons rfl .nil))) ?_
  rintro e_ w_ ⟨rfl, C89⟩
  refine ⟨_, rfl, ?_⟩
  have C90 : Ctx _ _ _ _ _ [CH.row g49 0 q4, CH.row g45 0 q3, CH.row g41 0 q2, CH.row g37 0 q1] := Ctx.call (qs := []) (rest := [CH.row g49 0 q4, CH.row g45 0 q3, CH.row g41 0 q2, CH.row g37 0 q1]) C52 C89
  refine WL.run to 2 rfl ?_
  rcases iteE hX82 with ⟨hc91, hX82⟩ | ⟨hc91, hX82⟩
  ·refine WL.kn 13 (congrArg Value.bool (ndec_t hc91)) ?_
   refine WL.valOn rfl rfl (Yl.loadVA (g := g37) (off := 0) (o := 0) (cs := q1) (us := q1) rfl Tryz.underlying42 rfl sz42 (Ctx.subI 3 C90 rfl) rfl) ?_
   refine WL.valOn rfl rfl (Yl.loadVA (g := g41) (off := 0) (o := 0) (cs := q2) (us := q2) rfl Tryz.underlying50 rfl sz50 (Ctx.subI 2 C90 rfl) rfl) ?_
   refine WL.on rfl rfl ?_
   obtain ⟨r93, hg92, hX82⟩ := bindE hX82
   refine WL.callH (docket_right.calls k _ F a0 A1 c2 n3 A8 c9 n10 A15 c16 n17 A22 c23 n24 a1 (Ctx.pre (qs := []) (rest := [CH.row g49 0 q4, CH.row g45 0 q3, CH.row g41 0 q2, CH.row g37 0 q1]) C90) hn4 hl5 hm6 hS7 hn11 hl12 hm13 hS14 hn18 hl19 hm20 hS21 hn25 hl26 hm27 hS28 r93 hg92) (Yenter.fn Tryz.func40 (by kernel_rfl) rfl (argsE (.cons rfl (.cons rfl .nil)))) ?_
   rintro e_ w_ ⟨rfl, C94⟩
   refine ⟨_, rfl, ?_⟩
   have C95 : Ctx _ _ _ _ _ [CH.row g49 0 q4, CH.row g45 0 q3, CH.row g41 0 q2, CH.row g37 0 q1] := Ctx.call (qs := []) (rest := [CH.row g49 0 q4, CH.row g45 0 q3, CH.row g41 0 q2, CH.row g37 0 q1]) C90 C94
   refine WL.run to 3 rfl ?_
   rcases iteE hX82 with ⟨hc96, hX82⟩ | ⟨hc96, hX82⟩
   ·refine WL.kn 19 (congrArg Value.bool (nb_t hc96)) ?_
    refine WL.valOn rfl rfl (Yl.loadVA (g := g45) (off := 0) (o := 0) (cs := q3) (us := q3) rfl Tryz.underlying26 rfl (sz_of sz26 (len_app rfl (len_app (len_map ha29) rfl))) (Ctx.subI 1 C95 rfl) (take_all _)) ?_
    refine WL.on rfl rfl ?_
    obtain ⟨r98, hg97, hX82⟩ := bindE hX82
    refine WL.callH (docket_may.calls k _ F A30 c31 n32 a2 (Ctx.pre (qs := []) (rest := [CH.row g49 0 q4, CH.row g45 0 q3, CH.row g41 0 q2, CH.row g37 0 q1]) C95) ha29 hn33 hl34 hm35 hS36 r98 hg97) (Yenter.fn Tryz.func22 (by kernel_rfl) rfl (argsE (.cons rfl .nil))) ?_
    rintro e_ w_ ⟨rfl, C99⟩
    refine ⟨_, rfl, ?_⟩
    have C100 : Ctx _ _ _ _ _ [CH.row g49 0 q4, CH.row g45 0 q3, CH.row g41 0 q2, CH.row g37 0 q1] := Ctx.call (qs := []) (rest := [CH.row g49 0 q4, CH.row g45 0 q3, CH.row g41 0 q2, CH.row g37 0 q1]) C95 C99
    refine WL.run to 2 rfl ?_
    refine WL.done ?_
    cases hX82
    refine thenE_n ?_
    exact ⟨rfl, rfl, rfl, rfl, rfl, C100⟩
   ·refine WL.kn 19 (congrArg Value.bool (nb_f hc96)) ?_
    refine WL.offs 3 19 false rfl rfl ?_
    refine WL.run to 1 rfl ?_
    refine WL.done ?_
    cases hX82
    refine thenE_n ?_
    exact ⟨rfl, rfl, rfl, rfl, rfl, C95⟩
  ·refine WL.kn 13 (congrArg Value.bool (ndec_f hc91)) ?_
   refine WL.offs 4 13 false rfl rfl ?_
   refine WL.run to 2 rfl ?_
   refine WL.offs 3 19 false rfl rfl ?_
   refine WL.run to 1 rfl ?_
   refine WL.done ?_
   cases hX82
   refine thenE_n ?_
   exact ⟨rfl, rfl, rfl, rfl, rfl, C90⟩
 ·rintro env_ w_ ⟨ho75, ho76, ho77, ho78, ho79, C81⟩
  apply kn env_ (.c ho75 (.c ho76 (.c ho77 (.c ho78 (.c ho79 .n)))))
  rcases iteE H with ⟨hc101, H⟩ | ⟨hc101, H⟩
  ·refine W.condT (congrArg Value.bool hc101) ?_
   refine W.seq ?_
   refine W.region rfl ?_
   refine WL.val (Yl.build (places := [(0, 1), (1, 1), (2, 1), (3, 1), (4, 1)]) (cs := List.toArray q4) Tryz.underlying50 zr50 (pl50 _ Tryz.underlying50) (partsB .nil) rfl) ?_
   obtain ⟨w102, hy103, C104⟩ := ev_setI (P := Tryz.prog) (ps1 := []) (ps2 := [CH.row g45 0 q3, CH.row g41 0 q2, CH.row g37 0 q1]) (t := 50) 0 q4 (.agg (List.toArray q4)) C81 rfl rfl (ones_of rfl) sz50
   have C105 : Ctx _ _ _ _ _ [CH.row g49 0 q4, CH.row g45 0 q3, CH.row g41 0 q2, CH.row g37 0 q1] := C104
   refine WL.skip (hy103 _ _ _ _ rfl rfl) ?_
   refine WL.run to 1 rfl ?_
   refine WL.done ?_
   refine W.ret ?_
   refine thenE_r ?_
   have C106 : Ctx _ _ _ _ _ [CH.emp, CH.emp, CH.emp, CH.emp] := Ctx.pick [4, 4, 4, 4] C105 rfl
   simp only [Option.some.injEq, Prod.mk.injEq] at H
   obtain ⟨e107, e108⟩ := H
   subst e107 e108
   exact post_r (resET rfl ((.cell rfl (run_loadVA2 (g := g49) (off := 0) (o := 0) (cs := q4) (us := q4) Tryz.underlying50 rfl sz50 (Ctx.subI 0 C105 rfl) rfl) (.tmp rfl .nil))) rfl) ⟨F, none, 0, 0, CH.emp, none, 0, 0, CH.emp, none, 0, 0, CH.emp, none, 0, 0, CH.emp, rfl, (CH.le_refl _), C106, rfl, (Row.nil _ _), rfl, (Row.nil _ _), rfl, (Row.nil _ _), rfl, (Row.nil _ _)⟩
  ·refine W.condF (congrArg Value.bool (Bool.eq_false_iff.2 hc101)) ?_
   refine W.skip ?_
   refine W.seq ?_
   refine W.regionA [([4], CH.row g37 0 q1), ([2, 4], CH.row g41 0 q2)] (by kernel_rfl) ?_
   have C143 := Ctx.drewN C81 1
   refine WA.takes [(0, some 0), (1, some 1)] ⟨(Ctx.subI 3 C143 rfl), (Ctx.subI 2 C143 rfl), trivial⟩ (by kernel_rfl) ?_
   refine WT.val rfl (fun _ hC_ => Yl.loadVA (g := g37) (off := 0) (o := 0) (cs := q1) (us := q1) rfl Tryz.underlying42 rfl sz42 (show Sub (CH.row g37 0 q1) _ from hC_) rfl) ?_
   refine WT.val rfl (fun _ hC_ => Yl.loadVA (g := g41) (off := 0) (o := 0) (cs := q2) (us := q2) rfl Tryz.underlying50 rfl sz50 (show Sub (CH.row g41 0 q2) _ from hC_) rfl) ?_
   refine WT.done ?_
   obtain ⟨r145, hg144, H⟩ := bindE H
   refine WA.up1 2 (by kernel_rfl) (Up.callH rfl (by kernel_rfl) rfl (docket_clone.calls k _ F A1 c2 n3 A8 c9 n10 A15 c16 n17 A22 c23 n24 a1 (Ctx.pre (qs := []) (rest := [CH.row g49 0 q4, CH.row g45 0 q3, CH.row g41 0 q2, CH.row g37 0 q1]) C143) hn4 hl5 hm6 hS7 hn11 hl12 hm13 hS14 hn18 hl19 hm20 hS21 hn25 hl26 hm27 hS28 r145 hg144) (Yenter.fn Tryz.func41 (by kernel_rfl) rfl (argsE (.cons rfl .nil))) ?_)
   rintro e_ w_ ⟨F146, A148, c149, n150, p152, A154, c155, n156, p158, A160, c161, n162, p164, A166, c167, n168, p170, rfl, le147, C172, hn151, hR153, hn157, hR159, hn163, hR165, hn169, hR171⟩
   have C173 : Ctx _ _ _ _ _ [p152, p158, p164, p170, CH.row g49 0 q4, CH.row g45 0 q3, CH.row g41 0 q2, CH.row g37 0 q1] := Ctx.call (qs := []) (rest := [CH.row g49 0 q4, CH.row g45 0 q3, CH.row g41 0 q2, CH.row g37 0 q1]) C143 C172
   refine ⟨_, rfl, ⟨(Ctx.subI 7 C173 rfl), trivial, trivial⟩, ?_⟩
   refine WA.takes [(3, none)] ⟨(Ctx.subI 7 C173 rfl), (Ctx.subI 6 C173 rfl), trivial⟩ (by kernel_rfl) ?_
   let q5 : List Go.Value := [.int .i64 a0.Faulty, .int .i64 a0.Workers, .int .i64 a0.Height, .int .i64 a0.Bits, .int .i64 a0.Jobs, .int .i64 a0.Term, .int .i64 a0.Heads, .slice A148 n150 c149, .slice A154 n156 c155, .slice A160 n162 c161, .slice A166 n168 c167, .int .i64 r145.Heads]
   let q6 : List Go.Value := [.slice A148 n150 c149, .slice A154 n156 c155, .slice A160 n162 c161, .slice A166 n168 c167, .int .i64 r145.Heads]
   refine WT.val rfl (fun _ hC_ => Yl.build (places := [(0, 7), (7, 5)]) (cs := List.toArray q5) Tryz.underlying90 zr90 (pl90 _ Tryz.underlying90) (partsB (.cons rfl (.cons rfl .nil))) (Fills.run (a := [.int .i64 0, .int .i64 0, .int .i64 0, .int .i64 0, .int .i64 0, .int .i64 0, .int .i64 0, .slice none 0 0, .slice none 0 0, .slice none 0 0, .slice none 0 0, .int .i64 0]) (c := [.int .i64 a0.Faulty, .int .i64 a0.Workers, .int .i64 a0.Height, .int .i64 a0.Bits, .int .i64 a0.Jobs, .int .i64 a0.Term, .int .i64 a0.Heads, .slice A148 n150 c149, .slice A154 n156 c155, .slice A160 n162 c161, .slice A166 n168 c167, .int .i64 r145.Heads]) (.put (us := q1) rfl rfl rfl (Put.lit 0 rfl) (.put (us := q6) rfl rfl rfl (Put.lit 7 rfl) .nil)))) ?_
   refine WT.done ?_
   obtain ⟨g174, w175, hy176, C177⟩ := ev_box (P := Tryz.prog) 90 (.agg (List.toArray q5)) q5 C173 rfl
   refine WA.up1 4 (by kernel_rfl) (Up.val rfl rfl rfl (hy176 _ _ _ rfl) ⟨trivial, trivial, trivial⟩ ?_)
   refine WA.takes [(5, none)] ⟨(Ctx.subI 8 C177 rfl), (Ctx.subI 7 C177 rfl), trivial⟩ (by kernel_rfl) ?_
   refine WT.run to 1 rfl ?_
   refine WT.done ?_
   refine WA.done (by kernel_rfl) ?_
   refine W.seq ?_
   refine W.seq ?_
   obtain ⟨⟨x578, x579⟩, hX605, H⟩ := bindE H
   refine W.cutM (fun env_ w_ => ∃ (F573 : CH) (A580 : Option Addr) (c581 : Nat) (n582 : Nat) (p584 : CH) (A586 : Option Addr) (c587 : Nat) (n588 : Nat) (p590 : CH) (A592 : Option Addr) (c593 : Nat) (n594 : Nat) (p596 : CH) (A598 : Option Addr) (c599 : Nat) (n600 : Nat) (p602 : CH), env_ 6 = .pointer (some ⟨g49, 0, none⟩) ∧ env_ 8 = .pointer (some ⟨g174, 0, none⟩) ∧ env_ 9 = .int .i64 x578 ∧ Ctx w F D w_ F573 [CH.row g174 0 [.int .i64 x579.c.Faulty, .int .i64 x579.c.Workers, .int .i64 x579.c.Height, .int .i64 x579.c.Bits, .int .i64 x579.c.Jobs, .int .i64 x579.c.Term, .int .i64 x579.c.Heads, .slice A580 n582 c581, .slice A586 n588 c587, .slice A592 n594 c593, .slice A598 n600 c599, .int .i64 x579.State.Heads], p584, p590, p596, p602, CH.row g49 0 q4, CH.row g45 0 q3, CH.row g41 0 q2, CH.row g37 0 q1] ∧ CH.le F146 F573 ∧ n582 = x579.State.Eras.length ∧ Row TEra.K F573 p584 (.slice A580 n582 c581) x579.State.Eras ∧ n588 = x579.State.Jobs.length ∧ Row TJob.K F573 p590 (.slice A586 n588 c587) x579.State.Jobs ∧ n594 = x579.State.Used.length ∧ Row (Kd.int .i64) F573 p596 (.slice A592 n594 c593) x579.State.Used ∧ n600 = x579.State.Barred.length ∧ Row Kd.bool F573 p602 (.slice A598 n600 c599) x579.State.Barred) ?_ ?_
   ·refine W.regionA [([5], CH.row g45 0 q3)] (by kernel_rfl) ?_
    have C803 := Ctx.drewN C177 1
    refine WA.takes [(0, none), (1, some 0), (3, none), (4, some 0)] ⟨(Ctx.subI 6 C803 rfl), trivial⟩ (by kernel_rfl) ?_
    refine WT.run to 1 rfl ?_
    refine WT.val rfl (fun _ hC_ => Yl.loadV (g := g45) (off := 0) (o := 0) (cs := q3) (v := .int .i64 a2.Kind) rfl Tryz.underlying3 rfl (show Sub (CH.row g45 0 q3) _ from hC_) rfl) ?_
    refine WT.run to 1 rfl ?_
    refine WT.val rfl (fun _ hC_ => Yl.loadVA (g := g45) (off := 0) (o := 0) (cs := q3) (us := q3) rfl Tryz.underlying26 rfl (sz_of sz26 (len_app rfl (len_app (len_map ha29) rfl))) (show Sub (CH.row g45 0 q3) _ from hC_) (take_all _)) ?_
    refine WT.done ?_
    obtain ⟨r805, hg804, hX605⟩ := bindE hX605
    refine WA.up1 2 (by kernel_rfl) (Up.callH rfl (by kernel_rfl) rfl (docket_what.calls k _ F146 a2.Kind C803.pre0  r805 hg804) (Yenter.fn Tryz.func42 (by kernel_rfl) rfl (argsE (.cons rfl .nil))) ?_)
    rintro e_ w_ ⟨rfl, ⟨m806, rfl⟩⟩
    have C807 := Ctx.drewN C803 m806
    refine ⟨_, rfl, ⟨(Ctx.subI 6 C807 rfl), trivial⟩, ?_⟩
    rcases iteE hX605 with ⟨hc808, hX605⟩ | ⟨hc808, hX605⟩
    ·obtain ⟨⟨r810, r811⟩, hg809, hX605⟩ := bindE hX605
     refine WA.up1 5 (by kernel_rfl) (Up.callH rfl (by kernel_rfl) rfl (docket_work_epoch.calls k _ F146 g174 0 A148 c149 n150 p152 A154 c155 n156 p158 A160 c161 n162 p164 A166 c167 n168 p170 (⟨a0, r145⟩ : Twork) A30 c31 n32 a2 (Ctx.pre (qs := [CH.row g174 0 q5, p152, p158, p164, p170]) (rest := [CH.row g49 0 q4, CH.row g45 0 q3, CH.row g41 0 q2, CH.row g37 0 q1]) C807) hn151 hR153 hn157 hR159 hn163 hR165 hn169 hR171 ha29 hn33 hl34 hm35 (Sl.mono hS36 le147 le147) r810 r811 hg809) (Yenter.fnT (fnV_of 64 hc808) Tryz.func64 (by kernel_rfl) rfl (argsE (.cons rfl (.cons rfl .nil)))) ?_)
     rintro e_ w_ ⟨F812, A814, c815, n816, p818, A820, c821, n822, p824, A826, c827, n828, p830, A832, c833, n834, p836, rfl, le813, C838, hn817, hR819, hn823, hR825, hn829, hR831, hn835, hR837⟩
     let q7 : List Go.Value := [.int .i64 r811.c.Faulty, .int .i64 r811.c.Workers, .int .i64 r811.c.Height, .int .i64 r811.c.Bits, .int .i64 r811.c.Jobs, .int .i64 r811.c.Term, .int .i64 r811.c.Heads, .slice A814 n816 c815, .slice A820 n822 c821, .slice A826 n828 c827, .slice A832 n834 c833, .int .i64 r811.State.Heads]
     have C839 : Ctx _ _ _ _ _ [CH.row g174 0 q7, p818, p824, p830, p836, CH.row g49 0 q4, CH.row g45 0 q3, CH.row g41 0 q2, CH.row g37 0 q1] := Ctx.call (qs := [CH.row g174 0 q5, p152, p158, p164, p170]) (rest := [CH.row g49 0 q4, CH.row g45 0 q3, CH.row g41 0 q2, CH.row g37 0 q1]) C807 C838
     refine ⟨_, rfl, ⟨trivial, trivial⟩, ?_⟩
     refine WA.takes [(6, none)] ⟨(Ctx.subI 6 C839 rfl), trivial⟩ (by kernel_rfl) ?_
     refine WT.run to 1 rfl ?_
     refine WT.done ?_
     refine WA.done (by kernel_rfl) ?_
     cases hX605
     refine thenE_n ?_
     exact ⟨F812, A814, c815, n816, p818, A820, c821, n822, p824, A826, c827, n828, p830, A832, c833, n834, p836, rfl, rfl, rfl, C839, le813, hn817, hR819, hn823, hR825, hn829, hR831, hn835, hR837⟩
    ·rcases iteE hX605 with ⟨hc840, hX605⟩ | ⟨hc840, hX605⟩
     ·obtain ⟨⟨r842, r843⟩, hg841, hX605⟩ := bindE hX605
      refine WA.up1 5 (by kernel_rfl) (Up.callH rfl (by kernel_rfl) rfl (docket_work_submit.calls k _ F146 g174 0 A148 c149 n150 p152 A154 c155 n156 p158 A160 c161 n162 p164 A166 c167 n168 p170 (⟨a0, r145⟩ : Twork) A30 c31 n32 a2 (Ctx.pre (qs := [CH.row g174 0 q5, p152, p158, p164, p170]) (rest := [CH.row g49 0 q4, CH.row g45 0 q3, CH.row g41 0 q2, CH.row g37 0 q1]) C807) hn151 hR153 hn157 hR159 hn163 hR165 hn169 hR171 ha29 hn33 hl34 hm35 (Sl.mono hS36 le147 le147) r842 r843 hg841) (Yenter.fnT (fnV_of 65 hc840) Tryz.func65 (by kernel_rfl) rfl (argsE (.cons rfl (.cons rfl .nil)))) ?_)
      rintro e_ w_ ⟨F844, A846, c847, n848, p850, A852, c853, n854, p856, A858, c859, n860, p862, A864, c865, n866, p868, rfl, le845, C870, hn849, hR851, hn855, hR857, hn861, hR863, hn867, hR869⟩
      let q8 : List Go.Value := [.int .i64 r843.c.Faulty, .int .i64 r843.c.Workers, .int .i64 r843.c.Height, .int .i64 r843.c.Bits, .int .i64 r843.c.Jobs, .int .i64 r843.c.Term, .int .i64 r843.c.Heads, .slice A846 n848 c847, .slice A852 n854 c853, .slice A858 n860 c859, .slice A864 n866 c865, .int .i64 r843.State.Heads]
      have C871 : Ctx _ _ _ _ _ [CH.row g174 0 q8, p850, p856, p862, p868, CH.row g49 0 q4, CH.row g45 0 q3, CH.row g41 0 q2, CH.row g37 0 q1] := Ctx.call (qs := [CH.row g174 0 q5, p152, p158, p164, p170]) (rest := [CH.row g49 0 q4, CH.row g45 0 q3, CH.row g41 0 q2, CH.row g37 0 q1]) C807 C870
      refine ⟨_, rfl, ⟨trivial, trivial⟩, ?_⟩
      refine WA.takes [(6, none)] ⟨(Ctx.subI 6 C871 rfl), trivial⟩ (by kernel_rfl) ?_
      refine WT.run to 1 rfl ?_
      refine WT.done ?_
      refine WA.done (by kernel_rfl) ?_
      cases hX605
      refine thenE_n ?_
      exact ⟨F844, A846, c847, n848, p850, A852, c853, n854, p856, A858, c859, n860, p862, A864, c865, n866, p868, rfl, rfl, rfl, C871, le845, hn849, hR851, hn855, hR857, hn861, hR863, hn867, hR869⟩
     ·rcases iteE hX605 with ⟨hc872, hX605⟩ | ⟨hc872, hX605⟩
      ·obtain ⟨⟨r874, r875⟩, hg873, hX605⟩ := bindE hX605
       refine WA.up1 5 (by kernel_rfl) (Up.callH rfl (by kernel_rfl) rfl (docket_work_assign.calls k _ F146 g174 0 A148 c149 n150 p152 A154 c155 n156 p158 A160 c161 n162 p164 A166 c167 n168 p170 (⟨a0, r145⟩ : Twork) A30 c31 n32 a2 (Ctx.pre (qs := [CH.row g174 0 q5, p152, p158, p164, p170]) (rest := [CH.row g49 0 q4, CH.row g45 0 q3, CH.row g41 0 q2, CH.row g37 0 q1]) C807) hn151 hR153 hn157 hR159 hn163 hR165 hn169 hR171 ha29 hn33 hl34 hm35 (Sl.mono hS36 le147 le147) r874 r875 hg873) (Yenter.fnT (fnV_of 66 hc872) Tryz.func66 (by kernel_rfl) rfl (argsE (.cons rfl (.cons rfl .nil)))) ?_)
       rintro e_ w_ ⟨F876, A878, c879, n880, p882, A884, c885, n886, p888, A890, c891, n892, p894, A896, c897, n898, p900, rfl, le877, C902, hn881, hR883, hn887, hR889, hn893, hR895, hn899, hR901⟩
       let q9 : List Go.Value := [.int .i64 r875.c.Faulty, .int .i64 r875.c.Workers, .int .i64 r875.c.Height, .int .i64 r875.c.Bits, .int .i64 r875.c.Jobs, .int .i64 r875.c.Term, .int .i64 r875.c.Heads, .slice A878 n880 c879, .slice A884 n886 c885, .slice A890 n892 c891, .slice A896 n898 c897, .int .i64 r875.State.Heads]
       have C903 : Ctx _ _ _ _ _ [CH.row g174 0 q9, p882, p888, p894, p900, CH.row g49 0 q4, CH.row g45 0 q3, CH.row g41 0 q2, CH.row g37 0 q1] := Ctx.call (qs := [CH.row g174 0 q5, p152, p158, p164, p170]) (rest := [CH.row g49 0 q4, CH.row g45 0 q3, CH.row g41 0 q2, CH.row g37 0 q1]) C807 C902
       refine ⟨_, rfl, ⟨trivial, trivial⟩, ?_⟩
       refine WA.takes [(6, none)] ⟨(Ctx.subI 6 C903 rfl), trivial⟩ (by kernel_rfl) ?_
       refine WT.run to 1 rfl ?_
       refine WT.done ?_
       refine WA.done (by kernel_rfl) ?_
       cases hX605
       refine thenE_n ?_
       exact ⟨F876, A878, c879, n880, p882, A884, c885, n886, p888, A890, c891, n892, p894, A896, c897, n898, p900, rfl, rfl, rfl, C903, le877, hn881, hR883, hn887, hR889, hn893, hR895, hn899, hR901⟩
      ·rcases iteE hX605 with ⟨hc904, hX605⟩ | ⟨hc904, hX605⟩
       ·obtain ⟨⟨r906, r907⟩, hg905, hX605⟩ := bindE hX605
        refine WA.up1 5 (by kernel_rfl) (Up.callH rfl (by kernel_rfl) rfl (docket_work_vote.calls k _ F146 g174 0 A148 c149 n150 p152 A154 c155 n156 p158 A160 c161 n162 p164 A166 c167 n168 p170 (⟨a0, r145⟩ : Twork) A30 c31 n32 a2 (Ctx.pre (qs := [CH.row g174 0 q5, p152, p158, p164, p170]) (rest := [CH.row g49 0 q4, CH.row g45 0 q3, CH.row g41 0 q2, CH.row g37 0 q1]) C807) hn151 hR153 hn157 hR159 hn163 hR165 hn169 hR171 ha29 hn33 hl34 hm35 (Sl.mono hS36 le147 le147) r906 r907 hg905) (Yenter.fnT (fnV_of 67 hc904) Tryz.func67 (by kernel_rfl) rfl (argsE (.cons rfl (.cons rfl .nil)))) ?_)
        rintro e_ w_ ⟨F908, A910, c911, n912, p914, A916, c917, n918, p920, A922, c923, n924, p926, A928, c929, n930, p932, rfl, le909, C934, hn913, hR915, hn919, hR921, hn925, hR927, hn931, hR933⟩
        let q10 : List Go.Value := [.int .i64 r907.c.Faulty, .int .i64 r907.c.Workers, .int .i64 r907.c.Height, .int .i64 r907.c.Bits, .int .i64 r907.c.Jobs, .int .i64 r907.c.Term, .int .i64 r907.c.Heads, .slice A910 n912 c911, .slice A916 n918 c917, .slice A922 n924 c923, .slice A928 n930 c929, .int .i64 r907.State.Heads]
        have C935 : Ctx _ _ _ _ _ [CH.row g174 0 q10, p914, p920, p926, p932, CH.row g49 0 q4, CH.row g45 0 q3, CH.row g41 0 q2, CH.row g37 0 q1] := Ctx.call (qs := [CH.row g174 0 q5, p152, p158, p164, p170]) (rest := [CH.row g49 0 q4, CH.row g45 0 q3, CH.row g41 0 q2, CH.row g37 0 q1]) C807 C934
        refine ⟨_, rfl, ⟨trivial, trivial⟩, ?_⟩
        refine WA.takes [(6, none)] ⟨(Ctx.subI 6 C935 rfl), trivial⟩ (by kernel_rfl) ?_
        refine WT.run to 1 rfl ?_
        refine WT.done ?_
        refine WA.done (by kernel_rfl) ?_
        cases hX605
        refine thenE_n ?_
        exact ⟨F908, A910, c911, n912, p914, A916, c917, n918, p920, A922, c923, n924, p926, A928, c929, n930, p932, rfl, rfl, rfl, C935, le909, hn913, hR915, hn919, hR921, hn925, hR927, hn931, hR933⟩
       ·rcases iteE hX605 with ⟨hc936, hX605⟩ | ⟨hc936, hX605⟩
        ·obtain ⟨⟨r938, r939⟩, hg937, hX605⟩ := bindE hX605
         refine WA.up1 5 (by kernel_rfl) (Up.callH rfl (by kernel_rfl) rfl (docket_work_expire.calls k _ F146 g174 0 A148 c149 n150 p152 A154 c155 n156 p158 A160 c161 n162 p164 A166 c167 n168 p170 (⟨a0, r145⟩ : Twork) A30 c31 n32 a2 (Ctx.pre (qs := [CH.row g174 0 q5, p152, p158, p164, p170]) (rest := [CH.row g49 0 q4, CH.row g45 0 q3, CH.row g41 0 q2, CH.row g37 0 q1]) C807) hn151 hR153 hn157 hR159 hn163 hR165 hn169 hR171 ha29 hn33 hl34 hm35 (Sl.mono hS36 le147 le147) r938 r939 hg937) (Yenter.fnT (fnV_of 68 hc936) Tryz.func68 (by kernel_rfl) rfl (argsE (.cons rfl (.cons rfl .nil)))) ?_)
         rintro e_ w_ ⟨F940, A942, c943, n944, p946, A948, c949, n950, p952, A954, c955, n956, p958, A960, c961, n962, p964, rfl, le941, C966, hn945, hR947, hn951, hR953, hn957, hR959, hn963, hR965⟩
         let q11 : List Go.Value := [.int .i64 r939.c.Faulty, .int .i64 r939.c.Workers, .int .i64 r939.c.Height, .int .i64 r939.c.Bits, .int .i64 r939.c.Jobs, .int .i64 r939.c.Term, .int .i64 r939.c.Heads, .slice A942 n944 c943, .slice A948 n950 c949, .slice A954 n956 c955, .slice A960 n962 c961, .int .i64 r939.State.Heads]
         have C967 : Ctx _ _ _ _ _ [CH.row g174 0 q11, p946, p952, p958, p964, CH.row g49 0 q4, CH.row g45 0 q3, CH.row g41 0 q2, CH.row g37 0 q1] := Ctx.call (qs := [CH.row g174 0 q5, p152, p158, p164, p170]) (rest := [CH.row g49 0 q4, CH.row g45 0 q3, CH.row g41 0 q2, CH.row g37 0 q1]) C807 C966
         refine ⟨_, rfl, ⟨trivial, trivial⟩, ?_⟩
         refine WA.takes [(6, none)] ⟨(Ctx.subI 6 C967 rfl), trivial⟩ (by kernel_rfl) ?_
         refine WT.run to 1 rfl ?_
         refine WT.done ?_
         refine WA.done (by kernel_rfl) ?_
         cases hX605
         refine thenE_n ?_
         exact ⟨F940, A942, c943, n944, p946, A948, c949, n950, p952, A954, c955, n956, p958, A960, c961, n962, p964, rfl, rfl, rfl, C967, le941, hn945, hR947, hn951, hR953, hn957, hR959, hn963, hR965⟩
        ·rcases iteE hX605 with ⟨hc968, hX605⟩ | ⟨hc968, hX605⟩
         ·obtain ⟨⟨r970, r971⟩, hg969, hX605⟩ := bindE hX605
          refine WA.up1 5 (by kernel_rfl) (Up.callH rfl (by kernel_rfl) rfl (docket_work_head.calls k _ F146 g174 0 A148 c149 n150 p152 A154 c155 n156 p158 A160 c161 n162 p164 A166 c167 n168 p170 (⟨a0, r145⟩ : Twork) A30 c31 n32 a2 (Ctx.pre (qs := [CH.row g174 0 q5, p152, p158, p164, p170]) (rest := [CH.row g49 0 q4, CH.row g45 0 q3, CH.row g41 0 q2, CH.row g37 0 q1]) C807) hn151 hR153 hn157 hR159 hn163 hR165 hn169 hR171 ha29 hn33 hl34 hm35 (Sl.mono hS36 le147 le147) r970 r971 hg969) (Yenter.fnT (fnV_of 69 hc968) Tryz.func69 (by kernel_rfl) rfl (argsE (.cons rfl (.cons rfl .nil)))) ?_)
          rintro e_ w_ ⟨F972, A974, c975, n976, p978, A980, c981, n982, p984, A986, c987, n988, p990, A992, c993, n994, p996, rfl, le973, C998, hn977, hR979, hn983, hR985, hn989, hR991, hn995, hR997⟩
          let q12 : List Go.Value := [.int .i64 r971.c.Faulty, .int .i64 r971.c.Workers, .int .i64 r971.c.Height, .int .i64 r971.c.Bits, .int .i64 r971.c.Jobs, .int .i64 r971.c.Term, .int .i64 r971.c.Heads, .slice A974 n976 c975, .slice A980 n982 c981, .slice A986 n988 c987, .slice A992 n994 c993, .int .i64 r971.State.Heads]
          have C999 : Ctx _ _ _ _ _ [CH.row g174 0 q12, p978, p984, p990, p996, CH.row g49 0 q4, CH.row g45 0 q3, CH.row g41 0 q2, CH.row g37 0 q1] := Ctx.call (qs := [CH.row g174 0 q5, p152, p158, p164, p170]) (rest := [CH.row g49 0 q4, CH.row g45 0 q3, CH.row g41 0 q2, CH.row g37 0 q1]) C807 C998
          refine ⟨_, rfl, ⟨trivial, trivial⟩, ?_⟩
          refine WA.takes [(6, none)] ⟨(Ctx.subI 6 C999 rfl), trivial⟩ (by kernel_rfl) ?_
          refine WT.run to 1 rfl ?_
          refine WT.done ?_
          refine WA.done (by kernel_rfl) ?_
          cases hX605
          refine thenE_n ?_
          exact ⟨F972, A974, c975, n976, p978, A980, c981, n982, p984, A986, c987, n988, p990, A992, c993, n994, p996, rfl, rfl, rfl, C999, le973, hn977, hR979, hn983, hR985, hn989, hR991, hn995, hR997⟩
         ·obtain ⟨hc1000, hX605⟩ := guardE hX605
          exact hc1000.elim
   ·rintro env_ w_ ⟨F573, A580, c581, n582, p584, A586, c587, n588, p590, A592, c593, n594, p596, A598, c599, n600, p602, ho575, ho576, ho577, C604, le574, hn583, hR585, hn589, hR591, hn595, hR597, hn601, hR603⟩
    apply kn env_ (.c ho575 (.c ho576 (.c ho577 .n)))
    refine W.seq ?_
    refine W.region rfl ?_
    refine WL.run to 2 rfl ?_
    refine WL.done ?_
    rcases iteE H with ⟨hc1001, H⟩ | ⟨hc1001, H⟩
    ·refine W.condF (congrArg Value.bool (ndec_t hc1001)) ?_
     refine W.skip ?_
     refine W.seq ?_
     refine W.region rfl ?_
     refine WL.run to 3 rfl ?_
     let q13 : List Go.Value := [.int .i64 x579.c.Faulty, .int .i64 x579.c.Workers, .int .i64 x579.c.Height, .int .i64 x579.c.Bits, .int .i64 x579.c.Jobs, .int .i64 x579.c.Term, .int .i64 x579.c.Heads, .slice A580 n582 c581, .slice A586 n588 c587, .slice A592 n594 c593, .slice A598 n600 c599, .int .i64 x579.State.Heads]
     let q14 : List Go.Value := [.slice A580 n582 c581, .slice A586 n588 c587, .slice A592 n594 c593, .slice A598 n600 c599, .int .i64 x579.State.Heads]
     refine WL.val (Yl.loadVA (g := g174) (off := 0) (o := 7) (cs := q13) (us := q14) rfl Tryz.underlying50 rfl sz50 (Ctx.subI 0 C604 rfl) rfl) ?_
     obtain ⟨w1002, hy1003, C1004⟩ := ev_setI (P := Tryz.prog) (ps1 := [CH.row g174 0 q13, p584, p590, p596, p602]) (ps2 := [CH.row g45 0 q3, CH.row g41 0 q2, CH.row g37 0 q1]) (t := 50) 0 q14 (.agg (List.toArray q14)) C604 rfl rfl (ones_of rfl) sz50
     have C1005 : Ctx _ _ _ _ _ [CH.row g174 0 q13, p584, p590, p596, p602, CH.row g49 0 q14, CH.row g45 0 q3, CH.row g41 0 q2, CH.row g37 0 q1] := C1004
     refine WL.skip (hy1003 _ _ _ _ rfl rfl) ?_
     refine WL.run to 1 rfl ?_
     refine WL.done ?_
     refine W.ret ?_
     have C1006 : Ctx _ _ _ _ _ [p584, p590, p596, p602] := Ctx.pick [1, 2, 3, 4] C1005 rfl
     simp only [Option.some.injEq, Prod.mk.injEq] at H
     obtain ⟨e1007, e1008⟩ := H
     subst e1007 e1008
     exact post_r (resET rfl ((.cell rfl (run_loadVA2 (g := g49) (off := 0) (o := 0) (cs := q14) (us := q14) Tryz.underlying50 rfl sz50 (Ctx.subI 5 C1005 rfl) rfl) (.tmp rfl .nil))) rfl) ⟨F573, A580, c581, n582, p584, A586, c587, n588, p590, A592, c593, n594, p596, A598, c599, n600, p602, rfl, (CH.le_trans le147 le574), C1006, hn583, hR585, hn589, hR591, hn595, hR597, hn601, hR603⟩
    ·refine W.condT (congrArg Value.bool (ndec_f hc1001)) ?_
     refine W.seq ?_
     refine W.region rfl ?_
     refine WL.val (Yl.build (places := [(0, 1), (1, 1), (2, 1), (3, 1), (4, 1)]) (cs := List.toArray q4) Tryz.underlying50 zr50 (pl50 _ Tryz.underlying50) (partsB .nil) rfl) ?_
     refine WL.run to 1 rfl ?_
     let q15 : List Go.Value := [.int .i64 x579.c.Faulty, .int .i64 x579.c.Workers, .int .i64 x579.c.Height, .int .i64 x579.c.Bits, .int .i64 x579.c.Jobs, .int .i64 x579.c.Term, .int .i64 x579.c.Heads, .slice A580 n582 c581, .slice A586 n588 c587, .slice A592 n594 c593, .slice A598 n600 c599, .int .i64 x579.State.Heads]
     obtain ⟨w1009, hy1010, C1011⟩ := ev_setI (P := Tryz.prog) (ps1 := [CH.row g174 0 q15, p584, p590, p596, p602]) (ps2 := [CH.row g45 0 q3, CH.row g41 0 q2, CH.row g37 0 q1]) (t := 50) 0 q4 (.agg (List.toArray q4)) C604 rfl rfl (ones_of rfl) sz50
     have C1012 : Ctx _ _ _ _ _ [CH.row g174 0 q15, p584, p590, p596, p602, CH.row g49 0 q4, CH.row g45 0 q3, CH.row g41 0 q2, CH.row g37 0 q1] := C1011
     refine WL.skip (hy1010 _ _ _ _ rfl rfl) ?_
     refine WL.run to 1 rfl ?_
     refine WL.done ?_
     refine W.ret ?_
     refine thenE_r ?_
     have C1013 : Ctx _ _ _ _ _ [CH.emp, CH.emp, CH.emp, CH.emp] := Ctx.pick [9, 9, 9, 9] C1012 rfl
     simp only [Option.some.injEq, Prod.mk.injEq] at H
     obtain ⟨e1014, e1015⟩ := H
     subst e1014 e1015
     exact post_r (resET rfl ((.cell rfl (run_loadVA2 (g := g49) (off := 0) (o := 0) (cs := q4) (us := q4) Tryz.underlying50 rfl sz50 (Ctx.subI 5 C1012 rfl) rfl) (.tmp rfl .nil))) rfl) ⟨F573, none, 0, 0, CH.emp, none, 0, 0, CH.emp, none, 0, 0, CH.emp, none, 0, 0, CH.emp, rfl, (CH.le_trans le147 le574), C1013, rfl, (Row.nil _ _), rfl, (Row.nil _ _), rfl, (Row.nil _ _), rfl, (Row.nil _ _)⟩
end Go.Proofs.YtobdpbnadjkhiaaGreat
