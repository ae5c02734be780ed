/- Functions of the program: each as a plain function of numbers and lists, and the proof that the program's own comes to it. Nothing is assumed but what each theorem says. -/
import Derived.Test.YtobdpbnadjkhiaaTGe
import Derived.Test.YtobdpbnadjkhiaaTGc
namespace Go.Proofs.Ytobdpbnadjkhiaa
open Go.RowKit Go.WG
set_option linter.unusedVariables false
set_option linter.unusedSimpArgs false
def docket_work_vote.l1 : Nat → List Int → Int → Twork → Option Twork
  | 0, _, _, _ => none
  | k + 1, r328, x501, x502 => if x501 < (r328.length : Int) then (if 0 ≤ x501 ∧ x501 < (r328.length : Int) then (if 0 ≤ (r328.getD x501.toNat 0) ∧ (r328.getD x501.toNat 0) < (x502.State.Barred.length : Int) then (docket_work_vote.l1 k r328 (wi64 (x501 + 1)) (⟨x502.c, (⟨x502.State.Eras, x502.State.Jobs, x502.State.Used, x502.State.Barred.set (r328.getD x501.toNat 0).toNat true, x502.State.Heads⟩ : TState)⟩ : Twork)) else none) else none) else (some x502)
def docket_work_vote.f (k : Nat) (a0 : Twork) (a1 : TRecord) : Option (Int × Twork) := (docket_work_job.f k a0 a1).bind fun ⟨r60, r61⟩ => if 0 ≤ r60 ∧ r60 < (a0.State.Jobs.length : Int) then (if r61 = 0 then (if ((a0.State.Jobs.getD r60.toNat TJob.z).State) = 1 then (some (212, a0)) else ((docket_asked.f k (a0.State.Jobs.getD r60.toNat TJob.z) a1.By).bind fun r118 => if r118 = true then ((tally_Cast.f k ((a0.State.Jobs.getD r60.toNat TJob.z).Votes) (⟨a1.By, a1.Data⟩ : TCast)).bind fun ⟨r141, r142⟩ => if r142 = 0 then ((some (a0.State.Jobs.set r60.toNat ({ a0.State.Jobs.getD r60.toNat TJob.z with Votes := r141 }))).bind fun xs211 => (tally_Decide.f k r141 a0.c.Faulty).bind fun ⟨r215, r216⟩ => if r216 = true then ((some (xs211.set r60.toNat ({ xs211.getD r60.toNat TJob.z with State := 3 }))).bind fun xs268 => (some (xs268.set r60.toNat ({ xs268.getD r60.toNat TJob.z with Value := r215 }))).bind fun xs324 => (tally_Liars.f k r141 r215).bind fun r328 => (docket_work_vote.l1 k r328 0 (⟨a0.c, (⟨a0.State.Eras, xs324, a0.State.Used, a0.State.Barred, a0.State.Heads⟩ : TState)⟩ : Twork)).bind fun x442 => some (0, x442)) else (some (0, (⟨a0.c, (⟨a0.State.Eras, xs211, a0.State.Used, a0.State.Barred, a0.State.Heads⟩ : TState)⟩ : Twork)))) else (some (r142, a0))) else (some (214, a0)))) else (some (r61, a0))) else (if r61 = 0 then (if False then (none) else none) else (some (r61, a0)))
set_option maxRecDepth 100000 in
set_option maxHeartbeats 4000000 in
theorem docket_work_vote.calls (k : Nat) (w : World) (F : CH) (g1 : Nat) (o2 : Nat) (A3 : Option Addr) (c4 : Nat) (n5 : Nat) (p7 : CH) (A9 : Option Addr) (c10 : Nat) (n11 : Nat) (p13 : CH) (A15 : Option Addr) (c16 : Nat) (n17 : Nat) (p19 : CH) (A21 : Option Addr) (c22 : Nat) (n23 : Nat) (p25 : CH) (a0 : Twork) (A28 : Option Addr) (c29 : Nat) (n30 : Nat) (a1 : TRecord) (hp : Pre w F [CH.row g1 o2 [.int .i64 a0.c.Faulty, .int .i64 a0.c.Workers, .int .i64 a0.c.Height, .int .i64 a0.c.Bits, .int .i64 a0.c.Jobs, .int .i64 a0.c.Term, .int .i64 a0.c.Heads, .slice A3 n5 c4, .slice A9 n11 c10, .slice A15 n17 c16, .slice A21 n23 c22, .int .i64 a0.State.Heads], p7, p13, p19, p25]) (hn6 : n5 = a0.State.Eras.length) (hR8 : Row TEra.K F p7 (.slice A3 n5 c4) a0.State.Eras) (hn12 : n11 = a0.State.Jobs.length) (hR14 : Row TJob.K F p13 (.slice A9 n11 c10) a0.State.Jobs) (hn18 : n17 = a0.State.Used.length) (hR20 : Row (Kd.int .i64) F p19 (.slice A15 n17 c16) a0.State.Used) (hn24 : n23 = a0.State.Barred.length) (hR26 : Row Kd.bool F p25 (.slice A21 n23 c22) a0.State.Barred) (ha27 : a1.Nonce.length = 32) (hn31 : n30 = a1.Data.length) (hl32 : a1.Data.length ≤ c29) (hm33 : c29 ≤ maxLen) (hS34 : Sl (Kd.int .u8) F F A28 a1.Data) (r0_ : Int) (r1_ : Twork) (H : docket_work_vote.f k a0 a1 = some (r0_, r1_)) :
    Calls Try.prog 40 #[.pointer (some ⟨g1, o2, none⟩), .agg (List.toArray ([.int .i64 a1.Kind, .int .i64 a1.Epoch] ++ (a1.Nonce.map (Value.int .u8) ++ [.slice A28 n30 c29, .int .i64 a1.Job, .int .i64 a1.Time, .int .i64 a1.By])))] w fun e w' => ∃ (F' : CH) (A594 : Option Addr) (c595 : Nat) (n596 : Nat) (p598 : CH) (A600 : Option Addr) (c601 : Nat) (n602 : Nat) (p604 : CH) (A606 : Option Addr) (c607 : Nat) (n608 : Nat) (p610 : CH) (A612 : Option Addr) (c613 : Nat) (n614 : Nat) (p616 : CH), e = .returned (.int .i64 r0_) ∧ CH.le F F' ∧ Ctx w F (domL [CH.row g1 o2 [.int .i64 a0.c.Faulty, .int .i64 a0.c.Workers, .int .i64 a0.c.Height, .int .i64 a0.c.Bits, .int .i64 a0.c.Jobs, .int .i64 a0.c.Term, .int .i64 a0.c.Heads, .slice A3 n5 c4, .slice A9 n11 c10, .slice A15 n17 c16, .slice A21 n23 c22, .int .i64 a0.State.Heads], p7, p13, p19, p25]) w' F' [CH.row g1 o2 [.int .i64 r1_.c.Faulty, .int .i64 r1_.c.Workers, .int .i64 r1_.c.Height, .int .i64 r1_.c.Bits, .int .i64 r1_.c.Jobs, .int .i64 r1_.c.Term, .int .i64 r1_.c.Heads, .slice A594 n596 c595, .slice A600 n602 c601, .slice A606 n608 c607, .slice A612 n614 c613, .int .i64 r1_.State.Heads], p598, p604, p610, p616] ∧ n596 = r1_.State.Eras.length ∧ Row TEra.K F' p598 (.slice A594 n596 c595) r1_.State.Eras ∧ n602 = r1_.State.Jobs.length ∧ Row TJob.K F' p604 (.slice A600 n602 c601) r1_.State.Jobs ∧ n608 = r1_.State.Used.length ∧ Row (Kd.int .i64) F' p610 (.slice A606 n608 c607) r1_.State.Used ∧ n614 = r1_.State.Barred.length ∧ Row Kd.bool F' p616 (.slice A612 n614 c613) r1_.State.Barred := by
 have C := Ctx.start hp
 generalize hD : domL [CH.row g1 o2 [.int .i64 a0.c.Faulty, .int .i64 a0.c.Workers, .int .i64 a0.c.Height, .int .i64 a0.c.Bits, .int .i64 a0.c.Jobs, .int .i64 a0.c.Term, .int .i64 a0.c.Heads, .slice A3 n5 c4, .slice A9 n11 c10, .slice A15 n17 c16, .slice A21 n23 c22, .int .i64 a0.State.Heads], p7, p13, p19, p25] = D at C ⊢
 unfold docket_work_vote.f at H
 refine Calls.ofW Try.func40 rfl (by simp [Try.ntmps40]) ?_
 refine W.seq ?_
 refine W.region rfl ?_
 obtain ⟨g35, w36, hy37, C38⟩ := ev_box (P := Try.prog) 46 (.agg (List.toArray ([.int .i64 a1.Kind, .int .i64 a1.Epoch] ++ (a1.Nonce.map (Value.int .u8) ++ [.slice A28 n30 c29, .int .i64 a1.Job, .int .i64 a1.Time, .int .i64 a1.By])))) ([.int .i64 a1.Kind, .int .i64 a1.Epoch] ++ (a1.Nonce.map (Value.int .u8) ++ [.slice A28 n30 c29, .int .i64 a1.Job, .int .i64 a1.Time, .int .i64 a1.By])) C rfl
 refine WL.val (hy37 _ _ _ rfl) ?_
 refine WL.val (Yl.assign (v := .int .i64 0) rfl) ?_
 refine WL.done ?_
 refine W.seq ?_
 refine W.region rfl ?_
 refine WL.val (Yl.move (v := .pointer (some ⟨g1, o2, none⟩)) rfl) ?_
 refine WL.val (Yl.loadVA (g := g35) (off := 0) (o := 0) (cs := [.int .i64 a1.Kind, .int .i64 a1.Epoch] ++ (a1.Nonce.map (Value.int .u8) ++ [.slice A28 n30 c29, .int .i64 a1.Job, .int .i64 a1.Time, .int .i64 a1.By])) (us := [.int .i64 a1.Kind, .int .i64 a1.Epoch] ++ (a1.Nonce.map (Value.int .u8) ++ [.slice A28 n30 c29, .int .i64 a1.Job, .int .i64 a1.Time, .int .i64 a1.By])) rfl Try.underlying46 rfl (sz_of sz46 (by first | (simp only [List.length_append, List.length_map, List.length_cons, List.length_nil, ha27]; done) | simp [ha27])) (Ctx.subI 0 C38 rfl) (take_all _)) ?_
 obtain ⟨F39, le40, lp41, C42⟩ := Ctx.fzI 1 C38 rfl
 replace C42 : Ctx _ _ _ _ _ [CH.row g35 0 ([.int .i64 a1.Kind, .int .i64 a1.Epoch] ++ (a1.Nonce.map (Value.int .u8) ++ [.slice A28 n30 c29, .int .i64 a1.Job, .int .i64 a1.Time, .int .i64 a1.By])), p7, p13, p19, p25] := C42
 obtain ⟨F43, le44, lp45, C46⟩ := Ctx.fzI 1 C42 rfl
 replace C46 : Ctx _ _ _ _ _ [CH.row g35 0 ([.int .i64 a1.Kind, .int .i64 a1.Epoch] ++ (a1.Nonce.map (Value.int .u8) ++ [.slice A28 n30 c29, .int .i64 a1.Job, .int .i64 a1.Time, .int .i64 a1.By])), p13, p19, p25] := C46
 obtain ⟨F47, le48, lp49, C50⟩ := Ctx.fzI 1 C46 rfl
 replace C50 : Ctx _ _ _ _ _ [CH.row g35 0 ([.int .i64 a1.Kind, .int .i64 a1.Epoch] ++ (a1.Nonce.map (Value.int .u8) ++ [.slice A28 n30 c29, .int .i64 a1.Job, .int .i64 a1.Time, .int .i64 a1.By])), p19, p25] := C50
 obtain ⟨F51, le52, lp53, C54⟩ := Ctx.fzI 1 C50 rfl
 replace C54 : Ctx _ _ _ _ _ [CH.row g35 0 ([.int .i64 a1.Kind, .int .i64 a1.Epoch] ++ (a1.Nonce.map (Value.int .u8) ++ [.slice A28 n30 c29, .int .i64 a1.Job, .int .i64 a1.Time, .int .i64 a1.By])), p25] := C54
 obtain ⟨F55, le56, lp57, C58⟩ := Ctx.fzI 1 C54 rfl
 replace C58 : Ctx _ _ _ _ _ [CH.row g35 0 ([.int .i64 a1.Kind, .int .i64 a1.Epoch] ++ (a1.Nonce.map (Value.int .u8) ++ [.slice A28 n30 c29, .int .i64 a1.Job, .int .i64 a1.Time, .int .i64 a1.By]))] := C58
 obtain ⟨⟨r60, r61⟩, hg59, H⟩ := bindE H
 refine WL.callH (docket_work_job.calls k _ F55 g1 o2 A3 c4 n5 A9 c10 n11 A15 c16 n17 A21 c22 n23 a0 A28 c29 n30 a1 (Ctx.pre (qs := []) (rest := [CH.row g35 0 ([.int .i64 a1.Kind, .int .i64 a1.Epoch] ++ (a1.Nonce.map (Value.int .u8) ++ [.slice A28 n30 c29, .int .i64 a1.Job, .int .i64 a1.Time, .int .i64 a1.By]))]) C58) hn6 (Row.len_le hR8).1 (Row.len_le hR8).2.1 (Sl.mono (Row.sl hR8) (CH.le_trans (CH.le_trans (CH.le_trans (CH.le_trans le40 le44) le48) le52) le56) (CH.le_trans (CH.le_trans (CH.le_trans lp45 le48) le52) le56)) hn12 (Row.len_le hR14).1 (Row.len_le hR14).2.1 (Sl.mono (Row.sl hR14) (CH.le_trans (CH.le_trans (CH.le_trans (CH.le_trans le40 le44) le48) le52) le56) (CH.le_trans (CH.le_trans lp49 le52) le56)) hn18 (Row.len_le hR20).1 (Row.len_le hR20).2.1 (Sl.mono (Row.sl hR20) (CH.le_trans (CH.le_trans (CH.le_trans (CH.le_trans le40 le44) le48) le52) le56) (CH.le_trans lp53 le56)) hn24 (Row.len_le hR26).1 (Row.len_le hR26).2.1 (Sl.mono (Row.sl hR26) (CH.le_trans (CH.le_trans (CH.le_trans (CH.le_trans le40 le44) le48) le52) le56) lp57) (CH.le_trans (CH.le_trans (CH.le_trans (CH.le_trans lp41 le44) le48) le52) le56) ha27 hn31 hl32 hm33 (Sl.mono hS34 (CH.le_trans (CH.le_trans (CH.le_trans (CH.le_trans le40 le44) le48) le52) le56) (CH.le_trans (CH.le_trans (CH.le_trans (CH.le_trans le40 le44) le48) le52) le56)) r60 r61 hg59) (Yenter.fn Try.func52 (by kernel_rfl) rfl (argsE (.cons rfl (.cons rfl .nil)))) ?_
 rintro e_ w_ ⟨rfl, C62⟩
 refine ⟨_, rfl, ?_⟩
 let q1 : List Go.Value := [.int .i64 a0.c.Faulty, .int .i64 a0.c.Workers, .int .i64 a0.c.Height, .int .i64 a0.c.Bits, .int .i64 a0.c.Jobs, .int .i64 a0.c.Term, .int .i64 a0.c.Heads, .slice A3 n5 c4, .slice A9 n11 c10, .slice A15 n17 c16, .slice A21 n23 c22, .int .i64 a0.State.Heads]
 have C63 : Ctx _ _ _ _ _ [CH.row g35 0 ([.int .i64 a1.Kind, .int .i64 a1.Epoch] ++ (a1.Nonce.map (Value.int .u8) ++ [.slice A28 n30 c29, .int .i64 a1.Job, .int .i64 a1.Time, .int .i64 a1.By])), CH.row g1 o2 q1, p7, p13, p19, p25] := Ctx.callL (qs := []) (rest := [CH.row g35 0 ([.int .i64 a1.Kind, .int .i64 a1.Epoch] ++ (a1.Nonce.map (Value.int .u8) ++ [.slice A28 n30 c29, .int .i64 a1.Job, .int .i64 a1.Time, .int .i64 a1.By])), CH.row g1 o2 q1, p7, p13, p19, p25]) C38 (CH.le_trans (CH.le_trans (CH.le_trans (CH.le_trans le40 le44) le48) le52) le56) C62
 refine WL.val (Yl.move (v := .tuple #[(elp A9 n11 9 r60), (.int .i64 r61)]) rfl) ?_
 refine WL.val (Yl.extract (v := elp A9 n11 9 r60) rfl rfl) ?_
 refine WL.val (Yl.extract (v := .int .i64 r61) rfl rfl) ?_
 rcases iteE H with ⟨hc64, H⟩ | ⟨hc64, H⟩
 ·obtain ⟨b65, of66, hA67, he68⟩ := (Row.sl hR14) (by omega)
  refine WL.val (Yl.assign (v := .pointer (some ⟨b65, of66 + r60.toNat * 9, none⟩)) (elp_eq hA67 hc64 hn12)) ?_
  refine WL.val (Yl.assign (v := .int .i64 r61) rfl) ?_
  refine WL.done ?_
  refine W.seq ?_
  refine W.block ?_
  refine W.seq ?_
  refine W.region rfl ?_
  refine WL.val (Yl.move (v := .int .i64 r61) rfl) ?_
  refine WL.val (Yl.neq (m := r61) (n := 0) (q := !decide (r61 = 0)) rfl rfl rfl) ?_
  refine WL.val (Yl.assign (v := .bool (!decide (r61 = 0))) rfl) ?_
  refine WL.done ?_
  rcases iteE H with ⟨hc69, H⟩ | ⟨hc69, H⟩
  ·refine W.condF (congrArg Value.bool (ndec_t hc69)) ?_
   refine W.seq ?_
   refine W.region rfl ?_
   refine WL.val (Yl.move (v := .pointer (some ⟨b65, of66 + r60.toNat * 9, none⟩)) rfl) ?_
   refine WL.val (Yl.nilCheck rfl) ?_
   refine WL.val (Yl.fieldAddr (i := 1) rfl Try.underlying55 rfl sz3) ?_
   obtain ⟨cs70, hr71, hx72⟩ := he68 r60.toNat _ (getD_some (d := TJob.z) (by omega))
   obtain ⟨A73, c74, n75, A80, c81, n82, A87, c88, n89, A94, c95, n96, A101, c102, n103, rfl, hn76, hl77, hm78, hS79, hn83, hl84, hm85, hS86, hn90, hl91, hm92, hS93, hn97, hl98, hm99, hS100, hn104, hl105, hm106, hS107⟩ := TJob.open hr71
   refine WL.val (Yl.load (v := .int .i64 ((a0.State.Jobs.getD r60.toNat TJob.z).State)) rfl Try.underlying3 rfl (((Ctx.subI 3 C63 rfl)).cell (hx72 1 _ rfl))) ?_
   refine WL.val (Yl.eql (m := (a0.State.Jobs.getD r60.toNat TJob.z).State) (n := 1) (q := decide (((a0.State.Jobs.getD r60.toNat TJob.z).State) = 1)) rfl rfl rfl) ?_
   refine WL.val (Yl.assign (v := .bool (decide (((a0.State.Jobs.getD r60.toNat TJob.z).State) = 1))) rfl) ?_
   refine WL.done ?_
   rcases iteE H with ⟨hc108, H⟩ | ⟨hc108, H⟩
   ·refine W.condT (congrArg Value.bool (decide_eq_true hc108)) ?_
    refine W.seq ?_
    refine W.region rfl ?_
    refine WL.val (Yl.assign (v := .int .i64 212) rfl) ?_
    refine WL.done ?_
    refine W.ret ?_
    refine inB_r ?_
    refine thenE_r ?_
    have C109 : Ctx _ _ _ _ _ [CH.row g1 o2 q1, p7, p13, p19, p25] := Ctx.pick [1, 2, 3, 4, 5] C63 rfl
    simp only [Option.some.injEq, Prod.mk.injEq] at H
    obtain ⟨e110, e111⟩ := H
    subst e110 e111
    exact post_r (resE1 rfl rfl) ⟨F, A3, c4, n5, p7, A9, c10, n11, p13, A15, c16, n17, p19, A21, c22, n23, p25, rfl, (CH.le_refl _), C109, hn6, hR8, hn12, hR14, hn18, hR20, hn24, hR26⟩
   ·refine W.condF (congrArg Value.bool (decide_eq_false hc108)) ?_
    refine W.seq ?_
    refine W.regionA [([5], p13), ([5], CH.row g35 0 ([.int .i64 a1.Kind, .int .i64 a1.Epoch] ++ (a1.Nonce.map (Value.int .u8) ++ [.slice A28 n30 c29, .int .i64 a1.Job, .int .i64 a1.Time, .int .i64 a1.By])))] (by kernel_rfl) ?_
    have C116 := Ctx.drewN C63 1
    refine WA.takes [(0, none), (1, none), (2, some 0), (3, none), (4, some 1)] ⟨(Ctx.subI 3 C116 rfl), (Ctx.subI 0 C116 rfl), trivial⟩ (by kernel_rfl) ?_
    refine WT.val rfl (fun _ hC_ => Yl.move (v := .pointer (some ⟨b65, of66 + r60.toNat * 9, none⟩)) rfl) ?_
    refine WT.val rfl (fun _ hC_ => Yl.nilCheck rfl) ?_
    let q2 : List Go.Value := [.slice A73 n75 c74, .int .i64 ((a0.State.Jobs.getD r60.toNat TJob.z).State), .int .i64 ((a0.State.Jobs.getD r60.toNat TJob.z).Attempt), .int .i64 ((a0.State.Jobs.getD r60.toNat TJob.z).Epoch), .int .i64 ((a0.State.Jobs.getD r60.toNat TJob.z).Until), .slice A80 n82 c81, .slice A87 n89 c88, .slice A94 n96 c95, .slice A101 n103 c102]
    refine WT.val rfl (fun _ hC_ => Yl.loadAgg (cs := q2) rfl Try.underlying55 rfl sz55 (fun j u hu => by rw [add_of]; exact ((show Sub p13 _ from hC_)).cell (hx72 _ _ hu))) ?_
    refine WT.val rfl (fun _ hC_ => Yl.fieldAddr (i := 6) rfl Try.underlying46 rfl sz3) ?_
    refine WT.val rfl (fun _ hC_ => Yl.loadV (g := g35) (off := 0) (o := 37) (cs := [.int .i64 a1.Kind, .int .i64 a1.Epoch] ++ (a1.Nonce.map (Value.int .u8) ++ [.slice A28 n30 c29, .int .i64 a1.Job, .int .i64 a1.Time, .int .i64 a1.By])) (v := .int .i64 a1.By) rfl Try.underlying3 rfl (show Sub (CH.row g35 0 ([.int .i64 a1.Kind, .int .i64 a1.Epoch] ++ (a1.Nonce.map (Value.int .u8) ++ [.slice A28 n30 c29, .int .i64 a1.Job, .int .i64 a1.Time, .int .i64 a1.By]))) _ from hC_) (by simp [List.getElem?_append, ha27])) ?_
    refine WT.done ?_
    obtain ⟨r118, hg117, H⟩ := bindE H
    refine WA.up1 5 (by kernel_rfl) (Up.callH rfl (by kernel_rfl) rfl (docket_asked.calls k _ F A73 c74 n75 A80 c81 n82 A87 c88 n89 A94 c95 n96 A101 c102 n103 (a0.State.Jobs.getD r60.toNat TJob.z) a1.By (Ctx.pre (qs := []) (rest := [CH.row g35 0 ([.int .i64 a1.Kind, .int .i64 a1.Epoch] ++ (a1.Nonce.map (Value.int .u8) ++ [.slice A28 n30 c29, .int .i64 a1.Job, .int .i64 a1.Time, .int .i64 a1.By])), CH.row g1 o2 q1, p7, p13, p19, p25]) C116) hn76 hl77 hm78 hS79 hn83 hl84 hm85 hS86 hn90 hl91 hm92 hS93 hn97 hl98 hm99 hS100 hn104 hl105 hm106 hS107 r118 hg117) (Yenter.fn Try.func55 (by kernel_rfl) rfl (argsE (.cons rfl (.cons rfl .nil)))) ?_)
    rintro e_ w_ ⟨rfl, C119⟩
    have C120 : Ctx _ _ _ _ _ [CH.row g35 0 ([.int .i64 a1.Kind, .int .i64 a1.Epoch] ++ (a1.Nonce.map (Value.int .u8) ++ [.slice A28 n30 c29, .int .i64 a1.Job, .int .i64 a1.Time, .int .i64 a1.By])), CH.row g1 o2 q1, p7, p13, p19, p25] := Ctx.call (qs := []) (rest := [CH.row g35 0 ([.int .i64 a1.Kind, .int .i64 a1.Epoch] ++ (a1.Nonce.map (Value.int .u8) ++ [.slice A28 n30 c29, .int .i64 a1.Job, .int .i64 a1.Time, .int .i64 a1.By])), CH.row g1 o2 q1, p7, p13, p19, p25]) C116 C119
    refine ⟨_, rfl, ⟨trivial, trivial, trivial⟩, ?_⟩
    refine WA.takes [(6, none), (7, none)] ⟨(Ctx.subI 3 C120 rfl), (Ctx.subI 0 C120 rfl), trivial⟩ (by kernel_rfl) ?_
    refine WT.val rfl (fun _ hC_ => Yl.not (p := r118) (q := !r118) rfl rfl) ?_
    refine WT.val rfl (fun _ hC_ => Yl.assign (v := .bool (!r118)) rfl) ?_
    refine WT.done ?_
    refine WA.done (by kernel_rfl) ?_
    rcases iteE H with ⟨hc121, H⟩ | ⟨hc121, H⟩
    ·refine W.condF (congrArg Value.bool (nb_t hc121)) ?_
     refine W.skip ?_
     refine inB_n ?_
     refine W.seq ?_
     refine W.regionA [([9], p13), ([9], CH.row g35 0 ([.int .i64 a1.Kind, .int .i64 a1.Epoch] ++ (a1.Nonce.map (Value.int .u8) ++ [.slice A28 n30 c29, .int .i64 a1.Job, .int .i64 a1.Time, .int .i64 a1.By])))] (by kernel_rfl) ?_
     have C139 := Ctx.drewN C120 1
     refine WA.takes [(0, none), (1, none), (2, none), (3, some 0), (4, none), (5, some 1), (6, none), (7, some 1), (8, none)] ⟨(Ctx.subI 3 C139 rfl), (Ctx.subI 0 C139 rfl), trivial⟩ (by kernel_rfl) ?_
     refine WT.val rfl (fun _ hC_ => Yl.move (v := .pointer (some ⟨b65, of66 + r60.toNat * 9, none⟩)) rfl) ?_
     refine WT.val rfl (fun _ hC_ => Yl.nilCheck rfl) ?_
     refine WT.val rfl (fun _ hC_ => Yl.fieldAddr (i := 7) rfl Try.underlying55 rfl sz53) ?_
     refine WT.val rfl (fun _ hC_ => Yl.load (v := .slice A94 n96 c95) rfl Try.underlying53 rfl (((show Sub p13 _ from hC_)).cell (hx72 7 _ rfl))) ?_
     refine WT.val rfl (fun _ hC_ => Yl.fieldAddr (i := 6) rfl Try.underlying46 rfl sz3) ?_
     refine WT.val rfl (fun _ hC_ => Yl.loadV (g := g35) (off := 0) (o := 37) (cs := [.int .i64 a1.Kind, .int .i64 a1.Epoch] ++ (a1.Nonce.map (Value.int .u8) ++ [.slice A28 n30 c29, .int .i64 a1.Job, .int .i64 a1.Time, .int .i64 a1.By])) (v := .int .i64 a1.By) rfl Try.underlying3 rfl (show Sub (CH.row g35 0 ([.int .i64 a1.Kind, .int .i64 a1.Epoch] ++ (a1.Nonce.map (Value.int .u8) ++ [.slice A28 n30 c29, .int .i64 a1.Job, .int .i64 a1.Time, .int .i64 a1.By]))) _ from hC_) (by simp [List.getElem?_append, ha27])) ?_
     refine WT.val rfl (fun _ hC_ => Yl.fieldAddr (i := 3) rfl Try.underlying46 rfl sz44) ?_
     refine WT.val rfl (fun _ hC_ => Yl.loadV (g := g35) (off := 0) (o := 34) (cs := [.int .i64 a1.Kind, .int .i64 a1.Epoch] ++ (a1.Nonce.map (Value.int .u8) ++ [.slice A28 n30 c29, .int .i64 a1.Job, .int .i64 a1.Time, .int .i64 a1.By])) (v := .slice A28 n30 c29) rfl Try.underlying44 rfl (show Sub (CH.row g35 0 ([.int .i64 a1.Kind, .int .i64 a1.Epoch] ++ (a1.Nonce.map (Value.int .u8) ++ [.slice A28 n30 c29, .int .i64 a1.Job, .int .i64 a1.Time, .int .i64 a1.By]))) _ from hC_) (by simp [List.getElem?_append, ha27])) ?_
     refine WT.val rfl (fun _ hC_ => Yl.build (places := [(0, 1), (1, 1)]) (cs := List.toArray [.int .i64 a1.By, .slice A28 n30 c29]) Try.underlying79 zr79 (pl79 _ Try.underlying79) (partsB (.cons rfl (.cons rfl .nil))) rfl) ?_
     refine WT.done ?_
     obtain ⟨⟨r141, r142⟩, hg140, H⟩ := bindE H
     refine WA.up1 9 (by kernel_rfl) (Up.callH rfl (by kernel_rfl) rfl (tally_Cast.calls k _ F A94 c95 n96 ((a0.State.Jobs.getD r60.toNat TJob.z).Votes) A28 c29 n30 (⟨a1.By, a1.Data⟩ : TCast) (Ctx.pre (qs := []) (rest := [CH.row g35 0 ([.int .i64 a1.Kind, .int .i64 a1.Epoch] ++ (a1.Nonce.map (Value.int .u8) ++ [.slice A28 n30 c29, .int .i64 a1.Job, .int .i64 a1.Time, .int .i64 a1.By])), CH.row g1 o2 q1, p7, p13, p19, p25]) C139) hn97 hl98 hm99 hS100 hn31 hl32 hm33 hS34 r141 r142 hg140) (Yenter.fn Try.func56 (by kernel_rfl) rfl (argsE (.cons rfl (.cons rfl .nil)))) ?_)
     rintro e_ w_ ⟨F143, A145, c146, n147, p149, rfl, le144, C151, hn148, hR150⟩
     have C152 : Ctx _ _ _ _ _ [p149, CH.row g35 0 ([.int .i64 a1.Kind, .int .i64 a1.Epoch] ++ (a1.Nonce.map (Value.int .u8) ++ [.slice A28 n30 c29, .int .i64 a1.Job, .int .i64 a1.Time, .int .i64 a1.By])), CH.row g1 o2 q1, p7, p13, p19, p25] := Ctx.call (qs := []) (rest := [CH.row g35 0 ([.int .i64 a1.Kind, .int .i64 a1.Epoch] ++ (a1.Nonce.map (Value.int .u8) ++ [.slice A28 n30 c29, .int .i64 a1.Job, .int .i64 a1.Time, .int .i64 a1.By])), CH.row g1 o2 q1, p7, p13, p19, p25]) C139 C151
     have hR153 := Row.mono hR8 le144
     have hR154 := Row.mono hR14 le144
     have hR155 := Row.mono hR20 le144
     have hR156 := Row.mono hR26 le144
     refine ⟨_, rfl, ⟨trivial, trivial, trivial⟩, ?_⟩
     refine WA.takes [(10, none), (11, none), (12, none), (13, none), (14, none)] ⟨(Ctx.subI 4 C152 rfl), (Ctx.subI 1 C152 rfl), trivial⟩ (by kernel_rfl) ?_
     refine WT.val rfl (fun _ hC_ => Yl.move (v := .tuple #[(.slice A145 n147 c146), (.int .i64 r142)]) rfl) ?_
     refine WT.val rfl (fun _ hC_ => Yl.extract (v := .slice A145 n147 c146) rfl rfl) ?_
     refine WT.val rfl (fun _ hC_ => Yl.extract (v := .int .i64 r142) rfl rfl) ?_
     refine WT.val rfl (fun _ hC_ => Yl.assign (v := .slice A145 n147 c146) rfl) ?_
     refine WT.val rfl (fun _ hC_ => Yl.assign (v := .int .i64 r142) rfl) ?_
     refine WT.done ?_
     refine WA.done (by kernel_rfl) ?_
     refine W.seq ?_
     refine W.seq ?_
     refine W.region rfl ?_
     refine WL.val (Yl.move (v := .int .i64 r142) rfl) ?_
     refine WL.val (Yl.neq (m := r142) (n := 0) (q := !decide (r142 = 0)) rfl rfl rfl) ?_
     refine WL.done ?_
     rcases iteE H with ⟨hc157, H⟩ | ⟨hc157, H⟩
     ·refine W.condF (congrArg Value.bool (ndec_t hc157)) ?_
      refine W.skip ?_
      refine W.seq ?_
      refine W.region rfl ?_
      refine WL.val (Yl.move (v := .pointer (some ⟨b65, of66 + r60.toNat * 9, none⟩)) rfl) ?_
      refine WL.val (Yl.move (v := .slice A145 n147 c146) rfl) ?_
      refine WL.val (Yl.nilCheck rfl) ?_
      refine WL.val (Yl.fieldAddr (i := 7) rfl Try.underlying55 rfl sz53) ?_
      obtain ⟨F158, le159, lp160, C161⟩ := Ctx.fzI 0 C152 rfl
      replace C161 : Ctx _ _ _ _ _ [CH.row g35 0 ([.int .i64 a1.Kind, .int .i64 a1.Epoch] ++ (a1.Nonce.map (Value.int .u8) ++ [.slice A28 n30 c29, .int .i64 a1.Job, .int .i64 a1.Time, .int .i64 a1.By])), CH.row g1 o2 q1, p7, p13, p19, p25] := C161
      obtain ⟨hl162, hm163, hS164⟩ := Row.fz hR150 le159 lp160
      have hR165 := Row.mono hR153 le159
      have hR166 := Row.mono hR154 le159
      have hR167 := Row.mono hR155 le159
      have hR168 := Row.mono hR156 le159
      have hj209 : r60.toNat < a0.State.Jobs.length := by first | omega | (simp only [List.length_set, List.length_replicate] at *; omega)
      obtain ⟨p204, w205, hy206, C207, hR208⟩ := ev_store (P := Try.prog) (t := 53) TJob.K [CH.row g35 0 ([.int .i64 a1.Kind, .int .i64 a1.Epoch] ++ (a1.Nonce.map (Value.int .u8) ++ [.slice A28 n30 c29, .int .i64 a1.Job, .int .i64 a1.Time, .int .i64 a1.By])), CH.row g1 o2 q1, p7] [p19, p25] C161 hR166 hA67 r60.toNat 7 hj209 TJob.z (.slice A145 n147 c146) ([.slice A145 n147 c146]) rfl (ones_of rfl) (Nat.le_of_ble_eq_true rfl) sz53 ({ a0.State.Jobs.getD r60.toNat TJob.z with Votes := r141 }) (by rintro _ h_; obtain ⟨A169, c170, n171, A176, c177, n178, A183, c184, n185, A190, c191, n192, A197, c198, n199, rfl, hn172, hl173, hm174, hS175, hn179, hl180, hm181, hS182, hn186, hl187, hm188, hS189, hn193, hl194, hm195, hS196, hn200, hl201, hm202, hS203⟩ := TJob.open h_; exact TJob.mk' _ ({ a0.State.Jobs.getD r60.toNat TJob.z with Votes := r141 }) A169 c170 n171 A176 c177 n178 A183 c184 n185 A145 c146 n147 A197 c198 n199 hn172 hl173 hm174 hS175 hn179 hl180 hm181 hS182 hn186 hl187 hm188 hS189 hn148 hl162 hm163 hS164 hn200 hl201 hm202 hS203) ⟨b65, of66 + r60.toNat * 9 + 7, none⟩ rfl
      have hn210 : n11 = (a0.State.Jobs.set r60.toNat ({ a0.State.Jobs.getD r60.toNat TJob.z with Votes := r141 })).length := by rw [List.length_set]; omega
      obtain ⟨xs211, hx212, H⟩ := bindE H
      replace hx212 := Option.some.inj hx212
      rw [hx212] at hR208 hn210
      have C213 : Ctx _ _ _ _ _ [CH.row g35 0 ([.int .i64 a1.Kind, .int .i64 a1.Epoch] ++ (a1.Nonce.map (Value.int .u8) ++ [.slice A28 n30 c29, .int .i64 a1.Job, .int .i64 a1.Time, .int .i64 a1.By])), CH.row g1 o2 q1, p7, p204, p19, p25] := C207
      refine WL.skip (hy206 _ _ _ _ rfl rfl) ?_
      refine WL.done ?_
      refine W.seq ?_
      refine W.seq ?_
      refine W.region rfl ?_
      refine WL.val (Yl.move (v := .slice A145 n147 c146) rfl) ?_
      refine WL.val (Yl.move (v := .pointer (some ⟨g1, o2, none⟩)) rfl) ?_
      refine WL.val (Yl.nilCheck rfl) ?_
      refine WL.val (Yl.fieldAddr (i := 0) rfl Try.underlying75 rfl sz23) ?_
      refine WL.val (Yl.fieldAddr (i := 0) rfl Try.underlying23 rfl sz3) ?_
      refine WL.val (Yl.loadV (g := g1) (off := o2) (o := 0) (cs := q1) (v := .int .i64 a0.c.Faulty) rfl Try.underlying3 rfl (Ctx.subI 1 C213 rfl) rfl) ?_
      obtain ⟨⟨r215, r216⟩, hg214, H⟩ := bindE H
      refine WL.callH (tally_Decide.calls k _ F158 A145 c146 n147 r141 a0.c.Faulty (Ctx.pre (qs := []) (rest := [CH.row g35 0 ([.int .i64 a1.Kind, .int .i64 a1.Epoch] ++ (a1.Nonce.map (Value.int .u8) ++ [.slice A28 n30 c29, .int .i64 a1.Job, .int .i64 a1.Time, .int .i64 a1.By])), CH.row g1 o2 q1, p7, p204, p19, p25]) C213) hn148 hl162 hm163 hS164 r215 r216 hg214) (Yenter.fn Try.func57 (by kernel_rfl) rfl (argsE (.cons rfl (.cons rfl .nil)))) ?_
      rintro e_ w_ ⟨A217, c218, n219, p221, rfl, C223, hn220, hR222⟩
      refine ⟨_, rfl, ?_⟩
      have C224 : Ctx _ _ _ _ _ [p221, CH.row g35 0 ([.int .i64 a1.Kind, .int .i64 a1.Epoch] ++ (a1.Nonce.map (Value.int .u8) ++ [.slice A28 n30 c29, .int .i64 a1.Job, .int .i64 a1.Time, .int .i64 a1.By])), CH.row g1 o2 q1, p7, p204, p19, p25] := Ctx.call (qs := []) (rest := [CH.row g35 0 ([.int .i64 a1.Kind, .int .i64 a1.Epoch] ++ (a1.Nonce.map (Value.int .u8) ++ [.slice A28 n30 c29, .int .i64 a1.Job, .int .i64 a1.Time, .int .i64 a1.By])), CH.row g1 o2 q1, p7, p204, p19, p25]) C213 C223
      refine WL.val (Yl.move (v := .tuple #[(.slice A217 n219 c218), (.bool r216)]) rfl) ?_
      refine WL.val (Yl.extract (v := .slice A217 n219 c218) rfl rfl) ?_
      refine WL.val (Yl.extract (v := .bool r216) rfl rfl) ?_
      refine WL.val (Yl.assign (v := .slice A217 n219 c218) rfl) ?_
      refine WL.val (Yl.assign (v := .bool r216) rfl) ?_
      refine WL.done ?_
      refine W.seq ?_
      refine W.region rfl ?_
      refine WL.val (Yl.move (v := .bool r216) rfl) ?_
      refine WL.done ?_
      rcases iteE H with ⟨hc225, H⟩ | ⟨hc225, H⟩
      ·refine W.condT (congrArg Value.bool hc225) ?_
       refine W.seq ?_
       refine W.region rfl ?_
       refine WL.val (Yl.move (v := .pointer (some ⟨b65, of66 + r60.toNat * 9, none⟩)) rfl) ?_
       refine WL.val (Yl.move (v := .pointer (some ⟨b65, of66 + r60.toNat * 9, none⟩)) rfl) ?_
       refine WL.val (Yl.move (v := .slice A217 n219 c218) rfl) ?_
       refine WL.val (Yl.nilCheck rfl) ?_
       refine WL.val (Yl.fieldAddr (i := 1) rfl Try.underlying55 rfl sz3) ?_
       have hj266 : r60.toNat < xs211.length := by first | omega | (simp only [List.length_set, List.length_replicate] at *; omega)
       obtain ⟨p261, w262, hy263, C264, hR265⟩ := ev_store (P := Try.prog) (t := 3) TJob.K [p221, CH.row g35 0 ([.int .i64 a1.Kind, .int .i64 a1.Epoch] ++ (a1.Nonce.map (Value.int .u8) ++ [.slice A28 n30 c29, .int .i64 a1.Job, .int .i64 a1.Time, .int .i64 a1.By])), CH.row g1 o2 q1, p7] [p19, p25] C224 hR208 hA67 r60.toNat 1 hj266 TJob.z (.int .i64 3) ([.int .i64 3]) rfl (ones_of rfl) (Nat.le_of_ble_eq_true rfl) sz3 ({ xs211.getD r60.toNat TJob.z with State := 3 }) (by rintro _ h_; obtain ⟨A226, c227, n228, A233, c234, n235, A240, c241, n242, A247, c248, n249, A254, c255, n256, rfl, hn229, hl230, hm231, hS232, hn236, hl237, hm238, hS239, hn243, hl244, hm245, hS246, hn250, hl251, hm252, hS253, hn257, hl258, hm259, hS260⟩ := TJob.open h_; exact TJob.mk' _ ({ xs211.getD r60.toNat TJob.z with State := 3 }) A226 c227 n228 A233 c234 n235 A240 c241 n242 A247 c248 n249 A254 c255 n256 hn229 hl230 hm231 hS232 hn236 hl237 hm238 hS239 hn243 hl244 hm245 hS246 hn250 hl251 hm252 hS253 hn257 hl258 hm259 hS260) ⟨b65, of66 + r60.toNat * 9 + 1, none⟩ rfl
       have hn267 : n11 = (xs211.set r60.toNat ({ xs211.getD r60.toNat TJob.z with State := 3 })).length := by rw [List.length_set]; omega
       obtain ⟨xs268, hx269, H⟩ := bindE H
       replace hx269 := Option.some.inj hx269
       rw [hx269] at hR265 hn267
       have C270 : Ctx _ _ _ _ _ [p221, CH.row g35 0 ([.int .i64 a1.Kind, .int .i64 a1.Epoch] ++ (a1.Nonce.map (Value.int .u8) ++ [.slice A28 n30 c29, .int .i64 a1.Job, .int .i64 a1.Time, .int .i64 a1.By])), CH.row g1 o2 q1, p7, p261, p19, p25] := C264
       refine WL.skip (hy263 _ _ _ _ rfl rfl) ?_
       refine WL.val (Yl.nilCheck rfl) ?_
       refine WL.val (Yl.fieldAddr (i := 8) rfl Try.underlying55 rfl sz44) ?_
       obtain ⟨F271, le272, lp273, C274⟩ := Ctx.fzI 0 C270 rfl
       replace C274 : Ctx _ _ _ _ _ [CH.row g35 0 ([.int .i64 a1.Kind, .int .i64 a1.Epoch] ++ (a1.Nonce.map (Value.int .u8) ++ [.slice A28 n30 c29, .int .i64 a1.Job, .int .i64 a1.Time, .int .i64 a1.By])), CH.row g1 o2 q1, p7, p261, p19, p25] := C274
       obtain ⟨hl275, hm276, hS277⟩ := Row.fz hR222 le272 lp273
       have hR278 := Row.mono hR165 le272
       have hR279 := Row.mono hR265 le272
       have hR280 := Row.mono hR167 le272
       have hR281 := Row.mono hR168 le272
       have hj322 : r60.toNat < xs268.length := by first | omega | (simp only [List.length_set, List.length_replicate] at *; omega)
       obtain ⟨p317, w318, hy319, C320, hR321⟩ := ev_store (P := Try.prog) (t := 44) TJob.K [CH.row g35 0 ([.int .i64 a1.Kind, .int .i64 a1.Epoch] ++ (a1.Nonce.map (Value.int .u8) ++ [.slice A28 n30 c29, .int .i64 a1.Job, .int .i64 a1.Time, .int .i64 a1.By])), CH.row g1 o2 q1, p7] [p19, p25] C274 hR279 hA67 r60.toNat 8 hj322 TJob.z (.slice A217 n219 c218) ([.slice A217 n219 c218]) rfl (ones_of rfl) (Nat.le_of_ble_eq_true rfl) sz44 ({ xs268.getD r60.toNat TJob.z with Value := r215 }) (by rintro _ h_; obtain ⟨A282, c283, n284, A289, c290, n291, A296, c297, n298, A303, c304, n305, A310, c311, n312, rfl, hn285, hl286, hm287, hS288, hn292, hl293, hm294, hS295, hn299, hl300, hm301, hS302, hn306, hl307, hm308, hS309, hn313, hl314, hm315, hS316⟩ := TJob.open h_; exact TJob.mk' _ ({ xs268.getD r60.toNat TJob.z with Value := r215 }) A282 c283 n284 A289 c290 n291 A296 c297 n298 A303 c304 n305 A217 c218 n219 hn285 hl286 hm287 hS288 hn292 hl293 hm294 hS295 hn299 hl300 hm301 hS302 hn306 hl307 hm308 hS309 hn220 hl275 hm276 hS277) ⟨b65, of66 + r60.toNat * 9 + 8, none⟩ rfl
       have hn323 : n11 = (xs268.set r60.toNat ({ xs268.getD r60.toNat TJob.z with Value := r215 })).length := by rw [List.length_set]; omega
       obtain ⟨xs324, hx325, H⟩ := bindE H
       replace hx325 := Option.some.inj hx325
       rw [hx325] at hR321 hn323
       have C326 : Ctx _ _ _ _ _ [CH.row g35 0 ([.int .i64 a1.Kind, .int .i64 a1.Epoch] ++ (a1.Nonce.map (Value.int .u8) ++ [.slice A28 n30 c29, .int .i64 a1.Job, .int .i64 a1.Time, .int .i64 a1.By])), CH.row g1 o2 q1, p7, p317, p19, p25] := C320
       refine WL.skip (hy319 _ _ _ _ rfl rfl) ?_
       refine WL.done ?_
       refine W.seq ?_
       refine W.region rfl ?_
       refine WL.val (Yl.move (v := .slice A145 n147 c146) rfl) ?_
       refine WL.val (Yl.move (v := .slice A217 n219 c218) rfl) ?_
       obtain ⟨r328, hg327, H⟩ := bindE H
       refine WL.callH (tally_Liars.calls k _ F271 A145 c146 n147 r141 A217 c218 n219 r215 (Ctx.pre (qs := []) (rest := [CH.row g35 0 ([.int .i64 a1.Kind, .int .i64 a1.Epoch] ++ (a1.Nonce.map (Value.int .u8) ++ [.slice A28 n30 c29, .int .i64 a1.Job, .int .i64 a1.Time, .int .i64 a1.By])), CH.row g1 o2 q1, p7, p317, p19, p25]) C326) hn148 hl162 hm163 (Sl.mono hS164 le272 le272) hn220 hl275 hm276 hS277 r328 hg327) (Yenter.fn Try.func58 (by kernel_rfl) rfl (argsE (.cons rfl (.cons rfl .nil)))) ?_
       rintro e_ w_ ⟨A329, c330, n331, p333, rfl, C335, hn332, hR334⟩
       refine ⟨_, rfl, ?_⟩
       have C336 : Ctx _ _ _ _ _ [p333, CH.row g35 0 ([.int .i64 a1.Kind, .int .i64 a1.Epoch] ++ (a1.Nonce.map (Value.int .u8) ++ [.slice A28 n30 c29, .int .i64 a1.Job, .int .i64 a1.Time, .int .i64 a1.By])), CH.row g1 o2 q1, p7, p317, p19, p25] := Ctx.call (qs := []) (rest := [CH.row g35 0 ([.int .i64 a1.Kind, .int .i64 a1.Epoch] ++ (a1.Nonce.map (Value.int .u8) ++ [.slice A28 n30 c29, .int .i64 a1.Job, .int .i64 a1.Time, .int .i64 a1.By])), CH.row g1 o2 q1, p7, p317, p19, p25]) C326 C335
       refine WL.val (Yl.lenN (A := A329) (l := n331) (q := c330) (n := (r328.length : Int)) rfl Try.underlying29 (by omega)) ?_
       refine WL.val (Yl.move (v := .int .i64 0) rfl) ?_
       refine WL.done ?_
       obtain ⟨x442, hX468, H⟩ := bindE H
       refine W.cutM (fun env_ w_ => ∃ (A443 : Option Addr) (c444 : Nat) (n445 : Nat) (p447 : CH) (A449 : Option Addr) (c450 : Nat) (n451 : Nat) (p453 : CH) (A455 : Option Addr) (c456 : Nat) (n457 : Nat) (p459 : CH) (A461 : Option Addr) (c462 : Nat) (n463 : Nat) (p465 : CH), Ctx w F D w_ F271 [CH.row g1 o2 [.int .i64 x442.c.Faulty, .int .i64 x442.c.Workers, .int .i64 x442.c.Height, .int .i64 x442.c.Bits, .int .i64 x442.c.Jobs, .int .i64 x442.c.Term, .int .i64 x442.c.Heads, .slice A443 n445 c444, .slice A449 n451 c450, .slice A455 n457 c456, .slice A461 n463 c462, .int .i64 x442.State.Heads], p447, p453, p459, p465, p333, CH.row g35 0 ([.int .i64 a1.Kind, .int .i64 a1.Epoch] ++ (a1.Nonce.map (Value.int .u8) ++ [.slice A28 n30 c29, .int .i64 a1.Job, .int .i64 a1.Time, .int .i64 a1.By]))] ∧ n445 = x442.State.Eras.length ∧ Row TEra.K F271 p447 (.slice A443 n445 c444) x442.State.Eras ∧ n451 = x442.State.Jobs.length ∧ Row TJob.K F271 p453 (.slice A449 n451 c450) x442.State.Jobs ∧ n457 = x442.State.Used.length ∧ Row (Kd.int .i64) F271 p459 (.slice A455 n457 c456) x442.State.Used ∧ n463 = x442.State.Barred.length ∧ Row Kd.bool F271 p465 (.slice A461 n463 c462) x442.State.Barred) ?_ ?_
       ·refine W.block ?_
        have C551 : Ctx _ _ _ _ _ [CH.row g1 o2 q1, p7, p317, p19, p25, p333, CH.row g35 0 ([.int .i64 a1.Kind, .int .i64 a1.Epoch] ++ (a1.Nonce.map (Value.int .u8) ++ [.slice A28 n30 c29, .int .i64 a1.Job, .int .i64 a1.Time, .int .i64 a1.By]))] := Ctx.pick [2, 3, 4, 5, 6, 0, 1] C336 rfl
        refine W.loop (fun g_ env_ w_ => ∃ (x501 : Int) (x502 : Twork) (A503 : Option Addr) (c504 : Nat) (n505 : Nat) (p507 : CH) (A509 : Option Addr) (c510 : Nat) (n511 : Nat) (p513 : CH) (A515 : Option Addr) (c516 : Nat) (n517 : Nat) (p519 : CH) (A521 : Option Addr) (c522 : Nat) (n523 : Nat) (p525 : CH), env_ 0 = .pointer (some ⟨g1, o2, none⟩) ∧ env_ 76 = .slice A329 n331 c330 ∧ env_ 77 = .int .i64 (r328.length : Int) ∧ env_ 78 = .int .i64 x501 ∧ Ctx w F D w_ F271 [CH.row g1 o2 [.int .i64 x502.c.Faulty, .int .i64 x502.c.Workers, .int .i64 x502.c.Height, .int .i64 x502.c.Bits, .int .i64 x502.c.Jobs, .int .i64 x502.c.Term, .int .i64 x502.c.Heads, .slice A503 n505 c504, .slice A509 n511 c510, .slice A515 n517 c516, .slice A521 n523 c522, .int .i64 x502.State.Heads], p507, p513, p519, p525, p333, CH.row g35 0 ([.int .i64 a1.Kind, .int .i64 a1.Epoch] ++ (a1.Nonce.map (Value.int .u8) ++ [.slice A28 n30 c29, .int .i64 a1.Job, .int .i64 a1.Time, .int .i64 a1.By]))] ∧ n505 = x502.State.Eras.length ∧ Row TEra.K F271 p507 (.slice A503 n505 c504) x502.State.Eras ∧ n511 = x502.State.Jobs.length ∧ Row TJob.K F271 p513 (.slice A509 n511 c510) x502.State.Jobs ∧ n517 = x502.State.Used.length ∧ Row (Kd.int .i64) F271 p519 (.slice A515 n517 c516) x502.State.Used ∧ n523 = x502.State.Barred.length ∧ Row Kd.bool F271 p525 (.slice A521 n523 c522) x502.State.Barred ∧ docket_work_vote.l1 g_ r328 x501 x502 = some x442) k ⟨0, (⟨a0.c, (⟨a0.State.Eras, xs324, a0.State.Used, a0.State.Barred, a0.State.Heads⟩ : TState)⟩ : Twork), A3, c4, n5, p7, A9, c10, n11, p317, A15, c16, n17, p19, A21, c22, n23, p25, rfl, rfl, rfl, rfl, C551, hn6, hR278, hn323, hR321, hn18, hR280, hn24, hR281, hX468⟩ ?_
        clear hX468
        rintro g_ env_ w_ ⟨x501, x502, A503, c504, n505, p507, A509, c510, n511, p513, A515, c516, n517, p519, A521, c522, n523, p525, ho497, ho498, ho499, ho500, C527, hn506, hR508, hn512, hR514, hn518, hR520, hn524, hR526, hX468⟩
        rcases g_ with _ | k550
        · exact absurd hX468 (by simp [docket_work_vote.l1])
        rw [docket_work_vote.l1] at hX468
        refine W.seq ?_
        refine W.region rfl ?_
        refine WL.val (Yl.lss (m := x501) (n := (r328.length : Int)) (q := decide (x501 < (r328.length : Int))) ho500 ho499 rfl) ?_
        refine WL.done ?_
        refine W.seq ?_
        rcases iteE hX468 with ⟨hc552, hX468⟩ | ⟨hc552, hX468⟩
        ·refine W.condT (congrArg Value.bool (decide_eq_true hc552)) ?_
         refine W.skip ?_
         refine W.seq ?_
         refine W.block ?_
         refine W.seq ?_
         refine W.region rfl ?_
         obtain ⟨hc553, hX468⟩ := guardE hX468
         obtain ⟨b554, of555, hA556, he557⟩ := (Row.sl hR334) (by omega)
         refine WL.val (Yl.elemAddr (i := x501) ho498 ho500 hA556 Try.underlying29 sz3 (by omega)) ?_
         obtain ⟨cs558, hr559, hx560⟩ := he557 x501.toNat _ (getD_some (d := 0) (by omega))
         obtain rfl := hr559
         refine WL.val (Yl.load (v := .int .i64 (r328.getD x501.toNat 0)) rfl Try.underlying3 rfl (((Ctx.subI 5 C527 rfl)).cell (hx560 0 _ rfl))) ?_
         refine WL.val (Yl.assign (v := .int .i64 (r328.getD x501.toNat 0)) rfl) ?_
         refine WL.done ?_
         refine W.region rfl ?_
         refine WL.val (Yl.move (v := .pointer (some ⟨g1, o2, none⟩)) ho497) ?_
         refine WL.val (Yl.nilCheck rfl) ?_
         refine WL.val (Yl.fieldAddr (i := 1) rfl Try.underlying75 rfl sz32) ?_
         refine WL.val (Yl.fieldAddr (i := 3) rfl Try.underlying32 rfl sz30) ?_
         let q3 : List Go.Value := [.int .i64 x502.c.Faulty, .int .i64 x502.c.Workers, .int .i64 x502.c.Height, .int .i64 x502.c.Bits, .int .i64 x502.c.Jobs, .int .i64 x502.c.Term, .int .i64 x502.c.Heads, .slice A503 n505 c504, .slice A509 n511 c510, .slice A515 n517 c516, .slice A521 n523 c522, .int .i64 x502.State.Heads]
         refine WL.val (Yl.loadV (g := g1) (off := o2) (o := 10) (cs := q3) (v := .slice A521 n523 c522) rfl Try.underlying30 rfl (Ctx.subI 0 C527 rfl) rfl) ?_
         refine WL.val (Yl.move (v := .int .i64 (r328.getD x501.toNat 0)) rfl) ?_
         obtain ⟨hc561, hX468⟩ := guardE hX468
         obtain ⟨b562, of563, hA564, he565⟩ := (Row.sl hR526) (by omega)
         refine WL.val (Yl.elemAddr (i := r328.getD x501.toNat 0) rfl rfl hA564 Try.underlying30 sz4 (by omega)) ?_
         have hj571 : (r328.getD x501.toNat 0).toNat < x502.State.Barred.length := by first | omega | (simp only [List.length_set, List.length_replicate] at *; omega)
         obtain ⟨p566, w567, hy568, C569, hR570⟩ := ev_store (P := Try.prog) (t := 4) Kd.bool [CH.row g1 o2 q3, p507, p513, p519] [p333, CH.row g35 0 ([.int .i64 a1.Kind, .int .i64 a1.Epoch] ++ (a1.Nonce.map (Value.int .u8) ++ [.slice A28 n30 c29, .int .i64 a1.Job, .int .i64 a1.Time, .int .i64 a1.By]))] C527 hR526 hA564 (r328.getD x501.toNat 0).toNat 0 hj571 false (.bool true) ([.bool true]) rfl (ones_of rfl) (Nat.le_of_ble_eq_true rfl) sz4 (true) (fun _ h_ => rep_whole h_ rfl) ⟨b562, of563 + (r328.getD x501.toNat 0).toNat * 1, none⟩ rfl
         have hn572 : n523 = (x502.State.Barred.set (r328.getD x501.toNat 0).toNat true).length := by rw [List.length_set]; omega
         have C573 : Ctx _ _ _ _ _ [CH.row g1 o2 q3, p507, p513, p519, p566, p333, CH.row g35 0 ([.int .i64 a1.Kind, .int .i64 a1.Epoch] ++ (a1.Nonce.map (Value.int .u8) ++ [.slice A28 n30 c29, .int .i64 a1.Job, .int .i64 a1.Time, .int .i64 a1.By]))] := C569
         refine WL.skip (hy568 _ _ _ _ rfl rfl) ?_
         refine WL.done ?_
         refine inB_n ?_
         refine W.region rfl ?_
         refine WL.val (Yl.add (m := x501) (n := 1) (r := wi64 (x501 + 1)) ho500 rfl rfl) ?_
         refine WL.val (Yl.move (v := .int .i64 (wi64 (x501 + 1))) rfl) ?_
         refine WL.done ?_
         exact thenE_n ⟨k550, Nat.lt_succ_self _, wi64 (x501 + 1), (⟨x502.c, (⟨x502.State.Eras, x502.State.Jobs, x502.State.Used, x502.State.Barred.set (r328.getD x501.toNat 0).toNat true, x502.State.Heads⟩ : TState)⟩ : Twork), A503, c504, n505, p507, A509, c510, n511, p513, A515, c516, n517, p519, A521, c522, n523, p566, ho497, ho498, ho499, rfl, C573, hn506, hR508, hn512, hR514, hn518, hR520, hn572, hR570, hX468⟩
        ·refine W.condF (congrArg Value.bool (decide_eq_false hc552)) ?_
         refine W.exit ?_
         refine thenE_x ?_
         refine thenE_x ?_
         refine inB_here ?_
         cases hX468
         refine thenE_n ?_
         exact ⟨A503, c504, n505, p507, A509, c510, n511, p513, A515, c516, n517, p519, A521, c522, n523, p525, C527, hn506, hR508, hn512, hR514, hn518, hR520, hn524, hR526⟩
       ·rintro env_ w_ ⟨A443, c444, n445, p447, A449, c450, n451, p453, A455, c456, n457, p459, A461, c462, n463, p465, C467, hn446, hR448, hn452, hR454, hn458, hR460, hn464, hR466⟩
        refine W.seq ?_
        refine W.region rfl ?_
        refine WL.val (Yl.assign (v := .int .i64 0) rfl) ?_
        refine WL.done ?_
        refine W.ret ?_
        let q4 : List Go.Value := [.int .i64 x442.c.Faulty, .int .i64 x442.c.Workers, .int .i64 x442.c.Height, .int .i64 x442.c.Bits, .int .i64 x442.c.Jobs, .int .i64 x442.c.Term, .int .i64 x442.c.Heads, .slice A443 n445 c444, .slice A449 n451 c450, .slice A455 n457 c456, .slice A461 n463 c462, .int .i64 x442.State.Heads]
        have C574 : Ctx _ _ _ _ _ [CH.row g1 o2 q4, p447, p453, p459, p465] := Ctx.pick [0, 1, 2, 3, 4] C467 rfl
        simp only [Option.some.injEq, Prod.mk.injEq] at H
        obtain ⟨e575, e576⟩ := H
        subst e575 e576
        exact post_r (resE1 rfl rfl) ⟨F271, A443, c444, n445, p447, A449, c450, n451, p453, A455, c456, n457, p459, A461, c462, n463, p465, rfl, (CH.le_trans le144 (CH.le_trans le159 le272)), C574, hn446, hR448, hn452, hR454, hn458, hR460, hn464, hR466⟩
      ·refine W.condF (congrArg Value.bool (Bool.eq_false_iff.2 hc225)) ?_
       refine W.skip ?_
       refine W.seq ?_
       refine W.region rfl ?_
       refine WL.val (Yl.assign (v := .int .i64 0) rfl) ?_
       refine WL.done ?_
       refine W.ret ?_
       have C577 : Ctx _ _ _ _ _ [CH.row g1 o2 q1, p7, p204, p19, p25] := Ctx.pick [2, 3, 4, 5, 6] C224 rfl
       simp only [Option.some.injEq, Prod.mk.injEq] at H
       obtain ⟨e578, e579⟩ := H
       subst e578 e579
       exact post_r (resE1 rfl rfl) ⟨F158, A3, c4, n5, p7, A9, c10, n11, p204, A15, c16, n17, p19, A21, c22, n23, p25, rfl, (CH.le_trans le144 le159), C577, hn6, hR165, hn210, hR208, hn18, hR167, hn24, hR168⟩
     ·refine W.condT (congrArg Value.bool (ndec_f hc157)) ?_
      refine W.seq ?_
      refine W.region rfl ?_
      refine WL.val (Yl.move (v := .int .i64 r142) rfl) ?_
      refine WL.val (Yl.assign (v := .int .i64 r142) rfl) ?_
      refine WL.done ?_
      refine W.ret ?_
      refine thenE_r ?_
      have C580 : Ctx _ _ _ _ _ [CH.row g1 o2 q1, p7, p13, p19, p25] := Ctx.pick [2, 3, 4, 5, 6] C152 rfl
      simp only [Option.some.injEq, Prod.mk.injEq] at H
      obtain ⟨e581, e582⟩ := H
      subst e581 e582
      exact post_r (resE1 rfl rfl) ⟨F143, A3, c4, n5, p7, A9, c10, n11, p13, A15, c16, n17, p19, A21, c22, n23, p25, rfl, le144, C580, hn6, hR153, hn12, hR154, hn18, hR155, hn24, hR156⟩
    ·refine W.condT (congrArg Value.bool (nb_f hc121)) ?_
     refine W.seq ?_
     refine W.region rfl ?_
     refine WL.val (Yl.assign (v := .int .i64 214) rfl) ?_
     refine WL.done ?_
     refine W.ret ?_
     refine inB_r ?_
     refine thenE_r ?_
     have C583 : Ctx _ _ _ _ _ [CH.row g1 o2 q1, p7, p13, p19, p25] := Ctx.pick [1, 2, 3, 4, 5] C120 rfl
     simp only [Option.some.injEq, Prod.mk.injEq] at H
     obtain ⟨e584, e585⟩ := H
     subst e584 e585
     exact post_r (resE1 rfl rfl) ⟨F, A3, c4, n5, p7, A9, c10, n11, p13, A15, c16, n17, p19, A21, c22, n23, p25, rfl, (CH.le_refl _), C583, hn6, hR8, hn12, hR14, hn18, hR20, hn24, hR26⟩
  ·refine W.condT (congrArg Value.bool (ndec_f hc69)) ?_
   refine W.seq ?_
   refine W.region rfl ?_
   refine WL.val (Yl.move (v := .int .i64 r61) rfl) ?_
   refine WL.val (Yl.assign (v := .int .i64 r61) rfl) ?_
   refine WL.done ?_
   refine W.ret ?_
   refine inB_r ?_
   refine thenE_r ?_
   have C586 : Ctx _ _ _ _ _ [CH.row g1 o2 q1, p7, p13, p19, p25] := Ctx.pick [1, 2, 3, 4, 5] C63 rfl
   simp only [Option.some.injEq, Prod.mk.injEq] at H
   obtain ⟨e587, e588⟩ := H
   subst e587 e588
   exact post_r (resE1 rfl rfl) ⟨F, A3, c4, n5, p7, A9, c10, n11, p13, A15, c16, n17, p19, A21, c22, n23, p25, rfl, (CH.le_refl _), C586, hn6, hR8, hn12, hR14, hn18, hR20, hn24, hR26⟩
 ·refine WL.val (Yl.assign (v := .pointer none) (elp_no hc64 hn12)) ?_
  refine WL.val (Yl.assign (v := .int .i64 r61) rfl) ?_
  refine WL.done ?_
  refine W.seq ?_
  refine W.block ?_
  refine W.seq ?_
  refine W.region rfl ?_
  refine WL.val (Yl.move (v := .int .i64 r61) rfl) ?_
  refine WL.val (Yl.neq (m := r61) (n := 0) (q := !decide (r61 = 0)) rfl rfl rfl) ?_
  refine WL.val (Yl.assign (v := .bool (!decide (r61 = 0))) rfl) ?_
  refine WL.done ?_
  rcases iteE H with ⟨hc589, H⟩ | ⟨hc589, H⟩
  ·refine W.condF (congrArg Value.bool (ndec_t hc589)) ?_
   refine W.seq ?_
   refine W.region rfl ?_
   refine WL.val (Yl.move (v := .pointer none) rfl) ?_
   obtain ⟨hc590, H⟩ := guardE H
   exact hc590.elim
  ·refine W.condT (congrArg Value.bool (ndec_f hc589)) ?_
   refine W.seq ?_
   refine W.region rfl ?_
   refine WL.val (Yl.move (v := .int .i64 r61) rfl) ?_
   refine WL.val (Yl.assign (v := .int .i64 r61) rfl) ?_
   refine WL.done ?_
   refine W.ret ?_
   refine inB_r ?_
   refine thenE_r ?_
   have C591 : Ctx _ _ _ _ _ [CH.row g1 o2 q1, p7, p13, p19, p25] := Ctx.pick [1, 2, 3, 4, 5] C63 rfl
   simp only [Option.some.injEq, Prod.mk.injEq] at H
   obtain ⟨e592, e593⟩ := H
   subst e592 e593
   exact post_r (resE1 rfl rfl) ⟨F, A3, c4, n5, p7, A9, c10, n11, p13, A15, c16, n17, p19, A21, c22, n23, p25, rfl, (CH.le_refl _), C591, hn6, hR8, hn12, hR14, hn18, hR20, hn24, hR26⟩
def docket_work_assign.l1 : Nat → List Int → Int → Twork → TJob → Option (Twork × TJob)
  | 0, _, _, _, _ => none
  | k + 1, r265, x863, x864, x883 => if x863 < (r265.length : Int) then (if 0 ≤ x863 ∧ x863 < (r265.length : Int) then (if 0 ≤ (r265.getD x863.toNat 0) ∧ (r265.getD x863.toNat 0) < (x864.State.Used.length : Int) then (if (x883.Indexes.length + 1 + (x883.Indexes.length + 1) / 4 + 192) * 8 ≤ 281474976710656 then (docket_work_assign.l1 k r265 (wi64 (x863 + 1)) (⟨x864.c, (⟨x864.State.Eras, x864.State.Jobs, x864.State.Used.set (r265.getD x863.toNat 0).toNat (wi64 ((x864.State.Used.getD (r265.getD x863.toNat 0).toNat 0) + 1)), x864.State.Barred, x864.State.Heads⟩ : TState)⟩ : Twork) (⟨x883.Payload, x883.State, x883.Attempt, x883.Epoch, x883.Until, x883.Workers, x883.Indexes ++ [x864.State.Used.getD (r265.getD x863.toNat 0).toNat 0], x883.Votes, x883.Value⟩ : TJob)) else none) else none) else none) else (some (x864, x883))
def docket_work_assign.f (k : Nat) (a0 : Twork) (a1 : TRecord) : Option (Int × Twork) := (docket_work_era.f k a0).bind fun r60 => if r60 = 0 then ((docket_work_job.f k a0 a1).bind fun ⟨r160, r161⟩ => if 0 ≤ r160 ∧ r160 < (a0.State.Jobs.length : Int) then (if r161 = 0 then (if ((a0.State.Jobs.getD r160.toNat TJob.z).State) = 1 then (if a1.Time = 0 then (some (213, (⟨a0.c, (⟨a0.State.Eras, a0.State.Jobs.set r160.toNat (a0.State.Jobs.getD r160.toNat TJob.z), a0.State.Used, a0.State.Barred, a0.State.Heads⟩ : TState)⟩ : Twork))) else (if 0 ≤ a0.c.Height then ((docket_hands.f k a0.c).bind fun r253 => (crew_Pick.f k a0.State.Used a0.State.Barred (shlOp .i64 1 a0.c.Height) r253).bind fun ⟨r265, r266⟩ => if r266 = 0 then ((docket_Epoch_raw.f k a0.State).bind fun r311 => (docket_work_assign.l1 k r265 0 a0 (⟨(a0.State.Jobs.getD r160.toNat TJob.z).Payload, 2, wi64 (((a0.State.Jobs.getD r160.toNat TJob.z).Attempt) + 1), r311, a1.Time, r265, ([] : List Int), (a0.State.Jobs.getD r160.toNat TJob.z).Votes, (a0.State.Jobs.getD r160.toNat TJob.z).Value⟩ : TJob)).bind fun ⟨x693, x712⟩ => some (0, (⟨x693.c, (⟨x693.State.Eras, a0.State.Jobs.set r160.toNat x712, x693.State.Used, x693.State.Barred, x693.State.Heads⟩ : TState)⟩ : Twork))) else (some (r266, (⟨a0.c, (⟨a0.State.Eras, a0.State.Jobs.set r160.toNat (a0.State.Jobs.getD r160.toNat TJob.z), a0.State.Used, a0.State.Barred, a0.State.Heads⟩ : TState)⟩ : Twork)))) else none)) else (some (212, (⟨a0.c, (⟨a0.State.Eras, a0.State.Jobs.set r160.toNat (a0.State.Jobs.getD r160.toNat TJob.z), a0.State.Used, a0.State.Barred, a0.State.Heads⟩ : TState)⟩ : Twork)))) else (some (r161, (⟨a0.c, (⟨a0.State.Eras, a0.State.Jobs.set r160.toNat (a0.State.Jobs.getD r160.toNat TJob.z), a0.State.Used, a0.State.Barred, a0.State.Heads⟩ : TState)⟩ : Twork)))) else (if r161 = 0 then (if False then (none) else none) else (some (r161, a0)))) else (some (r60, a0))
set_option maxRecDepth 100000 in
set_option maxHeartbeats 4000000 in
theorem docket_work_assign.calls (k : Nat) (w : World) (F : CH) (g1 : Nat) (o2 : Nat) (A3 : Option Addr) (c4 : Nat) (n5 : Nat) (p7 : CH) (A9 : Option Addr) (c10 : Nat) (n11 : Nat) (p13 : CH) (A15 : Option Addr) (c16 : Nat) (n17 : Nat) (p19 : CH) (A21 : Option Addr) (c22 : Nat) (n23 : Nat) (p25 : CH) (a0 : Twork) (A28 : Option Addr) (c29 : Nat) (n30 : Nat) (a1 : TRecord) (hp : Pre w F [CH.row g1 o2 [.int .i64 a0.c.Faulty, .int .i64 a0.c.Workers, .int .i64 a0.c.Height, .int .i64 a0.c.Bits, .int .i64 a0.c.Jobs, .int .i64 a0.c.Term, .int .i64 a0.c.Heads, .slice A3 n5 c4, .slice A9 n11 c10, .slice A15 n17 c16, .slice A21 n23 c22, .int .i64 a0.State.Heads], p7, p13, p19, p25]) (hn6 : n5 = a0.State.Eras.length) (hR8 : Row TEra.K F p7 (.slice A3 n5 c4) a0.State.Eras) (hn12 : n11 = a0.State.Jobs.length) (hR14 : Row TJob.K F p13 (.slice A9 n11 c10) a0.State.Jobs) (hn18 : n17 = a0.State.Used.length) (hR20 : Row (Kd.int .i64) F p19 (.slice A15 n17 c16) a0.State.Used) (hn24 : n23 = a0.State.Barred.length) (hR26 : Row Kd.bool F p25 (.slice A21 n23 c22) a0.State.Barred) (ha27 : a1.Nonce.length = 32) (hn31 : n30 = a1.Data.length) (hl32 : a1.Data.length ≤ c29) (hm33 : c29 ≤ maxLen) (hS34 : Sl (Kd.int .u8) F F A28 a1.Data) (r0_ : Int) (r1_ : Twork) (H : docket_work_assign.f k a0 a1 = some (r0_, r1_)) :
    Calls Try.prog 39 #[.pointer (some ⟨g1, o2, none⟩), .agg (List.toArray ([.int .i64 a1.Kind, .int .i64 a1.Epoch] ++ (a1.Nonce.map (Value.int .u8) ++ [.slice A28 n30 c29, .int .i64 a1.Job, .int .i64 a1.Time, .int .i64 a1.By])))] w fun e w' => ∃ (F' : CH) (A1154 : Option Addr) (c1155 : Nat) (n1156 : Nat) (p1158 : CH) (A1160 : Option Addr) (c1161 : Nat) (n1162 : Nat) (p1164 : CH) (A1166 : Option Addr) (c1167 : Nat) (n1168 : Nat) (p1170 : CH) (A1172 : Option Addr) (c1173 : Nat) (n1174 : Nat) (p1176 : CH), e = .returned (.int .i64 r0_) ∧ CH.le F F' ∧ Ctx w F (domL [CH.row g1 o2 [.int .i64 a0.c.Faulty, .int .i64 a0.c.Workers, .int .i64 a0.c.Height, .int .i64 a0.c.Bits, .int .i64 a0.c.Jobs, .int .i64 a0.c.Term, .int .i64 a0.c.Heads, .slice A3 n5 c4, .slice A9 n11 c10, .slice A15 n17 c16, .slice A21 n23 c22, .int .i64 a0.State.Heads], p7, p13, p19, p25]) w' F' [CH.row g1 o2 [.int .i64 r1_.c.Faulty, .int .i64 r1_.c.Workers, .int .i64 r1_.c.Height, .int .i64 r1_.c.Bits, .int .i64 r1_.c.Jobs, .int .i64 r1_.c.Term, .int .i64 r1_.c.Heads, .slice A1154 n1156 c1155, .slice A1160 n1162 c1161, .slice A1166 n1168 c1167, .slice A1172 n1174 c1173, .int .i64 r1_.State.Heads], p1158, p1164, p1170, p1176] ∧ n1156 = r1_.State.Eras.length ∧ Row TEra.K F' p1158 (.slice A1154 n1156 c1155) r1_.State.Eras ∧ n1162 = r1_.State.Jobs.length ∧ Row TJob.K F' p1164 (.slice A1160 n1162 c1161) r1_.State.Jobs ∧ n1168 = r1_.State.Used.length ∧ Row (Kd.int .i64) F' p1170 (.slice A1166 n1168 c1167) r1_.State.Used ∧ n1174 = r1_.State.Barred.length ∧ Row Kd.bool F' p1176 (.slice A1172 n1174 c1173) r1_.State.Barred := by
 have C := Ctx.start hp
 generalize hD : domL [CH.row g1 o2 [.int .i64 a0.c.Faulty, .int .i64 a0.c.Workers, .int .i64 a0.c.Height, .int .i64 a0.c.Bits, .int .i64 a0.c.Jobs, .int .i64 a0.c.Term, .int .i64 a0.c.Heads, .slice A3 n5 c4, .slice A9 n11 c10, .slice A15 n17 c16, .slice A21 n23 c22, .int .i64 a0.State.Heads], p7, p13, p19, p25] = D at C ⊢
 unfold docket_work_assign.f at H
 refine Calls.ofW Try.func39 rfl (by simp [Try.ntmps39]) ?_
 refine W.seq ?_
 refine W.region rfl ?_
 obtain ⟨g35, w36, hy37, C38⟩ := ev_box (P := Try.prog) 46 (.agg (List.toArray ([.int .i64 a1.Kind, .int .i64 a1.Epoch] ++ (a1.Nonce.map (Value.int .u8) ++ [.slice A28 n30 c29, .int .i64 a1.Job, .int .i64 a1.Time, .int .i64 a1.By])))) ([.int .i64 a1.Kind, .int .i64 a1.Epoch] ++ (a1.Nonce.map (Value.int .u8) ++ [.slice A28 n30 c29, .int .i64 a1.Job, .int .i64 a1.Time, .int .i64 a1.By])) C rfl
 refine WL.val (hy37 _ _ _ rfl) ?_
 refine WL.val (Yl.assign (v := .int .i64 0) rfl) ?_
 refine WL.done ?_
 refine W.seq ?_
 refine W.region rfl ?_
 refine WL.val (Yl.move (v := .pointer (some ⟨g1, o2, none⟩)) rfl) ?_
 obtain ⟨F39, le40, lp41, C42⟩ := Ctx.fzI 1 C38 rfl
 replace C42 : Ctx _ _ _ _ _ [CH.row g35 0 ([.int .i64 a1.Kind, .int .i64 a1.Epoch] ++ (a1.Nonce.map (Value.int .u8) ++ [.slice A28 n30 c29, .int .i64 a1.Job, .int .i64 a1.Time, .int .i64 a1.By])), p7, p13, p19, p25] := C42
 obtain ⟨F43, le44, lp45, C46⟩ := Ctx.fzI 1 C42 rfl
 replace C46 : Ctx _ _ _ _ _ [CH.row g35 0 ([.int .i64 a1.Kind, .int .i64 a1.Epoch] ++ (a1.Nonce.map (Value.int .u8) ++ [.slice A28 n30 c29, .int .i64 a1.Job, .int .i64 a1.Time, .int .i64 a1.By])), p13, p19, p25] := C46
 obtain ⟨F47, le48, lp49, C50⟩ := Ctx.fzI 1 C46 rfl
 replace C50 : Ctx _ _ _ _ _ [CH.row g35 0 ([.int .i64 a1.Kind, .int .i64 a1.Epoch] ++ (a1.Nonce.map (Value.int .u8) ++ [.slice A28 n30 c29, .int .i64 a1.Job, .int .i64 a1.Time, .int .i64 a1.By])), p19, p25] := C50
 obtain ⟨F51, le52, lp53, C54⟩ := Ctx.fzI 1 C50 rfl
 replace C54 : Ctx _ _ _ _ _ [CH.row g35 0 ([.int .i64 a1.Kind, .int .i64 a1.Epoch] ++ (a1.Nonce.map (Value.int .u8) ++ [.slice A28 n30 c29, .int .i64 a1.Job, .int .i64 a1.Time, .int .i64 a1.By])), p25] := C54
 obtain ⟨F55, le56, lp57, C58⟩ := Ctx.fzI 1 C54 rfl
 replace C58 : Ctx _ _ _ _ _ [CH.row g35 0 ([.int .i64 a1.Kind, .int .i64 a1.Epoch] ++ (a1.Nonce.map (Value.int .u8) ++ [.slice A28 n30 c29, .int .i64 a1.Job, .int .i64 a1.Time, .int .i64 a1.By]))] := C58
 obtain ⟨r60, hg59, H⟩ := bindE H
 refine WL.callH (docket_work_era.calls k _ F55 g1 o2 A3 c4 n5 A9 c10 n11 A15 c16 n17 A21 c22 n23 a0 C58.pre0 hn6 (Row.len_le hR8).1 (Row.len_le hR8).2.1 (Sl.mono (Row.sl hR8) (CH.le_trans (CH.le_trans (CH.le_trans (CH.le_trans le40 le44) le48) le52) le56) (CH.le_trans (CH.le_trans (CH.le_trans lp45 le48) le52) le56)) hn12 (Row.len_le hR14).1 (Row.len_le hR14).2.1 (Sl.mono (Row.sl hR14) (CH.le_trans (CH.le_trans (CH.le_trans (CH.le_trans le40 le44) le48) le52) le56) (CH.le_trans (CH.le_trans lp49 le52) le56)) hn18 (Row.len_le hR20).1 (Row.len_le hR20).2.1 (Sl.mono (Row.sl hR20) (CH.le_trans (CH.le_trans (CH.le_trans (CH.le_trans le40 le44) le48) le52) le56) (CH.le_trans lp53 le56)) hn24 (Row.len_le hR26).1 (Row.len_le hR26).2.1 (Sl.mono (Row.sl hR26) (CH.le_trans (CH.le_trans (CH.le_trans (CH.le_trans le40 le44) le48) le52) le56) lp57) (CH.le_trans (CH.le_trans (CH.le_trans (CH.le_trans lp41 le44) le48) le52) le56) r60 hg59) (Yenter.fn Try.func51 (by kernel_rfl) rfl (argsE (.cons rfl .nil))) ?_
 rintro e_ w_ ⟨rfl, ⟨m61, rfl⟩⟩
 refine ⟨_, rfl, ?_⟩
 have C62 := Ctx.drewN C38 m61
 refine WL.val (Yl.assign (v := .int .i64 r60) rfl) ?_
 refine WL.done ?_
 refine W.seq ?_
 refine W.region rfl ?_
 refine WL.val (Yl.assign (v := .pointer none) rfl) ?_
 refine WL.done ?_
 refine W.seq ?_
 refine W.seq ?_
 refine W.region rfl ?_
 refine WL.val (Yl.move (v := .int .i64 r60) rfl) ?_
 refine WL.val (Yl.eql (m := r60) (n := 0) (q := decide (r60 = 0)) rfl rfl rfl) ?_
 refine WL.done ?_
 rcases iteE H with ⟨hc138, H⟩ | ⟨hc138, H⟩
 ·refine W.condT (congrArg Value.bool (decide_eq_true hc138)) ?_
  refine W.region rfl ?_
  refine WL.val (Yl.move (v := .pointer (some ⟨g1, o2, none⟩)) rfl) ?_
  refine WL.val (Yl.loadVA (g := g35) (off := 0) (o := 0) (cs := [.int .i64 a1.Kind, .int .i64 a1.Epoch] ++ (a1.Nonce.map (Value.int .u8) ++ [.slice A28 n30 c29, .int .i64 a1.Job, .int .i64 a1.Time, .int .i64 a1.By])) (us := [.int .i64 a1.Kind, .int .i64 a1.Epoch] ++ (a1.Nonce.map (Value.int .u8) ++ [.slice A28 n30 c29, .int .i64 a1.Job, .int .i64 a1.Time, .int .i64 a1.By])) rfl Try.underlying46 rfl (sz_of sz46 (by first | (simp only [List.length_append, List.length_map, List.length_cons, List.length_nil, ha27]; done) | simp [ha27])) (Ctx.subI 0 C62 rfl) (take_all _)) ?_
  obtain ⟨F139, le140, lp141, C142⟩ := Ctx.fzI 1 C62 rfl
  replace C142 : Ctx _ _ _ _ _ [CH.row g35 0 ([.int .i64 a1.Kind, .int .i64 a1.Epoch] ++ (a1.Nonce.map (Value.int .u8) ++ [.slice A28 n30 c29, .int .i64 a1.Job, .int .i64 a1.Time, .int .i64 a1.By])), p7, p13, p19, p25] := C142
  obtain ⟨F143, le144, lp145, C146⟩ := Ctx.fzI 1 C142 rfl
  replace C146 : Ctx _ _ _ _ _ [CH.row g35 0 ([.int .i64 a1.Kind, .int .i64 a1.Epoch] ++ (a1.Nonce.map (Value.int .u8) ++ [.slice A28 n30 c29, .int .i64 a1.Job, .int .i64 a1.Time, .int .i64 a1.By])), p13, p19, p25] := C146
  obtain ⟨F147, le148, lp149, C150⟩ := Ctx.fzI 1 C146 rfl
  replace C150 : Ctx _ _ _ _ _ [CH.row g35 0 ([.int .i64 a1.Kind, .int .i64 a1.Epoch] ++ (a1.Nonce.map (Value.int .u8) ++ [.slice A28 n30 c29, .int .i64 a1.Job, .int .i64 a1.Time, .int .i64 a1.By])), p19, p25] := C150
  obtain ⟨F151, le152, lp153, C154⟩ := Ctx.fzI 1 C150 rfl
  replace C154 : Ctx _ _ _ _ _ [CH.row g35 0 ([.int .i64 a1.Kind, .int .i64 a1.Epoch] ++ (a1.Nonce.map (Value.int .u8) ++ [.slice A28 n30 c29, .int .i64 a1.Job, .int .i64 a1.Time, .int .i64 a1.By])), p25] := C154
  obtain ⟨F155, le156, lp157, C158⟩ := Ctx.fzI 1 C154 rfl
  replace C158 : Ctx _ _ _ _ _ [CH.row g35 0 ([.int .i64 a1.Kind, .int .i64 a1.Epoch] ++ (a1.Nonce.map (Value.int .u8) ++ [.slice A28 n30 c29, .int .i64 a1.Job, .int .i64 a1.Time, .int .i64 a1.By]))] := C158
  obtain ⟨⟨r160, r161⟩, hg159, H⟩ := bindE H
  refine WL.callH (docket_work_job.calls k _ F155 g1 o2 A3 c4 n5 A9 c10 n11 A15 c16 n17 A21 c22 n23 a0 A28 c29 n30 a1 (Ctx.pre (qs := []) (rest := [CH.row g35 0 ([.int .i64 a1.Kind, .int .i64 a1.Epoch] ++ (a1.Nonce.map (Value.int .u8) ++ [.slice A28 n30 c29, .int .i64 a1.Job, .int .i64 a1.Time, .int .i64 a1.By]))]) C158) hn6 (Row.len_le hR8).1 (Row.len_le hR8).2.1 (Sl.mono (Row.sl hR8) (CH.le_trans (CH.le_trans (CH.le_trans (CH.le_trans le140 le144) le148) le152) le156) (CH.le_trans (CH.le_trans (CH.le_trans lp145 le148) le152) le156)) hn12 (Row.len_le hR14).1 (Row.len_le hR14).2.1 (Sl.mono (Row.sl hR14) (CH.le_trans (CH.le_trans (CH.le_trans (CH.le_trans le140 le144) le148) le152) le156) (CH.le_trans (CH.le_trans lp149 le152) le156)) hn18 (Row.len_le hR20).1 (Row.len_le hR20).2.1 (Sl.mono (Row.sl hR20) (CH.le_trans (CH.le_trans (CH.le_trans (CH.le_trans le140 le144) le148) le152) le156) (CH.le_trans lp153 le156)) hn24 (Row.len_le hR26).1 (Row.len_le hR26).2.1 (Sl.mono (Row.sl hR26) (CH.le_trans (CH.le_trans (CH.le_trans (CH.le_trans le140 le144) le148) le152) le156) lp157) (CH.le_trans (CH.le_trans (CH.le_trans (CH.le_trans lp141 le144) le148) le152) le156) ha27 hn31 hl32 hm33 (Sl.mono hS34 (CH.le_trans (CH.le_trans (CH.le_trans (CH.le_trans le140 le144) le148) le152) le156) (CH.le_trans (CH.le_trans (CH.le_trans (CH.le_trans le140 le144) le148) le152) le156)) r160 r161 hg159) (Yenter.fn Try.func52 (by kernel_rfl) rfl (argsE (.cons rfl (.cons rfl .nil)))) ?_
  rintro e_ w_ ⟨rfl, C162⟩
  refine ⟨_, rfl, ?_⟩
  let q1 : List Go.Value := [.int .i64 a0.c.Faulty, .int .i64 a0.c.Workers, .int .i64 a0.c.Height, .int .i64 a0.c.Bits, .int .i64 a0.c.Jobs, .int .i64 a0.c.Term, .int .i64 a0.c.Heads, .slice A3 n5 c4, .slice A9 n11 c10, .slice A15 n17 c16, .slice A21 n23 c22, .int .i64 a0.State.Heads]
  have C163 : Ctx _ _ _ _ _ [CH.row g35 0 ([.int .i64 a1.Kind, .int .i64 a1.Epoch] ++ (a1.Nonce.map (Value.int .u8) ++ [.slice A28 n30 c29, .int .i64 a1.Job, .int .i64 a1.Time, .int .i64 a1.By])), CH.row g1 o2 q1, p7, p13, p19, p25] := Ctx.callL (qs := []) (rest := [CH.row g35 0 ([.int .i64 a1.Kind, .int .i64 a1.Epoch] ++ (a1.Nonce.map (Value.int .u8) ++ [.slice A28 n30 c29, .int .i64 a1.Job, .int .i64 a1.Time, .int .i64 a1.By])), CH.row g1 o2 q1, p7, p13, p19, p25]) C62 (CH.le_trans (CH.le_trans (CH.le_trans (CH.le_trans le140 le144) le148) le152) le156) C162
  refine WL.val (Yl.move (v := .tuple #[(elp A9 n11 9 r160), (.int .i64 r161)]) rfl) ?_
  refine WL.val (Yl.extract (v := elp A9 n11 9 r160) rfl rfl) ?_
  refine WL.val (Yl.extract (v := .int .i64 r161) rfl rfl) ?_
  rcases iteE H with ⟨hc164, H⟩ | ⟨hc164, H⟩
  ·obtain ⟨b165, of166, hA167, he168⟩ := (Row.sl hR14) (by omega)
   have C169 : Ctx _ _ _ _ _ [p13, CH.row g35 0 ([.int .i64 a1.Kind, .int .i64 a1.Epoch] ++ (a1.Nonce.map (Value.int .u8) ++ [.slice A28 n30 c29, .int .i64 a1.Job, .int .i64 a1.Time, .int .i64 a1.By])), CH.row g1 o2 q1, p7, p19, p25] := Ctx.pick [3, 0, 1, 2, 4, 5] C163 rfl
   obtain ⟨pa170, pb171, cs172, hr173, C174, hput175⟩ := Row.foc hR14 hA167 C169 r160.toNat 9 rfl (by omega) TJob.z
   obtain ⟨A176, c177, n178, A183, c184, n185, A190, c191, n192, A197, c198, n199, A204, c205, n206, rfl, hn179, hl180, hm181, hS182, hn186, hl187, hm188, hS189, hn193, hl194, hm195, hS196, hn200, hl201, hm202, hS203, hn207, hl208, hm209, hS210⟩ := TJob.open hr173
   let q2 : List Go.Value := [.slice A176 n178 c177, .int .i64 ((a0.State.Jobs.getD r160.toNat TJob.z).State), .int .i64 ((a0.State.Jobs.getD r160.toNat TJob.z).Attempt), .int .i64 ((a0.State.Jobs.getD r160.toNat TJob.z).Epoch), .int .i64 ((a0.State.Jobs.getD r160.toNat TJob.z).Until), .slice A183 n185 c184, .slice A190 n192 c191, .slice A197 n199 c198, .slice A204 n206 c205]
   have C212 : Ctx _ _ _ _ _ [pa170, CH.row b165 (of166 + r160.toNat * 9) q2, pb171, CH.row g35 0 ([.int .i64 a1.Kind, .int .i64 a1.Epoch] ++ (a1.Nonce.map (Value.int .u8) ++ [.slice A28 n30 c29, .int .i64 a1.Job, .int .i64 a1.Time, .int .i64 a1.By])), CH.row g1 o2 q1, p7, p19, p25] := C174
   refine WL.val (Yl.assign (v := .pointer (some ⟨b165, of166 + r160.toNat * 9, none⟩)) (elp_eq hA167 hc164 hn12)) ?_
   refine WL.val (Yl.assign (v := .int .i64 r161) rfl) ?_
   refine WL.done ?_
   refine W.seq ?_
   refine W.block ?_
   refine W.seq ?_
   refine W.region rfl ?_
   refine WL.val (Yl.move (v := .int .i64 r161) rfl) ?_
   refine WL.val (Yl.neq (m := r161) (n := 0) (q := !decide (r161 = 0)) rfl rfl rfl) ?_
   refine WL.val (Yl.assign (v := .bool (!decide (r161 = 0))) rfl) ?_
   refine WL.done ?_
   rcases iteE H with ⟨hc213, H⟩ | ⟨hc213, H⟩
   ·refine W.condF (congrArg Value.bool (ndec_t hc213)) ?_
    refine W.seq ?_
    refine W.region rfl ?_
    refine WL.val (Yl.move (v := .pointer (some ⟨b165, of166 + r160.toNat * 9, none⟩)) rfl) ?_
    refine WL.val (Yl.nilCheck rfl) ?_
    refine WL.val (Yl.fieldAddr (i := 1) rfl Try.underlying55 rfl sz3) ?_
    refine WL.val (Yl.loadV (g := b165) (off := (of166 + r160.toNat * 9)) (o := 1) (cs := q2) (v := .int .i64 ((a0.State.Jobs.getD r160.toNat TJob.z).State)) rfl Try.underlying3 rfl (Ctx.subI 1 C212 rfl) rfl) ?_
    refine WL.val (Yl.neq (m := (a0.State.Jobs.getD r160.toNat TJob.z).State) (n := 1) (q := !decide (((a0.State.Jobs.getD r160.toNat TJob.z).State) = 1)) rfl rfl rfl) ?_
    refine WL.val (Yl.assign (v := .bool (!decide (((a0.State.Jobs.getD r160.toNat TJob.z).State) = 1))) rfl) ?_
    refine WL.done ?_
    rcases iteE H with ⟨hc214, H⟩ | ⟨hc214, H⟩
    ·refine W.condF (congrArg Value.bool (ndec_t hc214)) ?_
     refine W.seq ?_
     refine W.region rfl ?_
     refine WL.val (Yl.fieldAddr (i := 5) rfl Try.underlying46 rfl sz3) ?_
     refine WL.val (Yl.loadV (g := g35) (off := 0) (o := 36) (cs := [.int .i64 a1.Kind, .int .i64 a1.Epoch] ++ (a1.Nonce.map (Value.int .u8) ++ [.slice A28 n30 c29, .int .i64 a1.Job, .int .i64 a1.Time, .int .i64 a1.By])) (v := .int .i64 a1.Time) rfl Try.underlying3 rfl (Ctx.subI 3 C212 rfl) (by simp [List.getElem?_append, ha27])) ?_
     refine WL.val (Yl.eql (m := a1.Time) (n := 0) (q := decide (a1.Time = 0)) rfl rfl rfl) ?_
     refine WL.val (Yl.assign (v := .bool (decide (a1.Time = 0))) rfl) ?_
     refine WL.done ?_
     rcases iteE H with ⟨hc215, H⟩ | ⟨hc215, H⟩
     ·refine W.condT (congrArg Value.bool (decide_eq_true hc215)) ?_
      refine W.seq ?_
      refine W.region rfl ?_
      refine WL.val (Yl.assign (v := .int .i64 213) rfl) ?_
      refine WL.done ?_
      refine W.ret ?_
      refine inB_r ?_
      refine thenE_r ?_
      obtain ⟨p216, C217, hR218⟩ := Row.unfoc (x := (a0.State.Jobs.getD r160.toNat TJob.z)) hput175 (CH.le_refl _) (TJob.mk' _ (a0.State.Jobs.getD r160.toNat TJob.z) A176 c177 n178 A183 c184 n185 A190 c191 n192 A197 c198 n199 A204 c205 n206 hn179 hl180 hm181 hS182 hn186 hl187 hm188 hS189 hn193 hl194 hm195 hS196 hn200 hl201 hm202 hS203 hn207 hl208 hm209 hS210) C212
      have hn219 : n11 = (a0.State.Jobs.set r160.toNat (a0.State.Jobs.getD r160.toNat TJob.z)).length := by rw [List.length_set]; omega
      have C220 : Ctx _ _ _ _ _ [p216, CH.row g35 0 ([.int .i64 a1.Kind, .int .i64 a1.Epoch] ++ (a1.Nonce.map (Value.int .u8) ++ [.slice A28 n30 c29, .int .i64 a1.Job, .int .i64 a1.Time, .int .i64 a1.By])), CH.row g1 o2 q1, p7, p19, p25] := C217
      have C221 : Ctx _ _ _ _ _ [CH.row g1 o2 q1, p7, p216, p19, p25] := Ctx.pick [2, 3, 0, 4, 5] C220 rfl
      simp only [Option.some.injEq, Prod.mk.injEq] at H
      obtain ⟨e222, e223⟩ := H
      subst e222 e223
      exact post_r (resE1 rfl rfl) ⟨F, A3, c4, n5, p7, A9, c10, n11, p216, A15, c16, n17, p19, A21, c22, n23, p25, rfl, (CH.le_refl _), C221, hn6, hR8, hn219, hR218, hn18, hR20, hn24, hR26⟩
     ·refine W.condF (congrArg Value.bool (decide_eq_false hc215)) ?_
      refine W.skip ?_
      refine inB_n ?_
      refine W.seq ?_
      refine W.regionA [([21], CH.row g1 o2 q1)] (by kernel_rfl) ?_
      have C249 := Ctx.drewN C212 1
      refine WA.takes [(0, none), (1, none), (2, none), (3, none), (4, some 0), (5, none), (6, none), (7, none), (8, none), (9, some 0), (10, none), (11, none), (12, none), (13, none), (14, some 0), (15, none), (16, none), (17, none), (18, none), (19, some 0)] ⟨(Ctx.subI 4 C249 rfl), trivial⟩ (by kernel_rfl) ?_
      refine WT.val rfl (fun _ hC_ => Yl.move (v := .pointer (some ⟨g1, o2, none⟩)) rfl) ?_
      refine WT.val rfl (fun _ hC_ => Yl.nilCheck rfl) ?_
      refine WT.val rfl (fun _ hC_ => Yl.fieldAddr (i := 1) rfl Try.underlying75 rfl sz32) ?_
      refine WT.val rfl (fun _ hC_ => Yl.fieldAddr (i := 2) rfl Try.underlying32 rfl sz29) ?_
      refine WT.val rfl (fun _ hC_ => Yl.loadV (g := g1) (off := o2) (o := 9) (cs := q1) (v := .slice A15 n17 c16) rfl Try.underlying29 rfl (show Sub (CH.row g1 o2 q1) _ from hC_) rfl) ?_
      refine WT.val rfl (fun _ hC_ => Yl.move (v := .pointer (some ⟨g1, o2, none⟩)) rfl) ?_
      refine WT.val rfl (fun _ hC_ => Yl.nilCheck rfl) ?_
      refine WT.val rfl (fun _ hC_ => Yl.fieldAddr (i := 1) rfl Try.underlying75 rfl sz32) ?_
      refine WT.val rfl (fun _ hC_ => Yl.fieldAddr (i := 3) rfl Try.underlying32 rfl sz30) ?_
      refine WT.val rfl (fun _ hC_ => Yl.loadV (g := g1) (off := o2) (o := 10) (cs := q1) (v := .slice A21 n23 c22) rfl Try.underlying30 rfl (show Sub (CH.row g1 o2 q1) _ from hC_) rfl) ?_
      refine WT.val rfl (fun _ hC_ => Yl.move (v := .pointer (some ⟨g1, o2, none⟩)) rfl) ?_
      refine WT.val rfl (fun _ hC_ => Yl.nilCheck rfl) ?_
      refine WT.val rfl (fun _ hC_ => Yl.fieldAddr (i := 0) rfl Try.underlying75 rfl sz23) ?_
      refine WT.val rfl (fun _ hC_ => Yl.fieldAddr (i := 2) rfl Try.underlying23 rfl sz3) ?_
      refine WT.val rfl (fun _ hC_ => Yl.loadV (g := g1) (off := o2) (o := 2) (cs := q1) (v := .int .i64 a0.c.Height) rfl Try.underlying3 rfl (show Sub (CH.row g1 o2 q1) _ from hC_) rfl) ?_
      obtain ⟨hc251, H⟩ := guardE H
      refine WT.val rfl (fun _ hC_ => Yl.shl (m := 1) (n := a0.c.Height) (r := shlOp .i64 1 a0.c.Height) rfl rfl hc251 rfl) ?_
      refine WT.val rfl (fun _ hC_ => Yl.move (v := .pointer (some ⟨g1, o2, none⟩)) rfl) ?_
      refine WT.val rfl (fun _ hC_ => Yl.nilCheck rfl) ?_
      refine WT.val rfl (fun _ hC_ => Yl.fieldAddr (i := 0) rfl Try.underlying75 rfl sz23) ?_
      refine WT.val rfl (fun _ hC_ => Yl.loadVA (g := g1) (off := o2) (o := 0) (cs := q1) (us := [.int .i64 a0.c.Faulty, .int .i64 a0.c.Workers, .int .i64 a0.c.Height, .int .i64 a0.c.Bits, .int .i64 a0.c.Jobs, .int .i64 a0.c.Term, .int .i64 a0.c.Heads]) rfl Try.underlying23 rfl sz23 (show Sub (CH.row g1 o2 q1) _ from hC_) rfl) ?_
      refine WT.done ?_
      obtain ⟨r253, hg252, H⟩ := bindE H
      refine WA.up1 20 (by kernel_rfl) (Up.callH rfl (by kernel_rfl) rfl (docket_hands.calls k _ F a0.c (Ctx.pre (qs := []) (rest := [pa170, CH.row b165 (of166 + r160.toNat * 9) q2, pb171, CH.row g35 0 ([.int .i64 a1.Kind, .int .i64 a1.Epoch] ++ (a1.Nonce.map (Value.int .u8) ++ [.slice A28 n30 c29, .int .i64 a1.Job, .int .i64 a1.Time, .int .i64 a1.By])), CH.row g1 o2 q1, p7, p19, p25]) C249)  r253 hg252) (Yenter.fn Try.func54 (by kernel_rfl) rfl (argsE (.cons rfl .nil))) ?_)
      rintro e_ w_ ⟨rfl, C254⟩
      have C255 : Ctx _ _ _ _ _ [pa170, CH.row b165 (of166 + r160.toNat * 9) q2, pb171, CH.row g35 0 ([.int .i64 a1.Kind, .int .i64 a1.Epoch] ++ (a1.Nonce.map (Value.int .u8) ++ [.slice A28 n30 c29, .int .i64 a1.Job, .int .i64 a1.Time, .int .i64 a1.By])), CH.row g1 o2 q1, p7, p19, p25] := Ctx.call (qs := []) (rest := [pa170, CH.row b165 (of166 + r160.toNat * 9) q2, pb171, CH.row g35 0 ([.int .i64 a1.Kind, .int .i64 a1.Epoch] ++ (a1.Nonce.map (Value.int .u8) ++ [.slice A28 n30 c29, .int .i64 a1.Job, .int .i64 a1.Time, .int .i64 a1.By])), CH.row g1 o2 q1, p7, p19, p25]) C249 C254
      refine ⟨_, rfl, ⟨(Ctx.subI 4 C255 rfl), trivial⟩, ?_⟩
      obtain ⟨F256, le257, lp258, C259⟩ := Ctx.fzI 6 C255 rfl
      replace C259 : Ctx _ _ _ _ _ [pa170, CH.row b165 (of166 + r160.toNat * 9) q2, pb171, CH.row g35 0 ([.int .i64 a1.Kind, .int .i64 a1.Epoch] ++ (a1.Nonce.map (Value.int .u8) ++ [.slice A28 n30 c29, .int .i64 a1.Job, .int .i64 a1.Time, .int .i64 a1.By])), CH.row g1 o2 q1, p7, p25] := C259
      obtain ⟨F260, le261, lp262, C263⟩ := Ctx.fzI 6 C259 rfl
      replace C263 : Ctx _ _ _ _ _ [pa170, CH.row b165 (of166 + r160.toNat * 9) q2, pb171, CH.row g35 0 ([.int .i64 a1.Kind, .int .i64 a1.Epoch] ++ (a1.Nonce.map (Value.int .u8) ++ [.slice A28 n30 c29, .int .i64 a1.Job, .int .i64 a1.Time, .int .i64 a1.By])), CH.row g1 o2 q1, p7] := C263
      obtain ⟨⟨r265, r266⟩, hg264, H⟩ := bindE H
      refine WA.up1 21 (by kernel_rfl) (Up.callH rfl (by kernel_rfl) rfl (crew_Pick.calls k _ F260 A15 c16 n17 a0.State.Used A21 c22 n23 a0.State.Barred (shlOp .i64 1 a0.c.Height) r253 (Ctx.pre (qs := []) (rest := [pa170, CH.row b165 (of166 + r160.toNat * 9) q2, pb171, CH.row g35 0 ([.int .i64 a1.Kind, .int .i64 a1.Epoch] ++ (a1.Nonce.map (Value.int .u8) ++ [.slice A28 n30 c29, .int .i64 a1.Job, .int .i64 a1.Time, .int .i64 a1.By])), CH.row g1 o2 q1, p7]) C263) hn18 (Row.len_le hR20).1 (Row.len_le hR20).2.1 (Sl.mono (Row.sl hR20) (CH.le_trans le257 le261) (CH.le_trans lp258 le261)) hn24 (Row.len_le hR26).1 (Row.len_le hR26).2.1 (Sl.mono (Row.sl hR26) (CH.le_trans le257 le261) lp262) r265 r266 hg264) (Yenter.fn Try.func53 (by kernel_rfl) rfl (argsE (.cons rfl (.cons rfl (.cons rfl (.cons rfl .nil)))))) ?_)
      rintro e_ w_ ⟨A267, c268, n269, p271, rfl, C273, hn270, hR272⟩
      have hR274 : Row (Kd.int .i64) F p271 (.slice A267 n269 c268) r265 := hR272
      have C275 : Ctx _ _ _ _ _ [p271, pa170, CH.row b165 (of166 + r160.toNat * 9) q2, pb171, CH.row g35 0 ([.int .i64 a1.Kind, .int .i64 a1.Epoch] ++ (a1.Nonce.map (Value.int .u8) ++ [.slice A28 n30 c29, .int .i64 a1.Job, .int .i64 a1.Time, .int .i64 a1.By])), CH.row g1 o2 q1, p7, p19, p25] := Ctx.callL (qs := []) (rest := [pa170, CH.row b165 (of166 + r160.toNat * 9) q2, pb171, CH.row g35 0 ([.int .i64 a1.Kind, .int .i64 a1.Epoch] ++ (a1.Nonce.map (Value.int .u8) ++ [.slice A28 n30 c29, .int .i64 a1.Job, .int .i64 a1.Time, .int .i64 a1.By])), CH.row g1 o2 q1, p7, p19, p25]) C255 (CH.le_trans le257 le261) C273
      refine ⟨_, rfl, ⟨trivial, trivial⟩, ?_⟩
      refine WA.takes [(22, none), (23, none), (24, none), (25, none), (26, none)] ⟨(Ctx.subI 5 C275 rfl), trivial⟩ (by kernel_rfl) ?_
      refine WT.val rfl (fun _ hC_ => Yl.move (v := .tuple #[(.slice A267 n269 c268), (.int .i64 r266)]) rfl) ?_
      refine WT.val rfl (fun _ hC_ => Yl.extract (v := .slice A267 n269 c268) rfl rfl) ?_
      refine WT.val rfl (fun _ hC_ => Yl.extract (v := .int .i64 r266) rfl rfl) ?_
      refine WT.val rfl (fun _ hC_ => Yl.assign (v := .slice A267 n269 c268) rfl) ?_
      refine WT.val rfl (fun _ hC_ => Yl.assign (v := .int .i64 r266) rfl) ?_
      refine WT.done ?_
      refine WA.done (by kernel_rfl) ?_
      refine W.seq ?_
      refine W.seq ?_
      refine W.region rfl ?_
      refine WL.val (Yl.move (v := .int .i64 r266) rfl) ?_
      refine WL.val (Yl.neq (m := r266) (n := 0) (q := !decide (r266 = 0)) rfl rfl rfl) ?_
      refine WL.done ?_
      rcases iteE H with ⟨hc276, H⟩ | ⟨hc276, H⟩
      ·refine W.condF (congrArg Value.bool (ndec_t hc276)) ?_
       refine W.skip ?_
       refine W.seq ?_
       refine W.regionA [([20, 23, 26, 29, 32], CH.row b165 (of166 + r160.toNat * 9) q2), ([14, 20, 23, 26, 29, 32], CH.row g1 o2 q1), ([29, 32], CH.row g35 0 ([.int .i64 a1.Kind, .int .i64 a1.Epoch] ++ (a1.Nonce.map (Value.int .u8) ++ [.slice A28 n30 c29, .int .i64 a1.Job, .int .i64 a1.Time, .int .i64 a1.By])))] (by kernel_rfl) ?_
       have C305 := Ctx.drewN C275 1
       refine WA.takes [(0, none), (1, none), (2, none), (3, none), (4, none), (5, none), (6, none), (7, none), (8, some 0), (9, none), (10, none), (11, none), (12, none), (13, some 1), (15, none), (16, some 2), (17, none)] ⟨(Ctx.subI 2 C305 rfl), (Ctx.subI 5 C305 rfl), (Ctx.subI 4 C305 rfl), trivial⟩ (by kernel_rfl) ?_
       refine WT.val rfl (fun _ hC_ => Yl.move (v := .pointer (some ⟨b165, of166 + r160.toNat * 9, none⟩)) rfl) ?_
       refine WT.val rfl (fun _ hC_ => Yl.move (v := .pointer (some ⟨b165, of166 + r160.toNat * 9, none⟩)) rfl) ?_
       refine WT.val rfl (fun _ hC_ => Yl.move (v := .pointer (some ⟨b165, of166 + r160.toNat * 9, none⟩)) rfl) ?_
       refine WT.val rfl (fun _ hC_ => Yl.move (v := .pointer (some ⟨b165, of166 + r160.toNat * 9, none⟩)) rfl) ?_
       refine WT.val rfl (fun _ hC_ => Yl.move (v := .pointer (some ⟨b165, of166 + r160.toNat * 9, none⟩)) rfl) ?_
       refine WT.val rfl (fun _ hC_ => Yl.move (v := .pointer (some ⟨b165, of166 + r160.toNat * 9, none⟩)) rfl) ?_
       refine WT.val rfl (fun _ hC_ => Yl.nilCheck rfl) ?_
       refine WT.val rfl (fun _ hC_ => Yl.fieldAddr (i := 2) rfl Try.underlying55 rfl sz3) ?_
       refine WT.val rfl (fun _ hC_ => Yl.loadV (g := b165) (off := (of166 + r160.toNat * 9)) (o := 2) (cs := q2) (v := .int .i64 ((a0.State.Jobs.getD r160.toNat TJob.z).Attempt)) rfl Try.underlying3 rfl (show Sub (CH.row b165 (of166 + r160.toNat * 9) q2) _ from hC_) rfl) ?_
       refine WT.val rfl (fun _ hC_ => Yl.add (m := (a0.State.Jobs.getD r160.toNat TJob.z).Attempt) (n := 1) (r := wi64 (((a0.State.Jobs.getD r160.toNat TJob.z).Attempt) + 1)) rfl rfl rfl) ?_
       refine WT.val rfl (fun _ hC_ => Yl.move (v := .pointer (some ⟨g1, o2, none⟩)) rfl) ?_
       refine WT.val rfl (fun _ hC_ => Yl.nilCheck rfl) ?_
       refine WT.val rfl (fun _ hC_ => Yl.fieldAddr (i := 1) rfl Try.underlying75 rfl sz32) ?_
       refine WT.val rfl (fun _ hC_ => Yl.loadVA (g := g1) (off := o2) (o := 7) (cs := q1) (us := [.slice A3 n5 c4, .slice A9 n11 c10, .slice A15 n17 c16, .slice A21 n23 c22, .int .i64 a0.State.Heads]) rfl Try.underlying32 rfl sz32 (show Sub (CH.row g1 o2 q1) _ from hC_) rfl) ?_
       refine WT.val rfl (fun _ hC_ => Yl.fieldAddr (i := 5) rfl Try.underlying46 rfl sz3) ?_
       refine WT.val rfl (fun _ hC_ => Yl.loadV (g := g35) (off := 0) (o := 36) (cs := [.int .i64 a1.Kind, .int .i64 a1.Epoch] ++ (a1.Nonce.map (Value.int .u8) ++ [.slice A28 n30 c29, .int .i64 a1.Job, .int .i64 a1.Time, .int .i64 a1.By])) (v := .int .i64 a1.Time) rfl Try.underlying3 rfl (show Sub (CH.row g35 0 ([.int .i64 a1.Kind, .int .i64 a1.Epoch] ++ (a1.Nonce.map (Value.int .u8) ++ [.slice A28 n30 c29, .int .i64 a1.Job, .int .i64 a1.Time, .int .i64 a1.By]))) _ from hC_) (by simp [List.getElem?_append, ha27])) ?_
       refine WT.val rfl (fun _ hC_ => Yl.move (v := .slice A267 n269 c268) rfl) ?_
       refine WT.done ?_
       obtain ⟨F306, le307, lp308, C309⟩ := Ctx.fzI 6 C305 rfl
       replace C309 : Ctx _ _ _ _ _ [p271, pa170, CH.row b165 (of166 + r160.toNat * 9) q2, pb171, CH.row g35 0 ([.int .i64 a1.Kind, .int .i64 a1.Epoch] ++ (a1.Nonce.map (Value.int .u8) ++ [.slice A28 n30 c29, .int .i64 a1.Job, .int .i64 a1.Time, .int .i64 a1.By])), CH.row g1 o2 q1, p19, p25] := C309
       obtain ⟨r311, hg310, H⟩ := bindE H
       refine WA.up1 14 (by kernel_rfl) (Up.callH rfl (by kernel_rfl) rfl (docket_Epoch_raw.calls k _ F306 A3 c4 n5 A9 c10 n11 A15 c16 n17 A21 c22 n23 a0.State (Ctx.pre (qs := []) (rest := [p271, pa170, CH.row b165 (of166 + r160.toNat * 9) q2, pb171, CH.row g35 0 ([.int .i64 a1.Kind, .int .i64 a1.Epoch] ++ (a1.Nonce.map (Value.int .u8) ++ [.slice A28 n30 c29, .int .i64 a1.Job, .int .i64 a1.Time, .int .i64 a1.By])), CH.row g1 o2 q1, p19, p25]) C309) hn6 (Row.len_le hR8).1 (Row.len_le hR8).2.1 (Sl.mono (Row.sl hR8) le307 lp308) r311 hg310) (Yenter.fn Try.func19 (by kernel_rfl) rfl (argsE (.cons rfl .nil))) ?_)
       rintro e_ w_ ⟨rfl, C312⟩
       have C313 : Ctx _ _ _ _ _ [p271, pa170, CH.row b165 (of166 + r160.toNat * 9) q2, pb171, CH.row g35 0 ([.int .i64 a1.Kind, .int .i64 a1.Epoch] ++ (a1.Nonce.map (Value.int .u8) ++ [.slice A28 n30 c29, .int .i64 a1.Job, .int .i64 a1.Time, .int .i64 a1.By])), CH.row g1 o2 q1, p7, p19, p25] := Ctx.callL (qs := []) (rest := [p271, pa170, CH.row b165 (of166 + r160.toNat * 9) q2, pb171, CH.row g35 0 ([.int .i64 a1.Kind, .int .i64 a1.Epoch] ++ (a1.Nonce.map (Value.int .u8) ++ [.slice A28 n30 c29, .int .i64 a1.Job, .int .i64 a1.Time, .int .i64 a1.By])), CH.row g1 o2 q1, p7, p19, p25]) C305 le307 C312
       refine ⟨_, rfl, ⟨(Ctx.subI 2 C313 rfl), trivial, (Ctx.subI 4 C313 rfl), trivial⟩, ?_⟩
       refine WA.takes [(18, none), (19, none)] ⟨(Ctx.subI 2 C313 rfl), (Ctx.subI 5 C313 rfl), (Ctx.subI 4 C313 rfl), trivial⟩ (by kernel_rfl) ?_
       refine WT.val rfl (fun _ hC_ => Yl.nilCheck rfl) ?_
       refine WT.val rfl (fun _ hC_ => Yl.fieldAddr (i := 1) rfl Try.underlying55 rfl sz3) ?_
       refine WT.done ?_
       obtain ⟨w314, hy315, C316⟩ := ev_setI (P := Try.prog) (ps1 := [p271, pa170]) (ps2 := [pb171, CH.row g35 0 ([.int .i64 a1.Kind, .int .i64 a1.Epoch] ++ (a1.Nonce.map (Value.int .u8) ++ [.slice A28 n30 c29, .int .i64 a1.Job, .int .i64 a1.Time, .int .i64 a1.By])), CH.row g1 o2 q1, p7, p19, p25]) (t := 3) 1 [.int .i64 2] (.int .i64 2) C313 rfl rfl (ones_of rfl) sz3
       let q3 : List Go.Value := [.slice A176 n178 c177, .int .i64 2, .int .i64 ((a0.State.Jobs.getD r160.toNat TJob.z).Attempt), .int .i64 ((a0.State.Jobs.getD r160.toNat TJob.z).Epoch), .int .i64 ((a0.State.Jobs.getD r160.toNat TJob.z).Until), .slice A183 n185 c184, .slice A190 n192 c191, .slice A197 n199 c198, .slice A204 n206 c205]
       have C317 : Ctx _ _ _ _ _ [p271, pa170, CH.row b165 (of166 + r160.toNat * 9) q3, pb171, CH.row g35 0 ([.int .i64 a1.Kind, .int .i64 a1.Epoch] ++ (a1.Nonce.map (Value.int .u8) ++ [.slice A28 n30 c29, .int .i64 a1.Job, .int .i64 a1.Time, .int .i64 a1.By])), CH.row g1 o2 q1, p7, p19, p25] := C316
       refine WA.up1 20 (by kernel_rfl) (Up.skip rfl rfl (hy315 _ _ _ _ rfl rfl) ⟨trivial, trivial, (Ctx.subI 4 C317 rfl), trivial⟩ ?_)
       refine WA.take none [] 21 rfl (by kernel_rfl) (by kernel_rfl) rfl trivial ⟨trivial, trivial, (Ctx.subI 4 C317 rfl), trivial⟩ (fun _ hC_ => Yl.nilCheck rfl) ?_
       refine WA.take none [] 22 rfl (by kernel_rfl) (by kernel_rfl) rfl trivial ⟨trivial, trivial, (Ctx.subI 4 C317 rfl), trivial⟩ (fun _ hC_ => Yl.fieldAddr (i := 2) rfl Try.underlying55 rfl sz3) ?_
       let q4 : List Go.Value := [.int .i64 (wi64 (((a0.State.Jobs.getD r160.toNat TJob.z).Attempt) + 1))]
       obtain ⟨w318, hy319, C320⟩ := ev_setI (P := Try.prog) (ps1 := [p271, pa170]) (ps2 := [pb171, CH.row g35 0 ([.int .i64 a1.Kind, .int .i64 a1.Epoch] ++ (a1.Nonce.map (Value.int .u8) ++ [.slice A28 n30 c29, .int .i64 a1.Job, .int .i64 a1.Time, .int .i64 a1.By])), CH.row g1 o2 q1, p7, p19, p25]) (t := 3) 2 q4 (.int .i64 (wi64 (((a0.State.Jobs.getD r160.toNat TJob.z).Attempt) + 1))) C317 rfl rfl (ones_of rfl) sz3
       let q5 : List Go.Value := [.slice A176 n178 c177, .int .i64 2, .int .i64 (wi64 (((a0.State.Jobs.getD r160.toNat TJob.z).Attempt) + 1)), .int .i64 ((a0.State.Jobs.getD r160.toNat TJob.z).Epoch), .int .i64 ((a0.State.Jobs.getD r160.toNat TJob.z).Until), .slice A183 n185 c184, .slice A190 n192 c191, .slice A197 n199 c198, .slice A204 n206 c205]
       have C321 : Ctx _ _ _ _ _ [p271, pa170, CH.row b165 (of166 + r160.toNat * 9) q5, pb171, CH.row g35 0 ([.int .i64 a1.Kind, .int .i64 a1.Epoch] ++ (a1.Nonce.map (Value.int .u8) ++ [.slice A28 n30 c29, .int .i64 a1.Job, .int .i64 a1.Time, .int .i64 a1.By])), CH.row g1 o2 q1, p7, p19, p25] := C320
       refine WA.up1 23 (by kernel_rfl) (Up.skip rfl rfl (hy319 _ _ _ _ rfl rfl) ⟨trivial, trivial, (Ctx.subI 4 C321 rfl), trivial⟩ ?_)
       refine WA.take none [] 24 rfl (by kernel_rfl) (by kernel_rfl) rfl trivial ⟨trivial, trivial, (Ctx.subI 4 C321 rfl), trivial⟩ (fun _ hC_ => Yl.nilCheck rfl) ?_
       refine WA.take none [] 25 rfl (by kernel_rfl) (by kernel_rfl) rfl trivial ⟨trivial, trivial, (Ctx.subI 4 C321 rfl), trivial⟩ (fun _ hC_ => Yl.fieldAddr (i := 3) rfl Try.underlying55 rfl sz3) ?_
       obtain ⟨w322, hy323, C324⟩ := ev_setI (P := Try.prog) (ps1 := [p271, pa170]) (ps2 := [pb171, CH.row g35 0 ([.int .i64 a1.Kind, .int .i64 a1.Epoch] ++ (a1.Nonce.map (Value.int .u8) ++ [.slice A28 n30 c29, .int .i64 a1.Job, .int .i64 a1.Time, .int .i64 a1.By])), CH.row g1 o2 q1, p7, p19, p25]) (t := 3) 3 [.int .i64 r311] (.int .i64 r311) C321 rfl rfl (ones_of rfl) sz3
       let q6 : List Go.Value := [.slice A176 n178 c177, .int .i64 2, .int .i64 (wi64 (((a0.State.Jobs.getD r160.toNat TJob.z).Attempt) + 1)), .int .i64 r311, .int .i64 ((a0.State.Jobs.getD r160.toNat TJob.z).Until), .slice A183 n185 c184, .slice A190 n192 c191, .slice A197 n199 c198, .slice A204 n206 c205]
       have C325 : Ctx _ _ _ _ _ [p271, pa170, CH.row b165 (of166 + r160.toNat * 9) q6, pb171, CH.row g35 0 ([.int .i64 a1.Kind, .int .i64 a1.Epoch] ++ (a1.Nonce.map (Value.int .u8) ++ [.slice A28 n30 c29, .int .i64 a1.Job, .int .i64 a1.Time, .int .i64 a1.By])), CH.row g1 o2 q1, p7, p19, p25] := C324
       refine WA.up1 26 (by kernel_rfl) (Up.skip rfl rfl (hy323 _ _ _ _ rfl rfl) ⟨trivial, trivial, (Ctx.subI 4 C325 rfl), trivial⟩ ?_)
       refine WA.take none [] 27 rfl (by kernel_rfl) (by kernel_rfl) rfl trivial ⟨trivial, trivial, (Ctx.subI 4 C325 rfl), trivial⟩ (fun _ hC_ => Yl.nilCheck rfl) ?_
       refine WA.take none [] 28 rfl (by kernel_rfl) (by kernel_rfl) rfl trivial ⟨trivial, trivial, (Ctx.subI 4 C325 rfl), trivial⟩ (fun _ hC_ => Yl.fieldAddr (i := 4) rfl Try.underlying55 rfl sz3) ?_
       obtain ⟨w326, hy327, C328⟩ := ev_setI (P := Try.prog) (ps1 := [p271, pa170]) (ps2 := [pb171, CH.row g35 0 ([.int .i64 a1.Kind, .int .i64 a1.Epoch] ++ (a1.Nonce.map (Value.int .u8) ++ [.slice A28 n30 c29, .int .i64 a1.Job, .int .i64 a1.Time, .int .i64 a1.By])), CH.row g1 o2 q1, p7, p19, p25]) (t := 3) 4 [.int .i64 a1.Time] (.int .i64 a1.Time) C325 rfl rfl (ones_of rfl) sz3
       let q7 : List Go.Value := [.slice A176 n178 c177, .int .i64 2, .int .i64 (wi64 (((a0.State.Jobs.getD r160.toNat TJob.z).Attempt) + 1)), .int .i64 r311, .int .i64 a1.Time, .slice A183 n185 c184, .slice A190 n192 c191, .slice A197 n199 c198, .slice A204 n206 c205]
       have C329 : Ctx _ _ _ _ _ [p271, pa170, CH.row b165 (of166 + r160.toNat * 9) q7, pb171, CH.row g35 0 ([.int .i64 a1.Kind, .int .i64 a1.Epoch] ++ (a1.Nonce.map (Value.int .u8) ++ [.slice A28 n30 c29, .int .i64 a1.Job, .int .i64 a1.Time, .int .i64 a1.By])), CH.row g1 o2 q1, p7, p19, p25] := C328
       refine WA.up1 29 (by kernel_rfl) (Up.skip rfl rfl (hy327 _ _ _ _ rfl rfl) ⟨trivial, trivial, trivial, trivial⟩ ?_)
       refine WA.take none [] 30 rfl (by kernel_rfl) (by kernel_rfl) rfl trivial ⟨trivial, trivial, trivial, trivial⟩ (fun _ hC_ => Yl.nilCheck rfl) ?_
       refine WA.take none [] 31 rfl (by kernel_rfl) (by kernel_rfl) rfl trivial ⟨trivial, trivial, trivial, trivial⟩ (fun _ hC_ => Yl.fieldAddr (i := 5) rfl Try.underlying55 rfl sz29) ?_
       obtain ⟨w330, hy331, C332⟩ := ev_setI (P := Try.prog) (ps1 := [p271, pa170]) (ps2 := [pb171, CH.row g35 0 ([.int .i64 a1.Kind, .int .i64 a1.Epoch] ++ (a1.Nonce.map (Value.int .u8) ++ [.slice A28 n30 c29, .int .i64 a1.Job, .int .i64 a1.Time, .int .i64 a1.By])), CH.row g1 o2 q1, p7, p19, p25]) (t := 29) 5 [.slice A267 n269 c268] (.slice A267 n269 c268) C329 rfl rfl (ones_of rfl) sz29
       let q8 : List Go.Value := [.slice A176 n178 c177, .int .i64 2, .int .i64 (wi64 (((a0.State.Jobs.getD r160.toNat TJob.z).Attempt) + 1)), .int .i64 r311, .int .i64 a1.Time, .slice A267 n269 c268, .slice A190 n192 c191, .slice A197 n199 c198, .slice A204 n206 c205]
       have C333 : Ctx _ _ _ _ _ [p271, pa170, CH.row b165 (of166 + r160.toNat * 9) q8, pb171, CH.row g35 0 ([.int .i64 a1.Kind, .int .i64 a1.Epoch] ++ (a1.Nonce.map (Value.int .u8) ++ [.slice A28 n30 c29, .int .i64 a1.Job, .int .i64 a1.Time, .int .i64 a1.By])), CH.row g1 o2 q1, p7, p19, p25] := C332
       refine WA.up1 32 (by kernel_rfl) (Up.skip rfl rfl (hy331 _ _ _ _ rfl rfl) ⟨trivial, trivial, trivial, trivial⟩ ?_)
       refine WA.done (by kernel_rfl) ?_
       refine W.seq ?_
       refine W.region rfl ?_
       refine WL.val (Yl.move (v := .pointer (some ⟨b165, of166 + r160.toNat * 9, none⟩)) rfl) ?_
       refine WL.val (Yl.nilCheck rfl) ?_
       refine WL.val (Yl.fieldAddr (i := 6) rfl Try.underlying55 rfl sz29) ?_
       obtain ⟨w334, hy335, C336⟩ := ev_setI (P := Try.prog) (ps1 := [p271, pa170]) (ps2 := [pb171, CH.row g35 0 ([.int .i64 a1.Kind, .int .i64 a1.Epoch] ++ (a1.Nonce.map (Value.int .u8) ++ [.slice A28 n30 c29, .int .i64 a1.Job, .int .i64 a1.Time, .int .i64 a1.By])), CH.row g1 o2 q1, p7, p19, p25]) (t := 29) 6 [.slice none 0 0] (.slice none 0 0) C333 rfl rfl (ones_of rfl) sz29
       let q9 : List Go.Value := [.slice A176 n178 c177, .int .i64 2, .int .i64 (wi64 (((a0.State.Jobs.getD r160.toNat TJob.z).Attempt) + 1)), .int .i64 r311, .int .i64 a1.Time, .slice A267 n269 c268, .slice none 0 0, .slice A197 n199 c198, .slice A204 n206 c205]
       have C337 : Ctx _ _ _ _ _ [p271, pa170, CH.row b165 (of166 + r160.toNat * 9) q9, pb171, CH.row g35 0 ([.int .i64 a1.Kind, .int .i64 a1.Epoch] ++ (a1.Nonce.map (Value.int .u8) ++ [.slice A28 n30 c29, .int .i64 a1.Job, .int .i64 a1.Time, .int .i64 a1.By])), CH.row g1 o2 q1, p7, p19, p25] := C336
       refine WL.skip (hy335 _ _ _ _ rfl rfl) ?_
       refine WL.done ?_
       refine W.seq ?_
       refine W.seq ?_
       refine W.region rfl ?_
       refine WL.val (Yl.move (v := .slice A267 n269 c268) rfl) ?_
       refine WL.val (Yl.lenN (A := A267) (l := n269) (q := c268) (n := (r265.length : Int)) rfl Try.underlying29 (by omega)) ?_
       refine WL.val (Yl.move (v := .int .i64 0) rfl) ?_
       refine WL.done ?_
       obtain ⟨⟨x693, x712⟩, hX748, H⟩ := bindE H
       refine W.cutM (fun env_ w_ => ∃ (F691 : CH) (A694 : Option Addr) (c695 : Nat) (n696 : Nat) (p698 : CH) (A700 : Option Addr) (c701 : Nat) (n702 : Nat) (p704 : CH) (A706 : Option Addr) (c707 : Nat) (n708 : Nat) (p710 : CH) (A713 : Option Addr) (c714 : Nat) (n715 : Nat) (A720 : Option Addr) (c721 : Nat) (n722 : Nat) (A727 : Option Addr) (c728 : Nat) (n729 : Nat) (p731 : CH) (A733 : Option Addr) (c734 : Nat) (n735 : Nat) (A740 : Option Addr) (c741 : Nat) (n742 : Nat), Ctx w F D w_ F691 [CH.row g1 o2 [.int .i64 x693.c.Faulty, .int .i64 x693.c.Workers, .int .i64 x693.c.Height, .int .i64 x693.c.Bits, .int .i64 x693.c.Jobs, .int .i64 x693.c.Term, .int .i64 x693.c.Heads, .slice A694 n696 c695, .slice A9 n11 c10, .slice A700 n702 c701, .slice A706 n708 c707, .int .i64 x693.State.Heads], p698, p704, p710, CH.row b165 (of166 + r160.toNat * 9) [.slice A713 n715 c714, .int .i64 x712.State, .int .i64 x712.Attempt, .int .i64 x712.Epoch, .int .i64 x712.Until, .slice A720 n722 c721, .slice A727 n729 c728, .slice A733 n735 c734, .slice A740 n742 c741], p731, pa170, pb171, CH.row g35 0 ([.int .i64 a1.Kind, .int .i64 a1.Epoch] ++ (a1.Nonce.map (Value.int .u8) ++ [.slice A28 n30 c29, .int .i64 a1.Job, .int .i64 a1.Time, .int .i64 a1.By]))] ∧ CH.le F F691 ∧ n696 = x693.State.Eras.length ∧ Row TEra.K F691 p698 (.slice A694 n696 c695) x693.State.Eras ∧ n702 = x693.State.Used.length ∧ Row (Kd.int .i64) F691 p704 (.slice A700 n702 c701) x693.State.Used ∧ n708 = x693.State.Barred.length ∧ Row Kd.bool F691 p710 (.slice A706 n708 c707) x693.State.Barred ∧ n715 = x712.Payload.length ∧ x712.Payload.length ≤ c714 ∧ c714 ≤ maxLen ∧ Sl (Kd.int .u8) F691 F691 A713 x712.Payload ∧ n722 = x712.Workers.length ∧ x712.Workers.length ≤ c721 ∧ c721 ≤ maxLen ∧ Sl (Kd.int .i64) F691 F691 A720 x712.Workers ∧ n729 = x712.Indexes.length ∧ Row (Kd.int .i64) F691 p731 (.slice A727 n729 c728) x712.Indexes ∧ n735 = x712.Votes.length ∧ x712.Votes.length ≤ c734 ∧ c734 ≤ maxLen ∧ Sl TCast.K F691 F691 A733 x712.Votes ∧ n742 = x712.Value.length ∧ x712.Value.length ≤ c741 ∧ c741 ≤ maxLen ∧ Sl (Kd.int .u8) F691 F691 A740 x712.Value) ?_ ?_
       ·refine W.block ?_
        obtain ⟨F749, le750, lp751, C752⟩ := Ctx.fzI 0 C337 rfl
        replace C752 : Ctx _ _ _ _ _ [pa170, CH.row b165 (of166 + r160.toNat * 9) q9, pb171, CH.row g35 0 ([.int .i64 a1.Kind, .int .i64 a1.Epoch] ++ (a1.Nonce.map (Value.int .u8) ++ [.slice A28 n30 c29, .int .i64 a1.Job, .int .i64 a1.Time, .int .i64 a1.By])), CH.row g1 o2 q1, p7, p19, p25] := C752
        obtain ⟨hl753, hm754, hS755⟩ := Row.fz hR274 le750 lp751
        have hR756 := Row.mono hR20 le750
        have hR757 := Row.mono hR26 le750
        have hR758 := Row.mono hR8 le750
        have C1010 : Ctx _ _ _ _ _ [CH.row g1 o2 q1, p7, p19, p25, CH.row b165 (of166 + r160.toNat * 9) q9, CH.emp, pa170, pb171, CH.row g35 0 ([.int .i64 a1.Kind, .int .i64 a1.Epoch] ++ (a1.Nonce.map (Value.int .u8) ++ [.slice A28 n30 c29, .int .i64 a1.Job, .int .i64 a1.Time, .int .i64 a1.By]))] := Ctx.pick [4, 5, 6, 7, 1, 8, 0, 2, 3] C752 rfl
        refine W.loop (fun g_ env_ w_ => ∃ (x863 : Int) (x864 : Twork) (x883 : TJob) (A865 : Option Addr) (c866 : Nat) (n867 : Nat) (p869 : CH) (A871 : Option Addr) (c872 : Nat) (n873 : Nat) (p875 : CH) (A877 : Option Addr) (c878 : Nat) (n879 : Nat) (p881 : CH) (A884 : Option Addr) (c885 : Nat) (n886 : Nat) (A891 : Option Addr) (c892 : Nat) (n893 : Nat) (A898 : Option Addr) (c899 : Nat) (n900 : Nat) (p902 : CH) (A904 : Option Addr) (c905 : Nat) (n906 : Nat) (A911 : Option Addr) (c912 : Nat) (n913 : Nat), env_ 0 = .pointer (some ⟨g1, o2, none⟩) ∧ env_ 6 = .pointer (some ⟨b165, of166 + r160.toNat * 9, none⟩) ∧ env_ 93 = .slice A267 n269 c268 ∧ env_ 94 = .int .i64 (r265.length : Int) ∧ env_ 95 = .int .i64 x863 ∧ Ctx w F D w_ F749 [CH.row g1 o2 [.int .i64 x864.c.Faulty, .int .i64 x864.c.Workers, .int .i64 x864.c.Height, .int .i64 x864.c.Bits, .int .i64 x864.c.Jobs, .int .i64 x864.c.Term, .int .i64 x864.c.Heads, .slice A865 n867 c866, .slice A9 n11 c10, .slice A871 n873 c872, .slice A877 n879 c878, .int .i64 x864.State.Heads], p869, p875, p881, CH.row b165 (of166 + r160.toNat * 9) [.slice A884 n886 c885, .int .i64 x883.State, .int .i64 x883.Attempt, .int .i64 x883.Epoch, .int .i64 x883.Until, .slice A891 n893 c892, .slice A898 n900 c899, .slice A904 n906 c905, .slice A911 n913 c912], p902, pa170, pb171, CH.row g35 0 ([.int .i64 a1.Kind, .int .i64 a1.Epoch] ++ (a1.Nonce.map (Value.int .u8) ++ [.slice A28 n30 c29, .int .i64 a1.Job, .int .i64 a1.Time, .int .i64 a1.By]))] ∧ n867 = x864.State.Eras.length ∧ Row TEra.K F749 p869 (.slice A865 n867 c866) x864.State.Eras ∧ n873 = x864.State.Used.length ∧ Row (Kd.int .i64) F749 p875 (.slice A871 n873 c872) x864.State.Used ∧ n879 = x864.State.Barred.length ∧ Row Kd.bool F749 p881 (.slice A877 n879 c878) x864.State.Barred ∧ n886 = x883.Payload.length ∧ x883.Payload.length ≤ c885 ∧ c885 ≤ maxLen ∧ Sl (Kd.int .u8) F749 F749 A884 x883.Payload ∧ n893 = x883.Workers.length ∧ x883.Workers.length ≤ c892 ∧ c892 ≤ maxLen ∧ Sl (Kd.int .i64) F749 F749 A891 x883.Workers ∧ n900 = x883.Indexes.length ∧ Row (Kd.int .i64) F749 p902 (.slice A898 n900 c899) x883.Indexes ∧ n906 = x883.Votes.length ∧ x883.Votes.length ≤ c905 ∧ c905 ≤ maxLen ∧ Sl TCast.K F749 F749 A904 x883.Votes ∧ n913 = x883.Value.length ∧ x883.Value.length ≤ c912 ∧ c912 ≤ maxLen ∧ Sl (Kd.int .u8) F749 F749 A911 x883.Value ∧ docket_work_assign.l1 g_ r265 x863 x864 x883 = some (x693, x712)) k ⟨0, a0, (⟨(a0.State.Jobs.getD r160.toNat TJob.z).Payload, 2, wi64 (((a0.State.Jobs.getD r160.toNat TJob.z).Attempt) + 1), r311, a1.Time, r265, ([] : List Int), (a0.State.Jobs.getD r160.toNat TJob.z).Votes, (a0.State.Jobs.getD r160.toNat TJob.z).Value⟩ : TJob), A3, c4, n5, p7, A15, c16, n17, p19, A21, c22, n23, p25, A176, c177, n178, A267, c268, n269, none, 0, 0, CH.emp, A197, c198, n199, A204, c205, n206, rfl, rfl, rfl, rfl, rfl, C1010, hn6, hR758, hn18, hR756, hn24, hR757, hn179, hl180, hm181, (Sl.mono hS182 le750 le750), hn270, hl753, hm754, hS755, rfl, (Row.nil _ _), hn200, hl201, hm202, (Sl.mono hS203 le750 le750), hn207, hl208, hm209, (Sl.mono hS210 le750 le750), hX748⟩ ?_
        clear hX748
        rintro g_ env_ w_ ⟨x863, x864, x883, A865, c866, n867, p869, A871, c872, n873, p875, A877, c878, n879, p881, A884, c885, n886, A891, c892, n893, A898, c899, n900, p902, A904, c905, n906, A911, c912, n913, ho858, ho859, ho860, ho861, ho862, C918, hn868, hR870, hn874, hR876, hn880, hR882, hn887, hl888, hm889, hS890, hn894, hl895, hm896, hS897, hn901, hR903, hn907, hl908, hm909, hS910, hn914, hl915, hm916, hS917, hX748⟩
        rcases g_ with _ | k1009
        · exact absurd hX748 (by simp [docket_work_assign.l1])
        rw [docket_work_assign.l1] at hX748
        refine W.seq ?_
        refine W.region rfl ?_
        refine WL.val (Yl.lss (m := x863) (n := (r265.length : Int)) (q := decide (x863 < (r265.length : Int))) ho862 ho861 rfl) ?_
        refine WL.done ?_
        refine W.seq ?_
        rcases iteE hX748 with ⟨hc1011, hX748⟩ | ⟨hc1011, hX748⟩
        ·refine W.condT (congrArg Value.bool (decide_eq_true hc1011)) ?_
         refine W.skip ?_
         refine W.seq ?_
         refine W.block ?_
         refine W.seq ?_
         refine W.region rfl ?_
         obtain ⟨hc1012, hX748⟩ := guardE hX748
         obtain ⟨b1013, of1014, hA1015, he1016⟩ := hS755 (by omega)
         refine WL.val (Yl.elemAddr (i := x863) ho860 ho862 hA1015 Try.underlying29 sz3 (by omega)) ?_
         obtain ⟨cs1017, hr1018, hx1019⟩ := he1016 x863.toNat _ (getD_some (d := 0) (by omega))
         obtain rfl := hr1018
         refine WL.val (Yl.load (v := .int .i64 (r265.getD x863.toNat 0)) rfl Try.underlying3 rfl (((C918.fro)).cell (hx1019 0 _ rfl))) ?_
         refine WL.val (Yl.assign (v := .int .i64 (r265.getD x863.toNat 0)) rfl) ?_
         refine WL.done ?_
         refine W.seq ?_
         let q10 : List Go.Value := [.slice A884 n886 c885, .int .i64 x883.State, .int .i64 x883.Attempt, .int .i64 x883.Epoch, .int .i64 x883.Until, .slice A891 n893 c892, .slice A898 n900 c899, .slice A904 n906 c905, .slice A911 n913 c912]
         let q11 : List Go.Value := [.int .i64 x864.c.Faulty, .int .i64 x864.c.Workers, .int .i64 x864.c.Height, .int .i64 x864.c.Bits, .int .i64 x864.c.Jobs, .int .i64 x864.c.Term, .int .i64 x864.c.Heads, .slice A865 n867 c866, .slice A9 n11 c10, .slice A871 n873 c872, .slice A877 n879 c878, .int .i64 x864.State.Heads]
         refine W.regionA [([14, 17], CH.row b165 (of166 + r160.toNat * 9) q10), ([13, 14, 17], CH.row g1 o2 q11), ([13, 14, 17], p875)] (by kernel_rfl) ?_
         have C1052 := Ctx.drewN C918 1
         refine WA.takes [(0, none), (1, none), (2, none), (3, none), (4, some 0), (5, none), (6, none), (7, none), (8, none), (9, some 1), (10, none), (11, none), (12, some 2)] ⟨(Ctx.subI 4 C1052 rfl), (Ctx.subI 0 C1052 rfl), (Ctx.subI 2 C1052 rfl), trivial⟩ (by kernel_rfl) ?_
         refine WT.val rfl (fun _ hC_ => Yl.move (v := .pointer (some ⟨b165, of166 + r160.toNat * 9, none⟩)) (by exact ho859)) ?_
         refine WT.val rfl (fun _ hC_ => Yl.move (v := .pointer (some ⟨b165, of166 + r160.toNat * 9, none⟩)) (by exact ho859)) ?_
         refine WT.val rfl (fun _ hC_ => Yl.nilCheck rfl) ?_
         refine WT.val rfl (fun _ hC_ => Yl.fieldAddr (i := 6) rfl Try.underlying55 rfl sz29) ?_
         refine WT.val rfl (fun _ hC_ => Yl.loadV (g := b165) (off := (of166 + r160.toNat * 9)) (o := 6) (cs := q10) (v := .slice A898 n900 c899) rfl Try.underlying29 rfl (show Sub (CH.row b165 (of166 + r160.toNat * 9) q10) _ from hC_) rfl) ?_
         refine WT.val rfl (fun _ hC_ => Yl.move (v := .pointer (some ⟨g1, o2, none⟩)) (by exact ho858)) ?_
         refine WT.val rfl (fun _ hC_ => Yl.nilCheck rfl) ?_
         refine WT.val rfl (fun _ hC_ => Yl.fieldAddr (i := 1) rfl Try.underlying75 rfl sz32) ?_
         refine WT.val rfl (fun _ hC_ => Yl.fieldAddr (i := 2) rfl Try.underlying32 rfl sz29) ?_
         refine WT.val rfl (fun _ hC_ => Yl.loadV (g := g1) (off := o2) (o := 9) (cs := q11) (v := .slice A871 n873 c872) rfl Try.underlying29 rfl (show Sub (CH.row g1 o2 q11) _ from hC_) rfl) ?_
         refine WT.val rfl (fun _ hC_ => Yl.move (v := .int .i64 (r265.getD x863.toNat 0)) rfl) ?_
         obtain ⟨hc1061, hX748⟩ := guardE hX748
         obtain ⟨b1062, of1063, hA1064, he1065⟩ := (Row.sl hR876) (by omega)
         refine WT.val rfl (fun _ hC_ => Yl.elemAddr (i := r265.getD x863.toNat 0) rfl rfl hA1064 Try.underlying29 sz3 (by omega)) ?_
         obtain ⟨cs1066, hr1067, hx1068⟩ := he1065 (r265.getD x863.toNat 0).toNat _ (getD_some (d := 0) (by omega))
         obtain rfl := hr1067
         refine WT.val rfl (fun _ hC_ => Yl.load (v := .int .i64 (x864.State.Used.getD (r265.getD x863.toNat 0).toNat 0)) rfl Try.underlying3 rfl (((show Sub p875 _ from hC_)).cell (hx1068 0 _ rfl))) ?_
         refine WT.done ?_
         obtain ⟨A1069, c1070, n1071, p1072, w1073, hn1074, hy1075, C1076, hR1077⟩ := ev_lit1' (P := Try.prog) 3 (Kd.int .i64) C1052 Try.underlying29 ti3 ⟨by decide, by decide⟩ (x864.State.Used.getD (r265.getD x863.toNat 0).toNat 0) (.int .i64 (x864.State.Used.getD (r265.getD x863.toNat 0).toNat 0)) rfl
         refine WA.up1 13 (by kernel_rfl) (Up.val rfl rfl rfl (hy1075 _ _ _ rfl) ⟨(Ctx.subI 5 C1076 rfl), trivial, trivial, trivial⟩ ?_)
         obtain ⟨hc1078, hX748⟩ := guardE hX748
         obtain ⟨A1079, c1080, n1081, p1082, w1083, hn1084, hy1085, C1086, hR1087⟩ := ev_append' (P := Try.prog) (cb := c1070) 3 (Kd.int .i64) [p1072, CH.row g1 o2 q11, p869, p875, p881, CH.row b165 (of166 + r160.toNat * 9) q10] [pa170, pb171, CH.row g35 0 ([.int .i64 a1.Kind, .int .i64 a1.Epoch] ++ (a1.Nonce.map (Value.int .u8) ++ [.slice A28 n30 c29, .int .i64 a1.Job, .int .i64 a1.Time, .int .i64 a1.By]))] C1076 hR903 hn1074 (Row.sl hR1077) (Ctx.subI 0 C1076 rfl) Try.underlying29 ti3 rfl zo3 (by decide) (by decide) (by simpa using hc1078)
         have C1088 : Ctx _ _ _ _ _ [p1072, CH.row g1 o2 q11, p869, p875, p881, CH.row b165 (of166 + r160.toNat * 9) q10, p1082, pa170, pb171, CH.row g35 0 ([.int .i64 a1.Kind, .int .i64 a1.Epoch] ++ (a1.Nonce.map (Value.int .u8) ++ [.slice A28 n30 c29, .int .i64 a1.Job, .int .i64 a1.Time, .int .i64 a1.By]))] := C1086
         refine WA.up1 14 (by kernel_rfl) (Up.val rfl rfl rfl (hy1085 _ _ _ _ rfl rfl) ⟨trivial, trivial, trivial, trivial⟩ ?_)
         refine WA.takes [(15, none), (16, none)] ⟨(Ctx.subI 5 C1088 rfl), (Ctx.subI 1 C1088 rfl), (Ctx.subI 3 C1088 rfl), trivial⟩ (by kernel_rfl) ?_
         refine WT.val rfl (fun _ hC_ => Yl.nilCheck rfl) ?_
         refine WT.val rfl (fun _ hC_ => Yl.fieldAddr (i := 6) rfl Try.underlying55 rfl sz29) ?_
         refine WT.done ?_
         obtain ⟨w1089, hy1090, C1091⟩ := ev_setI (P := Try.prog) (ps1 := [p1072, CH.row g1 o2 q11, p869, p875, p881]) (ps2 := [p1082, pa170, pb171, CH.row g35 0 ([.int .i64 a1.Kind, .int .i64 a1.Epoch] ++ (a1.Nonce.map (Value.int .u8) ++ [.slice A28 n30 c29, .int .i64 a1.Job, .int .i64 a1.Time, .int .i64 a1.By]))]) (t := 29) 6 [.slice A1079 n1081 c1080] (.slice A1079 n1081 c1080) C1088 rfl rfl (ones_of rfl) sz29
         let q12 : List Go.Value := [.slice A884 n886 c885, .int .i64 x883.State, .int .i64 x883.Attempt, .int .i64 x883.Epoch, .int .i64 x883.Until, .slice A891 n893 c892, .slice A1079 n1081 c1080, .slice A904 n906 c905, .slice A911 n913 c912]
         have C1092 : Ctx _ _ _ _ _ [p1072, CH.row g1 o2 q11, p869, p875, p881, CH.row b165 (of166 + r160.toNat * 9) q12, p1082, pa170, pb171, CH.row g35 0 ([.int .i64 a1.Kind, .int .i64 a1.Epoch] ++ (a1.Nonce.map (Value.int .u8) ++ [.slice A28 n30 c29, .int .i64 a1.Job, .int .i64 a1.Time, .int .i64 a1.By]))] := C1091
         refine WA.up1 17 (by kernel_rfl) (Up.skip rfl rfl (hy1090 _ _ _ _ rfl rfl) ⟨trivial, trivial, trivial, trivial⟩ ?_)
         refine WA.done (by kernel_rfl) ?_
         refine W.region rfl ?_
         refine WL.val (Yl.move (v := .pointer (some ⟨g1, o2, none⟩)) ho858) ?_
         refine WL.val (Yl.nilCheck rfl) ?_
         refine WL.val (Yl.fieldAddr (i := 1) rfl Try.underlying75 rfl sz32) ?_
         refine WL.val (Yl.fieldAddr (i := 2) rfl Try.underlying32 rfl sz29) ?_
         refine WL.val (Yl.loadV (g := g1) (off := o2) (o := 9) (cs := q11) (v := .slice A871 n873 c872) rfl Try.underlying29 rfl (Ctx.subI 1 C1092 rfl) rfl) ?_
         refine WL.val (Yl.move (v := .int .i64 (r265.getD x863.toNat 0)) rfl) ?_
         refine WL.val (Yl.elemAddr (i := r265.getD x863.toNat 0) rfl rfl hA1064 Try.underlying29 sz3 (by omega)) ?_
         refine WL.val (Yl.load (v := .int .i64 (x864.State.Used.getD (r265.getD x863.toNat 0).toNat 0)) rfl Try.underlying3 rfl (((Ctx.subI 3 C1092 rfl)).cell (hx1068 0 _ rfl))) ?_
         refine WL.val (Yl.add (m := x864.State.Used.getD (r265.getD x863.toNat 0).toNat 0) (n := 1) (r := wi64 ((x864.State.Used.getD (r265.getD x863.toNat 0).toNat 0) + 1)) rfl rfl rfl) ?_
         refine WL.val (Yl.elemAddr (i := r265.getD x863.toNat 0) rfl rfl hA1064 Try.underlying29 sz3 (by omega)) ?_
         have hj1098 : (r265.getD x863.toNat 0).toNat < x864.State.Used.length := by first | omega | (simp only [List.length_set, List.length_replicate] at *; omega)
         let q13 : List Go.Value := [.int .i64 (wi64 ((x864.State.Used.getD (r265.getD x863.toNat 0).toNat 0) + 1))]
         obtain ⟨p1093, w1094, hy1095, C1096, hR1097⟩ := ev_store (P := Try.prog) (t := 3) (Kd.int .i64) [p1072, CH.row g1 o2 q11, p869] [p881, CH.row b165 (of166 + r160.toNat * 9) q12, p1082, pa170, pb171, CH.row g35 0 ([.int .i64 a1.Kind, .int .i64 a1.Epoch] ++ (a1.Nonce.map (Value.int .u8) ++ [.slice A28 n30 c29, .int .i64 a1.Job, .int .i64 a1.Time, .int .i64 a1.By]))] C1092 hR876 hA1064 (r265.getD x863.toNat 0).toNat 0 hj1098 0 (.int .i64 (wi64 ((x864.State.Used.getD (r265.getD x863.toNat 0).toNat 0) + 1))) (q13) rfl (ones_of rfl) (Nat.le_of_ble_eq_true rfl) sz3 (wi64 ((x864.State.Used.getD (r265.getD x863.toNat 0).toNat 0) + 1)) (fun _ h_ => rep_whole h_ rfl) ⟨b1062, of1063 + (r265.getD x863.toNat 0).toNat * 1, none⟩ rfl
         have hn1099 : n873 = (x864.State.Used.set (r265.getD x863.toNat 0).toNat (wi64 ((x864.State.Used.getD (r265.getD x863.toNat 0).toNat 0) + 1))).length := by rw [List.length_set]; omega
         have C1100 : Ctx _ _ _ _ _ [p1072, CH.row g1 o2 q11, p869, p1093, p881, CH.row b165 (of166 + r160.toNat * 9) q12, p1082, pa170, pb171, CH.row g35 0 ([.int .i64 a1.Kind, .int .i64 a1.Epoch] ++ (a1.Nonce.map (Value.int .u8) ++ [.slice A28 n30 c29, .int .i64 a1.Job, .int .i64 a1.Time, .int .i64 a1.By]))] := C1096
         refine WL.skip (hy1095 _ _ _ _ rfl rfl) ?_
         refine WL.done ?_
         refine inB_n ?_
         refine W.region rfl ?_
         refine WL.val (Yl.add (m := x863) (n := 1) (r := wi64 (x863 + 1)) ho862 rfl rfl) ?_
         refine WL.val (Yl.move (v := .int .i64 (wi64 (x863 + 1))) rfl) ?_
         refine WL.done ?_
         have C1101 : Ctx _ _ _ _ _ [CH.row g1 o2 q11, p869, p1093, p881, CH.row b165 (of166 + r160.toNat * 9) q12, p1082, pa170, pb171, CH.row g35 0 ([.int .i64 a1.Kind, .int .i64 a1.Epoch] ++ (a1.Nonce.map (Value.int .u8) ++ [.slice A28 n30 c29, .int .i64 a1.Job, .int .i64 a1.Time, .int .i64 a1.By]))] := Ctx.pick [1, 2, 3, 4, 5, 6, 7, 8, 9] C1100 rfl
         exact thenE_n ⟨k1009, Nat.lt_succ_self _, wi64 (x863 + 1), (⟨x864.c, (⟨x864.State.Eras, x864.State.Jobs, x864.State.Used.set (r265.getD x863.toNat 0).toNat (wi64 ((x864.State.Used.getD (r265.getD x863.toNat 0).toNat 0) + 1)), x864.State.Barred, x864.State.Heads⟩ : TState)⟩ : Twork), (⟨x883.Payload, x883.State, x883.Attempt, x883.Epoch, x883.Until, x883.Workers, x883.Indexes ++ [x864.State.Used.getD (r265.getD x863.toNat 0).toNat 0], x883.Votes, x883.Value⟩ : TJob), A865, c866, n867, p869, A871, c872, n873, p1093, A877, c878, n879, p881, A884, c885, n886, A891, c892, n893, A1079, c1080, n1081, p1082, A904, c905, n906, A911, c912, n913, ho858, ho859, ho860, ho861, rfl, C1101, hn868, hR870, hn1099, hR1097, hn880, hR882, hn887, hl888, hm889, hS890, hn894, hl895, hm896, hS897, hn1084, hR1087, hn907, hl908, hm909, hS910, hn914, hl915, hm916, hS917, hX748⟩
        ·refine W.condF (congrArg Value.bool (decide_eq_false hc1011)) ?_
         refine W.exit ?_
         refine thenE_x ?_
         refine thenE_x ?_
         refine inB_here ?_
         cases hX748
         refine thenE_n ?_
         exact ⟨F749, A865, c866, n867, p869, A871, c872, n873, p875, A877, c878, n879, p881, A884, c885, n886, A891, c892, n893, A898, c899, n900, p902, A904, c905, n906, A911, c912, n913, C918, le750, hn868, hR870, hn874, hR876, hn880, hR882, hn887, hl888, hm889, hS890, hn894, hl895, hm896, hS897, hn901, hR903, hn907, hl908, hm909, hS910, hn914, hl915, hm916, hS917⟩
       ·rintro env_ w_ ⟨F691, A694, c695, n696, p698, A700, c701, n702, p704, A706, c707, n708, p710, A713, c714, n715, A720, c721, n722, A727, c728, n729, p731, A733, c734, n735, A740, c741, n742, C747, le692, hn697, hR699, hn703, hR705, hn709, hR711, hn716, hl717, hm718, hS719, hn723, hl724, hm725, hS726, hn730, hR732, hn736, hl737, hm738, hS739, hn743, hl744, hm745, hS746⟩
        refine W.seq ?_
        refine W.region rfl ?_
        refine WL.val (Yl.assign (v := .int .i64 0) rfl) ?_
        refine WL.done ?_
        refine W.ret ?_
        obtain ⟨F1102, le1103, lp1104, C1105⟩ := Ctx.fzI 5 C747 rfl
        let q14 : List Go.Value := [.int .i64 x693.c.Faulty, .int .i64 x693.c.Workers, .int .i64 x693.c.Height, .int .i64 x693.c.Bits, .int .i64 x693.c.Jobs, .int .i64 x693.c.Term, .int .i64 x693.c.Heads, .slice A694 n696 c695, .slice A9 n11 c10, .slice A700 n702 c701, .slice A706 n708 c707, .int .i64 x693.State.Heads]
        let q15 : List Go.Value := [.slice A713 n715 c714, .int .i64 x712.State, .int .i64 x712.Attempt, .int .i64 x712.Epoch, .int .i64 x712.Until, .slice A720 n722 c721, .slice A727 n729 c728, .slice A733 n735 c734, .slice A740 n742 c741]
        replace C1105 : Ctx _ _ _ _ _ [CH.row g1 o2 q14, p698, p704, p710, CH.row b165 (of166 + r160.toNat * 9) q15, pa170, pb171, CH.row g35 0 ([.int .i64 a1.Kind, .int .i64 a1.Epoch] ++ (a1.Nonce.map (Value.int .u8) ++ [.slice A28 n30 c29, .int .i64 a1.Job, .int .i64 a1.Time, .int .i64 a1.By]))] := C1105
        obtain ⟨hl1106, hm1107, hS1108⟩ := Row.fz hR732 le1103 lp1104
        have hR1109 := Row.mono hR699 le1103
        have hR1110 := Row.mono hR705 le1103
        have hR1111 := Row.mono hR711 le1103
        have C1112 : Ctx _ _ _ _ _ [pa170, CH.row b165 (of166 + r160.toNat * 9) q15, pb171, CH.row g1 o2 q14, p698, p704, p710, CH.row g35 0 ([.int .i64 a1.Kind, .int .i64 a1.Epoch] ++ (a1.Nonce.map (Value.int .u8) ++ [.slice A28 n30 c29, .int .i64 a1.Job, .int .i64 a1.Time, .int .i64 a1.By]))] := Ctx.pick [5, 4, 6, 0, 1, 2, 3, 7] C1105 rfl
        obtain ⟨p1113, C1114, hR1115⟩ := Row.unfoc (x := x712) hput175 (CH.le_trans le692 le1103) (TJob.mk' _ x712 A713 c714 n715 A720 c721 n722 A727 c728 n729 A733 c734 n735 A740 c741 n742 hn716 hl717 hm718 (Sl.mono hS719 le1103 le1103) hn723 hl724 hm725 (Sl.mono hS726 le1103 le1103) hn730 hl1106 hm1107 hS1108 hn736 hl737 hm738 (Sl.mono hS739 le1103 le1103) hn743 hl744 hm745 (Sl.mono hS746 le1103 le1103)) C1112
        have hn1116 : n11 = (a0.State.Jobs.set r160.toNat x712).length := by rw [List.length_set]; omega
        have C1117 : Ctx _ _ _ _ _ [p1113, CH.row g1 o2 q14, p698, p704, p710, CH.row g35 0 ([.int .i64 a1.Kind, .int .i64 a1.Epoch] ++ (a1.Nonce.map (Value.int .u8) ++ [.slice A28 n30 c29, .int .i64 a1.Job, .int .i64 a1.Time, .int .i64 a1.By]))] := C1114
        have C1118 : Ctx _ _ _ _ _ [CH.row g1 o2 q14, p698, p1113, p704, p710] := Ctx.pick [1, 2, 0, 3, 4] C1117 rfl
        simp only [Option.some.injEq, Prod.mk.injEq] at H
        obtain ⟨e1119, e1120⟩ := H
        subst e1119 e1120
        exact post_r (resE1 rfl rfl) ⟨F1102, A694, c695, n696, p698, A9, c10, n11, p1113, A700, c701, n702, p704, A706, c707, n708, p710, rfl, (CH.le_trans le692 le1103), C1118, hn697, hR1109, hn1116, hR1115, hn703, hR1110, hn709, hR1111⟩
      ·refine W.condT (congrArg Value.bool (ndec_f hc276)) ?_
       refine W.seq ?_
       refine W.region rfl ?_
       refine WL.val (Yl.move (v := .int .i64 r266) rfl) ?_
       refine WL.val (Yl.assign (v := .int .i64 r266) rfl) ?_
       refine WL.done ?_
       refine W.ret ?_
       refine thenE_r ?_
       have C1121 : Ctx _ _ _ _ _ [pa170, CH.row b165 (of166 + r160.toNat * 9) q2, pb171, p271, CH.row g35 0 ([.int .i64 a1.Kind, .int .i64 a1.Epoch] ++ (a1.Nonce.map (Value.int .u8) ++ [.slice A28 n30 c29, .int .i64 a1.Job, .int .i64 a1.Time, .int .i64 a1.By])), CH.row g1 o2 q1, p7, p19, p25] := Ctx.pick [1, 2, 3, 0, 4, 5, 6, 7, 8] C275 rfl
       obtain ⟨p1122, C1123, hR1124⟩ := Row.unfoc (x := (a0.State.Jobs.getD r160.toNat TJob.z)) hput175 (CH.le_refl _) (TJob.mk' _ (a0.State.Jobs.getD r160.toNat TJob.z) A176 c177 n178 A183 c184 n185 A190 c191 n192 A197 c198 n199 A204 c205 n206 hn179 hl180 hm181 hS182 hn186 hl187 hm188 hS189 hn193 hl194 hm195 hS196 hn200 hl201 hm202 hS203 hn207 hl208 hm209 hS210) C1121
       have hn1125 : n11 = (a0.State.Jobs.set r160.toNat (a0.State.Jobs.getD r160.toNat TJob.z)).length := by rw [List.length_set]; omega
       have C1126 : Ctx _ _ _ _ _ [p1122, p271, CH.row g35 0 ([.int .i64 a1.Kind, .int .i64 a1.Epoch] ++ (a1.Nonce.map (Value.int .u8) ++ [.slice A28 n30 c29, .int .i64 a1.Job, .int .i64 a1.Time, .int .i64 a1.By])), CH.row g1 o2 q1, p7, p19, p25] := C1123
       have C1127 : Ctx _ _ _ _ _ [CH.row g1 o2 q1, p7, p1122, p19, p25] := Ctx.pick [3, 4, 0, 5, 6] C1126 rfl
       simp only [Option.some.injEq, Prod.mk.injEq] at H
       obtain ⟨e1128, e1129⟩ := H
       subst e1128 e1129
       exact post_r (resE1 rfl rfl) ⟨F, A3, c4, n5, p7, A9, c10, n11, p1122, A15, c16, n17, p19, A21, c22, n23, p25, rfl, (CH.le_refl _), C1127, hn6, hR8, hn1125, hR1124, hn18, hR20, hn24, hR26⟩
    ·refine W.condT (congrArg Value.bool (ndec_f hc214)) ?_
     refine W.seq ?_
     refine W.region rfl ?_
     refine WL.val (Yl.assign (v := .int .i64 212) rfl) ?_
     refine WL.done ?_
     refine W.ret ?_
     refine inB_r ?_
     refine thenE_r ?_
     obtain ⟨p1130, C1131, hR1132⟩ := Row.unfoc (x := (a0.State.Jobs.getD r160.toNat TJob.z)) hput175 (CH.le_refl _) (TJob.mk' _ (a0.State.Jobs.getD r160.toNat TJob.z) A176 c177 n178 A183 c184 n185 A190 c191 n192 A197 c198 n199 A204 c205 n206 hn179 hl180 hm181 hS182 hn186 hl187 hm188 hS189 hn193 hl194 hm195 hS196 hn200 hl201 hm202 hS203 hn207 hl208 hm209 hS210) C212
     have hn1133 : n11 = (a0.State.Jobs.set r160.toNat (a0.State.Jobs.getD r160.toNat TJob.z)).length := by rw [List.length_set]; omega
     have C1134 : Ctx _ _ _ _ _ [p1130, CH.row g35 0 ([.int .i64 a1.Kind, .int .i64 a1.Epoch] ++ (a1.Nonce.map (Value.int .u8) ++ [.slice A28 n30 c29, .int .i64 a1.Job, .int .i64 a1.Time, .int .i64 a1.By])), CH.row g1 o2 q1, p7, p19, p25] := C1131
     have C1135 : Ctx _ _ _ _ _ [CH.row g1 o2 q1, p7, p1130, p19, p25] := Ctx.pick [2, 3, 0, 4, 5] C1134 rfl
     simp only [Option.some.injEq, Prod.mk.injEq] at H
     obtain ⟨e1136, e1137⟩ := H
     subst e1136 e1137
     exact post_r (resE1 rfl rfl) ⟨F, A3, c4, n5, p7, A9, c10, n11, p1130, A15, c16, n17, p19, A21, c22, n23, p25, rfl, (CH.le_refl _), C1135, hn6, hR8, hn1133, hR1132, hn18, hR20, hn24, hR26⟩
   ·refine W.condT (congrArg Value.bool (ndec_f hc213)) ?_
    refine W.seq ?_
    refine W.region rfl ?_
    refine WL.val (Yl.move (v := .int .i64 r161) rfl) ?_
    refine WL.val (Yl.assign (v := .int .i64 r161) rfl) ?_
    refine WL.done ?_
    refine W.ret ?_
    refine inB_r ?_
    refine thenE_r ?_
    obtain ⟨p1138, C1139, hR1140⟩ := Row.unfoc (x := (a0.State.Jobs.getD r160.toNat TJob.z)) hput175 (CH.le_refl _) (TJob.mk' _ (a0.State.Jobs.getD r160.toNat TJob.z) A176 c177 n178 A183 c184 n185 A190 c191 n192 A197 c198 n199 A204 c205 n206 hn179 hl180 hm181 hS182 hn186 hl187 hm188 hS189 hn193 hl194 hm195 hS196 hn200 hl201 hm202 hS203 hn207 hl208 hm209 hS210) C212
    have hn1141 : n11 = (a0.State.Jobs.set r160.toNat (a0.State.Jobs.getD r160.toNat TJob.z)).length := by rw [List.length_set]; omega
    have C1142 : Ctx _ _ _ _ _ [p1138, CH.row g35 0 ([.int .i64 a1.Kind, .int .i64 a1.Epoch] ++ (a1.Nonce.map (Value.int .u8) ++ [.slice A28 n30 c29, .int .i64 a1.Job, .int .i64 a1.Time, .int .i64 a1.By])), CH.row g1 o2 q1, p7, p19, p25] := C1139
    have C1143 : Ctx _ _ _ _ _ [CH.row g1 o2 q1, p7, p1138, p19, p25] := Ctx.pick [2, 3, 0, 4, 5] C1142 rfl
    simp only [Option.some.injEq, Prod.mk.injEq] at H
    obtain ⟨e1144, e1145⟩ := H
    subst e1144 e1145
    exact post_r (resE1 rfl rfl) ⟨F, A3, c4, n5, p7, A9, c10, n11, p1138, A15, c16, n17, p19, A21, c22, n23, p25, rfl, (CH.le_refl _), C1143, hn6, hR8, hn1141, hR1140, hn18, hR20, hn24, hR26⟩
  ·refine WL.val (Yl.assign (v := .pointer none) (elp_no hc164 hn12)) ?_
   refine WL.val (Yl.assign (v := .int .i64 r161) rfl) ?_
   refine WL.done ?_
   refine W.seq ?_
   refine W.block ?_
   refine W.seq ?_
   refine W.region rfl ?_
   refine WL.val (Yl.move (v := .int .i64 r161) rfl) ?_
   refine WL.val (Yl.neq (m := r161) (n := 0) (q := !decide (r161 = 0)) rfl rfl rfl) ?_
   refine WL.val (Yl.assign (v := .bool (!decide (r161 = 0))) rfl) ?_
   refine WL.done ?_
   rcases iteE H with ⟨hc1146, H⟩ | ⟨hc1146, H⟩
   ·refine W.condF (congrArg Value.bool (ndec_t hc1146)) ?_
    refine W.seq ?_
    refine W.region rfl ?_
    refine WL.val (Yl.move (v := .pointer none) rfl) ?_
    obtain ⟨hc1147, H⟩ := guardE H
    exact hc1147.elim
   ·refine W.condT (congrArg Value.bool (ndec_f hc1146)) ?_
    refine W.seq ?_
    refine W.region rfl ?_
    refine WL.val (Yl.move (v := .int .i64 r161) rfl) ?_
    refine WL.val (Yl.assign (v := .int .i64 r161) rfl) ?_
    refine WL.done ?_
    refine W.ret ?_
    refine inB_r ?_
    refine thenE_r ?_
    have C1148 : Ctx _ _ _ _ _ [CH.row g1 o2 q1, p7, p13, p19, p25] := Ctx.pick [1, 2, 3, 4, 5] C163 rfl
    simp only [Option.some.injEq, Prod.mk.injEq] at H
    obtain ⟨e1149, e1150⟩ := H
    subst e1149 e1150
    exact post_r (resE1 rfl rfl) ⟨F, A3, c4, n5, p7, A9, c10, n11, p13, A15, c16, n17, p19, A21, c22, n23, p25, rfl, (CH.le_refl _), C1148, hn6, hR8, hn12, hR14, hn18, hR20, hn24, hR26⟩
 ·refine W.condF (congrArg Value.bool (decide_eq_false hc138)) ?_
  refine W.skip ?_
  refine W.seq ?_
  refine W.block ?_
  refine W.seq ?_
  refine W.region rfl ?_
  refine WL.val (Yl.move (v := .int .i64 r60) rfl) ?_
  refine WL.val (Yl.neq (m := r60) (n := 0) (q := !decide (r60 = 0)) rfl rfl rfl) ?_
  refine WL.val (Yl.assign (v := .bool (!decide (r60 = 0))) rfl) ?_
  refine WL.done ?_
  refine W.condT (congrArg Value.bool (ndec_f hc138)) ?_
  refine W.seq ?_
  refine W.region rfl ?_
  refine WL.val (Yl.move (v := .int .i64 r60) rfl) ?_
  refine WL.val (Yl.assign (v := .int .i64 r60) rfl) ?_
  refine WL.done ?_
  refine W.ret ?_
  refine inB_r ?_
  refine thenE_r ?_
  let q16 : List Go.Value := [.int .i64 a0.c.Faulty, .int .i64 a0.c.Workers, .int .i64 a0.c.Height, .int .i64 a0.c.Bits, .int .i64 a0.c.Jobs, .int .i64 a0.c.Term, .int .i64 a0.c.Heads, .slice A3 n5 c4, .slice A9 n11 c10, .slice A15 n17 c16, .slice A21 n23 c22, .int .i64 a0.State.Heads]
  have C1151 : Ctx _ _ _ _ _ [CH.row g1 o2 q16, p7, p13, p19, p25] := Ctx.pick [1, 2, 3, 4, 5] C62 rfl
  simp only [Option.some.injEq, Prod.mk.injEq] at H
  obtain ⟨e1152, e1153⟩ := H
  subst e1152 e1153
  exact post_r (resE1 rfl rfl) ⟨F, A3, c4, n5, p7, A9, c10, n11, p13, A15, c16, n17, p19, A21, c22, n23, p25, rfl, (CH.le_refl _), C1151, hn6, hR8, hn12, hR14, hn18, hR20, hn24, hR26⟩
def docket_what.f (k : Nat) (a0 : Int) : Option Int := if a0 = 1 then (some 37) else (if a0 = 2 then (some 38) else (if a0 = 3 then (some 39) else (if a0 = 4 then (some 40) else (if a0 = 5 then (some 41) else (some 42)))))
set_option maxRecDepth 100000 in
set_option maxHeartbeats 4000000 in
theorem docket_what.calls (k : Nat) (w : World) (F : CH) (a0 : Int) (hp : Pre w F [])  (r0_ : Int) (H : docket_what.f k a0 = some r0_) :
    Calls Try.prog 31 #[.int .i64 a0] w fun e w' => e = .returned (fnV r0_) ∧ (∃ n_, w' = w.drewN n_) := by
 have C := Ctx.start hp
 generalize domL [] = D at C
 have W0 : ∃ n_, w = w.drewN n_ := ⟨0, rfl⟩
 unfold docket_what.f at H
 refine Calls.ofW Try.func31 rfl (by simp [Try.ntmps31]) ?_
 refine W.seq ?_
 refine W.region rfl ?_
 refine WL.val (Yl.assign (v := .nilFunc) rfl) ?_
 refine WL.done ?_
 refine W.seq ?_
 refine W.seq ?_
 refine W.region rfl ?_
 refine WL.val (Yl.move (v := .int .i64 a0) rfl) ?_
 refine WL.done ?_
 refine W.block ?_
 refine W.seq ?_
 refine W.region rfl ?_
 refine WL.val (Yl.eql (m := a0) (n := 1) (q := decide (a0 = 1)) rfl rfl rfl) ?_
 refine WL.val (Yl.assign (v := .bool (decide (a0 = 1))) rfl) ?_
 refine WL.done ?_
 rcases iteE H with ⟨hc1, H⟩ | ⟨hc1, H⟩
 ·refine W.condT (congrArg Value.bool (decide_eq_true hc1)) ?_
  refine W.seq ?_
  refine W.region rfl ?_
  refine WL.val (Yl.assign (v := .func (.func 37) #[] #[]) rfl) ?_
  refine WL.done ?_
  refine W.ret ?_
  refine inB_r ?_
  refine thenE_r ?_
  have e2 := Option.some.inj H
  subst e2
  exact post_r (resE1 (t := 2) rfl ((show _ = Value.func (.func 37) #[] #[] from rfl).trans (fnV_eq 37).symm)) ⟨rfl, W0⟩
 ·refine W.condF (congrArg Value.bool (decide_eq_false hc1)) ?_
  refine W.seq ?_
  refine W.region rfl ?_
  refine WL.val (Yl.eql (m := a0) (n := 2) (q := decide (a0 = 2)) rfl rfl rfl) ?_
  refine WL.val (Yl.assign (v := .bool (decide (a0 = 2))) rfl) ?_
  refine WL.done ?_
  rcases iteE H with ⟨hc3, H⟩ | ⟨hc3, H⟩
  ·refine W.condT (congrArg Value.bool (decide_eq_true hc3)) ?_
   refine W.seq ?_
   refine W.region rfl ?_
   refine WL.val (Yl.assign (v := .func (.func 38) #[] #[]) rfl) ?_
   refine WL.done ?_
   refine W.ret ?_
   refine inB_r ?_
   refine thenE_r ?_
   have e4 := Option.some.inj H
   subst e4
   exact post_r (resE1 (t := 2) rfl ((show _ = Value.func (.func 38) #[] #[] from rfl).trans (fnV_eq 38).symm)) ⟨rfl, W0⟩
  ·refine W.condF (congrArg Value.bool (decide_eq_false hc3)) ?_
   refine W.seq ?_
   refine W.region rfl ?_
   refine WL.val (Yl.eql (m := a0) (n := 3) (q := decide (a0 = 3)) rfl rfl rfl) ?_
   refine WL.val (Yl.assign (v := .bool (decide (a0 = 3))) rfl) ?_
   refine WL.done ?_
   rcases iteE H with ⟨hc5, H⟩ | ⟨hc5, H⟩
   ·refine W.condT (congrArg Value.bool (decide_eq_true hc5)) ?_
    refine W.seq ?_
    refine W.region rfl ?_
    refine WL.val (Yl.assign (v := .func (.func 39) #[] #[]) rfl) ?_
    refine WL.done ?_
    refine W.ret ?_
    refine inB_r ?_
    refine thenE_r ?_
    have e6 := Option.some.inj H
    subst e6
    exact post_r (resE1 (t := 2) rfl ((show _ = Value.func (.func 39) #[] #[] from rfl).trans (fnV_eq 39).symm)) ⟨rfl, W0⟩
   ·refine W.condF (congrArg Value.bool (decide_eq_false hc5)) ?_
    refine W.seq ?_
    refine W.region rfl ?_
    refine WL.val (Yl.eql (m := a0) (n := 4) (q := decide (a0 = 4)) rfl rfl rfl) ?_
    refine WL.val (Yl.assign (v := .bool (decide (a0 = 4))) rfl) ?_
    refine WL.done ?_
    rcases iteE H with ⟨hc7, H⟩ | ⟨hc7, H⟩
    ·refine W.condT (congrArg Value.bool (decide_eq_true hc7)) ?_
     refine W.seq ?_
     refine W.region rfl ?_
     refine WL.val (Yl.assign (v := .func (.func 40) #[] #[]) rfl) ?_
     refine WL.done ?_
     refine W.ret ?_
     refine inB_r ?_
     refine thenE_r ?_
     have e8 := Option.some.inj H
     subst e8
     exact post_r (resE1 (t := 2) rfl ((show _ = Value.func (.func 40) #[] #[] from rfl).trans (fnV_eq 40).symm)) ⟨rfl, W0⟩
    ·refine W.condF (congrArg Value.bool (decide_eq_false hc7)) ?_
     refine W.seq ?_
     refine W.region rfl ?_
     refine WL.val (Yl.eql (m := a0) (n := 5) (q := decide (a0 = 5)) rfl rfl rfl) ?_
     refine WL.val (Yl.assign (v := .bool (decide (a0 = 5))) rfl) ?_
     refine WL.done ?_
     rcases iteE H with ⟨hc9, H⟩ | ⟨hc9, H⟩
     ·refine W.condT (congrArg Value.bool (decide_eq_true hc9)) ?_
      refine W.seq ?_
      refine W.region rfl ?_
      refine WL.val (Yl.assign (v := .func (.func 41) #[] #[]) rfl) ?_
      refine WL.done ?_
      refine W.ret ?_
      refine inB_r ?_
      refine thenE_r ?_
      have e10 := Option.some.inj H
      subst e10
      exact post_r (resE1 (t := 2) rfl ((show _ = Value.func (.func 41) #[] #[] from rfl).trans (fnV_eq 41).symm)) ⟨rfl, W0⟩
     ·refine W.condF (congrArg Value.bool (decide_eq_false hc9)) ?_
      refine W.skip ?_
      refine inB_n ?_
      refine W.seq ?_
      refine W.region rfl ?_
      refine WL.val (Yl.assign (v := .func (.func 42) #[] #[]) rfl) ?_
      refine WL.done ?_
      refine W.ret ?_
      have e11 := Option.some.inj H
      subst e11
      exact post_r (resE1 (t := 2) rfl ((show _ = Value.func (.func 42) #[] #[] from rfl).trans (fnV_eq 42).symm)) ⟨rfl, W0⟩
def docket_Apply.f (k : Nat) (a0 : TConfig) (a1 : TState) (a2 : TRecord) : Option (TState × Int) := ((docket_Check.f k a0).bind fun r88 => if r88 = 0 then ((docket_right.f k a0 a1).bind fun r93 => if r93 = true then ((docket_may.f k a2).bind fun r98 => some (!r98)) else (some true)) else (some true)).bind fun x80 => if x80 = true then (some ((⟨([] : List TEra), ([] : List TJob), ([] : List Int), ([] : List Bool), 0⟩ : TState), 1)) else ((docket_clone.f k a1).bind fun r145 => ((docket_what.f k a2.Kind).bind fun r805 => if r805 = 37 then ((docket_work_epoch.f k (⟨a0, r145⟩ : Twork) a2).bind fun ⟨r810, r811⟩ => some (r810, r811)) else (if r805 = 38 then ((docket_work_submit.f k (⟨a0, r145⟩ : Twork) a2).bind fun ⟨r842, r843⟩ => some (r842, r843)) else (if r805 = 39 then ((docket_work_assign.f k (⟨a0, r145⟩ : Twork) a2).bind fun ⟨r874, r875⟩ => some (r874, r875)) else (if r805 = 40 then ((docket_work_vote.f k (⟨a0, r145⟩ : Twork) a2).bind fun ⟨r906, r907⟩ => some (r906, r907)) else (if r805 = 41 then ((docket_work_expire.f k (⟨a0, r145⟩ : Twork) a2).bind fun ⟨r938, r939⟩ => some (r938, r939)) else (if r805 = 42 then ((docket_work_head.f k (⟨a0, r145⟩ : Twork) a2).bind fun ⟨r970, r971⟩ => some (r970, r971)) else (if False then (none) else none))))))).bind fun ⟨x578, x579⟩ => if x578 = 0 then (some (x579.State, 0)) else (some ((⟨([] : List TEra), ([] : List TJob), ([] : List Int), ([] : List Bool), 0⟩ : TState), x578)))
set_option maxRecDepth 100000 in
set_option maxHeartbeats 4000000 in
theorem docket_Apply.calls (k : Nat) (w : World) (F : CH) (a0 : TConfig) (A1 : Option Addr) (c2 : Nat) (n3 : Nat) (A8 : Option Addr) (c9 : Nat) (n10 : Nat) (A15 : Option Addr) (c16 : Nat) (n17 : Nat) (A22 : Option Addr) (c23 : Nat) (n24 : Nat) (a1 : TState) (A30 : Option Addr) (c31 : Nat) (n32 : Nat) (a2 : TRecord) (hp : Pre w F []) (hn4 : n3 = a1.Eras.length) (hl5 : a1.Eras.length ≤ c2) (hm6 : c2 ≤ maxLen) (hS7 : Sl TEra.K F F A1 a1.Eras) (hn11 : n10 = a1.Jobs.length) (hl12 : a1.Jobs.length ≤ c9) (hm13 : c9 ≤ maxLen) (hS14 : Sl TJob.K F F A8 a1.Jobs) (hn18 : n17 = a1.Used.length) (hl19 : a1.Used.length ≤ c16) (hm20 : c16 ≤ maxLen) (hS21 : Sl (Kd.int .i64) F F A15 a1.Used) (hn25 : n24 = a1.Barred.length) (hl26 : a1.Barred.length ≤ c23) (hm27 : c23 ≤ maxLen) (hS28 : Sl Kd.bool F F A22 a1.Barred) (ha29 : a2.Nonce.length = 32) (hn33 : n32 = a2.Data.length) (hl34 : a2.Data.length ≤ c31) (hm35 : c31 ≤ maxLen) (hS36 : Sl (Kd.int .u8) F F A30 a2.Data) (r0_ : TState) (r1_ : Int) (H : docket_Apply.f k a0 a1 a2 = some (r0_, r1_)) :
    Calls Try.prog 14 #[.agg (List.toArray [.int .i64 a0.Faulty, .int .i64 a0.Workers, .int .i64 a0.Height, .int .i64 a0.Bits, .int .i64 a0.Jobs, .int .i64 a0.Term, .int .i64 a0.Heads]), .agg (List.toArray [.slice A1 n3 c2, .slice A8 n10 c9, .slice A15 n17 c16, .slice A22 n24 c23, .int .i64 a1.Heads]), .agg (List.toArray ([.int .i64 a2.Kind, .int .i64 a2.Epoch] ++ (a2.Nonce.map (Value.int .u8) ++ [.slice A30 n32 c31, .int .i64 a2.Job, .int .i64 a2.Time, .int .i64 a2.By])))] w fun e w' => ∃ (F' : CH) (A1016 : Option Addr) (c1017 : Nat) (n1018 : Nat) (p1020 : CH) (A1022 : Option Addr) (c1023 : Nat) (n1024 : Nat) (p1026 : CH) (A1028 : Option Addr) (c1029 : Nat) (n1030 : Nat) (p1032 : CH) (A1034 : Option Addr) (c1035 : Nat) (n1036 : Nat) (p1038 : CH), e = .returned (.tuple #[(.agg (List.toArray [.slice A1016 n1018 c1017, .slice A1022 n1024 c1023, .slice A1028 n1030 c1029, .slice A1034 n1036 c1035, .int .i64 r0_.Heads])), (.int .i64 r1_)]) ∧ CH.le F F' ∧ Ctx w F (domL []) w' F' [p1020, p1026, p1032, p1038] ∧ n1018 = r0_.Eras.length ∧ Row TEra.K F' p1020 (.slice A1016 n1018 c1017) r0_.Eras ∧ n1024 = r0_.Jobs.length ∧ Row TJob.K F' p1026 (.slice A1022 n1024 c1023) r0_.Jobs ∧ n1030 = r0_.Used.length ∧ Row (Kd.int .i64) F' p1032 (.slice A1028 n1030 c1029) r0_.Used ∧ n1036 = r0_.Barred.length ∧ Row Kd.bool F' p1038 (.slice A1034 n1036 c1035) r0_.Barred := by
 have C := Ctx.start hp
 generalize hD : domL [] = D at C ⊢
 unfold docket_Apply.f at H
 refine Calls.ofW Try.func14 rfl (by simp [Try.ntmps14]) ?_
 refine W.seq ?_
 refine W.region rfl ?_
 let q1 : List Go.Value := [.int .i64 a0.Faulty, .int .i64 a0.Workers, .int .i64 a0.Height, .int .i64 a0.Bits, .int .i64 a0.Jobs, .int .i64 a0.Term, .int .i64 a0.Heads]
 obtain ⟨g37, w38, hy39, C40⟩ := ev_box (P := Try.prog) 23 (.agg (List.toArray q1)) q1 C rfl
 refine WL.val (hy39 _ _ _ rfl) ?_
 let q2 : List Go.Value := [.slice A1 n3 c2, .slice A8 n10 c9, .slice A15 n17 c16, .slice A22 n24 c23, .int .i64 a1.Heads]
 obtain ⟨g41, w42, hy43, C44⟩ := ev_box (P := Try.prog) 32 (.agg (List.toArray q2)) q2 C40 rfl
 refine WL.val (hy43 _ _ _ rfl) ?_
 obtain ⟨g45, w46, hy47, C48⟩ := ev_box (P := Try.prog) 46 (.agg (List.toArray ([.int .i64 a2.Kind, .int .i64 a2.Epoch] ++ (a2.Nonce.map (Value.int .u8) ++ [.slice A30 n32 c31, .int .i64 a2.Job, .int .i64 a2.Time, .int .i64 a2.By])))) ([.int .i64 a2.Kind, .int .i64 a2.Epoch] ++ (a2.Nonce.map (Value.int .u8) ++ [.slice A30 n32 c31, .int .i64 a2.Job, .int .i64 a2.Time, .int .i64 a2.By])) C44 rfl
 refine WL.val (hy47 _ _ _ rfl) ?_
 let q3 : List Go.Value := [.slice none 0 0, .slice none 0 0, .slice none 0 0, .slice none 0 0, .int .i64 0]
 obtain ⟨g49, w50, hy51, C52⟩ := ev_alloc (P := Try.prog) (e := 32) q3 C48 zr32 rfl
 refine WL.val (hy51 _ _) ?_
 refine WL.val (Yl.assign (v := .int .i64 0) rfl) ?_
 refine WL.done ?_
 refine W.seq ?_
 refine W.seq ?_
 obtain ⟨x80, hX82, H⟩ := bindE H
 refine W.cutM (fun env_ w_ => env_ 3 = .pointer (some ⟨g37, 0, none⟩) ∧ env_ 4 = .pointer (some ⟨g41, 0, none⟩) ∧ env_ 5 = .pointer (some ⟨g45, 0, none⟩) ∧ env_ 6 = .pointer (some ⟨g49, 0, none⟩) ∧ env_ 23 = .bool x80 ∧ Ctx w F D w_ F [CH.row g49 0 q3, CH.row g45 0 ([.int .i64 a2.Kind, .int .i64 a2.Epoch] ++ (a2.Nonce.map (Value.int .u8) ++ [.slice A30 n32 c31, .int .i64 a2.Job, .int .i64 a2.Time, .int .i64 a2.By])), CH.row g41 0 q2, CH.row g37 0 q1]) ?_ ?_
 ·refine W.region rfl ?_
  refine WL.val (Yl.loadVA (g := g37) (off := 0) (o := 0) (cs := q1) (us := [.int .i64 a0.Faulty, .int .i64 a0.Workers, .int .i64 a0.Height, .int .i64 a0.Bits, .int .i64 a0.Jobs, .int .i64 a0.Term, .int .i64 a0.Heads]) rfl Try.underlying23 rfl sz23 (Ctx.subI 3 C52 rfl) rfl) ?_
  obtain ⟨r88, hg87, hX82⟩ := bindE hX82
  refine WL.callH (docket_Check.calls k _ F a0 (Ctx.pre (qs := []) (rest := [CH.row g49 0 q3, CH.row g45 0 ([.int .i64 a2.Kind, .int .i64 a2.Epoch] ++ (a2.Nonce.map (Value.int .u8) ++ [.slice A30 n32 c31, .int .i64 a2.Job, .int .i64 a2.Time, .int .i64 a2.By])), CH.row g41 0 q2, CH.row g37 0 q1]) C52)  r88 hg87) (Yenter.fn Try.func12 (by kernel_rfl) rfl (argsE (.cons rfl .nil))) ?_
  rintro e_ w_ ⟨rfl, C89⟩
  refine ⟨_, rfl, ?_⟩
  have C90 : Ctx _ _ _ _ _ [CH.row g49 0 q3, CH.row g45 0 ([.int .i64 a2.Kind, .int .i64 a2.Epoch] ++ (a2.Nonce.map (Value.int .u8) ++ [.slice A30 n32 c31, .int .i64 a2.Job, .int .i64 a2.Time, .int .i64 a2.By])), CH.row g41 0 q2, CH.row g37 0 q1] := Ctx.call (qs := []) (rest := [CH.row g49 0 q3, CH.row g45 0 ([.int .i64 a2.Kind, .int .i64 a2.Epoch] ++ (a2.Nonce.map (Value.int .u8) ++ [.slice A30 n32 c31, .int .i64 a2.Job, .int .i64 a2.Time, .int .i64 a2.By])), CH.row g41 0 q2, CH.row g37 0 q1]) C52 C89
  refine WL.val (Yl.neq (m := r88) (n := 0) (q := !decide (r88 = 0)) rfl rfl rfl) ?_
  refine WL.val (Yl.move (v := .bool (!decide (r88 = 0))) rfl) ?_
  rcases iteE hX82 with ⟨hc91, hX82⟩ | ⟨hc91, hX82⟩
  ·refine WL.valOn rfl (congrArg Value.bool (ndec_t hc91)) (Yl.loadVA (g := g37) (off := 0) (o := 0) (cs := q1) (us := [.int .i64 a0.Faulty, .int .i64 a0.Workers, .int .i64 a0.Height, .int .i64 a0.Bits, .int .i64 a0.Jobs, .int .i64 a0.Term, .int .i64 a0.Heads]) rfl Try.underlying23 rfl sz23 (Ctx.subI 3 C90 rfl) rfl) ?_
   refine WL.valOn rfl (congrArg Value.bool (ndec_t hc91)) (Yl.loadVA (g := g41) (off := 0) (o := 0) (cs := q2) (us := [.slice A1 n3 c2, .slice A8 n10 c9, .slice A15 n17 c16, .slice A22 n24 c23, .int .i64 a1.Heads]) rfl Try.underlying32 rfl sz32 (Ctx.subI 2 C90 rfl) rfl) ?_
   refine WL.on rfl (congrArg Value.bool (ndec_t hc91)) ?_
   obtain ⟨r93, hg92, hX82⟩ := bindE hX82
   refine WL.callH (docket_right.calls k _ F a0 A1 c2 n3 A8 c9 n10 A15 c16 n17 A22 c23 n24 a1 (Ctx.pre (qs := []) (rest := [CH.row g49 0 q3, CH.row g45 0 ([.int .i64 a2.Kind, .int .i64 a2.Epoch] ++ (a2.Nonce.map (Value.int .u8) ++ [.slice A30 n32 c31, .int .i64 a2.Job, .int .i64 a2.Time, .int .i64 a2.By])), CH.row g41 0 q2, CH.row g37 0 q1]) C90) hn4 hl5 hm6 hS7 hn11 hl12 hm13 hS14 hn18 hl19 hm20 hS21 hn25 hl26 hm27 hS28 r93 hg92) (Yenter.fn Try.func28 (by kernel_rfl) rfl (argsE (.cons rfl (.cons rfl .nil)))) ?_
   rintro e_ w_ ⟨rfl, C94⟩
   refine ⟨_, rfl, ?_⟩
   have C95 : Ctx _ _ _ _ _ [CH.row g49 0 q3, CH.row g45 0 ([.int .i64 a2.Kind, .int .i64 a2.Epoch] ++ (a2.Nonce.map (Value.int .u8) ++ [.slice A30 n32 c31, .int .i64 a2.Job, .int .i64 a2.Time, .int .i64 a2.By])), CH.row g41 0 q2, CH.row g37 0 q1] := Ctx.call (qs := []) (rest := [CH.row g49 0 q3, CH.row g45 0 ([.int .i64 a2.Kind, .int .i64 a2.Epoch] ++ (a2.Nonce.map (Value.int .u8) ++ [.slice A30 n32 c31, .int .i64 a2.Job, .int .i64 a2.Time, .int .i64 a2.By])), CH.row g41 0 q2, CH.row g37 0 q1]) C90 C94
   refine WL.valOn rfl (congrArg Value.bool (ndec_t hc91)) (Yl.not (p := r93) (q := !r93) rfl rfl) ?_
   refine WL.val (Yl.pickF (v := .bool (!r93)) (congrArg Value.bool (ndec_t hc91)) rfl) ?_
   refine WL.val (Yl.move (v := .bool (!r93)) rfl) ?_
   rcases iteE hX82 with ⟨hc96, hX82⟩ | ⟨hc96, hX82⟩
   ·refine WL.valOn rfl (congrArg Value.bool (nb_t hc96)) (Yl.loadVA (g := g45) (off := 0) (o := 0) (cs := [.int .i64 a2.Kind, .int .i64 a2.Epoch] ++ (a2.Nonce.map (Value.int .u8) ++ [.slice A30 n32 c31, .int .i64 a2.Job, .int .i64 a2.Time, .int .i64 a2.By])) (us := [.int .i64 a2.Kind, .int .i64 a2.Epoch] ++ (a2.Nonce.map (Value.int .u8) ++ [.slice A30 n32 c31, .int .i64 a2.Job, .int .i64 a2.Time, .int .i64 a2.By])) rfl Try.underlying46 rfl (sz_of sz46 (by first | (simp only [List.length_append, List.length_map, List.length_cons, List.length_nil, ha29]; done) | simp [ha29])) (Ctx.subI 1 C95 rfl) (take_all _)) ?_
    refine WL.on rfl (congrArg Value.bool (nb_t hc96)) ?_
    obtain ⟨r98, hg97, hX82⟩ := bindE hX82
    refine WL.callH (docket_may.calls k _ F A30 c31 n32 a2 (Ctx.pre (qs := []) (rest := [CH.row g49 0 q3, CH.row g45 0 ([.int .i64 a2.Kind, .int .i64 a2.Epoch] ++ (a2.Nonce.map (Value.int .u8) ++ [.slice A30 n32 c31, .int .i64 a2.Job, .int .i64 a2.Time, .int .i64 a2.By])), CH.row g41 0 q2, CH.row g37 0 q1]) C95) ha29 hn33 hl34 hm35 hS36 r98 hg97) (Yenter.fn Try.func29 (by kernel_rfl) rfl (argsE (.cons rfl .nil))) ?_
    rintro e_ w_ ⟨rfl, C99⟩
    refine ⟨_, rfl, ?_⟩
    have C100 : Ctx _ _ _ _ _ [CH.row g49 0 q3, CH.row g45 0 ([.int .i64 a2.Kind, .int .i64 a2.Epoch] ++ (a2.Nonce.map (Value.int .u8) ++ [.slice A30 n32 c31, .int .i64 a2.Job, .int .i64 a2.Time, .int .i64 a2.By])), CH.row g41 0 q2, CH.row g37 0 q1] := Ctx.call (qs := []) (rest := [CH.row g49 0 q3, CH.row g45 0 ([.int .i64 a2.Kind, .int .i64 a2.Epoch] ++ (a2.Nonce.map (Value.int .u8) ++ [.slice A30 n32 c31, .int .i64 a2.Job, .int .i64 a2.Time, .int .i64 a2.By])), CH.row g41 0 q2, CH.row g37 0 q1]) C95 C99
    refine WL.valOn rfl (congrArg Value.bool (nb_t hc96)) (Yl.not (p := r98) (q := !r98) rfl rfl) ?_
    refine WL.val (Yl.pickF (v := .bool (!r98)) (congrArg Value.bool (nb_t hc96)) rfl) ?_
    refine WL.done ?_
    cases hX82
    refine thenE_n ?_
    exact ⟨rfl, rfl, rfl, rfl, rfl, C100⟩
   ·refine WL.offs 3 19 false (congrArg Value.bool (nb_f hc96)) rfl ?_
    refine WL.val (Yl.pickT (v := .bool true) (congrArg Value.bool (nb_f hc96)) rfl) ?_
    refine WL.done ?_
    cases hX82
    refine thenE_n ?_
    exact ⟨rfl, rfl, rfl, rfl, rfl, C95⟩
  ·refine WL.offs 4 13 false (congrArg Value.bool (ndec_f hc91)) rfl ?_
   refine WL.val (Yl.pickT (v := .bool true) (congrArg Value.bool (ndec_f hc91)) rfl) ?_
   refine WL.val (Yl.move (v := .bool true) rfl) ?_
   refine WL.offs 3 19 false rfl rfl ?_
   refine WL.val (Yl.pickT (v := .bool true) rfl rfl) ?_
   refine WL.done ?_
   cases hX82
   refine thenE_n ?_
   exact ⟨rfl, rfl, rfl, rfl, rfl, C90⟩
 ·rintro env_ w_ ⟨ho75, ho76, ho77, ho78, ho79, C81⟩
  rcases iteE H with ⟨hc101, H⟩ | ⟨hc101, H⟩
  ·refine W.condT (ho79.trans (congrArg Value.bool hc101)) ?_
   refine W.seq ?_
   refine W.region rfl ?_
   refine WL.val (Yl.build (places := [(0, 1), (1, 1), (2, 1), (3, 1), (4, 1)]) (cs := List.toArray q3) Try.underlying32 zr32 (pl32 _ Try.underlying32) (partsB .nil) rfl) ?_
   obtain ⟨w102, hy103, C104⟩ := ev_setI (P := Try.prog) (ps1 := []) (ps2 := [CH.row g45 0 ([.int .i64 a2.Kind, .int .i64 a2.Epoch] ++ (a2.Nonce.map (Value.int .u8) ++ [.slice A30 n32 c31, .int .i64 a2.Job, .int .i64 a2.Time, .int .i64 a2.By])), CH.row g41 0 q2, CH.row g37 0 q1]) (t := 32) 0 q3 (.agg (List.toArray q3)) C81 rfl rfl (ones_of rfl) sz32
   have C105 : Ctx _ _ _ _ _ [CH.row g49 0 q3, CH.row g45 0 ([.int .i64 a2.Kind, .int .i64 a2.Epoch] ++ (a2.Nonce.map (Value.int .u8) ++ [.slice A30 n32 c31, .int .i64 a2.Job, .int .i64 a2.Time, .int .i64 a2.By])), CH.row g41 0 q2, CH.row g37 0 q1] := C104
   refine WL.skip (hy103 _ _ _ _ ho78 rfl) ?_
   refine WL.val (Yl.assign (v := .int .i64 1) rfl) ?_
   refine WL.done ?_
   refine W.ret ?_
   refine thenE_r ?_
   have C106 : Ctx _ _ _ _ _ [CH.emp, CH.emp, CH.emp, CH.emp] := Ctx.pick [4, 4, 4, 4] C105 rfl
   simp only [Option.some.injEq, Prod.mk.injEq] at H
   obtain ⟨e107, e108⟩ := H
   subst e107 e108
   exact post_r (resET rfl ((.cell ho78 (run_loadVA2 (g := g49) (off := 0) (o := 0) (cs := q3) (us := [.slice none 0 0, .slice none 0 0, .slice none 0 0, .slice none 0 0, .int .i64 0]) Try.underlying32 rfl sz32 (Ctx.subI 0 C105 rfl) rfl) (.tmp rfl .nil))) rfl) ⟨F, none, 0, 0, CH.emp, none, 0, 0, CH.emp, none, 0, 0, CH.emp, none, 0, 0, CH.emp, rfl, (CH.le_refl _), C106, rfl, (Row.nil _ _), rfl, (Row.nil _ _), rfl, (Row.nil _ _), rfl, (Row.nil _ _)⟩
  ·refine W.condF (ho79.trans (congrArg Value.bool (Bool.eq_false_iff.2 hc101))) ?_
   refine W.skip ?_
   refine W.seq ?_
   refine W.regionA [([4], CH.row g37 0 q1), ([2, 4], CH.row g41 0 q2)] (by kernel_rfl) ?_
   have C143 := Ctx.drewN C81 1
   refine WA.takes [(0, some 0), (1, some 1)] ⟨(Ctx.subI 3 C143 rfl), (Ctx.subI 2 C143 rfl), trivial⟩ (by kernel_rfl) ?_
   refine WT.val rfl (fun _ hC_ => Yl.loadVA (g := g37) (off := 0) (o := 0) (cs := q1) (us := [.int .i64 a0.Faulty, .int .i64 a0.Workers, .int .i64 a0.Height, .int .i64 a0.Bits, .int .i64 a0.Jobs, .int .i64 a0.Term, .int .i64 a0.Heads]) (by exact ho75) Try.underlying23 rfl sz23 (show Sub (CH.row g37 0 q1) _ from hC_) rfl) ?_
   refine WT.val rfl (fun _ hC_ => Yl.loadVA (g := g41) (off := 0) (o := 0) (cs := q2) (us := [.slice A1 n3 c2, .slice A8 n10 c9, .slice A15 n17 c16, .slice A22 n24 c23, .int .i64 a1.Heads]) (by exact ho76) Try.underlying32 rfl sz32 (show Sub (CH.row g41 0 q2) _ from hC_) rfl) ?_
   refine WT.done ?_
   obtain ⟨r145, hg144, H⟩ := bindE H
   refine WA.up1 2 (by kernel_rfl) (Up.callH rfl (by kernel_rfl) rfl (docket_clone.calls k _ F A1 c2 n3 A8 c9 n10 A15 c16 n17 A22 c23 n24 a1 (Ctx.pre (qs := []) (rest := [CH.row g49 0 q3, CH.row g45 0 ([.int .i64 a2.Kind, .int .i64 a2.Epoch] ++ (a2.Nonce.map (Value.int .u8) ++ [.slice A30 n32 c31, .int .i64 a2.Job, .int .i64 a2.Time, .int .i64 a2.By])), CH.row g41 0 q2, CH.row g37 0 q1]) C143) hn4 hl5 hm6 hS7 hn11 hl12 hm13 hS14 hn18 hl19 hm20 hS21 hn25 hl26 hm27 hS28 r145 hg144) (Yenter.fn Try.func30 (by kernel_rfl) rfl (argsE (.cons rfl .nil))) ?_)
   rintro e_ w_ ⟨F146, A148, c149, n150, p152, A154, c155, n156, p158, A160, c161, n162, p164, A166, c167, n168, p170, rfl, le147, C172, hn151, hR153, hn157, hR159, hn163, hR165, hn169, hR171⟩
   have C173 : Ctx _ _ _ _ _ [p152, p158, p164, p170, CH.row g49 0 q3, CH.row g45 0 ([.int .i64 a2.Kind, .int .i64 a2.Epoch] ++ (a2.Nonce.map (Value.int .u8) ++ [.slice A30 n32 c31, .int .i64 a2.Job, .int .i64 a2.Time, .int .i64 a2.By])), CH.row g41 0 q2, CH.row g37 0 q1] := Ctx.call (qs := []) (rest := [CH.row g49 0 q3, CH.row g45 0 ([.int .i64 a2.Kind, .int .i64 a2.Epoch] ++ (a2.Nonce.map (Value.int .u8) ++ [.slice A30 n32 c31, .int .i64 a2.Job, .int .i64 a2.Time, .int .i64 a2.By])), CH.row g41 0 q2, CH.row g37 0 q1]) C143 C172
   refine ⟨_, rfl, ⟨(Ctx.subI 7 C173 rfl), trivial, trivial⟩, ?_⟩
   let q4 : List Go.Value := [.int .i64 a0.Faulty, .int .i64 a0.Workers, .int .i64 a0.Height, .int .i64 a0.Bits, .int .i64 a0.Jobs, .int .i64 a0.Term, .int .i64 a0.Heads, .slice A148 n150 c149, .slice A154 n156 c155, .slice A160 n162 c161, .slice A166 n168 c167, .int .i64 r145.Heads]
   refine WA.take none [] 3 rfl (by kernel_rfl) (by kernel_rfl) rfl trivial ⟨(Ctx.subI 7 C173 rfl), trivial, trivial⟩ (fun _ hC_ => Yl.build (places := [(0, 7), (7, 5)]) (cs := List.toArray q4) Try.underlying75 zr75 (pl75 _ Try.underlying75) (partsB (.cons rfl (.cons rfl .nil))) (Fills.run (a := [.int .i64 0, .int .i64 0, .int .i64 0, .int .i64 0, .int .i64 0, .int .i64 0, .int .i64 0, .slice none 0 0, .slice none 0 0, .slice none 0 0, .slice none 0 0, .int .i64 0]) (c := [.int .i64 a0.Faulty, .int .i64 a0.Workers, .int .i64 a0.Height, .int .i64 a0.Bits, .int .i64 a0.Jobs, .int .i64 a0.Term, .int .i64 a0.Heads, .slice A148 n150 c149, .slice A154 n156 c155, .slice A160 n162 c161, .slice A166 n168 c167, .int .i64 r145.Heads]) (.seg (off := 0) (n := 7) (us := [.int .i64 a0.Faulty, .int .i64 a0.Workers, .int .i64 a0.Height, .int .i64 a0.Bits, .int .i64 a0.Jobs, .int .i64 a0.Term, .int .i64 a0.Heads]) (b := [.int .i64 a0.Faulty, .int .i64 a0.Workers, .int .i64 a0.Height, .int .i64 a0.Bits, .int .i64 a0.Jobs, .int .i64 a0.Term, .int .i64 a0.Heads, .slice none 0 0, .slice none 0 0, .slice none 0 0, .slice none 0 0, .int .i64 0]) (pre := []) (z := [.int .i64 0, .int .i64 0, .int .i64 0, .int .i64 0, .int .i64 0, .int .i64 0, .int .i64 0]) (post := [.slice none 0 0, .slice none 0 0, .slice none 0 0, .slice none 0 0, .int .i64 0]) rfl rfl (by simp) (by simp) (by simp) (by simp) (by simp) (.seg (off := 7) (n := 5) (us := [.slice A148 n150 c149, .slice A154 n156 c155, .slice A160 n162 c161, .slice A166 n168 c167, .int .i64 r145.Heads]) (b := [.int .i64 a0.Faulty, .int .i64 a0.Workers, .int .i64 a0.Height, .int .i64 a0.Bits, .int .i64 a0.Jobs, .int .i64 a0.Term, .int .i64 a0.Heads, .slice A148 n150 c149, .slice A154 n156 c155, .slice A160 n162 c161, .slice A166 n168 c167, .int .i64 r145.Heads]) (pre := [.int .i64 a0.Faulty, .int .i64 a0.Workers, .int .i64 a0.Height, .int .i64 a0.Bits, .int .i64 a0.Jobs, .int .i64 a0.Term, .int .i64 a0.Heads]) (z := [.slice none 0 0, .slice none 0 0, .slice none 0 0, .slice none 0 0, .int .i64 0]) (post := []) rfl rfl (by simp) (by simp) (by simp) (by simp) (by simp) .nil)))) ?_
   obtain ⟨g174, w175, hy176, C177⟩ := ev_box (P := Try.prog) 75 (.agg (List.toArray q4)) q4 C173 rfl
   refine WA.up1 4 (by kernel_rfl) (Up.val rfl rfl rfl (hy176 _ _ _ rfl) ⟨trivial, trivial, trivial⟩ ?_)
   refine WA.take none [] 5 rfl (by kernel_rfl) (by kernel_rfl) rfl trivial ⟨trivial, trivial, trivial⟩ (fun _ hC_ => Yl.assign (v := .pointer (some ⟨g174, 0, none⟩)) rfl) ?_
   refine WA.done (by kernel_rfl) ?_
   refine W.seq ?_
   refine W.seq ?_
   obtain ⟨⟨x578, x579⟩, hX605, H⟩ := bindE H
   refine W.cutM (fun env_ w_ => ∃ (F573 : CH) (A580 : Option Addr) (c581 : Nat) (n582 : Nat) (p584 : CH) (A586 : Option Addr) (c587 : Nat) (n588 : Nat) (p590 : CH) (A592 : Option Addr) (c593 : Nat) (n594 : Nat) (p596 : CH) (A598 : Option Addr) (c599 : Nat) (n600 : Nat) (p602 : CH), env_ 6 = .pointer (some ⟨g49, 0, none⟩) ∧ env_ 8 = .pointer (some ⟨g174, 0, none⟩) ∧ env_ 9 = .int .i64 x578 ∧ Ctx w F D w_ F573 [CH.row g174 0 [.int .i64 x579.c.Faulty, .int .i64 x579.c.Workers, .int .i64 x579.c.Height, .int .i64 x579.c.Bits, .int .i64 x579.c.Jobs, .int .i64 x579.c.Term, .int .i64 x579.c.Heads, .slice A580 n582 c581, .slice A586 n588 c587, .slice A592 n594 c593, .slice A598 n600 c599, .int .i64 x579.State.Heads], p584, p590, p596, p602, CH.row g49 0 q3, CH.row g45 0 ([.int .i64 a2.Kind, .int .i64 a2.Epoch] ++ (a2.Nonce.map (Value.int .u8) ++ [.slice A30 n32 c31, .int .i64 a2.Job, .int .i64 a2.Time, .int .i64 a2.By])), CH.row g41 0 q2, CH.row g37 0 q1] ∧ CH.le F146 F573 ∧ n582 = x579.State.Eras.length ∧ Row TEra.K F573 p584 (.slice A580 n582 c581) x579.State.Eras ∧ n588 = x579.State.Jobs.length ∧ Row TJob.K F573 p590 (.slice A586 n588 c587) x579.State.Jobs ∧ n594 = x579.State.Used.length ∧ Row (Kd.int .i64) F573 p596 (.slice A592 n594 c593) x579.State.Used ∧ n600 = x579.State.Barred.length ∧ Row Kd.bool F573 p602 (.slice A598 n600 c599) x579.State.Barred) ?_ ?_
   ·refine W.regionA [([5], CH.row g45 0 ([.int .i64 a2.Kind, .int .i64 a2.Epoch] ++ (a2.Nonce.map (Value.int .u8) ++ [.slice A30 n32 c31, .int .i64 a2.Job, .int .i64 a2.Time, .int .i64 a2.By])))] (by kernel_rfl) ?_
    have C803 := Ctx.drewN C177 1
    refine WA.takes [(0, none), (1, some 0), (3, none), (4, some 0)] ⟨(Ctx.subI 6 C803 rfl), trivial⟩ (by kernel_rfl) ?_
    refine WT.val rfl (fun _ hC_ => Yl.fieldAddr (i := 0) (by exact ho77) Try.underlying46 rfl sz3) ?_
    refine WT.val rfl (fun _ hC_ => Yl.loadV (g := g45) (off := 0) (o := 0) (cs := [.int .i64 a2.Kind, .int .i64 a2.Epoch] ++ (a2.Nonce.map (Value.int .u8) ++ [.slice A30 n32 c31, .int .i64 a2.Job, .int .i64 a2.Time, .int .i64 a2.By])) (v := .int .i64 a2.Kind) rfl Try.underlying3 rfl (show Sub (CH.row g45 0 ([.int .i64 a2.Kind, .int .i64 a2.Epoch] ++ (a2.Nonce.map (Value.int .u8) ++ [.slice A30 n32 c31, .int .i64 a2.Job, .int .i64 a2.Time, .int .i64 a2.By]))) _ from hC_) (by simp [List.getElem?_append, ha29])) ?_
    refine WT.val rfl (fun _ hC_ => Yl.move (v := .pointer (some ⟨g174, 0, none⟩)) rfl) ?_
    refine WT.val rfl (fun _ hC_ => Yl.loadVA (g := g45) (off := 0) (o := 0) (cs := [.int .i64 a2.Kind, .int .i64 a2.Epoch] ++ (a2.Nonce.map (Value.int .u8) ++ [.slice A30 n32 c31, .int .i64 a2.Job, .int .i64 a2.Time, .int .i64 a2.By])) (us := [.int .i64 a2.Kind, .int .i64 a2.Epoch] ++ (a2.Nonce.map (Value.int .u8) ++ [.slice A30 n32 c31, .int .i64 a2.Job, .int .i64 a2.Time, .int .i64 a2.By])) (by exact ho77) Try.underlying46 rfl (sz_of sz46 (by first | (simp only [List.length_append, List.length_map, List.length_cons, List.length_nil, ha29]; done) | simp [ha29])) (show Sub (CH.row g45 0 ([.int .i64 a2.Kind, .int .i64 a2.Epoch] ++ (a2.Nonce.map (Value.int .u8) ++ [.slice A30 n32 c31, .int .i64 a2.Job, .int .i64 a2.Time, .int .i64 a2.By]))) _ from hC_) (take_all _)) ?_
    refine WT.done ?_
    obtain ⟨r805, hg804, hX605⟩ := bindE hX605
    refine WA.up1 2 (by kernel_rfl) (Up.callH rfl (by kernel_rfl) rfl (docket_what.calls k _ F146 a2.Kind C803.pre0  r805 hg804) (Yenter.fn Try.func31 (by kernel_rfl) rfl (argsE (.cons rfl .nil))) ?_)
    rintro e_ w_ ⟨rfl, ⟨m806, rfl⟩⟩
    have C807 := Ctx.drewN C803 m806
    refine ⟨_, rfl, ⟨(Ctx.subI 6 C807 rfl), trivial⟩, ?_⟩
    rcases iteE hX605 with ⟨hc808, hX605⟩ | ⟨hc808, hX605⟩
    ·obtain ⟨⟨r810, r811⟩, hg809, hX605⟩ := bindE hX605
     refine WA.up1 5 (by kernel_rfl) (Up.callH rfl (by kernel_rfl) rfl (docket_work_epoch.calls k _ F146 g174 0 A148 c149 n150 p152 A154 c155 n156 p158 A160 c161 n162 p164 A166 c167 n168 p170 (⟨a0, r145⟩ : Twork) A30 c31 n32 a2 (Ctx.pre (qs := [CH.row g174 0 q4, p152, p158, p164, p170]) (rest := [CH.row g49 0 q3, CH.row g45 0 ([.int .i64 a2.Kind, .int .i64 a2.Epoch] ++ (a2.Nonce.map (Value.int .u8) ++ [.slice A30 n32 c31, .int .i64 a2.Job, .int .i64 a2.Time, .int .i64 a2.By])), CH.row g41 0 q2, CH.row g37 0 q1]) C807) hn151 hR153 hn157 hR159 hn163 hR165 hn169 hR171 ha29 hn33 hl34 hm35 (Sl.mono hS36 le147 le147) r810 r811 hg809) (Yenter.fnT (fnV_of 37 hc808) Try.func37 (by kernel_rfl) rfl (argsE (.cons rfl (.cons rfl .nil)))) ?_)
     rintro e_ w_ ⟨F812, A814, c815, n816, p818, A820, c821, n822, p824, A826, c827, n828, p830, A832, c833, n834, p836, rfl, le813, C838, hn817, hR819, hn823, hR825, hn829, hR831, hn835, hR837⟩
     let q5 : List Go.Value := [.int .i64 r811.c.Faulty, .int .i64 r811.c.Workers, .int .i64 r811.c.Height, .int .i64 r811.c.Bits, .int .i64 r811.c.Jobs, .int .i64 r811.c.Term, .int .i64 r811.c.Heads, .slice A814 n816 c815, .slice A820 n822 c821, .slice A826 n828 c827, .slice A832 n834 c833, .int .i64 r811.State.Heads]
     have C839 : Ctx _ _ _ _ _ [CH.row g174 0 q5, p818, p824, p830, p836, CH.row g49 0 q3, CH.row g45 0 ([.int .i64 a2.Kind, .int .i64 a2.Epoch] ++ (a2.Nonce.map (Value.int .u8) ++ [.slice A30 n32 c31, .int .i64 a2.Job, .int .i64 a2.Time, .int .i64 a2.By])), CH.row g41 0 q2, CH.row g37 0 q1] := Ctx.call (qs := [CH.row g174 0 q4, p152, p158, p164, p170]) (rest := [CH.row g49 0 q3, CH.row g45 0 ([.int .i64 a2.Kind, .int .i64 a2.Epoch] ++ (a2.Nonce.map (Value.int .u8) ++ [.slice A30 n32 c31, .int .i64 a2.Job, .int .i64 a2.Time, .int .i64 a2.By])), CH.row g41 0 q2, CH.row g37 0 q1]) C807 C838
     refine ⟨_, rfl, ⟨trivial, trivial⟩, ?_⟩
     refine WA.take none [] 6 rfl (by kernel_rfl) (by kernel_rfl) rfl trivial ⟨trivial, trivial⟩ (fun _ hC_ => Yl.assign (v := .int .i64 r810) rfl) ?_
     refine WA.done (by kernel_rfl) ?_
     cases hX605
     refine thenE_n ?_
     exact ⟨F812, A814, c815, n816, p818, A820, c821, n822, p824, A826, c827, n828, p830, A832, c833, n834, p836, ho78, rfl, rfl, C839, le813, hn817, hR819, hn823, hR825, hn829, hR831, hn835, hR837⟩
    ·rcases iteE hX605 with ⟨hc840, hX605⟩ | ⟨hc840, hX605⟩
     ·obtain ⟨⟨r842, r843⟩, hg841, hX605⟩ := bindE hX605
      refine WA.up1 5 (by kernel_rfl) (Up.callH rfl (by kernel_rfl) rfl (docket_work_submit.calls k _ F146 g174 0 A148 c149 n150 p152 A154 c155 n156 p158 A160 c161 n162 p164 A166 c167 n168 p170 (⟨a0, r145⟩ : Twork) A30 c31 n32 a2 (Ctx.pre (qs := [CH.row g174 0 q4, p152, p158, p164, p170]) (rest := [CH.row g49 0 q3, CH.row g45 0 ([.int .i64 a2.Kind, .int .i64 a2.Epoch] ++ (a2.Nonce.map (Value.int .u8) ++ [.slice A30 n32 c31, .int .i64 a2.Job, .int .i64 a2.Time, .int .i64 a2.By])), CH.row g41 0 q2, CH.row g37 0 q1]) C807) hn151 hR153 hn157 hR159 hn163 hR165 hn169 hR171 ha29 hn33 hl34 hm35 (Sl.mono hS36 le147 le147) r842 r843 hg841) (Yenter.fnT (fnV_of 38 hc840) Try.func38 (by kernel_rfl) rfl (argsE (.cons rfl (.cons rfl .nil)))) ?_)
      rintro e_ w_ ⟨F844, A846, c847, n848, p850, A852, c853, n854, p856, A858, c859, n860, p862, A864, c865, n866, p868, rfl, le845, C870, hn849, hR851, hn855, hR857, hn861, hR863, hn867, hR869⟩
      let q6 : List Go.Value := [.int .i64 r843.c.Faulty, .int .i64 r843.c.Workers, .int .i64 r843.c.Height, .int .i64 r843.c.Bits, .int .i64 r843.c.Jobs, .int .i64 r843.c.Term, .int .i64 r843.c.Heads, .slice A846 n848 c847, .slice A852 n854 c853, .slice A858 n860 c859, .slice A864 n866 c865, .int .i64 r843.State.Heads]
      have C871 : Ctx _ _ _ _ _ [CH.row g174 0 q6, p850, p856, p862, p868, CH.row g49 0 q3, CH.row g45 0 ([.int .i64 a2.Kind, .int .i64 a2.Epoch] ++ (a2.Nonce.map (Value.int .u8) ++ [.slice A30 n32 c31, .int .i64 a2.Job, .int .i64 a2.Time, .int .i64 a2.By])), CH.row g41 0 q2, CH.row g37 0 q1] := Ctx.call (qs := [CH.row g174 0 q4, p152, p158, p164, p170]) (rest := [CH.row g49 0 q3, CH.row g45 0 ([.int .i64 a2.Kind, .int .i64 a2.Epoch] ++ (a2.Nonce.map (Value.int .u8) ++ [.slice A30 n32 c31, .int .i64 a2.Job, .int .i64 a2.Time, .int .i64 a2.By])), CH.row g41 0 q2, CH.row g37 0 q1]) C807 C870
      refine ⟨_, rfl, ⟨trivial, trivial⟩, ?_⟩
      refine WA.take none [] 6 rfl (by kernel_rfl) (by kernel_rfl) rfl trivial ⟨trivial, trivial⟩ (fun _ hC_ => Yl.assign (v := .int .i64 r842) rfl) ?_
      refine WA.done (by kernel_rfl) ?_
      cases hX605
      refine thenE_n ?_
      exact ⟨F844, A846, c847, n848, p850, A852, c853, n854, p856, A858, c859, n860, p862, A864, c865, n866, p868, ho78, rfl, rfl, C871, le845, hn849, hR851, hn855, hR857, hn861, hR863, hn867, hR869⟩
     ·rcases iteE hX605 with ⟨hc872, hX605⟩ | ⟨hc872, hX605⟩
      ·obtain ⟨⟨r874, r875⟩, hg873, hX605⟩ := bindE hX605
       refine WA.up1 5 (by kernel_rfl) (Up.callH rfl (by kernel_rfl) rfl (docket_work_assign.calls k _ F146 g174 0 A148 c149 n150 p152 A154 c155 n156 p158 A160 c161 n162 p164 A166 c167 n168 p170 (⟨a0, r145⟩ : Twork) A30 c31 n32 a2 (Ctx.pre (qs := [CH.row g174 0 q4, p152, p158, p164, p170]) (rest := [CH.row g49 0 q3, CH.row g45 0 ([.int .i64 a2.Kind, .int .i64 a2.Epoch] ++ (a2.Nonce.map (Value.int .u8) ++ [.slice A30 n32 c31, .int .i64 a2.Job, .int .i64 a2.Time, .int .i64 a2.By])), CH.row g41 0 q2, CH.row g37 0 q1]) C807) hn151 hR153 hn157 hR159 hn163 hR165 hn169 hR171 ha29 hn33 hl34 hm35 (Sl.mono hS36 le147 le147) r874 r875 hg873) (Yenter.fnT (fnV_of 39 hc872) Try.func39 (by kernel_rfl) rfl (argsE (.cons rfl (.cons rfl .nil)))) ?_)
       rintro e_ w_ ⟨F876, A878, c879, n880, p882, A884, c885, n886, p888, A890, c891, n892, p894, A896, c897, n898, p900, rfl, le877, C902, hn881, hR883, hn887, hR889, hn893, hR895, hn899, hR901⟩
       let q7 : List Go.Value := [.int .i64 r875.c.Faulty, .int .i64 r875.c.Workers, .int .i64 r875.c.Height, .int .i64 r875.c.Bits, .int .i64 r875.c.Jobs, .int .i64 r875.c.Term, .int .i64 r875.c.Heads, .slice A878 n880 c879, .slice A884 n886 c885, .slice A890 n892 c891, .slice A896 n898 c897, .int .i64 r875.State.Heads]
       have C903 : Ctx _ _ _ _ _ [CH.row g174 0 q7, p882, p888, p894, p900, CH.row g49 0 q3, CH.row g45 0 ([.int .i64 a2.Kind, .int .i64 a2.Epoch] ++ (a2.Nonce.map (Value.int .u8) ++ [.slice A30 n32 c31, .int .i64 a2.Job, .int .i64 a2.Time, .int .i64 a2.By])), CH.row g41 0 q2, CH.row g37 0 q1] := Ctx.call (qs := [CH.row g174 0 q4, p152, p158, p164, p170]) (rest := [CH.row g49 0 q3, CH.row g45 0 ([.int .i64 a2.Kind, .int .i64 a2.Epoch] ++ (a2.Nonce.map (Value.int .u8) ++ [.slice A30 n32 c31, .int .i64 a2.Job, .int .i64 a2.Time, .int .i64 a2.By])), CH.row g41 0 q2, CH.row g37 0 q1]) C807 C902
       refine ⟨_, rfl, ⟨trivial, trivial⟩, ?_⟩
       refine WA.take none [] 6 rfl (by kernel_rfl) (by kernel_rfl) rfl trivial ⟨trivial, trivial⟩ (fun _ hC_ => Yl.assign (v := .int .i64 r874) rfl) ?_
       refine WA.done (by kernel_rfl) ?_
       cases hX605
       refine thenE_n ?_
       exact ⟨F876, A878, c879, n880, p882, A884, c885, n886, p888, A890, c891, n892, p894, A896, c897, n898, p900, ho78, rfl, rfl, C903, le877, hn881, hR883, hn887, hR889, hn893, hR895, hn899, hR901⟩
      ·rcases iteE hX605 with ⟨hc904, hX605⟩ | ⟨hc904, hX605⟩
       ·obtain ⟨⟨r906, r907⟩, hg905, hX605⟩ := bindE hX605
        refine WA.up1 5 (by kernel_rfl) (Up.callH rfl (by kernel_rfl) rfl (docket_work_vote.calls k _ F146 g174 0 A148 c149 n150 p152 A154 c155 n156 p158 A160 c161 n162 p164 A166 c167 n168 p170 (⟨a0, r145⟩ : Twork) A30 c31 n32 a2 (Ctx.pre (qs := [CH.row g174 0 q4, p152, p158, p164, p170]) (rest := [CH.row g49 0 q3, CH.row g45 0 ([.int .i64 a2.Kind, .int .i64 a2.Epoch] ++ (a2.Nonce.map (Value.int .u8) ++ [.slice A30 n32 c31, .int .i64 a2.Job, .int .i64 a2.Time, .int .i64 a2.By])), CH.row g41 0 q2, CH.row g37 0 q1]) C807) hn151 hR153 hn157 hR159 hn163 hR165 hn169 hR171 ha29 hn33 hl34 hm35 (Sl.mono hS36 le147 le147) r906 r907 hg905) (Yenter.fnT (fnV_of 40 hc904) Try.func40 (by kernel_rfl) rfl (argsE (.cons rfl (.cons rfl .nil)))) ?_)
        rintro e_ w_ ⟨F908, A910, c911, n912, p914, A916, c917, n918, p920, A922, c923, n924, p926, A928, c929, n930, p932, rfl, le909, C934, hn913, hR915, hn919, hR921, hn925, hR927, hn931, hR933⟩
        let q8 : List Go.Value := [.int .i64 r907.c.Faulty, .int .i64 r907.c.Workers, .int .i64 r907.c.Height, .int .i64 r907.c.Bits, .int .i64 r907.c.Jobs, .int .i64 r907.c.Term, .int .i64 r907.c.Heads, .slice A910 n912 c911, .slice A916 n918 c917, .slice A922 n924 c923, .slice A928 n930 c929, .int .i64 r907.State.Heads]
        have C935 : Ctx _ _ _ _ _ [CH.row g174 0 q8, p914, p920, p926, p932, CH.row g49 0 q3, CH.row g45 0 ([.int .i64 a2.Kind, .int .i64 a2.Epoch] ++ (a2.Nonce.map (Value.int .u8) ++ [.slice A30 n32 c31, .int .i64 a2.Job, .int .i64 a2.Time, .int .i64 a2.By])), CH.row g41 0 q2, CH.row g37 0 q1] := Ctx.call (qs := [CH.row g174 0 q4, p152, p158, p164, p170]) (rest := [CH.row g49 0 q3, CH.row g45 0 ([.int .i64 a2.Kind, .int .i64 a2.Epoch] ++ (a2.Nonce.map (Value.int .u8) ++ [.slice A30 n32 c31, .int .i64 a2.Job, .int .i64 a2.Time, .int .i64 a2.By])), CH.row g41 0 q2, CH.row g37 0 q1]) C807 C934
        refine ⟨_, rfl, ⟨trivial, trivial⟩, ?_⟩
        refine WA.take none [] 6 rfl (by kernel_rfl) (by kernel_rfl) rfl trivial ⟨trivial, trivial⟩ (fun _ hC_ => Yl.assign (v := .int .i64 r906) rfl) ?_
        refine WA.done (by kernel_rfl) ?_
        cases hX605
        refine thenE_n ?_
        exact ⟨F908, A910, c911, n912, p914, A916, c917, n918, p920, A922, c923, n924, p926, A928, c929, n930, p932, ho78, rfl, rfl, C935, le909, hn913, hR915, hn919, hR921, hn925, hR927, hn931, hR933⟩
       ·rcases iteE hX605 with ⟨hc936, hX605⟩ | ⟨hc936, hX605⟩
        ·obtain ⟨⟨r938, r939⟩, hg937, hX605⟩ := bindE hX605
         refine WA.up1 5 (by kernel_rfl) (Up.callH rfl (by kernel_rfl) rfl (docket_work_expire.calls k _ F146 g174 0 A148 c149 n150 p152 A154 c155 n156 p158 A160 c161 n162 p164 A166 c167 n168 p170 (⟨a0, r145⟩ : Twork) A30 c31 n32 a2 (Ctx.pre (qs := [CH.row g174 0 q4, p152, p158, p164, p170]) (rest := [CH.row g49 0 q3, CH.row g45 0 ([.int .i64 a2.Kind, .int .i64 a2.Epoch] ++ (a2.Nonce.map (Value.int .u8) ++ [.slice A30 n32 c31, .int .i64 a2.Job, .int .i64 a2.Time, .int .i64 a2.By])), CH.row g41 0 q2, CH.row g37 0 q1]) C807) hn151 hR153 hn157 hR159 hn163 hR165 hn169 hR171 ha29 hn33 hl34 hm35 (Sl.mono hS36 le147 le147) r938 r939 hg937) (Yenter.fnT (fnV_of 41 hc936) Try.func41 (by kernel_rfl) rfl (argsE (.cons rfl (.cons rfl .nil)))) ?_)
         rintro e_ w_ ⟨F940, A942, c943, n944, p946, A948, c949, n950, p952, A954, c955, n956, p958, A960, c961, n962, p964, rfl, le941, C966, hn945, hR947, hn951, hR953, hn957, hR959, hn963, hR965⟩
         let q9 : List Go.Value := [.int .i64 r939.c.Faulty, .int .i64 r939.c.Workers, .int .i64 r939.c.Height, .int .i64 r939.c.Bits, .int .i64 r939.c.Jobs, .int .i64 r939.c.Term, .int .i64 r939.c.Heads, .slice A942 n944 c943, .slice A948 n950 c949, .slice A954 n956 c955, .slice A960 n962 c961, .int .i64 r939.State.Heads]
         have C967 : Ctx _ _ _ _ _ [CH.row g174 0 q9, p946, p952, p958, p964, CH.row g49 0 q3, CH.row g45 0 ([.int .i64 a2.Kind, .int .i64 a2.Epoch] ++ (a2.Nonce.map (Value.int .u8) ++ [.slice A30 n32 c31, .int .i64 a2.Job, .int .i64 a2.Time, .int .i64 a2.By])), CH.row g41 0 q2, CH.row g37 0 q1] := Ctx.call (qs := [CH.row g174 0 q4, p152, p158, p164, p170]) (rest := [CH.row g49 0 q3, CH.row g45 0 ([.int .i64 a2.Kind, .int .i64 a2.Epoch] ++ (a2.Nonce.map (Value.int .u8) ++ [.slice A30 n32 c31, .int .i64 a2.Job, .int .i64 a2.Time, .int .i64 a2.By])), CH.row g41 0 q2, CH.row g37 0 q1]) C807 C966
         refine ⟨_, rfl, ⟨trivial, trivial⟩, ?_⟩
         refine WA.take none [] 6 rfl (by kernel_rfl) (by kernel_rfl) rfl trivial ⟨trivial, trivial⟩ (fun _ hC_ => Yl.assign (v := .int .i64 r938) rfl) ?_
         refine WA.done (by kernel_rfl) ?_
         cases hX605
         refine thenE_n ?_
         exact ⟨F940, A942, c943, n944, p946, A948, c949, n950, p952, A954, c955, n956, p958, A960, c961, n962, p964, ho78, rfl, rfl, C967, le941, hn945, hR947, hn951, hR953, hn957, hR959, hn963, hR965⟩
        ·rcases iteE hX605 with ⟨hc968, hX605⟩ | ⟨hc968, hX605⟩
         ·obtain ⟨⟨r970, r971⟩, hg969, hX605⟩ := bindE hX605
          refine WA.up1 5 (by kernel_rfl) (Up.callH rfl (by kernel_rfl) rfl (docket_work_head.calls k _ F146 g174 0 A148 c149 n150 p152 A154 c155 n156 p158 A160 c161 n162 p164 A166 c167 n168 p170 (⟨a0, r145⟩ : Twork) A30 c31 n32 a2 (Ctx.pre (qs := [CH.row g174 0 q4, p152, p158, p164, p170]) (rest := [CH.row g49 0 q3, CH.row g45 0 ([.int .i64 a2.Kind, .int .i64 a2.Epoch] ++ (a2.Nonce.map (Value.int .u8) ++ [.slice A30 n32 c31, .int .i64 a2.Job, .int .i64 a2.Time, .int .i64 a2.By])), CH.row g41 0 q2, CH.row g37 0 q1]) C807) hn151 hR153 hn157 hR159 hn163 hR165 hn169 hR171 ha29 hn33 hl34 hm35 (Sl.mono hS36 le147 le147) r970 r971 hg969) (Yenter.fnT (fnV_of 42 hc968) Try.func42 (by kernel_rfl) rfl (argsE (.cons rfl (.cons rfl .nil)))) ?_)
          rintro e_ w_ ⟨F972, A974, c975, n976, p978, A980, c981, n982, p984, A986, c987, n988, p990, A992, c993, n994, p996, rfl, le973, C998, hn977, hR979, hn983, hR985, hn989, hR991, hn995, hR997⟩
          let q10 : List Go.Value := [.int .i64 r971.c.Faulty, .int .i64 r971.c.Workers, .int .i64 r971.c.Height, .int .i64 r971.c.Bits, .int .i64 r971.c.Jobs, .int .i64 r971.c.Term, .int .i64 r971.c.Heads, .slice A974 n976 c975, .slice A980 n982 c981, .slice A986 n988 c987, .slice A992 n994 c993, .int .i64 r971.State.Heads]
          have C999 : Ctx _ _ _ _ _ [CH.row g174 0 q10, p978, p984, p990, p996, CH.row g49 0 q3, CH.row g45 0 ([.int .i64 a2.Kind, .int .i64 a2.Epoch] ++ (a2.Nonce.map (Value.int .u8) ++ [.slice A30 n32 c31, .int .i64 a2.Job, .int .i64 a2.Time, .int .i64 a2.By])), CH.row g41 0 q2, CH.row g37 0 q1] := Ctx.call (qs := [CH.row g174 0 q4, p152, p158, p164, p170]) (rest := [CH.row g49 0 q3, CH.row g45 0 ([.int .i64 a2.Kind, .int .i64 a2.Epoch] ++ (a2.Nonce.map (Value.int .u8) ++ [.slice A30 n32 c31, .int .i64 a2.Job, .int .i64 a2.Time, .int .i64 a2.By])), CH.row g41 0 q2, CH.row g37 0 q1]) C807 C998
          refine ⟨_, rfl, ⟨trivial, trivial⟩, ?_⟩
          refine WA.take none [] 6 rfl (by kernel_rfl) (by kernel_rfl) rfl trivial ⟨trivial, trivial⟩ (fun _ hC_ => Yl.assign (v := .int .i64 r970) rfl) ?_
          refine WA.done (by kernel_rfl) ?_
          cases hX605
          refine thenE_n ?_
          exact ⟨F972, A974, c975, n976, p978, A980, c981, n982, p984, A986, c987, n988, p990, A992, c993, n994, p996, ho78, rfl, rfl, C999, le973, hn977, hR979, hn983, hR985, hn989, hR991, hn995, hR997⟩
         ·obtain ⟨hc1000, hX605⟩ := guardE hX605
          exact hc1000.elim
   ·rintro env_ w_ ⟨F573, A580, c581, n582, p584, A586, c587, n588, p590, A592, c593, n594, p596, A598, c599, n600, p602, ho575, ho576, ho577, C604, le574, hn583, hR585, hn589, hR591, hn595, hR597, hn601, hR603⟩
    refine W.seq ?_
    refine W.region rfl ?_
    refine WL.val (Yl.move (v := .int .i64 x578) ho577) ?_
    refine WL.val (Yl.neq (m := x578) (n := 0) (q := !decide (x578 = 0)) rfl rfl rfl) ?_
    refine WL.done ?_
    rcases iteE H with ⟨hc1001, H⟩ | ⟨hc1001, H⟩
    ·refine W.condF (congrArg Value.bool (ndec_t hc1001)) ?_
     refine W.skip ?_
     refine W.seq ?_
     refine W.region rfl ?_
     refine WL.val (Yl.move (v := .pointer (some ⟨g174, 0, none⟩)) ho576) ?_
     refine WL.val (Yl.nilCheck rfl) ?_
     refine WL.val (Yl.fieldAddr (i := 1) rfl Try.underlying75 rfl sz32) ?_
     let q11 : List Go.Value := [.int .i64 x579.c.Faulty, .int .i64 x579.c.Workers, .int .i64 x579.c.Height, .int .i64 x579.c.Bits, .int .i64 x579.c.Jobs, .int .i64 x579.c.Term, .int .i64 x579.c.Heads, .slice A580 n582 c581, .slice A586 n588 c587, .slice A592 n594 c593, .slice A598 n600 c599, .int .i64 x579.State.Heads]
     refine WL.val (Yl.loadVA (g := g174) (off := 0) (o := 7) (cs := q11) (us := [.slice A580 n582 c581, .slice A586 n588 c587, .slice A592 n594 c593, .slice A598 n600 c599, .int .i64 x579.State.Heads]) rfl Try.underlying32 rfl sz32 (Ctx.subI 0 C604 rfl) rfl) ?_
     let q12 : List Go.Value := [.slice A580 n582 c581, .slice A586 n588 c587, .slice A592 n594 c593, .slice A598 n600 c599, .int .i64 x579.State.Heads]
     obtain ⟨w1002, hy1003, C1004⟩ := ev_setI (P := Try.prog) (ps1 := [CH.row g174 0 q11, p584, p590, p596, p602]) (ps2 := [CH.row g45 0 ([.int .i64 a2.Kind, .int .i64 a2.Epoch] ++ (a2.Nonce.map (Value.int .u8) ++ [.slice A30 n32 c31, .int .i64 a2.Job, .int .i64 a2.Time, .int .i64 a2.By])), CH.row g41 0 q2, CH.row g37 0 q1]) (t := 32) 0 q12 (.agg (List.toArray q12)) C604 rfl rfl (ones_of rfl) sz32
     have C1005 : Ctx _ _ _ _ _ [CH.row g174 0 q11, p584, p590, p596, p602, CH.row g49 0 q12, CH.row g45 0 ([.int .i64 a2.Kind, .int .i64 a2.Epoch] ++ (a2.Nonce.map (Value.int .u8) ++ [.slice A30 n32 c31, .int .i64 a2.Job, .int .i64 a2.Time, .int .i64 a2.By])), CH.row g41 0 q2, CH.row g37 0 q1] := C1004
     refine WL.skip (hy1003 _ _ _ _ ho575 rfl) ?_
     refine WL.val (Yl.assign (v := .int .i64 0) rfl) ?_
     refine WL.done ?_
     refine W.ret ?_
     have C1006 : Ctx _ _ _ _ _ [p584, p590, p596, p602] := Ctx.pick [1, 2, 3, 4] C1005 rfl
     simp only [Option.some.injEq, Prod.mk.injEq] at H
     obtain ⟨e1007, e1008⟩ := H
     subst e1007 e1008
     exact post_r (resET rfl ((.cell ho575 (run_loadVA2 (g := g49) (off := 0) (o := 0) (cs := q12) (us := [.slice A580 n582 c581, .slice A586 n588 c587, .slice A592 n594 c593, .slice A598 n600 c599, .int .i64 x579.State.Heads]) Try.underlying32 rfl sz32 (Ctx.subI 5 C1005 rfl) rfl) (.tmp rfl .nil))) rfl) ⟨F573, A580, c581, n582, p584, A586, c587, n588, p590, A592, c593, n594, p596, A598, c599, n600, p602, rfl, (CH.le_trans le147 le574), C1006, hn583, hR585, hn589, hR591, hn595, hR597, hn601, hR603⟩
    ·refine W.condT (congrArg Value.bool (ndec_f hc1001)) ?_
     refine W.seq ?_
     refine W.region rfl ?_
     refine WL.val (Yl.build (places := [(0, 1), (1, 1), (2, 1), (3, 1), (4, 1)]) (cs := List.toArray q3) Try.underlying32 zr32 (pl32 _ Try.underlying32) (partsB .nil) rfl) ?_
     refine WL.val (Yl.move (v := .int .i64 x578) ho577) ?_
     let q13 : List Go.Value := [.int .i64 x579.c.Faulty, .int .i64 x579.c.Workers, .int .i64 x579.c.Height, .int .i64 x579.c.Bits, .int .i64 x579.c.Jobs, .int .i64 x579.c.Term, .int .i64 x579.c.Heads, .slice A580 n582 c581, .slice A586 n588 c587, .slice A592 n594 c593, .slice A598 n600 c599, .int .i64 x579.State.Heads]
     obtain ⟨w1009, hy1010, C1011⟩ := ev_setI (P := Try.prog) (ps1 := [CH.row g174 0 q13, p584, p590, p596, p602]) (ps2 := [CH.row g45 0 ([.int .i64 a2.Kind, .int .i64 a2.Epoch] ++ (a2.Nonce.map (Value.int .u8) ++ [.slice A30 n32 c31, .int .i64 a2.Job, .int .i64 a2.Time, .int .i64 a2.By])), CH.row g41 0 q2, CH.row g37 0 q1]) (t := 32) 0 q3 (.agg (List.toArray q3)) C604 rfl rfl (ones_of rfl) sz32
     have C1012 : Ctx _ _ _ _ _ [CH.row g174 0 q13, p584, p590, p596, p602, CH.row g49 0 q3, CH.row g45 0 ([.int .i64 a2.Kind, .int .i64 a2.Epoch] ++ (a2.Nonce.map (Value.int .u8) ++ [.slice A30 n32 c31, .int .i64 a2.Job, .int .i64 a2.Time, .int .i64 a2.By])), CH.row g41 0 q2, CH.row g37 0 q1] := C1011
     refine WL.skip (hy1010 _ _ _ _ ho575 rfl) ?_
     refine WL.val (Yl.assign (v := .int .i64 x578) rfl) ?_
     refine WL.done ?_
     refine W.ret ?_
     refine thenE_r ?_
     have C1013 : Ctx _ _ _ _ _ [CH.emp, CH.emp, CH.emp, CH.emp] := Ctx.pick [9, 9, 9, 9] C1012 rfl
     simp only [Option.some.injEq, Prod.mk.injEq] at H
     obtain ⟨e1014, e1015⟩ := H
     subst e1014 e1015
     exact post_r (resET rfl ((.cell ho575 (run_loadVA2 (g := g49) (off := 0) (o := 0) (cs := q3) (us := [.slice none 0 0, .slice none 0 0, .slice none 0 0, .slice none 0 0, .int .i64 0]) Try.underlying32 rfl sz32 (Ctx.subI 5 C1012 rfl) rfl) (.tmp rfl .nil))) rfl) ⟨F573, none, 0, 0, CH.emp, none, 0, 0, CH.emp, none, 0, 0, CH.emp, none, 0, 0, CH.emp, rfl, (CH.le_trans le147 le574), C1013, rfl, (Row.nil _ _), rfl, (Row.nil _ _), rfl, (Row.nil _ _), rfl, (Row.nil _ _)⟩
end Go.Proofs.Ytobdpbnadjkhiaa
