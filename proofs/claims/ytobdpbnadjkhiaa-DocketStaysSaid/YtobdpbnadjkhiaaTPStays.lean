/- Functions of the program: each as a plain function of numbers and lists, and the proof that the program's own comes to it. Nothing is assumed but what each theorem says. -/
import Derived.Test.YtobdpbnadjkhiaaTGh
import Derived.Test.YtobdpbnadjkhiaaTGa
namespace Go.Proofs.Ytobdpbnadjkhiaa
open Go.RowKit Go.WG
set_option linter.unusedVariables false
set_option linter.unusedSimpArgs false
def juratlaw21_DocketStays.l2 : Nat → TState → TState → Int → Option (Sum Unit Bool)
  | 0, _, _, _ => none
  | k + 1, x9416, rs11817_7_0, x13073 => if x13073 < (x9416.Jobs.length : Int) then (if 0 ≤ x13073 ∧ x13073 < (x9416.Jobs.length : Int) then (if 0 ≤ x13073 ∧ x13073 < (rs11817_7_0.Jobs.length : Int) then ((juratref01_Same.f k ((x9416.Jobs.getD x13073.toNat TJob.z).Payload) ((rs11817_7_0.Jobs.getD x13073.toNat TJob.z).Payload)).bind fun r13807 => (if r13807 = true then (if ((rs11817_7_0.Jobs.getD x13073.toNat TJob.z).Attempt) < ((x9416.Jobs.getD x13073.toNat TJob.z).Attempt) then (some (true)) else (if ((x9416.Jobs.getD x13073.toNat TJob.z).State) = 3 then (if ((rs11817_7_0.Jobs.getD x13073.toNat TJob.z).State) = 3 then ((juratref01_Same.f k ((x9416.Jobs.getD x13073.toNat TJob.z).Value) ((rs11817_7_0.Jobs.getD x13073.toNat TJob.z).Value)).bind fun r13817 => if r13817 = true then (some (!decide (((x9416.Jobs.getD x13073.toNat TJob.z).Epoch) = ((rs11817_7_0.Jobs.getD x13073.toNat TJob.z).Epoch)))) else (some (true))) else (some (true))) else (some (false)))) else (some (true))).bind fun g13810 => if g13810 = true then (some (Sum.inr false)) else (juratlaw21_DocketStays.l2 k x9416 rs11817_7_0 (wi64 (x13073 + 1)))) else none) else none) else (some (Sum.inl ()))
def juratlaw21_DocketStays.l1 : Nat → TConfig → List TRecord → Int → TState → Option (Sum Unit Bool)
  | 0, _, _, _, _ => none
  | k + 1, a0, a1, x9415, x9416 => if x9415 < (a1.length : Int) then (if 0 ≤ x9415 ∧ x9415 < (a1.length : Int) then ((juratlaw21_own.f k (a1.getD x9415.toNat TRecord.z)).bind fun rs11817_6_0 => (docket_Apply.f k a0 x9416 rs11817_6_0).bind fun ⟨rs11817_7_0, rs11817_7_1⟩ => if rs11817_7_1 = 0 then (if (rs11817_7_0.Jobs.length : Int) < (x9416.Jobs.length : Int) then (some (Sum.inr false)) else ((juratlaw21_DocketStays.l2 k x9416 rs11817_7_0 0).bind fun o_ => sumE o_ (fun _ => juratlaw21_DocketStays.l1 k a0 a1 (wi64 (x9415 + 1)) rs11817_7_0) (fun p_ => some (Sum.inr p_)))) else (juratlaw21_DocketStays.l1 k a0 a1 (wi64 (x9415 + 1)) x9416)) else none) else (some (Sum.inl ()))
def juratlaw21_DocketStays.f (k : Nat) (a0 : TConfig) (a1 : List TRecord) : Option Bool := (juratlaw21_Great.f k a1).bind fun r13 => if r13 = true then ((juratlaw21_awake.f k ).bind fun r18 => some r18) else ((docket_New.f k a0).bind fun ⟨r24, r25⟩ => (juratlaw21_DocketStays.l1 k a0 a1 0 r24).bind fun o_ => sumE o_ (fun _ => (juratlaw21_awake.f k ).bind fun r13876 => some r13876) (fun p_ => some p_))
set_option maxRecDepth 100000 in
set_option maxHeartbeats 4000000 in
theorem juratlaw21_DocketStays.calls (k : Nat) (w : World) (F : CH) (a0 : TConfig) (A1 : Option Addr) (c2 : Nat) (n3 : Nat) (a1 : List TRecord) (hp : Pre w F []) (hn4 : n3 = a1.length) (hl5 : a1.length ≤ c2) (hm6 : c2 ≤ maxLen) (hS7 : Sl TRecord.K F F A1 a1) (r0_ : Bool) (H : juratlaw21_DocketStays.f k a0 a1 = some r0_) :
    Calls Try.prog 4 #[.agg (List.toArray [.int .i64 a0.Faulty, .int .i64 a0.Workers, .int .i64 a0.Height, .int .i64 a0.Bits, .int .i64 a0.Jobs, .int .i64 a0.Term, .int .i64 a0.Heads]), .slice A1 n3 c2] w fun e w' => e = .returned (.bool r0_) ∧ Ctx w F (domL []) w' F [] := by
 have C := Ctx.start hp
 generalize hD : domL [] = D at C ⊢
 unfold juratlaw21_DocketStays.f at H
 refine Calls.ofW Try.func4 rfl (by simp [Try.ntmps4]) ?_
 refine W.seq ?_
 refine W.region rfl ?_
 let q1 : List Go.Value := [.int .i64 a0.Faulty, .int .i64 a0.Workers, .int .i64 a0.Height, .int .i64 a0.Bits, .int .i64 a0.Jobs, .int .i64 a0.Term, .int .i64 a0.Heads]
 obtain ⟨g8, w9, hy10, C11⟩ := ev_box (P := Try.prog) 23 (.agg (List.toArray q1)) q1 C rfl
 refine WL.val (hy10 _ _ _ rfl) ?_
 refine WL.val (Yl.assign (v := .bool false) rfl) ?_
 refine WL.done ?_
 refine W.seq ?_
 refine W.seq ?_
 refine W.region rfl ?_
 refine WL.val (Yl.move (v := .slice A1 n3 c2) rfl) ?_
 obtain ⟨r13, hg12, H⟩ := bindE H
 refine WL.callH (juratlaw21_Great.calls k _ F A1 c2 n3 a1 C11.pre0 hn4 hl5 hm6 hS7 r13 hg12) (Yenter.fn Try.func7 (by kernel_rfl) rfl (argsE (.cons rfl .nil))) ?_
 rintro e_ w_ ⟨rfl, ⟨m14, rfl⟩⟩
 refine ⟨_, rfl, ?_⟩
 have C15 := Ctx.drewN C11 m14
 refine WL.done ?_
 rcases iteE H with ⟨hc16, H⟩ | ⟨hc16, H⟩
 ·refine W.condT (congrArg Value.bool hc16) ?_
  refine W.seq ?_
  refine W.region rfl ?_
  obtain ⟨r18, hg17, H⟩ := bindE H
  refine WL.callH (juratlaw21_awake.calls k _ F  (Ctx.pre (qs := []) (rest := [CH.row g8 0 q1]) C15)  r18 hg17) (Yenter.fn Try.func8 (by kernel_rfl) rfl (argsE .nil)) ?_
  rintro e_ w_ ⟨rfl, C19⟩
  refine ⟨_, rfl, ?_⟩
  have C20 : Ctx _ _ _ _ _ [CH.row g8 0 q1] := Ctx.call (qs := []) (rest := [CH.row g8 0 q1]) C15 C19
  refine WL.val (Yl.assign (v := .bool r18) rfl) ?_
  refine WL.done ?_
  refine W.ret ?_
  refine thenE_r ?_
  have C21 : Ctx _ _ _ _ _ [] := Ctx.pick [] C20 rfl
  have e22 := Option.some.inj H
  subst e22
  exact post_r (resE1 rfl rfl) ⟨rfl, C21⟩
 ·refine W.condF (congrArg Value.bool (Bool.eq_false_iff.2 hc16)) ?_
  refine W.skip ?_
  refine W.seq ?_
  refine W.region rfl ?_
  refine WL.val (Yl.loadVA (g := g8) (off := 0) (o := 0) (cs := q1) (us := [.int .i64 a0.Faulty, .int .i64 a0.Workers, .int .i64 a0.Height, .int .i64 a0.Bits, .int .i64 a0.Jobs, .int .i64 a0.Term, .int .i64 a0.Heads]) rfl Try.underlying23 rfl sz23 (Ctx.subI 0 C15 rfl) rfl) ?_
  obtain ⟨⟨r24, r25⟩, hg23, H⟩ := bindE H
  refine WL.callH (docket_New.calls k _ F a0 (Ctx.pre (qs := []) (rest := [CH.row g8 0 q1]) C15)  r24 r25 hg23) (Yenter.fn Try.func9 (by kernel_rfl) rfl (argsE (.cons rfl .nil))) ?_
  rintro e_ w_ ⟨A26, c27, n28, p30, A32, c33, n34, p36, A38, c39, n40, p42, A44, c45, n46, p48, rfl, C50, hn29, hR31, hn35, hR37, hn41, hR43, hn47, hR49⟩
  refine ⟨_, rfl, ?_⟩
  have C51 : Ctx _ _ _ _ _ [p30, p36, p42, p48, CH.row g8 0 q1] := Ctx.call (qs := []) (rest := [CH.row g8 0 q1]) C15 C50
  let q2 : List Go.Value := [.slice A26 n28 c27, .slice A32 n34 c33, .slice A38 n40 c39, .slice A44 n46 c45, .int .i64 r24.Heads]
  refine WL.val (Yl.move (v := .tuple #[(.agg (List.toArray q2)), (.int .i64 r25)]) rfl) ?_
  refine WL.val (Yl.extract (v := .agg (List.toArray q2)) rfl rfl) ?_
  refine WL.val (Yl.extract (v := .int .i64 r25) rfl rfl) ?_
  let q3 : List Go.Value := [.slice none 0 0, .slice none 0 0, .slice none 0 0, .slice none 0 0, .int .i64 0]
  obtain ⟨g52, w53, hy54, C55⟩ := ev_alloc (P := Try.prog) (e := 32) q3 C51 zr32 rfl
  refine WL.val (hy54 _ _) ?_
  obtain ⟨w56, hy57, C58⟩ := ev_setI (P := Try.prog) (ps1 := []) (ps2 := [p30, p36, p42, p48, CH.row g8 0 q1]) (t := 32) 0 q2 (.agg (List.toArray q2)) C55 rfl rfl (ones_of rfl) sz32
  have C59 : Ctx _ _ _ _ _ [CH.row g52 0 q2, p30, p36, p42, p48, CH.row g8 0 q1] := C58
  refine WL.skip (hy57 _ _ _ _ rfl rfl) ?_
  refine WL.val (Yl.assign (v := .int .i64 r25) rfl) ?_
  refine WL.done ?_
  refine W.seq ?_
  refine W.seq ?_
  refine W.region rfl ?_
  refine WL.val (Yl.assign (v := .int .i64 0) rfl) ?_
  refine WL.done ?_
  obtain ⟨o6965, hX6964, H⟩ := bindE H
  refine W.cutM (fun env_ w_ => Ctx w F D w_ F [CH.row g8 0 q1] ∧ o6965 = Sum.inl ()) ?_ ?_
  ·refine W.block ?_
   obtain ⟨F11623, le11624, lp11625, (C11626 : Ctx _ _ _ _ _ [CH.row g52 0 q2, p36, p42, p48, CH.row g8 0 q1])⟩ := Ctx.fzI 1 C59 rfl
   obtain ⟨hl11627, hm11628, hS11629⟩ := Row.fz hR31 le11624 lp11625
   have hR11630 := Row.mono hR37 le11624
   have hR11631 := Row.mono hR43 le11624
   have hR11632 := Row.mono hR49 le11624
   obtain ⟨F11633, le11634, lp11635, (C11636 : Ctx _ _ _ _ _ [CH.row g52 0 q2, p42, p48, CH.row g8 0 q1])⟩ := Ctx.fzI 1 C11626 rfl
   obtain ⟨hl11637, hm11638, hS11639⟩ := Row.fz hR11630 le11634 lp11635
   have hR11640 := Row.mono hR11631 le11634
   have hR11641 := Row.mono hR11632 le11634
   obtain ⟨F11642, le11643, lp11644, (C11645 : Ctx _ _ _ _ _ [CH.row g52 0 q2, p48, CH.row g8 0 q1])⟩ := Ctx.fzI 1 C11636 rfl
   obtain ⟨hl11646, hm11647, hS11648⟩ := Row.fz hR11640 le11643 lp11644
   have hR11649 := Row.mono hR11641 le11643
   obtain ⟨F11650, le11651, lp11652, (C11653 : Ctx _ _ _ _ _ [CH.row g52 0 q2, CH.row g8 0 q1])⟩ := Ctx.fzI 1 C11645 rfl
   obtain ⟨hl11654, hm11655, hS11656⟩ := Row.fz hR11649 le11651 lp11652
   refine W.loop (fun g_ env_ w_ => ∃ (x9415 : Int) (x9416 : TState) (F9409 : CH) (A9417 : Option Addr) (c9418 : Nat) (n9419 : Nat) (A9424 : Option Addr) (c9425 : Nat) (n9426 : Nat) (A9431 : Option Addr) (c9432 : Nat) (n9433 : Nat) (A9438 : Option Addr) (c9439 : Nat) (n9440 : Nat), env_ 1 = .slice A1 n3 c2 ∧ env_ 2 = .pointer (some ⟨g8, 0, none⟩) ∧ env_ 5 = .pointer (some ⟨g52, 0, none⟩) ∧ env_ 7 = .int .i64 x9415 ∧ Ctx w F D w_ F9409 [CH.row g52 0 [.slice A9417 n9419 c9418, .slice A9424 n9426 c9425, .slice A9431 n9433 c9432, .slice A9438 n9440 c9439, .int .i64 x9416.Heads], CH.row g8 0 q1] ∧ CH.le F F9409 ∧ n9419 = x9416.Eras.length ∧ x9416.Eras.length ≤ c9418 ∧ c9418 ≤ maxLen ∧ Sl TEra.K F9409 F9409 A9417 x9416.Eras ∧ n9426 = x9416.Jobs.length ∧ x9416.Jobs.length ≤ c9425 ∧ c9425 ≤ maxLen ∧ Sl TJob.K F9409 F9409 A9424 x9416.Jobs ∧ n9433 = x9416.Used.length ∧ x9416.Used.length ≤ c9432 ∧ c9432 ≤ maxLen ∧ Sl (Kd.int .i64) F9409 F9409 A9431 x9416.Used ∧ n9440 = x9416.Barred.length ∧ x9416.Barred.length ≤ c9439 ∧ c9439 ≤ maxLen ∧ Sl Kd.bool F9409 F9409 A9438 x9416.Barred ∧ juratlaw21_DocketStays.l1 g_ a0 a1 x9415 x9416 = some o6965) k ⟨0, r24, F11650, A26, c27, n28, A32, c33, n34, A38, c39, n40, A44, c45, n46, rfl, rfl, rfl, rfl, C11653, (CH.le_trans le11624 (CH.le_trans le11634 (CH.le_trans le11643 le11651))), hn29, hl11627, hm11628, (Sl.mono hS11629 (CH.le_trans le11634 (CH.le_trans le11643 le11651)) (CH.le_trans le11634 (CH.le_trans le11643 le11651))), hn35, hl11637, hm11638, (Sl.mono hS11639 (CH.le_trans le11643 le11651) (CH.le_trans le11643 le11651)), hn41, hl11646, hm11647, (Sl.mono hS11648 le11651 le11651), hn47, hl11654, hm11655, hS11656, hX6964⟩ ?_
   clear hX6964
   rintro g_ env_ w_ ⟨x9415, x9416, F9409, A9417, c9418, n9419, A9424, c9425, n9426, A9431, c9432, n9433, A9438, c9439, n9440, ho9411, ho9412, ho9413, ho9414, C9445, le9410, hn9420, hl9421, hm9422, hS9423, hn9427, hl9428, hm9429, hS9430, hn9434, hl9435, hm9436, hS9437, hn9441, hl9442, hm9443, hS9444, hX6964⟩
   rcases g_ with _ | k11622
   · exact absurd hX6964 (by simp [juratlaw21_DocketStays.l1])
   rw [juratlaw21_DocketStays.l1] at hX6964
   refine W.seq ?_
   refine W.seq ?_
   refine W.region rfl ?_
   refine WL.val (Yl.move (v := .int .i64 x9415) ho9414) ?_
   refine WL.val (Yl.move (v := .slice A1 n3 c2) ho9411) ?_
   refine WL.val (Yl.lenN (A := A1) (l := n3) (q := c2) (n := (a1.length : Int)) rfl Try.underlying24 (by omega)) ?_
   refine WL.val (Yl.lss (m := x9415) (n := (a1.length : Int)) (q := decide (x9415 < (a1.length : Int))) rfl rfl rfl) ?_
   refine WL.done ?_
   rcases iteE hX6964 with ⟨hc11657, hX6964⟩ | ⟨hc11657, hX6964⟩
   ·refine W.condT (congrArg Value.bool (decide_eq_true hc11657)) ?_
    refine W.skip ?_
    refine W.seq ?_
    refine W.block ?_
    refine W.seq ?_
    let q4 : List Go.Value := [.slice A9417 n9419 c9418, .slice A9424 n9426 c9425, .slice A9431 n9433 c9432, .slice A9438 n9440 c9439, .int .i64 x9416.Heads]
    refine W.regionA [([7, 12], CH.row g8 0 q1), ([7, 12], CH.row g52 0 q4), ([6, 7, 12], F9409)] (by kernel_rfl) ?_
    have C11731 := Ctx.drewN C9445 1
    refine WA.takes [(0, some 0), (1, some 1), (2, none), (3, none), (4, none), (5, some 2)] ⟨(Ctx.subI 1 C11731 rfl), (Ctx.subI 0 C11731 rfl), (C11731.fro), trivial⟩ (by kernel_rfl) ?_
    refine WT.val rfl (fun _ hC_ => Yl.loadVA (g := g8) (off := 0) (o := 0) (cs := q1) (us := [.int .i64 a0.Faulty, .int .i64 a0.Workers, .int .i64 a0.Height, .int .i64 a0.Bits, .int .i64 a0.Jobs, .int .i64 a0.Term, .int .i64 a0.Heads]) (by exact ho9412) Try.underlying23 rfl sz23 (show Sub (CH.row g8 0 q1) _ from hC_) rfl) ?_
    refine WT.val rfl (fun _ hC_ => Yl.loadVA (g := g52) (off := 0) (o := 0) (cs := q4) (us := [.slice A9417 n9419 c9418, .slice A9424 n9426 c9425, .slice A9431 n9433 c9432, .slice A9438 n9440 c9439, .int .i64 x9416.Heads]) (by exact ho9413) Try.underlying32 rfl sz32 (show Sub (CH.row g52 0 q4) _ from hC_) rfl) ?_
    refine WT.val rfl (fun _ hC_ => Yl.move (v := .slice A1 n3 c2) (by exact ho9411)) ?_
    refine WT.val rfl (fun _ hC_ => Yl.move (v := .int .i64 x9415) (by exact ho9414)) ?_
    obtain ⟨hc11748, hX6964⟩ := guardE hX6964
    obtain ⟨b11749, of11750, hA11751, he11752⟩ := hS7 (by omega)
    refine WT.val rfl (fun _ hC_ => Yl.elemAddr (i := x9415) rfl rfl hA11751 Try.underlying24 sz46 (by omega)) ?_
    obtain ⟨cs11753, hr11754, hx11755⟩ := he11752 x9415.toNat _ (getD_some (d := TRecord.z) (by omega))
    obtain ⟨A11757, c11758, n11759, rfl, ha11756, hn11760, hl11761, hm11762, hS11763⟩ := TRecord.open hr11754
    refine WT.val rfl (fun _ hC_ => Yl.loadAgg (cs := [.int .i64 ((a1.getD x9415.toNat TRecord.z).Kind), .int .i64 ((a1.getD x9415.toNat TRecord.z).Epoch)] ++ (((a1.getD x9415.toNat TRecord.z).Nonce).map (Value.int .u8) ++ [.slice A11757 n11759 c11758, .int .i64 ((a1.getD x9415.toNat TRecord.z).Job), .int .i64 ((a1.getD x9415.toNat TRecord.z).Time), .int .i64 ((a1.getD x9415.toNat TRecord.z).By)])) rfl Try.underlying46 rfl (sz_of sz46 (by first | (simp only [List.length_append, List.length_map, List.length_cons, List.length_nil, ha11756]; done) | simp [ha11756])) (fun j u hu => by rw [add_of]; exact ((Sub.mono (show Sub F9409 _ from hC_) le9410)).cell (hx11755 _ _ hu))) ?_
    refine WT.done ?_
    obtain ⟨rs11817_6_0, rs11817_6h, hX6964⟩ := bindE hX6964
    obtain ⟨⟨rs11817_7_0, rs11817_7_1⟩, rs11817_7h, hX6964⟩ := bindE hX6964
    refine WA.joinAt (fun env_ w_ => ∃ (F12088 : CH) (g12095 : Nat) (o12096 : Nat) (A12097 : Option Addr) (c12098 : Nat) (n12099 : Nat) (p12101 : CH) (A12103 : Option Addr) (c12104 : Nat) (n12105 : Nat) (p12107 : CH) (A12109 : Option Addr) (c12110 : Nat) (n12111 : Nat) (p12113 : CH) (A12115 : Option Addr) (c12116 : Nat) (n12117 : Nat) (p12119 : CH) (A12122 : Option Addr) (c12123 : Nat) (n12124 : Nat) (p12126 : CH) (A12128 : Option Addr) (c12129 : Nat) (n12130 : Nat) (p12132 : CH) (A12134 : Option Addr) (c12135 : Nat) (n12136 : Nat) (p12138 : CH) (A12140 : Option Addr) (c12141 : Nat) (n12142 : Nat) (p12144 : CH), env_ 1 = .slice A1 n3 c2 ∧ env_ 2 = .pointer (some ⟨g8, 0, none⟩) ∧ env_ 5 = .pointer (some ⟨g52, 0, none⟩) ∧ env_ 7 = .int .i64 x9415 ∧ env_ 8 = .pointer (some ⟨g12095, o12096, none⟩) ∧ env_ 36 = .agg (List.toArray [.slice A12122 n12124 c12123, .slice A12128 n12130 c12129, .slice A12134 n12136 c12135, .slice A12140 n12142 c12141, .int .i64 rs11817_7_0.Heads]) ∧ env_ 37 = .int .i64 rs11817_7_1 ∧ Ctx w F D w_ F12088 [CH.row g12095 o12096 [.slice A12097 n12099 c12098, .slice A12103 n12105 c12104, .slice A12109 n12111 c12110, .slice A12115 n12117 c12116, .int .i64 ((⟨([] : List TEra), ([] : List TJob), ([] : List Int), ([] : List Bool), 0⟩ : TState).Heads)], p12101, p12107, p12113, p12119, p12126, p12132, p12138, p12144, CH.row g52 0 q4, CH.row g8 0 q1] ∧ CH.le F9409 F12088 ∧ n12099 = ((⟨([] : List TEra), ([] : List TJob), ([] : List Int), ([] : List Bool), 0⟩ : TState).Eras).length ∧ Row TEra.K F12088 p12101 (.slice A12097 n12099 c12098) ((⟨([] : List TEra), ([] : List TJob), ([] : List Int), ([] : List Bool), 0⟩ : TState).Eras) ∧ n12105 = ((⟨([] : List TEra), ([] : List TJob), ([] : List Int), ([] : List Bool), 0⟩ : TState).Jobs).length ∧ Row TJob.K F12088 p12107 (.slice A12103 n12105 c12104) ((⟨([] : List TEra), ([] : List TJob), ([] : List Int), ([] : List Bool), 0⟩ : TState).Jobs) ∧ n12111 = ((⟨([] : List TEra), ([] : List TJob), ([] : List Int), ([] : List Bool), 0⟩ : TState).Used).length ∧ Row (Kd.int .i64) F12088 p12113 (.slice A12109 n12111 c12110) ((⟨([] : List TEra), ([] : List TJob), ([] : List Int), ([] : List Bool), 0⟩ : TState).Used) ∧ n12117 = ((⟨([] : List TEra), ([] : List TJob), ([] : List Int), ([] : List Bool), 0⟩ : TState).Barred).length ∧ Row Kd.bool F12088 p12119 (.slice A12115 n12117 c12116) ((⟨([] : List TEra), ([] : List TJob), ([] : List Int), ([] : List Bool), 0⟩ : TState).Barred) ∧ n12124 = rs11817_7_0.Eras.length ∧ Row TEra.K F12088 p12126 (.slice A12122 n12124 c12123) rs11817_7_0.Eras ∧ n12130 = rs11817_7_0.Jobs.length ∧ Row TJob.K F12088 p12132 (.slice A12128 n12130 c12129) rs11817_7_0.Jobs ∧ n12136 = rs11817_7_0.Used.length ∧ Row (Kd.int .i64) F12088 p12138 (.slice A12134 n12136 c12135) rs11817_7_0.Used ∧ n12142 = rs11817_7_0.Barred.length ∧ Row Kd.bool F12088 p12144 (.slice A12140 n12142 c12141) rs11817_7_0.Barred) #[true, true, true, true, true, true, true, true, true, true, true, true, false, false] 2 ?_ ?_
    ·intro kJ12148
     refine WA.up2 6 11 (by kernel_rfl) ?_ ?_
     ·refine Up.callH rfl (by kernel_rfl) rfl (juratlaw21_own.calls k11622 _ F9409 A11757 c11758 n11759 (a1.getD x9415.toNat TRecord.z) (Ctx.pre (qs := []) (rest := [CH.row g52 0 q4, CH.row g8 0 q1]) C11731) ha11756 hn11760 hl11761 hm11762 (Sl.mono hS11763 le9410 le9410) rs11817_6_0 rs11817_6h) (Yenter.fn Try.func15 (by kernel_rfl) rfl (argsE (.cons rfl .nil))) ?_
      rintro e_ w_ ⟨A12150, c12151, n12152, p12154, rfl, C12156, ha12149, hn12153, hR12155⟩
      have C12157 : Ctx _ _ _ _ _ [p12154, CH.row g52 0 q4, CH.row g8 0 q1] := Ctx.call (qs := []) (rest := [CH.row g52 0 q4, CH.row g8 0 q1]) C11731 C12156
      refine ⟨_, rfl, ⟨(Ctx.subI 2 C12157 rfl), (Ctx.subI 1 C12157 rfl), trivial, trivial⟩, ?_⟩
      refine WA.up2 7 11 (by kernel_rfl) ?_ ?_
      ·obtain ⟨F12158, le12159, lp12160, (C12161 : Ctx _ _ _ _ _ [CH.row g52 0 q4, CH.row g8 0 q1])⟩ := Ctx.fzI 0 C12157 rfl
       obtain ⟨hl12162, hm12163, hS12164⟩ := Row.fz hR12155 le12159 lp12160
       refine Up.callH rfl (by kernel_rfl) rfl (docket_Apply.calls k11622 _ F12158 a0 A9417 c9418 n9419 A9424 c9425 n9426 A9431 c9432 n9433 A9438 c9439 n9440 x9416 A12150 c12151 n12152 rs11817_6_0 (Ctx.pre (qs := []) (rest := [CH.row g52 0 q4, CH.row g8 0 q1]) C12161) hn9420 hl9421 hm9422 (Sl.mono hS9423 le12159 le12159) hn9427 hl9428 hm9429 (Sl.mono hS9430 le12159 le12159) hn9434 hl9435 hm9436 (Sl.mono hS9437 le12159 le12159) hn9441 hl9442 hm9443 (Sl.mono hS9444 le12159 le12159) ha12149 hn12153 hl12162 hm12163 hS12164 rs11817_7_0 rs11817_7_1 rs11817_7h) (Yenter.fn Try.func14 (by kernel_rfl) rfl (argsE (.cons rfl (.cons rfl (.cons rfl .nil))))) ?_
       rintro e_ w_ ⟨F12165, A12167, c12168, n12169, p12171, A12173, c12174, n12175, p12177, A12179, c12180, n12181, p12183, A12185, c12186, n12187, p12189, rfl, le12166, C12191, hn12170, hR12172, hn12176, hR12178, hn12182, hR12184, hn12188, hR12190⟩
       have C12192 : Ctx _ _ _ _ _ [p12171, p12177, p12183, p12189, CH.row g52 0 q4, CH.row g8 0 q1] := Ctx.call (qs := []) (rest := [CH.row g52 0 q4, CH.row g8 0 q1]) C12161 C12191
       refine ⟨_, rfl, ⟨trivial, trivial, trivial, trivial⟩, ?_⟩
       let q5 : List Go.Value := [.slice A12167 n12169 c12168, .slice A12173 n12175 c12174, .slice A12179 n12181 c12180, .slice A12185 n12187 c12186, .int .i64 rs11817_7_0.Heads]
       refine WA.take none [] 8 rfl (by kernel_rfl) (by kernel_rfl) rfl trivial ⟨trivial, trivial, trivial, trivial⟩ (fun _ hC_ => Yl.move (v := .tuple #[(.agg (List.toArray q5)), (.int .i64 rs11817_7_1)]) rfl) ?_
       refine WA.take none [] 9 rfl (by kernel_rfl) (by kernel_rfl) rfl trivial ⟨trivial, trivial, trivial, trivial⟩ (fun _ hC_ => Yl.extract (v := .agg (List.toArray q5)) rfl rfl) ?_
       refine WA.take none [] 10 rfl (by kernel_rfl) (by kernel_rfl) rfl trivial ⟨trivial, trivial, trivial, trivial⟩ (fun _ hC_ => Yl.extract (v := .int .i64 rs11817_7_1) rfl rfl) ?_
       obtain ⟨g12193, w12194, hy12195, C12196⟩ := ev_alloc (P := Try.prog) (e := 32) q3 C12192 zr32 rfl
       refine WA.up1 11 (by kernel_rfl) (Up.val rfl rfl rfl (hy12195 _ _) ⟨trivial, trivial, trivial, trivial⟩ ?_)
       have C12197 : Ctx _ _ _ _ _ [CH.row g12193 0 q3, CH.emp, CH.emp, CH.emp, CH.emp, p12171, p12177, p12183, p12189, CH.row g52 0 q4, CH.row g8 0 q1] := Ctx.pick [0, 7, 7, 7, 7, 1, 2, 3, 4, 5, 6] C12196 rfl
       exact kJ12148 _ _ ⟨F12165, g12193, 0, none, 0, 0, CH.emp, none, 0, 0, CH.emp, none, 0, 0, CH.emp, none, 0, 0, CH.emp, A12167, c12168, n12169, p12171, A12173, c12174, n12175, p12177, A12179, c12180, n12181, p12183, A12185, c12186, n12187, p12189, ho9411, ho9412, ho9413, ho9414, rfl, rfl, rfl, C12197, (CH.le_trans le12159 le12166), rfl, (Row.nil _ _), rfl, (Row.nil _ _), rfl, (Row.nil _ _), rfl, (Row.nil _ _), hn12170, hR12172, hn12176, hR12178, hn12182, hR12184, hn12188, hR12190⟩
      ·obtain ⟨g12198, w12199, hy12200, C12201⟩ := ev_alloc (P := Try.prog) (e := 32) q3 C12157 zr32 rfl
       refine Up.val rfl rfl rfl (hy12200 _ _) ⟨(Ctx.subI 3 C12201 rfl), (Ctx.subI 2 C12201 rfl), trivial, trivial⟩ ?_
       obtain ⟨F12202, le12203, lp12204, (C12205 : Ctx _ _ _ _ _ [CH.row g12198 0 q3, CH.row g52 0 q4, CH.row g8 0 q1])⟩ := Ctx.fzI 1 C12201 rfl
       obtain ⟨hl12206, hm12207, hS12208⟩ := Row.fz hR12155 le12203 lp12204
       refine WA.up1 7 (by kernel_rfl) (Up.callH rfl (by kernel_rfl) rfl (docket_Apply.calls k11622 _ F12202 a0 A9417 c9418 n9419 A9424 c9425 n9426 A9431 c9432 n9433 A9438 c9439 n9440 x9416 A12150 c12151 n12152 rs11817_6_0 (Ctx.pre (qs := []) (rest := [CH.row g12198 0 q3, CH.row g52 0 q4, CH.row g8 0 q1]) C12205) hn9420 hl9421 hm9422 (Sl.mono hS9423 le12203 le12203) hn9427 hl9428 hm9429 (Sl.mono hS9430 le12203 le12203) hn9434 hl9435 hm9436 (Sl.mono hS9437 le12203 le12203) hn9441 hl9442 hm9443 (Sl.mono hS9444 le12203 le12203) ha12149 hn12153 hl12206 hm12207 hS12208 rs11817_7_0 rs11817_7_1 rs11817_7h) (Yenter.fn Try.func14 (by kernel_rfl) rfl (argsE (.cons rfl (.cons rfl (.cons rfl .nil))))) ?_)
       rintro e_ w_ ⟨F12209, A12211, c12212, n12213, p12215, A12217, c12218, n12219, p12221, A12223, c12224, n12225, p12227, A12229, c12230, n12231, p12233, rfl, le12210, C12235, hn12214, hR12216, hn12220, hR12222, hn12226, hR12228, hn12232, hR12234⟩
       have C12236 : Ctx _ _ _ _ _ [p12215, p12221, p12227, p12233, CH.row g12198 0 q3, CH.row g52 0 q4, CH.row g8 0 q1] := Ctx.call (qs := []) (rest := [CH.row g12198 0 q3, CH.row g52 0 q4, CH.row g8 0 q1]) C12205 C12235
       refine ⟨_, rfl, ⟨trivial, trivial, trivial, trivial⟩, ?_⟩
       let q6 : List Go.Value := [.slice A12211 n12213 c12212, .slice A12217 n12219 c12218, .slice A12223 n12225 c12224, .slice A12229 n12231 c12230, .int .i64 rs11817_7_0.Heads]
       refine WA.take none [] 8 rfl (by kernel_rfl) (by kernel_rfl) rfl trivial ⟨trivial, trivial, trivial, trivial⟩ (fun _ hC_ => Yl.move (v := .tuple #[(.agg (List.toArray q6)), (.int .i64 rs11817_7_1)]) rfl) ?_
       refine WA.take none [] 9 rfl (by kernel_rfl) (by kernel_rfl) rfl trivial ⟨trivial, trivial, trivial, trivial⟩ (fun _ hC_ => Yl.extract (v := .agg (List.toArray q6)) rfl rfl) ?_
       refine WA.take none [] 10 rfl (by kernel_rfl) (by kernel_rfl) rfl trivial ⟨trivial, trivial, trivial, trivial⟩ (fun _ hC_ => Yl.extract (v := .int .i64 rs11817_7_1) rfl rfl) ?_
       have C12237 : Ctx _ _ _ _ _ [CH.row g12198 0 q3, CH.emp, CH.emp, CH.emp, CH.emp, p12215, p12221, p12227, p12233, CH.row g52 0 q4, CH.row g8 0 q1] := Ctx.pick [4, 7, 7, 7, 7, 0, 1, 2, 3, 5, 6] C12236 rfl
       exact kJ12148 _ _ ⟨F12209, g12198, 0, none, 0, 0, CH.emp, none, 0, 0, CH.emp, none, 0, 0, CH.emp, none, 0, 0, CH.emp, A12211, c12212, n12213, p12215, A12217, c12218, n12219, p12221, A12223, c12224, n12225, p12227, A12229, c12230, n12231, p12233, ho9411, ho9412, ho9413, ho9414, rfl, rfl, rfl, C12237, (CH.le_trans le12203 le12210), rfl, (Row.nil _ _), rfl, (Row.nil _ _), rfl, (Row.nil _ _), rfl, (Row.nil _ _), hn12214, hR12216, hn12220, hR12222, hn12226, hR12228, hn12232, hR12234⟩
     ·obtain ⟨g12238, w12239, hy12240, C12241⟩ := ev_alloc (P := Try.prog) (e := 32) q3 C11731 zr32 rfl
      refine Up.val rfl rfl rfl (hy12240 _ _) ⟨(Ctx.subI 2 C12241 rfl), (Ctx.subI 1 C12241 rfl), (C12241.fro), trivial⟩ ?_
      refine WA.up1 6 (by kernel_rfl) (Up.callH rfl (by kernel_rfl) rfl (juratlaw21_own.calls k11622 _ F9409 A11757 c11758 n11759 (a1.getD x9415.toNat TRecord.z) (Ctx.pre (qs := []) (rest := [CH.row g12238 0 q3, CH.row g52 0 q4, CH.row g8 0 q1]) C12241) ha11756 hn11760 hl11761 hm11762 (Sl.mono hS11763 le9410 le9410) rs11817_6_0 rs11817_6h) (Yenter.fn Try.func15 (by kernel_rfl) rfl (argsE (.cons rfl .nil))) ?_)
      rintro e_ w_ ⟨A12243, c12244, n12245, p12247, rfl, C12249, ha12242, hn12246, hR12248⟩
      have C12250 : Ctx _ _ _ _ _ [p12247, CH.row g12238 0 q3, CH.row g52 0 q4, CH.row g8 0 q1] := Ctx.call (qs := []) (rest := [CH.row g12238 0 q3, CH.row g52 0 q4, CH.row g8 0 q1]) C12241 C12249
      refine ⟨_, rfl, ⟨(Ctx.subI 3 C12250 rfl), (Ctx.subI 2 C12250 rfl), trivial, trivial⟩, ?_⟩
      obtain ⟨F12251, le12252, lp12253, (C12254 : Ctx _ _ _ _ _ [CH.row g12238 0 q3, CH.row g52 0 q4, CH.row g8 0 q1])⟩ := Ctx.fzI 0 C12250 rfl
      obtain ⟨hl12255, hm12256, hS12257⟩ := Row.fz hR12248 le12252 lp12253
      refine WA.up1 7 (by kernel_rfl) (Up.callH rfl (by kernel_rfl) rfl (docket_Apply.calls k11622 _ F12251 a0 A9417 c9418 n9419 A9424 c9425 n9426 A9431 c9432 n9433 A9438 c9439 n9440 x9416 A12243 c12244 n12245 rs11817_6_0 (Ctx.pre (qs := []) (rest := [CH.row g12238 0 q3, CH.row g52 0 q4, CH.row g8 0 q1]) C12254) hn9420 hl9421 hm9422 (Sl.mono hS9423 le12252 le12252) hn9427 hl9428 hm9429 (Sl.mono hS9430 le12252 le12252) hn9434 hl9435 hm9436 (Sl.mono hS9437 le12252 le12252) hn9441 hl9442 hm9443 (Sl.mono hS9444 le12252 le12252) ha12242 hn12246 hl12255 hm12256 hS12257 rs11817_7_0 rs11817_7_1 rs11817_7h) (Yenter.fn Try.func14 (by kernel_rfl) rfl (argsE (.cons rfl (.cons rfl (.cons rfl .nil))))) ?_)
      rintro e_ w_ ⟨F12258, A12260, c12261, n12262, p12264, A12266, c12267, n12268, p12270, A12272, c12273, n12274, p12276, A12278, c12279, n12280, p12282, rfl, le12259, C12284, hn12263, hR12265, hn12269, hR12271, hn12275, hR12277, hn12281, hR12283⟩
      have C12285 : Ctx _ _ _ _ _ [p12264, p12270, p12276, p12282, CH.row g12238 0 q3, CH.row g52 0 q4, CH.row g8 0 q1] := Ctx.call (qs := []) (rest := [CH.row g12238 0 q3, CH.row g52 0 q4, CH.row g8 0 q1]) C12254 C12284
      refine ⟨_, rfl, ⟨trivial, trivial, trivial, trivial⟩, ?_⟩
      let q7 : List Go.Value := [.slice A12260 n12262 c12261, .slice A12266 n12268 c12267, .slice A12272 n12274 c12273, .slice A12278 n12280 c12279, .int .i64 rs11817_7_0.Heads]
      refine WA.take none [] 8 rfl (by kernel_rfl) (by kernel_rfl) rfl trivial ⟨trivial, trivial, trivial, trivial⟩ (fun _ hC_ => Yl.move (v := .tuple #[(.agg (List.toArray q7)), (.int .i64 rs11817_7_1)]) rfl) ?_
      refine WA.take none [] 9 rfl (by kernel_rfl) (by kernel_rfl) rfl trivial ⟨trivial, trivial, trivial, trivial⟩ (fun _ hC_ => Yl.extract (v := .agg (List.toArray q7)) rfl rfl) ?_
      refine WA.take none [] 10 rfl (by kernel_rfl) (by kernel_rfl) rfl trivial ⟨trivial, trivial, trivial, trivial⟩ (fun _ hC_ => Yl.extract (v := .int .i64 rs11817_7_1) rfl rfl) ?_
      have C12286 : Ctx _ _ _ _ _ [CH.row g12238 0 q3, CH.emp, CH.emp, CH.emp, CH.emp, p12264, p12270, p12276, p12282, CH.row g52 0 q4, CH.row g8 0 q1] := Ctx.pick [4, 7, 7, 7, 7, 0, 1, 2, 3, 5, 6] C12285 rfl
      exact kJ12148 _ _ ⟨F12258, g12238, 0, none, 0, 0, CH.emp, none, 0, 0, CH.emp, none, 0, 0, CH.emp, none, 0, 0, CH.emp, A12260, c12261, n12262, p12264, A12266, c12267, n12268, p12270, A12272, c12273, n12274, p12276, A12278, c12279, n12280, p12282, ho9411, ho9412, ho9413, ho9414, rfl, rfl, rfl, C12286, (CH.le_trans le12252 le12259), rfl, (Row.nil _ _), rfl, (Row.nil _ _), rfl, (Row.nil _ _), rfl, (Row.nil _ _), hn12263, hR12265, hn12269, hR12271, hn12275, hR12277, hn12281, hR12283⟩
    ·rintro env_ w_ ⟨F12088, g12095, o12096, A12097, c12098, n12099, p12101, A12103, c12104, n12105, p12107, A12109, c12110, n12111, p12113, A12115, c12116, n12117, p12119, A12122, c12123, n12124, p12126, A12128, c12129, n12130, p12132, A12134, c12135, n12136, p12138, A12140, c12141, n12142, p12144, ho12090, ho12091, ho12092, ho12093, ho12094, ho12121, ho12146, C12147, le12089, hn12100, hR12102, hn12106, hR12108, hn12112, hR12114, hn12118, hR12120, hn12125, hR12127, hn12131, hR12133, hn12137, hR12139, hn12143, hR12145⟩
     let q8 : List Go.Value := [.slice A12122 n12124 c12123, .slice A12128 n12130 c12129, .slice A12134 n12136 c12135, .slice A12140 n12142 c12141, .int .i64 rs11817_7_0.Heads]
     obtain ⟨w12287, hy12288, C12289⟩ := ev_setI (P := Try.prog) (ps1 := []) (ps2 := [p12101, p12107, p12113, p12119, p12126, p12132, p12138, p12144, CH.row g52 0 q4, CH.row g8 0 q1]) (t := 32) 0 q8 (.agg (List.toArray q8)) C12147 rfl rfl (ones_of rfl) sz32
     have C12290 : Ctx _ _ _ _ _ [CH.row g12095 o12096 q8, p12101, p12107, p12113, p12119, p12126, p12132, p12138, p12144, CH.row g52 0 q4, CH.row g8 0 q1] := C12289
     refine WA.up1 12 (by kernel_rfl) (Up.skip rfl rfl (hy12288 _ _ _ _ ho12094 ho12121) ⟨trivial, trivial, trivial, trivial⟩ ?_)
     refine WA.take none [] 13 rfl (by kernel_rfl) (by kernel_rfl) rfl trivial ⟨trivial, trivial, trivial, trivial⟩ (fun _ hC_ => Yl.assign (v := .int .i64 rs11817_7_1) ho12146) ?_
     refine WA.done (by kernel_rfl) ?_
     refine W.seq ?_
     refine W.seq ?_
     refine W.region rfl ?_
     refine WL.val (Yl.move (v := .int .i64 rs11817_7_1) rfl) ?_
     refine WL.val (Yl.neq (m := rs11817_7_1) (n := 0) (q := !decide (rs11817_7_1 = 0)) rfl rfl rfl) ?_
     refine WL.done ?_
     rcases iteE hX6964 with ⟨hc12291, hX6964⟩ | ⟨hc12291, hX6964⟩
     ·refine W.condF (congrArg Value.bool (ndec_t hc12291)) ?_
      refine W.skip ?_
      refine W.seq ?_
      refine W.seq ?_
      refine W.region rfl ?_
      refine WL.val (Yl.fieldAddr (i := 1) ho12094 Try.underlying32 rfl sz28) ?_
      refine WL.val (Yl.loadV (g := g12095) (off := o12096) (o := 1) (cs := q8) (v := .slice A12128 n12130 c12129) rfl Try.underlying28 rfl (Ctx.subI 0 C12290 rfl) rfl) ?_
      refine WL.val (Yl.lenN (A := A12128) (l := n12130) (q := c12129) (n := (rs11817_7_0.Jobs.length : Int)) rfl Try.underlying28 (by omega)) ?_
      refine WL.val (Yl.fieldAddr (i := 1) ho12092 Try.underlying32 rfl sz28) ?_
      refine WL.val (Yl.loadV (g := g52) (off := 0) (o := 1) (cs := q4) (v := .slice A9424 n9426 c9425) rfl Try.underlying28 rfl (Ctx.subI 9 C12290 rfl) rfl) ?_
      refine WL.val (Yl.lenN (A := A9424) (l := n9426) (q := c9425) (n := (x9416.Jobs.length : Int)) rfl Try.underlying28 (by omega)) ?_
      refine WL.val (Yl.lss (m := (rs11817_7_0.Jobs.length : Int)) (n := (x9416.Jobs.length : Int)) (q := decide ((rs11817_7_0.Jobs.length : Int) < (x9416.Jobs.length : Int))) rfl rfl rfl) ?_
      refine WL.done ?_
      rcases iteE hX6964 with ⟨hc12292, hX6964⟩ | ⟨hc12292, hX6964⟩
      ·refine W.condT (congrArg Value.bool (decide_eq_true hc12292)) ?_
       refine W.seq ?_
       refine W.region rfl ?_
       refine WL.val (Yl.assign (v := .bool false) rfl) ?_
       refine WL.done ?_
       refine W.ret ?_
       refine thenE_r ?_
       refine inB_r ?_
       refine thenE_r ?_
       refine thenE_r ?_
       refine inB_r ?_
       refine thenE_r ?_
       refine thenE_r ?_
       cases hX6964
       replace H := sumE_r H
       have C12293 : Ctx _ _ _ _ _ [] := Ctx.pick [] C12290 rfl
       have e12294 := Option.some.inj H
       subst e12294
       exact post_r (resE1 rfl rfl) ⟨rfl, (Ctx.weak C12293 (CH.le_refl _))⟩
      ·refine W.condF (congrArg Value.bool (decide_eq_false hc12292)) ?_
       refine W.skip ?_
       refine W.seq ?_
       refine W.seq ?_
       refine W.region rfl ?_
       refine WL.val (Yl.assign (v := .int .i64 0) rfl) ?_
       refine WL.done ?_
       obtain ⟨o13066, hX13065, hX6964⟩ := bindE hX6964
       refine W.cutM (fun env_ w_ => env_ 1 = .slice A1 n3 c2 ∧ env_ 2 = .pointer (some ⟨g8, 0, none⟩) ∧ env_ 5 = .pointer (some ⟨g52, 0, none⟩) ∧ env_ 7 = .int .i64 x9415 ∧ env_ 8 = .pointer (some ⟨g12095, o12096, none⟩) ∧ Ctx w F D w_ F12088 [CH.row g12095 o12096 q8, p12101, p12107, p12113, p12119, p12126, p12132, p12138, p12144, CH.row g52 0 q4, CH.row g8 0 q1] ∧ o13066 = Sum.inl ()) ?_ ?_
       ·refine W.block ?_
        refine W.loop (fun g_ env_ w_ => ∃ (x13073 : Int), env_ 1 = .slice A1 n3 c2 ∧ env_ 2 = .pointer (some ⟨g8, 0, none⟩) ∧ env_ 5 = .pointer (some ⟨g52, 0, none⟩) ∧ env_ 7 = .int .i64 x9415 ∧ env_ 8 = .pointer (some ⟨g12095, o12096, none⟩) ∧ env_ 10 = .int .i64 x13073 ∧ Ctx w F D w_ F12088 [CH.row g12095 o12096 q8, p12101, p12107, p12113, p12119, p12126, p12132, p12138, p12144, CH.row g52 0 q4, CH.row g8 0 q1] ∧ juratlaw21_DocketStays.l2 g_ x9416 rs11817_7_0 x13073 = some o13066) k11622 ⟨0, ho12090, ho12091, ho12092, ho12093, ho12094, rfl, C12290, hX13065⟩ ?_
        clear hX13065
        rintro g_ env_ w_ ⟨x13073, ho13067, ho13068, ho13069, ho13070, ho13071, ho13072, C13074, hX13065⟩
        rcases g_ with _ | k13452
        · exact absurd hX13065 (by simp [juratlaw21_DocketStays.l2])
        rw [juratlaw21_DocketStays.l2] at hX13065
        refine W.seq ?_
        refine W.seq ?_
        refine W.region rfl ?_
        refine WL.val (Yl.move (v := .int .i64 x13073) ho13072) ?_
        refine WL.val (Yl.fieldAddr (i := 1) ho13069 Try.underlying32 rfl sz28) ?_
        refine WL.val (Yl.loadV (g := g52) (off := 0) (o := 1) (cs := q4) (v := .slice A9424 n9426 c9425) rfl Try.underlying28 rfl (Ctx.subI 9 C13074 rfl) rfl) ?_
        refine WL.val (Yl.lenN (A := A9424) (l := n9426) (q := c9425) (n := (x9416.Jobs.length : Int)) rfl Try.underlying28 (by omega)) ?_
        refine WL.val (Yl.lss (m := x13073) (n := (x9416.Jobs.length : Int)) (q := decide (x13073 < (x9416.Jobs.length : Int))) rfl rfl rfl) ?_
        refine WL.done ?_
        rcases iteE hX13065 with ⟨hc13453, hX13065⟩ | ⟨hc13453, hX13065⟩
        ·refine W.condT (congrArg Value.bool (decide_eq_true hc13453)) ?_
         refine W.skip ?_
         refine W.seq ?_
         refine W.block ?_
         refine W.seq ?_
         refine W.regionA [([12, 13], CH.row g52 0 q4), ([12, 13], F12088), ([13], CH.row g12095 o12096 q8), ([13], p12132)] (by kernel_rfl) ?_
         have C13556 := Ctx.drewN C13074 1
         refine WA.takes [(0, none), (1, some 0), (2, none), (3, none), (4, some 1), (5, none), (6, some 2), (7, none), (8, none), (9, some 3)] ⟨(Ctx.subI 9 C13556 rfl), (C13556.fro), (Ctx.subI 0 C13556 rfl), (Ctx.subI 6 C13556 rfl), trivial⟩ (by kernel_rfl) ?_
         refine WT.val rfl (fun _ hC_ => Yl.fieldAddr (i := 1) (by exact ho13069) Try.underlying32 rfl sz28) ?_
         refine WT.val rfl (fun _ hC_ => Yl.loadV (g := g52) (off := 0) (o := 1) (cs := q4) (v := .slice A9424 n9426 c9425) rfl Try.underlying28 rfl (show Sub (CH.row g52 0 q4) _ from hC_) rfl) ?_
         refine WT.val rfl (fun _ hC_ => Yl.move (v := .int .i64 x13073) (by exact ho13072)) ?_
         obtain ⟨hc13643, hX13065⟩ := guardE hX13065
         obtain ⟨b13644, of13645, hA13646, he13647⟩ := hS9430 (by omega)
         refine WT.val rfl (fun _ hC_ => Yl.elemAddr (i := x13073) rfl rfl hA13646 Try.underlying28 sz55 (by omega)) ?_
         obtain ⟨cs13648, hr13649, hx13650⟩ := he13647 x13073.toNat _ (getD_some (d := TJob.z) (by omega))
         obtain ⟨A13651, c13652, n13653, A13658, c13659, n13660, A13665, c13666, n13667, A13672, c13673, n13674, A13679, c13680, n13681, rfl, hn13654, hl13655, hm13656, hS13657, hn13661, hl13662, hm13663, hS13664, hn13668, hl13669, hm13670, hS13671, hn13675, hl13676, hm13677, hS13678, hn13682, hl13683, hm13684, hS13685⟩ := TJob.open hr13649
         let q9 : List Go.Value := [.slice A13651 n13653 c13652, .int .i64 ((x9416.Jobs.getD x13073.toNat TJob.z).State), .int .i64 ((x9416.Jobs.getD x13073.toNat TJob.z).Attempt), .int .i64 ((x9416.Jobs.getD x13073.toNat TJob.z).Epoch), .int .i64 ((x9416.Jobs.getD x13073.toNat TJob.z).Until), .slice A13658 n13660 c13659, .slice A13665 n13667 c13666, .slice A13672 n13674 c13673, .slice A13679 n13681 c13680]
         refine WT.val rfl (fun _ hC_ => Yl.loadAgg (cs := q9) rfl Try.underlying55 rfl sz55 (fun j u hu => by rw [add_of]; exact ((Sub.mono (show Sub F12088 _ from hC_) le12089)).cell (hx13650 _ _ hu))) ?_
         refine WT.val rfl (fun _ hC_ => Yl.fieldAddr (i := 1) (by exact ho13071) Try.underlying32 rfl sz28) ?_
         refine WT.val rfl (fun _ hC_ => Yl.loadV (g := g12095) (off := o12096) (o := 1) (cs := q8) (v := .slice A12128 n12130 c12129) rfl Try.underlying28 rfl (show Sub (CH.row g12095 o12096 q8) _ from hC_) rfl) ?_
         refine WT.val rfl (fun _ hC_ => Yl.move (v := .int .i64 x13073) (by exact ho13072)) ?_
         obtain ⟨hc13686, hX13065⟩ := guardE hX13065
         obtain ⟨b13687, of13688, hA13689, he13690⟩ := (Row.sl hR12133) (by omega)
         refine WT.val rfl (fun _ hC_ => Yl.elemAddr (i := x13073) rfl rfl hA13689 Try.underlying28 sz55 (by omega)) ?_
         obtain ⟨cs13691, hr13692, hx13693⟩ := he13690 x13073.toNat _ (getD_some (d := TJob.z) (by omega))
         obtain ⟨A13694, c13695, n13696, A13701, c13702, n13703, A13708, c13709, n13710, A13715, c13716, n13717, A13722, c13723, n13724, rfl, hn13697, hl13698, hm13699, hS13700, hn13704, hl13705, hm13706, hS13707, hn13711, hl13712, hm13713, hS13714, hn13718, hl13719, hm13720, hS13721, hn13725, hl13726, hm13727, hS13728⟩ := TJob.open hr13692
         let q10 : List Go.Value := [.slice A13694 n13696 c13695, .int .i64 ((rs11817_7_0.Jobs.getD x13073.toNat TJob.z).State), .int .i64 ((rs11817_7_0.Jobs.getD x13073.toNat TJob.z).Attempt), .int .i64 ((rs11817_7_0.Jobs.getD x13073.toNat TJob.z).Epoch), .int .i64 ((rs11817_7_0.Jobs.getD x13073.toNat TJob.z).Until), .slice A13701 n13703 c13702, .slice A13708 n13710 c13709, .slice A13715 n13717 c13716, .slice A13722 n13724 c13723]
         refine WT.val rfl (fun _ hC_ => Yl.loadAgg (cs := q10) rfl Try.underlying55 rfl sz55 (fun j u hu => by rw [add_of]; exact ((show Sub p12132 _ from hC_)).cell (hx13693 _ _ hu))) ?_
         refine WT.done ?_
         let q11 : List Go.Value := [.slice none 0 0, .int .i64 0, .int .i64 0, .int .i64 0, .int .i64 0, .slice none 0 0, .slice none 0 0, .slice none 0 0, .slice none 0 0]
         refine WA.par (fun L_ env_ w_ => ∃ (g13738 : Nat) (p13739 : CH) (g13740 : Nat) (p13741 : CH), Ctx w F D w_ F12088 [p13739, p13741, CH.row g12095 o12096 q8, p12101, p12107, p12113, p12119, p12126, p12132, p12138, p12144, CH.row g52 0 q4, CH.row g8 0 q1] ∧ env_ 1 = .slice A1 n3 c2 ∧ env_ 2 = .pointer (some ⟨g8, 0, none⟩) ∧ env_ 5 = .pointer (some ⟨g52, 0, none⟩) ∧ env_ 7 = .int .i64 x9415 ∧ env_ 8 = .pointer (some ⟨g12095, o12096, none⟩) ∧ env_ 10 = .int .i64 x13073 ∧ env_ 58 = .agg (List.toArray q9) ∧ env_ 63 = .agg (List.toArray q10) ∧ cond (L_ 10) (env_ 11 = .pointer (some ⟨g13738, 0, none⟩) ∧ p13739 = CH.row g13738 0 q11) (True) ∧ cond (L_ 11) (env_ 12 = .pointer (some ⟨g13740, 0, none⟩) ∧ p13741 = CH.row g13740 0 q11) (True)) [(10, [], []), (11, [], [])] [0, 1, 2, 3, 4, 5, 6, 7, 8, 9] [0, 1, 2, 3, 4, 5, 6, 7, 8, 9, 10, 11] #[true, true, true, true, true, true, true, true, true, true, true, true, false, false] 2 2 (by kernel_rfl) ?_ (.cons ?_ (.cons ?_ .nil)) ?_
         ·have C13742 := Ctx.emp C13556
          have C13743 := Ctx.emp C13742
          exact ⟨0, CH.emp, 0, CH.emp, C13743, ho13067, ho13068, ho13069, ho13070, ho13071, ho13072, rfl, rfl, (iF rfl trivial), (iF rfl trivial)⟩
         ·intro L_ env_ w_ hk_ hI_
          obtain ⟨k13756, _⟩ := hk_
          obtain ⟨g13738, p13739, g13740, p13741, C13744, ho13746, ho13747, ho13748, ho13749, ho13750, ho13751, ho13752, ho13753, hT13754, hT13755⟩ := hI_
          obtain ⟨g13757, w13758, hy13759, C13760⟩ := ev_alloc (P := Try.prog) (e := 55) q11 C13744 zr55 rfl
          refine UpI.val rfl rfl (hy13759 _ _) ⟨(Ctx.subI 12 C13760 rfl), (C13760.fro), (Ctx.subI 3 C13760 rfl), (Ctx.subI 9 C13760 rfl), trivial⟩ ?_
          have C13761 : Ctx _ _ _ _ _ [CH.row g13757 0 q11, p13741, CH.row g12095 o12096 q8, p12101, p12107, p12113, p12119, p12126, p12132, p12138, p12144, CH.row g52 0 q4, CH.row g8 0 q1] := Ctx.pick [0, 2, 3, 4, 5, 6, 7, 8, 9, 10, 11, 12, 13] C13760 rfl
          exact ⟨g13757, (CH.row g13757 0 q11), g13740, p13741, C13761, ho13746, ho13747, ho13748, ho13749, ho13750, ho13751, ho13752, ho13753, (iT rfl ⟨rfl, rfl⟩), hT13755⟩
         ·intro L_ env_ w_ hk_ hI_
          obtain ⟨k13774, _⟩ := hk_
          obtain ⟨g13738, p13739, g13740, p13741, C13762, ho13764, ho13765, ho13766, ho13767, ho13768, ho13769, ho13770, ho13771, hT13772, hT13773⟩ := hI_
          obtain ⟨g13775, w13776, hy13777, C13778⟩ := ev_alloc (P := Try.prog) (e := 55) q11 C13762 zr55 rfl
          refine UpI.val rfl rfl (hy13777 _ _) ⟨(Ctx.subI 12 C13778 rfl), (C13778.fro), (Ctx.subI 3 C13778 rfl), (Ctx.subI 9 C13778 rfl), trivial⟩ ?_
          have C13779 : Ctx _ _ _ _ _ [p13739, CH.row g13775 0 q11, CH.row g12095 o12096 q8, p12101, p12107, p12113, p12119, p12126, p12132, p12138, p12144, CH.row g52 0 q4, CH.row g8 0 q1] := Ctx.pick [1, 0, 3, 4, 5, 6, 7, 8, 9, 10, 11, 12, 13] C13778 rfl
          exact ⟨g13738, p13739, g13775, (CH.row g13775 0 q11), C13779, ho13764, ho13765, ho13766, ho13767, ho13768, ho13769, ho13770, ho13771, hT13772, (iT rfl ⟨rfl, rfl⟩)⟩
         ·rintro env_ w_ ⟨g13738, p13739, g13740, p13741, C13780, ho13782, ho13783, ho13784, ho13785, ho13786, ho13787, ho13788, ho13789, hT13790, hT13791⟩
          obtain ⟨e13792, rfl⟩ := cT rfl hT13790
          obtain ⟨e13793, rfl⟩ := cT rfl hT13791
          obtain ⟨w13794, hy13795, C13796⟩ := ev_setI (P := Try.prog) (ps1 := []) (ps2 := [CH.row g13740 0 q11, CH.row g12095 o12096 q8, p12101, p12107, p12113, p12119, p12126, p12132, p12138, p12144, CH.row g52 0 q4, CH.row g8 0 q1]) (t := 55) 0 q9 (.agg (List.toArray q9)) C13780 rfl rfl (ones_of rfl) sz55
          have C13797 : Ctx _ _ _ _ _ [CH.row g13738 0 q9, CH.row g13740 0 q11, CH.row g12095 o12096 q8, p12101, p12107, p12113, p12119, p12126, p12132, p12138, p12144, CH.row g52 0 q4, CH.row g8 0 q1] := C13796
          refine WA.up1 12 (by kernel_rfl) (Up.skip rfl rfl (hy13795 _ _ _ _ e13792 ho13788) ⟨trivial, trivial, (Ctx.subI 2 C13797 rfl), (Ctx.subI 8 C13797 rfl), trivial⟩ ?_)
          obtain ⟨w13798, hy13799, C13800⟩ := ev_setI (P := Try.prog) (ps1 := [CH.row g13738 0 q9]) (ps2 := [CH.row g12095 o12096 q8, p12101, p12107, p12113, p12119, p12126, p12132, p12138, p12144, CH.row g52 0 q4, CH.row g8 0 q1]) (t := 55) 0 q10 (.agg (List.toArray q10)) C13797 rfl rfl (ones_of rfl) sz55
          have C13801 : Ctx _ _ _ _ _ [CH.row g13738 0 q9, CH.row g13740 0 q10, CH.row g12095 o12096 q8, p12101, p12107, p12113, p12119, p12126, p12132, p12138, p12144, CH.row g52 0 q4, CH.row g8 0 q1] := C13800
          refine WA.up1 13 (by kernel_rfl) (Up.skip rfl rfl (hy13799 _ _ _ _ e13793 ho13789) ⟨trivial, trivial, trivial, trivial, trivial⟩ ?_)
          refine WA.done (by kernel_rfl) ?_
          refine W.seq ?_
          refine W.region rfl ?_
          refine WL.val (Yl.fieldAddr (i := 0) e13792 Try.underlying55 rfl sz44) ?_
          refine WL.val (Yl.loadV (g := g13738) (off := 0) (o := 0) (cs := q9) (v := .slice A13651 n13653 c13652) rfl Try.underlying44 rfl (Ctx.subI 0 C13801 rfl) rfl) ?_
          refine WL.val (Yl.fieldAddr (i := 0) e13793 Try.underlying55 rfl sz44) ?_
          refine WL.val (Yl.loadV (g := g13740) (off := 0) (o := 0) (cs := q10) (v := .slice A13694 n13696 c13695) rfl Try.underlying44 rfl (Ctx.subI 1 C13801 rfl) rfl) ?_
          obtain ⟨r13807, hg13806, hX13065⟩ := bindE hX13065
          refine WL.callH (juratref01_Same.calls k13452 _ F12088 A13651 c13652 n13653 ((x9416.Jobs.getD x13073.toNat TJob.z).Payload) A13694 c13695 n13696 ((rs11817_7_0.Jobs.getD x13073.toNat TJob.z).Payload) C13801.pre0 hn13654 hl13655 hm13656 (Sl.mono hS13657 le12089 le12089) hn13697 hl13698 hm13699 hS13700 r13807 hg13806) (Yenter.fn Try.func21 (by kernel_rfl) rfl (argsE (.cons rfl (.cons rfl .nil)))) ?_
          rintro e_ w_ ⟨rfl, ⟨m13808, rfl⟩⟩
          refine ⟨_, rfl, ?_⟩
          have C13809 := Ctx.drewN C13801 m13808
          refine WL.val (Yl.not (p := r13807) (q := !r13807) rfl rfl) ?_
          refine WL.val (Yl.move (v := .bool (!r13807)) rfl) ?_
          obtain ⟨g13810, HE13811, hX13065⟩ := bindE hX13065
          refine WL.cut (fun env_ w_ => env_ 101 = .bool g13810 ∧ env_ 1 = .slice A1 n3 c2 ∧ env_ 2 = .pointer (some ⟨g8, 0, none⟩) ∧ env_ 5 = .pointer (some ⟨g52, 0, none⟩) ∧ env_ 7 = .int .i64 x9415 ∧ env_ 8 = .pointer (some ⟨g12095, o12096, none⟩) ∧ env_ 10 = .int .i64 x13073 ∧ Ctx w F D w_ F12088 [CH.row g13738 0 q9, CH.row g13740 0 q10, CH.row g12095 o12096 q8, p12101, p12107, p12113, p12119, p12126, p12132, p12138, p12144, CH.row g52 0 q4, CH.row g8 0 q1]) ?_ ?_
          ·rcases iteE HE13811 with ⟨hc13812, HE13811⟩ | ⟨hc13812, HE13811⟩
           ·refine WL.valOn rfl (congrArg Value.bool (nb_t hc13812)) (Yl.fieldAddr (i := 2) e13793 Try.underlying55 rfl sz3) ?_
            refine WL.valOn rfl (congrArg Value.bool (nb_t hc13812)) (Yl.loadV (g := g13740) (off := 0) (o := 2) (cs := q10) (v := .int .i64 ((rs11817_7_0.Jobs.getD x13073.toNat TJob.z).Attempt)) rfl Try.underlying3 rfl (Ctx.subI 1 C13809 rfl) rfl) ?_
            refine WL.valOn rfl (congrArg Value.bool (nb_t hc13812)) (Yl.fieldAddr (i := 2) e13792 Try.underlying55 rfl sz3) ?_
            refine WL.valOn rfl (congrArg Value.bool (nb_t hc13812)) (Yl.loadV (g := g13738) (off := 0) (o := 2) (cs := q9) (v := .int .i64 ((x9416.Jobs.getD x13073.toNat TJob.z).Attempt)) rfl Try.underlying3 rfl (Ctx.subI 0 C13809 rfl) rfl) ?_
            refine WL.valOn rfl (congrArg Value.bool (nb_t hc13812)) (Yl.lss (m := (rs11817_7_0.Jobs.getD x13073.toNat TJob.z).Attempt) (n := (x9416.Jobs.getD x13073.toNat TJob.z).Attempt) (q := decide (((rs11817_7_0.Jobs.getD x13073.toNat TJob.z).Attempt) < ((x9416.Jobs.getD x13073.toNat TJob.z).Attempt))) rfl rfl rfl) ?_
            refine WL.val (Yl.pickF (v := .bool (decide (((rs11817_7_0.Jobs.getD x13073.toNat TJob.z).Attempt) < ((x9416.Jobs.getD x13073.toNat TJob.z).Attempt)))) (congrArg Value.bool (nb_t hc13812)) rfl) ?_
            refine WL.val (Yl.move (v := .bool (decide (((rs11817_7_0.Jobs.getD x13073.toNat TJob.z).Attempt) < ((x9416.Jobs.getD x13073.toNat TJob.z).Attempt)))) rfl) ?_
            rcases iteE HE13811 with ⟨hc13813, HE13811⟩ | ⟨hc13813, HE13811⟩
            ·refine WL.offs 4 77 false (congrArg Value.bool (decide_eq_true hc13813)) rfl ?_
             refine WL.offs' 4 81 true rfl rfl ?_
             refine WL.offs' 6 85 false rfl rfl ?_
             refine WL.offs' 2 81 true rfl rfl ?_
             refine WL.offs' 5 93 false rfl rfl ?_
             refine WL.offs' 1 81 true rfl rfl ?_
             refine WL.offs 1 77 false (congrArg Value.bool (decide_eq_true hc13813)) rfl ?_
             refine WL.val (Yl.pickT (v := .bool true) (congrArg Value.bool (decide_eq_true hc13813)) rfl) ?_
             cases HE13811
             exact WL.done ⟨rfl, ho13782, ho13783, ho13784, ho13785, ho13786, ho13787, C13809⟩
            ·refine WL.valOn rfl (congrArg Value.bool (decide_eq_false hc13813)) (Yl.fieldAddr (i := 1) e13792 Try.underlying55 rfl sz3) ?_
             refine WL.valOn rfl (congrArg Value.bool (decide_eq_false hc13813)) (Yl.loadV (g := g13738) (off := 0) (o := 1) (cs := q9) (v := .int .i64 ((x9416.Jobs.getD x13073.toNat TJob.z).State)) rfl Try.underlying3 rfl (Ctx.subI 0 C13809 rfl) rfl) ?_
             refine WL.valOn rfl (congrArg Value.bool (decide_eq_false hc13813)) (Yl.eql (m := (x9416.Jobs.getD x13073.toNat TJob.z).State) (n := 3) (q := decide (((x9416.Jobs.getD x13073.toNat TJob.z).State) = 3)) rfl rfl rfl) ?_
             refine WL.valOn rfl (congrArg Value.bool (decide_eq_false hc13813)) (Yl.move (v := .bool (decide (((x9416.Jobs.getD x13073.toNat TJob.z).State) = 3))) rfl) ?_
             rcases iteE HE13811 with ⟨hc13814, HE13811⟩ | ⟨hc13814, HE13811⟩
             ·refine WL.valOn rfl (congrArg Value.bool (decide_eq_true hc13814)) (Yl.fieldAddr (i := 1) e13793 Try.underlying55 rfl sz3) ?_
              refine WL.valOn rfl (congrArg Value.bool (decide_eq_true hc13814)) (Yl.loadV (g := g13740) (off := 0) (o := 1) (cs := q10) (v := .int .i64 ((rs11817_7_0.Jobs.getD x13073.toNat TJob.z).State)) rfl Try.underlying3 rfl (Ctx.subI 1 C13809 rfl) rfl) ?_
              refine WL.valOn rfl (congrArg Value.bool (decide_eq_true hc13814)) (Yl.neq (m := (rs11817_7_0.Jobs.getD x13073.toNat TJob.z).State) (n := 3) (q := !decide (((rs11817_7_0.Jobs.getD x13073.toNat TJob.z).State) = 3)) rfl rfl rfl) ?_
              refine WL.valOn rfl (congrArg Value.bool (decide_eq_true hc13814)) (Yl.move (v := .bool (!decide (((rs11817_7_0.Jobs.getD x13073.toNat TJob.z).State) = 3))) rfl) ?_
              rcases iteE HE13811 with ⟨hc13815, HE13811⟩ | ⟨hc13815, HE13811⟩
              ·refine WL.valOn rfl (congrArg Value.bool (ndec_t hc13815)) (Yl.fieldAddr (i := 8) e13792 Try.underlying55 rfl sz44) ?_
               refine WL.valOn rfl (congrArg Value.bool (ndec_t hc13815)) (Yl.loadV (g := g13738) (off := 0) (o := 8) (cs := q9) (v := .slice A13679 n13681 c13680) rfl Try.underlying44 rfl (Ctx.subI 0 C13809 rfl) rfl) ?_
               refine WL.valOn rfl (congrArg Value.bool (ndec_t hc13815)) (Yl.fieldAddr (i := 8) e13793 Try.underlying55 rfl sz44) ?_
               refine WL.valOn rfl (congrArg Value.bool (ndec_t hc13815)) (Yl.loadV (g := g13740) (off := 0) (o := 8) (cs := q10) (v := .slice A13722 n13724 c13723) rfl Try.underlying44 rfl (Ctx.subI 1 C13809 rfl) rfl) ?_
               refine WL.on rfl (congrArg Value.bool (ndec_t hc13815)) ?_
               obtain ⟨r13817, hg13816, HE13811⟩ := bindE HE13811
               refine WL.callH (juratref01_Same.calls k13452 _ F12088 A13679 c13680 n13681 ((x9416.Jobs.getD x13073.toNat TJob.z).Value) A13722 c13723 n13724 ((rs11817_7_0.Jobs.getD x13073.toNat TJob.z).Value) C13809.pre0 hn13682 hl13683 hm13684 (Sl.mono hS13685 le12089 le12089) hn13725 hl13726 hm13727 hS13728 r13817 hg13816) (Yenter.fn Try.func21 (by kernel_rfl) rfl (argsE (.cons rfl (.cons rfl .nil)))) ?_
               rintro e_ w_ ⟨rfl, ⟨m13818, rfl⟩⟩
               refine ⟨_, rfl, ?_⟩
               have C13819 := Ctx.drewN C13809 m13818
               refine WL.valOn rfl (congrArg Value.bool (ndec_t hc13815)) (Yl.not (p := r13817) (q := !r13817) rfl rfl) ?_
               refine WL.valOn rfl (congrArg Value.bool (decide_eq_true hc13814)) (Yl.pickF (v := .bool (!r13817)) (congrArg Value.bool (ndec_t hc13815)) rfl) ?_
               refine WL.valOn rfl (congrArg Value.bool (decide_eq_true hc13814)) (Yl.move (v := .bool (!r13817)) rfl) ?_
               rcases iteE HE13811 with ⟨hc13820, HE13811⟩ | ⟨hc13820, HE13811⟩
               ·refine WL.valOn rfl (congrArg Value.bool (nb_t hc13820)) (Yl.fieldAddr (i := 3) e13792 Try.underlying55 rfl sz3) ?_
                refine WL.valOn rfl (congrArg Value.bool (nb_t hc13820)) (Yl.loadV (g := g13738) (off := 0) (o := 3) (cs := q9) (v := .int .i64 ((x9416.Jobs.getD x13073.toNat TJob.z).Epoch)) rfl Try.underlying3 rfl (Ctx.subI 0 C13819 rfl) rfl) ?_
                refine WL.valOn rfl (congrArg Value.bool (nb_t hc13820)) (Yl.fieldAddr (i := 3) e13793 Try.underlying55 rfl sz3) ?_
                refine WL.valOn rfl (congrArg Value.bool (nb_t hc13820)) (Yl.loadV (g := g13740) (off := 0) (o := 3) (cs := q10) (v := .int .i64 ((rs11817_7_0.Jobs.getD x13073.toNat TJob.z).Epoch)) rfl Try.underlying3 rfl (Ctx.subI 1 C13819 rfl) rfl) ?_
                refine WL.valOn rfl (congrArg Value.bool (nb_t hc13820)) (Yl.neq (m := (x9416.Jobs.getD x13073.toNat TJob.z).Epoch) (n := (rs11817_7_0.Jobs.getD x13073.toNat TJob.z).Epoch) (q := !decide (((x9416.Jobs.getD x13073.toNat TJob.z).Epoch) = ((rs11817_7_0.Jobs.getD x13073.toNat TJob.z).Epoch))) rfl rfl rfl) ?_
                refine WL.valOn rfl (congrArg Value.bool (decide_eq_true hc13814)) (Yl.pickF (v := .bool (!decide (((x9416.Jobs.getD x13073.toNat TJob.z).Epoch) = ((rs11817_7_0.Jobs.getD x13073.toNat TJob.z).Epoch)))) (congrArg Value.bool (nb_t hc13820)) rfl) ?_
                refine WL.valOn rfl (congrArg Value.bool (decide_eq_false hc13813)) (Yl.pickT (v := .bool (!decide (((x9416.Jobs.getD x13073.toNat TJob.z).Epoch) = ((rs11817_7_0.Jobs.getD x13073.toNat TJob.z).Epoch)))) (congrArg Value.bool (decide_eq_true hc13814)) rfl) ?_
                refine WL.val (Yl.pickF (v := .bool (!decide (((x9416.Jobs.getD x13073.toNat TJob.z).Epoch) = ((rs11817_7_0.Jobs.getD x13073.toNat TJob.z).Epoch)))) (congrArg Value.bool (decide_eq_false hc13813)) rfl) ?_
                cases HE13811
                exact WL.done ⟨rfl, ho13782, ho13783, ho13784, ho13785, ho13786, ho13787, C13819⟩
               ·refine WL.offs 5 93 false (congrArg Value.bool (nb_f hc13820)) rfl ?_
                refine WL.valOn rfl (congrArg Value.bool (decide_eq_true hc13814)) (Yl.pickT (v := .bool true) (congrArg Value.bool (nb_f hc13820)) rfl) ?_
                refine WL.valOn rfl (congrArg Value.bool (decide_eq_false hc13813)) (Yl.pickT (v := .bool true) (congrArg Value.bool (decide_eq_true hc13814)) rfl) ?_
                refine WL.val (Yl.pickF (v := .bool true) (congrArg Value.bool (decide_eq_false hc13813)) rfl) ?_
                cases HE13811
                exact WL.done ⟨rfl, ho13782, ho13783, ho13784, ho13785, ho13786, ho13787, C13819⟩
              ·refine WL.offs 6 85 false (congrArg Value.bool (ndec_f hc13815)) rfl ?_
               refine WL.valOn rfl (congrArg Value.bool (decide_eq_true hc13814)) (Yl.pickT (v := .bool true) (congrArg Value.bool (ndec_f hc13815)) rfl) ?_
               refine WL.valOn rfl (congrArg Value.bool (decide_eq_true hc13814)) (Yl.move (v := .bool true) rfl) ?_
               refine WL.offs 5 93 false rfl rfl ?_
               refine WL.valOn rfl (congrArg Value.bool (decide_eq_true hc13814)) (Yl.pickT (v := .bool true) rfl rfl) ?_
               refine WL.valOn rfl (congrArg Value.bool (decide_eq_false hc13813)) (Yl.pickT (v := .bool true) (congrArg Value.bool (decide_eq_true hc13814)) rfl) ?_
               refine WL.val (Yl.pickF (v := .bool true) (congrArg Value.bool (decide_eq_false hc13813)) rfl) ?_
               cases HE13811
               exact WL.done ⟨rfl, ho13782, ho13783, ho13784, ho13785, ho13786, ho13787, C13809⟩
             ·refine WL.offs 4 81 true (congrArg Value.bool (decide_eq_false hc13814)) rfl ?_
              refine WL.offs' 6 85 false rfl rfl ?_
              refine WL.offs 2 81 true (congrArg Value.bool (decide_eq_false hc13814)) rfl ?_
              refine WL.offs' 5 93 false rfl rfl ?_
              refine WL.offs 1 81 true (congrArg Value.bool (decide_eq_false hc13814)) rfl ?_
              refine WL.valOn rfl (congrArg Value.bool (decide_eq_false hc13813)) (Yl.pickF (v := .bool false) (congrArg Value.bool (decide_eq_false hc13814)) rfl) ?_
              refine WL.val (Yl.pickF (v := .bool false) (congrArg Value.bool (decide_eq_false hc13813)) rfl) ?_
              cases HE13811
              exact WL.done ⟨rfl, ho13782, ho13783, ho13784, ho13785, ho13786, ho13787, C13809⟩
           ·refine WL.offs 5 70 false (congrArg Value.bool (nb_f hc13812)) rfl ?_
            refine WL.val (Yl.pickT (v := .bool true) (congrArg Value.bool (nb_f hc13812)) rfl) ?_
            refine WL.val (Yl.move (v := .bool true) rfl) ?_
            refine WL.offs 4 77 false rfl rfl ?_
            refine WL.offs' 4 81 true rfl rfl ?_
            refine WL.offs' 6 85 false rfl rfl ?_
            refine WL.offs' 2 81 true rfl rfl ?_
            refine WL.offs' 5 93 false rfl rfl ?_
            refine WL.offs' 1 81 true rfl rfl ?_
            refine WL.offs 1 77 false rfl rfl ?_
            refine WL.val (Yl.pickT (v := .bool true) rfl rfl) ?_
            cases HE13811
            exact WL.done ⟨rfl, ho13782, ho13783, ho13784, ho13785, ho13786, ho13787, C13809⟩
          ·rintro env_ w_ ⟨ho13821, ho13822, ho13823, ho13824, ho13825, ho13826, ho13827, C13828⟩
           rcases iteE hX13065 with ⟨hc13829, hX13065⟩ | ⟨hc13829, hX13065⟩
           ·refine W.condT (ho13821.trans (congrArg Value.bool hc13829)) ?_
            refine W.seq ?_
            refine W.region rfl ?_
            refine WL.val (Yl.assign (v := .bool false) rfl) ?_
            refine WL.done ?_
            refine W.ret ?_
            refine inB_r ?_
            refine thenE_r ?_
            refine thenE_r ?_
            refine inB_r ?_
            refine thenE_r ?_
            refine thenE_r ?_
            refine inB_r ?_
            refine thenE_r ?_
            refine thenE_r ?_
            refine inB_r ?_
            refine thenE_r ?_
            refine thenE_r ?_
            cases hX13065
            replace hX6964 := sumE_r hX6964
            cases hX6964
            replace H := sumE_r H
            have C13830 : Ctx _ _ _ _ _ [] := Ctx.pick [] C13828 rfl
            have e13831 := Option.some.inj H
            subst e13831
            exact post_r (resE1 rfl rfl) ⟨rfl, (Ctx.weak C13830 (CH.le_refl _))⟩
           ·refine W.condF (ho13821.trans (congrArg Value.bool (Bool.eq_false_iff.2 hc13829))) ?_
            refine W.skip ?_
            refine inB_n ?_
            refine W.region rfl ?_
            refine WL.val (Yl.move (v := .int .i64 x13073) ho13827) ?_
            refine WL.val (Yl.add (m := x13073) (n := 1) (r := wi64 (x13073 + 1)) rfl rfl rfl) ?_
            refine WL.val (Yl.assign (v := .int .i64 (wi64 (x13073 + 1))) rfl) ?_
            refine WL.done ?_
            have C13832 : Ctx _ _ _ _ _ [CH.row g12095 o12096 q8, p12101, p12107, p12113, p12119, p12126, p12132, p12138, p12144, CH.row g52 0 q4, CH.row g8 0 q1] := Ctx.pick [2, 3, 4, 5, 6, 7, 8, 9, 10, 11, 12] C13828 rfl
            exact thenE_n ⟨k13452, Nat.lt_succ_self _, wi64 (x13073 + 1), ho13822, ho13823, ho13824, ho13825, ho13826, rfl, C13832, hX13065⟩
        ·refine W.condF (congrArg Value.bool (decide_eq_false hc13453)) ?_
         refine W.exit ?_
         refine thenE_x ?_
         refine thenE_x ?_
         refine inB_here ?_
         cases hX13065
         refine thenE_n ?_
         exact ⟨ho13067, ho13068, ho13069, ho13070, ho13071, C13074, rfl⟩
       ·rintro env_ w_ ⟨ho13059, ho13060, ho13061, ho13062, ho13063, C13064, rfl⟩
        replace hX6964 := sumE_l hX6964
        refine W.region rfl ?_
        refine WL.val (Yl.loadVA (g := g12095) (off := o12096) (o := 0) (cs := q8) (us := [.slice A12122 n12124 c12123, .slice A12128 n12130 c12129, .slice A12134 n12136 c12135, .slice A12140 n12142 c12141, .int .i64 rs11817_7_0.Heads]) ho13063 Try.underlying32 rfl sz32 (Ctx.subI 0 C13064 rfl) rfl) ?_
        obtain ⟨w13833, hy13834, C13835⟩ := ev_setI (P := Try.prog) (ps1 := [CH.row g12095 o12096 q8, p12101, p12107, p12113, p12119, p12126, p12132, p12138, p12144]) (ps2 := [CH.row g8 0 q1]) (t := 32) 0 q8 (.agg (List.toArray q8)) C13064 rfl rfl (ones_of rfl) sz32
        have C13836 : Ctx _ _ _ _ _ [CH.row g12095 o12096 q8, p12101, p12107, p12113, p12119, p12126, p12132, p12138, p12144, CH.row g52 0 q8, CH.row g8 0 q1] := C13835
        refine WL.skip (hy13834 _ _ _ _ ho13061 rfl) ?_
        refine WL.done ?_
        refine inB_n ?_
        refine W.region rfl ?_
        refine WL.val (Yl.move (v := .int .i64 x9415) ho13062) ?_
        refine WL.val (Yl.add (m := x9415) (n := 1) (r := wi64 (x9415 + 1)) rfl rfl rfl) ?_
        refine WL.val (Yl.assign (v := .int .i64 (wi64 (x9415 + 1))) rfl) ?_
        refine WL.done ?_
        obtain ⟨F13837, le13838, lp13839, (C13840 : Ctx _ _ _ _ _ [CH.row g12095 o12096 q8, p12101, p12107, p12113, p12119, p12132, p12138, p12144, CH.row g52 0 q8, CH.row g8 0 q1])⟩ := Ctx.fzI 5 C13836 rfl
        obtain ⟨hl13841, hm13842, hS13843⟩ := Row.fz hR12127 le13838 lp13839
        have hR13844 := Row.mono hR12133 le13838
        have hR13845 := Row.mono hR12139 le13838
        have hR13846 := Row.mono hR12145 le13838
        obtain ⟨F13847, le13848, lp13849, (C13850 : Ctx _ _ _ _ _ [CH.row g12095 o12096 q8, p12101, p12107, p12113, p12119, p12138, p12144, CH.row g52 0 q8, CH.row g8 0 q1])⟩ := Ctx.fzI 5 C13840 rfl
        obtain ⟨hl13851, hm13852, hS13853⟩ := Row.fz hR13844 le13848 lp13849
        have hR13854 := Row.mono hR13845 le13848
        have hR13855 := Row.mono hR13846 le13848
        obtain ⟨F13856, le13857, lp13858, (C13859 : Ctx _ _ _ _ _ [CH.row g12095 o12096 q8, p12101, p12107, p12113, p12119, p12144, CH.row g52 0 q8, CH.row g8 0 q1])⟩ := Ctx.fzI 5 C13850 rfl
        obtain ⟨hl13860, hm13861, hS13862⟩ := Row.fz hR13854 le13857 lp13858
        have hR13863 := Row.mono hR13855 le13857
        obtain ⟨F13864, le13865, lp13866, (C13867 : Ctx _ _ _ _ _ [CH.row g12095 o12096 q8, p12101, p12107, p12113, p12119, CH.row g52 0 q8, CH.row g8 0 q1])⟩ := Ctx.fzI 5 C13859 rfl
        obtain ⟨hl13868, hm13869, hS13870⟩ := Row.fz hR13863 le13865 lp13866
        have C13871 : Ctx _ _ _ _ _ [CH.row g52 0 q8, CH.row g8 0 q1] := Ctx.pick [5, 6] C13867 rfl
        exact thenE_n ⟨k11622, Nat.lt_succ_self _, wi64 (x9415 + 1), rs11817_7_0, F13864, A12122, c12123, n12124, A12128, c12129, n12130, A12134, c12135, n12136, A12140, c12141, n12142, ho13059, ho13060, ho13061, rfl, C13871, (CH.le_trans le9410 (CH.le_trans le12089 (CH.le_trans le13838 (CH.le_trans le13848 (CH.le_trans le13857 le13865))))), hn12125, hl13841, hm13842, (Sl.mono hS13843 (CH.le_trans le13848 (CH.le_trans le13857 le13865)) (CH.le_trans le13848 (CH.le_trans le13857 le13865))), hn12131, hl13851, hm13852, (Sl.mono hS13853 (CH.le_trans le13857 le13865) (CH.le_trans le13857 le13865)), hn12137, hl13860, hm13861, (Sl.mono hS13862 le13865 le13865), hn12143, hl13868, hm13869, hS13870, hX6964⟩
     ·refine W.condT (congrArg Value.bool (ndec_f hc12291)) ?_
      refine W.exit ?_
      refine thenE_x ?_
      refine inB_here ?_
      refine W.region rfl ?_
      refine WL.val (Yl.move (v := .int .i64 x9415) ho12093) ?_
      refine WL.val (Yl.add (m := x9415) (n := 1) (r := wi64 (x9415 + 1)) rfl rfl rfl) ?_
      refine WL.val (Yl.assign (v := .int .i64 (wi64 (x9415 + 1))) rfl) ?_
      refine WL.done ?_
      have C13872 : Ctx _ _ _ _ _ [CH.row g52 0 q4, CH.row g8 0 q1] := Ctx.pick [9, 10] C12290 rfl
      exact thenE_n ⟨k11622, Nat.lt_succ_self _, wi64 (x9415 + 1), x9416, F12088, A9417, c9418, n9419, A9424, c9425, n9426, A9431, c9432, n9433, A9438, c9439, n9440, ho12090, ho12091, ho12092, rfl, C13872, (CH.le_trans le9410 le12089), hn9420, hl9421, hm9422, (Sl.mono hS9423 le12089 le12089), hn9427, hl9428, hm9429, (Sl.mono hS9430 le12089 le12089), hn9434, hl9435, hm9436, (Sl.mono hS9437 le12089 le12089), hn9441, hl9442, hm9443, (Sl.mono hS9444 le12089 le12089), hX6964⟩
   ·refine W.condF (congrArg Value.bool (decide_eq_false hc11657)) ?_
    refine W.exit ?_
    refine thenE_x ?_
    refine thenE_x ?_
    refine inB_here ?_
    have C13873 : Ctx _ _ _ _ _ [CH.row g8 0 q1] := Ctx.pick [1] C9445 rfl
    have C13874 := Ctx.lower C13873 (CH.le_refl _) le9410
    cases hX6964
    refine thenE_n ?_
    exact ⟨C13874, rfl⟩
  ·rintro env_ w_ ⟨C6963, rfl⟩
   replace H := sumE_l H
   refine W.seq ?_
   refine W.region rfl ?_
   obtain ⟨r13876, hg13875, H⟩ := bindE H
   refine WL.callH (juratlaw21_awake.calls k _ F  (Ctx.pre (qs := []) (rest := [CH.row g8 0 q1]) C6963)  r13876 hg13875) (Yenter.fn Try.func8 (by kernel_rfl) rfl (argsE .nil)) ?_
   rintro e_ w_ ⟨rfl, C13877⟩
   refine ⟨_, rfl, ?_⟩
   have C13878 : Ctx _ _ _ _ _ [CH.row g8 0 q1] := Ctx.call (qs := []) (rest := [CH.row g8 0 q1]) C6963 C13877
   refine WL.val (Yl.assign (v := .bool r13876) rfl) ?_
   refine WL.done ?_
   refine W.ret ?_
   have C13879 : Ctx _ _ _ _ _ [] := Ctx.pick [] C13878 rfl
   have e13880 := Option.some.inj H
   subst e13880
   exact post_r (resE1 rfl rfl) ⟨rfl, C13879⟩
end Go.Proofs.Ytobdpbnadjkhiaa
