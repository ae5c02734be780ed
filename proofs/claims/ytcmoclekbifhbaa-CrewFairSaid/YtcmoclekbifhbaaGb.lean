/- Functions of the program: each as a plain function of numbers and lists, and the proof that the program's own comes to it. Nothing is assumed but what each theorem says. -/
import Derived.Test.YtcmoclekbifhbaaGa
namespace Go.Proofs.Ytcmoclekbifhbaa
open Go.RowKit Go.WG
set_option linter.unusedVariables false
set_option linter.unusedSimpArgs false

/-! ### (jurat/crew.idle).Len: function 35 -/
def crew_idle_Len.f (k : Nat) (a0 : List Thand) : Option Int := some (a0.length : Int)
set_option maxRecDepth 100000 in
set_option maxHeartbeats 4000000 in
theorem crew_idle_Len.calls (k : Nat) (w : World) (F : CH) (A1 : Option Addr) (c2 : Nat) (n3 : Nat) (a0 : List Thand) (hp : Pre w F []) (hn4 : n3 = a0.length) (hl5 : a0.length ≤ c2) (hm6 : c2 ≤ maxLen) (hS7 : Sl Thand.K F F A1 a0) (r0_ : Int) (H : crew_idle_Len.f k a0 = some r0_) :
    Calls Try.prog 35 #[.slice A1 n3 c2] w fun e w' => e = .returned (.int .i64 r0_) ∧ (∃ n_, w' = w.drewN n_) := by
  have C := Ctx.start hp
  generalize domL [] = D at C
  have W0 : ∃ n_, w = w.drewN n_ := ⟨0, rfl⟩
  unfold crew_idle_Len.f at H
  refine Calls.ofW Try.func35 rfl (by simp [Try.ntmps35]) ?_
  refine W.seq ?_
  refine W.region rfl ?_
  refine WL.val (Yl.assign (v := .int .i64 0) rfl) ?_
  refine WL.done ?_
  refine W.seq ?_
  refine W.region rfl ?_
  refine WL.val (Yl.move (v := .slice A1 n3 c2) rfl) ?_
  refine WL.val (Yl.lenN (A := A1) (l := n3) (q := c2) (n := (a0.length : Int)) rfl Try.underlying36 (by omega)) ?_
  refine WL.val (Yl.assign (v := .int .i64 (a0.length : Int)) rfl) ?_
  refine WL.done ?_
  refine W.ret ?_
  cases H
  exact post_r (resE1 rfl rfl) ⟨rfl, W0⟩
/-! ### (jurat/crew.idle).Less: function 36 -/
def crew_idle_Less.f (k : Nat) (a0 : List Thand) (a1 : Int) (a2 : Int) : Option Bool := if 0 ≤ a1 ∧ a1 < (a0.length : Int) then (if 0 ≤ a2 ∧ a2 < (a0.length : Int) then ((if ((a0.getD a1.toNat Thand.z).used) < ((a0.getD a2.toNat Thand.z).used) then (some (true)) else (if ((a0.getD a1.toNat Thand.z).used) = ((a0.getD a2.toNat Thand.z).used) then (some (decide (((a0.getD a1.toNat Thand.z).id) < ((a0.getD a2.toNat Thand.z).id)))) else (some (false)))).bind fun g20 => some g20) else none) else none
set_option maxRecDepth 100000 in
set_option maxHeartbeats 4000000 in
theorem crew_idle_Less.calls (k : Nat) (w : World) (F : CH) (A1 : Option Addr) (c2 : Nat) (n3 : Nat) (a0 : List Thand) (a1 : Int) (a2 : Int) (hp : Pre w F []) (hn4 : n3 = a0.length) (hl5 : a0.length ≤ c2) (hm6 : c2 ≤ maxLen) (hS7 : Sl Thand.K F F A1 a0) (r0_ : Bool) (H : crew_idle_Less.f k a0 a1 a2 = some r0_) :
    Calls Try.prog 36 #[.slice A1 n3 c2, .int .i64 a1, .int .i64 a2] w fun e w' => e = .returned (.bool r0_) ∧ (∃ n_, w' = w.drewN n_) := by
  have C := Ctx.start hp
  generalize domL [] = D at C
  have W0 : ∃ n_, w = w.drewN n_ := ⟨0, rfl⟩
  unfold crew_idle_Less.f at H
  refine Calls.ofW Try.func36 rfl (by simp [Try.ntmps36]) ?_
  refine W.seq ?_
  refine W.region rfl ?_
  refine WL.val (Yl.assign (v := .bool false) rfl) ?_
  refine WL.done ?_
  refine W.seq ?_
  refine W.region_quiet (by kernel_rfl) (by kernel_rfl) rfl ?_
  refine WQ.val (fun _ hw => by obtain ⟨_, rfl⟩ := hw; exact Yl.move (v := .slice A1 n3 c2) rfl) ?_
  refine WQ.val (fun _ hw => by obtain ⟨_, rfl⟩ := hw; exact Yl.move (v := .int .i64 a1) rfl) ?_
  obtain ⟨hc8, H⟩ := guardE H
  obtain ⟨b9, of10, hA11, he12⟩ := hS7 (by omega)
  refine WQ.val (fun _ hw => by obtain ⟨_, rfl⟩ := hw; exact Yl.elemAddr (i := a1) rfl rfl hA11 Try.underlying36 sz42 (by omega)) ?_
  refine WQ.val (fun _ hw => by obtain ⟨_, rfl⟩ := hw; exact Yl.fieldAddr (i := 0) rfl Try.underlying42 rfl sz3) ?_
  obtain ⟨cs13, hr14, hx15⟩ := he12 a1.toNat _ (getD_some (d := Thand.z) (by omega))
  obtain ⟨rfl⟩ := Thand.open hr14
  refine WQ.val (fun _ hw => by obtain ⟨_, rfl⟩ := hw; exact Yl.load (v := .int .i64 ((a0.getD a1.toNat Thand.z).used)) rfl Try.underlying3 rfl (((C.fro)).cell (hx15 0 _ rfl))) ?_
  refine WQ.val (fun _ hw => by obtain ⟨_, rfl⟩ := hw; exact Yl.move (v := .slice A1 n3 c2) rfl) ?_
  refine WQ.val (fun _ hw => by obtain ⟨_, rfl⟩ := hw; exact Yl.move (v := .int .i64 a2) rfl) ?_
  obtain ⟨hc16, H⟩ := guardE H
  refine WQ.val (fun _ hw => by obtain ⟨_, rfl⟩ := hw; exact Yl.elemAddr (i := a2) rfl rfl hA11 Try.underlying36 sz42 (by omega)) ?_
  refine WQ.val (fun _ hw => by obtain ⟨_, rfl⟩ := hw; exact Yl.fieldAddr (i := 0) rfl Try.underlying42 rfl sz3) ?_
  obtain ⟨cs17, hr18, hx19⟩ := he12 a2.toNat _ (getD_some (d := Thand.z) (by omega))
  obtain ⟨rfl⟩ := Thand.open hr18
  refine WQ.val (fun _ hw => by obtain ⟨_, rfl⟩ := hw; exact Yl.load (v := .int .i64 ((a0.getD a2.toNat Thand.z).used)) rfl Try.underlying3 rfl (((C.fro)).cell (hx19 0 _ rfl))) ?_
  refine WQ.val (fun _ hw => by obtain ⟨_, rfl⟩ := hw; exact Yl.lss (m := (a0.getD a1.toNat Thand.z).used) (n := (a0.getD a2.toNat Thand.z).used) (q := decide (((a0.getD a1.toNat Thand.z).used) < ((a0.getD a2.toNat Thand.z).used))) rfl rfl rfl) ?_
  refine WQ.val (fun _ hw => by obtain ⟨_, rfl⟩ := hw; exact Yl.move (v := .bool (decide (((a0.getD a1.toNat Thand.z).used) < ((a0.getD a2.toNat Thand.z).used)))) rfl) ?_
  obtain ⟨g20, HE21, H⟩ := bindE H
  refine WQ.cut (fun env_ => env_ 6 = .bool g20) ?_ ?_
  · skip
    rcases iteE HE21 with ⟨hc22, HE21⟩ | ⟨hc22, HE21⟩
    · skip
      refine WQ.off rfl (congrArg Value.bool (decide_eq_true hc22)) ?_
      refine WQ.off rfl (congrArg Value.bool (decide_eq_true hc22)) ?_
      refine WQ.off rfl (congrArg Value.bool (decide_eq_true hc22)) ?_
      refine WQ.off rfl (congrArg Value.bool (decide_eq_true hc22)) ?_
      refine WQ.off rfl (congrArg Value.bool (decide_eq_true hc22)) ?_
      refine WQ.off rfl (congrArg Value.bool (decide_eq_true hc22)) ?_
      refine WQ.off rfl (congrArg Value.bool (decide_eq_true hc22)) ?_
      refine WQ.off rfl (congrArg Value.bool (decide_eq_true hc22)) ?_
      refine WQ.off rfl (congrArg Value.bool (decide_eq_true hc22)) ?_
      refine WQ.off rfl (congrArg Value.bool (decide_eq_true hc22)) ?_
      refine WQ.off rfl (congrArg Value.bool (decide_eq_true hc22)) ?_
      refine WQ.off rfl (congrArg Value.bool (decide_eq_true hc22)) ?_
      refine WQ.off' rfl rfl ?_
      refine WQ.off' rfl rfl ?_
      refine WQ.off' rfl rfl ?_
      refine WQ.off' rfl rfl ?_
      refine WQ.off' rfl rfl ?_
      refine WQ.off' rfl rfl ?_
      refine WQ.off' rfl rfl ?_
      refine WQ.off' rfl rfl ?_
      refine WQ.off' rfl rfl ?_
      refine WQ.off' rfl rfl ?_
      refine WQ.off' rfl rfl ?_
      refine WQ.off rfl (congrArg Value.bool (decide_eq_true hc22)) ?_
      refine WQ.val (fun _ hw => by obtain ⟨_, rfl⟩ := hw; exact Yl.pickT (v := .bool true) (congrArg Value.bool (decide_eq_true hc22)) rfl) ?_
      refine WQ.val (fun _ hw => by obtain ⟨_, rfl⟩ := hw; exact Yl.assign (v := .bool true) rfl) ?_
      cases HE21
      exact WQ.done rfl
    · skip
      refine WQ.on rfl (congrArg Value.bool (decide_eq_false hc22)) ?_
      refine WQ.val (fun _ hw => by obtain ⟨_, rfl⟩ := hw; exact Yl.move (v := .slice A1 n3 c2) rfl) ?_
      refine WQ.on rfl (congrArg Value.bool (decide_eq_false hc22)) ?_
      refine WQ.val (fun _ hw => by obtain ⟨_, rfl⟩ := hw; exact Yl.move (v := .int .i64 a1) rfl) ?_
      refine WQ.on rfl (congrArg Value.bool (decide_eq_false hc22)) ?_
      refine WQ.val (fun _ hw => by obtain ⟨_, rfl⟩ := hw; exact Yl.elemAddr (i := a1) rfl rfl hA11 Try.underlying36 sz42 (by omega)) ?_
      refine WQ.on rfl (congrArg Value.bool (decide_eq_false hc22)) ?_
      refine WQ.val (fun _ hw => by obtain ⟨_, rfl⟩ := hw; exact Yl.fieldAddr (i := 0) rfl Try.underlying42 rfl sz3) ?_
      refine WQ.on rfl (congrArg Value.bool (decide_eq_false hc22)) ?_
      refine WQ.val (fun _ hw => by obtain ⟨_, rfl⟩ := hw; exact Yl.load (v := .int .i64 ((a0.getD a1.toNat Thand.z).used)) rfl Try.underlying3 rfl (((C.fro)).cell (hx15 0 _ rfl))) ?_
      refine WQ.on rfl (congrArg Value.bool (decide_eq_false hc22)) ?_
      refine WQ.val (fun _ hw => by obtain ⟨_, rfl⟩ := hw; exact Yl.move (v := .slice A1 n3 c2) rfl) ?_
      refine WQ.on rfl (congrArg Value.bool (decide_eq_false hc22)) ?_
      refine WQ.val (fun _ hw => by obtain ⟨_, rfl⟩ := hw; exact Yl.move (v := .int .i64 a2) rfl) ?_
      refine WQ.on rfl (congrArg Value.bool (decide_eq_false hc22)) ?_
      refine WQ.val (fun _ hw => by obtain ⟨_, rfl⟩ := hw; exact Yl.elemAddr (i := a2) rfl rfl hA11 Try.underlying36 sz42 (by omega)) ?_
      refine WQ.on rfl (congrArg Value.bool (decide_eq_false hc22)) ?_
      refine WQ.val (fun _ hw => by obtain ⟨_, rfl⟩ := hw; exact Yl.fieldAddr (i := 0) rfl Try.underlying42 rfl sz3) ?_
      refine WQ.on rfl (congrArg Value.bool (decide_eq_false hc22)) ?_
      refine WQ.val (fun _ hw => by obtain ⟨_, rfl⟩ := hw; exact Yl.load (v := .int .i64 ((a0.getD a2.toNat Thand.z).used)) rfl Try.underlying3 rfl (((C.fro)).cell (hx19 0 _ rfl))) ?_
      refine WQ.on rfl (congrArg Value.bool (decide_eq_false hc22)) ?_
      refine WQ.val (fun _ hw => by obtain ⟨_, rfl⟩ := hw; exact Yl.eql (m := (a0.getD a1.toNat Thand.z).used) (n := (a0.getD a2.toNat Thand.z).used) (q := decide (((a0.getD a1.toNat Thand.z).used) = ((a0.getD a2.toNat Thand.z).used))) rfl rfl rfl) ?_
      refine WQ.on rfl (congrArg Value.bool (decide_eq_false hc22)) ?_
      refine WQ.val (fun _ hw => by obtain ⟨_, rfl⟩ := hw; exact Yl.move (v := .bool (decide (((a0.getD a1.toNat Thand.z).used) = ((a0.getD a2.toNat Thand.z).used)))) rfl) ?_
      rcases iteE HE21 with ⟨hc23, HE21⟩ | ⟨hc23, HE21⟩
      · skip
        refine WQ.on rfl (congrArg Value.bool (decide_eq_true hc23)) ?_
        refine WQ.val (fun _ hw => by obtain ⟨_, rfl⟩ := hw; exact Yl.move (v := .slice A1 n3 c2) rfl) ?_
        refine WQ.on rfl (congrArg Value.bool (decide_eq_true hc23)) ?_
        refine WQ.val (fun _ hw => by obtain ⟨_, rfl⟩ := hw; exact Yl.move (v := .int .i64 a1) rfl) ?_
        refine WQ.on rfl (congrArg Value.bool (decide_eq_true hc23)) ?_
        refine WQ.val (fun _ hw => by obtain ⟨_, rfl⟩ := hw; exact Yl.elemAddr (i := a1) rfl rfl hA11 Try.underlying36 sz42 (by omega)) ?_
        refine WQ.on rfl (congrArg Value.bool (decide_eq_true hc23)) ?_
        refine WQ.val (fun _ hw => by obtain ⟨_, rfl⟩ := hw; exact Yl.fieldAddr (i := 1) rfl Try.underlying42 rfl sz3) ?_
        refine WQ.on rfl (congrArg Value.bool (decide_eq_true hc23)) ?_
        refine WQ.val (fun _ hw => by obtain ⟨_, rfl⟩ := hw; exact Yl.load (v := .int .i64 ((a0.getD a1.toNat Thand.z).id)) rfl Try.underlying3 rfl (((C.fro)).cell (hx15 1 _ rfl))) ?_
        refine WQ.on rfl (congrArg Value.bool (decide_eq_true hc23)) ?_
        refine WQ.val (fun _ hw => by obtain ⟨_, rfl⟩ := hw; exact Yl.move (v := .slice A1 n3 c2) rfl) ?_
        refine WQ.on rfl (congrArg Value.bool (decide_eq_true hc23)) ?_
        refine WQ.val (fun _ hw => by obtain ⟨_, rfl⟩ := hw; exact Yl.move (v := .int .i64 a2) rfl) ?_
        refine WQ.on rfl (congrArg Value.bool (decide_eq_true hc23)) ?_
        refine WQ.val (fun _ hw => by obtain ⟨_, rfl⟩ := hw; exact Yl.elemAddr (i := a2) rfl rfl hA11 Try.underlying36 sz42 (by omega)) ?_
        refine WQ.on rfl (congrArg Value.bool (decide_eq_true hc23)) ?_
        refine WQ.val (fun _ hw => by obtain ⟨_, rfl⟩ := hw; exact Yl.fieldAddr (i := 1) rfl Try.underlying42 rfl sz3) ?_
        refine WQ.on rfl (congrArg Value.bool (decide_eq_true hc23)) ?_
        refine WQ.val (fun _ hw => by obtain ⟨_, rfl⟩ := hw; exact Yl.load (v := .int .i64 ((a0.getD a2.toNat Thand.z).id)) rfl Try.underlying3 rfl (((C.fro)).cell (hx19 1 _ rfl))) ?_
        refine WQ.on rfl (congrArg Value.bool (decide_eq_true hc23)) ?_
        refine WQ.val (fun _ hw => by obtain ⟨_, rfl⟩ := hw; exact Yl.lss (m := (a0.getD a1.toNat Thand.z).id) (n := (a0.getD a2.toNat Thand.z).id) (q := decide (((a0.getD a1.toNat Thand.z).id) < ((a0.getD a2.toNat Thand.z).id))) rfl rfl rfl) ?_
        refine WQ.on rfl (congrArg Value.bool (decide_eq_false hc22)) ?_
        refine WQ.val (fun _ hw => by obtain ⟨_, rfl⟩ := hw; exact Yl.pickT (v := .bool (decide (((a0.getD a1.toNat Thand.z).id) < ((a0.getD a2.toNat Thand.z).id)))) (congrArg Value.bool (decide_eq_true hc23)) rfl) ?_
        refine WQ.val (fun _ hw => by obtain ⟨_, rfl⟩ := hw; exact Yl.pickF (v := .bool (decide (((a0.getD a1.toNat Thand.z).id) < ((a0.getD a2.toNat Thand.z).id)))) (congrArg Value.bool (decide_eq_false hc22)) rfl) ?_
        refine WQ.val (fun _ hw => by obtain ⟨_, rfl⟩ := hw; exact Yl.assign (v := .bool (decide (((a0.getD a1.toNat Thand.z).id) < ((a0.getD a2.toNat Thand.z).id)))) rfl) ?_
        cases HE21
        exact WQ.done rfl
      · skip
        refine WQ.off rfl (congrArg Value.bool (decide_eq_false hc23)) ?_
        refine WQ.off rfl (congrArg Value.bool (decide_eq_false hc23)) ?_
        refine WQ.off rfl (congrArg Value.bool (decide_eq_false hc23)) ?_
        refine WQ.off rfl (congrArg Value.bool (decide_eq_false hc23)) ?_
        refine WQ.off rfl (congrArg Value.bool (decide_eq_false hc23)) ?_
        refine WQ.off rfl (congrArg Value.bool (decide_eq_false hc23)) ?_
        refine WQ.off rfl (congrArg Value.bool (decide_eq_false hc23)) ?_
        refine WQ.off rfl (congrArg Value.bool (decide_eq_false hc23)) ?_
        refine WQ.off rfl (congrArg Value.bool (decide_eq_false hc23)) ?_
        refine WQ.off rfl (congrArg Value.bool (decide_eq_false hc23)) ?_
        refine WQ.off rfl (congrArg Value.bool (decide_eq_false hc23)) ?_
        refine WQ.on rfl (congrArg Value.bool (decide_eq_false hc22)) ?_
        refine WQ.val (fun _ hw => by obtain ⟨_, rfl⟩ := hw; exact Yl.pickF (v := .bool false) (congrArg Value.bool (decide_eq_false hc23)) rfl) ?_
        refine WQ.val (fun _ hw => by obtain ⟨_, rfl⟩ := hw; exact Yl.pickF (v := .bool false) (congrArg Value.bool (decide_eq_false hc22)) rfl) ?_
        refine WQ.val (fun _ hw => by obtain ⟨_, rfl⟩ := hw; exact Yl.assign (v := .bool false) rfl) ?_
        cases HE21
        exact WQ.done rfl
  · skip
    rintro env_ ho24
    intro nq25
    have C26 := Ctx.drewN C nq25
    have Wq27 := drew_more W0 nq25
    refine W.ret ?_
    cases H
    exact post_r (resE1 rfl ho24) ⟨rfl, Wq27⟩
/-! ### (jurat/crew.idle).Swap: function 37 -/
def crew_idle_Swap.f (k : Nat) (a0 : List Thand) (a1 : Int) (a2 : Int) : Option (List Thand) := if 0 ≤ a2 ∧ a2 < (a0.length : Int) then (if 0 ≤ a1 ∧ a1 < (a0.length : Int) then (if 0 ≤ a2 ∧ a2 < ((a0.set a1.toNat (a0.getD a2.toNat Thand.z)).length : Int) then (some ((a0.set a1.toNat (a0.getD a2.toNat Thand.z)).set a2.toNat (a0.getD a1.toNat Thand.z))) else none) else none) else none
set_option maxRecDepth 100000 in
set_option maxHeartbeats 4000000 in
theorem crew_idle_Swap.calls (k : Nat) (w : World) (F : CH) (A1 : Option Addr) (c2 : Nat) (n3 : Nat) (p5 : CH) (a0 : List Thand) (a1 : Int) (a2 : Int) (hp : Pre w F [p5]) (hn4 : n3 = a0.length) (hR6 : Row Thand.K F p5 (.slice A1 n3 c2) a0) (r0_ : List Thand) (H : crew_idle_Swap.f k a0 a1 a2 = some r0_) :
    Calls Try.prog 37 #[.slice A1 n3 c2, .int .i64 a1, .int .i64 a2] w fun e w' => ∃ (p74 : CH), e = .returned (.tuple #[]) ∧ Ctx w F (domL [p5]) w' F [p74] ∧ n3 = r0_.length ∧ Row Thand.K F p74 (.slice A1 n3 c2) r0_ := by
  have C := Ctx.start hp
  generalize hD : domL [p5] = D at C ⊢
  unfold crew_idle_Swap.f at H
  refine Calls.ofW Try.func37 rfl (by simp [Try.ntmps37]) ?_
  refine W.regionA [([13, 15], p5)] (by kernel_rfl) ?_
  have C40 := Ctx.drewN C 1
  refine WA.take none 0 rfl (by kernel_rfl) (by kernel_rfl) (show _ = #[true, false, false, false, false, false, false, false, false, false, false, false, false, false, false, false] from rfl) trivial ⟨(Ctx.sub_of [] [] C40), trivial⟩ (fun _ hC_ => Yl.move (v := .slice A1 n3 c2) rfl) ?_
  refine WA.take none 1 rfl (by kernel_rfl) (by kernel_rfl) (show _ = #[true, true, false, false, false, false, false, false, false, false, false, false, false, false, false, false] from rfl) trivial ⟨(Ctx.sub_of [] [] C40), trivial⟩ (fun _ hC_ => Yl.move (v := .int .i64 a1) rfl) ?_
  refine WA.take none 2 rfl (by kernel_rfl) (by kernel_rfl) (show _ = #[true, true, true, false, false, false, false, false, false, false, false, false, false, false, false, false] from rfl) trivial ⟨(Ctx.sub_of [] [] C40), trivial⟩ (fun _ hC_ => Yl.move (v := .slice A1 n3 c2) rfl) ?_
  refine WA.take none 3 rfl (by kernel_rfl) (by kernel_rfl) (show _ = #[true, true, true, true, false, false, false, false, false, false, false, false, false, false, false, false] from rfl) trivial ⟨(Ctx.sub_of [] [] C40), trivial⟩ (fun _ hC_ => Yl.move (v := .int .i64 a2) rfl) ?_
  refine WA.take none 4 rfl (by kernel_rfl) (by kernel_rfl) (show _ = #[true, true, true, true, true, false, false, false, false, false, false, false, false, false, false, false] from rfl) trivial ⟨(Ctx.sub_of [] [] C40), trivial⟩ (fun _ hC_ => Yl.move (v := .slice A1 n3 c2) rfl) ?_
  refine WA.take none 5 rfl (by kernel_rfl) (by kernel_rfl) (show _ = #[true, true, true, true, true, true, false, false, false, false, false, false, false, false, false, false] from rfl) trivial ⟨(Ctx.sub_of [] [] C40), trivial⟩ (fun _ hC_ => Yl.move (v := .int .i64 a2) rfl) ?_
  obtain ⟨hc41, H⟩ := guardE H
  obtain ⟨b42, of43, hA44, he45⟩ := (Row.sl hR6) (by omega)
  refine WA.take none 6 rfl (by kernel_rfl) (by kernel_rfl) (show _ = #[true, true, true, true, true, true, true, false, false, false, false, false, false, false, false, false] from rfl) trivial ⟨(Ctx.sub_of [] [] C40), trivial⟩ (fun _ hC_ => Yl.elemAddr (i := a2) rfl rfl hA44 Try.underlying36 sz42 (by omega)) ?_
  obtain ⟨cs46, hr47, hx48⟩ := he45 a2.toNat _ (getD_some (d := Thand.z) (by omega))
  obtain ⟨rfl⟩ := Thand.open hr47
  refine WA.take (some 0) 7 rfl (by kernel_rfl) (by kernel_rfl) (show _ = #[true, true, true, true, true, true, true, true, false, false, false, false, false, false, false, false] from rfl) (Ctx.sub_of [] [] C40) ⟨(Ctx.sub_of [] [] C40), trivial⟩ (fun _ hC_ => Yl.loadAgg (cs := [.int .i64 ((a0.getD a2.toNat Thand.z).used), .int .i64 ((a0.getD a2.toNat Thand.z).id)]) rfl Try.underlying42 rfl sz42 (fun j u hu => by rw [add_of]; exact ((show Sub p5 _ from hC_)).cell (hx48 _ _ hu))) ?_
  refine WA.take none 8 rfl (by kernel_rfl) (by kernel_rfl) (show _ = #[true, true, true, true, true, true, true, true, true, false, false, false, false, false, false, false] from rfl) trivial ⟨(Ctx.sub_of [] [] C40), trivial⟩ (fun _ hC_ => Yl.move (v := .slice A1 n3 c2) rfl) ?_
  refine WA.take none 9 rfl (by kernel_rfl) (by kernel_rfl) (show _ = #[true, true, true, true, true, true, true, true, true, true, false, false, false, false, false, false] from rfl) trivial ⟨(Ctx.sub_of [] [] C40), trivial⟩ (fun _ hC_ => Yl.move (v := .int .i64 a1) rfl) ?_
  obtain ⟨hc49, H⟩ := guardE H
  refine WA.take none 10 rfl (by kernel_rfl) (by kernel_rfl) (show _ = #[true, true, true, true, true, true, true, true, true, true, true, false, false, false, false, false] from rfl) trivial ⟨(Ctx.sub_of [] [] C40), trivial⟩ (fun _ hC_ => Yl.elemAddr (i := a1) rfl rfl hA44 Try.underlying36 sz42 (by omega)) ?_
  obtain ⟨cs50, hr51, hx52⟩ := he45 a1.toNat _ (getD_some (d := Thand.z) (by omega))
  obtain ⟨rfl⟩ := Thand.open hr51
  refine WA.take (some 0) 11 rfl (by kernel_rfl) (by kernel_rfl) (show _ = #[true, true, true, true, true, true, true, true, true, true, true, true, false, false, false, false] from rfl) (Ctx.sub_of [] [] C40) ⟨(Ctx.sub_of [] [] C40), trivial⟩ (fun _ hC_ => Yl.loadAgg (cs := [.int .i64 ((a0.getD a1.toNat Thand.z).used), .int .i64 ((a0.getD a1.toNat Thand.z).id)]) rfl Try.underlying42 rfl sz42 (fun j u hu => by rw [add_of]; exact ((show Sub p5 _ from hC_)).cell (hx52 _ _ hu))) ?_
  refine WA.take none 12 rfl (by kernel_rfl) (by kernel_rfl) (show _ = #[true, true, true, true, true, true, true, true, true, true, true, true, true, false, false, false] from rfl) trivial ⟨(Ctx.sub_of [] [] C40), trivial⟩ (fun _ hC_ => Yl.elemAddr (i := a1) rfl rfl hA44 Try.underlying36 sz42 (by omega)) ?_
  have hj58 : a1.toNat < a0.length := by first | omega | (simp only [List.length_set, List.length_replicate] at *; omega)
  obtain ⟨p53, w54, hy55, C56, hR57⟩ := ev_store (P := Try.prog) (t := 42) Thand.K [] [] C40 hR6 hA44 a1.toNat 0 hj58 Thand.z (.agg (List.toArray [.int .i64 ((a0.getD a2.toNat Thand.z).used), .int .i64 ((a0.getD a2.toNat Thand.z).id)])) ([.int .i64 ((a0.getD a2.toNat Thand.z).used), .int .i64 ((a0.getD a2.toNat Thand.z).id)]) rfl (by simp [Value.oneCell']) (Nat.le_of_ble_eq_true rfl) sz42 (a0.getD a2.toNat Thand.z) (fun _ h_ => rep_whole h_ (Thand.mk' _ (a0.getD a2.toNat Thand.z)  )) ⟨b42, of43 + a1.toNat * 2, none⟩ rfl
  have hn59 : n3 = (a0.set a1.toNat (a0.getD a2.toNat Thand.z)).length := by rw [List.length_set]; omega
  have C60 : Ctx _ _ _ _ F [p53] := C56
  refine WA.up1 13 (by kernel_rfl) (Up.skip rfl (show _ = #[true, true, true, true, true, true, true, true, true, true, true, true, true, true, false, false] from rfl) (hy55 _ _ _ _ rfl rfl) ⟨trivial, trivial⟩ ?_)
  obtain ⟨hc61, H⟩ := guardE H
  obtain ⟨b62, of63, hA64, he65⟩ := (Row.sl hR57) (by omega)
  refine WA.take none 14 rfl (by kernel_rfl) (by kernel_rfl) (show _ = #[true, true, true, true, true, true, true, true, true, true, true, true, true, true, true, false] from rfl) trivial ⟨trivial, trivial⟩ (fun _ hC_ => Yl.elemAddr (i := a2) rfl rfl hA64 Try.underlying36 sz42 (by omega)) ?_
  have hj71 : a2.toNat < (a0.set a1.toNat (a0.getD a2.toNat Thand.z)).length := by first | omega | (simp only [List.length_set, List.length_replicate] at *; omega)
  obtain ⟨p66, w67, hy68, C69, hR70⟩ := ev_store (P := Try.prog) (t := 42) Thand.K [] [] C60 hR57 hA64 a2.toNat 0 hj71 Thand.z (.agg (List.toArray [.int .i64 ((a0.getD a1.toNat Thand.z).used), .int .i64 ((a0.getD a1.toNat Thand.z).id)])) ([.int .i64 ((a0.getD a1.toNat Thand.z).used), .int .i64 ((a0.getD a1.toNat Thand.z).id)]) rfl (by simp [Value.oneCell']) (Nat.le_of_ble_eq_true rfl) sz42 (a0.getD a1.toNat Thand.z) (fun _ h_ => rep_whole h_ (Thand.mk' _ (a0.getD a1.toNat Thand.z)  )) ⟨b62, of63 + a2.toNat * 2, none⟩ rfl
  have hn72 : n3 = ((a0.set a1.toNat (a0.getD a2.toNat Thand.z)).set a2.toNat (a0.getD a1.toNat Thand.z)).length := by rw [List.length_set]; omega
  have C73 : Ctx _ _ _ _ F [p66] := C69
  refine WA.up1 15 (by kernel_rfl) (Up.skip rfl (show _ = #[true, true, true, true, true, true, true, true, true, true, true, true, true, true, true, true] from rfl) (hy68 _ _ _ _ rfl rfl) ⟨trivial, trivial⟩ ?_)
  refine WA.done (by kernel_rfl) ?_
  cases H
  exact post_n (resE0 rfl ) ⟨p66, rfl, C73, hn72, hR70⟩
/-! ### (*jurat/crew.idle).Pop: function 38 -/
def crew_idle_Pop.f (k : Nat) (a0 : List Thand) : Option (Thand × (List Thand)) := if 0 ≤ (wi64 ((a0.length : Int) - 1)) ∧ (wi64 ((a0.length : Int) - 1)) < (a0.length : Int) then (if 0 ≤ (wi64 ((a0.length : Int) - 1)) ∧ (wi64 ((a0.length : Int) - 1)) ≤ (a0.length : Int) then (some (a0.getD (wi64 ((a0.length : Int) - 1)).toNat Thand.z, a0.take (wi64 ((a0.length : Int) - 1)).toNat)) else none) else none
set_option maxRecDepth 100000 in
set_option maxHeartbeats 4000000 in
theorem crew_idle_Pop.calls (k : Nat) (w : World) (F : CH) (g1 : Nat) (o2 : Nat) (A3 : Option Addr) (c4 : Nat) (n5 : Nat) (p7 : CH) (a0 : List Thand) (hp : Pre w F [CH.row g1 o2 [.slice A3 n5 c4], p7]) (hn6 : n5 = a0.length) (hR8 : Row Thand.K F p7 (.slice A3 n5 c4) a0) (r0_ : Thand) (r1_ : List Thand) (H : crew_idle_Pop.f k a0 = some (r0_, r1_)) :
    Calls Try.prog 38 #[.pointer (some ⟨g1, o2, none⟩)] w fun e w' => ∃ (A34 : Option Addr) (c35 : Nat) (n36 : Nat) (p38 : CH), e = .returned (.iface 42 (.agg (List.toArray [.int .i64 r0_.used, .int .i64 r0_.id]))) ∧ Ctx w F (domL [CH.row g1 o2 [.slice A3 n5 c4], p7]) w' F [CH.row g1 o2 [.slice A34 n36 c35], p38] ∧ n36 = r1_.length ∧ Row Thand.K F p38 (.slice A34 n36 c35) r1_ := by
  have C := Ctx.start hp
  generalize hD : domL [CH.row g1 o2 [.slice A3 n5 c4], p7] = D at C ⊢
  unfold crew_idle_Pop.f at H
  refine Calls.ofW Try.func38 rfl (by simp [Try.ntmps38]) ?_
  refine W.seq ?_
  refine W.region rfl ?_
  refine WL.val (Yl.assign (v := .nilIface) rfl) ?_
  refine WL.done ?_
  refine W.seq ?_
  refine W.region rfl ?_
  refine WL.val (Yl.move (v := .pointer (some ⟨g1, o2, none⟩)) rfl) ?_
  refine WL.val (Yl.nilCheck rfl) ?_
  refine WL.val (Yl.loadV (cs := [.slice A3 n5 c4]) (v := .slice A3 n5 c4) (rfl : ev _ _ = .pointer (some ⟨g1, o2 + 0, none⟩)) Try.underlying36 rfl (Ctx.sub_of [] [p7] C) rfl) ?_
  refine WL.val (Yl.lenN (A := A3) (l := n5) (q := c4) (n := (a0.length : Int)) rfl Try.underlying36 (by omega)) ?_
  refine WL.val (Yl.sub (m := (a0.length : Int)) (n := 1) (r := wi64 ((a0.length : Int) - 1)) rfl rfl rfl) ?_
  refine WL.val (Yl.assign (v := .int .i64 (wi64 ((a0.length : Int) - 1))) rfl) ?_
  refine WL.done ?_
  refine W.seq ?_
  refine W.region rfl ?_
  refine WL.val (Yl.move (v := .pointer (some ⟨g1, o2, none⟩)) rfl) ?_
  refine WL.val (Yl.nilCheck rfl) ?_
  refine WL.val (Yl.loadV (cs := [.slice A3 n5 c4]) (v := .slice A3 n5 c4) (rfl : ev _ _ = .pointer (some ⟨g1, o2 + 0, none⟩)) Try.underlying36 rfl (Ctx.sub_of [] [p7] C) rfl) ?_
  refine WL.val (Yl.move (v := .int .i64 (wi64 ((a0.length : Int) - 1))) rfl) ?_
  obtain ⟨hc9, H⟩ := guardE H
  obtain ⟨b10, of11, hA12, he13⟩ := (Row.sl hR8) (by omega)
  refine WL.val (Yl.elemAddr (i := wi64 ((a0.length : Int) - 1)) rfl rfl hA12 Try.underlying36 sz42 (by omega)) ?_
  obtain ⟨cs14, hr15, hx16⟩ := he13 (wi64 ((a0.length : Int) - 1)).toNat _ (getD_some (d := Thand.z) (by omega))
  obtain ⟨rfl⟩ := Thand.open hr15
  refine WL.val (Yl.loadAgg (cs := [.int .i64 ((a0.getD (wi64 ((a0.length : Int) - 1)).toNat Thand.z).used), .int .i64 ((a0.getD (wi64 ((a0.length : Int) - 1)).toNat Thand.z).id)]) rfl Try.underlying42 rfl sz42 (fun j u hu => by rw [add_of]; exact ((Ctx.sub_of [CH.row g1 o2 [.slice A3 n5 c4]] [] C)).cell (hx16 _ _ hu))) ?_
  obtain ⟨g17, w18, hy19, C20⟩ := ev_alloc (P := Try.prog) (e := 42) [.int .i64 0, .int .i64 0] C zr42 rfl
  refine WL.val (hy19 _ _) ?_
  obtain ⟨w21, hy22, C23⟩ := ev_set (P := Try.prog) (ps1 := []) (ps2 := [CH.row g1 o2 [.slice A3 n5 c4], p7]) (t := 42) (o := 0) [.int .i64 0, .int .i64 0] [] [.int .i64 0, .int .i64 0] [] [.int .i64 ((a0.getD (wi64 ((a0.length : Int) - 1)).toNat Thand.z).used), .int .i64 ((a0.getD (wi64 ((a0.length : Int) - 1)).toNat Thand.z).id)] (.agg (List.toArray [.int .i64 ((a0.getD (wi64 ((a0.length : Int) - 1)).toNat Thand.z).used), .int .i64 ((a0.getD (wi64 ((a0.length : Int) - 1)).toNat Thand.z).id)])) C20 rfl rfl rfl rfl (by simp [Value.oneCell']) sz42
  have C24 : Ctx _ _ _ _ F [CH.row g17 0 [.int .i64 ((a0.getD (wi64 ((a0.length : Int) - 1)).toNat Thand.z).used), .int .i64 ((a0.getD (wi64 ((a0.length : Int) - 1)).toNat Thand.z).id)], CH.row g1 o2 [.slice A3 n5 c4], p7] := C23
  refine WL.skip (hy22 _ _ _ _ (rfl : ev _ _ = .pointer (some ⟨g17, 0 + 0, none⟩)) rfl) ?_
  refine WL.done ?_
  refine W.seq ?_
  refine W.region rfl ?_
  refine WL.val (Yl.move (v := .pointer (some ⟨g1, o2, none⟩)) rfl) ?_
  refine WL.val (Yl.move (v := .pointer (some ⟨g1, o2, none⟩)) rfl) ?_
  refine WL.val (Yl.nilCheck rfl) ?_
  refine WL.val (Yl.loadV (cs := [.slice A3 n5 c4]) (v := .slice A3 n5 c4) (rfl : ev _ _ = .pointer (some ⟨g1, o2 + 0, none⟩)) Try.underlying36 rfl (Ctx.sub_of [CH.row g17 0 [.int .i64 ((a0.getD (wi64 ((a0.length : Int) - 1)).toNat Thand.z).used), .int .i64 ((a0.getD (wi64 ((a0.length : Int) - 1)).toNat Thand.z).id)]] [p7] C24) rfl) ?_
  refine WL.val (Yl.move (v := .int .i64 (wi64 ((a0.length : Int) - 1))) rfl) ?_
  obtain ⟨hc25, H⟩ := guardE H
  have hl28 := (Row.len_le hR8).1
  obtain ⟨hn26, hR27⟩ := Row.take hR8 (wi64 ((a0.length : Int) - 1)).toNat (by omega)
  refine WL.val (Yl.sliceHi rfl Try.underlying36 sz42 rfl ⟨hc25.1, by omega⟩) ?_
  refine WL.val (Yl.nilCheck rfl) ?_
  obtain ⟨w29, hy30, C31⟩ := ev_set (P := Try.prog) (ps1 := [CH.row g17 0 [.int .i64 ((a0.getD (wi64 ((a0.length : Int) - 1)).toNat Thand.z).used), .int .i64 ((a0.getD (wi64 ((a0.length : Int) - 1)).toNat Thand.z).id)]]) (ps2 := [p7]) (t := 36) (o := 0) [.slice A3 n5 c4] [] [.slice A3 n5 c4] [] [.slice A3 ((wi64 ((a0.length : Int) - 1)).toNat) c4] (.slice A3 ((wi64 ((a0.length : Int) - 1)).toNat) c4) C24 rfl rfl rfl rfl (by simp [Value.oneCell']) sz36
  have C32 : Ctx _ _ _ _ F [CH.row g17 0 [.int .i64 ((a0.getD (wi64 ((a0.length : Int) - 1)).toNat Thand.z).used), .int .i64 ((a0.getD (wi64 ((a0.length : Int) - 1)).toNat Thand.z).id)], CH.row g1 o2 [.slice A3 ((wi64 ((a0.length : Int) - 1)).toNat) c4], p7] := C31
  refine WL.skip (hy30 _ _ _ _ (rfl : ev _ _ = .pointer (some ⟨g1, o2 + 0, none⟩)) rfl) ?_
  refine WL.done ?_
  refine W.seq ?_
  refine W.region rfl ?_
  refine WL.val (Yl.loadVA (cs := [.int .i64 ((a0.getD (wi64 ((a0.length : Int) - 1)).toNat Thand.z).used), .int .i64 ((a0.getD (wi64 ((a0.length : Int) - 1)).toNat Thand.z).id)]) (us := [.int .i64 ((a0.getD (wi64 ((a0.length : Int) - 1)).toNat Thand.z).used), .int .i64 ((a0.getD (wi64 ((a0.length : Int) - 1)).toNat Thand.z).id)]) (rfl : ev _ _ = .pointer (some ⟨g17, 0 + 0, none⟩)) Try.underlying42 rfl sz42 (Ctx.sub_of [] [CH.row g1 o2 [.slice A3 ((wi64 ((a0.length : Int) - 1)).toNat) c4], p7] C32) rfl) ?_
  refine WL.val (Yl.mkIface (v := .agg (List.toArray [.int .i64 ((a0.getD (wi64 ((a0.length : Int) - 1)).toNat Thand.z).used), .int .i64 ((a0.getD (wi64 ((a0.length : Int) - 1)).toNat Thand.z).id)])) rfl Try.underlying42 rfl) ?_
  refine WL.val (Yl.assign (v := .iface 42 (.agg (List.toArray [.int .i64 ((a0.getD (wi64 ((a0.length : Int) - 1)).toNat Thand.z).used), .int .i64 ((a0.getD (wi64 ((a0.length : Int) - 1)).toNat Thand.z).id)]))) rfl) ?_
  refine WL.done ?_
  refine W.ret ?_
  have C33 : Ctx _ _ _ _ F [CH.row g1 o2 [.slice A3 ((wi64 ((a0.length : Int) - 1)).toNat) c4], p7] := Ctx.drop [] [CH.row g1 o2 [.slice A3 ((wi64 ((a0.length : Int) - 1)).toNat) c4], p7] C32
  cases H
  exact post_r (resE1 rfl rfl) ⟨A3, c4, (wi64 ((a0.length : Int) - 1)).toNat, p7, rfl, C33, hn26, hR27⟩
/-! ### container/heap.down: function 18 -/
def heap_down.l1 : Nat → Int → Int → List Thand → Option (Int × (List Thand))
  | 0, _, _, _ => none
  | k + 1, a2, x336, x337 => if ((decide ((wi64 ((wi64 (2 * x336)) + 1)) ≥ a2)) || (decide ((wi64 ((wi64 (2 * x336)) + 1)) < 0))) = true then (some (x336, x337)) else (((if (wi64 ((wi64 ((wi64 (2 * x336)) + 1)) + 1)) < a2 then ((crew_idle_Less.f k x337 (wi64 ((wi64 ((wi64 (2 * x336)) + 1)) + 1)) (wi64 ((wi64 (2 * x336)) + 1))).bind fun r460 => some (r460)) else (some (false))).bind fun g453 => if g453 = true then (some (wi64 ((wi64 ((wi64 (2 * x336)) + 1)) + 1))) else (some (wi64 ((wi64 (2 * x336)) + 1)))).bind fun x450 => (crew_idle_Less.f k x337 x450 x336).bind fun r476 => if r476 = true then ((crew_idle_Swap.f k x337 x336 x450).bind fun r482 => heap_down.l1 k a2 x450 r482) else (some (x336, x337)))
def heap_down.f (k : Nat) (a0 : List Thand) (a1 : Int) (a2 : Int) : Option (Bool × (List Thand)) := (heap_down.l1 k a2 a1 a0).bind fun ⟨x245, x246⟩ => some (decide (x245 > a1), x246)
set_option maxRecDepth 100000 in
set_option maxHeartbeats 4000000 in
theorem heap_down.calls (k : Nat) (w : World) (F : CH) (g1 : Nat) (o2 : Nat) (A3 : Option Addr) (c4 : Nat) (n5 : Nat) (p7 : CH) (a0 : List Thand) (a1 : Int) (a2 : Int) (hp : Pre w F [CH.row g1 o2 [.slice A3 n5 c4], p7]) (hn6 : n5 = a0.length) (hR8 : Row Thand.K F p7 (.slice A3 n5 c4) a0) (r0_ : Bool) (r1_ : List Thand) (H : heap_down.f k a0 a1 a2 = some (r0_, r1_)) :
    Calls Try.prog 18 #[.iface 40 (.pointer (some ⟨g1, o2, none⟩)), .int .i64 a1, .int .i64 a2] w fun e w' => ∃ (A489 : Option Addr) (c490 : Nat) (n491 : Nat) (p493 : CH), e = .returned (.bool r0_) ∧ Ctx w F (domL [CH.row g1 o2 [.slice A3 n5 c4], p7]) w' F [CH.row g1 o2 [.slice A489 n491 c490], p493] ∧ n491 = r1_.length ∧ Row Thand.K F p493 (.slice A489 n491 c490) r1_ := by
  have C := Ctx.start hp
  generalize hD : domL [CH.row g1 o2 [.slice A3 n5 c4], p7] = D at C ⊢
  unfold heap_down.f at H
  refine Calls.ofW Try.func18 rfl (by simp [Try.ntmps18]) ?_
  refine W.seq ?_
  refine W.region rfl ?_
  refine WL.val (Yl.assign (v := .bool false) rfl) ?_
  refine WL.done ?_
  refine W.seq ?_
  refine W.region rfl ?_
  refine WL.val (Yl.move (v := .int .i64 a1) rfl) ?_
  refine WL.val (Yl.assign (v := .int .i64 a1) rfl) ?_
  refine WL.done ?_
  refine W.seq ?_
  obtain ⟨⟨x245, x246⟩, hX254, H⟩ := bindE H
  refine W.cutM (fun env_ w_ => ∃ (A247 : Option Addr) (c248 : Nat) (n249 : Nat) (p251 : CH), env_ 1 = .int .i64 a1 ∧ env_ 7 = .int .i64 x245 ∧ Ctx w F D w_ F [CH.row g1 o2 [.slice A247 n249 c248], p251] ∧ n249 = x246.length ∧ Row Thand.K F p251 (.slice A247 n249 c248) x246) ?_ ?_
  · skip
    refine W.block ?_
    refine W.loop (fun g_ env_ w_ => ∃ (x336 : Int) (x337 : List Thand) (A338 : Option Addr) (c339 : Nat) (n340 : Nat) (p342 : CH), env_ 0 = .iface 40 (.pointer (some ⟨g1, o2, none⟩)) ∧ env_ 1 = .int .i64 a1 ∧ env_ 2 = .int .i64 a2 ∧ env_ 7 = .int .i64 x336 ∧ Ctx w F D w_ F [CH.row g1 o2 [.slice A338 n340 c339], p342] ∧ n340 = x337.length ∧ Row Thand.K F p342 (.slice A338 n340 c339) x337 ∧ heap_down.l1 g_ a2 x336 x337 = some (x245, x246)) k ⟨a1, a0, A3, c4, n5, p7, rfl, rfl, rfl, rfl, C, hn6, hR8, hX254⟩ ?_
    clear hX254
    rintro g_ env_ w_ ⟨x336, x337, A338, c339, n340, p342, ho332, ho333, ho334, ho335, C344, hn341, hR343, hX254⟩
    rcases g_ with _ | k416
    · exact absurd hX254 (by simp [heap_down.l1])
    rw [heap_down.l1] at hX254
    refine W.block ?_
    refine W.seq ?_
    refine W.region rfl ?_
    refine WL.val (Yl.move (v := .int .i64 x336) ho335) ?_
    refine WL.val (Yl.mul (m := 2) (n := x336) (r := wi64 (2 * x336)) rfl rfl rfl) ?_
    refine WL.val (Yl.add (m := wi64 (2 * x336)) (n := 1) (r := wi64 ((wi64 (2 * x336)) + 1)) rfl rfl rfl) ?_
    refine WL.val (Yl.assign (v := .int .i64 (wi64 ((wi64 (2 * x336)) + 1))) rfl) ?_
    refine WL.done ?_
    refine W.seq ?_
    refine W.seq ?_
    refine W.region rfl ?_
    refine WL.val (Yl.move (v := .int .i64 (wi64 ((wi64 (2 * x336)) + 1))) rfl) ?_
    refine WL.val (Yl.move (v := .int .i64 a2) ho334) ?_
    refine WL.val (Yl.geq (m := wi64 ((wi64 (2 * x336)) + 1)) (n := a2) (q := decide ((wi64 ((wi64 (2 * x336)) + 1)) ≥ a2)) rfl rfl rfl) ?_
    refine WL.val (Yl.move (v := .bool (decide ((wi64 ((wi64 (2 * x336)) + 1)) ≥ a2))) rfl) ?_
    refine WL.cut (fun env_ w_ => env_ 21 = .bool ((decide ((wi64 ((wi64 (2 * x336)) + 1)) ≥ a2)) || (decide ((wi64 ((wi64 (2 * x336)) + 1)) < 0))) ∧ env_ 0 = .iface 40 (.pointer (some ⟨g1, o2, none⟩)) ∧ env_ 1 = .int .i64 a1 ∧ env_ 2 = .int .i64 a2 ∧ env_ 7 = .int .i64 x336 ∧ env_ 8 = .int .i64 (wi64 ((wi64 (2 * x336)) + 1)) ∧ Ctx w F D w_ F [CH.row g1 o2 [.slice A338 n340 c339], p342]) ?_ ?_
    · skip
      rcases Bool.eq_false_or_eq_true (decide ((wi64 ((wi64 (2 * x336)) + 1)) ≥ a2)) with hb417 | hb417
      · skip
        refine WL.off rfl (congrArg Value.bool hb417) ?_
        refine WL.off rfl (congrArg Value.bool hb417) ?_
        refine WL.val (Yl.pickT (v := .bool true) (congrArg Value.bool hb417) rfl) ?_
        exact WL.done ⟨(congrArg Value.bool (show true = ((decide ((wi64 ((wi64 (2 * x336)) + 1)) ≥ a2)) || (decide ((wi64 ((wi64 (2 * x336)) + 1)) < 0))) from by simp [hb417])), ho332, ho333, ho334, ho335, rfl, C344⟩
      · skip
        refine WL.on rfl (congrArg Value.bool hb417) ?_
        refine WL.val (Yl.move (v := .int .i64 (wi64 ((wi64 (2 * x336)) + 1))) rfl) ?_
        refine WL.on rfl (congrArg Value.bool hb417) ?_
        refine WL.val (Yl.lss (m := wi64 ((wi64 (2 * x336)) + 1)) (n := 0) (q := decide ((wi64 ((wi64 (2 * x336)) + 1)) < 0)) rfl rfl rfl) ?_
        refine WL.val (Yl.pickF (v := .bool (decide ((wi64 ((wi64 (2 * x336)) + 1)) < 0))) (congrArg Value.bool hb417) rfl) ?_
        exact WL.done ⟨(congrArg Value.bool (show (decide ((wi64 ((wi64 (2 * x336)) + 1)) < 0)) = ((decide ((wi64 ((wi64 (2 * x336)) + 1)) ≥ a2)) || (decide ((wi64 ((wi64 (2 * x336)) + 1)) < 0))) from by simp [hb417])), ho332, ho333, ho334, ho335, rfl, C344⟩
    · skip
      rintro env_ w_ ⟨ho418, ho419, ho420, ho421, ho422, ho423, C424⟩
      rcases iteE hX254 with ⟨hc425, hX254⟩ | ⟨hc425, hX254⟩
      · skip
        refine W.condT (ho418.trans (congrArg Value.bool hc425)) ?_
        refine W.exit ?_
        refine thenE_x ?_
        refine inB_x rfl ?_
        refine thenE_x ?_
        refine inB_here ?_
        cases hX254
        refine thenE_n ?_
        exact ⟨A338, c339, n340, p342, ho420, ho422, C424, hn341, hR343⟩
      · skip
        refine W.condF (ho418.trans (congrArg Value.bool (Bool.eq_false_iff.2 hc425))) ?_
        refine W.skip ?_
        refine W.seq ?_
        refine W.region rfl ?_
        refine WL.val (Yl.move (v := .int .i64 (wi64 ((wi64 (2 * x336)) + 1))) ho423) ?_
        refine WL.val (Yl.assign (v := .int .i64 (wi64 ((wi64 (2 * x336)) + 1))) rfl) ?_
        refine WL.done ?_
        refine W.seq ?_
        obtain ⟨x450, hX452, hX254⟩ := bindE hX254
        refine W.cutM (fun env_ w_ => env_ 0 = .iface 40 (.pointer (some ⟨g1, o2, none⟩)) ∧ env_ 1 = .int .i64 a1 ∧ env_ 2 = .int .i64 a2 ∧ env_ 7 = .int .i64 x336 ∧ env_ 9 = .int .i64 x450 ∧ Ctx w F D w_ F [CH.row g1 o2 [.slice A338 n340 c339], p342]) ?_ ?_
        · skip
          refine W.seq ?_
          refine W.region rfl ?_
          refine WL.val (Yl.move (v := .int .i64 (wi64 ((wi64 (2 * x336)) + 1))) ho423) ?_
          refine WL.val (Yl.add (m := wi64 ((wi64 (2 * x336)) + 1)) (n := 1) (r := wi64 ((wi64 ((wi64 (2 * x336)) + 1)) + 1)) rfl rfl rfl) ?_
          refine WL.val (Yl.assign (v := .int .i64 (wi64 ((wi64 ((wi64 (2 * x336)) + 1)) + 1))) rfl) ?_
          refine WL.done ?_
          refine W.seq ?_
          refine W.region rfl ?_
          refine WL.val (Yl.move (v := .int .i64 (wi64 ((wi64 ((wi64 (2 * x336)) + 1)) + 1))) rfl) ?_
          refine WL.val (Yl.move (v := .int .i64 a2) ho421) ?_
          refine WL.val (Yl.lss (m := wi64 ((wi64 ((wi64 (2 * x336)) + 1)) + 1)) (n := a2) (q := decide ((wi64 ((wi64 ((wi64 (2 * x336)) + 1)) + 1)) < a2)) rfl rfl rfl) ?_
          refine WL.val (Yl.move (v := .bool (decide ((wi64 ((wi64 ((wi64 (2 * x336)) + 1)) + 1)) < a2))) rfl) ?_
          obtain ⟨g453, HE454, hX452⟩ := bindE hX452
          refine WL.cut (fun env_ w_ => env_ 33 = .bool g453 ∧ env_ 0 = .iface 40 (.pointer (some ⟨g1, o2, none⟩)) ∧ env_ 1 = .int .i64 a1 ∧ env_ 2 = .int .i64 a2 ∧ env_ 7 = .int .i64 x336 ∧ env_ 9 = .int .i64 (wi64 ((wi64 (2 * x336)) + 1)) ∧ env_ 10 = .int .i64 (wi64 ((wi64 ((wi64 (2 * x336)) + 1)) + 1)) ∧ Ctx w F D w_ F [CH.row g1 o2 [.slice A338 n340 c339], p342]) ?_ ?_
          · skip
            rcases iteE HE454 with ⟨hc455, HE454⟩ | ⟨hc455, HE454⟩
            · skip
              refine WL.on rfl (congrArg Value.bool (decide_eq_true hc455)) ?_
              refine WL.val (Yl.move (v := .iface 40 (.pointer (some ⟨g1, o2, none⟩))) ho419) ?_
              refine WL.on rfl (congrArg Value.bool (decide_eq_true hc455)) ?_
              refine WL.val (Yl.move (v := .int .i64 (wi64 ((wi64 ((wi64 (2 * x336)) + 1)) + 1))) rfl) ?_
              refine WL.on rfl (congrArg Value.bool (decide_eq_true hc455)) ?_
              refine WL.val (Yl.move (v := .int .i64 (wi64 ((wi64 (2 * x336)) + 1))) ho423) ?_
              refine WL.on rfl (congrArg Value.bool (decide_eq_true hc455)) ?_
              have le456 : CH.le F (CH.join F p342) := CH.le_joinL _ _
              have lp457 : CH.le p342 (CH.join F p342) := CH.le_joinR (Ctx.dis_of [CH.row g1 o2 [.slice A338 n340 c339]] [] C424)
              have C458 : Ctx _ _ _ _ (CH.join F p342) [CH.row g1 o2 [.slice A338 n340 c339]] := Ctx.freeze [CH.row g1 o2 [.slice A338 n340 c339]] [] C424
              obtain ⟨r460, hg459, HE454⟩ := bindE HE454
              refine WL.call (args := #[.slice A338 n340 c339, .int .i64 (wi64 ((wi64 ((wi64 (2 * x336)) + 1)) + 1)), .int .i64 (wi64 ((wi64 (2 * x336)) + 1))]) (Yenter.invV (v := .slice A338 n340 c339) rfl (by kernel_rfl) Try.underlying40 (run_loadV1 (o := 0) (cs := [.slice A338 n340 c339]) (v := .slice A338 n340 c339) Try.underlying36 rfl (Ctx.sub_of [] [p342] C424) rfl) Try.func36 (by kernel_rfl) rfl (argsE (.cons rfl (.cons rfl .nil)))) (crew_idle_Less.calls k416 _ (CH.join F p342) A338 c339 n340 x337 (wi64 ((wi64 ((wi64 (2 * x336)) + 1)) + 1)) (wi64 ((wi64 (2 * x336)) + 1)) C458.pre0 hn341 (Row.len_le hR343).1 (Row.len_le hR343).2.1 (Sl.mono (Row.sl hR343) le456 lp457) r460 hg459) ?_
              rintro e_ w_ ⟨rfl, ⟨m461, rfl⟩⟩
              refine ⟨_, rfl, ?_⟩
              have C462 := Ctx.drewN C424 m461
              refine WL.val (Yl.pickT (v := .bool r460) (congrArg Value.bool (decide_eq_true hc455)) rfl) ?_
              cases HE454
              exact WL.done ⟨rfl, ho419, ho420, ho421, ho422, rfl, rfl, C462⟩
            · skip
              refine WL.off rfl (congrArg Value.bool (decide_eq_false hc455)) ?_
              refine WL.off rfl (congrArg Value.bool (decide_eq_false hc455)) ?_
              refine WL.off rfl (congrArg Value.bool (decide_eq_false hc455)) ?_
              refine WL.off rfl (congrArg Value.bool (decide_eq_false hc455)) ?_
              refine WL.val (Yl.pickF (v := .bool false) (congrArg Value.bool (decide_eq_false hc455)) rfl) ?_
              cases HE454
              exact WL.done ⟨rfl, ho419, ho420, ho421, ho422, rfl, rfl, C424⟩
          · skip
            rintro env_ w_ ⟨ho463, ho464, ho465, ho466, ho467, ho468, ho469, C470⟩
            rcases iteE hX452 with ⟨hc471, hX452⟩ | ⟨hc471, hX452⟩
            · skip
              refine W.condT (ho463.trans (congrArg Value.bool hc471)) ?_
              refine W.region rfl ?_
              refine WL.val (Yl.move (v := .int .i64 (wi64 ((wi64 ((wi64 (2 * x336)) + 1)) + 1))) ho469) ?_
              refine WL.val (Yl.assign (v := .int .i64 (wi64 ((wi64 ((wi64 (2 * x336)) + 1)) + 1))) rfl) ?_
              refine WL.done ?_
              cases hX452
              refine thenE_n ?_
              exact ⟨ho464, ho465, ho466, ho467, rfl, C470⟩
            · skip
              refine W.condF (ho463.trans (congrArg Value.bool (Bool.eq_false_iff.2 hc471))) ?_
              refine W.skip ?_
              cases hX452
              refine thenE_n ?_
              exact ⟨ho464, ho465, ho466, ho467, ho468, C470⟩
        · skip
          rintro env_ w_ ⟨ho445, ho446, ho447, ho448, ho449, C451⟩
          refine W.seq ?_
          refine W.seq ?_
          refine W.region rfl ?_
          refine WL.val (Yl.move (v := .iface 40 (.pointer (some ⟨g1, o2, none⟩))) ho445) ?_
          refine WL.val (Yl.move (v := .int .i64 x450) ho449) ?_
          refine WL.val (Yl.move (v := .int .i64 x336) ho448) ?_
          have le472 : CH.le F (CH.join F p342) := CH.le_joinL _ _
          have lp473 : CH.le p342 (CH.join F p342) := CH.le_joinR (Ctx.dis_of [CH.row g1 o2 [.slice A338 n340 c339]] [] C451)
          have C474 : Ctx _ _ _ _ (CH.join F p342) [CH.row g1 o2 [.slice A338 n340 c339]] := Ctx.freeze [CH.row g1 o2 [.slice A338 n340 c339]] [] C451
          obtain ⟨r476, hg475, hX254⟩ := bindE hX254
          refine WL.call (args := #[.slice A338 n340 c339, .int .i64 x450, .int .i64 x336]) (Yenter.invV (v := .slice A338 n340 c339) rfl (by kernel_rfl) Try.underlying40 (run_loadV1 (o := 0) (cs := [.slice A338 n340 c339]) (v := .slice A338 n340 c339) Try.underlying36 rfl (Ctx.sub_of [] [p342] C451) rfl) Try.func36 (by kernel_rfl) rfl (argsE (.cons rfl (.cons rfl .nil)))) (crew_idle_Less.calls k416 _ (CH.join F p342) A338 c339 n340 x337 x450 x336 C474.pre0 hn341 (Row.len_le hR343).1 (Row.len_le hR343).2.1 (Sl.mono (Row.sl hR343) le472 lp473) r476 hg475) ?_
          rintro e_ w_ ⟨rfl, ⟨m477, rfl⟩⟩
          refine ⟨_, rfl, ?_⟩
          have C478 := Ctx.drewN C451 m477
          refine WL.val (Yl.not (p := r476) (q := !r476) rfl rfl) ?_
          refine WL.done ?_
          rcases iteE hX254 with ⟨hc479, hX254⟩ | ⟨hc479, hX254⟩
          · skip
            refine W.condF (congrArg Value.bool (nb_t hc479)) ?_
            refine W.skip ?_
            refine W.seq ?_
            refine W.region rfl ?_
            refine WL.val (Yl.move (v := .iface 40 (.pointer (some ⟨g1, o2, none⟩))) ho445) ?_
            refine WL.val (Yl.move (v := .int .i64 x336) ho448) ?_
            refine WL.val (Yl.move (v := .int .i64 x450) ho449) ?_
            have C480 : Ctx _ _ _ _ F [p342, CH.row g1 o2 [.slice A338 n340 c339]] := Ctx.swap [] [] C478
            obtain ⟨r482, hg481, hX254⟩ := bindE hX254
            refine WL.call (args := #[.slice A338 n340 c339, .int .i64 x336, .int .i64 x450]) (Yenter.invV (v := .slice A338 n340 c339) rfl (by kernel_rfl) Try.underlying40 (run_loadV1 (o := 0) (cs := [.slice A338 n340 c339]) (v := .slice A338 n340 c339) Try.underlying36 rfl (Ctx.sub_of [] [p342] C478) rfl) Try.func37 (by kernel_rfl) rfl (argsE (.cons rfl (.cons rfl .nil)))) (crew_idle_Swap.calls k416 _ F A338 c339 n340 p342 x337 x336 x450 (Ctx.pre (qs := [p342]) (rest := [CH.row g1 o2 [.slice A338 n340 c339]]) C480) hn341 hR343 r482 hg481) ?_
            rintro e_ w_ ⟨p483, rfl, C486, hn485, hR484⟩
            refine ⟨_, rfl, ?_⟩
            have C487 : Ctx _ _ _ _ F [p483, CH.row g1 o2 [.slice A338 n340 c339]] := Ctx.call (qs := [p342]) (rest := [CH.row g1 o2 [.slice A338 n340 c339]]) C480 C486
            refine WL.done ?_
            refine W.region rfl ?_
            refine WL.val (Yl.move (v := .int .i64 x450) ho449) ?_
            refine WL.val (Yl.assign (v := .int .i64 x450) rfl) ?_
            refine WL.done ?_
            refine inB_n ?_
            have C488 : Ctx _ _ _ _ F [CH.row g1 o2 [.slice A338 n340 c339], p483] := Ctx.swap [] [] C487
            exact thenE_n ⟨k416, Nat.lt_succ_self _, x450, r482, A338, c339, n340, p483, ho445, ho446, ho447, rfl, C488, hn485, hR484, hX254⟩
          · skip
            refine W.condT (congrArg Value.bool (nb_f hc479)) ?_
            refine W.exit ?_
            refine thenE_x ?_
            refine inB_x rfl ?_
            refine thenE_x ?_
            refine inB_here ?_
            cases hX254
            refine thenE_n ?_
            exact ⟨A338, c339, n340, p342, ho446, ho448, C478, hn341, hR343⟩
  · skip
    rintro env_ w_ ⟨A247, c248, n249, p251, ho243, ho244, C253, hn250, hR252⟩
    refine W.seq ?_
    refine W.region rfl ?_
    refine WL.val (Yl.move (v := .int .i64 x245) ho244) ?_
    refine WL.val (Yl.move (v := .int .i64 a1) ho243) ?_
    refine WL.val (Yl.gtr (m := x245) (n := a1) (q := decide (x245 > a1)) rfl rfl rfl) ?_
    refine WL.val (Yl.assign (v := .bool (decide (x245 > a1))) rfl) ?_
    refine WL.done ?_
    refine W.ret ?_
    cases H
    exact post_r (resE1 rfl rfl) ⟨A247, c248, n249, p251, rfl, C253, hn250, hR252⟩
/-! ### container/heap.Init: function 16 -/
def heap_Init.l1 : Nat → Int → Int → List Thand → Option (List Thand)
  | 0, _, _, _ => none
  | k + 1, r13, x99, x100 => if x99 ≥ 0 then ((heap_down.f k x100 x99 r13).bind fun ⟨r123, r124⟩ => heap_Init.l1 k r13 (wi64 (x99 - 1)) r124) else (some x100)
def heap_Init.f (k : Nat) (a0 : List Thand) : Option (List Thand) := (crew_idle_Len.f k a0).bind fun r13 => (heap_Init.l1 k r13 (wi64 ((wi64 (r13.tdiv 2)) - 1)) a0).bind fun x70 => some x70
set_option maxRecDepth 100000 in
set_option maxHeartbeats 4000000 in
theorem heap_Init.calls (k : Nat) (w : World) (F : CH) (g1 : Nat) (o2 : Nat) (A3 : Option Addr) (c4 : Nat) (n5 : Nat) (p7 : CH) (a0 : List Thand) (hp : Pre w F [CH.row g1 o2 [.slice A3 n5 c4], p7]) (hn6 : n5 = a0.length) (hR8 : Row Thand.K F p7 (.slice A3 n5 c4) a0) (r0_ : List Thand) (H : heap_Init.f k a0 = some r0_) :
    Calls Try.prog 16 #[.iface 40 (.pointer (some ⟨g1, o2, none⟩))] w fun e w' => ∃ (A133 : Option Addr) (c134 : Nat) (n135 : Nat) (p137 : CH), e = .returned (.tuple #[]) ∧ Ctx w F (domL [CH.row g1 o2 [.slice A3 n5 c4], p7]) w' F [CH.row g1 o2 [.slice A133 n135 c134], p137] ∧ n135 = r0_.length ∧ Row Thand.K F p137 (.slice A133 n135 c134) r0_ := by
  have C := Ctx.start hp
  generalize hD : domL [CH.row g1 o2 [.slice A3 n5 c4], p7] = D at C ⊢
  unfold heap_Init.f at H
  refine Calls.ofW Try.func16 rfl (by simp [Try.ntmps16]) ?_
  refine W.seq ?_
  refine W.region rfl ?_
  refine WL.val (Yl.move (v := .iface 40 (.pointer (some ⟨g1, o2, none⟩))) rfl) ?_
  have le9 : CH.le F (CH.join F p7) := CH.le_joinL _ _
  have lp10 : CH.le p7 (CH.join F p7) := CH.le_joinR (Ctx.dis_of [CH.row g1 o2 [.slice A3 n5 c4]] [] C)
  have C11 : Ctx _ _ _ _ (CH.join F p7) [CH.row g1 o2 [.slice A3 n5 c4]] := Ctx.freeze [CH.row g1 o2 [.slice A3 n5 c4]] [] C
  obtain ⟨r13, hg12, H⟩ := bindE H
  refine WL.call (args := #[.slice A3 n5 c4]) (Yenter.invV (v := .slice A3 n5 c4) rfl (by kernel_rfl) Try.underlying40 (run_loadV1 (o := 0) (cs := [.slice A3 n5 c4]) (v := .slice A3 n5 c4) Try.underlying36 rfl (Ctx.sub_of [] [p7] C) rfl) Try.func35 (by kernel_rfl) rfl (argsE .nil)) (crew_idle_Len.calls k _ (CH.join F p7) A3 c4 n5 a0 C11.pre0 hn6 (Row.len_le hR8).1 (Row.len_le hR8).2.1 (Sl.mono (Row.sl hR8) le9 lp10) r13 hg12) ?_
  rintro e_ w_ ⟨rfl, ⟨m14, rfl⟩⟩
  refine ⟨_, rfl, ?_⟩
  have C15 := Ctx.drewN C m14
  refine WL.val (Yl.assign (v := .int .i64 r13) rfl) ?_
  refine WL.done ?_
  refine W.seq ?_
  refine W.region rfl ?_
  refine WL.val (Yl.move (v := .int .i64 r13) rfl) ?_
  refine WL.val (Yl.quo (m := r13) (n := 2) (r := wi64 (r13.tdiv 2)) rfl rfl (by decide) rfl) ?_
  refine WL.val (Yl.sub (m := wi64 (r13.tdiv 2)) (n := 1) (r := wi64 ((wi64 (r13.tdiv 2)) - 1)) rfl rfl rfl) ?_
  refine WL.val (Yl.assign (v := .int .i64 (wi64 ((wi64 (r13.tdiv 2)) - 1))) rfl) ?_
  refine WL.done ?_
  obtain ⟨x70, hX78, H⟩ := bindE H
  refine W.cutM (fun env_ w_ => ∃ (A71 : Option Addr) (c72 : Nat) (n73 : Nat) (p75 : CH), Ctx w F D w_ F [CH.row g1 o2 [.slice A71 n73 c72], p75] ∧ n73 = x70.length ∧ Row Thand.K F p75 (.slice A71 n73 c72) x70) ?_ ?_
  · skip
    refine W.block ?_
    refine W.loop (fun g_ env_ w_ => ∃ (x99 : Int) (x100 : List Thand) (A101 : Option Addr) (c102 : Nat) (n103 : Nat) (p105 : CH), env_ 0 = .iface 40 (.pointer (some ⟨g1, o2, none⟩)) ∧ env_ 2 = .int .i64 r13 ∧ env_ 3 = .int .i64 x99 ∧ Ctx w F D w_ F [CH.row g1 o2 [.slice A101 n103 c102], p105] ∧ n103 = x100.length ∧ Row Thand.K F p105 (.slice A101 n103 c102) x100 ∧ heap_Init.l1 g_ r13 x99 x100 = some x70) k ⟨wi64 ((wi64 (r13.tdiv 2)) - 1), a0, A3, c4, n5, p7, rfl, rfl, rfl, C15, hn6, hR8, hX78⟩ ?_
    clear hX78
    rintro g_ env_ w_ ⟨x99, x100, A101, c102, n103, p105, ho96, ho97, ho98, C107, hn104, hR106, hX78⟩
    rcases g_ with _ | k120
    · exact absurd hX78 (by simp [heap_Init.l1])
    rw [heap_Init.l1] at hX78
    refine W.seq ?_
    refine W.seq ?_
    refine W.region rfl ?_
    refine WL.val (Yl.move (v := .int .i64 x99) ho98) ?_
    refine WL.val (Yl.geq (m := x99) (n := 0) (q := decide (x99 ≥ 0)) rfl rfl rfl) ?_
    refine WL.done ?_
    rcases iteE hX78 with ⟨hc121, hX78⟩ | ⟨hc121, hX78⟩
    · skip
      refine W.condT (congrArg Value.bool (decide_eq_true hc121)) ?_
      refine W.skip ?_
      refine W.seq ?_
      refine W.block ?_
      refine W.region rfl ?_
      refine WL.val (Yl.move (v := .iface 40 (.pointer (some ⟨g1, o2, none⟩))) ho96) ?_
      refine WL.val (Yl.move (v := .int .i64 x99) ho98) ?_
      refine WL.val (Yl.move (v := .int .i64 r13) ho97) ?_
      obtain ⟨⟨r123, r124⟩, hg122, hX78⟩ := bindE hX78
      refine WL.call (args := #[.iface 40 (.pointer (some ⟨g1, o2, none⟩)), .int .i64 x99, .int .i64 r13]) (Yenter.fn Try.func18 (by kernel_rfl) rfl (argsE (.cons rfl (.cons rfl (.cons rfl .nil))))) (heap_down.calls k120 _ F g1 o2 A101 c102 n103 p105 x100 x99 r13 (Ctx.pre (qs := [CH.row g1 o2 [.slice A101 n103 c102], p105]) (rest := []) C107) hn104 hR106 r123 r124 hg122) ?_
      rintro e_ w_ ⟨A125, c126, n127, p129, rfl, C131, hn128, hR130⟩
      refine ⟨_, rfl, ?_⟩
      have C132 : Ctx _ _ _ _ F [CH.row g1 o2 [.slice A125 n127 c126], p129] := Ctx.call (qs := [CH.row g1 o2 [.slice A101 n103 c102], p105]) (rest := []) C107 C131
      refine WL.done ?_
      refine inB_n ?_
      refine W.region rfl ?_
      refine WL.val (Yl.move (v := .int .i64 x99) ho98) ?_
      refine WL.val (Yl.sub (m := x99) (n := 1) (r := wi64 (x99 - 1)) rfl rfl rfl) ?_
      refine WL.val (Yl.assign (v := .int .i64 (wi64 (x99 - 1))) rfl) ?_
      refine WL.done ?_
      exact thenE_n ⟨k120, Nat.lt_succ_self _, wi64 (x99 - 1), r124, A125, c126, n127, p129, ho96, ho97, rfl, C132, hn128, hR130, hX78⟩
    · skip
      refine W.condF (congrArg Value.bool (decide_eq_false hc121)) ?_
      refine W.exit ?_
      refine thenE_x ?_
      refine thenE_x ?_
      refine inB_here ?_
      cases hX78
      refine thenE_n ?_
      exact ⟨A101, c102, n103, p105, C107, hn104, hR106⟩
  · skip
    rintro env_ w_ ⟨A71, c72, n73, p75, C77, hn74, hR76⟩
    cases H
    exact post_n (resE0 rfl ) ⟨A71, c72, n73, p75, rfl, C77, hn74, hR76⟩
/-! ### container/heap.Pop: function 17 -/
def heap_Pop.f (k : Nat) (a0 : List Thand) : Option (Thand × (List Thand)) := (crew_idle_Len.f k a0).bind fun r13 => (crew_idle_Swap.f k a0 0 (wi64 (r13 - 1))).bind fun r18 => (heap_down.f k r18 0 (wi64 (r13 - 1))).bind fun ⟨r26, r27⟩ => (crew_idle_Pop.f k r27).bind fun ⟨r37, r38⟩ => some (r37, r38)
set_option maxRecDepth 100000 in
set_option maxHeartbeats 4000000 in
theorem heap_Pop.calls (k : Nat) (w : World) (F : CH) (g1 : Nat) (o2 : Nat) (A3 : Option Addr) (c4 : Nat) (n5 : Nat) (p7 : CH) (a0 : List Thand) (hp : Pre w F [CH.row g1 o2 [.slice A3 n5 c4], p7]) (hn6 : n5 = a0.length) (hR8 : Row Thand.K F p7 (.slice A3 n5 c4) a0) (r0_ : Thand) (r1_ : List Thand) (H : heap_Pop.f k a0 = some (r0_, r1_)) :
    Calls Try.prog 17 #[.iface 40 (.pointer (some ⟨g1, o2, none⟩))] w fun e w' => ∃ (A47 : Option Addr) (c48 : Nat) (n49 : Nat) (p51 : CH), e = .returned (.iface 42 (.agg (List.toArray [.int .i64 r0_.used, .int .i64 r0_.id]))) ∧ Ctx w F (domL [CH.row g1 o2 [.slice A3 n5 c4], p7]) w' F [CH.row g1 o2 [.slice A47 n49 c48], p51] ∧ n49 = r1_.length ∧ Row Thand.K F p51 (.slice A47 n49 c48) r1_ := by
  have C := Ctx.start hp
  generalize hD : domL [CH.row g1 o2 [.slice A3 n5 c4], p7] = D at C ⊢
  unfold heap_Pop.f at H
  refine Calls.ofW Try.func17 rfl (by simp [Try.ntmps17]) ?_
  refine W.seq ?_
  refine W.region rfl ?_
  refine WL.val (Yl.assign (v := .nilIface) rfl) ?_
  refine WL.done ?_
  refine W.seq ?_
  refine W.region rfl ?_
  refine WL.val (Yl.move (v := .iface 40 (.pointer (some ⟨g1, o2, none⟩))) rfl) ?_
  have le9 : CH.le F (CH.join F p7) := CH.le_joinL _ _
  have lp10 : CH.le p7 (CH.join F p7) := CH.le_joinR (Ctx.dis_of [CH.row g1 o2 [.slice A3 n5 c4]] [] C)
  have C11 : Ctx _ _ _ _ (CH.join F p7) [CH.row g1 o2 [.slice A3 n5 c4]] := Ctx.freeze [CH.row g1 o2 [.slice A3 n5 c4]] [] C
  obtain ⟨r13, hg12, H⟩ := bindE H
  refine WL.call (args := #[.slice A3 n5 c4]) (Yenter.invV (v := .slice A3 n5 c4) rfl (by kernel_rfl) Try.underlying40 (run_loadV1 (o := 0) (cs := [.slice A3 n5 c4]) (v := .slice A3 n5 c4) Try.underlying36 rfl (Ctx.sub_of [] [p7] C) rfl) Try.func35 (by kernel_rfl) rfl (argsE .nil)) (crew_idle_Len.calls k _ (CH.join F p7) A3 c4 n5 a0 C11.pre0 hn6 (Row.len_le hR8).1 (Row.len_le hR8).2.1 (Sl.mono (Row.sl hR8) le9 lp10) r13 hg12) ?_
  rintro e_ w_ ⟨rfl, ⟨m14, rfl⟩⟩
  refine ⟨_, rfl, ?_⟩
  have C15 := Ctx.drewN C m14
  refine WL.val (Yl.sub (m := r13) (n := 1) (r := wi64 (r13 - 1)) rfl rfl rfl) ?_
  refine WL.val (Yl.assign (v := .int .i64 (wi64 (r13 - 1))) rfl) ?_
  refine WL.done ?_
  refine W.seq ?_
  refine W.region rfl ?_
  refine WL.val (Yl.move (v := .iface 40 (.pointer (some ⟨g1, o2, none⟩))) rfl) ?_
  refine WL.val (Yl.move (v := .int .i64 (wi64 (r13 - 1))) rfl) ?_
  have C16 : Ctx _ _ _ _ F [p7, CH.row g1 o2 [.slice A3 n5 c4]] := Ctx.swap [] [] C15
  obtain ⟨r18, hg17, H⟩ := bindE H
  refine WL.call (args := #[.slice A3 n5 c4, .int .i64 0, .int .i64 (wi64 (r13 - 1))]) (Yenter.invV (v := .slice A3 n5 c4) rfl (by kernel_rfl) Try.underlying40 (run_loadV1 (o := 0) (cs := [.slice A3 n5 c4]) (v := .slice A3 n5 c4) Try.underlying36 rfl (Ctx.sub_of [] [p7] C15) rfl) Try.func37 (by kernel_rfl) rfl (argsE (.cons rfl (.cons rfl .nil)))) (crew_idle_Swap.calls k _ F A3 c4 n5 p7 a0 0 (wi64 (r13 - 1)) (Ctx.pre (qs := [p7]) (rest := [CH.row g1 o2 [.slice A3 n5 c4]]) C16) hn6 hR8 r18 hg17) ?_
  rintro e_ w_ ⟨p19, rfl, C22, hn21, hR20⟩
  refine ⟨_, rfl, ?_⟩
  have C23 : Ctx _ _ _ _ F [p19, CH.row g1 o2 [.slice A3 n5 c4]] := Ctx.call (qs := [p7]) (rest := [CH.row g1 o2 [.slice A3 n5 c4]]) C16 C22
  refine WL.done ?_
  refine W.seq ?_
  refine W.region rfl ?_
  refine WL.val (Yl.move (v := .iface 40 (.pointer (some ⟨g1, o2, none⟩))) rfl) ?_
  refine WL.val (Yl.move (v := .int .i64 (wi64 (r13 - 1))) rfl) ?_
  have C24 : Ctx _ _ _ _ F [CH.row g1 o2 [.slice A3 n5 c4], p19] := Ctx.swap [] [] C23
  obtain ⟨⟨r26, r27⟩, hg25, H⟩ := bindE H
  refine WL.call (args := #[.iface 40 (.pointer (some ⟨g1, o2, none⟩)), .int .i64 0, .int .i64 (wi64 (r13 - 1))]) (Yenter.fn Try.func18 (by kernel_rfl) rfl (argsE (.cons rfl (.cons rfl (.cons rfl .nil))))) (heap_down.calls k _ F g1 o2 A3 c4 n5 p19 r18 0 (wi64 (r13 - 1)) (Ctx.pre (qs := [CH.row g1 o2 [.slice A3 n5 c4], p19]) (rest := []) C24) hn21 hR20 r26 r27 hg25) ?_
  rintro e_ w_ ⟨A28, c29, n30, p32, rfl, C34, hn31, hR33⟩
  refine ⟨_, rfl, ?_⟩
  have C35 : Ctx _ _ _ _ F [CH.row g1 o2 [.slice A28 n30 c29], p32] := Ctx.call (qs := [CH.row g1 o2 [.slice A3 n5 c4], p19]) (rest := []) C24 C34
  refine WL.done ?_
  refine W.seq ?_
  refine W.region rfl ?_
  refine WL.val (Yl.move (v := .iface 40 (.pointer (some ⟨g1, o2, none⟩))) rfl) ?_
  obtain ⟨⟨r37, r38⟩, hg36, H⟩ := bindE H
  refine WL.call (args := #[.pointer (some ⟨g1, o2, none⟩)]) (Yenter.inv rfl (by kernel_rfl) Try.underlying40 Try.func38 (by kernel_rfl) rfl (argsE .nil)) (crew_idle_Pop.calls k _ F g1 o2 A28 c29 n30 p32 r27 (Ctx.pre (qs := [CH.row g1 o2 [.slice A28 n30 c29], p32]) (rest := []) C35) hn31 hR33 r37 r38 hg36) ?_
  rintro e_ w_ ⟨A39, c40, n41, p43, rfl, C45, hn42, hR44⟩
  refine ⟨_, rfl, ?_⟩
  have C46 : Ctx _ _ _ _ F [CH.row g1 o2 [.slice A39 n41 c40], p43] := Ctx.call (qs := [CH.row g1 o2 [.slice A28 n30 c29], p32]) (rest := []) C35 C45
  refine WL.val (Yl.assign (v := .iface 42 (.agg (List.toArray [.int .i64 r37.used, .int .i64 r37.id]))) rfl) ?_
  refine WL.done ?_
  refine W.ret ?_
  cases H
  exact post_r (resE1 rfl rfl) ⟨A39, c40, n41, p43, rfl, C46, hn42, hR44⟩
/-! ### jurat/crew.Pick: function 8 -/
def crew_Pick.l1 : Nat → Int → List Int → Int → List Thand → Option ((List Int) × (List Thand))
  | 0, _, _, _, _ => none
  | k + 1, a3, x238, x247, x248 => if x247 < ((List.replicate a3.toNat (0 : Int)).length : Int) then ((heap_Pop.f k x248).bind fun ⟨r288, r289⟩ => if 0 ≤ x247 ∧ x247 < (x238.length : Int) then (crew_Pick.l1 k a3 (x238.set x247.toNat r288.id) (wi64 (x247 + 1)) r289) else none) else (some (x238, x248))
def crew_Pick.f (k : Nat) (a0 : List Int) (a1 : List Bool) (a2 : Int) (a3 : Int) : Option ((List Int) × Int) := (crew_right.f k a0 a1).bind fun r16 => if (((!r16) || (decide (a3 < 1))) || (decide (a2 < 0))) = true then (some (([] : List Int), 1)) else ((crew_able.f k a0 a1 a2).bind fun ⟨r30, r31⟩ => if r31 < a3 then (some (([] : List Int), 180)) else (if (r30.length : Int) < a3 then (some (([] : List Int), 70)) else ((heap_Init.f k r30).bind fun r57 => if 0 ≤ a3 ∧ a3 * 8 ≤ 140737488355328 then ((crew_Pick.l1 k a3 (List.replicate a3.toNat (0 : Int)) 0 r57).bind fun ⟨x187, x194⟩ => some (x187, 0)) else none)))
set_option maxRecDepth 100000 in
set_option maxHeartbeats 4000000 in
theorem crew_Pick.calls (k : Nat) (w : World) (F : CH) (A1 : Option Addr) (c2 : Nat) (n3 : Nat) (a0 : List Int) (A8 : Option Addr) (c9 : Nat) (n10 : Nat) (a1 : List Bool) (a2 : Int) (a3 : Int) (hp : Pre w F []) (hn4 : n3 = a0.length) (hl5 : a0.length ≤ c2) (hm6 : c2 ≤ maxLen) (hS7 : Sl (Kd.int .i64) F F A1 a0) (hn11 : n10 = a1.length) (hl12 : a1.length ≤ c9) (hm13 : c9 ≤ maxLen) (hS14 : Sl Kd.bool F F A8 a1) (r0_ : List Int) (r1_ : Int) (H : crew_Pick.f k a0 a1 a2 a3 = some (r0_, r1_)) :
    Calls Try.prog 8 #[.slice A1 n3 c2, .slice A8 n10 c9, .int .i64 a2, .int .i64 a3] w fun e w' => ∃ (A315 : Option Addr) (c316 : Nat) (n317 : Nat) (p319 : CH), e = .returned (.tuple #[(.slice A315 n317 c316), (.int .i64 r1_)]) ∧ Ctx w F (domL []) w' F [p319] ∧ n317 = r0_.length ∧ Row (Kd.int .i64) F p319 (.slice A315 n317 c316) r0_ := by
  have C := Ctx.start hp
  generalize hD : domL [] = D at C ⊢
  unfold crew_Pick.f at H
  refine Calls.ofW Try.func8 rfl (by simp [Try.ntmps8]) ?_
  refine W.seq ?_
  refine W.region rfl ?_
  refine WL.val (Yl.assign (v := .slice none 0 0) rfl) ?_
  refine WL.val (Yl.assign (v := .int .i64 0) rfl) ?_
  refine WL.done ?_
  refine W.seq ?_
  refine W.seq ?_
  refine W.region rfl ?_
  refine WL.val (Yl.move (v := .slice A1 n3 c2) rfl) ?_
  refine WL.val (Yl.move (v := .slice A8 n10 c9) rfl) ?_
  obtain ⟨r16, hg15, H⟩ := bindE H
  refine WL.call (args := #[.slice A1 n3 c2, .slice A8 n10 c9]) (Yenter.fn Try.func14 (by kernel_rfl) rfl (argsE (.cons rfl (.cons rfl .nil)))) (crew_right.calls k _ F A1 c2 n3 a0 A8 c9 n10 a1 C.pre0 hn4 hl5 hm6 hS7 hn11 hl12 hm13 hS14 r16 hg15) ?_
  rintro e_ w_ ⟨rfl, ⟨m17, rfl⟩⟩
  refine ⟨_, rfl, ?_⟩
  have C18 := Ctx.drewN C m17
  refine WL.val (Yl.not (p := r16) (q := !r16) rfl rfl) ?_
  refine WL.val (Yl.move (v := .bool (!r16)) rfl) ?_
  refine WL.cut (fun env_ w_ => env_ 25 = .bool (((!r16) || (decide (a3 < 1))) || (decide (a2 < 0))) ∧ env_ 0 = .slice A1 n3 c2 ∧ env_ 1 = .slice A8 n10 c9 ∧ env_ 2 = .int .i64 a2 ∧ env_ 3 = .int .i64 a3 ∧ Ctx w F D w_ F []) ?_ ?_
  · skip
    rcases Bool.eq_false_or_eq_true (!r16) with hb19 | hb19
    · skip
      refine WL.off rfl (congrArg Value.bool hb19) ?_
      refine WL.off rfl (congrArg Value.bool hb19) ?_
      refine WL.val (Yl.pickT (v := .bool true) (congrArg Value.bool hb19) rfl) ?_
      refine WL.val (Yl.move (v := .bool true) rfl) ?_
      refine WL.off rfl rfl ?_
      refine WL.off rfl rfl ?_
      refine WL.val (Yl.pickT (v := .bool true) rfl rfl) ?_
      exact WL.done ⟨(congrArg Value.bool (show true = (((!r16) || (decide (a3 < 1))) || (decide (a2 < 0))) from by simp [hb19])), rfl, rfl, rfl, rfl, C18⟩
    · skip
      refine WL.on rfl (congrArg Value.bool hb19) ?_
      refine WL.val (Yl.move (v := .int .i64 a3) rfl) ?_
      refine WL.on rfl (congrArg Value.bool hb19) ?_
      refine WL.val (Yl.lss (m := a3) (n := 1) (q := decide (a3 < 1)) rfl rfl rfl) ?_
      refine WL.val (Yl.pickF (v := .bool (decide (a3 < 1))) (congrArg Value.bool hb19) rfl) ?_
      refine WL.val (Yl.move (v := .bool (decide (a3 < 1))) rfl) ?_
      rcases Bool.eq_false_or_eq_true (decide (a3 < 1)) with hb20 | hb20
      · skip
        refine WL.off rfl (congrArg Value.bool hb20) ?_
        refine WL.off rfl (congrArg Value.bool hb20) ?_
        refine WL.val (Yl.pickT (v := .bool true) (congrArg Value.bool hb20) rfl) ?_
        exact WL.done ⟨(congrArg Value.bool (show true = (((!r16) || (decide (a3 < 1))) || (decide (a2 < 0))) from by simp [hb19, hb20])), rfl, rfl, rfl, rfl, C18⟩
      · skip
        refine WL.on rfl (congrArg Value.bool hb20) ?_
        refine WL.val (Yl.move (v := .int .i64 a2) rfl) ?_
        refine WL.on rfl (congrArg Value.bool hb20) ?_
        refine WL.val (Yl.lss (m := a2) (n := 0) (q := decide (a2 < 0)) rfl rfl rfl) ?_
        refine WL.val (Yl.pickF (v := .bool (decide (a2 < 0))) (congrArg Value.bool hb20) rfl) ?_
        exact WL.done ⟨(congrArg Value.bool (show (decide (a2 < 0)) = (((!r16) || (decide (a3 < 1))) || (decide (a2 < 0))) from by simp [hb19, hb20])), rfl, rfl, rfl, rfl, C18⟩
  · skip
    rintro env_ w_ ⟨ho21, ho22, ho23, ho24, ho25, C26⟩
    rcases iteE H with ⟨hc27, H⟩ | ⟨hc27, H⟩
    · skip
      refine W.condT (ho21.trans (congrArg Value.bool hc27)) ?_
      refine W.seq ?_
      refine W.region rfl ?_
      refine WL.val (Yl.assign (v := .slice none 0 0) rfl) ?_
      refine WL.val (Yl.assign (v := .int .i64 1) rfl) ?_
      refine WL.done ?_
      refine W.ret ?_
      refine thenE_r ?_
      have C28 : Ctx _ _ _ _ F [CH.emp] := Ctx.emp C26
      cases H
      exact post_r (resE2 rfl rfl rfl) ⟨none, 0, 0, CH.emp, rfl, C28, rfl, (Row.nil _ _)⟩
    · skip
      refine W.condF (ho21.trans (congrArg Value.bool (Bool.eq_false_iff.2 hc27))) ?_
      refine W.skip ?_
      refine W.seq ?_
      refine W.region rfl ?_
      refine WL.val (Yl.move (v := .slice A1 n3 c2) ho22) ?_
      refine WL.val (Yl.move (v := .slice A8 n10 c9) ho23) ?_
      refine WL.val (Yl.move (v := .int .i64 a2) ho24) ?_
      obtain ⟨⟨r30, r31⟩, hg29, H⟩ := bindE H
      refine WL.call (args := #[.slice A1 n3 c2, .slice A8 n10 c9, .int .i64 a2]) (Yenter.fn Try.func15 (by kernel_rfl) rfl (argsE (.cons rfl (.cons rfl (.cons rfl .nil))))) (crew_able.calls k _ F A1 c2 n3 a0 A8 c9 n10 a1 a2 (Ctx.pre (qs := []) (rest := []) C26) hn4 hl5 hm6 hS7 hn11 hl12 hm13 hS14 r30 r31 hg29) ?_
      rintro e_ w_ ⟨A32, c33, n34, p36, rfl, C38, hn35, hR37⟩
      refine ⟨_, rfl, ?_⟩
      have C39 : Ctx _ _ _ _ F [p36] := Ctx.call (qs := []) (rest := []) C26 C38
      refine WL.val (Yl.move (v := .tuple #[(.slice A32 n34 c33), (.int .i64 r31)]) rfl) ?_
      refine WL.val (Yl.extract (v := .slice A32 n34 c33) rfl rfl) ?_
      refine WL.val (Yl.extract (v := .int .i64 r31) rfl rfl) ?_
      obtain ⟨g40, w41, hy42, C43⟩ := ev_alloc (P := Try.prog) (e := 36) [.slice none 0 0] C39 zr36 rfl
      refine WL.val (hy42 _ _) ?_
      obtain ⟨w44, hy45, C46⟩ := ev_set (P := Try.prog) (ps1 := []) (ps2 := [p36]) (t := 36) (o := 0) [.slice none 0 0] [] [.slice none 0 0] [] [.slice A32 n34 c33] (.slice A32 n34 c33) C43 rfl rfl rfl rfl (by simp [Value.oneCell']) sz36
      have C47 : Ctx _ _ _ _ F [CH.row g40 0 [.slice A32 n34 c33], p36] := C46
      refine WL.skip (hy45 _ _ _ _ (rfl : ev _ _ = .pointer (some ⟨g40, 0 + 0, none⟩)) rfl) ?_
      refine WL.val (Yl.assign (v := .int .i64 r31) rfl) ?_
      refine WL.done ?_
      refine W.seq ?_
      refine W.block ?_
      refine W.seq ?_
      refine W.region rfl ?_
      refine WL.val (Yl.move (v := .int .i64 r31) rfl) ?_
      refine WL.val (Yl.move (v := .int .i64 a3) ho25) ?_
      refine WL.val (Yl.lss (m := r31) (n := a3) (q := decide (r31 < a3)) rfl rfl rfl) ?_
      refine WL.val (Yl.assign (v := .bool (decide (r31 < a3))) rfl) ?_
      refine WL.done ?_
      rcases iteE H with ⟨hc48, H⟩ | ⟨hc48, H⟩
      · skip
        refine W.condT (congrArg Value.bool (decide_eq_true hc48)) ?_
        refine W.seq ?_
        refine W.region rfl ?_
        refine WL.val (Yl.assign (v := .slice none 0 0) rfl) ?_
        refine WL.val (Yl.assign (v := .int .i64 180) rfl) ?_
        refine WL.done ?_
        refine W.ret ?_
        refine inB_r ?_
        refine thenE_r ?_
        have C49 : Ctx _ _ _ _ F [p36] := Ctx.drop [] [p36] C47
        have C50 : Ctx _ _ _ _ F [] := Ctx.drop [] [] C49
        have C51 : Ctx _ _ _ _ F [CH.emp] := Ctx.emp C50
        cases H
        exact post_r (resE2 rfl rfl rfl) ⟨none, 0, 0, CH.emp, rfl, C51, rfl, (Row.nil _ _)⟩
      · skip
        refine W.condF (congrArg Value.bool (decide_eq_false hc48)) ?_
        refine W.seq ?_
        refine W.region rfl ?_
        refine WL.val (Yl.loadV (cs := [.slice A32 n34 c33]) (v := .slice A32 n34 c33) (rfl : ev _ _ = .pointer (some ⟨g40, 0 + 0, none⟩)) Try.underlying36 rfl (Ctx.sub_of [] [p36] C47) rfl) ?_
        refine WL.val (Yl.lenN (A := A32) (l := n34) (q := c33) (n := (r30.length : Int)) rfl Try.underlying36 (by omega)) ?_
        refine WL.val (Yl.move (v := .int .i64 a3) ho25) ?_
        refine WL.val (Yl.lss (m := (r30.length : Int)) (n := a3) (q := decide ((r30.length : Int) < a3)) rfl rfl rfl) ?_
        refine WL.val (Yl.assign (v := .bool (decide ((r30.length : Int) < a3))) rfl) ?_
        refine WL.done ?_
        rcases iteE H with ⟨hc52, H⟩ | ⟨hc52, H⟩
        · skip
          refine W.condT (congrArg Value.bool (decide_eq_true hc52)) ?_
          refine W.seq ?_
          refine W.region rfl ?_
          refine WL.val (Yl.assign (v := .slice none 0 0) rfl) ?_
          refine WL.val (Yl.assign (v := .int .i64 70) rfl) ?_
          refine WL.done ?_
          refine W.ret ?_
          refine inB_r ?_
          refine thenE_r ?_
          have C53 : Ctx _ _ _ _ F [p36] := Ctx.drop [] [p36] C47
          have C54 : Ctx _ _ _ _ F [] := Ctx.drop [] [] C53
          have C55 : Ctx _ _ _ _ F [CH.emp] := Ctx.emp C54
          cases H
          exact post_r (resE2 rfl rfl rfl) ⟨none, 0, 0, CH.emp, rfl, C55, rfl, (Row.nil _ _)⟩
        · skip
          refine W.condF (congrArg Value.bool (decide_eq_false hc52)) ?_
          refine W.skip ?_
          refine inB_n ?_
          refine W.seq ?_
          refine W.region rfl ?_
          refine WL.val (Yl.mkIface (v := .pointer (some ⟨g40, 0, none⟩)) rfl Try.underlying40 rfl) ?_
          obtain ⟨r57, hg56, H⟩ := bindE H
          refine WL.call (args := #[.iface 40 (.pointer (some ⟨g40, 0, none⟩))]) (Yenter.fn Try.func16 (by kernel_rfl) rfl (argsE (.cons rfl .nil))) (heap_Init.calls k _ F g40 0 A32 c33 n34 p36 r30 (Ctx.pre (qs := [CH.row g40 0 [.slice A32 n34 c33], p36]) (rest := []) C47) hn35 hR37 r57 hg56) ?_
          rintro e_ w_ ⟨A58, c59, n60, p62, rfl, C64, hn61, hR63⟩
          refine ⟨_, rfl, ?_⟩
          have C65 : Ctx _ _ _ _ F [CH.row g40 0 [.slice A58 n60 c59], p62] := Ctx.call (qs := [CH.row g40 0 [.slice A32 n34 c33], p36]) (rest := []) C47 C64
          refine WL.done ?_
          refine W.seq ?_
          refine W.region rfl ?_
          refine WL.val (Yl.move (v := .int .i64 a3) ho25) ?_
          obtain ⟨hc66, H⟩ := guardE H
          obtain ⟨A67, c68, n69, p70, w71, hn72, hy73, C74, hR75⟩ := ev_make' (P := Try.prog) 3 (Kd.int .i64) C65 Try.underlying22 ti3 0 rfl (by decide) a3 hc66
          refine WL.val (hy73 _ _ _ _ _ _ rfl rfl) ?_
          refine WL.val (Yl.assign (v := .slice A67 n69 c68) rfl) ?_
          refine WL.done ?_
          refine W.seq ?_
          refine W.seq ?_
          refine W.region rfl ?_
          refine WL.val (Yl.move (v := .slice A67 n69 c68) rfl) ?_
          refine WL.val (Yl.lenN (A := A67) (l := n69) (q := c68) (n := ((List.replicate a3.toNat (0 : Int)).length : Int)) rfl Try.underlying22 (by omega)) ?_
          refine WL.val (Yl.move (v := .int .i64 0) rfl) ?_
          refine WL.done ?_
          obtain ⟨⟨x187, x194⟩, hX202, H⟩ := bindE H
          refine W.cutM (fun env_ w_ => ∃ (A188 : Option Addr) (c189 : Nat) (n190 : Nat) (p192 : CH) (A195 : Option Addr) (c196 : Nat) (n197 : Nat) (p199 : CH), env_ 12 = .slice A188 n190 c189 ∧ Ctx w F D w_ F [p192, CH.row g40 0 [.slice A195 n197 c196], p199] ∧ n190 = x187.length ∧ Row (Kd.int .i64) F p192 (.slice A188 n190 c189) x187 ∧ n197 = x194.length ∧ Row Thand.K F p199 (.slice A195 n197 c196) x194) ?_ ?_
          · skip
            refine W.block ?_
            refine W.loop (fun g_ env_ w_ => ∃ (x238 : List Int) (x247 : Int) (x248 : List Thand) (A239 : Option Addr) (c240 : Nat) (n241 : Nat) (p243 : CH) (A249 : Option Addr) (c250 : Nat) (n251 : Nat) (p253 : CH), env_ 10 = .pointer (some ⟨g40, 0, none⟩) ∧ env_ 12 = .slice A239 n241 c240 ∧ env_ 47 = .int .i64 ((List.replicate a3.toNat (0 : Int)).length : Int) ∧ env_ 48 = .int .i64 x247 ∧ Ctx w F D w_ F [p243, CH.row g40 0 [.slice A249 n251 c250], p253] ∧ n241 = x238.length ∧ Row (Kd.int .i64) F p243 (.slice A239 n241 c240) x238 ∧ n251 = x248.length ∧ Row Thand.K F p253 (.slice A249 n251 c250) x248 ∧ crew_Pick.l1 g_ a3 x238 x247 x248 = some (x187, x194)) k ⟨(List.replicate a3.toNat (0 : Int)), 0, r57, A67, c68, n69, p70, A58, c59, n60, p62, rfl, rfl, rfl, rfl, C74, hn72, hR75, hn61, hR63, hX202⟩ ?_
            clear hX202
            rintro g_ env_ w_ ⟨x238, x247, x248, A239, c240, n241, p243, A249, c250, n251, p253, ho236, ho237, ho245, ho246, C255, hn242, hR244, hn252, hR254, hX202⟩
            rcases g_ with _ | k283
            · exact absurd hX202 (by simp [crew_Pick.l1])
            rw [crew_Pick.l1] at hX202
            refine W.seq ?_
            refine W.region rfl ?_
            refine WL.val (Yl.lss (m := x247) (n := ((List.replicate a3.toNat (0 : Int)).length : Int)) (q := decide (x247 < ((List.replicate a3.toNat (0 : Int)).length : Int))) ho246 ho245 rfl) ?_
            refine WL.done ?_
            refine W.seq ?_
            rcases iteE hX202 with ⟨hc284, hX202⟩ | ⟨hc284, hX202⟩
            · skip
              refine W.condT (congrArg Value.bool (decide_eq_true hc284)) ?_
              refine W.skip ?_
              refine W.seq ?_
              refine W.block ?_
              refine W.seq ?_
              refine W.region rfl ?_
              refine WL.val (Yl.move (v := .int .i64 x247) ho246) ?_
              refine WL.val (Yl.assign (v := .int .i64 x247) rfl) ?_
              refine WL.done ?_
              refine W.region rfl ?_
              refine WL.val (Yl.move (v := .slice A239 n241 c240) ho237) ?_
              refine WL.val (Yl.move (v := .int .i64 x247) rfl) ?_
              refine WL.val (Yl.mkIface (v := .pointer (some ⟨g40, 0, none⟩)) ho236 Try.underlying40 rfl) ?_
              have C285 : Ctx _ _ _ _ F [CH.row g40 0 [.slice A249 n251 c250], p243, p253] := Ctx.swap [] [p253] C255
              have C286 : Ctx _ _ _ _ F [CH.row g40 0 [.slice A249 n251 c250], p253, p243] := Ctx.swap [CH.row g40 0 [.slice A249 n251 c250]] [] C285
              obtain ⟨⟨r288, r289⟩, hg287, hX202⟩ := bindE hX202
              refine WL.call (args := #[.iface 40 (.pointer (some ⟨g40, 0, none⟩))]) (Yenter.fn Try.func17 (by kernel_rfl) rfl (argsE (.cons rfl .nil))) (heap_Pop.calls k283 _ F g40 0 A249 c250 n251 p253 x248 (Ctx.pre (qs := [CH.row g40 0 [.slice A249 n251 c250], p253]) (rest := [p243]) C286) hn252 hR254 r288 r289 hg287) ?_
              rintro e_ w_ ⟨A290, c291, n292, p294, rfl, C296, hn293, hR295⟩
              refine ⟨_, rfl, ?_⟩
              have C297 : Ctx _ _ _ _ F [CH.row g40 0 [.slice A290 n292 c291], p294, p243] := Ctx.call (qs := [CH.row g40 0 [.slice A249 n251 c250], p253]) (rest := [p243]) C286 C296
              refine WL.val (Yl.assertV (v := .agg (List.toArray [.int .i64 r288.used, .int .i64 r288.id])) rfl Try.underlying42 rfl) ?_
              refine WL.val (Yl.field1 (cs := [.int .i64 r288.used, .int .i64 r288.id]) (v := .int .i64 r288.id) (i := 1) rfl Try.underlying42 rfl Try.underlying3 rfl rfl) ?_
              obtain ⟨hc298, hX202⟩ := guardE hX202
              obtain ⟨b299, of300, hA301, he302⟩ := (Row.sl hR244) (by omega)
              refine WL.val (Yl.elemAddr (i := x247) rfl rfl hA301 Try.underlying22 sz3 (by omega)) ?_
              have hj308 : x247.toNat < x238.length := by first | omega | (simp only [List.length_set, List.length_replicate] at *; omega)
              obtain ⟨p303, w304, hy305, C306, hR307⟩ := ev_store (P := Try.prog) (t := 3) (Kd.int .i64) [CH.row g40 0 [.slice A290 n292 c291], p294] [] C297 hR244 hA301 x247.toNat 0 hj308 0 (.int .i64 r288.id) ([.int .i64 r288.id]) rfl (by simp [Value.oneCell']) (Nat.le_of_ble_eq_true rfl) sz3 (r288.id) (fun _ h_ => rep_whole h_ rfl) ⟨b299, of300 + x247.toNat * 1, none⟩ rfl
              have hn309 : n241 = (x238.set x247.toNat r288.id).length := by rw [List.length_set]; omega
              have C310 : Ctx _ _ _ _ F [CH.row g40 0 [.slice A290 n292 c291], p294, p303] := C306
              refine WL.skip (hy305 _ _ _ _ rfl rfl) ?_
              refine WL.done ?_
              refine inB_n ?_
              refine W.region rfl ?_
              refine WL.val (Yl.add (m := x247) (n := 1) (r := wi64 (x247 + 1)) ho246 rfl rfl) ?_
              refine WL.val (Yl.move (v := .int .i64 (wi64 (x247 + 1))) rfl) ?_
              refine WL.done ?_
              have C311 : Ctx _ _ _ _ F [CH.row g40 0 [.slice A290 n292 c291], p303, p294] := Ctx.swap [CH.row g40 0 [.slice A290 n292 c291]] [] C310
              have C312 : Ctx _ _ _ _ F [p303, CH.row g40 0 [.slice A290 n292 c291], p294] := Ctx.swap [] [p294] C311
              exact thenE_n ⟨k283, Nat.lt_succ_self _, x238.set x247.toNat r288.id, wi64 (x247 + 1), r289, A239, c240, n241, p303, A290, c291, n292, p294, ho236, ho237, ho245, rfl, C312, hn309, hR307, hn293, hR295, hX202⟩
            · skip
              refine W.condF (congrArg Value.bool (decide_eq_false hc284)) ?_
              refine W.exit ?_
              refine thenE_x ?_
              refine thenE_x ?_
              refine inB_here ?_
              cases hX202
              refine thenE_n ?_
              exact ⟨A239, c240, n241, p243, A249, c250, n251, p253, ho237, C255, hn242, hR244, hn252, hR254⟩
          · skip
            rintro env_ w_ ⟨A188, c189, n190, p192, A195, c196, n197, p199, ho186, C201, hn191, hR193, hn198, hR200⟩
            refine W.seq ?_
            refine W.region rfl ?_
            refine WL.val (Yl.move (v := .slice A188 n190 c189) ho186) ?_
            refine WL.val (Yl.assign (v := .slice A188 n190 c189) rfl) ?_
            refine WL.val (Yl.assign (v := .int .i64 0) rfl) ?_
            refine WL.done ?_
            refine W.ret ?_
            have C313 : Ctx _ _ _ _ F [p192, p199] := Ctx.drop [p192] [p199] C201
            have C314 : Ctx _ _ _ _ F [p192] := Ctx.drop [p192] [] C313
            cases H
            exact post_r (resE2 rfl rfl rfl) ⟨A188, c189, n190, p192, rfl, C314, hn191, hR193⟩
end Go.Proofs.Ytcmoclekbifhbaa
