/- juratref19.Copy of one vote: the copy's bytes are the caller's own. Nothing is assumed but what each theorem says. -/
import Derived.Test.YtaajcpjhcckecaaTGt
import Derived.Test.YtaajcpjhcckecaaTLq
namespace Go.Proofs.Ytaajcpjhcckecaa
open Go.RowKit Go.WG
set_option linter.unusedVariables false
set_option linter.unusedSimpArgs false
def juratref19_Copy_one.f (k : Nat) (a0 : List TCast) : Option TCast := if a0.length = 1 then (if ((a0.getD 0 TCast.z).Value.length + (a0.getD 0 TCast.z).Value.length / 4 + 192) * 1 ≤ 281474976710656 then some (a0.getD 0 TCast.z) else none) else none
set_option maxRecDepth 100000 in
set_option maxHeartbeats 4000000 in
theorem juratref19_Copy_one.calls (k : Nat) (w : World) (F : CH) (A1 : Option Addr) (c2 : Nat) (n3 : Nat) (a0 : List TCast) (hp : Pre w F []) (hn4 : n3 = a0.length) (hl5 : a0.length ≤ c2) (hm6 : c2 ≤ maxLen) (hS7 : Sl TCast.K F F A1 a0) (r0_ : TCast) (H : juratref19_Copy_one.f k a0 = some r0_) :
    Calls Try.prog 16 #[.slice A1 n3 c2] w fun e w' => ∃ (g o c : Nat) (A' : Option Addr) (c' n' : Nat) (p' : CH), e = .returned (.slice (some ⟨g, o, none⟩) 1 c) ∧ Ctx w F (domL []) w' F [CH.row g o [.int .i64 r0_.Worker, .slice A' n' c'], p'] ∧ n' = r0_.Value.length ∧ Row (Kd.int .u8) F p' (.slice A' n' c') r0_.Value := by
  have C := Ctx.start hp
  generalize hD : domL [] = D at C ⊢
  unfold juratref19_Copy_one.f at H
  obtain ⟨h1, H⟩ := guardE H
  obtain ⟨h2, H⟩ := guardE H
  injection H with H
  subst H
  refine Calls.ofW Try.func16 rfl (by simp [Try.ntmps16]) ?_
  refine W.seq ?_
  refine W.region rfl ?_
  refine WL.val (Yl.assign (v := .slice none 0 0) rfl) ?_
  refine WL.done ?_
  refine W.seq ?_
  refine W.region rfl ?_
  refine WL.val (Yl.assign (v := .slice none 0 0) rfl) ?_
  refine WL.done ?_
  refine W.seq ?_
  refine W.seq ?_
  refine W.region rfl ?_
  refine WL.val (Yl.assign (v := .int .i64 0) rfl) ?_
  refine WL.done ?_
  generalize hq : a0.getD 0 TCast.z = q at h2 ⊢
  refine W.cutM (fun env_ w_ => ∃ (A : Option Addr) (c n : Nat) (p : CH) (A' : Option Addr) (c' n' : Nat) (p' : CH), env_ 3 = .slice A n c ∧ Ctx w F D w_ F [p, p'] ∧ n = 1 ∧ Row (Kd.raw 2) F p (.slice A n c) [[.int .i64 q.Worker, .slice A' n' c']] ∧ n' = q.Value.length ∧ Row (Kd.int .u8) F p' (.slice A' n' c') q.Value) ?_ ?_
  · skip
    refine W.block ?_
    have C1 : Ctx _ _ _ _ F [CH.emp] := Ctx.emp C
    refine W.loop (fun g_ env_ w_ => (g_ = 1 ∧ env_ 0 = .slice A1 n3 c2 ∧ env_ 3 = .slice none 0 0 ∧ env_ 4 = .int .i64 0 ∧ Ctx w F D w_ F [CH.emp]) ∨ (g_ = 0 ∧ env_ 0 = .slice A1 n3 c2 ∧ env_ 4 = .int .i64 1 ∧ ∃ (A : Option Addr) (c n : Nat) (p : CH) (A' : Option Addr) (c' n' : Nat) (p' : CH), env_ 3 = .slice A n c ∧ Ctx w F D w_ F [p, p'] ∧ n = 1 ∧ Row (Kd.raw 2) F p (.slice A n c) [[.int .i64 q.Worker, .slice A' n' c']] ∧ n' = q.Value.length ∧ Row (Kd.int .u8) F p' (.slice A' n' c') q.Value)) 1 (.inl ⟨rfl, rfl, rfl, rfl, C1⟩) ?_
    rintro g_ env_ w_ (⟨rfl, e0, e3, e4, C2⟩ | ⟨rfl, e0, e4, A, c, n, p, A', c', n', p', e3, C2, hn, hR, hn', hR'⟩)
    · skip
      refine W.seq ?_
      refine W.seq ?_
      refine W.region rfl ?_
      refine WL.val (Yl.move (v := .int .i64 0) e4) ?_
      refine WL.val (Yl.move (v := .slice A1 n3 c2) e0) ?_
      refine WL.val (Yl.lenN (A := A1) (l := n3) (q := c2) (n := 1) rfl Try.underlying26 (by omega)) ?_
      refine WL.val (Yl.lss (m := 0) (n := 1) (q := true) rfl rfl rfl) ?_
      refine WL.done ?_
      refine W.condT rfl ?_
      refine W.skip ?_
      refine W.seq ?_
      refine W.block ?_
      refine W.regionA [([14, 15], F)] (by kernel_rfl) ?_
      have C3 := Ctx.drewN C2 1
      refine WA.take none [] 0 rfl (by kernel_rfl) (by kernel_rfl) rfl trivial ⟨(C3.fro), trivial⟩ (fun _ hC_ => Yl.move (v := .slice none 0 0) e3) ?_
      refine WA.take none [] 1 rfl (by kernel_rfl) (by kernel_rfl) rfl trivial ⟨(C3.fro), trivial⟩ (fun _ hC_ => Yl.move (v := .slice A1 n3 c2) e0) ?_
      refine WA.take none [] 2 rfl (by kernel_rfl) (by kernel_rfl) rfl trivial ⟨(C3.fro), trivial⟩ (fun _ hC_ => Yl.move (v := .int .i64 0) e4) ?_
      obtain ⟨b, of, hA, he⟩ := hS7 (by omega)
      have hA2 : A1 = some ⟨b, of, none⟩ := hA
      refine WA.take none [] 3 rfl (by kernel_rfl) (by kernel_rfl) rfl trivial ⟨(C3.fro), trivial⟩ (fun _ hC_ => Yl.elemAddr (i := 0) rfl rfl hA Try.underlying26 sz37 (by omega)) ?_
      refine WA.take none [] 4 rfl (by kernel_rfl) (by kernel_rfl) rfl trivial ⟨(C3.fro), trivial⟩ (fun _ hC_ => Yl.fieldAddr (i := 0) rfl Try.underlying37 rfl sz3) ?_
      obtain ⟨cs, hr, hx⟩ := he 0 _ (getD_some (d := TCast.z) (by omega))
      rw [hq] at hr
      obtain ⟨Av, cv, nv, rfl, hnv, hlv, hmv, hSv⟩ := TCast.open hr
      refine WA.take (some 0) [13, 14, 15, 16] 5 rfl (by kernel_rfl) (by kernel_rfl) rfl (C3.fro) ⟨(C3.fro), trivial⟩ (fun _ hC_ => Yl.load (v := .int .i64 q.Worker) rfl Try.underlying3 rfl ((show Sub F _ from hC_).cell (hx 0 _ rfl))) ?_
      refine WA.take none [] 7 rfl (by kernel_rfl) (by kernel_rfl) rfl trivial ⟨(C3.fro), trivial⟩ (fun _ hC_ => Yl.move (v := .slice A1 n3 c2) e0) ?_
      refine WA.take none [] 8 rfl (by kernel_rfl) (by kernel_rfl) rfl trivial ⟨(C3.fro), trivial⟩ (fun _ hC_ => Yl.move (v := .int .i64 0) e4) ?_
      refine WA.take none [] 9 rfl (by kernel_rfl) (by kernel_rfl) rfl trivial ⟨(C3.fro), trivial⟩ (fun _ hC_ => Yl.elemAddr (i := 0) rfl rfl hA Try.underlying26 sz37 (by omega)) ?_
      refine WA.take none [] 10 rfl (by kernel_rfl) (by kernel_rfl) rfl trivial ⟨(C3.fro), trivial⟩ (fun _ hC_ => Yl.fieldAddr (i := 1) rfl Try.underlying37 rfl sz23) ?_
      refine WA.take (some 0) [12, 13, 14, 15, 16] 11 rfl (by kernel_rfl) (by kernel_rfl) rfl (C3.fro) ⟨(C3.fro), trivial⟩ (fun _ hC_ => Yl.load (v := .slice Av nv cv) rfl Try.underlying23 rfl ((show Sub F _ from hC_).cell (hx 1 _ rfl))) ?_
      obtain ⟨A6, c6, n6, p6, w6, hn6, hy6, C6, hR6⟩ := ev_lit0 (P := Try.prog) 5 (Kd.int .u8) C3 Try.underlying23 ti5
      refine WA.up1 6 (by kernel_rfl) (Up.val rfl rfl rfl (hy6 _ _) ⟨(C6.fro), trivial⟩ ?_)
      obtain ⟨A7, c7, n7, p7, w7, hn7, hy7, C7, hR7⟩ := ev_append' (P := Try.prog) (cb := cv) 5 (Kd.int .u8) [] [CH.emp] C6 hR6 hnv hSv C6.fro Try.underlying23 ti5 rfl zo5 (by decide) (by decide) (by simpa using h2)
      have C8 : Ctx _ _ _ _ F [p7, CH.emp] := C7
      rw [List.nil_append] at hn7 hR7
      refine WA.up1 12 (by kernel_rfl) (Up.val rfl rfl rfl (hy7 _ _ _ _ rfl rfl) ⟨(C8.fro), trivial⟩ ?_)
      refine WA.take none [] 13 rfl (by kernel_rfl) (by kernel_rfl) rfl trivial ⟨(C8.fro), trivial⟩ (fun _ hC_ => Yl.build (places := [(0, 1), (1, 1)]) (cs := List.toArray [.int .i64 q.Worker, .slice A7 n7 c7]) Try.underlying37 zr37 (pl37 _ Try.underlying37) (partsB (.cons rfl (.cons rfl .nil))) rfl) ?_
      obtain ⟨A9, c9, n9, p9, w9, hn9, hy9, C9, hR9⟩ := ev_lit1' (P := Try.prog) 37 (Kd.raw 2) C8 Try.underlying26 ti37 ⟨by decide, by decide⟩ [.int .i64 q.Worker, .slice A7 n7 c7] (.agg (List.toArray [.int .i64 q.Worker, .slice A7 n7 c7])) ⟨rfl, rfl, by simp [Value.oneCell']⟩
      refine WA.up1 14 (by kernel_rfl) (Up.val rfl rfl rfl (hy9 _ _ _ rfl) ⟨trivial, trivial⟩ ?_)
      have Cb : Ctx _ _ _ _ F [p9, CH.emp, p7] := Ctx.swap [p9] [] C9
      obtain ⟨Aa, ca, na, pa, wa, hna, hya, Ca, hRa⟩ := ev_append' (P := Try.prog) (cb := c9) 37 (Kd.raw 2) [p9] [p7] Cb (Row.nil _ _) hn9 (Row.sl hR9) (Ctx.sub_of [] [CH.emp, p7] Cb) Try.underlying26 ti37 rfl zo37 (by decide) (by decide) (by simp only [List.length_nil, List.length_singleton]; decide)
      have Cc : Ctx _ _ _ _ F [p9, pa, p7] := Ca
      rw [List.nil_append] at hna hRa
      refine WA.up1 15 (by kernel_rfl) (Up.val rfl rfl rfl (hya _ _ _ _ rfl rfl) ⟨trivial, trivial⟩ ?_)
      refine WA.take none [] 16 rfl (by kernel_rfl) (by kernel_rfl) rfl trivial ⟨trivial, trivial⟩ (fun _ hC_ => Yl.assign (v := .slice Aa na ca) rfl) ?_
      refine WA.done (by kernel_rfl) ?_
      refine inB_n ?_
      refine W.region rfl ?_
      refine WL.val (Yl.move (v := .int .i64 0) e4) ?_
      refine WL.val (Yl.add (m := 0) (n := 1) (r := 1) rfl rfl rfl) ?_
      refine WL.val (Yl.assign (v := .int .i64 1) rfl) ?_
      refine WL.done ?_
      have Cd : Ctx _ _ _ _ F [pa, p7] := Ctx.drop [] [pa, p7] Cc
      exact thenE_n ⟨0, Nat.zero_lt_one, .inr ⟨rfl, e0, rfl, Aa, ca, na, pa, A7, c7, n7, p7, rfl, Cd, hna, hRa, hn7, hR7⟩⟩
    · skip
      refine W.seq ?_
      refine W.seq ?_
      refine W.region rfl ?_
      refine WL.val (Yl.move (v := .int .i64 1) e4) ?_
      refine WL.val (Yl.move (v := .slice A1 n3 c2) e0) ?_
      refine WL.val (Yl.lenN (A := A1) (l := n3) (q := c2) (n := 1) rfl Try.underlying26 (by omega)) ?_
      refine WL.val (Yl.lss (m := 1) (n := 1) (q := false) rfl rfl rfl) ?_
      refine WL.done ?_
      refine W.condF rfl ?_
      refine W.exit ?_
      refine thenE_x ?_
      refine thenE_x ?_
      refine inB_here ?_
      exact thenE_n ⟨A, c, n, p, A', c', n', p', e3, C2, hn, hR, hn', hR'⟩
  · skip
    rintro env_ w_ ⟨A, c, n, p, A', c', n', p', e3, C2, rfl, hR, hn', hR'⟩
    refine W.seq ?_
    refine W.region rfl ?_
    refine WL.val (Yl.move (v := .slice A 1 c) e3) ?_
    refine WL.val (Yl.assign (v := .slice A 1 c) rfl) ?_
    refine WL.done ?_
    refine W.ret ?_
    obtain ⟨g, o, rfl, _, hle⟩ := Row.raw1 hR
    exact post_r (resE1 rfl rfl) ⟨g, o, c, A', c', n', p', rfl, Ctx.shrink [] [p'] hle C2, hn', hR'⟩
end Go.Proofs.Ytaajcpjhcckecaa
