/- Functions of the program: each as a plain function of numbers and lists, and the proof that the program's own comes to it. Nothing is assumed but what each theorem says. -/
import Derived.Test.YtobdpbnadjkhiaaGreatTM3
namespace Go.Proofs.YtobdpbnadjkhiaaGreat
open Go.RowKit Go.WG
set_option linter.unusedVariables false
set_option linter.unusedSimpArgs false
set_option maxRecDepth 100000
set_option maxHeartbeats 4000000
def sV.f (k : Nat) (a : Int) (b : Int) (d : Int) : Option Bool := some ((decide (a ≥ b)) && (decide (a ≤ d)))
theorem sV.calls (k w F) (a : Int) (g : Int) (h : Int) (hp : Pre w F [])  (j : Bool) (H : sV.f k a g h = some j) :
    Calls Tryz.prog 50 #[iv a, iv g, iv h] w fun e w' => e = .returned (.bool j) ∧ (∃ i, w' = w.drewN i) := by
 have C := Ctx.start hp
 generalize sR [] = D at C
 have m : ∃ i, w = w.drewN i := ⟨0, rfl⟩
 unfold sV.f at H
 refine Calls.ofW Tryz.func50 rfl (by simp [Tryz.ntmps50]) <| W.sr rfl <| WL.rd to 1 rfl <| W.sr rfl <| WL.run to 4 rfl <| WL.cut (fun d l => d 6 = .bool ((decide (a ≥ g)) && (decide (a ≤ h))) ∧ Ctx w F D l F [] ∧ (∃ i, l = w.drewN i)) ?_ ?_
 ·rcases Bool.eq_false_or_eq_true (decide (a ≥ g)) with b | b
  ·exact WL.kn 10 (cb b) <| WL.run to 5 rfl <| WL.done ⟨(cb (show (decide (a ≤ h)) = ((decide (a ≥ g)) && (decide (a ≤ h))) from by simp [b])), C, m⟩
  ·exact WL.kn 10 (cb b) <| WL.sN 3 10 true rfl rfl <| WL.run to 2 rfl <| WL.done ⟨(cb (show false = ((decide (a ≥ g)) && (decide (a ≤ h))) from by simp [b])), C, m⟩
 ·rintro d l ⟨p, s, o⟩
  apply kn d (.c p .n)
  refine W.ret ?_
  have r := Option.some.inj H
  subst r
  exact rH (sE rfl rfl) ⟨rfl, o⟩
def tL.l1 : Nat → rK → Int → Option (Sum Unit Int)
  | 0, _, _ => none
  | k + 1, a, b => if b < 7 then (if 0 ≤ b ∧ b < (7 : Int) then ((sV.f k (([[a.Faulty, 0, 2], [a.Workers, rB ((rB (2 * a.Faulty)) + 1), 8], [a.Height, 0, 6], [a.Heads, 0, 6], [a.Bits, 1, 256], [a.Jobs, 1, 64], [a.Term, 1, 10000]].getD b.toNat []).getD (0 : Int).toNat 0) (([[a.Faulty, 0, 2], [a.Workers, rB ((rB (2 * a.Faulty)) + 1), 8], [a.Height, 0, 6], [a.Heads, 0, 6], [a.Bits, 1, 256], [a.Jobs, 1, 64], [a.Term, 1, 10000]].getD b.toNat []).getD (1 : Int).toNat 0) (([[a.Faulty, 0, 2], [a.Workers, rB ((rB (2 * a.Faulty)) + 1), 8], [a.Height, 0, 6], [a.Heads, 0, 6], [a.Bits, 1, 256], [a.Jobs, 1, 64], [a.Term, 1, 10000]].getD b.toNat []).getD (2 : Int).toNat 0)).bind fun d => if d = true then (tL.l1 k a (rB (b + 1))) else (some (Sum.inr 1))) else none) else (some (Sum.inl ()))
def tL.f (k : Nat) (a : rK) : Option Int := (tL.l1 k a 0).bind fun b => vS b (fun _ => some 0) (fun d => some d)
theorem tL.calls (k w F) (d : rK) (hp : Pre w F [])  (J : Int) (H : tL.f k d = some J) :
    Calls Tryz.prog 39 #[.agg (List.toArray (rK.q d))] w fun e w' => e = .returned (iv J) ∧ Ctx w F (sR []) w' F [] := by
 have C := Ctx.start hp
 generalize hD : sR [] = D at C ⊢
 unfold tL.f at H
 refine Calls.ofW Tryz.func39 rfl (by simp [Tryz.ntmps39]) <| W.sr rfl ?_
 let y : LV := rK.q d
 obtain ⟨A, ac, Z, r⟩ := uR (P := Tryz.prog) 42 (.agg (List.toArray y)) y C rfl
 refine WL.val (Z _ _ _ rfl) <| WL.rd to 1 rfl <| W.seq <| W.sr rfl <| WL.run to 1 rfl <| WL.lv r 0 0 rfl rfl u_3 rfl rfl <| WL.val (Yl.yS (vs := wF 0 (List.map (Value.int .i64) [d.Faulty, 0, 2])) (cs := List.toArray ([d.Faulty, 0, 2].map (Value.int .i64))) BM sz3 De (uV ((.cons rfl (.cons rfl (.cons rfl .nil))))) (zK .i64 _ _ _ rfl rfl)) <| WL.run to 1 rfl <| WL.lv r 0 1 rfl rfl u_3 rfl rfl ?_
 refine WL.run to 1 rfl <| WL.lv r 0 0 rfl rfl u_3 rfl rfl <| WL.run to 2 rfl <| WL.val (Yl.yS (vs := wF 0 (List.map (Value.int .i64) [d.Workers, rB ((rB (2 * d.Faulty)) + 1), 8])) (cs := List.toArray ([d.Workers, rB ((rB (2 * d.Faulty)) + 1), 8].map (Value.int .i64))) BM sz3 De (uV ((.cons rfl (.cons rfl (.cons rfl .nil))))) (zK .i64 _ _ _ rfl rfl)) <| WL.run to 1 rfl <| WL.lv r 0 2 rfl rfl u_3 rfl rfl <| WL.val (Yl.yS (vs := wF 0 (List.map (Value.int .i64) [d.Height, 0, 6])) (cs := List.toArray ([d.Height, 0, 6].map (Value.int .i64))) BM sz3 De (uV ((.cons rfl (.cons rfl (.cons rfl .nil))))) (zK .i64 _ _ _ rfl rfl)) <| WL.run to 1 rfl <| WL.lv r 0 6 rfl rfl u_3 rfl rfl ?_
 refine WL.val (Yl.yS (vs := wF 0 (List.map (Value.int .i64) [d.Heads, 0, 6])) (cs := List.toArray ([d.Heads, 0, 6].map (Value.int .i64))) BM sz3 De (uV ((.cons rfl (.cons rfl (.cons rfl .nil))))) (zK .i64 _ _ _ rfl rfl)) <| WL.run to 1 rfl <| WL.lv r 0 3 rfl rfl u_3 rfl rfl <| WL.val (Yl.yS (vs := wF 0 (List.map (Value.int .i64) [d.Bits, 1, 256])) (cs := List.toArray ([d.Bits, 1, 256].map (Value.int .i64))) BM sz3 De (uV ((.cons rfl (.cons rfl (.cons rfl .nil))))) (zK .i64 _ _ _ rfl rfl)) <| WL.run to 1 rfl <| WL.lv r 0 4 rfl rfl u_3 rfl rfl <| WL.val (Yl.yS (vs := wF 0 (List.map (Value.int .i64) [d.Jobs, 1, 64])) (cs := List.toArray ([d.Jobs, 1, 64].map (Value.int .i64))) BM sz3 De (uV ((.cons rfl (.cons rfl (.cons rfl .nil))))) (zK .i64 _ _ _ rfl rfl)) <| WL.run to 1 rfl <| WL.lv r 0 5 rfl rfl u_3 rfl rfl ?_
 refine WL.val (Yl.yS (vs := wF 0 (List.map (Value.int .i64) [d.Term, 1, 10000])) (cs := List.toArray ([d.Term, 1, 10000].map (Value.int .i64))) BM sz3 De (uV ((.cons rfl (.cons rfl (.cons rfl .nil))))) (zK .i64 _ _ _ rfl rfl)) ?_
 have l : [[d.Faulty, 0, 2], [d.Workers, rB ((rB (2 * d.Faulty)) + 1), 8], [d.Height, 0, 6], [d.Heads, 0, 6], [d.Bits, 1, 256], [d.Jobs, 1, 64], [d.Term, 1, 10000]].length = 7 ∧ ∀ a_ ∈ [[d.Faulty, 0, 2], [d.Workers, rB ((rB (2 * d.Faulty)) + 1), 8], [d.Height, 0, 6], [d.Heads, 0, 6], [d.Bits, 1, 256], [d.Jobs, 1, 64], [d.Term, 1, 10000]], a_.length = 3 := ⟨rfl, by simp⟩
 refine WL.val (Yl.yS (vs := wF 0 (List.map (fun b => Value.agg (b.map (Value.int .i64)).toArray) [[d.Faulty, 0, 2], [d.Workers, rB ((rB (2 * d.Faulty)) + 1), 8], [d.Height, 0, 6], [d.Heads, 0, 6], [d.Bits, 1, 256], [d.Jobs, 1, 64], [d.Term, 1, 10000]])) (cs := List.toArray ([[d.Faulty, 0, 2], [d.Workers, rB ((rB (2 * d.Faulty)) + 1), 8], [d.Height, 0, 6], [d.Heads, 0, 6], [d.Bits, 1, 256], [d.Jobs, 1, 64], [d.Term, 1, 10000]].flatten.map (Value.int .i64))) Ja H8 Kt (uV ((.cons rfl (.cons rfl (.cons rfl (.cons rfl (.cons rfl (.cons rfl (.cons rfl .nil))))))))) (G8 .i64 _ _ _ l.2 rfl rfl)) ?_
 refine WL.rd to 1 rfl ?_
 obtain ⟨I, h, H⟩ := rE H
 refine W.vG (fun p v => Ctx w F D v F [r0 A y] ∧ I = Sum.inl ()) ?_ ?_
 ·refine W.block <| W.loop (fun M p v => ∃ (m : Int), Kn p [(30, .agg (List.toArray ([[d.Faulty, 0, 2], [d.Workers, rB ((rB (2 * d.Faulty)) + 1), 8], [d.Height, 0, 6], [d.Heads, 0, 6], [d.Bits, 1, 256], [d.Jobs, 1, 64], [d.Term, 1, 10000]].flatten.map (Value.int .i64)))), (31, iv m)] ∧ Ctx w F D v F [r0 A y] ∧ tL.l1 M d m = some I) k ⟨0, rfl, r, h⟩ ?_
  clear h
  rintro M p v ⟨m, O, B, h⟩
  rcases M with _ | G
  · exact absurd h (by simp [tL.l1])
  rw [tL.l1] at h
  apply ks p O
  refine W.sr rfl <| WL.rd to 1 rfl <| W.seq ?_
  rcases rT h with ⟨t, h⟩ | ⟨t, h⟩
  ·refine W.cT t rfl <| W.skip <| W.seq <| W.block <| W.sr rfl ?_
   obtain ⟨j, h⟩ := rV h
   refine WL.val (Yl.G2 (k' := .i64) (L := [[d.Faulty, 0, 2], [d.Workers, rB ((rB (2 * d.Faulty)) + 1), 8], [d.Height, 0, 6], [d.Heads, 0, 6], [d.Bits, 1, 256], [d.Jobs, 1, 64], [d.Term, 1, 10000]]) (i := m) rfl rfl Ja BM rfl H8 l j) ?_
   obtain ⟨x, ab, Q, S⟩ := sU (P := Tryz.prog) (e := 114) ((List.replicate 3 (0 : Int)).map (Value.int .i64)) B De rfl
   refine WL.val (Q _ _) <| WL.st S 0 0 (([[d.Faulty, 0, 2], [d.Workers, rB ((rB (2 * d.Faulty)) + 1), 8], [d.Height, 0, 6], [d.Heads, 0, 6], [d.Bits, 1, 256], [d.Jobs, 1, 64], [d.Term, 1, 10000]].getD m.toNat []).map (Value.int .i64)) rfl rfl rfl rfl (Put.all 3 (rL (List.length_replicate ..)) (rL (xU l j))) (wN _ _) (uY H8 (rL (xU l j))) fun v (s : Cx [r0 x (([[d.Faulty, 0, 2], [d.Workers, rB ((rB (2 * d.Faulty)) + 1), 8], [d.Height, 0, 6], [d.Heads, 0, 6], [d.Bits, 1, 256], [d.Jobs, 1, 64], [d.Term, 1, 10000]].getD m.toNat []).map (Value.int .i64)), r0 A y]) => ?_
   refine WL.done <| W.sr rfl <| WL.val (Yl.Dl (i := 0) rfl rfl BM sz3 (show 0 ≤ (0 : Int) ∧ (0 : Int) < (3 : Int) from by decide)) <| WL.val (Yl.F4 (k' := .i64) (g := x) (off := 0) (o := 0) (cs := ([[d.Faulty, 0, 2], [d.Workers, rB ((rB (2 * d.Faulty)) + 1), 8], [d.Height, 0, 6], [d.Heads, 0, 6], [d.Bits, 1, 256], [d.Jobs, 1, 64], [d.Term, 1, 10000]].getD m.toNat []).map (Value.int .i64)) (pre := []) (post := []) (a := [[d.Faulty, 0, 2], [d.Workers, rB ((rB (2 * d.Faulty)) + 1), 8], [d.Height, 0, 6], [d.Heads, 0, 6], [d.Bits, 1, 256], [d.Jobs, 1, 64], [d.Term, 1, 10000]].getD m.toNat []) (i := 0) rfl u_3 rfl (Ctx.rO 0 s rfl) (by first | (simp only [List.length_append, List.length_map, List.length_cons, List.length_nil, (xU l j)]; done) | simp [(xU l j)]) (by first | (simp only [List.length_append, List.length_map, List.length_cons, List.length_nil, (xU l j)]; done) | simp [(xU l j)]) (by have := (xU l j); have := (show 0 ≤ (0 : Int) ∧ (0 : Int) < (3 : Int) from by decide); omega)) <| WL.val (Yl.Dl (i := 1) rfl rfl BM sz3 (show 0 ≤ (1 : Int) ∧ (1 : Int) < (3 : Int) from by decide)) <| WL.val (Yl.F4 (k' := .i64) (g := x) (off := 0) (o := 0) (cs := ([[d.Faulty, 0, 2], [d.Workers, rB ((rB (2 * d.Faulty)) + 1), 8], [d.Height, 0, 6], [d.Heads, 0, 6], [d.Bits, 1, 256], [d.Jobs, 1, 64], [d.Term, 1, 10000]].getD m.toNat []).map (Value.int .i64)) (pre := []) (post := []) (a := [[d.Faulty, 0, 2], [d.Workers, rB ((rB (2 * d.Faulty)) + 1), 8], [d.Height, 0, 6], [d.Heads, 0, 6], [d.Bits, 1, 256], [d.Jobs, 1, 64], [d.Term, 1, 10000]].getD m.toNat []) (i := 1) rfl u_3 rfl (Ctx.rO 0 s rfl) (by first | (simp only [List.length_append, List.length_map, List.length_cons, List.length_nil, (xU l j)]; done) | simp [(xU l j)]) (by first | (simp only [List.length_append, List.length_map, List.length_cons, List.length_nil, (xU l j)]; done) | simp [(xU l j)]) (by have := (xU l j); have := (show 0 ≤ (1 : Int) ∧ (1 : Int) < (3 : Int) from by decide); omega)) <| WL.val (Yl.Dl (i := 2) rfl rfl BM sz3 (show 0 ≤ (2 : Int) ∧ (2 : Int) < (3 : Int) from by decide)) <| WL.val (Yl.F4 (k' := .i64) (g := x) (off := 0) (o := 0) (cs := ([[d.Faulty, 0, 2], [d.Workers, rB ((rB (2 * d.Faulty)) + 1), 8], [d.Height, 0, 6], [d.Heads, 0, 6], [d.Bits, 1, 256], [d.Jobs, 1, 64], [d.Term, 1, 10000]].getD m.toNat []).map (Value.int .i64)) (pre := []) (post := []) (a := [[d.Faulty, 0, 2], [d.Workers, rB ((rB (2 * d.Faulty)) + 1), 8], [d.Height, 0, 6], [d.Heads, 0, 6], [d.Bits, 1, 256], [d.Jobs, 1, 64], [d.Term, 1, 10000]].getD m.toNat []) (i := 2) rfl u_3 rfl (Ctx.rO 0 s rfl) (by first | (simp only [List.length_append, List.length_map, List.length_cons, List.length_nil, (xU l j)]; done) | simp [(xU l j)]) (by first | (simp only [List.length_append, List.length_map, List.length_cons, List.length_nil, (xU l j)]; done) | simp [(xU l j)]) (by have := (xU l j); have := (show 0 ≤ (2 : Int) ∧ (2 : Int) < (3 : Int) from by decide); omega)) ?_
   obtain ⟨aa, N, h⟩ := rE h
   refine WL.cq s (sV.calls G _ F (([[d.Faulty, 0, 2], [d.Workers, rB ((rB (2 * d.Faulty)) + 1), 8], [d.Height, 0, 6], [d.Heads, 0, 6], [d.Bits, 1, 256], [d.Jobs, 1, 64], [d.Term, 1, 10000]].getD m.toNat []).getD (0 : Int).toNat 0) (([[d.Faulty, 0, 2], [d.Workers, rB ((rB (2 * d.Faulty)) + 1), 8], [d.Height, 0, 6], [d.Heads, 0, 6], [d.Bits, 1, 256], [d.Jobs, 1, 64], [d.Term, 1, 10000]].getD m.toNat []).getD (1 : Int).toNat 0) (([[d.Faulty, 0, 2], [d.Workers, rB ((rB (2 * d.Faulty)) + 1), 8], [d.Height, 0, 6], [d.Heads, 0, 6], [d.Bits, 1, 256], [d.Jobs, 1, 64], [d.Term, 1, 10000]].getD m.toNat []).getD (2 : Int).toNat 0) s.tX  aa N) (ne.fr rfl rfl) fun v E => ?_
   refine WL.rd to 1 rfl ?_
   rcases rT h with ⟨u, h⟩ | ⟨u, h⟩
   ·refine W.uD (cb (zP u)) <| W.skip <| tH <| W.region rfl ?_
    refine WL.rd to 2 rfl ?_
    have T : Cx [r0 A y] := E.pick [1] rfl
    exact rF ⟨G, Nat.lt_succ_self _, rB (m + 1), rfl, T, h⟩
   refine W.uI (cb (zO u)) <| W.sr rfl <| WL.rd to 1 rfl <| W.ret ?_
   iterate 6 first | refine uX ?_ | refine rS ?_
   cases h
   replace H := wB H
   have U : Cx [] := E.pick [] rfl
   have X := Option.some.inj H
   subst X
   exact rH (sE rfl rfl) ⟨rfl, U⟩
  refine W.cF t rfl <| W.exit <| rM <| rM <| sL ?_
  cases h
  refine rF ?_
  exact ⟨B, rfl⟩
 ·rintro p v ⟨R, rfl⟩
  replace H := wI H
  refine W.sr rfl <| WL.rd to 1 rfl <| W.ret ?_
  have V : Cx [] := R.pick [] rfl
  have Y := Option.some.inj H
  subst Y
  exact rH (sE rfl rfl) ⟨rfl, V⟩
def wV.f (k : Nat) (a : rK) : Option Int := some (rB ((rB (2 * a.Faulty)) + 1))
theorem wV.calls (k w F) (b : rK) (hp : Pre w F [])  (a : Int) (H : wV.f k b = some a) :
    Calls Tryz.prog 81 #[.agg (List.toArray (rK.q b))] w fun e w' => e = .returned (iv a) ∧ Ctx w F (sR []) w' F [] := by
 have C := Ctx.start hp
 generalize hD : sR [] = D at C ⊢
 unfold wV.f at H
 refine Calls.ofW Tryz.func81 rfl (by simp [Tryz.ntmps81]) <| W.sr rfl ?_
 let h : LV := rK.q b
 obtain ⟨l, m, g, d⟩ := uR (P := Tryz.prog) 42 (.agg (List.toArray h)) h C rfl
 refine WL.val (g _ _ _ rfl) <| WL.rd to 1 rfl <| W.sr rfl <| WL.run to 1 rfl <| WL.lv d 0 0 rfl rfl u_3 rfl rfl <| WL.rd to 3 rfl <| W.ret ?_
 have i : Cx [] := d.pick [] rfl
 have j := Option.some.inj H
 subst j
 exact rH (sE rfl rfl) ⟨rfl, i⟩
def yJ.f (k : Nat) (a : rK) : Option (bF × Int) := (tL.f k a).bind fun b => if b = 0 then (if 0 ≤ a.Workers ∧ a.Workers * 8 ≤ 140737488355328 then (if 0 ≤ a.Workers ∧ a.Workers * 1 ≤ 140737488355328 then (some ((⟨([] : List sD), ([] : List bT), (List.replicate a.Workers.toNat (0 : Int)), (List.replicate a.Workers.toNat (false : Bool)), 0⟩ : bF), 0)) else none) else none) else (some ((⟨([] : List sD), ([] : List bT), ([] : List Int), ([] : List Bool), 0⟩ : bF), b))
theorem yJ.calls (k w F) (s : rK) (hp : Pre w F [])  (h : bF) (aD : Int) (H : yJ.f k s = some (h, aD)) :
    Calls Tryz.prog 14 #[.agg (List.toArray (rK.q s))] w fun e w' => ∃ R aa I ag S ab J ah T ac L ai U ad M aj, e = .returned (.tuple #[(.agg (List.toArray (bF.q h R I aa S J ab T L ac U M ad))), (iv aD)]) ∧ Ctx w F (sR []) w' F [ag, ah, ai, aj] ∧ I = h.Eras.length ∧ Row sD.K F ag (.slice R I aa) h.Eras ∧ J = h.Jobs.length ∧ Row bT.K F ah (.slice S J ab) h.Jobs ∧ L = h.Used.length ∧ Row KI F ai (.slice T L ac) h.Used ∧ M = h.Barred.length ∧ Row Kd.bool F aj (.slice U M ad) h.Barred := by
 have C := Ctx.start hp
 generalize hD : sR [] = D at C ⊢
 unfold yJ.f at H
 refine Calls.ofW Tryz.func14 rfl (by simp [Tryz.ntmps14]) <| W.sr rfl ?_
 let v : LV := rK.q s
 obtain ⟨B, bn, a9, bh⟩ := uR (P := Tryz.prog) 42 (.agg (List.toArray v)) v C rfl
 refine WL.val (a9 _ _ _ rfl) ?_
 let x : LV := [.slice none 0 0, .slice none 0 0, .slice none 0 0, .slice none 0 0, iv 0]
 obtain ⟨y, bo, ba, aM⟩ := sU (P := Tryz.prog) (e := 50) x bh zN rfl
 refine WL.val (ba _ _) <| WL.rd to 1 rfl <| W.seq <| W.sr rfl <| WL.la aM 1 rfl rfl zZ rfl Ac ?_
 obtain ⟨bb, a8, H⟩ := rE H
 refine WL.c0 aM (tL.calls k _ F s aM.tX  bb a8) (ne.fr rfl rfl) fun Q aB => ?_
 refine WL.rd to 1 rfl <| W.sr rfl <| WL.rd to 2 rfl ?_
 rcases rT H with ⟨E, H⟩ | ⟨E, H⟩
 ·refine W.nF E rfl <| W.skip <| W.seq <| W.uF [([7], r0 B v)] (by kernel_rfl) ?_
  have aC := Ctx.drewN aB 1
  refine WA.sZ [(0, none), (1, some 0), (3, none), (4, some 0)] ⟨(Ctx.rO 1 aC rfl), trivial⟩ (by kernel_rfl) <| WT.run to 1 rfl <| WT.lv 1 rfl rfl rfl u_3 rfl rfl <| WT.run to 1 rfl <| WT.lv 1 rfl rfl rfl u_3 rfl rfl <| WT.done ?_
  obtain ⟨aX, H⟩ := rV H
  obtain ⟨aY, H⟩ := rV H
  refine WA.par (fun L_ a Q => ∃ l p i b m r j d, Ctx w F D Q F [b, d, r0 y x, r0 B v] ∧ a 2 = pt y ∧ a 3 = iv 0 ∧ a 12 = iv s.Workers ∧ a 15 = iv s.Workers ∧ cond (L_ 2) (a 13 = .slice l i p ∧ i = (List.replicate s.Workers.toNat (0 : Int)).length ∧ Row KI F b (.slice l i p) (List.replicate s.Workers.toNat (0 : Int))) (True) ∧ cond (L_ 5) (a 16 = .slice m j r ∧ j = (List.replicate s.Workers.toNat (false : Bool)).length ∧ Row Kd.bool F d (.slice m j r) (List.replicate s.Workers.toNat (false : Bool))) (True)) [(2, [], []), (5, [], [])] [0, 1, 3, 4] [0, 1, 2, 3, 4, 5] #[true, true, true, true, true, true, false, false, false] 3 2 (by kernel_rfl) ?_ (.cons ?_ (.cons ?_ .nil)) ?_
  ·have a5 := Ctx.emp aC
   have a6 := Ctx.emp a5
   exact ⟨none, 0, 0, CH.emp, none, 0, 0, CH.emp, a6, rfl, rfl, rfl, rfl, (iF rfl trivial), (iF rfl trivial)⟩
  ·intro L_ a Q hk_ hI_
   obtain ⟨bi, _⟩ := hk_
   obtain ⟨l, p, i, b, m, r, j, d, a7, a1, a2, G, au, bc, am⟩ := hI_
   obtain ⟨aE, aN, a3, ae, bk, aq, ay, V, ak⟩ := Cn (P := Tryz.prog) 3 KI a7 tM ti3 0 rfl (by decide) s.Workers aX
   refine UpI.val rfl rfl (ay _ _ _ _ _ _ G G) ⟨(Ctx.rO 4 V rfl), trivial⟩ ?_
   have aG : Cx [ae, d, r0 y x, r0 B v] := V.pick [0, 2, 3, 4] rfl
   exact ⟨aE, aN, a3, ae, m, r, j, d, aG, a1, a2, G, au, (iT rfl ⟨rfl, aq, ak⟩), am⟩
  ·intro L_ a Q hk_ hI_
   obtain ⟨bj, _⟩ := hk_
   obtain ⟨l, p, i, b, m, r, j, d, aH, av, aw, ax, u, an, bd⟩ := hI_
   obtain ⟨aF, aO, a4, af, bl, ar, az, X, al⟩ := Cn (P := Tryz.prog) 4 Kd.bool aH zH ti4 false rfl (by decide) s.Workers aY
   refine UpI.val rfl rfl (az _ _ _ _ _ _ u u) ⟨(Ctx.rO 4 X rfl), trivial⟩ ?_
   have aI : Cx [b, af, r0 y x, r0 B v] := X.pick [1, 0, 3, 4] rfl
   exact ⟨l, p, i, b, aF, aO, a4, af, aI, av, aw, ax, u, an, (iT rfl ⟨rfl, ar, al⟩)⟩
  ·rintro a Q ⟨l, p, i, b, m, r, j, d, Y, N, be, bf, bg, ao, ap⟩
   obtain ⟨aP, aZ, aV⟩ := cT rfl ao
   obtain ⟨aQ, a0, aW⟩ := cT rfl ap
   refine WA.sZ [(6, none)] ⟨(Ctx.rO 3 Y rfl), trivial⟩ (by kernel_rfl) ?_
   let O : LV := [.slice none 0 0, .slice none 0 0, .slice l i p, .slice m j r, iv 0]
   refine WT.val rfl (fun _ hC_ => Yl.build (places := [(0, 1), (1, 1), (2, 1), (3, 1), (4, 1)]) (cs := List.toArray O) wJ zN (DB _ wJ) (uV (.cons (by exact aP) (.cons (by exact aQ) .nil))) rfl) ?_
   refine WT.done ?_
   obtain ⟨bm, aA, aJ⟩ := vH (P := Tryz.prog) (ps1 := [b, d]) (ps2 := [r0 B v]) (t := 50) 0 O (.agg (List.toArray O)) Y rfl rfl (rR rfl) wM
   have A : Cx [b, d, r0 y O, r0 B v] := aJ
   refine WA.up1 7 (by kernel_rfl) (Up.skip rfl rfl (aA _ _ _ _ N rfl) ⟨trivial, trivial⟩ ?_)
   refine WA.sZ [(8, none)] ⟨(Ctx.rO 3 A rfl), trivial⟩ (by kernel_rfl) <| WT.run to 1 rfl <| WT.done <| WA.done (by kernel_rfl) <| W.ret ?_
   have aK : Cx [CH.emp, CH.emp, b, d] := A.pick [4, 4, 0, 1] rfl
   obtain ⟨aR, aS⟩ := sp H
   subst aR aS
   exact rH (Au rfl ((.cell N (tS (g := y) (off := 0) (o := 0) (cs := O) (us := O) wJ rfl wM (Ctx.rO 2 A rfl) rfl) (.tmp rfl .nil))) rfl) ⟨none, 0, 0, CH.emp, none, 0, 0, CH.emp, l, p, i, b, m, r, j, d, rfl, aK, rfl, (Row.nil _ _), rfl, (Row.nil _ _), aZ, aV, a0, aW⟩
 refine W.nT E rfl <| W.sr rfl <| WL.val (Yl.build (places := [(0, 1), (1, 1), (2, 1), (3, 1), (4, 1)]) (cs := List.toArray x) wJ zN (DB _ wJ) (uV .nil) rfl) <| WL.run to 1 rfl <| WL.st aB 0 0 x rfl rfl rfl rfl (Put.lit 0 rfl) (rR rfl) wM fun Q (Z : Cx [r0 y x, r0 B v]) => ?_
 refine WL.rd to 1 rfl <| W.ret <| rS ?_
 have aL : Cx [CH.emp, CH.emp, CH.emp, CH.emp] := Z.pick [2, 2, 2, 2] rfl
 obtain ⟨aT, aU⟩ := sp H
 subst aT aU
 exact rH (Au rfl ((.cell rfl (tS (g := y) (off := 0) (o := 0) (cs := x) (us := x) wJ rfl wM (Ctx.rO 0 Z rfl) rfl) (.tmp rfl .nil))) rfl) ⟨none, 0, 0, CH.emp, none, 0, 0, CH.emp, none, 0, 0, CH.emp, none, 0, 0, CH.emp, rfl, aL, rfl, (Row.nil _ _), rfl, (Row.nil _ _), rfl, (Row.nil _ _), rfl, (Row.nil _ _)⟩
def xP.f (k : Nat) (a : bF) : Option Int := if (a.Eras.length : Int) > 0 then (if 0 ≤ (rB ((a.Eras.length : Int) - 1)) ∧ (rB ((a.Eras.length : Int) - 1)) < (a.Eras.length : Int) then (some ((a.Eras.getD (rB ((a.Eras.length : Int) - 1)).toNat sD.z).Epoch)) else none) else (some 0)
theorem xP.calls (k w F x s J y t o l h p m j r) (a : bF) (hp : Pre w F []) (an : J = a.Eras.length) (al : a.Eras.length ≤ s) (am : s ≤ maxLen) (Q : Sl sD.K F F x a.Eras) (af : o = a.Jobs.length) (Z : a.Jobs.length ≤ t) (ac : t ≤ maxLen) (T : Sl bT.K F F y a.Jobs) (ag : p = a.Used.length) (aa : a.Used.length ≤ h) (ad : h ≤ maxLen) (U : Sl KI F F l a.Used) (ah : r = a.Barred.length) (ab : a.Barred.length ≤ j) (ae : j ≤ maxLen) (V : Sl Kd.bool F F m a.Barred) (u : Int) (H : xP.f k a = some u) :
    Calls Tryz.prog 21 #[.agg (List.toArray (bF.q a x J s y o t l p h m r j))] w fun e w' => e = .returned (iv u) ∧ Ctx w F (sR []) w' F [] := by
 have C := Ctx.start hp
 generalize hD : sR [] = D at C ⊢
 unfold xP.f at H
 refine Calls.ofW Tryz.func21 rfl (by simp [Tryz.ntmps21]) <| W.sr rfl ?_
 let R : LV := bF.q a x J s y o t l p h m r j
 obtain ⟨ak, ao, I, b⟩ := uR (P := Tryz.prog) 50 (.agg (List.toArray R)) R C rfl
 refine WL.val (I _ _ _ rfl) <| WL.rd to 1 rfl <| W.seq <| W.sr rfl <| WL.run to 1 rfl <| WL.lv b 0 0 rfl rfl wG rfl rfl <| WL.ln (a.Eras.length : Int) rfl wG (by omega) <| WL.rd to 1 rfl <| W.sr rfl ?_
 refine WL.rd to 2 rfl ?_
 rcases rT H with ⟨g, H⟩ | ⟨g, H⟩
 ·refine W.cT g rfl <| W.sr rfl <| WL.run to 1 rfl <| WL.lv b 0 0 rfl rfl wG rfl rfl <| WL.run to 2 rfl ?_
  obtain ⟨Y, H⟩ := rV H
  obtain ⟨aj, ai, A, B⟩ := Q (by omega)
  refine WL.val (Yl.rW (i := rB ((a.Eras.length : Int) - 1)) rfl rfl A wG A6 (by omega)) <| WL.run to 1 rfl ?_
  obtain ⟨S, E, G⟩ := B (rB ((a.Eras.length : Int) - 1)).toNat _ (getD_some (d := sD.z) (by omega))
  obtain ⟨rfl, X⟩ := sD.open E
  refine WL.val (Yl.load (v := iv ((a.Eras.getD (rB ((a.Eras.length : Int) - 1)).toNat sD.z).Epoch)) rfl u_3 rfl (((b.fro)).cell (G 0 _ rfl))) <| WL.rd to 1 rfl <| W.ret <| rS ?_
  have L : Cx [] := b.pick [] rfl
  have N := Option.some.inj H
  subst N
  exact rH (sE rfl rfl) ⟨rfl, L⟩
 refine W.cF g rfl <| W.skip <| W.sr rfl <| WL.rd to 1 rfl <| W.ret ?_
 have M : Cx [] := b.pick [] rfl
 have O := Option.some.inj H
 subst O
 exact rH (sE rfl rfl) ⟨rfl, M⟩
def xR.f (k : Nat) (a : bF) : Option Int := if (a.Eras.length : Int) > 0 then (if 0 ≤ (rB ((a.Eras.length : Int) - 1)) ∧ (rB ((a.Eras.length : Int) - 1)) < (a.Eras.length : Int) then (some ((a.Eras.getD (rB ((a.Eras.length : Int) - 1)).toNat sD.z).Epoch)) else none) else (some 0)
theorem xR.calls (k w F u h G I M p j m r l o s) (a : bF) (hp : Pre w F []) (ab : G = a.Eras.length) (Z : a.Eras.length ≤ h) (aa : h ≤ maxLen) (Q : Sl sD.K F F u a.Eras) (t : Int) (H : xR.f k a = some t) :
    Calls Tryz.prog 21 #[.agg (List.toArray (bF.q a u G h I p M j r m l s o))] w fun e w' => e = .returned (iv t) ∧ Ctx w F (sR []) w' F [] := by
 have C := Ctx.start hp
 generalize hD : sR [] = D at C ⊢
 unfold xR.f at H
 refine Calls.ofW Tryz.func21 rfl (by simp [Tryz.ntmps21]) <| W.sr rfl ?_
 let R : LV := bF.q a u G h I p M j r m l s o
 obtain ⟨Y, ac, E, b⟩ := uR (P := Tryz.prog) 50 (.agg (List.toArray R)) R C rfl
 refine WL.val (E _ _ _ rfl) <| WL.rd to 1 rfl <| W.seq <| W.sr rfl <| WL.run to 1 rfl <| WL.lv b 0 0 rfl rfl wG rfl rfl <| WL.ln (a.Eras.length : Int) rfl wG (by omega) <| WL.rd to 1 rfl <| W.sr rfl ?_
 refine WL.rd to 2 rfl ?_
 rcases rT H with ⟨g, H⟩ | ⟨g, H⟩
 ·refine W.cT g rfl <| W.sr rfl <| WL.run to 1 rfl <| WL.lv b 0 0 rfl rfl wG rfl rfl <| WL.run to 2 rfl ?_
  obtain ⟨U, H⟩ := rV H
  obtain ⟨X, V, x, y⟩ := Q (by omega)
  refine WL.val (Yl.rW (i := rB ((a.Eras.length : Int) - 1)) rfl rfl x wG A6 (by omega)) <| WL.run to 1 rfl ?_
  obtain ⟨S, A, B⟩ := y (rB ((a.Eras.length : Int) - 1)).toNat _ (getD_some (d := sD.z) (by omega))
  obtain ⟨rfl, T⟩ := sD.open A
  refine WL.val (Yl.load (v := iv ((a.Eras.getD (rB ((a.Eras.length : Int) - 1)).toNat sD.z).Epoch)) rfl u_3 rfl (((b.fro)).cell (B 0 _ rfl))) <| WL.rd to 1 rfl <| W.ret <| rS ?_
  have J : Cx [] := b.pick [] rfl
  have N := Option.some.inj H
  subst N
  exact rH (sE rfl rfl) ⟨rfl, J⟩
 refine W.cF g rfl <| W.skip <| W.sr rfl <| WL.rd to 1 rfl <| W.ret ?_
 have L : Cx [] := b.pick [] rfl
 have O := Option.some.inj H
 subst O
 exact rH (sE rfl rfl) ⟨rfl, L⟩
def uG.l1 : Nat → bF → Int → Int → Option (Sum Unit ((List Int) × Bool))
  | 0, _, _, _ => none
  | k + 1, b, d, a => if a < (b.Eras.length : Int) then (if 0 ≤ a ∧ a < (b.Eras.length : Int) then (if ((b.Eras.getD a.toNat sD.z).Epoch) = d then (some (Sum.inr ((b.Eras.getD a.toNat sD.z).Nonce, true))) else (uG.l1 k b d (rB (a + 1)))) else none) else (some (Sum.inl ()))
def uG.f (k : Nat) (a : bF) (b : Int) : Option ((List Int) × Bool) := (uG.l1 k a b 0).bind fun d => vS d (fun _ => some ((List.replicate 32 (0 : Int)), false)) (fun e => some e)
theorem uG.calls (k w F U N ad ah X O G B Q I E R) (b : bF) (V : Int) (hp : Pre w F []) (aV : ad = b.Eras.length) (aT : b.Eras.length ≤ N) (aU : N ≤ maxLen) (aA : Sl sD.K F F U b.Eras) (aO : O = b.Jobs.length) (aI : b.Jobs.length ≤ X) (aL : X ≤ maxLen) (aF : Sl bT.K F F ah b.Jobs) (aP : Q = b.Used.length) (aJ : b.Used.length ≤ B) (aM : B ≤ maxLen) (aG : Sl KI F F G b.Used) (aQ : R = b.Barred.length) (aK : b.Barred.length ≤ E) (aN : E ≤ maxLen) (aH : Sl Kd.bool F F I b.Barred) (T : List Int) (ag : Bool) (H : uG.f k b V = some (T, ag)) :
    Calls Tryz.prog 74 #[.agg (List.toArray (bF.q b U ad N ah O X G Q B I R E)), iv V] w fun e w' => e = .returned (.tuple #[(.agg (List.toArray (T.map (Value.int .u8)))), (.bool ag)]) ∧ Ctx w F (sR []) w' F [] ∧ T.length = 32 := by
 have C := Ctx.start hp
 generalize hD : sR [] = D at C ⊢
 unfold uG.f at H
 refine Calls.ofW Tryz.func74 rfl (by simp [Tryz.ntmps74]) <| W.sr rfl ?_
 let x : LV := bF.q b U ad N ah O X G Q B I R E
 obtain ⟨r, aW, av, ay⟩ := uR (P := Tryz.prog) 50 (.agg (List.toArray x)) x C rfl
 refine WL.val (av _ _ _ rfl) ?_
 obtain ⟨m, aX, aw, ae⟩ := sU (P := Tryz.prog) (e := 23) ((List.replicate 32 (0 : Int)).map (Value.int .u8)) ay D9 rfl
 refine WL.val (aw _ _) <| WL.rd to 1 rfl <| W.seq <| W.sr rfl <| WL.run to 1 rfl <| WL.lv ae 1 0 rfl rfl wG rfl rfl <| WL.ln (b.Eras.length : Int) rfl wG (by omega) <| WL.rd to 1 rfl ?_
 obtain ⟨af, a, H⟩ := rE H
 refine W.vG (fun p y => p 4 = pt m ∧ Ctx w F D y F [r0 m ((List.replicate 32 (0 : Int)).map (Value.int .u8)), r0 r x] ∧ af = Sum.inl ()) ?_ ?_
 ·refine W.block <| W.loop (fun aq p y => ∃ (l : Int), Kn p [(1, iv V), (4, pt m), (9, .slice U ad N), (10, iv (b.Eras.length : Int)), (11, iv l)] ∧ Ctx w F D y F [r0 m ((List.replicate 32 (0 : Int)).map (Value.int .u8)), r0 r x] ∧ uG.l1 aq b V l = some af) k ⟨0, rfl, ae, a⟩ ?_
  clear a
  rintro aq p y ⟨l, au, M, a⟩
  rcases aq with _ | ax
  · exact absurd a (by simp [uG.l1])
  rw [uG.l1] at a
  apply ks p au
  refine W.sr rfl <| WL.rd to 1 rfl <| W.seq ?_
  rcases rT a with ⟨t, a⟩ | ⟨t, a⟩
  ·refine W.cT t rfl <| W.skip <| W.seq <| W.block <| W.sr rfl ?_
   obtain ⟨aC, a⟩ := rV a
   obtain ⟨aE, aD, Y, Z⟩ := aA (by omega)
   refine WL.val (Yl.rW (i := l) rfl rfl Y wG A6 (by omega)) ?_
   obtain ⟨aB, aa, ab⟩ := Z l.toNat _ (getD_some (d := sD.z) (by omega))
   obtain ⟨rfl, h⟩ := sD.open aa
   let S : LV := [iv ((b.Eras.getD l.toNat sD.z).Epoch)] ++ (((b.Eras.getD l.toNat sD.z).Nonce).map (Value.int .u8))
   refine WL.val (Yl.wC (cs := S) rfl Dh rfl (uY A6 (tP rfl (rL h))) (fun j u hu => by rw [vL]; exact ((M.fro)).cell (ab _ _ hu))) ?_
   let aR : LV := [iv 0] ++ ((List.replicate 32 (0 : Int)).map (Value.int .u8))
   obtain ⟨A, aS, ac, ai⟩ := sU (P := Tryz.prog) (e := 94) aR M GX rfl
   refine WL.val (ac _ _) <| WL.st ai 0 0 S rfl rfl rfl rfl (Put.all 33 (tP rfl (rL (List.length_replicate ..))) (tP rfl (rL h))) (yB (rR rfl) (wN _ _)) (uY A6 (tP rfl (rL h))) fun y (s : Cx [r0 A S, r0 m ((List.replicate 32 (0 : Int)).map (Value.int .u8)), r0 r x]) => ?_
   refine WL.done <| W.sr rfl <| WL.run to 1 rfl <| WL.lv s 0 0 rfl rfl u_3 rfl rfl <| WL.rd to 2 rfl ?_
   rcases rT a with ⟨v, a⟩ | ⟨v, a⟩
   ·refine W.cT v rfl <| W.sr rfl <| WL.run to 1 rfl <| WL.val (Yl.xD (g := A) (off := 0) (o := 1) (cs := S) (us := ((b.Eras.getD l.toNat sD.z).Nonce).map (Value.int .u8)) rfl zC rfl (uY yL (rL h)) (Ctx.rO 0 s rfl) (zU 1 0 rfl (BO rfl))) <| WL.st s 1 0 (((b.Eras.getD l.toNat sD.z).Nonce).map (Value.int .u8)) rfl rfl rfl rfl (Put.all 32 (rL (List.length_replicate ..)) (rL h)) (wN _ _) (uY yL (rL h)) fun y (J : Cx [r0 A S, r0 m (((b.Eras.getD l.toNat sD.z).Nonce).map (Value.int .u8)), r0 r x]) => ?_
    refine WL.rd to 1 rfl <| W.ret ?_
    iterate 6 first | refine uX ?_ | refine rS ?_
    cases a
    replace H := wB H
    have aj : Cx [] := J.pick [] rfl
    obtain ⟨am, an⟩ := sp H
    subst am an
    exact rH (Au rfl ((.cell rfl (tS (g := m) (off := 0) (o := 0) (cs := ((b.Eras.getD l.toNat sD.z).Nonce).map (Value.int .u8)) (us := ((b.Eras.getD l.toNat sD.z).Nonce).map (Value.int .u8)) zC rfl (uY yL (rL h)) (Ctx.rO 1 J rfl) (xX _)) (.tmp rfl .nil))) rfl) ⟨rfl, aj, h⟩
   refine W.cF v rfl <| W.skip <| tH <| W.region rfl ?_
   refine WL.rd to 2 rfl ?_
   have ak : Cx [r0 m ((List.replicate 32 (0 : Int)).map (Value.int .u8)), r0 r x] := s.pick [1, 2] rfl
   exact rF ⟨ax, Nat.lt_succ_self _, rB (l + 1), rfl, ak, a⟩
  refine W.cF t rfl <| W.exit <| rM <| rM <| sL ?_
  cases a
  refine rF ?_
  exact ⟨rfl, M, rfl⟩
 ·rintro p y ⟨ar, az, rfl⟩
  replace H := wI H
  apply kn p (.c ar .n)
  refine W.sr rfl <| WL.val (Yl.yS (cs := List.toArray ((List.replicate 32 (0 : Int)).map (Value.int .u8))) zC sz5 D9 (uV .nil) rfl) <| WL.st az 0 0 ((List.replicate 32 (0 : Int)).map (Value.int .u8)) rfl rfl rfl rfl (Put.all 32 (rL (List.length_replicate ..)) (rL (List.length_replicate ..))) (wN _ _) (uY yL (rL (List.length_replicate ..))) fun y (L : Cx [r0 m ((List.replicate 32 (0 : Int)).map (Value.int .u8)), r0 r x]) => ?_
  refine WL.rd to 1 rfl <| W.ret ?_
  have al : Cx [] := L.pick [] rfl
  obtain ⟨ao, ap⟩ := sp H
  subst ao ap
  exact rH (Au rfl ((.cell rfl (tS (g := m) (off := 0) (o := 0) (cs := (List.replicate 32 (0 : Int)).map (Value.int .u8)) (us := (List.replicate 32 (0 : Int)).map (Value.int .u8)) zC rfl (uY yL (rL (List.length_replicate ..))) (Ctx.rO 0 L rfl) (xX _)) (.tmp rfl .nil))) rfl) ⟨rfl, al, (List.length_replicate ..)⟩
def tJ.l1 : Nat → rD → Int → Option (Sum Unit Bool)
  | 0, _, _ => none
  | k + 1, b, a => if a < 4 then (if 0 ≤ a ∧ a < (4 : Int) then ((sV.f k ([b.Epoch, b.Job, b.Time, b.By].getD a.toNat 0) 0 1099511627776).bind fun d => if d = true then (tJ.l1 k b (rB (a + 1))) else (some (Sum.inr false))) else none) else (some (Sum.inl ()))
def tJ.f (k : Nat) (a : rD) : Option Bool := (if a.Kind = 1 then (if a.Epoch < 1 then (some (Sum.inr false)) else (some (Sum.inl (0, (⟨a.Kind, a.Epoch, a.Nonce, ([] : List Int), 0, 0, 0⟩ : rD))))) else (if a.Kind = 2 then (some (Sum.inl (64, (⟨a.Kind, 0, (List.replicate 32 (0 : Int)), ([] : List Int), 0, 0, 0⟩ : rD)))) else ((if a.Kind = 3 then (some (decide (a.Kind = 3))) else (some (decide (a.Kind = 5)))).bind fun i => if i = true then (some (Sum.inl (0, (⟨a.Kind, 0, (List.replicate 32 (0 : Int)), ([] : List Int), a.Job, a.Time, 0⟩ : rD)))) else (if a.Kind = 4 then (some (Sum.inl (32, (⟨a.Kind, 0, (List.replicate 32 (0 : Int)), ([] : List Int), a.Job, 0, a.By⟩ : rD)))) else (if a.Kind = 6 then (some (Sum.inl (0, (⟨a.Kind, 0, (List.replicate 32 (0 : Int)), ([] : List Int), 0, 0, 0⟩ : rD)))) else (some (Sum.inr false))))))).bind fun e => vS e (fun ⟨h, b⟩ => (tJ.l1 k a 0).bind fun e => vS e (fun _ => (if (a.Data.length : Int) ≤ h then (if a.Epoch = b.Epoch then (if a.Nonce = b.Nonce then (if a.Job = b.Job then (if a.Time = b.Time then (some (decide (a.By = b.By))) else (some (false))) else (some (false))) else (some (false))) else (some (false))) else (some (false))).bind fun d => some d) (fun g => some g)) (fun g => some g)
theorem tJ.calls (k w F aK au bb) (b : rD) (hp : Pre w F []) (u : b.Nonce.length = 32) (bz : bb = b.Data.length) (bw : b.Data.length ≤ au) (bx : au ≤ maxLen) (bv : Sl KB F F aK b.Data) (aJ : Bool) (H : tJ.f k b = some aJ) :
    Calls Tryz.prog 22 #[.agg (List.toArray ((rD.q b aK bb au)))] w fun e w' => e = .returned (.bool aJ) ∧ Ctx w F (sR []) w' F [] := by
 have C := Ctx.start hp
 generalize hD : sR [] = D at C ⊢
 unfold tJ.f at H
 refine Calls.ofW Tryz.func22 rfl (by simp [Tryz.ntmps22]) <| W.sr rfl ?_
 let s : LV := rD.q b aK bb au
 obtain ⟨r, bA, a9, aI⟩ := uR (P := Tryz.prog) 26 (.agg (List.toArray s)) s C rfl
 refine WL.val (a9 _ _ _ rfl) <| WL.rd to 1 rfl <| W.sr rfl <| WL.run to 1 rfl <| WL.lv aI 0 0 rfl rfl u_3 rfl rfl ?_
 let al : LV := [iv b.Kind, iv 0] ++ ((List.replicate 32 (0 : Int)).map (Value.int .u8) ++ [.slice none 0 0, iv 0, iv 0, iv 0])
 refine WL.val (Yl.build (places := [(0, 1), (1, 1), (2, 32), (34, 1), (35, 1), (36, 1), (37, 1)]) (cs := List.toArray al) Bg Fy (H9 _ Bg) (uV (.cons rfl .nil)) (zF.run (a := [iv 0, iv 0] ++ ((List.replicate 32 (0 : Int)).map (Value.int .u8) ++ [.slice none 0 0, iv 0, iv 0, iv 0])) (c := [iv b.Kind, iv 0] ++ ((List.replicate 32 (0 : Int)).map (Value.int .u8) ++ [.slice none 0 0, iv 0, iv 0, iv 0])) (.put (us := [iv b.Kind]) rfl rfl rfl (Put.left (Put.lit 0 rfl)) .nil))) ?_
 let bl : LV := [iv 0, iv 0] ++ ((List.replicate 32 (0 : Int)).map (Value.int .u8) ++ [.slice none 0 0, iv 0, iv 0, iv 0])
 obtain ⟨p, bB, ba, bf⟩ := sU (P := Tryz.prog) (e := 26) bl aI Fy rfl
 refine WL.val (ba _ _) <| WL.st bf 0 0 al rfl rfl rfl rfl (Put.all 38 (tP rfl (tP (rL (List.length_replicate ..)) rfl)) (tP rfl (tP (rL (List.length_replicate ..)) rfl))) (yB (rR rfl) (yB (wN _ _) (rR rfl))) (uY BP (tP rfl (tP (rL (List.length_replicate ..)) rfl))) fun x (ae : Cx [r0 p al, r0 r s]) => ?_
 refine WL.done <| W.sr rfl <| WL.rd to 1 rfl <| W.seq ?_
 obtain ⟨bc, d, H⟩ := rE H
 refine W.vG (fun l x => ∃ (J : Int) (v : rD), ∃ L N I B, Kn l [(1, pt r), (3, pt p), (4, iv J)] ∧ Ctx w F D x F [r0 p ((rD.q v L I N)), B, r0 r s] ∧ v.Nonce.length = 32 ∧ oW KB F B L I N v.Data (bc = Sum.inl (J, v))) ?_ ?_
 ·refine W.sr rfl <| WL.run to 1 rfl <| WL.lv ae 1 0 rfl rfl u_3 rfl rfl <| WL.done <| W.block <| W.sr rfl <| WL.rd to 2 rfl ?_
  rcases rT d with ⟨O, d⟩ | ⟨O, d⟩
  ·refine W.cT O rfl <| W.seq <| W.uF [([7], r0 r s)] (by kernel_rfl) ?_
   have am := Ctx.drewN ae 1
   refine WA.sZ [(0, none), (1, some 0), (2, none), (3, some 0), (4, none)] ⟨(Ctx.rO 1 am rfl), trivial⟩ (by kernel_rfl) <| WT.run to 1 rfl <| WT.lv 1 rfl rfl rfl u_3 rfl rfl <| WT.run to 1 rfl <| WT.val rfl (fun _ hC_ => Yl.xD (g := r) (off := 0) (o := 2) (cs := s) (us := b.Nonce.map (Value.int .u8)) rfl zC rfl (uY yL (rL u)) (show Sub (r0 r s) _ from hC_) (zU 2 0 rfl (Ca rfl))) ?_
   refine WT.run to 1 rfl <| WT.done ?_
   obtain ⟨bp, aC, aL⟩ := B6 (P := Tryz.prog) (ps1 := []) (ps2 := [r0 r s]) (t := 3) [iv b.Epoch] (iv b.Epoch) am (Put.left (Put.lit 1 rfl)) rfl (rR rfl) sz3
   let bm : LV := [iv b.Kind, iv b.Epoch] ++ ((List.replicate 32 (0 : Int)).map (Value.int .u8) ++ [.slice none 0 0, iv 0, iv 0, iv 0])
   have af : Cx [r0 p bm, r0 r s] := aL
   refine WA.up1 5 (by kernel_rfl) (Up.skip rfl rfl (aC _ _ _ _ rfl rfl) ⟨(Ctx.rO 1 af rfl), trivial⟩ ?_)
   refine WA.sZ [(6, none)] ⟨(Ctx.rO 1 af rfl), trivial⟩ (by kernel_rfl) <| WT.run to 1 rfl <| WT.done ?_
   obtain ⟨bq, aD, aM⟩ := B6 (P := Tryz.prog) (ps1 := []) (ps2 := [r0 r s]) (t := 23) (b.Nonce.map (Value.int .u8)) (.agg (List.toArray (b.Nonce.map (Value.int .u8)))) af (Put.skip 2 0 rfl (Put.here 32 (rL (List.length_replicate ..)) (rL u))) rfl (wN _ _) (uY yL (rL u))
   let bg : LV := [iv b.Kind, iv b.Epoch] ++ (b.Nonce.map (Value.int .u8) ++ [.slice none 0 0, iv 0, iv 0, iv 0])
   have ag : Cx [r0 p bg, r0 r s] := aM
   refine WA.up1 7 (by kernel_rfl) (Up.skip rfl rfl (aD _ _ _ _ rfl rfl) ⟨trivial, trivial⟩ ?_)
   refine WA.done (by kernel_rfl) <| W.sr rfl <| WL.run to 1 rfl <| WL.lv ag 1 1 rfl rfl u_3 rfl rfl <| WL.rd to 1 rfl ?_
   rcases rT d with ⟨Q, d⟩ | ⟨Q, d⟩
   ·refine W.cT Q rfl <| W.sr rfl <| WL.rd to 1 rfl <| W.ret ?_
    iterate 3 first | refine uX ?_ | refine rS ?_
    cases d
    replace H := wB H
    have aN : Cx [] := ag.pick [] rfl
    have a3 := Option.some.inj H
    subst a3
    exact rH (sE rfl rfl) ⟨rfl, aN⟩
   refine W.cF Q rfl <| W.skip <| tH ?_
   have aO : Cx [r0 p bg, CH.emp, r0 r s] := ag.pick [0, 2, 1] rfl
   cases d
   refine rF ?_
   exact ⟨0, (⟨b.Kind, b.Epoch, b.Nonce, ([] : List Int), 0, 0, 0⟩ : rD), none, 0, 0, CH.emp, rfl, aO, u, rfl, (Row.nil _ _), rfl⟩
  refine W.cF O rfl <| W.sr rfl <| WL.rd to 2 rfl ?_
  rcases rT d with ⟨R, d⟩ | ⟨R, d⟩
  ·refine W.cT R rfl <| W.region rfl ?_
   refine WL.rd to 1 rfl <| tH ?_
   have aP : Cx [r0 p al, CH.emp, r0 r s] := ae.pick [0, 2, 1] rfl
   cases d
   refine rF ?_
   exact ⟨64, (⟨b.Kind, 0, (List.replicate 32 (0 : Int)), ([] : List Int), 0, 0, 0⟩ : rD), none, 0, 0, CH.emp, rfl, aP, (List.length_replicate ..), rfl, (Row.nil _ _), rfl⟩
  refine W.cF R rfl <| W.seq ?_
  obtain ⟨be, y, d⟩ := rE d
  refine W.vG (fun l x => Kn l [(1, pt r), (3, pt p), (4, iv 0), (11, iv b.Kind), (25, .bool be)] ∧ Ctx w F D x F [r0 p al, r0 r s]) ?_ ?_
  ·refine W.sr rfl <| WL.rd to 2 rfl ?_
   rcases rT y with ⟨S, y⟩ | ⟨S, y⟩
   ·refine W.cT S rfl <| W.skip ?_
    cases y
    refine rF ?_
    exact ⟨rfl, ae⟩
   refine W.cF S rfl <| W.region rfl ?_
   refine WL.rd to 2 rfl ?_
   cases y
   refine rF ?_
   exact ⟨rfl, ae⟩
  ·rintro l x ⟨ay, M⟩
   apply ks l ay
   rcases rT d with ⟨T, d⟩ | ⟨T, d⟩
   ·refine W.uI (cb T) <| W.uF [([7], r0 r s)] (by kernel_rfl) ?_
    have an := Ctx.drewN M 1
    refine WA.sZ [(0, none), (1, some 0), (2, none), (3, some 0), (4, none)] ⟨(Ctx.rO 1 an rfl), trivial⟩ (by kernel_rfl) <| WT.run to 1 rfl <| WT.lv 35 rfl rfl rfl u_3 rfl (tQ 2 33 rfl (tQ 32 1 (rL u) rfl)) <| WT.run to 1 rfl <| WT.lv 36 rfl rfl rfl u_3 rfl (tQ 2 34 rfl (tQ 32 2 (rL u) rfl)) <| WT.run to 1 rfl <| WT.done ?_
    obtain ⟨br, aE, aQ⟩ := B6 (P := Tryz.prog) (ps1 := []) (ps2 := [r0 r s]) (t := 3) [iv b.Job] (iv b.Job) an (Put.skip 2 33 rfl (Put.skip 32 1 (rL (List.length_replicate ..)) (Put.lit 1 rfl))) rfl (rR rfl) sz3
    let bn : LV := [iv b.Kind, iv 0] ++ ((List.replicate 32 (0 : Int)).map (Value.int .u8) ++ [.slice none 0 0, iv b.Job, iv 0, iv 0])
    have ah : Cx [r0 p bn, r0 r s] := aQ
    refine WA.up1 5 (by kernel_rfl) (Up.skip rfl rfl (aE _ _ _ _ rfl rfl) ⟨(Ctx.rO 1 ah rfl), trivial⟩ ?_)
    refine WA.sZ [(6, none)] ⟨(Ctx.rO 1 ah rfl), trivial⟩ (by kernel_rfl) <| WT.run to 1 rfl <| WT.done ?_
    obtain ⟨bs, aF, aR⟩ := B6 (P := Tryz.prog) (ps1 := []) (ps2 := [r0 r s]) (t := 3) [iv b.Time] (iv b.Time) ah (Put.skip 2 34 rfl (Put.skip 32 2 (rL (List.length_replicate ..)) (Put.lit 2 rfl))) rfl (rR rfl) sz3
    let bh : LV := [iv b.Kind, iv 0] ++ ((List.replicate 32 (0 : Int)).map (Value.int .u8) ++ [.slice none 0 0, iv b.Job, iv b.Time, iv 0])
    have aS : Cx [r0 p bh, r0 r s] := aR
    refine WA.up1 7 (by kernel_rfl) (Up.skip rfl rfl (aF _ _ _ _ rfl rfl) ⟨trivial, trivial⟩ ?_)
    refine WA.done (by kernel_rfl) <| tH ?_
    have aT : Cx [r0 p bh, CH.emp, r0 r s] := aS.pick [0, 2, 1] rfl
    cases d
    refine rF ?_
    exact ⟨0, (⟨b.Kind, 0, (List.replicate 32 (0 : Int)), ([] : List Int), b.Job, b.Time, 0⟩ : rD), none, 0, 0, CH.emp, rfl, aT, (List.length_replicate ..), rfl, (Row.nil _ _), rfl⟩
   refine W.uD (cb (Bool.eq_false_iff.2 T)) <| W.sr rfl <| WL.rd to 2 rfl ?_
   rcases rT d with ⟨U, d⟩ | ⟨U, d⟩
   ·refine W.cT U rfl <| W.seq <| W.uF [([7], r0 r s)] (by kernel_rfl) ?_
    have ao := Ctx.drewN M 1
    refine WA.sZ [(0, none), (1, some 0), (2, none), (3, some 0), (4, none)] ⟨(Ctx.rO 1 ao rfl), trivial⟩ (by kernel_rfl) <| WT.run to 1 rfl <| WT.lv 35 rfl rfl rfl u_3 rfl (tQ 2 33 rfl (tQ 32 1 (rL u) rfl)) <| WT.run to 1 rfl <| WT.lv 37 rfl rfl rfl u_3 rfl (tQ 2 35 rfl (tQ 32 3 (rL u) rfl)) <| WT.run to 1 rfl <| WT.done ?_
    obtain ⟨bt, aG, aU⟩ := B6 (P := Tryz.prog) (ps1 := []) (ps2 := [r0 r s]) (t := 3) [iv b.Job] (iv b.Job) ao (Put.skip 2 33 rfl (Put.skip 32 1 (rL (List.length_replicate ..)) (Put.lit 1 rfl))) rfl (rR rfl) sz3
    let bo : LV := [iv b.Kind, iv 0] ++ ((List.replicate 32 (0 : Int)).map (Value.int .u8) ++ [.slice none 0 0, iv b.Job, iv 0, iv 0])
    have ai : Cx [r0 p bo, r0 r s] := aU
    refine WA.up1 5 (by kernel_rfl) (Up.skip rfl rfl (aG _ _ _ _ rfl rfl) ⟨(Ctx.rO 1 ai rfl), trivial⟩ ?_)
    refine WA.sZ [(6, none)] ⟨(Ctx.rO 1 ai rfl), trivial⟩ (by kernel_rfl) <| WT.run to 1 rfl <| WT.done ?_
    obtain ⟨bu, aH, aV⟩ := B6 (P := Tryz.prog) (ps1 := []) (ps2 := [r0 r s]) (t := 3) [iv b.By] (iv b.By) ai (Put.skip 2 35 rfl (Put.skip 32 3 (rL (List.length_replicate ..)) (Put.lit 3 rfl))) rfl (rR rfl) sz3
    let bi : LV := [iv b.Kind, iv 0] ++ ((List.replicate 32 (0 : Int)).map (Value.int .u8) ++ [.slice none 0 0, iv b.Job, iv 0, iv b.By])
    have aW : Cx [r0 p bi, r0 r s] := aV
    refine WA.up1 7 (by kernel_rfl) (Up.skip rfl rfl (aH _ _ _ _ rfl rfl) ⟨trivial, trivial⟩ ?_)
    refine WA.done (by kernel_rfl) <| W.region rfl ?_
    refine WL.rd to 1 rfl <| tH ?_
    have aX : Cx [r0 p bi, CH.emp, r0 r s] := aW.pick [0, 2, 1] rfl
    cases d
    refine rF ?_
    exact ⟨32, (⟨b.Kind, 0, (List.replicate 32 (0 : Int)), ([] : List Int), b.Job, 0, b.By⟩ : rD), none, 0, 0, CH.emp, rfl, aX, (List.length_replicate ..), rfl, (Row.nil _ _), rfl⟩
   refine W.cF U rfl <| W.sr rfl <| WL.rd to 2 rfl ?_
   rcases rT d with ⟨V, d⟩ | ⟨V, d⟩
   ·refine W.cT V rfl <| W.skip <| tH ?_
    have aY : Cx [r0 p al, CH.emp, r0 r s] := M.pick [0, 2, 1] rfl
    cases d
    refine rF ?_
    exact ⟨0, (⟨b.Kind, 0, (List.replicate 32 (0 : Int)), ([] : List Int), 0, 0, 0⟩ : rD), none, 0, 0, CH.emp, rfl, aY, (List.length_replicate ..), rfl, (Row.nil _ _), rfl⟩
   refine W.cF V rfl <| W.sr rfl <| WL.rd to 1 rfl <| W.ret ?_
   iterate 3 first | refine uX ?_ | refine rS ?_
   cases d
   replace H := wB H
   have aZ : Cx [] := M.pick [] rfl
   have a4 := Option.some.inj H
   subst a4
   exact rH (sE rfl rfl) ⟨rfl, aZ⟩
 ·rintro l x ⟨J, v, L, N, I, B, ax, G, A, bk, bj, rfl⟩
  replace H := wI H
  apply ks l ax
  refine W.seq <| W.sr rfl <| WL.run to 1 rfl <| WL.lv G 2 1 rfl rfl u_3 rfl rfl <| WL.run to 1 rfl <| WL.lv G 2 35 rfl rfl u_3 rfl (tQ 2 33 rfl (tQ 32 1 (rL u) rfl)) <| WL.run to 1 rfl <| WL.lv G 2 36 rfl rfl u_3 rfl (tQ 2 34 rfl (tQ 32 2 (rL u) rfl)) <| WL.run to 1 rfl ?_
  refine WL.lv G 2 37 rfl rfl u_3 rfl (tQ 2 35 rfl (tQ 32 3 (rL u) rfl)) <| WL.val (Yl.yS (vs := wF 0 (List.map (Value.int .i64) [b.Epoch, b.Job, b.Time, b.By])) (cs := List.toArray ([b.Epoch, b.Job, b.Time, b.By].map (Value.int .i64))) Ji sz3 JZ (uV ((.cons rfl (.cons rfl (.cons rfl (.cons rfl .nil)))))) (zK .i64 _ _ _ rfl rfl)) <| WL.rd to 1 rfl ?_
  obtain ⟨ar, j, H⟩ := rE H
  let ak : LV := rD.q v L I N
  refine W.vG (fun l x => Kn l [(1, pt r), (3, pt p), (4, iv J)] ∧ Ctx w F D x F [r0 p ak, B, r0 r s] ∧ ar = Sum.inl ()) ?_ ?_
  ·refine W.block <| W.loop (fun a8 l x => ∃ (E : Int), Kn l [(1, pt r), (3, pt p), (4, iv J), (52, .agg (List.toArray ([b.Epoch, b.Job, b.Time, b.By].map (Value.int .i64)))), (53, iv E)] ∧ Ctx w F D x F [r0 p ak, B, r0 r s] ∧ tJ.l1 a8 b E = some ar) k ⟨0, rfl, G, j⟩ ?_
   clear j
   rintro a8 l x ⟨E, aA, aj, j⟩
   rcases a8 with _ | aq
   · exact absurd j (by simp [tJ.l1])
   rw [tJ.l1] at j
   apply ks l aA
   refine W.sr rfl <| WL.rd to 1 rfl <| W.seq ?_
   rcases rT j with ⟨X, j⟩ | ⟨X, j⟩
   ·refine W.cT X rfl <| W.skip <| W.seq <| W.block <| W.sr rfl ?_
    obtain ⟨av, j⟩ := rV j
    refine WL.val (Yl.Ib (k' := .i64) (a := [b.Epoch, b.Job, b.Time, b.By]) (i := E) rfl rfl Ji u_3 sz3 rfl (by have := av; simp only [List.length_cons, List.length_nil]; omega)) <| WL.rd to 1 rfl <| W.sr rfl <| WL.run to 1 rfl ?_
    obtain ⟨bd, aw, j⟩ := rE j
    refine WL.cq aj (sV.calls aq _ F ([b.Epoch, b.Job, b.Time, b.By].getD E.toNat 0) 0 1099511627776 aj.tX  bd aw) (ne.fr rfl rfl) fun x ap => ?_
    refine WL.rd to 1 rfl ?_
    rcases rT j with ⟨Y, j⟩ | ⟨Y, j⟩
    ·refine W.uD (cb (zP Y)) <| W.skip <| tH <| W.region rfl ?_
     exact WL.rd to 2 rfl <| rF ⟨aq, Nat.lt_succ_self _, rB (E + 1), rfl, ap, j⟩
    refine W.uI (cb (zO Y)) <| W.sr rfl <| WL.rd to 1 rfl <| W.ret ?_
    iterate 6 first | refine uX ?_ | refine rS ?_
    cases j
    replace H := wB H
    have a0 : Cx [] := ap.pick [] rfl
    have a5 := Option.some.inj H
    subst a5
    exact rH (sE rfl rfl) ⟨rfl, a0⟩
   refine W.cF X rfl <| W.exit <| rM <| rM <| sL ?_
   cases j
   refine rF ?_
   exact ⟨rfl, aj, rfl⟩
  ·rintro l x ⟨az, m, rfl⟩
   replace H := wI H
   apply ks l az
   refine W.sr rfl <| WL.run to 1 rfl <| WL.lv m 2 34 rfl rfl tG rfl (tQ 2 32 rfl (tQ 32 0 (rL u) rfl)) <| WL.ln (b.Data.length : Int) rfl tG (by omega) <| WL.run to 3 rfl ?_
   obtain ⟨a7, h, H⟩ := rE H
   refine WL.cut (fun l x => l 2 = .bool a7 ∧ Ctx w F D x F [r0 p ak, B, r0 r s]) ?_ ?_
   ·rcases rT h with ⟨Z, h⟩ | ⟨Z, h⟩
    ·refine WL.kn 65 (cb (decide_eq_true Z)) <| WL.run to 1 rfl <| WL.lvG m 2 1 rfl rfl rfl rfl u_3 rfl rfl <| WL.run to 1 rfl <| WL.lvG m 0 1 rfl rfl rfl rfl u_3 rfl rfl <| WL.run to 3 rfl ?_
     rcases rT h with ⟨aa, h⟩ | ⟨aa, h⟩
     ·refine WL.kn 72 (cb (decide_eq_true aa)) <| WL.run to 1 rfl <| WL.xC rfl rfl (Yl.xD (g := r) (off := 0) (o := 2) (cs := s) (us := b.Nonce.map (Value.int .u8)) rfl zC rfl (uY yL (rL u)) (Ctx.rO 2 m rfl) (zU 2 0 rfl (Ca rfl))) <| WL.run to 1 rfl <| WL.xC rfl rfl (Yl.xD (g := p) (off := 0) (o := 2) (cs := ak) (us := v.Nonce.map (Value.int .u8)) rfl zC rfl (uY yL (rL A)) (Ctx.rO 0 m rfl) (zU 2 0 rfl (Ca rfl))) <| WL.xC rfl rfl (Yl.KS (n := 2) (xs := b.Nonce.map (Value.int .u8)) (ys := v.Nonce.map (Value.int .u8)) rfl rfl Lc (EqV.Eb zC u_5 sz5 u A) (by decide)) <| WL.run to 2 rfl ?_
      rcases rT h with ⟨ab, h⟩ | ⟨ab, h⟩
      ·refine WL.kn 79 (cb (decide_eq_true ab)) <| WL.run to 1 rfl <| WL.lvG m 2 35 rfl rfl rfl rfl u_3 rfl (tQ 2 33 rfl (tQ 32 1 (rL u) rfl)) <| WL.run to 1 rfl <| WL.lvG m 0 35 rfl rfl rfl rfl u_3 rfl (tQ 2 33 rfl (tQ 32 1 (rL A) rfl)) <| WL.run to 3 rfl ?_
       rcases rT h with ⟨ac, h⟩ | ⟨ac, h⟩
       ·refine WL.kn 86 (cb (decide_eq_true ac)) <| WL.run to 1 rfl <| WL.lvG m 2 36 rfl rfl rfl rfl u_3 rfl (tQ 2 34 rfl (tQ 32 2 (rL u) rfl)) <| WL.run to 1 rfl <| WL.lvG m 0 36 rfl rfl rfl rfl u_3 rfl (tQ 2 34 rfl (tQ 32 2 (rL A) rfl)) <| WL.run to 3 rfl ?_
        rcases rT h with ⟨ad, h⟩ | ⟨ad, h⟩
        ·refine WL.kn 93 (cb (decide_eq_true ad)) <| WL.run to 1 rfl <| WL.lvG m 2 37 rfl rfl rfl rfl u_3 rfl (tQ 2 35 rfl (tQ 32 3 (rL u) rfl)) <| WL.run to 1 rfl <| WL.lvG m 0 37 rfl rfl rfl rfl u_3 rfl (tQ 2 35 rfl (tQ 32 3 (rL A) rfl)) <| WL.run to 3 rfl ?_
         cases h
         exact WL.done ⟨rfl, m⟩
        refine WL.kn 93 (cb (decide_eq_false ad)) <| WL.sN 5 93 true rfl rfl <| WL.run to 2 rfl ?_
        cases h
        exact WL.done ⟨rfl, m⟩
       refine WL.kn 86 (cb (decide_eq_false ac)) <| WL.sN 5 86 true rfl rfl <| WL.run to 2 rfl <| WL.sN 5 93 true rfl rfl <| WL.run to 2 rfl ?_
       cases h
       exact WL.done ⟨rfl, m⟩
      refine WL.kn 79 (cb (decide_eq_false ab)) <| WL.sN 5 79 true rfl rfl <| WL.run to 2 rfl <| WL.sN 5 86 true rfl rfl <| WL.run to 2 rfl <| WL.sN 5 93 true rfl rfl <| WL.run to 2 rfl ?_
      cases h
      exact WL.done ⟨rfl, m⟩
     refine WL.kn 72 (cb (decide_eq_false aa)) <| WL.sN 5 72 true rfl rfl <| WL.run to 2 rfl <| WL.sN 5 79 true rfl rfl <| WL.run to 2 rfl <| WL.sN 5 86 true rfl rfl <| WL.run to 2 rfl <| WL.sN 5 93 true rfl rfl <| WL.run to 2 rfl ?_
     cases h
     exact WL.done ⟨rfl, m⟩
    refine WL.kn 65 (cb (decide_eq_false Z)) <| WL.sN 5 65 true rfl rfl <| WL.run to 2 rfl <| WL.sN 5 72 true rfl rfl <| WL.run to 2 rfl <| WL.sN 5 79 true rfl rfl <| WL.run to 2 rfl <| WL.sN 5 86 true rfl rfl <| WL.run to 2 rfl ?_
    refine WL.sN 5 93 true rfl rfl <| WL.run to 2 rfl ?_
    cases h
    exact WL.done ⟨rfl, m⟩
   ·rintro l x ⟨aB, a1⟩
    apply kn l (.c aB .n)
    refine W.ret ?_
    have a2 : Cx [] := a1.pick [] rfl
    have a6 := Option.some.inj H
    subst a6
    exact rH (sE rfl rfl) ⟨rfl, a2⟩
def uK.l1 : Nat → bT → Int → Int → Option (Sum Unit Bool)
  | 0, _, _, _ => none
  | k + 1, b, d, a => if a < (b.Workers.length : Int) then (if 0 ≤ a ∧ a < (b.Workers.length : Int) then (if (b.Workers.getD a.toNat 0) = d then (some (Sum.inr true)) else (uK.l1 k b d (rB (a + 1)))) else none) else (some (Sum.inl ()))
def uK.f (k : Nat) (a : bT) (b : Int) : Option Bool := (uK.l1 k a b 0).bind fun d => vS d (fun _ => some false) (fun e => some e)
theorem uK.calls (k w F S L ad I y s t o A u p B x r E) (b : bT) (J : Int) (hp : Pre w F []) (aH : ad = b.Payload.length) (aF : b.Payload.length ≤ L) (aG : L ≤ maxLen) (aE : Sl KB F F S b.Payload) (ay : s = b.Workers.length) (ao : b.Workers.length ≤ y) (au : y ≤ maxLen) (X : Sl KI F F I b.Workers) (az : A = b.Indexes.length) (ap : b.Indexes.length ≤ o) (av : o ≤ maxLen) (ak : Sl KI F F t b.Indexes) (aA : B = b.rI.length) (aq : b.rI.length ≤ p) (aw : p ≤ maxLen) (al : Sl rA.K F F u b.rI) (aB : E = b.Value.length) (ar : b.Value.length ≤ r) (ax : r ≤ maxLen) (am : Sl KB F F x b.Value) (R : Bool) (H : uK.f k b J = some R) :
    Calls Tryz.prog 82 #[.agg (List.toArray (bT.q b S ad L I s y t A o u B p x E r)), iv J] w fun e w' => e = .returned (.bool R) ∧ Ctx w F (sR []) w' F [] := by
 have C := Ctx.start hp
 generalize hD : sR [] = D at C ⊢
 unfold uK.f at H
 refine Calls.ofW Tryz.func82 rfl (by simp [Tryz.ntmps82]) <| W.sr rfl ?_
 let M : LV := bT.q b S ad L I s y t A o u B p x E r
 obtain ⟨O, aI, ac, N⟩ := uR (P := Tryz.prog) 63 (.agg (List.toArray M)) M C rfl
 refine WL.val (ac _ _ _ rfl) <| WL.rd to 1 rfl <| W.seq <| W.sr rfl <| WL.run to 1 rfl <| WL.lv N 0 5 rfl rfl tM rfl rfl <| WL.ln (b.Workers.length : Int) rfl tM (by omega) <| WL.rd to 1 rfl ?_
 obtain ⟨Q, a, H⟩ := rE H
 refine W.vG (fun g G => Ctx w F D G F [r0 O M] ∧ Q = Sum.inl ()) ?_ ?_
 ·refine W.block <| W.loop (fun U g G => ∃ (h : Int), Kn g [(1, iv J), (8, .slice I s y), (9, iv (b.Workers.length : Int)), (10, iv h)] ∧ Ctx w F D G F [r0 O M] ∧ uK.l1 U b J h = some Q) k ⟨0, rfl, N, a⟩ ?_
  clear a
  rintro U g G ⟨h, Z, m, a⟩
  rcases U with _ | ai
  · exact absurd a (by simp [uK.l1])
  rw [uK.l1] at a
  apply ks g Z
  refine W.sr rfl <| WL.rd to 1 rfl <| W.seq ?_
  rcases rT a with ⟨j, a⟩ | ⟨j, a⟩
  ·refine W.cT j rfl <| W.skip <| W.seq <| W.block <| W.sr rfl ?_
   obtain ⟨an, a⟩ := rV a
   obtain ⟨aD, aC, V, Y⟩ := X (by omega)
   refine WL.val (Yl.rW (i := h) rfl rfl V tM sz3 (by omega)) ?_
   obtain ⟨aj, aa, ab⟩ := Y h.toNat _ (getD_some (d := 0) (by omega))
   obtain rfl := aa
   refine WL.val (Yl.load (v := iv (b.Workers.getD h.toNat 0)) rfl u_3 rfl (((m.fro)).cell (ab 0 _ rfl))) <| WL.rd to 1 rfl <| W.sr rfl <| WL.rd to 3 rfl ?_
   rcases rT a with ⟨l, a⟩ | ⟨l, a⟩
   ·refine W.cT l rfl <| W.sr rfl <| WL.rd to 1 rfl <| W.ret ?_
    iterate 6 first | refine uX ?_ | refine rS ?_
    cases a
    replace H := wB H
    have af : Cx [] := m.pick [] rfl
    have ah := Option.some.inj H
    subst ah
    exact rH (sE rfl rfl) ⟨rfl, af⟩
   refine W.cF l rfl <| W.skip <| tH <| W.region rfl ?_
   exact WL.rd to 2 rfl <| rF ⟨ai, Nat.lt_succ_self _, rB (h + 1), rfl, m, a⟩
  refine W.cF j rfl <| W.exit <| rM <| rM <| sL ?_
  cases a
  refine rF ?_
  exact ⟨m, rfl⟩
 ·rintro g G ⟨ae, rfl⟩
  replace H := wI H
  refine W.sr rfl <| WL.rd to 1 rfl <| W.ret ?_
  have ag : Cx [] := ae.pick [] rfl
  have T := Option.some.inj H
  subst T
  exact rH (sE rfl rfl) ⟨rfl, ag⟩
def uP.l1 : Nat → rK → bT → List (Int × Int) → Int → Option (Sum Unit Bool)
  | 0, _, _, _, _ => none
  | k + 1, e, b, d, a => if a < (b.Workers.length : Int) then (if 0 ≤ a ∧ a < (b.Workers.length : Int) then ((if ((xN d (b.Workers.getD a.toNat 0)).isSome) = true then (some (true)) else ((sV.f k (b.Workers.getD a.toNat 0) 0 (rB (e.Workers - 1))).bind fun h => if h = true then (if 0 ≤ a ∧ a < (b.Indexes.length : Int) then (if 0 ≤ e.Height then ((sV.f k (b.Indexes.getD a.toNat 0) 0 (rB ((vP .i64 1 e.Height) - 1))).bind fun i => some (!i)) else none) else none) else (some (true)))).bind fun g => if g = true then (some (Sum.inr false)) else (uP.l1 k e b (yY d (b.Workers.getD a.toNat 0) a) (rB (a + 1)))) else none) else (some (Sum.inl ()))
def uP.f (k : Nat) (a : rK) (b : bT) : Option Bool := ((wV.f k a).bind fun d => if (b.Workers.length : Int) = d then ((wV.f k a).bind fun e => some (!decide ((b.Indexes.length : Int) = e))) else (some true)).bind fun g => if g = true then (some false) else ((uP.l1 k a b ([] : List (Int × Int)) 0).bind fun h => vS h (fun _ => some true) (fun i => some i))
theorem uP.calls (k w F) (L : rK) (aZ aw bi ai Y Q V O X aj ae an ak af ao) (p : bT) (hp : Pre w F []) (bX : bi = p.Payload.length) (bV : p.Payload.length ≤ aw) (bW : aw ≤ maxLen) (bU : Sl KB F F aZ p.Payload) (bN : Q = p.Workers.length) (bE : p.Workers.length ≤ Y) (bJ : Y ≤ maxLen) (bb : Sl KI F F ai p.Workers) (bO : X = p.Indexes.length) (bG : p.Indexes.length ≤ O) (bK : O ≤ maxLen) (bc : Sl KI F F V p.Indexes) (bP : an = p.rI.length) (bH : p.rI.length ≤ ae) (bL : ae ≤ maxLen) (bC : Sl rA.K F F aj p.rI) (bQ : ao = p.Value.length) (bI : p.Value.length ≤ af) (bM : af ≤ maxLen) (bD : Sl KB F F ak p.Value) (aY : Bool) (H : uP.f k L p = some aY) :
    Calls Tryz.prog 75 #[.agg (List.toArray (rK.q L)), .agg (List.toArray (bT.q p aZ bi aw ai Q Y V X O aj an ae ak ao af))] w fun e w' => e = .returned (.bool aY) ∧ Ctx w F (sR []) w' F [] := by
 have C := Ctx.start hp
 generalize hD : sR [] = D at C ⊢
 unfold uP.f at H
 refine Calls.ofW Tryz.func75 rfl (by simp [Tryz.ntmps75]) <| W.sr rfl ?_
 let G : LV := rK.q L
 obtain ⟨u, bY, bg, bk⟩ := uR (P := Tryz.prog) 42 (.agg (List.toArray G)) G C rfl
 refine WL.val (bg _ _ _ rfl) ?_
 let J : LV := bT.q p aZ bi aw ai Q Y V X O aj an ae ak ao af
 obtain ⟨y, bZ, bh, bl⟩ := uR (P := Tryz.prog) 63 (.agg (List.toArray J)) J bk rfl
 refine WL.val (bh _ _ _ rfl) <| WL.rd to 1 rfl <| W.seq <| W.seq ?_
 obtain ⟨br, E, H⟩ := rE H
 refine W.vG (fun j N => Kn j [(2, pt u), (3, pt y), (23, .bool br)] ∧ Ctx w F D N F [r0 y J, r0 u G]) ?_ ?_
 ·refine W.uF [([], r0 y J), ([11], r0 u G)] (by kernel_rfl) ?_
  have ac := Ctx.drewN bl 1
  refine WA.sZ [(0, none), (1, some 0), (2, none), (3, some 1)] ⟨(Ctx.rO 0 ac rfl), (Ctx.rO 1 ac rfl), trivial⟩ (by kernel_rfl) <| WT.run to 1 rfl <| WT.lv 5 rfl rfl rfl tM rfl rfl <| WT.val rfl (fun _ hC_ => Yl.Bw (A := ai) (l := Q) (q := Y) (n := (p.Workers.length : Int)) rfl tM (by omega)) ?_
  refine WT.val rfl (fun _ hC_ => Yl.xD (g := u) (off := 0) (o := 0) (cs := G) (us := G) rfl zZ rfl Ac (show Sub (r0 u G) _ from hC_) rfl) ?_
  refine WT.done ?_
  obtain ⟨bq, bd, E⟩ := rE E
  refine WA.up1 4 (by kernel_rfl) (Up.sI rfl (by kernel_rfl) rfl (wV.calls k _ F L ac.tX  bq bd) (ne.fr rfl rfl) ?_)
  rintro bB N ⟨rfl, bm⟩
  have x : Cx [r0 y J, r0 u G] := Ctx.wS ac bm
  refine ⟨_, rfl, ⟨(Ctx.rO 0 x rfl), (Ctx.rO 1 x rfl), trivial⟩, ?_⟩
  refine WA.sZ [(5, none), (6, none)] ⟨(Ctx.rO 0 x rfl), (Ctx.rO 1 x rfl), trivial⟩ (by kernel_rfl) <| WT.run to 2 rfl <| WT.done ?_
  rcases rT E with ⟨s, E⟩ | ⟨s, E⟩
  ·refine WA.sZ [(7, none), (8, some 0), (9, none), (10, some 1)] ⟨(Ctx.rO 0 x rfl), (Ctx.rO 1 x rfl), trivial⟩ (by kernel_rfl) <| WT.on rfl rfl (cb (wP s)) (fun _ hC_ => Yl.fieldAddr (i := 6) rfl xG rfl AX) ?_
   refine WT.on rfl rfl (cb (wP s)) (fun _ hC_ => Yl.Ad (g := y) (off := 0) (o := 6) (cs := J) (v := .slice V X O) rfl tM rfl (show Sub (r0 y J) _ from hC_) rfl) ?_
   refine WT.on rfl rfl (cb (wP s)) (fun _ hC_ => Yl.Bw (A := V) (l := X) (q := O) (n := (p.Indexes.length : Int)) rfl tM (by omega)) ?_
   refine WT.on rfl rfl (cb (wP s)) (fun _ hC_ => Yl.xD (g := u) (off := 0) (o := 0) (cs := G) (us := G) rfl zZ rfl Ac (show Sub (r0 u G) _ from hC_) rfl) ?_
   refine WT.done ?_
   obtain ⟨ah, be, E⟩ := rE E
   refine WA.up1 11 (by kernel_rfl) (Up.J2 (args := #[.agg (List.toArray G)]) rfl rfl (cb (wP s)) (by kernel_rfl) rfl (ne.fr rfl rfl) (wV.calls k _ F L x.tX  ah be) ?_)
   rintro bB N ⟨rfl, bn⟩
   have ad : Cx [r0 y J, r0 u G] := Ctx.wS x bn
   refine ⟨_, rfl, ⟨(Ctx.rO 0 ad rfl), trivial, trivial⟩, ?_⟩
   refine WA.sZ [(12, none), (13, none)] ⟨(Ctx.rO 0 ad rfl), (Ctx.rO 1 ad rfl), trivial⟩ (by kernel_rfl) <| WT.on rfl rfl (cb (wP s)) (fun _ hC_ => Yl.neq (m := (p.Indexes.length : Int)) (n := ah) (q := !decide ((p.Indexes.length : Int) = ah)) rfl rfl rfl) ?_
   refine WT.val rfl (fun _ hC_ => Yl.Jh (v := .bool (!decide ((p.Indexes.length : Int) = ah))) (cb (wP s)) rfl) ?_
   refine WT.done <| WA.done (by kernel_rfl) ?_
   cases E
   refine rF ?_
   exact ⟨rfl, ad⟩
  refine WA.sZ [(7, none), (8, none), (9, none), (10, none)] ⟨(Ctx.rO 0 x rfl), (Ctx.rO 1 x rfl), trivial⟩ (by kernel_rfl) <| WT.off rfl rfl (cb (wQ s)) <| WT.off rfl rfl (cb (wQ s)) <| WT.off rfl rfl (cb (wQ s)) <| WT.off rfl rfl (cb (wQ s)) <| WT.done <| WA.JI 11 (by kernel_rfl) rfl rfl (cb (wQ s)) rfl rfl ⟨(Ctx.rO 0 x rfl), trivial, trivial⟩ <| WA.sZ [(12, none), (13, none)] ⟨(Ctx.rO 0 x rfl), (Ctx.rO 1 x rfl), trivial⟩ (by kernel_rfl) <| WT.off rfl rfl (cb (wQ s)) ?_
  refine WT.val rfl (fun _ hC_ => Yl.Jf (v := .bool true) (cb (wQ s)) rfl) ?_
  refine WT.done <| WA.done (by kernel_rfl) ?_
  cases E
  refine rF ?_
  exact ⟨rfl, x⟩
 ·rintro j N ⟨bf, aX⟩
  apply ks j bf
  rcases rT H with ⟨Z, H⟩ | ⟨Z, H⟩
  ·refine W.uI (cb Z) <| W.sr rfl <| WL.rd to 1 rfl <| W.ret <| rS ?_
   have bo : Cx [] := aX.pick [] rfl
   have bp := Option.some.inj H
   subst bp
   exact rH (sE rfl rfl) ⟨rfl, bo⟩
  refine W.uD (cb (Bool.eq_false_iff.2 Z)) <| W.skip <| W.sr rfl ?_
  obtain ⟨a8, bj, bR, aU, al, az⟩ := Bp (P := Tryz.prog) (α := Int) (β := Int) (t := 139) (Value.int .i64) (Value.int .i64) aX
  refine WL.val (aU _ _) <| WL.rd to 1 rfl <| W.seq <| W.sr rfl <| WL.run to 1 rfl <| WL.lv al 1 5 rfl rfl tM rfl rfl <| WL.ln (p.Workers.length : Int) rfl tM (by omega) <| WL.rd to 1 rfl ?_
  obtain ⟨aq, b, H⟩ := rE H
  refine W.vG (fun j N => Ctx w F D N F [r0 y J, r0 u G] ∧ aq = Sum.inl ()) ?_ ?_
  ·refine W.block <| W.loop (fun ba j N => ∃ (I : List (Int × Int)) (a : Int), ∃ M ab, Kn j [(2, pt u), (3, pt y), (5, .map (some M)), (26, .slice ai Q Y), (27, iv (p.Workers.length : Int)), (28, iv a)] ∧ Ctx w F D N F [ab, r0 y J, r0 u G] ∧ Cl (Value.int .i64) (Value.int .i64) ab M I ∧ uP.l1 ba L p I a = some aq) k ⟨([] : List (Int × Int)), 0, a8, bj, rfl, al, az, b⟩ ?_
   clear b
   rintro ba j N ⟨I, a, M, ab, aG, B, ag, b⟩
   rcases ba with _ | aa
   · exact absurd b (by simp [uP.l1])
   rw [uP.l1] at b
   apply ks j aG
   refine W.sr rfl <| WL.rd to 1 rfl <| W.seq ?_
   rcases rT b with ⟨R, b⟩ | ⟨R, b⟩
   ·refine W.cT R rfl <| W.skip <| W.seq <| W.block <| W.sr rfl <| WL.run to 1 rfl ?_
    obtain ⟨bu, b⟩ := rV b
    obtain ⟨bz, bw, ax, aC⟩ := bb (by omega)
    refine WL.val (Yl.rW (i := a) rfl rfl ax tM sz3 (by omega)) ?_
    obtain ⟨bs, aQ, aS⟩ := aC a.toNat _ (getD_some (d := 0) (by omega))
    obtain rfl := aQ
    refine WL.val (Yl.load (v := iv (p.Workers.getD a.toNat 0)) rfl u_3 rfl (((B.fro)).cell (aS 0 _ rfl))) <| WL.rd to 2 rfl <| W.sr rfl <| WL.run to 2 rfl <| WL.val (Yl.lookup (v := .tuple #[(iv ((xN I (p.Workers.getD a.toNat 0)).getD 0)), (.bool ((xN I (p.Workers.getD a.toNat 0)).isSome))]) ag (Ctx.rO 0 B rfl) FG u_3 rfl (D4 .i64) zr3 (p.Workers.getD a.toNat 0) rfl rfl (by cases (xN I (p.Workers.getD a.toNat 0)) <;> rfl)) <| WL.rd to 5 rfl <| W.seq <| W.seq <| W.tY (by kernel_rfl) (by kernel_rfl) rfl ?_
    refine WQ.run to 2 rfl ?_
    obtain ⟨a9, h, b⟩ := rE b
    refine WQ.cut (fun j => j 60 = .bool a9 ∧ j 2 = pt u ∧ j 3 = pt y ∧ j 5 = .map (some M) ∧ j 6 = iv a ∧ j 7 = iv (p.Workers.getD a.toNat 0) ∧ j 26 = .slice ai Q Y ∧ j 27 = iv (p.Workers.length : Int) ∧ j 28 = iv a) ?_ ?_
    ·rcases rT h with ⟨S, h⟩ | ⟨S, h⟩
     ·refine WQ.kn 40 (cb S) <| WQ.sN 6 40 false rfl rfl <| WQ.run to 2 rfl <| WQ.sN 11 48 false rfl rfl <| WQ.run to 1 rfl ?_
      cases h
      exact WQ.done ⟨rfl, rfl, rfl, rfl, rfl, rfl, rfl, rfl, rfl⟩
     refine WQ.kn 40 (cb (Bool.eq_false_iff.2 S)) <| WQ.run to 2 rfl <| WQ.lvG B 2 1 rfl rfl rfl rfl u_3 rfl rfl <| WQ.run to 1 rfl <| WQ.on rfl rfl ?_
     obtain ⟨au, aE, h⟩ := rE h
     refine WQ.call (v := .bool au) (f := 50) (args := #[iv (p.Workers.getD a.toNat 0), iv 0, iv (rB (L.Workers - 1))]) (fun _ hw => by obtain ⟨_, rfl⟩ := hw; exact (ne.fr rfl rfl)) (fun _ hw => by obtain ⟨ap, rfl⟩ := hw; exact (sV.calls aa _ F (p.Workers.getD a.toNat 0) 0 (rB (L.Workers - 1)) (B.drewN ap).tX  au aE).mono (fun _ _ ⟨he, m_, hm_⟩ => ⟨he, ap + m_, by rw [hm_, World.drewN_drewN]⟩)) ?_
     refine WQ.run to 3 rfl ?_
     rcases rT h with ⟨T, h⟩ | ⟨T, h⟩
     ·refine WQ.kn 48 (cb (zP T)) <| WQ.run to 1 rfl <| WQ.lvG B 1 6 rfl rfl rfl rfl tM rfl rfl <| WQ.run to 1 rfl ?_
      obtain ⟨bv, h⟩ := rV h
      obtain ⟨bA, bx, ay, aD⟩ := bc (by omega)
      refine WQ.vOn rfl rfl (fun _ => Yl.rW (i := a) rfl rfl ay tM sz3 (by omega)) ?_
      obtain ⟨bt, aR, aT⟩ := aD a.toNat _ (getD_some (d := 0) (by omega))
      obtain rfl := aR
      refine WQ.vOn rfl rfl (fun _ => Yl.load (v := iv (p.Indexes.getD a.toNat 0)) rfl u_3 rfl ((((B.drewN _).fro)).cell (aT 0 _ rfl))) ?_
      refine WQ.run to 1 rfl <| WQ.lvG B 2 2 rfl rfl rfl rfl u_3 rfl rfl ?_
      obtain ⟨aB, h⟩ := rV h
      refine WQ.vOn rfl rfl (fun _ => Yl.shl (m := 1) (n := L.Height) (r := vP .i64 1 L.Height) rfl rfl aB rfl) ?_
      refine WQ.run to 1 rfl <| WQ.on rfl rfl ?_
      obtain ⟨av, aF, h⟩ := rE h
      refine WQ.call (v := .bool av) (f := 50) (args := #[iv (p.Indexes.getD a.toNat 0), iv 0, iv (rB ((vP .i64 1 L.Height) - 1))]) (fun _ hw => by obtain ⟨_, rfl⟩ := hw; exact (ne.fr rfl rfl)) (fun _ hw => by obtain ⟨ap, rfl⟩ := hw; exact (sV.calls aa _ F (p.Indexes.getD a.toNat 0) 0 (rB ((vP .i64 1 L.Height) - 1)) (B.drewN ap).tX  av aF).mono (fun _ _ ⟨he, m_, hm_⟩ => ⟨he, ap + m_, by rw [hm_, World.drewN_drewN]⟩)) ?_
      refine WQ.run to 2 rfl ?_
      cases h
      exact WQ.done ⟨rfl, rfl, rfl, rfl, rfl, rfl, rfl, rfl, rfl⟩
     refine WQ.kn 48 (cb (zO T)) <| WQ.sN 11 48 false rfl rfl <| WQ.run to 1 rfl ?_
     cases h
     exact WQ.done ⟨rfl, rfl, rfl, rfl, rfl, rfl, rfl, rfl, rfl⟩
    ·rintro j ⟨aH, aI, aJ, aK, aL, aM, aN, aO, aP⟩
     intro aW
     have am := Ctx.drewN B aW
     apply kn j (.c aH (.c aI (.c aJ (.c aK (.c aL (.c aM (.c aN (.c aO (.c aP .n)))))))))
     rcases rT b with ⟨U, b⟩ | ⟨U, b⟩
     ·refine W.uI (cb U) <| W.sr rfl <| WL.rd to 1 rfl <| W.ret ?_
      iterate 7 first | refine uX ?_ | refine rS ?_
      cases b
      replace H := wB H
      have a1 : Cx [] := am.pick [] rfl
      have a6 := Option.some.inj H
      subst a6
      exact rH (sE rfl rfl) ⟨rfl, a1⟩
     refine W.uD (cb (Bool.eq_false_iff.2 U)) <| W.skip <| W.region rfl ?_
     refine WL.run to 3 rfl ?_
     obtain ⟨ar, bS, aV, a2, aA⟩ := zR (P := Tryz.prog) (ps1 := []) (ps2 := [r0 y J, r0 u G]) (p.Workers.getD a.toNat 0) a am ag FG u_3 rfl (D4 .i64)
     have a3 : Cx [ar, r0 y J, r0 u G] := a2
     refine WL.skip (aV _ _ _ _ _ rfl rfl rfl) <| WL.done <| tH <| W.region rfl ?_
     exact WL.rd to 2 rfl <| rF ⟨aa, Nat.lt_succ_self _, yY I (p.Workers.getD a.toNat 0) a, rB (a + 1), M, ar, rfl, a3, aA, b⟩
   refine W.cF R rfl <| W.exit <| rM <| rM <| sL ?_
   have a4 : Cx [r0 y J, r0 u G] := B.pick [1, 2] rfl
   cases b
   refine rF ?_
   exact ⟨a4, rfl⟩
  ·rintro j N ⟨a0, rfl⟩
   replace H := wI H
   refine W.sr rfl <| WL.rd to 1 rfl <| W.ret ?_
   have a5 : Cx [] := a0.pick [] rfl
   have a7 := Option.some.inj H
   subst a7
   exact rH (sE rfl rfl) ⟨rfl, a5⟩
def vA.l1 : Nat → bT → List rA → Int → Option (Sum (List rA) Bool)
  | 0, _, _, _ => none
  | k + 1, b, d, a => if a < (b.rI.length : Int) then (if 0 ≤ a ∧ a < (b.rI.length : Int) then ((uW.f k d (b.rI.getD a.toNat rA.z)).bind fun ⟨e, g⟩ => (if g = 0 then ((uK.f k b ((b.rI.getD a.toNat rA.z).Worker)).bind fun h => some (!h)) else (some true)).bind fun i => if i = true then (some (Sum.inr false)) else (vA.l1 k b e (rB (a + 1)))) else none) else (some (Sum.inl d))
def vA.f (k : Nat) (i : rK) (a : bT) : Option Bool := (vA.l1 k a ([] : List rA) 0).bind fun j => vS j (fun h => (uL.f k h i.Faulty).bind fun ⟨d, e⟩ => (if e = (decide (a.State = 3)) then ((xV.f k d a.Value).bind fun g => some (g)) else (some (false))).bind fun b => some b) (fun l => some l)
theorem vA.calls (k w F) (a0 : rK) (aY aI bt aZ aM az au ak aA U O X aj V al) (m : bT) (hp : Pre w F []) (ce : bt = m.Payload.length) (cc : m.Payload.length ≤ aI) (cd : aI ≤ maxLen) (ca : Sl KB F F aY m.Payload) (b0 : az = m.Workers.length) (bU : m.Workers.length ≤ aM) (bX : aM ≤ maxLen) (bR : Sl KI F F aZ m.Workers) (b1 : aA = m.Indexes.length) (bV : m.Indexes.length ≤ ak) (bY : ak ≤ maxLen) (bS : Sl KI F F au m.Indexes) (b2 : X = m.rI.length) (bW : m.rI.length ≤ O) (bZ : O ≤ maxLen) (aN : Sl rA.K F F U m.rI) (aR : al = m.Value.length) (aP : m.Value.length ≤ V) (aQ : V ≤ maxLen) (aO : Sl KB F F aj m.Value) (bv : Bool) (H : vA.f k a0 m = some bv) :
    Calls Tryz.prog 76 #[.agg (List.toArray (rK.q a0)), .agg (List.toArray (bT.q m aY bt aI aZ az aM au aA ak U X O aj al V))] w fun e w' => e = .returned (.bool bv) ∧ Ctx w F (sR []) w' F [] := by
 have C := Ctx.start hp
 generalize hD : sR [] = D at C ⊢
 unfold vA.f at H
 refine Calls.ofW Tryz.func76 rfl (by simp [Tryz.ntmps76]) <| W.sr rfl ?_
 let x : LV := rK.q a0
 obtain ⟨o, cm, b3, b9⟩ := uR (P := Tryz.prog) 42 (.agg (List.toArray x)) x C rfl
 refine WL.val (b3 _ _ _ rfl) ?_
 let y : LV := bT.q m aY bt aI aZ az aM au aA ak U X O aj al V
 obtain ⟨r, co, b4, bu⟩ := uR (P := Tryz.prog) 63 (.agg (List.toArray y)) y b9 rfl
 refine WL.val (b4 _ _ _ rfl) <| WL.rd to 1 rfl <| W.sr rfl <| WL.rd to 1 rfl <| W.seq <| W.sr rfl <| WL.run to 1 rfl <| WL.lv bu 0 7 rfl rfl wD rfl rfl <| WL.ln (m.rI.length : Int) rfl wD (by omega) ?_
 refine WL.rd to 1 rfl ?_
 obtain ⟨aV, a, H⟩ := rE H
 refine W.vG (fun h A => ∃ (T : List rA), ∃ E Y Z R B, Kn h [(2, pt o), (3, pt r), (5, .slice Y R Z)] ∧ Ctx w F D A E [B, r0 r y, r0 o x] ∧ CH.le F E ∧ oW rA.K E B Y R Z T (aV = Sum.inl T)) ?_ ?_
 ·refine W.block ?_
  have bw : Cx [CH.emp, r0 r y, r0 o x] := bu.pick [2, 0, 1] rfl
  refine W.loop (fun bQ h A => ∃ (I : List rA) (s : Int), ∃ N J Q G S, Kn h [(2, pt o), (3, pt r), (5, .slice J G Q), (13, .slice U X O), (14, iv (m.rI.length : Int)), (15, iv s)] ∧ Ctx w F D A N [S, r0 r y, r0 o x] ∧ CH.le F N ∧ oW rA.K N S J G Q I (vA.l1 bQ m I s = some aV)) k ⟨([] : List rA), 0, F, none, 0, 0, CH.emp, rfl, bw, (CH.le_refl _), rfl, (Row.nil _ _), a⟩ ?_
  clear a
  rintro bQ h A ⟨I, s, N, J, Q, G, S, bk, an, b, aw, av, a⟩
  rcases bQ with _ | ap
  · exact absurd a (by simp [vA.l1])
  rw [vA.l1] at a
  apply ks h bk
  refine W.sr rfl <| WL.rd to 1 rfl <| W.seq ?_
  rcases rT a with ⟨ad, a⟩ | ⟨ad, a⟩
  ·refine W.cT ad rfl <| W.skip <| W.seq <| W.block <| W.sr rfl ?_
   obtain ⟨cg, a⟩ := rV a
   obtain ⟨ci, ch, a1, a6⟩ := aN (by omega)
   refine WL.val (Yl.rW (i := s) rfl rfl a1 wD yM (by omega)) ?_
   obtain ⟨cf, bn, bo⟩ := a6 s.toNat _ (getD_some (d := rA.z) (by omega))
   obtain ⟨aC, aJ, aS, rfl, bg, bb, bd, a4⟩ := rA.open bn
   let aB : LV := [iv ((m.rI.getD s.toNat rA.z).Worker), .slice aC aS aJ]
   refine WL.val (Yl.wC (cs := aB) rfl Bq rfl yM (fun j u hu => by rw [vL]; exact ((an.fro.mono b)).cell (bo _ _ hu))) ?_
   obtain ⟨aa, ck, bp, bx⟩ := sU (P := Tryz.prog) (e := 96) [iv 0, .slice none 0 0] an CU rfl
   refine WL.val (bp _ _) <| WL.st bx 0 0 aB rfl rfl rfl rfl (Put.lit 0 rfl) (rR rfl) yM fun A (aF : Cx [r0 aa aB, S, r0 r y, r0 o x]) => ?_
   refine WL.done <| W.sr rfl <| WL.run to 1 rfl <| WL.la aF 0 rfl rfl Bq rfl yM ?_
   obtain ⟨bK, g, bq, (aG : Cx [r0 aa aB, r0 r y, r0 o x])⟩ := Ctx.fzI 1 aF rfl
   obtain ⟨bc, be, a5⟩ := Row.fz av g bq
   obtain ⟨⟨aW, b5⟩, a7, a⟩ := rE a
   refine WL.sI (uW.calls ap _ bK J Q G I aC aJ aS (m.rI.getD s.toNat rA.z) aG.tX aw bc be a5 bg bb bd (Sl.mono a4 (CH.le_trans b g) (CH.le_trans b g)) aW b5 a7) (ne.fr rfl rfl) ?_
   rintro cj A ⟨ao, aD, aK, aT, ai, rfl, l, bz, bh, a2⟩
   refine ⟨_, rfl, ?_⟩
   have L : Cx [ai, r0 aa aB, r0 r y, r0 o x] := Ctx.wS aG bz
   refine WL.rd to 5 rfl <| W.seq <| W.seq ?_
   obtain ⟨b8, v, a⟩ := rE a
   refine W.vG (fun h A => Kn h [(2, pt o), (3, pt r), (8, .slice aD aT aK), (13, .slice U X O), (14, iv (m.rI.length : Int)), (15, iv s), (33, .bool b8)] ∧ Ctx w F D A ao [ai, r0 aa aB, r0 r y, r0 o x]) ?_ ?_
   ·refine W.region rfl ?_
    refine WL.run to 3 rfl ?_
    rcases rT v with ⟨ae, v⟩ | ⟨ae, v⟩
    ·refine WL.kn 27 (cb (wP ae)) <| WL.laG L 2 rfl rfl rfl rfl xG rfl yN <| WL.run to 1 rfl <| WL.lvG L 1 0 rfl rfl rfl rfl u_3 rfl rfl <| WL.on rfl rfl ?_
     obtain ⟨b6, a8, v⟩ := rE v
     refine WL.c0 L (uK.calls ap _ ao aY aI bt aZ aM az au ak aA U O X aj V al m ((m.rI.getD s.toNat rA.z).Worker) L.tX ce cc cd (Sl.mono ca (CH.le_trans b (CH.le_trans g l)) (CH.le_trans b (CH.le_trans g l))) b0 bU bX (Sl.mono bR (CH.le_trans b (CH.le_trans g l)) (CH.le_trans b (CH.le_trans g l))) b1 bV bY (Sl.mono bS (CH.le_trans b (CH.le_trans g l)) (CH.le_trans b (CH.le_trans g l))) b2 bW bZ (Sl.mono aN (CH.le_trans b (CH.le_trans g l)) (CH.le_trans b (CH.le_trans g l))) aR aP aQ (Sl.mono aO (CH.le_trans b (CH.le_trans g l)) (CH.le_trans b (CH.le_trans g l))) b6 a8) (ne.fr rfl rfl) fun A bA => ?_
     refine WL.rd to 2 rfl ?_
     cases v
     refine rF ?_
     exact ⟨rfl, bA⟩
    refine WL.kn 27 (cb (wQ ae)) <| WL.sN 5 27 false rfl rfl <| WL.rd to 1 rfl ?_
    cases v
    refine rF ?_
    exact ⟨rfl, L⟩
   ·rintro h A ⟨bl, aH⟩
    apply ks h bl
    rcases rT a with ⟨af, a⟩ | ⟨af, a⟩
    ·refine W.uI (cb af) <| W.sr rfl <| WL.rd to 1 rfl <| W.ret ?_
     iterate 7 first | refine uX ?_ | refine rS ?_
     cases a
     replace H := wB H
     have bB : Cx [] := aH.pick [] rfl
     have bN := Option.some.inj H
     subst bN
     exact rH (sE rfl rfl) ⟨rfl, (Ctx.Ea bB (CH.le_refl _))⟩
    refine W.uD (cb (Bool.eq_false_iff.2 af)) <| W.skip <| W.region rfl ?_
    refine WL.rd to 2 rfl <| tH <| W.region rfl ?_
    refine WL.rd to 2 rfl ?_
    have bC : Cx [ai, r0 r y, r0 o x] := aH.pick [0, 2, 3] rfl
    exact rF ⟨ap, Nat.lt_succ_self _, aW, rB (s + 1), ao, aD, aK, aT, ai, rfl, bC, (CH.le_trans b (CH.le_trans g l)), bh, a2, a⟩
  refine W.cF ad rfl <| W.exit <| rM <| rM <| sL ?_
  cases a
  refine rF ?_
  exact ⟨I, N, J, Q, G, S, rfl, an, b, aw, av, rfl⟩
 ·rintro h A ⟨T, E, Y, Z, R, B, bj, am, ax, bf, ab, rfl⟩
  replace H := wI H
  apply ks h bj
  refine W.sr rfl <| WL.run to 2 rfl <| WL.lv am 2 0 rfl rfl u_3 rfl rfl ?_
  obtain ⟨bL, ay, br, (bD : Cx [r0 r y, r0 o x])⟩ := Ctx.fzI 0 am rfl
  obtain ⟨⟨ar, aX⟩, a9, H⟩ := rE H
  refine WL.sI (uL.calls k _ bL Y Z R T a0.Faulty (bD.pq 0) bf (Row.rP ab).1 (Row.rP ab).2.1 (Sl.mono (Row.sl ab) ay br) ar aX a9) (ne.fr rfl rfl) ?_
  rintro cj A ⟨aE, aL, aU, aq, rfl, bE, bi, a3⟩
  refine ⟨_, rfl, ?_⟩
  have ac : Row KB E aq (.slice aE aU aL) ar := a3
  have M : Cx [aq, B, r0 r y, r0 o x] := Ctx.cl 0 am ay bE
  refine WL.rd to 5 rfl <| W.sr rfl <| WL.run to 2 rfl <| WL.lv M 2 1 rfl rfl u_3 rfl rfl <| WL.run to 1 rfl <| WL.val (Yl.KO (p := aX) (q := decide (m.State = 3)) rfl rfl u_4) <| WL.run to 1 rfl ?_
  obtain ⟨bP, t, H⟩ := rE H
  refine WL.cut (fun h A => h 4 = .bool bP ∧ Ctx w F D A E [aq, B, r0 r y, r0 o x]) ?_ ?_
  ·rcases rT t with ⟨ag, t⟩ | ⟨ag, t⟩
   ·refine WL.kn 48 (cb (decide_eq_true ag)) <| WL.run to 2 rfl <| WL.lvG M 2 8 rfl rfl rfl rfl tG rfl rfl <| WL.on rfl rfl ?_
    obtain ⟨bM, ah, bs, (bG : Cx [B, r0 r y, r0 o x])⟩ := Ctx.fzI 0 M rfl
    obtain ⟨b7, ba, t⟩ := rE t
    refine WL.cq M (xV.calls k _ bM aE aL aU ar aj V al m.Value bG.tX bi (Row.rP ac).1 (Row.rP ac).2.1 (Sl.mono (Row.sl ac) ah bs) aR aP aQ (Sl.mono aO (CH.le_trans ax ah) (CH.le_trans ax ah)) b7 ba) (ne.fr rfl rfl) fun A bH => ?_
    refine WL.run to 2 rfl ?_
    cases t
    exact WL.done ⟨rfl, bH⟩
   refine WL.kn 48 (cb (decide_eq_false ag)) <| WL.sN 4 48 true rfl rfl <| WL.run to 2 rfl ?_
   cases t
   exact WL.done ⟨rfl, M⟩
  ·rintro h A ⟨bm, bI⟩
   apply kn h (.c bm .n)
   refine W.ret ?_
   have bJ : Cx [] := bI.pick [] rfl
   have bO := Option.some.inj H
   subst bO
   exact rH (sE rfl rfl) ⟨rfl, (Ctx.Ea bJ (CH.le_refl _))⟩
def yK.f (k : Nat) (j : rK) (p : bF) (a : bT) : Option Bool := (if (a.Payload.length : Int) > 64 then (some (true)) else ((sV.f k a.Attempt 0 1099511627776).bind fun o => some (!o))).bind fun l => if l = true then (some false) else (if a.State = 1 then ((if a.Epoch = 0 then (if a.Until = 0 then (some (decide ((rB ((rB ((rB ((a.Workers.length : Int) + (a.Indexes.length : Int))) + (a.rI.length : Int))) + (a.Value.length : Int))) = 0))) else (some (false))) else (some (false))).bind fun m => some m) else ((if a.State = 2 then (some (decide (a.State = 2))) else (some (decide (a.State = 3)))).bind fun h => if h = true then ((uG.f k p a.Epoch).bind fun ⟨r, b⟩ => (if b = true then (if a.Attempt > 0 then ((sV.f k a.Until 1 1099511627776).bind fun d => if d = true then ((uP.f k j a).bind fun e => if e = true then ((vA.f k j a).bind fun g => some g) else (some false)) else (some false)) else (some false)) else (some false)).bind fun i => some i) else (some false)))
theorem yK.calls (k w F) (au : rK) (aS av a1 aT aw ap am X aq an Y ar) (j : bF) (Q x Z R y aa S A ab T B ac U E ad) (d : bT) (hp : Pre w F []) (bS : a1 = j.Eras.length) (bQ : j.Eras.length ≤ av) (bR : av ≤ maxLen) (bP : Sl sD.K F F aS j.Eras) (bm : ap = j.Jobs.length) (bg : j.Jobs.length ≤ aw) (bj : aw ≤ maxLen) (bc : Sl bT.K F F aT j.Jobs) (bn : aq = j.Used.length) (bh : j.Used.length ≤ X) (bk : X ≤ maxLen) (bd : Sl KI F F am j.Used) (bo : ar = j.Barred.length) (bi : j.Barred.length ≤ Y) (bl : Y ≤ maxLen) (be : Sl Kd.bool F F an j.Barred) (aN : Z = d.Payload.length) (aD : d.Payload.length ≤ x) (aI : x ≤ maxLen) (ay : Sl KB F F Q d.Payload) (aO : aa = d.Workers.length) (aE : d.Workers.length ≤ y) (aJ : y ≤ maxLen) (az : Sl KI F F R d.Workers) (aP : ab = d.Indexes.length) (aF : d.Indexes.length ≤ A) (aK : A ≤ maxLen) (aA : Sl KI F F S d.Indexes) (aQ : ac = d.rI.length) (aG : d.rI.length ≤ B) (aL : B ≤ maxLen) (aB : Sl rA.K F F T d.rI) (aR : ad = d.Value.length) (aH : d.Value.length ≤ E) (aM : E ≤ maxLen) (aC : Sl KB F F U d.Value) (a2 : Bool) (H : yK.f k au j d = some a2) :
    Calls Tryz.prog 63 #[.agg (List.toArray (rK.q au)), .agg (List.toArray (bF.q j aS a1 av aT ap aw am aq X an ar Y)), .agg (List.toArray (bT.q d Q Z x R aa y S ab A T ac B U ad E))] w fun e w' => e = .returned (.bool a2) ∧ Ctx w F (sR []) w' F [] := by
 have C := Ctx.start hp
 generalize hD : sR [] = D at C ⊢
 unfold yK.f at H
 refine Calls.ofW Tryz.func63 rfl (by simp [Tryz.ntmps63]) <| W.sr rfl ?_
 let ae : LV := rK.q au
 obtain ⟨p, bW, bu, bE⟩ := uR (P := Tryz.prog) 42 (.agg (List.toArray ae)) ae C rfl
 refine WL.val (bu _ _ _ rfl) ?_
 let af : LV := bF.q j aS a1 av aT ap aw am aq X an ar Y
 obtain ⟨r, bX, bv, bG⟩ := uR (P := Tryz.prog) 50 (.agg (List.toArray af)) af bE rfl
 refine WL.val (bv _ _ _ rfl) ?_
 let ag : LV := bT.q d Q Z x R aa y S ab A T ac B U ad E
 obtain ⟨s, bY, bw, V⟩ := uR (P := Tryz.prog) 63 (.agg (List.toArray ag)) ag bG rfl
 refine WL.val (bw _ _ _ rfl) <| WL.rd to 1 rfl <| W.seq <| W.sr rfl <| WL.run to 1 rfl <| WL.lv V 0 0 rfl rfl tG rfl rfl <| WL.ln (d.Payload.length : Int) rfl tG (by omega) <| WL.run to 2 rfl ?_
 obtain ⟨bN, l, H⟩ := rE H
 refine WL.cut (fun b i => b 18 = .bool bN ∧ b 3 = pt p ∧ b 4 = pt r ∧ b 5 = pt s ∧ Ctx w F D i F [r0 s ag, r0 r af, r0 p ae]) ?_ ?_
 ·rcases rT l with ⟨ah, l⟩ | ⟨ah, l⟩
  ·refine WL.kn 13 (cb (decide_eq_true ah)) <| WL.sN 4 13 false rfl rfl <| WL.run to 1 rfl ?_
   cases l
   exact WL.done ⟨rfl, rfl, rfl, rfl, V⟩
  refine WL.kn 13 (cb (decide_eq_false ah)) <| WL.run to 1 rfl <| WL.lvG V 0 2 rfl rfl rfl rfl u_3 rfl rfl <| WL.on rfl rfl ?_
  obtain ⟨bU, bf, l⟩ := rE l
  refine WL.cq V (sV.calls k _ F d.Attempt 0 1099511627776 V.tX  bU bf) (ne.fr rfl rfl) fun i bH => ?_
  refine WL.run to 2 rfl ?_
  cases l
  exact WL.done ⟨rfl, rfl, rfl, rfl, bH⟩
 ·rintro b i ⟨bp, bq, br, bs, g⟩
  apply kn b (.c bp (.c bq (.c br (.c bs .n))))
  rcases rT H with ⟨ai, H⟩ | ⟨ai, H⟩
  ·refine W.uI (cb ai) <| W.sr rfl <| WL.rd to 1 rfl <| W.ret <| rS ?_
   have bI : Cx [] := g.pick [] rfl
   have bL := Option.some.inj H
   subst bL
   exact rH (sE rfl rfl) ⟨rfl, bI⟩
  refine W.uD (cb (Bool.eq_false_iff.2 ai)) <| W.skip <| W.seq <| W.sr rfl <| WL.run to 1 rfl <| WL.lv g 0 1 rfl rfl u_3 rfl rfl <| WL.done <| W.block <| W.sr rfl ?_
  refine WL.rd to 2 rfl ?_
  rcases rT H with ⟨aj, H⟩ | ⟨aj, H⟩
  ·refine W.cT aj rfl <| W.sr rfl <| WL.run to 1 rfl <| WL.lv g 0 3 rfl rfl u_3 rfl rfl <| WL.run to 2 rfl ?_
   obtain ⟨bO, h, H⟩ := rE H
   refine WL.cut (fun b i => b 6 = .bool bO ∧ Ctx w F D i F [r0 s ag, r0 r af, r0 p ae]) ?_ ?_
   ·rcases rT h with ⟨ak, h⟩ | ⟨ak, h⟩
    ·refine WL.kn 26 (cb (decide_eq_true ak)) <| WL.run to 1 rfl <| WL.lvG g 0 4 rfl rfl rfl rfl u_3 rfl rfl <| WL.run to 3 rfl ?_
     rcases rT h with ⟨al, h⟩ | ⟨al, h⟩
     ·refine WL.kn 31 (cb (decide_eq_true al)) <| WL.run to 1 rfl <| WL.lvG g 0 5 rfl rfl rfl rfl tM rfl rfl <| WL.lnG (d.Workers.length : Int) rfl rfl rfl tM (by omega) <| WL.run to 1 rfl <| WL.lvG g 0 6 rfl rfl rfl rfl tM rfl rfl <| WL.lnG (d.Indexes.length : Int) rfl rfl rfl tM (by omega) <| WL.run to 2 rfl <| WL.lvG g 0 7 rfl rfl rfl rfl wD rfl rfl ?_
      refine WL.lnG (d.rI.length : Int) rfl rfl rfl wD (by omega) <| WL.run to 2 rfl <| WL.lvG g 0 8 rfl rfl rfl rfl tG rfl rfl <| WL.lnG (d.Value.length : Int) rfl rfl rfl tG (by omega) <| WL.run to 4 rfl ?_
      cases h
      exact WL.done ⟨rfl, g⟩
     refine WL.kn 31 (cb (decide_eq_false al)) <| WL.sN 16 31 true rfl rfl <| WL.run to 2 rfl ?_
     cases h
     exact WL.done ⟨rfl, g⟩
    refine WL.kn 26 (cb (decide_eq_false ak)) <| WL.sN 3 26 true rfl rfl <| WL.run to 2 rfl <| WL.sN 16 31 true rfl rfl <| WL.run to 2 rfl ?_
    cases h
    exact WL.done ⟨rfl, g⟩
   ·rintro b i ⟨bt, bJ⟩
    apply kn b (.c bt .n)
    refine W.ret <| uX <| rS ?_
    have bK : Cx [] := bJ.pick [] rfl
    have bM := Option.some.inj H
    subst bM
    exact rH (sE rfl rfl) ⟨rfl, bK⟩
  refine W.cF aj rfl <| W.seq ?_
  obtain ⟨bC, m, H⟩ := rE H
  refine W.vG (fun b i => Kn b [(3, pt p), (4, pt r), (5, pt s), (49, .bool bC)] ∧ Ctx w F D i F [r0 s ag, r0 r af, r0 p ae]) ?_ ?_
  ·refine W.sr rfl <| WL.rd to 2 rfl ?_
   rcases rT m with ⟨G, m⟩ | ⟨G, m⟩
   ·refine W.cT G rfl <| W.skip ?_
    cases m
    refine rF ?_
    exact ⟨rfl, g⟩
   refine W.cF G rfl <| W.region rfl ?_
   refine WL.rd to 2 rfl ?_
   cases m
   refine rF ?_
   exact ⟨rfl, g⟩
  ·rintro b i ⟨aY, t⟩
   apply ks b aY
   rcases rT H with ⟨I, H⟩ | ⟨I, H⟩
   ·refine W.uI (cb I) <| W.sr rfl <| WL.la t 1 rfl rfl wJ rfl wM <| WL.run to 1 rfl <| WL.lv t 0 3 rfl rfl u_3 rfl rfl ?_
    obtain ⟨⟨O, bx⟩, aU, H⟩ := rE H
    refine WL.sI (uG.calls k _ F aS av a1 aT aw ap am X aq an Y ar j d.Epoch t.tX bS bQ bR bP bm bg bj bc bn bh bk bd bo bi bl be O bx aU) (ne.fr rfl rfl) ?_
    rintro bZ i ⟨rfl, a3, ao⟩
    refine ⟨_, rfl, ?_⟩
    have a4 : Cx [r0 s ag, r0 r af, r0 p ae] := Ctx.wS t a3
    refine WL.run to 3 rfl ?_
    obtain ⟨ax, bV, a0, a5⟩ := sU (P := Tryz.prog) (e := 23) ((List.replicate 32 (0 : Int)).map (Value.int .u8)) a4 D9 rfl
    refine WL.val (a0 _ _) <| WL.st a5 0 0 (O.map (Value.int .u8)) rfl rfl rfl rfl (Put.all 32 (rL (List.length_replicate ..)) (rL ao)) (wN _ _) (uY yL (rL ao)) fun i (o : Cx [r0 ax (O.map (Value.int .u8)), r0 s ag, r0 r af, r0 p ae]) => ?_
    refine WL.rd to 1 rfl <| W.seq ?_
    obtain ⟨bD, a, H⟩ := rE H
    refine W.vG (fun b i => b 6 = .bool bD ∧ Ctx w F D i F [r0 ax (O.map (Value.int .u8)), r0 s ag, r0 r af, r0 p ae]) ?_ ?_
    ·refine W.region rfl ?_
     refine WL.run to 2 rfl ?_
     rcases rT a with ⟨J, a⟩ | ⟨J, a⟩
     ·refine WL.kn 60 (cb J) <| WL.run to 1 rfl <| WL.lvG o 1 2 rfl rfl rfl rfl u_3 rfl rfl <| WL.run to 3 rfl ?_
      rcases rT a with ⟨L, a⟩ | ⟨L, a⟩
      ·refine WL.kn 65 (cb (decide_eq_true L)) <| WL.run to 1 rfl <| WL.lvG o 1 4 rfl rfl rfl rfl u_3 rfl rfl <| WL.on rfl rfl ?_
       obtain ⟨bz, aV, a⟩ := rE a
       refine WL.cq o (sV.calls k _ F d.Until 1 1099511627776 o.tX  bz aV) (ne.fr rfl rfl) fun i u => ?_
       refine WL.run to 2 rfl ?_
       rcases rT a with ⟨M, a⟩ | ⟨M, a⟩
       ·refine WL.kn 70 (cb M) <| WL.laG u 3 rfl rfl rfl rfl zZ rfl Ac <| WL.laG u 1 rfl rfl rfl rfl xG rfl yN <| WL.on rfl rfl ?_
        obtain ⟨bA, aW, a⟩ := rE a
        refine WL.c0 u (uP.calls k _ F au Q x Z R y aa S A ab T B ac U E ad d u.tX aN aD aI ay aO aE aJ az aP aF aK aA aQ aG aL aB aR aH aM aC bA aW) (ne.fr rfl rfl) fun i v => ?_
        refine WL.run to 2 rfl ?_
        rcases rT a with ⟨N, a⟩ | ⟨N, a⟩
        ·refine WL.kn 75 (cb N) <| WL.laG v 3 rfl rfl rfl rfl zZ rfl Ac <| WL.laG v 1 rfl rfl rfl rfl xG rfl yN <| WL.on rfl rfl ?_
         obtain ⟨bB, aX, a⟩ := rE a
         refine WL.c0 v (vA.calls k _ F au Q x Z R y aa S A ab T B ac U E ad d v.tX aN aD aI ay aO aE aJ az aP aF aK aA aQ aG aL aB aR aH aM aC bB aX) (ne.fr rfl rfl) fun i a7 => ?_
         refine WL.rd to 2 rfl ?_
         cases a
         refine rF ?_
         exact ⟨rfl, a7⟩
        refine WL.kn 75 (cb (Bool.eq_false_iff.2 N)) <| WL.sN 3 75 true rfl rfl <| WL.rd to 2 rfl ?_
        cases a
        refine rF ?_
        exact ⟨rfl, v⟩
       refine WL.kn 70 (cb (Bool.eq_false_iff.2 M)) <| WL.sN 3 70 true rfl rfl <| WL.run to 2 rfl <| WL.sN 3 75 true rfl rfl <| WL.rd to 2 rfl ?_
       cases a
       refine rF ?_
       exact ⟨rfl, u⟩
      refine WL.kn 65 (cb (decide_eq_false L)) <| WL.sN 3 65 true rfl rfl <| WL.run to 2 rfl <| WL.sN 3 70 true rfl rfl <| WL.run to 2 rfl <| WL.sN 3 75 true rfl rfl <| WL.rd to 2 rfl ?_
      cases a
      refine rF ?_
      exact ⟨rfl, o⟩
     refine WL.kn 60 (cb (Bool.eq_false_iff.2 J)) <| WL.sN 3 60 true rfl rfl <| WL.run to 2 rfl <| WL.sN 3 65 true rfl rfl <| WL.run to 2 rfl <| WL.sN 3 70 true rfl rfl <| WL.run to 2 rfl <| WL.sN 3 75 true rfl rfl <| WL.rd to 2 rfl ?_
     cases a
     refine rF ?_
     exact ⟨rfl, o⟩
    ·rintro b i ⟨aZ, a6⟩
     apply kn b (.c aZ .n)
     refine W.ret <| uX <| rS ?_
     have a8 : Cx [] := a6.pick [] rfl
     have ba := Option.some.inj H
     subst ba
     exact rH (sE rfl rfl) ⟨rfl, a8⟩
   refine W.uD (cb (Bool.eq_false_iff.2 I)) <| W.skip <| tH <| W.sr rfl <| WL.rd to 1 rfl <| W.ret ?_
   have a9 : Cx [] := t.pick [] rfl
   have bb := Option.some.inj H
   subst bb
   exact rH (sE rfl rfl) ⟨rfl, a9⟩
def sJ.l1 : Nat → rK → bF → Int → Option (Sum Unit Bool)
  | 0, _, _, _ => none
  | k + 1, d, b, a => if a < (b.Used.length : Int) then (if 0 ≤ a ∧ a < (b.Used.length : Int) then (if 0 ≤ d.Height then ((sV.f k (b.Used.getD a.toNat 0) 0 (vP .i64 1 d.Height)).bind fun e => if e = true then (sJ.l1 k d b (rB (a + 1))) else (some (Sum.inr false))) else none) else none) else (some (Sum.inl ()))
def sJ.l2 : Nat → bF → Int → Int → Option (Sum Unit Bool)
  | 0, _, _, _ => none
  | k + 1, b, e, a => if a < (b.Eras.length : Int) then (if 0 ≤ a ∧ a < (b.Eras.length : Int) then ((sV.f k ((b.Eras.getD a.toNat sD.z).Epoch) (rB (e + 1)) 1099511627776).bind fun d => if d = true then (sJ.l2 k b ((b.Eras.getD a.toNat sD.z).Epoch) (rB (a + 1))) else (some (Sum.inr false))) else none) else (some (Sum.inl ()))
def sJ.l3 : Nat → rK → bF → Int → Option (Sum Unit Bool)
  | 0, _, _, _ => none
  | k + 1, e, b, a => if a < (b.Jobs.length : Int) then (if 0 ≤ a ∧ a < (b.Jobs.length : Int) then ((yK.f k e b (b.Jobs.getD a.toNat bT.z)).bind fun d => if d = true then (sJ.l3 k e b (rB (a + 1))) else (some (Sum.inr false))) else none) else (some (Sum.inl ()))
def sJ.f (k : Nat) (b : rK) (a : bF) : Option Bool := (if (a.Used.length : Int) = b.Workers then (if (a.Barred.length : Int) = b.Workers then (if 0 ≤ b.Heads then ((sV.f k a.Heads 0 (vP .i64 1 b.Heads)).bind fun h => if h = true then (if (a.Eras.length : Int) > 256 then (some (true)) else (some (decide ((a.Jobs.length : Int) > b.Jobs)))) else (some (true))) else none) else (some (true))) else (some (true))).bind fun g => if g = true then (some false) else ((sJ.l1 k b a 0).bind fun d => vS d (fun _ => (sJ.l2 k a 0 0).bind fun d => vS d (fun _ => (sJ.l3 k b a 0).bind fun d => vS d (fun _ => some true) (fun e => some e)) (fun e => some e)) (fun e => some e))
theorem sJ.calls (k w F) (I : rK) (ar ak av au al T R O U ae S af) (p : bF) (hp : Pre w F []) (cy : av = p.Eras.length) (cw : p.Eras.length ≤ ak) (cx : ak ≤ maxLen) (bD : Sl sD.K F F ar p.Eras) (b7 : T = p.Jobs.length) (b1 : p.Jobs.length ≤ al) (b4 : al ≤ maxLen) (aK : Sl bT.K F F au p.Jobs) (b8 : U = p.Used.length) (b2 : p.Used.length ≤ O) (b5 : O ≤ maxLen) (aL : Sl KI F F R p.Used) (b9 : af = p.Barred.length) (b3 : p.Barred.length ≤ S) (b6 : S ≤ maxLen) (bY : Sl Kd.bool F F ae p.Barred) (bG : Bool) (H : sJ.f k I p = some bG) :
    Calls Tryz.prog 40 #[.agg (List.toArray (rK.q I)), .agg (List.toArray (bF.q p ar av ak au T al R U O ae af S))] w fun e w' => e = .returned (.bool bG) ∧ Ctx w F (sR []) w' F [] := by
 have C := Ctx.start hp
 generalize hD : sR [] = D at C ⊢
 unfold sJ.f at H
 refine Calls.ofW Tryz.func40 rfl (by simp [Tryz.ntmps40]) <| W.sr rfl ?_
 let J : LV := rK.q I
 obtain ⟨s, cR, cg, cr⟩ := uR (P := Tryz.prog) 42 (.agg (List.toArray J)) J C rfl
 refine WL.val (cg _ _ _ rfl) ?_
 let L : LV := bF.q p ar av ak au T al R U O ae af S
 obtain ⟨t, cS, ch, B⟩ := uR (P := Tryz.prog) 50 (.agg (List.toArray L)) L cr rfl
 refine WL.val (ch _ _ _ rfl) <| WL.rd to 1 rfl <| W.seq <| W.seq <| W.tY (by kernel_rfl) (by kernel_rfl) rfl ?_
 refine WQ.run to 1 rfl <| WQ.lv B 0 2 rfl rfl tM rfl rfl <| WQ.vl (fun _ => Yl.Bw (A := R) (l := U) (q := O) (n := (p.Used.length : Int)) rfl tM (by omega)) ?_
 refine WQ.run to 1 rfl <| WQ.lv B 1 1 rfl rfl u_3 rfl rfl <| WQ.run to 2 rfl ?_
 obtain ⟨cv, h, H⟩ := rE H
 refine WQ.cut (fun a => a 48 = .bool cv ∧ a 2 = pt s ∧ a 3 = pt t) ?_ ?_
 ·rcases rT h with ⟨am, h⟩ | ⟨am, h⟩
  ·refine WQ.kn 18 (cb (wP am)) <| WQ.run to 1 rfl <| WQ.lvG B 0 3 rfl rfl rfl rfl zH rfl rfl <| WQ.vOn rfl rfl (fun _ => Yl.Bw (A := ae) (l := af) (q := S) (n := (p.Barred.length : Int)) rfl zH (by omega)) ?_
   refine WQ.run to 1 rfl <| WQ.lvG B 1 1 rfl rfl rfl rfl u_3 rfl rfl <| WQ.run to 3 rfl ?_
   rcases rT h with ⟨an, h⟩ | ⟨an, h⟩
   ·refine WQ.kn 26 (cb (wP an)) <| WQ.run to 1 rfl <| WQ.lvG B 0 4 rfl rfl rfl rfl u_3 rfl rfl <| WQ.run to 1 rfl <| WQ.lvG B 1 6 rfl rfl rfl rfl u_3 rfl rfl ?_
    obtain ⟨bZ, h⟩ := rV h
    refine WQ.vOn rfl rfl (fun _ => Yl.shl (m := 1) (n := I.Heads) (r := vP .i64 1 I.Heads) rfl rfl bZ rfl) ?_
    refine WQ.on rfl rfl ?_
    obtain ⟨bH, b0, h⟩ := rE h
    refine WQ.call (v := .bool bH) (f := 50) (args := #[iv p.Heads, iv 0, iv (vP .i64 1 I.Heads)]) (fun _ hw => by obtain ⟨_, rfl⟩ := hw; exact (ne.fr rfl rfl)) (fun _ hw => by obtain ⟨cz, rfl⟩ := hw; exact (sV.calls k _ F p.Heads 0 (vP .i64 1 I.Heads) (B.drewN cz).tX  bH b0).mono (fun _ _ ⟨he, m_, hm_⟩ => ⟨he, cz + m_, by rw [hm_, World.drewN_drewN]⟩)) ?_
    refine WQ.run to 3 rfl ?_
    rcases rT h with ⟨ao, h⟩ | ⟨ao, h⟩
    ·refine WQ.kn 35 (cb (zP ao)) <| WQ.run to 1 rfl <| WQ.lvG B 0 0 rfl rfl rfl rfl wG rfl rfl <| WQ.vOn rfl rfl (fun _ => Yl.Bw (A := ar) (l := av) (q := ak) (n := (p.Eras.length : Int)) rfl wG (by omega)) ?_
     refine WQ.run to 3 rfl ?_
     rcases rT h with ⟨ap, h⟩ | ⟨ap, h⟩
     ·refine WQ.kn 41 (cb (decide_eq_true ap)) <| WQ.sN 6 41 false rfl rfl <| WQ.run to 1 rfl ?_
      cases h
      exact WQ.done ⟨rfl, rfl, rfl⟩
     refine WQ.kn 41 (cb (decide_eq_false ap)) <| WQ.run to 1 rfl <| WQ.lvG B 0 1 rfl rfl rfl rfl wY rfl rfl <| WQ.vOn rfl rfl (fun _ => Yl.Bw (A := au) (l := T) (q := al) (n := (p.Jobs.length : Int)) rfl wY (by omega)) ?_
     refine WQ.run to 1 rfl <| WQ.lvG B 1 4 rfl rfl rfl rfl u_3 rfl rfl <| WQ.run to 2 rfl ?_
     cases h
     exact WQ.done ⟨rfl, rfl, rfl⟩
    refine WQ.kn 35 (cb (zO ao)) <| WQ.sN 4 35 false rfl rfl <| WQ.run to 2 rfl <| WQ.sN 6 41 false rfl rfl <| WQ.run to 1 rfl ?_
    cases h
    exact WQ.done ⟨rfl, rfl, rfl⟩
   refine WQ.kn 26 (cb (wQ an)) <| WQ.sN 7 26 false rfl rfl <| WQ.run to 2 rfl <| WQ.sN 4 35 false rfl rfl <| WQ.run to 2 rfl <| WQ.sN 6 41 false rfl rfl <| WQ.run to 1 rfl ?_
   cases h
   exact WQ.done ⟨rfl, rfl, rfl⟩
  refine WQ.kn 18 (cb (wQ am)) <| WQ.sN 6 18 false rfl rfl <| WQ.run to 2 rfl <| WQ.sN 7 26 false rfl rfl <| WQ.run to 2 rfl <| WQ.sN 4 35 false rfl rfl <| WQ.run to 2 rfl <| WQ.sN 6 41 false rfl rfl <| WQ.run to 1 rfl ?_
  cases h
  exact WQ.done ⟨rfl, rfl, rfl⟩
 ·rintro a ⟨ca, cc, cd⟩
  intro ci
  have aE := Ctx.drewN B ci
  apply kn a (.c ca (.c cc (.c cd .n)))
  rcases rT H with ⟨aq, H⟩ | ⟨aq, H⟩
  ·refine W.uI (cb aq) <| W.sr rfl <| WL.rd to 1 rfl <| W.ret <| rS ?_
   have ct : Cx [] := aE.pick [] rfl
   have cu := Option.some.inj H
   subst cu
   exact rH (sE rfl rfl) ⟨rfl, ct⟩
  refine W.uD (cb (Bool.eq_false_iff.2 aq)) <| W.skip <| W.seq <| W.sr rfl <| WL.run to 1 rfl <| WL.lv aE 0 2 rfl rfl tM rfl rfl <| WL.ln (p.Used.length : Int) rfl tM (by omega) <| WL.rd to 1 rfl ?_
  obtain ⟨bE, o, H⟩ := rE H
  refine W.vG (fun a x => Kn a [(2, pt s), (3, pt t)] ∧ Ctx w F D x F [r0 t L, r0 s J] ∧ bE = Sum.inl ()) ?_ ?_
  ·refine W.block <| W.loop (fun Q a x => ∃ (E : Int), Kn a [(2, pt s), (3, pt t), (50, .slice R U O), (51, iv (p.Used.length : Int)), (52, iv E)] ∧ Ctx w F D x F [r0 t L, r0 s J] ∧ sJ.l1 Q I p E = some bE) k ⟨0, rfl, aE, o⟩ ?_
   clear o
   rintro Q a x ⟨E, cf, M, o⟩
   rcases Q with _ | aM
   · exact absurd o (by simp [sJ.l1])
   rw [sJ.l1] at o
   apply ks a cf
   refine W.sr rfl <| WL.rd to 1 rfl <| W.seq ?_
   rcases rT o with ⟨X, o⟩ | ⟨X, o⟩
   ·refine W.cT X rfl <| W.skip <| W.seq <| W.block <| W.sr rfl ?_
    obtain ⟨cD, o⟩ := rV o
    obtain ⟨cK, cH, aW, a5⟩ := aL (by omega)
    refine WL.val (Yl.rW (i := E) rfl rfl aW tM sz3 (by omega)) ?_
    obtain ⟨cA, bt, bw⟩ := a5 E.toNat _ (getD_some (d := 0) (by omega))
    obtain rfl := bt
    refine WL.val (Yl.load (v := iv (p.Used.getD E.toNat 0)) rfl u_3 rfl (((M.fro)).cell (bw 0 _ rfl))) <| WL.rd to 1 rfl <| W.sr rfl <| WL.run to 2 rfl <| WL.lv M 1 2 rfl rfl u_3 rfl rfl ?_
    obtain ⟨a4, o⟩ := rV o
    refine WL.val (Yl.shl (m := 1) (n := I.Height) (r := vP .i64 1 I.Height) rfl rfl a4 rfl) ?_
    obtain ⟨cm, a8, o⟩ := rE o
    refine WL.cq M (sV.calls aM _ F (p.Used.getD E.toNat 0) 0 (vP .i64 1 I.Height) M.tX  cm a8) (ne.fr rfl rfl) fun x aB => ?_
    refine WL.rd to 1 rfl ?_
    rcases rT o with ⟨Y, o⟩ | ⟨Y, o⟩
    ·refine W.uD (cb (zP Y)) <| W.skip <| tH <| W.region rfl ?_
     exact WL.rd to 2 rfl <| rF ⟨aM, Nat.lt_succ_self _, rB (E + 1), rfl, aB, o⟩
    refine W.uI (cb (zO Y)) <| W.sr rfl <| WL.rd to 1 rfl <| W.ret ?_
    iterate 6 first | refine uX ?_ | refine rS ?_
    cases o
    replace H := wB H
    have bI : Cx [] := aB.pick [] rfl
    have bR := Option.some.inj H
    subst bR
    exact rH (sE rfl rfl) ⟨rfl, bI⟩
   refine W.cF X rfl <| W.exit <| rM <| rM <| sL ?_
   cases o
   refine rF ?_
   exact ⟨rfl, M, rfl⟩
  ·rintro a x ⟨ce, bC, rfl⟩
   replace H := wI H
   apply ks a ce
   refine W.sr rfl <| WL.rd to 1 rfl <| W.seq <| W.sr rfl <| WL.run to 1 rfl <| WL.lv bC 0 0 rfl rfl wG rfl rfl <| WL.ln (p.Eras.length : Int) rfl wG (by omega) <| WL.rd to 1 rfl ?_
   obtain ⟨aU, b, H⟩ := rE H
   refine W.vG (fun a x => Kn a [(2, pt s), (3, pt t)] ∧ Ctx w F D x F [r0 t L, r0 s J] ∧ aU = Sum.inl ()) ?_ ?_
   ·refine W.block <| W.loop (fun Q a x => ∃ (ad : Int) (y : Int), Kn a [(2, pt s), (3, pt t), (7, iv ad), (64, .slice ar av ak), (65, iv (p.Eras.length : Int)), (66, iv y)] ∧ Ctx w F D x F [r0 t L, r0 s J] ∧ sJ.l2 Q p ad y = some aU) k ⟨0, 0, rfl, bC, b⟩ ?_
    clear b
    rintro Q a x ⟨ad, y, br, ag, b⟩
    rcases Q with _ | aN
    · exact absurd b (by simp [sJ.l2])
    rw [sJ.l2] at b
    apply ks a br
    refine W.sr rfl <| WL.rd to 1 rfl <| W.seq ?_
    rcases rT b with ⟨Z, b⟩ | ⟨Z, b⟩
    ·refine W.cT Z rfl <| W.skip <| W.seq <| W.block <| W.sr rfl ?_
     obtain ⟨cE, b⟩ := rV b
     obtain ⟨cL, cI, aX, a6⟩ := bD (by omega)
     refine WL.val (Yl.rW (i := y) rfl rfl aX wG A6 (by omega)) ?_
     obtain ⟨cB, bu, bx⟩ := a6 y.toNat _ (getD_some (d := sD.z) (by omega))
     obtain ⟨rfl, V⟩ := sD.open bu
     let cj : LV := [iv ((p.Eras.getD y.toNat sD.z).Epoch)] ++ (((p.Eras.getD y.toNat sD.z).Nonce).map (Value.int .u8))
     refine WL.val (Yl.wC (cs := cj) rfl Dh rfl (uY A6 (tP rfl (rL V))) (fun j u hu => by rw [vL]; exact ((ag.fro)).cell (bx _ _ hu))) ?_
     let cN : LV := [iv 0] ++ ((List.replicate 32 (0 : Int)).map (Value.int .u8))
     obtain ⟨bW, cP, bA, bJ⟩ := sU (P := Tryz.prog) (e := 94) cN ag GX rfl
     refine WL.val (bA _ _) <| WL.st bJ 0 0 cj rfl rfl rfl rfl (Put.all 33 (tP rfl (rL (List.length_replicate ..))) (tP rfl (rL V))) (yB (rR rfl) (wN _ _)) (uY A6 (tP rfl (rL V))) fun x (ah : Cx [r0 bW cj, r0 t L, r0 s J]) => ?_
     refine WL.done <| W.seq <| W.sr rfl <| WL.run to 1 rfl <| WL.lv ah 0 0 rfl rfl u_3 rfl rfl <| WL.run to 2 rfl ?_
     obtain ⟨co, a9, b⟩ := rE b
     refine WL.cq ah (sV.calls aN _ F ((p.Eras.getD y.toNat sD.z).Epoch) (rB (ad + 1)) 1099511627776 ah.tX  co a9) (ne.fr rfl rfl) fun x ai => ?_
     refine WL.rd to 1 rfl ?_
     rcases rT b with ⟨aa, b⟩ | ⟨aa, b⟩
     ·refine W.uD (cb (zP aa)) <| W.skip <| W.region rfl ?_
      refine WL.run to 1 rfl <| WL.lv ai 0 0 rfl rfl u_3 rfl rfl <| WL.rd to 1 rfl <| tH <| W.region rfl ?_
      refine WL.rd to 2 rfl ?_
      have bK : Cx [r0 t L, r0 s J] := ai.pick [1, 2] rfl
      exact rF ⟨aN, Nat.lt_succ_self _, (p.Eras.getD y.toNat sD.z).Epoch, rB (y + 1), rfl, bK, b⟩
     refine W.uI (cb (zO aa)) <| W.sr rfl <| WL.rd to 1 rfl <| W.ret ?_
     iterate 7 first | refine uX ?_ | refine rS ?_
     cases b
     replace H := wB H
     have bL : Cx [] := ai.pick [] rfl
     have bS := Option.some.inj H
     subst bS
     exact rH (sE rfl rfl) ⟨rfl, bL⟩
    refine W.cF Z rfl <| W.exit <| rM <| rM <| sL ?_
    cases b
    refine rF ?_
    exact ⟨rfl, ag, rfl⟩
   ·rintro a x ⟨bq, aC, rfl⟩
    replace H := wI H
    apply ks a bq
    refine W.seq <| W.sr rfl <| WL.run to 1 rfl <| WL.lv aC 0 1 rfl rfl wY rfl rfl <| WL.ln (p.Jobs.length : Int) rfl wY (by omega) <| WL.rd to 1 rfl ?_
    obtain ⟨aV, g, H⟩ := rE H
    refine W.vG (fun a x => Ctx w F D x F [r0 t L, r0 s J] ∧ aV = Sum.inl ()) ?_ ?_
    ·refine W.block <| W.loop (fun Q a x => ∃ (G : Int), Kn a [(2, pt s), (3, pt t), (80, .slice au T al), (81, iv (p.Jobs.length : Int)), (82, iv G)] ∧ Ctx w F D x F [r0 t L, r0 s J] ∧ sJ.l3 Q I p G = some aV) k ⟨0, rfl, aC, g⟩ ?_
     clear g
     rintro Q a x ⟨G, bs, aj, g⟩
     rcases Q with _ | aO
     · exact absurd g (by simp [sJ.l3])
     rw [sJ.l3] at g
     apply ks a bs
     refine W.sr rfl <| WL.rd to 1 rfl <| W.seq ?_
     rcases rT g with ⟨ab, g⟩ | ⟨ab, g⟩
     ·refine W.cT ab rfl <| W.skip <| W.seq <| W.block <| W.sr rfl ?_
      obtain ⟨cG, g⟩ := rV g
      obtain ⟨cM, cJ, aY, a7⟩ := aK (by omega)
      refine WL.val (Yl.rW (i := G) rfl rfl aY wY yN (by omega)) ?_
      obtain ⟨cC, bv, bz⟩ := a7 G.toNat _ (getD_some (d := bT.z) (by omega))
      obtain ⟨aw, aF, aP, ax, aG, aQ, ay, aH, aR, az, aI, aS, aA, aJ, aT, rfl, bl, bb, bg, aZ, bm, bc, bh, a0, bn, bd, bi, a1, bo, be, bj, a2, bp, bf, bk, a3⟩ := bT.open bv
      let ck : LV := (bT.q (p.Jobs.getD G.toNat bT.z) aw aP aF ax aQ aG ay aR aH az aS aI aA aT aJ)
      refine WL.val (Yl.wC (cs := ck) rfl xG rfl yN (fun j u hu => by rw [vL]; exact ((aj.fro)).cell (bz _ _ hu))) ?_
      let cO : LV := [.slice none 0 0, iv 0, iv 0, iv 0, iv 0, .slice none 0 0, .slice none 0 0, .slice none 0 0, .slice none 0 0]
      obtain ⟨bX, cQ, bB, bN⟩ := sU (P := Tryz.prog) (e := 63) cO aj Cv rfl
      refine WL.val (bB _ _) <| WL.st bN 0 0 ck rfl rfl rfl rfl (Put.lit 0 rfl) (rR rfl) yN fun x (N : Cx [r0 bX ck, r0 t L, r0 s J]) => ?_
      refine WL.done <| W.sr rfl <| WL.la N 2 rfl rfl zZ rfl Ac <| WL.la N 1 rfl rfl wJ rfl wM <| WL.la N 0 rfl rfl xG rfl yN ?_
      obtain ⟨cp, ba, g⟩ := rE g
      refine WL.c0 N (yK.calls aO _ F I ar ak av au al T R O U ae S af p aw aF aP ax aG aQ ay aH aR az aI aS aA aJ aT (p.Jobs.getD G.toNat bT.z) N.tX cy cw cx bD b7 b1 b4 aK b8 b2 b5 aL b9 b3 b6 bY bl bb bg aZ bm bc bh a0 bn bd bi a1 bo be bj a2 bp bf bk a3 cp ba) (ne.fr rfl rfl) fun x aD => ?_
      refine WL.rd to 1 rfl ?_
      rcases rT g with ⟨ac, g⟩ | ⟨ac, g⟩
      ·refine W.uD (cb (zP ac)) <| W.skip <| tH <| W.region rfl ?_
       refine WL.rd to 2 rfl ?_
       have bO : Cx [r0 t L, r0 s J] := aD.pick [1, 2] rfl
       exact rF ⟨aO, Nat.lt_succ_self _, rB (G + 1), rfl, bO, g⟩
      refine W.uI (cb (zO ac)) <| W.sr rfl <| WL.rd to 1 rfl <| W.ret ?_
      iterate 6 first | refine uX ?_ | refine rS ?_
      cases g
      replace H := wB H
      have bP : Cx [] := aD.pick [] rfl
      have bU := Option.some.inj H
      subst bU
      exact rH (sE rfl rfl) ⟨rfl, bP⟩
     refine W.cF ab rfl <| W.exit <| rM <| rM <| sL ?_
     cases g
     refine rF ?_
     exact ⟨aj, rfl⟩
    ·rintro a x ⟨bM, rfl⟩
     replace H := wI H
     refine W.sr rfl <| WL.rd to 1 rfl <| W.ret ?_
     have bQ : Cx [] := bM.pick [] rfl
     have bV := Option.some.inj H
     subst bV
     exact rH (sE rfl rfl) ⟨rfl, bQ⟩
end Go.Proofs.YtobdpbnadjkhiaaGreat
