/- Functions of the program: each as a plain function of numbers and lists, and the proof that the program's own comes to it. Nothing is assumed but what each theorem says. -/
import Derived.Test.YtobdpbnadjkhiaaTGb
namespace Go.Proofs.Ytobdpbnadjkhiaa
open Go.RowKit Go.WG
set_option linter.unusedVariables false
set_option linter.unusedSimpArgs false
set_option maxRecDepth 100000
set_option maxHeartbeats 4000000
def docket_between.f (k : Nat) (a : Int) (b : Int) (d : Int) : Option Bool := some ((decide (a ≥ b)) && (decide (a ≤ d)))
theorem docket_between.calls (k w F) (a : Int) (g : Int) (h : Int) (hp : Pre w F [])  (j : Bool) (H : docket_between.f k a g h = some j) :
    Calls Try.prog 26 #[iv a, iv g, iv h] w fun e w' => e = .returned (.bool j) ∧ (∃ i, w' = w.drewN i) := by
 have C := Ctx.start hp
 generalize domL [] = D at C
 have m : ∃ i, w = w.drewN i := ⟨0, rfl⟩
 unfold docket_between.f at H
 refine Calls.ofW Try.func26 rfl (by simp [Try.ntmps26]) <| W.sr rfl <| WL.rd to 1 rfl <| W.sr rfl <| WL.run to 4 rfl <| WL.cut (fun d l => d 6 = .bool ((decide (a ≥ g)) && (decide (a ≤ h))) ∧ Ctx w F D l F [] ∧ (∃ i, l = w.drewN i)) ?_ ?_
 ·rcases Bool.eq_false_or_eq_true (decide (a ≥ g)) with b | b
  ·exact WL.kn 10 (congrArg Value.bool b) <| WL.run to 5 rfl <| WL.done ⟨(congrArg Value.bool (show (decide (a ≤ h)) = ((decide (a ≥ g)) && (decide (a ≤ h))) from by simp [b])), C, m⟩
  ·exact WL.kn 10 (congrArg Value.bool b) <| WL.offs 3 10 true rfl rfl <| WL.run to 2 rfl <| WL.done ⟨(congrArg Value.bool (show false = ((decide (a ≥ g)) && (decide (a ≤ h))) from by simp [b])), C, m⟩
 ·rintro d l ⟨p, s, o⟩
  apply kn d (.c p .n)
  refine W.ret ?_
  have r := Option.some.inj H
  subst r
  exact post_r (resE1 rfl rfl) ⟨rfl, o⟩
def docket_Check.l1 : Nat → TConfig → Int → Option (Sum Unit Int)
  | 0, _, _ => none
  | k + 1, a, b => if b < 7 then (if 0 ≤ b ∧ b < (7 : Int) then ((docket_between.f k (([[a.Faulty, 0, 2], [a.Workers, wi64 ((wi64 (2 * a.Faulty)) + 1), 8], [a.Height, 0, 6], [a.Heads, 0, 6], [a.Bits, 1, 256], [a.Jobs, 1, 64], [a.Term, 1, 10000]].getD b.toNat []).getD (0 : Int).toNat 0) (([[a.Faulty, 0, 2], [a.Workers, wi64 ((wi64 (2 * a.Faulty)) + 1), 8], [a.Height, 0, 6], [a.Heads, 0, 6], [a.Bits, 1, 256], [a.Jobs, 1, 64], [a.Term, 1, 10000]].getD b.toNat []).getD (1 : Int).toNat 0) (([[a.Faulty, 0, 2], [a.Workers, wi64 ((wi64 (2 * a.Faulty)) + 1), 8], [a.Height, 0, 6], [a.Heads, 0, 6], [a.Bits, 1, 256], [a.Jobs, 1, 64], [a.Term, 1, 10000]].getD b.toNat []).getD (2 : Int).toNat 0)).bind fun d => if d = true then (docket_Check.l1 k a (wi64 (b + 1))) else (some (Sum.inr 1))) else none) else (some (Sum.inl ()))
def docket_Check.f (k : Nat) (a : TConfig) : Option Int := (docket_Check.l1 k a 0).bind fun b => sumE b (fun _ => some 0) (fun d => some d)
theorem docket_Check.calls (k w F) (d : TConfig) (hp : Pre w F [])  (J : Int) (H : docket_Check.f k d = some J) :
    Calls Try.prog 12 #[.agg (List.toArray (TConfig.q d))] w fun e w' => e = .returned (iv J) ∧ Ctx w F (domL []) w' F [] := by
 have C := Ctx.start hp
 generalize hD : domL [] = D at C ⊢
 unfold docket_Check.f at H
 refine Calls.ofW Try.func12 rfl (by simp [Try.ntmps12]) <| W.sr rfl ?_
 let y : List Go.Value := TConfig.q d
 obtain ⟨A, ac, Z, r⟩ := ev_box (P := Try.prog) 23 (.agg (List.toArray y)) y C rfl
 refine WL.val (Z _ _ _ rfl) <| WL.rd to 1 rfl <| W.seq <| W.sr rfl <| WL.run to 1 rfl <| WL.lv r 0 0 rfl rfl Try.underlying3 rfl rfl <| WL.val (Yl.buildArr (vs := mkParts 0 (List.map (Value.int .i64) [d.Faulty, 0, 2])) (cs := List.toArray ([d.Faulty, 0, 2].map (Value.int .i64))) Try.underlying67 sz3 zr67 (partsB ((.cons rfl (.cons rfl (.cons rfl .nil))))) (fill_ints .i64 _ _ _ rfl rfl)) <| WL.run to 1 rfl <| WL.lv r 0 1 rfl rfl Try.underlying3 rfl rfl ?_
 refine WL.run to 1 rfl <| WL.lv r 0 0 rfl rfl Try.underlying3 rfl rfl <| WL.run to 2 rfl <| WL.val (Yl.buildArr (vs := mkParts 0 (List.map (Value.int .i64) [d.Workers, wi64 ((wi64 (2 * d.Faulty)) + 1), 8])) (cs := List.toArray ([d.Workers, wi64 ((wi64 (2 * d.Faulty)) + 1), 8].map (Value.int .i64))) Try.underlying67 sz3 zr67 (partsB ((.cons rfl (.cons rfl (.cons rfl .nil))))) (fill_ints .i64 _ _ _ rfl rfl)) <| WL.run to 1 rfl <| WL.lv r 0 2 rfl rfl Try.underlying3 rfl rfl <| WL.val (Yl.buildArr (vs := mkParts 0 (List.map (Value.int .i64) [d.Height, 0, 6])) (cs := List.toArray ([d.Height, 0, 6].map (Value.int .i64))) Try.underlying67 sz3 zr67 (partsB ((.cons rfl (.cons rfl (.cons rfl .nil))))) (fill_ints .i64 _ _ _ rfl rfl)) <| WL.run to 1 rfl <| WL.lv r 0 6 rfl rfl Try.underlying3 rfl rfl ?_
 refine WL.val (Yl.buildArr (vs := mkParts 0 (List.map (Value.int .i64) [d.Heads, 0, 6])) (cs := List.toArray ([d.Heads, 0, 6].map (Value.int .i64))) Try.underlying67 sz3 zr67 (partsB ((.cons rfl (.cons rfl (.cons rfl .nil))))) (fill_ints .i64 _ _ _ rfl rfl)) <| WL.run to 1 rfl <| WL.lv r 0 3 rfl rfl Try.underlying3 rfl rfl <| WL.val (Yl.buildArr (vs := mkParts 0 (List.map (Value.int .i64) [d.Bits, 1, 256])) (cs := List.toArray ([d.Bits, 1, 256].map (Value.int .i64))) Try.underlying67 sz3 zr67 (partsB ((.cons rfl (.cons rfl (.cons rfl .nil))))) (fill_ints .i64 _ _ _ rfl rfl)) <| WL.run to 1 rfl <| WL.lv r 0 4 rfl rfl Try.underlying3 rfl rfl <| WL.val (Yl.buildArr (vs := mkParts 0 (List.map (Value.int .i64) [d.Jobs, 1, 64])) (cs := List.toArray ([d.Jobs, 1, 64].map (Value.int .i64))) Try.underlying67 sz3 zr67 (partsB ((.cons rfl (.cons rfl (.cons rfl .nil))))) (fill_ints .i64 _ _ _ rfl rfl)) <| WL.run to 1 rfl <| WL.lv r 0 5 rfl rfl Try.underlying3 rfl rfl ?_
 refine WL.val (Yl.buildArr (vs := mkParts 0 (List.map (Value.int .i64) [d.Term, 1, 10000])) (cs := List.toArray ([d.Term, 1, 10000].map (Value.int .i64))) Try.underlying67 sz3 zr67 (partsB ((.cons rfl (.cons rfl (.cons rfl .nil))))) (fill_ints .i64 _ _ _ rfl rfl)) ?_
 have l : [[d.Faulty, 0, 2], [d.Workers, wi64 ((wi64 (2 * d.Faulty)) + 1), 8], [d.Height, 0, 6], [d.Heads, 0, 6], [d.Bits, 1, 256], [d.Jobs, 1, 64], [d.Term, 1, 10000]].length = 7 ∧ ∀ a_ ∈ [[d.Faulty, 0, 2], [d.Workers, wi64 ((wi64 (2 * d.Faulty)) + 1), 8], [d.Height, 0, 6], [d.Heads, 0, 6], [d.Bits, 1, 256], [d.Jobs, 1, 64], [d.Term, 1, 10000]], a_.length = 3 := ⟨rfl, by simp⟩
 refine WL.val (Yl.buildArr (vs := mkParts 0 (List.map (fun b => Value.agg (b.map (Value.int .i64)).toArray) [[d.Faulty, 0, 2], [d.Workers, wi64 ((wi64 (2 * d.Faulty)) + 1), 8], [d.Height, 0, 6], [d.Heads, 0, 6], [d.Bits, 1, 256], [d.Jobs, 1, 64], [d.Term, 1, 10000]])) (cs := List.toArray ([[d.Faulty, 0, 2], [d.Workers, wi64 ((wi64 (2 * d.Faulty)) + 1), 8], [d.Height, 0, 6], [d.Heads, 0, 6], [d.Bits, 1, 256], [d.Jobs, 1, 64], [d.Term, 1, 10000]].flatten.map (Value.int .i64))) Try.underlying68 sz67 zr68 (partsB ((.cons rfl (.cons rfl (.cons rfl (.cons rfl (.cons rfl (.cons rfl (.cons rfl .nil))))))))) (fill_arrs .i64 _ _ _ l.2 rfl rfl)) ?_
 refine WL.rd to 1 rfl ?_
 obtain ⟨I, h, H⟩ := bindE H
 refine W.cutM (fun p v => Ctx w F D v F [CH.row A 0 y] ∧ I = Sum.inl ()) ?_ ?_
 ·refine W.block <| W.loop (fun M p v => ∃ (m : Int), Kn p [(30, .agg (List.toArray ([[d.Faulty, 0, 2], [d.Workers, wi64 ((wi64 (2 * d.Faulty)) + 1), 8], [d.Height, 0, 6], [d.Heads, 0, 6], [d.Bits, 1, 256], [d.Jobs, 1, 64], [d.Term, 1, 10000]].flatten.map (Value.int .i64)))), (31, iv m)] ∧ Ctx w F D v F [CH.row A 0 y] ∧ docket_Check.l1 M d m = some I) k ⟨0, rfl, r, h⟩ ?_
  clear h
  rintro M p v ⟨m, O, B, h⟩
  rcases M with _ | G
  · exact absurd h (by simp [docket_Check.l1])
  rw [docket_Check.l1] at h
  apply ks p O
  refine W.sr rfl <| WL.rd to 1 rfl <| W.seq ?_
  rcases iteE h with ⟨t, h⟩ | ⟨t, h⟩
  ·refine W.cT t rfl <| W.skip <| W.seq <| W.block <| W.sr rfl ?_
   obtain ⟨j, h⟩ := guardE h
   refine WL.val (Yl.indexAgg2 (k' := .i64) (L := [[d.Faulty, 0, 2], [d.Workers, wi64 ((wi64 (2 * d.Faulty)) + 1), 8], [d.Height, 0, 6], [d.Heads, 0, 6], [d.Bits, 1, 256], [d.Jobs, 1, 64], [d.Term, 1, 10000]]) (i := m) rfl rfl Try.underlying68 Try.underlying67 rfl sz67 l j) ?_
   obtain ⟨x, ab, Q, S⟩ := ev_alloc (P := Try.prog) (e := 67) ((List.replicate 3 (0 : Int)).map (Value.int .i64)) B zr67 rfl
   refine WL.val (Q _ _) <| WL.st S 0 0 (([[d.Faulty, 0, 2], [d.Workers, wi64 ((wi64 (2 * d.Faulty)) + 1), 8], [d.Height, 0, 6], [d.Heads, 0, 6], [d.Bits, 1, 256], [d.Jobs, 1, 64], [d.Term, 1, 10000]].getD m.toNat []).map (Value.int .i64)) rfl rfl rfl rfl (Put.all 3 (len_map (List.length_replicate ..)) (len_map (flat_at l j))) (one_ints _ _) (sz_of sz67 (len_map (flat_at l j))) fun v (s : Cx [CH.row x 0 (([[d.Faulty, 0, 2], [d.Workers, wi64 ((wi64 (2 * d.Faulty)) + 1), 8], [d.Height, 0, 6], [d.Heads, 0, 6], [d.Bits, 1, 256], [d.Jobs, 1, 64], [d.Term, 1, 10000]].getD m.toNat []).map (Value.int .i64)), CH.row A 0 y]) => ?_
   refine WL.done <| W.sr rfl <| WL.val (Yl.arrAddr (i := 0) rfl rfl Try.underlying67 sz3 (show 0 ≤ (0 : Int) ∧ (0 : Int) < (3 : Int) from by decide)) <| WL.val (Yl.loadAr (k' := .i64) (g := x) (off := 0) (o := 0) (cs := ([[d.Faulty, 0, 2], [d.Workers, wi64 ((wi64 (2 * d.Faulty)) + 1), 8], [d.Height, 0, 6], [d.Heads, 0, 6], [d.Bits, 1, 256], [d.Jobs, 1, 64], [d.Term, 1, 10000]].getD m.toNat []).map (Value.int .i64)) (pre := []) (post := []) (a := [[d.Faulty, 0, 2], [d.Workers, wi64 ((wi64 (2 * d.Faulty)) + 1), 8], [d.Height, 0, 6], [d.Heads, 0, 6], [d.Bits, 1, 256], [d.Jobs, 1, 64], [d.Term, 1, 10000]].getD m.toNat []) (i := 0) rfl Try.underlying3 rfl (Ctx.subI 0 s rfl) (by first | (simp only [List.length_append, List.length_map, List.length_cons, List.length_nil, (flat_at l j)]; done) | simp [(flat_at l j)]) (by first | (simp only [List.length_append, List.length_map, List.length_cons, List.length_nil, (flat_at l j)]; done) | simp [(flat_at l j)]) (by have := (flat_at l j); have := (show 0 ≤ (0 : Int) ∧ (0 : Int) < (3 : Int) from by decide); omega)) <| WL.val (Yl.arrAddr (i := 1) rfl rfl Try.underlying67 sz3 (show 0 ≤ (1 : Int) ∧ (1 : Int) < (3 : Int) from by decide)) <| WL.val (Yl.loadAr (k' := .i64) (g := x) (off := 0) (o := 0) (cs := ([[d.Faulty, 0, 2], [d.Workers, wi64 ((wi64 (2 * d.Faulty)) + 1), 8], [d.Height, 0, 6], [d.Heads, 0, 6], [d.Bits, 1, 256], [d.Jobs, 1, 64], [d.Term, 1, 10000]].getD m.toNat []).map (Value.int .i64)) (pre := []) (post := []) (a := [[d.Faulty, 0, 2], [d.Workers, wi64 ((wi64 (2 * d.Faulty)) + 1), 8], [d.Height, 0, 6], [d.Heads, 0, 6], [d.Bits, 1, 256], [d.Jobs, 1, 64], [d.Term, 1, 10000]].getD m.toNat []) (i := 1) rfl Try.underlying3 rfl (Ctx.subI 0 s rfl) (by first | (simp only [List.length_append, List.length_map, List.length_cons, List.length_nil, (flat_at l j)]; done) | simp [(flat_at l j)]) (by first | (simp only [List.length_append, List.length_map, List.length_cons, List.length_nil, (flat_at l j)]; done) | simp [(flat_at l j)]) (by have := (flat_at l j); have := (show 0 ≤ (1 : Int) ∧ (1 : Int) < (3 : Int) from by decide); omega)) <| WL.val (Yl.arrAddr (i := 2) rfl rfl Try.underlying67 sz3 (show 0 ≤ (2 : Int) ∧ (2 : Int) < (3 : Int) from by decide)) <| WL.val (Yl.loadAr (k' := .i64) (g := x) (off := 0) (o := 0) (cs := ([[d.Faulty, 0, 2], [d.Workers, wi64 ((wi64 (2 * d.Faulty)) + 1), 8], [d.Height, 0, 6], [d.Heads, 0, 6], [d.Bits, 1, 256], [d.Jobs, 1, 64], [d.Term, 1, 10000]].getD m.toNat []).map (Value.int .i64)) (pre := []) (post := []) (a := [[d.Faulty, 0, 2], [d.Workers, wi64 ((wi64 (2 * d.Faulty)) + 1), 8], [d.Height, 0, 6], [d.Heads, 0, 6], [d.Bits, 1, 256], [d.Jobs, 1, 64], [d.Term, 1, 10000]].getD m.toNat []) (i := 2) rfl Try.underlying3 rfl (Ctx.subI 0 s rfl) (by first | (simp only [List.length_append, List.length_map, List.length_cons, List.length_nil, (flat_at l j)]; done) | simp [(flat_at l j)]) (by first | (simp only [List.length_append, List.length_map, List.length_cons, List.length_nil, (flat_at l j)]; done) | simp [(flat_at l j)]) (by have := (flat_at l j); have := (show 0 ≤ (2 : Int) ∧ (2 : Int) < (3 : Int) from by decide); omega)) ?_
   obtain ⟨aa, N, h⟩ := bindE h
   refine WL.cq s (docket_between.calls G _ F (([[d.Faulty, 0, 2], [d.Workers, wi64 ((wi64 (2 * d.Faulty)) + 1), 8], [d.Height, 0, 6], [d.Heads, 0, 6], [d.Bits, 1, 256], [d.Jobs, 1, 64], [d.Term, 1, 10000]].getD m.toNat []).getD (0 : Int).toNat 0) (([[d.Faulty, 0, 2], [d.Workers, wi64 ((wi64 (2 * d.Faulty)) + 1), 8], [d.Height, 0, 6], [d.Heads, 0, 6], [d.Bits, 1, 256], [d.Jobs, 1, 64], [d.Term, 1, 10000]].getD m.toNat []).getD (1 : Int).toNat 0) (([[d.Faulty, 0, 2], [d.Workers, wi64 ((wi64 (2 * d.Faulty)) + 1), 8], [d.Height, 0, 6], [d.Heads, 0, 6], [d.Bits, 1, 256], [d.Jobs, 1, 64], [d.Term, 1, 10000]].getD m.toNat []).getD (2 : Int).toNat 0) s.pre0  aa N) (ne.fr rfl rfl) fun v E => ?_
   refine WL.rd to 1 rfl ?_
   rcases iteE h with ⟨u, h⟩ | ⟨u, h⟩
   ·refine W.condF (congrArg Value.bool (nb_t u)) <| W.skip <| inB_n <| W.region rfl ?_
    refine WL.rd to 2 rfl ?_
    have T : Cx [CH.row A 0 y] := E.pick [1] rfl
    exact thenE_n ⟨G, Nat.lt_succ_self _, wi64 (m + 1), rfl, T, h⟩
   refine W.condT (congrArg Value.bool (nb_f u)) <| W.sr rfl <| WL.rd to 1 rfl <| W.ret ?_
   iterate 6 first | refine inB_r ?_ | refine thenE_r ?_
   cases h
   replace H := sumE_r H
   have U : Cx [] := E.pick [] rfl
   have X := Option.some.inj H
   subst X
   exact post_r (resE1 rfl rfl) ⟨rfl, U⟩
  refine W.cF t rfl <| W.exit <| thenE_x <| thenE_x <| inB_here ?_
  cases h
  refine thenE_n ?_
  exact ⟨B, rfl⟩
 ·rintro p v ⟨R, rfl⟩
  replace H := sumE_l H
  refine W.sr rfl <| WL.rd to 1 rfl <| W.ret ?_
  have V : Cx [] := R.pick [] rfl
  have Y := Option.some.inj H
  subst Y
  exact post_r (resE1 rfl rfl) ⟨rfl, V⟩
def docket_hands.f (k : Nat) (a : TConfig) : Option Int := some (wi64 ((wi64 (2 * a.Faulty)) + 1))
theorem docket_hands.calls (k w F) (b : TConfig) (hp : Pre w F [])  (a : Int) (H : docket_hands.f k b = some a) :
    Calls Try.prog 54 #[.agg (List.toArray (TConfig.q b))] w fun e w' => e = .returned (iv a) ∧ Ctx w F (domL []) w' F [] := by
 have C := Ctx.start hp
 generalize hD : domL [] = D at C ⊢
 unfold docket_hands.f at H
 refine Calls.ofW Try.func54 rfl (by simp [Try.ntmps54]) <| W.sr rfl ?_
 let h : List Go.Value := TConfig.q b
 obtain ⟨l, m, g, d⟩ := ev_box (P := Try.prog) 23 (.agg (List.toArray h)) h C rfl
 refine WL.val (g _ _ _ rfl) <| WL.rd to 1 rfl <| W.sr rfl <| WL.run to 1 rfl <| WL.lv d 0 0 rfl rfl Try.underlying3 rfl rfl <| WL.rd to 3 rfl <| W.ret ?_
 have i : Cx [] := d.pick [] rfl
 have j := Option.some.inj H
 subst j
 exact post_r (resE1 rfl rfl) ⟨rfl, i⟩
def docket_New.f (k : Nat) (a : TConfig) : Option (TState × Int) := (docket_Check.f k a).bind fun b => if b = 0 then (if 0 ≤ a.Workers ∧ a.Workers * 8 ≤ 140737488355328 then (if 0 ≤ a.Workers ∧ a.Workers * 1 ≤ 140737488355328 then (some ((⟨([] : List TEra), ([] : List TJob), (List.replicate a.Workers.toNat (0 : Int)), (List.replicate a.Workers.toNat (false : Bool)), 0⟩ : TState), 0)) else none) else none) else (some ((⟨([] : List TEra), ([] : List TJob), ([] : List Int), ([] : List Bool), 0⟩ : TState), b))
theorem docket_New.calls (k w F) (s : TConfig) (hp : Pre w F [])  (h : TState) (aD : Int) (H : docket_New.f k s = some (h, aD)) :
    Calls Try.prog 9 #[.agg (List.toArray (TConfig.q s))] w fun e w' => ∃ R aa I ag S ab J ah T ac L ai U ad M aj, e = .returned (.tuple #[(.agg (List.toArray (TState.q h R I aa S J ab T L ac U M ad))), (iv aD)]) ∧ Ctx w F (domL []) w' F [ag, ah, ai, aj] ∧ I = h.Eras.length ∧ Row TEra.K F ag (.slice R I aa) h.Eras ∧ J = h.Jobs.length ∧ Row TJob.K F ah (.slice S J ab) h.Jobs ∧ L = h.Used.length ∧ Row (Kd.int .i64) F ai (.slice T L ac) h.Used ∧ M = h.Barred.length ∧ Row Kd.bool F aj (.slice U M ad) h.Barred := by
 have C := Ctx.start hp
 generalize hD : domL [] = D at C ⊢
 unfold docket_New.f at H
 refine Calls.ofW Try.func9 rfl (by simp [Try.ntmps9]) <| W.sr rfl ?_
 let v : List Go.Value := TConfig.q s
 obtain ⟨B, bn, a9, bh⟩ := ev_box (P := Try.prog) 23 (.agg (List.toArray v)) v C rfl
 refine WL.val (a9 _ _ _ rfl) ?_
 let x : List Go.Value := [.slice none 0 0, .slice none 0 0, .slice none 0 0, .slice none 0 0, iv 0]
 obtain ⟨y, bo, ba, aM⟩ := ev_alloc (P := Try.prog) (e := 32) x bh zr32 rfl
 refine WL.val (ba _ _) <| WL.rd to 1 rfl <| W.seq <| W.sr rfl <| WL.la aM 1 rfl rfl Try.underlying23 rfl sz23 ?_
 obtain ⟨bb, a8, H⟩ := bindE H
 refine WL.c0 aM (docket_Check.calls k _ F s aM.pre0  bb a8) (ne.fr rfl rfl) fun Q aB => ?_
 refine WL.rd to 1 rfl <| W.sr rfl <| WL.rd to 2 rfl ?_
 rcases iteE H with ⟨E, H⟩ | ⟨E, H⟩
 ·refine W.nF E rfl <| W.skip <| W.seq <| W.regionA [([7], CH.row B 0 v)] (by kernel_rfl) ?_
  have aC := Ctx.drewN aB 1
  refine WA.takes [(0, none), (1, some 0), (3, none), (4, some 0)] ⟨(Ctx.subI 1 aC rfl), trivial⟩ (by kernel_rfl) <| WT.run to 1 rfl <| WT.lv 1 rfl rfl rfl Try.underlying3 rfl rfl <| WT.run to 1 rfl <| WT.lv 1 rfl rfl rfl Try.underlying3 rfl rfl <| WT.done ?_
  obtain ⟨aX, H⟩ := guardE H
  obtain ⟨aY, H⟩ := guardE H
  refine WA.par (fun L_ a Q => ∃ l p i b m r j d, Ctx w F D Q F [b, d, CH.row y 0 x, CH.row B 0 v] ∧ a 2 = .pointer (some ⟨y, 0, none⟩) ∧ a 3 = iv 0 ∧ a 12 = iv s.Workers ∧ a 15 = iv s.Workers ∧ cond (L_ 2) (a 13 = .slice l i p ∧ i = (List.replicate s.Workers.toNat (0 : Int)).length ∧ Row (Kd.int .i64) F b (.slice l i p) (List.replicate s.Workers.toNat (0 : Int))) (True) ∧ cond (L_ 5) (a 16 = .slice m j r ∧ j = (List.replicate s.Workers.toNat (false : Bool)).length ∧ Row Kd.bool F d (.slice m j r) (List.replicate s.Workers.toNat (false : Bool))) (True)) [(2, [], []), (5, [], [])] [0, 1, 3, 4] [0, 1, 2, 3, 4, 5] #[true, true, true, true, true, true, false, false, false] 3 2 (by kernel_rfl) ?_ (.cons ?_ (.cons ?_ .nil)) ?_
  ·have a5 := Ctx.emp aC
   have a6 := Ctx.emp a5
   exact ⟨none, 0, 0, CH.emp, none, 0, 0, CH.emp, a6, rfl, rfl, rfl, rfl, (iF rfl trivial), (iF rfl trivial)⟩
  ·intro L_ a Q hk_ hI_
   obtain ⟨bi, _⟩ := hk_
   obtain ⟨l, p, i, b, m, r, j, d, a7, a1, a2, G, au, bc, am⟩ := hI_
   obtain ⟨aE, aN, a3, ae, bk, aq, ay, V, ak⟩ := ev_make' (P := Try.prog) 3 (Kd.int .i64) a7 Try.underlying29 ti3 0 rfl (by decide) s.Workers aX
   refine UpI.val rfl rfl (ay _ _ _ _ _ _ G G) ⟨(Ctx.subI 4 V rfl), trivial⟩ ?_
   have aG : Cx [ae, d, CH.row y 0 x, CH.row B 0 v] := V.pick [0, 2, 3, 4] rfl
   exact ⟨aE, aN, a3, ae, m, r, j, d, aG, a1, a2, G, au, (iT rfl ⟨rfl, aq, ak⟩), am⟩
  ·intro L_ a Q hk_ hI_
   obtain ⟨bj, _⟩ := hk_
   obtain ⟨l, p, i, b, m, r, j, d, aH, av, aw, ax, u, an, bd⟩ := hI_
   obtain ⟨aF, aO, a4, af, bl, ar, az, X, al⟩ := ev_make' (P := Try.prog) 4 Kd.bool aH Try.underlying30 ti4 false rfl (by decide) s.Workers aY
   refine UpI.val rfl rfl (az _ _ _ _ _ _ u u) ⟨(Ctx.subI 4 X rfl), trivial⟩ ?_
   have aI : Cx [b, af, CH.row y 0 x, CH.row B 0 v] := X.pick [1, 0, 3, 4] rfl
   exact ⟨l, p, i, b, aF, aO, a4, af, aI, av, aw, ax, u, an, (iT rfl ⟨rfl, ar, al⟩)⟩
  ·rintro a Q ⟨l, p, i, b, m, r, j, d, Y, N, be, bf, bg, ao, ap⟩
   obtain ⟨aP, aZ, aV⟩ := cT rfl ao
   obtain ⟨aQ, a0, aW⟩ := cT rfl ap
   refine WA.takes [(6, none)] ⟨(Ctx.subI 3 Y rfl), trivial⟩ (by kernel_rfl) ?_
   let O : List Go.Value := [.slice none 0 0, .slice none 0 0, .slice l i p, .slice m j r, iv 0]
   refine WT.val rfl (fun _ hC_ => Yl.build (places := [(0, 1), (1, 1), (2, 1), (3, 1), (4, 1)]) (cs := List.toArray O) Try.underlying32 zr32 (pl32 _ Try.underlying32) (partsB (.cons (by exact aP) (.cons (by exact aQ) .nil))) rfl) ?_
   refine WT.done ?_
   obtain ⟨bm, aA, aJ⟩ := ev_setI (P := Try.prog) (ps1 := [b, d]) (ps2 := [CH.row B 0 v]) (t := 32) 0 O (.agg (List.toArray O)) Y rfl rfl (ones_of rfl) sz32
   have A : Cx [b, d, CH.row y 0 O, CH.row B 0 v] := aJ
   refine WA.up1 7 (by kernel_rfl) (Up.skip rfl rfl (aA _ _ _ _ N rfl) ⟨trivial, trivial⟩ ?_)
   refine WA.takes [(8, none)] ⟨(Ctx.subI 3 A rfl), trivial⟩ (by kernel_rfl) <| WT.run to 1 rfl <| WT.done <| WA.done (by kernel_rfl) <| W.ret ?_
   have aK : Cx [CH.emp, CH.emp, b, d] := A.pick [4, 4, 0, 1] rfl
   simp only [Option.some.injEq, Prod.mk.injEq] at H
   obtain ⟨aR, aS⟩ := H
   subst aR aS
   exact post_r (resET rfl ((.cell N (run_loadVA2 (g := y) (off := 0) (o := 0) (cs := O) (us := O) Try.underlying32 rfl sz32 (Ctx.subI 2 A rfl) rfl) (.tmp rfl .nil))) rfl) ⟨none, 0, 0, CH.emp, none, 0, 0, CH.emp, l, p, i, b, m, r, j, d, rfl, aK, rfl, (Row.nil _ _), rfl, (Row.nil _ _), aZ, aV, a0, aW⟩
 refine W.nT E rfl <| W.sr rfl <| WL.val (Yl.build (places := [(0, 1), (1, 1), (2, 1), (3, 1), (4, 1)]) (cs := List.toArray x) Try.underlying32 zr32 (pl32 _ Try.underlying32) (partsB .nil) rfl) <| WL.run to 1 rfl <| WL.st aB 0 0 x rfl rfl rfl rfl (Put.lit 0 rfl) (ones_of rfl) sz32 fun Q (Z : Cx [CH.row y 0 x, CH.row B 0 v]) => ?_
 refine WL.rd to 1 rfl <| W.ret <| thenE_r ?_
 have aL : Cx [CH.emp, CH.emp, CH.emp, CH.emp] := Z.pick [2, 2, 2, 2] rfl
 simp only [Option.some.injEq, Prod.mk.injEq] at H
 obtain ⟨aT, aU⟩ := H
 subst aT aU
 exact post_r (resET rfl ((.cell rfl (run_loadVA2 (g := y) (off := 0) (o := 0) (cs := x) (us := x) Try.underlying32 rfl sz32 (Ctx.subI 0 Z rfl) rfl) (.tmp rfl .nil))) rfl) ⟨none, 0, 0, CH.emp, none, 0, 0, CH.emp, none, 0, 0, CH.emp, none, 0, 0, CH.emp, rfl, aL, rfl, (Row.nil _ _), rfl, (Row.nil _ _), rfl, (Row.nil _ _), rfl, (Row.nil _ _)⟩
def docket_Epoch.f (k : Nat) (a : TState) : Option Int := if (a.Eras.length : Int) > 0 then (if 0 ≤ (wi64 ((a.Eras.length : Int) - 1)) ∧ (wi64 ((a.Eras.length : Int) - 1)) < (a.Eras.length : Int) then (some ((a.Eras.getD (wi64 ((a.Eras.length : Int) - 1)).toNat TEra.z).Epoch)) else none) else (some 0)
theorem docket_Epoch.calls (k w F x s J y t o l h p m j r) (a : TState) (hp : Pre w F []) (an : J = a.Eras.length) (al : a.Eras.length ≤ s) (am : s ≤ maxLen) (Q : Sl TEra.K F F x a.Eras) (af : o = a.Jobs.length) (Z : a.Jobs.length ≤ t) (ac : t ≤ maxLen) (T : Sl TJob.K F F y a.Jobs) (ag : p = a.Used.length) (aa : a.Used.length ≤ h) (ad : h ≤ maxLen) (U : Sl (Kd.int .i64) F F l a.Used) (ah : r = a.Barred.length) (ab : a.Barred.length ≤ j) (ae : j ≤ maxLen) (V : Sl Kd.bool F F m a.Barred) (u : Int) (H : docket_Epoch.f k a = some u) :
    Calls Try.prog 19 #[.agg (List.toArray (TState.q a x J s y o t l p h m r j))] w fun e w' => e = .returned (iv u) ∧ Ctx w F (domL []) w' F [] := by
 have C := Ctx.start hp
 generalize hD : domL [] = D at C ⊢
 unfold docket_Epoch.f at H
 refine Calls.ofW Try.func19 rfl (by simp [Try.ntmps19]) <| W.sr rfl ?_
 let R : List Go.Value := TState.q a x J s y o t l p h m r j
 obtain ⟨ak, ao, I, b⟩ := ev_box (P := Try.prog) 32 (.agg (List.toArray R)) R C rfl
 refine WL.val (I _ _ _ rfl) <| WL.rd to 1 rfl <| W.seq <| W.sr rfl <| WL.run to 1 rfl <| WL.lv b 0 0 rfl rfl Try.underlying27 rfl rfl <| WL.ln (a.Eras.length : Int) rfl Try.underlying27 (by omega) <| WL.rd to 1 rfl <| W.sr rfl ?_
 refine WL.rd to 2 rfl ?_
 rcases iteE H with ⟨g, H⟩ | ⟨g, H⟩
 ·refine W.cT g rfl <| W.sr rfl <| WL.run to 1 rfl <| WL.lv b 0 0 rfl rfl Try.underlying27 rfl rfl <| WL.run to 2 rfl ?_
  obtain ⟨Y, H⟩ := guardE H
  obtain ⟨aj, ai, A, B⟩ := Q (by omega)
  refine WL.val (Yl.elemAddr (i := wi64 ((a.Eras.length : Int) - 1)) rfl rfl A Try.underlying27 sz65 (by omega)) <| WL.run to 1 rfl ?_
  obtain ⟨S, E, G⟩ := B (wi64 ((a.Eras.length : Int) - 1)).toNat _ (getD_some (d := TEra.z) (by omega))
  obtain ⟨rfl, X⟩ := TEra.open E
  refine WL.val (Yl.load (v := iv ((a.Eras.getD (wi64 ((a.Eras.length : Int) - 1)).toNat TEra.z).Epoch)) rfl Try.underlying3 rfl (((b.fro)).cell (G 0 _ rfl))) <| WL.rd to 1 rfl <| W.ret <| thenE_r ?_
  have L : Cx [] := b.pick [] rfl
  have N := Option.some.inj H
  subst N
  exact post_r (resE1 rfl rfl) ⟨rfl, L⟩
 refine W.cF g rfl <| W.skip <| W.sr rfl <| WL.rd to 1 rfl <| W.ret ?_
 have M : Cx [] := b.pick [] rfl
 have O := Option.some.inj H
 subst O
 exact post_r (resE1 rfl rfl) ⟨rfl, M⟩
def docket_Epoch_raw.f (k : Nat) (a : TState) : Option Int := if (a.Eras.length : Int) > 0 then (if 0 ≤ (wi64 ((a.Eras.length : Int) - 1)) ∧ (wi64 ((a.Eras.length : Int) - 1)) < (a.Eras.length : Int) then (some ((a.Eras.getD (wi64 ((a.Eras.length : Int) - 1)).toNat TEra.z).Epoch)) else none) else (some 0)
theorem docket_Epoch_raw.calls (k w F u h G I M p j m r l o s) (a : TState) (hp : Pre w F []) (ab : G = a.Eras.length) (Z : a.Eras.length ≤ h) (aa : h ≤ maxLen) (Q : Sl TEra.K F F u a.Eras) (t : Int) (H : docket_Epoch_raw.f k a = some t) :
    Calls Try.prog 19 #[.agg (List.toArray (TState.q a u G h I p M j r m l s o))] w fun e w' => e = .returned (iv t) ∧ Ctx w F (domL []) w' F [] := by
 have C := Ctx.start hp
 generalize hD : domL [] = D at C ⊢
 unfold docket_Epoch_raw.f at H
 refine Calls.ofW Try.func19 rfl (by simp [Try.ntmps19]) <| W.sr rfl ?_
 let R : List Go.Value := TState.q a u G h I p M j r m l s o
 obtain ⟨Y, ac, E, b⟩ := ev_box (P := Try.prog) 32 (.agg (List.toArray R)) R C rfl
 refine WL.val (E _ _ _ rfl) <| WL.rd to 1 rfl <| W.seq <| W.sr rfl <| WL.run to 1 rfl <| WL.lv b 0 0 rfl rfl Try.underlying27 rfl rfl <| WL.ln (a.Eras.length : Int) rfl Try.underlying27 (by omega) <| WL.rd to 1 rfl <| W.sr rfl ?_
 refine WL.rd to 2 rfl ?_
 rcases iteE H with ⟨g, H⟩ | ⟨g, H⟩
 ·refine W.cT g rfl <| W.sr rfl <| WL.run to 1 rfl <| WL.lv b 0 0 rfl rfl Try.underlying27 rfl rfl <| WL.run to 2 rfl ?_
  obtain ⟨U, H⟩ := guardE H
  obtain ⟨X, V, x, y⟩ := Q (by omega)
  refine WL.val (Yl.elemAddr (i := wi64 ((a.Eras.length : Int) - 1)) rfl rfl x Try.underlying27 sz65 (by omega)) <| WL.run to 1 rfl ?_
  obtain ⟨S, A, B⟩ := y (wi64 ((a.Eras.length : Int) - 1)).toNat _ (getD_some (d := TEra.z) (by omega))
  obtain ⟨rfl, T⟩ := TEra.open A
  refine WL.val (Yl.load (v := iv ((a.Eras.getD (wi64 ((a.Eras.length : Int) - 1)).toNat TEra.z).Epoch)) rfl Try.underlying3 rfl (((b.fro)).cell (B 0 _ rfl))) <| WL.rd to 1 rfl <| W.ret <| thenE_r ?_
  have J : Cx [] := b.pick [] rfl
  have N := Option.some.inj H
  subst N
  exact post_r (resE1 rfl rfl) ⟨rfl, J⟩
 refine W.cF g rfl <| W.skip <| W.sr rfl <| WL.rd to 1 rfl <| W.ret ?_
 have L : Cx [] := b.pick [] rfl
 have O := Option.some.inj H
 subst O
 exact post_r (resE1 rfl rfl) ⟨rfl, L⟩
def docket_Nonce.l1 : Nat → TState → Int → Int → Option (Sum Unit ((List Int) × Bool))
  | 0, _, _, _ => none
  | k + 1, b, d, a => if a < (b.Eras.length : Int) then (if 0 ≤ a ∧ a < (b.Eras.length : Int) then (if ((b.Eras.getD a.toNat TEra.z).Epoch) = d then (some (Sum.inr ((b.Eras.getD a.toNat TEra.z).Nonce, true))) else (docket_Nonce.l1 k b d (wi64 (a + 1)))) else none) else (some (Sum.inl ()))
def docket_Nonce.f (k : Nat) (a : TState) (b : Int) : Option ((List Int) × Bool) := (docket_Nonce.l1 k a b 0).bind fun d => sumE d (fun _ => some ((List.replicate 32 (0 : Int)), false)) (fun e => some e)
theorem docket_Nonce.calls (k w F U N ad ah X O G B Q I E R) (b : TState) (V : Int) (hp : Pre w F []) (aV : ad = b.Eras.length) (aT : b.Eras.length ≤ N) (aU : N ≤ maxLen) (aA : Sl TEra.K F F U b.Eras) (aO : O = b.Jobs.length) (aI : b.Jobs.length ≤ X) (aL : X ≤ maxLen) (aF : Sl TJob.K F F ah b.Jobs) (aP : Q = b.Used.length) (aJ : b.Used.length ≤ B) (aM : B ≤ maxLen) (aG : Sl (Kd.int .i64) F F G b.Used) (aQ : R = b.Barred.length) (aK : b.Barred.length ≤ E) (aN : E ≤ maxLen) (aH : Sl Kd.bool F F I b.Barred) (T : List Int) (ag : Bool) (H : docket_Nonce.f k b V = some (T, ag)) :
    Calls Try.prog 17 #[.agg (List.toArray (TState.q b U ad N ah O X G Q B I R E)), iv V] w fun e w' => e = .returned (.tuple #[(.agg (List.toArray (T.map (Value.int .u8)))), (.bool ag)]) ∧ Ctx w F (domL []) w' F [] ∧ T.length = 32 := by
 have C := Ctx.start hp
 generalize hD : domL [] = D at C ⊢
 unfold docket_Nonce.f at H
 refine Calls.ofW Try.func17 rfl (by simp [Try.ntmps17]) <| W.sr rfl ?_
 let x : List Go.Value := TState.q b U ad N ah O X G Q B I R E
 obtain ⟨r, aW, av, ay⟩ := ev_box (P := Try.prog) 32 (.agg (List.toArray x)) x C rfl
 refine WL.val (av _ _ _ rfl) ?_
 obtain ⟨m, aX, aw, ae⟩ := ev_alloc (P := Try.prog) (e := 43) ((List.replicate 32 (0 : Int)).map (Value.int .u8)) ay zr43 rfl
 refine WL.val (aw _ _) <| WL.rd to 1 rfl <| W.seq <| W.sr rfl <| WL.run to 1 rfl <| WL.lv ae 1 0 rfl rfl Try.underlying27 rfl rfl <| WL.ln (b.Eras.length : Int) rfl Try.underlying27 (by omega) <| WL.rd to 1 rfl ?_
 obtain ⟨af, a, H⟩ := bindE H
 refine W.cutM (fun p y => p 4 = .pointer (some ⟨m, 0, none⟩) ∧ Ctx w F D y F [CH.row m 0 ((List.replicate 32 (0 : Int)).map (Value.int .u8)), CH.row r 0 x] ∧ af = Sum.inl ()) ?_ ?_
 ·refine W.block <| W.loop (fun aq p y => ∃ (l : Int), Kn p [(1, iv V), (4, .pointer (some ⟨m, 0, none⟩)), (9, .slice U ad N), (10, iv (b.Eras.length : Int)), (11, iv l)] ∧ Ctx w F D y F [CH.row m 0 ((List.replicate 32 (0 : Int)).map (Value.int .u8)), CH.row r 0 x] ∧ docket_Nonce.l1 aq b V l = some af) k ⟨0, rfl, ae, a⟩ ?_
  clear a
  rintro aq p y ⟨l, au, M, a⟩
  rcases aq with _ | ax
  · exact absurd a (by simp [docket_Nonce.l1])
  rw [docket_Nonce.l1] at a
  apply ks p au
  refine W.sr rfl <| WL.rd to 1 rfl <| W.seq ?_
  rcases iteE a with ⟨t, a⟩ | ⟨t, a⟩
  ·refine W.cT t rfl <| W.skip <| W.seq <| W.block <| W.sr rfl ?_
   obtain ⟨aC, a⟩ := guardE a
   obtain ⟨aE, aD, Y, Z⟩ := aA (by omega)
   refine WL.val (Yl.elemAddr (i := l) rfl rfl Y Try.underlying27 sz65 (by omega)) ?_
   obtain ⟨aB, aa, ab⟩ := Z l.toNat _ (getD_some (d := TEra.z) (by omega))
   obtain ⟨rfl, h⟩ := TEra.open aa
   let S : List Go.Value := [iv ((b.Eras.getD l.toNat TEra.z).Epoch)] ++ (((b.Eras.getD l.toNat TEra.z).Nonce).map (Value.int .u8))
   refine WL.val (Yl.loadAgg (cs := S) rfl Try.underlying65 rfl (sz_of sz65 (len_app rfl (len_map h))) (fun j u hu => by rw [add_of]; exact ((M.fro)).cell (ab _ _ hu))) ?_
   let aR : List Go.Value := [iv 0] ++ ((List.replicate 32 (0 : Int)).map (Value.int .u8))
   obtain ⟨A, aS, ac, ai⟩ := ev_alloc (P := Try.prog) (e := 65) aR M zr65 rfl
   refine WL.val (ac _ _) <| WL.st ai 0 0 S rfl rfl rfl rfl (Put.all 33 (len_app rfl (len_map (List.length_replicate ..))) (len_app rfl (len_map h))) (ones_append (ones_of rfl) (one_ints _ _)) (sz_of sz65 (len_app rfl (len_map h))) fun y (s : Cx [CH.row A 0 S, CH.row m 0 ((List.replicate 32 (0 : Int)).map (Value.int .u8)), CH.row r 0 x]) => ?_
   refine WL.done <| W.sr rfl <| WL.run to 1 rfl <| WL.lv s 0 0 rfl rfl Try.underlying3 rfl rfl <| WL.rd to 2 rfl ?_
   rcases iteE a with ⟨v, a⟩ | ⟨v, a⟩
   ·refine W.cT v rfl <| W.sr rfl <| WL.run to 1 rfl <| WL.val (Yl.loadVA (g := A) (off := 0) (o := 1) (cs := S) (us := ((b.Eras.getD l.toNat TEra.z).Nonce).map (Value.int .u8)) rfl Try.underlying43 rfl (sz_of sz43 (len_map h)) (Ctx.subI 0 s rfl) (mid_skip 1 0 rfl (mid_all rfl))) <| WL.st s 1 0 (((b.Eras.getD l.toNat TEra.z).Nonce).map (Value.int .u8)) rfl rfl rfl rfl (Put.all 32 (len_map (List.length_replicate ..)) (len_map h)) (one_ints _ _) (sz_of sz43 (len_map h)) fun y (J : Cx [CH.row A 0 S, CH.row m 0 (((b.Eras.getD l.toNat TEra.z).Nonce).map (Value.int .u8)), CH.row r 0 x]) => ?_
    refine WL.rd to 1 rfl <| W.ret ?_
    iterate 6 first | refine inB_r ?_ | refine thenE_r ?_
    cases a
    replace H := sumE_r H
    have aj : Cx [] := J.pick [] rfl
    simp only [Option.some.injEq, Prod.mk.injEq] at H
    obtain ⟨am, an⟩ := H
    subst am an
    exact post_r (resET rfl ((.cell rfl (run_loadVA2 (g := m) (off := 0) (o := 0) (cs := ((b.Eras.getD l.toNat TEra.z).Nonce).map (Value.int .u8)) (us := ((b.Eras.getD l.toNat TEra.z).Nonce).map (Value.int .u8)) Try.underlying43 rfl (sz_of sz43 (len_map h)) (Ctx.subI 1 J rfl) (take_all _)) (.tmp rfl .nil))) rfl) ⟨rfl, aj, h⟩
   refine W.cF v rfl <| W.skip <| inB_n <| W.region rfl ?_
   refine WL.rd to 2 rfl ?_
   have ak : Cx [CH.row m 0 ((List.replicate 32 (0 : Int)).map (Value.int .u8)), CH.row r 0 x] := s.pick [1, 2] rfl
   exact thenE_n ⟨ax, Nat.lt_succ_self _, wi64 (l + 1), rfl, ak, a⟩
  refine W.cF t rfl <| W.exit <| thenE_x <| thenE_x <| inB_here ?_
  cases a
  refine thenE_n ?_
  exact ⟨rfl, M, rfl⟩
 ·rintro p y ⟨ar, az, rfl⟩
  replace H := sumE_l H
  apply kn p (.c ar .n)
  refine W.sr rfl <| WL.val (Yl.buildArr (cs := List.toArray ((List.replicate 32 (0 : Int)).map (Value.int .u8))) Try.underlying43 sz5 zr43 (partsB .nil) rfl) <| WL.st az 0 0 ((List.replicate 32 (0 : Int)).map (Value.int .u8)) rfl rfl rfl rfl (Put.all 32 (len_map (List.length_replicate ..)) (len_map (List.length_replicate ..))) (one_ints _ _) (sz_of sz43 (len_map (List.length_replicate ..))) fun y (L : Cx [CH.row m 0 ((List.replicate 32 (0 : Int)).map (Value.int .u8)), CH.row r 0 x]) => ?_
  refine WL.rd to 1 rfl <| W.ret ?_
  have al : Cx [] := L.pick [] rfl
  simp only [Option.some.injEq, Prod.mk.injEq] at H
  obtain ⟨ao, ap⟩ := H
  subst ao ap
  exact post_r (resET rfl ((.cell rfl (run_loadVA2 (g := m) (off := 0) (o := 0) (cs := (List.replicate 32 (0 : Int)).map (Value.int .u8)) (us := (List.replicate 32 (0 : Int)).map (Value.int .u8)) Try.underlying43 rfl (sz_of sz43 (len_map (List.length_replicate ..))) (Ctx.subI 0 L rfl) (take_all _)) (.tmp rfl .nil))) rfl) ⟨rfl, al, (List.length_replicate ..)⟩
def docket_may.l1 : Nat → TRecord → Int → Option (Sum Unit Bool)
  | 0, _, _ => none
  | k + 1, b, a => if a < 4 then (if 0 ≤ a ∧ a < (4 : Int) then ((docket_between.f k ([b.Epoch, b.Job, b.Time, b.By].getD a.toNat 0) 0 1099511627776).bind fun d => if d = true then (docket_may.l1 k b (wi64 (a + 1))) else (some (Sum.inr false))) else none) else (some (Sum.inl ()))
def docket_may.f (k : Nat) (a : TRecord) : Option Bool := (if a.Kind = 1 then (if a.Epoch < 1 then (some (Sum.inr false)) else (some (Sum.inl (0, (⟨a.Kind, a.Epoch, a.Nonce, ([] : List Int), 0, 0, 0⟩ : TRecord))))) else (if a.Kind = 2 then (some (Sum.inl (64, (⟨a.Kind, 0, (List.replicate 32 (0 : Int)), ([] : List Int), 0, 0, 0⟩ : TRecord)))) else ((if a.Kind = 3 then (some (decide (a.Kind = 3))) else (some (decide (a.Kind = 5)))).bind fun i => if i = true then (some (Sum.inl (0, (⟨a.Kind, 0, (List.replicate 32 (0 : Int)), ([] : List Int), a.Job, a.Time, 0⟩ : TRecord)))) else (if a.Kind = 4 then (some (Sum.inl (32, (⟨a.Kind, 0, (List.replicate 32 (0 : Int)), ([] : List Int), a.Job, 0, a.By⟩ : TRecord)))) else (if a.Kind = 6 then (some (Sum.inl (0, (⟨a.Kind, 0, (List.replicate 32 (0 : Int)), ([] : List Int), 0, 0, 0⟩ : TRecord)))) else (some (Sum.inr false))))))).bind fun e => sumE e (fun ⟨h, b⟩ => (docket_may.l1 k a 0).bind fun e => sumE e (fun _ => (if (a.Data.length : Int) ≤ h then (if a.Epoch = b.Epoch then (if a.Nonce = b.Nonce then (if a.Job = b.Job then (if a.Time = b.Time then (some (decide (a.By = b.By))) else (some (false))) else (some (false))) else (some (false))) else (some (false))) else (some (false))).bind fun d => some d) (fun g => some g)) (fun g => some g)
theorem docket_may.calls (k w F aK au bb) (b : TRecord) (hp : Pre w F []) (u : b.Nonce.length = 32) (bz : bb = b.Data.length) (bw : b.Data.length ≤ au) (bx : au ≤ maxLen) (bv : Sl (Kd.int .u8) F F aK b.Data) (aJ : Bool) (H : docket_may.f k b = some aJ) :
    Calls Try.prog 29 #[.agg (List.toArray ((TRecord.q b aK bb au)))] w fun e w' => e = .returned (.bool aJ) ∧ Ctx w F (domL []) w' F [] := by
 have C := Ctx.start hp
 generalize hD : domL [] = D at C ⊢
 unfold docket_may.f at H
 refine Calls.ofW Try.func29 rfl (by simp [Try.ntmps29]) <| W.sr rfl ?_
 let s : List Go.Value := TRecord.q b aK bb au
 obtain ⟨r, bA, a9, aI⟩ := ev_box (P := Try.prog) 46 (.agg (List.toArray s)) s C rfl
 refine WL.val (a9 _ _ _ rfl) <| WL.rd to 1 rfl <| W.sr rfl <| WL.run to 1 rfl <| WL.lv aI 0 0 rfl rfl Try.underlying3 rfl rfl ?_
 let al : List Go.Value := [iv b.Kind, iv 0] ++ ((List.replicate 32 (0 : Int)).map (Value.int .u8) ++ [.slice none 0 0, iv 0, iv 0, iv 0])
 refine WL.val (Yl.build (places := [(0, 1), (1, 1), (2, 32), (34, 1), (35, 1), (36, 1), (37, 1)]) (cs := List.toArray al) Try.underlying46 zr46 (pl46 _ Try.underlying46) (partsB (.cons rfl .nil)) (Fills.run (a := [iv 0, iv 0] ++ ((List.replicate 32 (0 : Int)).map (Value.int .u8) ++ [.slice none 0 0, iv 0, iv 0, iv 0])) (c := [iv b.Kind, iv 0] ++ ((List.replicate 32 (0 : Int)).map (Value.int .u8) ++ [.slice none 0 0, iv 0, iv 0, iv 0])) (.put (us := [iv b.Kind]) rfl rfl rfl (Put.left (Put.lit 0 rfl)) .nil))) ?_
 let bl : List Go.Value := [iv 0, iv 0] ++ ((List.replicate 32 (0 : Int)).map (Value.int .u8) ++ [.slice none 0 0, iv 0, iv 0, iv 0])
 obtain ⟨p, bB, ba, bf⟩ := ev_alloc (P := Try.prog) (e := 46) bl aI zr46 rfl
 refine WL.val (ba _ _) <| WL.st bf 0 0 al rfl rfl rfl rfl (Put.all 38 (len_app rfl (len_app (len_map (List.length_replicate ..)) rfl)) (len_app rfl (len_app (len_map (List.length_replicate ..)) rfl))) (ones_append (ones_of rfl) (ones_append (one_ints _ _) (ones_of rfl))) (sz_of sz46 (len_app rfl (len_app (len_map (List.length_replicate ..)) rfl))) fun x (ae : Cx [CH.row p 0 al, CH.row r 0 s]) => ?_
 refine WL.done <| W.sr rfl <| WL.rd to 1 rfl <| W.seq ?_
 obtain ⟨bc, d, H⟩ := bindE H
 refine W.cutM (fun l x => ∃ (J : Int) (v : TRecord), ∃ L N I B, Kn l [(1, .pointer (some ⟨r, 0, none⟩)), (3, .pointer (some ⟨p, 0, none⟩)), (4, iv J)] ∧ Ctx w F D x F [CH.row p 0 ((TRecord.q v L I N)), B, CH.row r 0 s] ∧ v.Nonce.length = 32 ∧ I = v.Data.length ∧ Row (Kd.int .u8) F B (.slice L I N) v.Data ∧ bc = Sum.inl (J, v)) ?_ ?_
 ·refine W.sr rfl <| WL.run to 1 rfl <| WL.lv ae 1 0 rfl rfl Try.underlying3 rfl rfl <| WL.done <| W.block <| W.sr rfl <| WL.rd to 2 rfl ?_
  rcases iteE d with ⟨O, d⟩ | ⟨O, d⟩
  ·refine W.cT O rfl <| W.seq <| W.regionA [([7], CH.row r 0 s)] (by kernel_rfl) ?_
   have am := Ctx.drewN ae 1
   refine WA.takes [(0, none), (1, some 0), (2, none), (3, some 0), (4, none)] ⟨(Ctx.subI 1 am rfl), trivial⟩ (by kernel_rfl) <| WT.run to 1 rfl <| WT.lv 1 rfl rfl rfl Try.underlying3 rfl rfl <| WT.run to 1 rfl <| WT.val rfl (fun _ hC_ => Yl.loadVA (g := r) (off := 0) (o := 2) (cs := s) (us := b.Nonce.map (Value.int .u8)) rfl Try.underlying43 rfl (sz_of sz43 (len_map u)) (show Sub (CH.row r 0 s) _ from hC_) (mid_skip 2 0 rfl (mid_here rfl))) ?_
   refine WT.run to 1 rfl <| WT.done ?_
   obtain ⟨bp, aC, aL⟩ := ev_put (P := Try.prog) (ps1 := []) (ps2 := [CH.row r 0 s]) (t := 3) [iv b.Epoch] (iv b.Epoch) am (Put.left (Put.lit 1 rfl)) rfl (ones_of rfl) sz3
   let bm : List Go.Value := [iv b.Kind, iv b.Epoch] ++ ((List.replicate 32 (0 : Int)).map (Value.int .u8) ++ [.slice none 0 0, iv 0, iv 0, iv 0])
   have af : Cx [CH.row p 0 bm, CH.row r 0 s] := aL
   refine WA.up1 5 (by kernel_rfl) (Up.skip rfl rfl (aC _ _ _ _ rfl rfl) ⟨(Ctx.subI 1 af rfl), trivial⟩ ?_)
   refine WA.takes [(6, none)] ⟨(Ctx.subI 1 af rfl), trivial⟩ (by kernel_rfl) <| WT.run to 1 rfl <| WT.done ?_
   obtain ⟨bq, aD, aM⟩ := ev_put (P := Try.prog) (ps1 := []) (ps2 := [CH.row r 0 s]) (t := 43) (b.Nonce.map (Value.int .u8)) (.agg (List.toArray (b.Nonce.map (Value.int .u8)))) af (Put.skip 2 0 rfl (Put.here 32 (len_map (List.length_replicate ..)) (len_map u))) rfl (one_ints _ _) (sz_of sz43 (len_map u))
   let bg : List Go.Value := [iv b.Kind, iv b.Epoch] ++ (b.Nonce.map (Value.int .u8) ++ [.slice none 0 0, iv 0, iv 0, iv 0])
   have ag : Cx [CH.row p 0 bg, CH.row r 0 s] := aM
   refine WA.up1 7 (by kernel_rfl) (Up.skip rfl rfl (aD _ _ _ _ rfl rfl) ⟨trivial, trivial⟩ ?_)
   refine WA.done (by kernel_rfl) <| W.sr rfl <| WL.run to 1 rfl <| WL.lv ag 1 1 rfl rfl Try.underlying3 rfl rfl <| WL.rd to 1 rfl ?_
   rcases iteE d with ⟨Q, d⟩ | ⟨Q, d⟩
   ·refine W.cT Q rfl <| W.sr rfl <| WL.rd to 1 rfl <| W.ret ?_
    iterate 3 first | refine inB_r ?_ | refine thenE_r ?_
    cases d
    replace H := sumE_r H
    have aN : Cx [] := ag.pick [] rfl
    have a3 := Option.some.inj H
    subst a3
    exact post_r (resE1 rfl rfl) ⟨rfl, aN⟩
   refine W.cF Q rfl <| W.skip <| inB_n ?_
   have aO : Cx [CH.row p 0 bg, CH.emp, CH.row r 0 s] := ag.pick [0, 2, 1] rfl
   cases d
   refine thenE_n ?_
   exact ⟨0, (⟨b.Kind, b.Epoch, b.Nonce, ([] : List Int), 0, 0, 0⟩ : TRecord), none, 0, 0, CH.emp, rfl, aO, u, rfl, (Row.nil _ _), rfl⟩
  refine W.cF O rfl <| W.sr rfl <| WL.rd to 2 rfl ?_
  rcases iteE d with ⟨R, d⟩ | ⟨R, d⟩
  ·refine W.cT R rfl <| W.region rfl ?_
   refine WL.rd to 1 rfl <| inB_n ?_
   have aP : Cx [CH.row p 0 al, CH.emp, CH.row r 0 s] := ae.pick [0, 2, 1] rfl
   cases d
   refine thenE_n ?_
   exact ⟨64, (⟨b.Kind, 0, (List.replicate 32 (0 : Int)), ([] : List Int), 0, 0, 0⟩ : TRecord), none, 0, 0, CH.emp, rfl, aP, (List.length_replicate ..), rfl, (Row.nil _ _), rfl⟩
  refine W.cF R rfl <| W.seq ?_
  obtain ⟨be, y, d⟩ := bindE d
  refine W.cutM (fun l x => Kn l [(1, .pointer (some ⟨r, 0, none⟩)), (3, .pointer (some ⟨p, 0, none⟩)), (4, iv 0), (11, iv b.Kind), (25, .bool be)] ∧ Ctx w F D x F [CH.row p 0 al, CH.row r 0 s]) ?_ ?_
  ·refine W.sr rfl <| WL.rd to 2 rfl ?_
   rcases iteE y with ⟨S, y⟩ | ⟨S, y⟩
   ·refine W.cT S rfl <| W.skip ?_
    cases y
    refine thenE_n ?_
    exact ⟨rfl, ae⟩
   refine W.cF S rfl <| W.region rfl ?_
   refine WL.rd to 2 rfl ?_
   cases y
   refine thenE_n ?_
   exact ⟨rfl, ae⟩
  ·rintro l x ⟨ay, M⟩
   apply ks l ay
   rcases iteE d with ⟨T, d⟩ | ⟨T, d⟩
   ·refine W.condT (congrArg Value.bool T) <| W.regionA [([7], CH.row r 0 s)] (by kernel_rfl) ?_
    have an := Ctx.drewN M 1
    refine WA.takes [(0, none), (1, some 0), (2, none), (3, some 0), (4, none)] ⟨(Ctx.subI 1 an rfl), trivial⟩ (by kernel_rfl) <| WT.run to 1 rfl <| WT.lv 35 rfl rfl rfl Try.underlying3 rfl (at_skip 2 33 rfl (at_skip 32 1 (len_map u) rfl)) <| WT.run to 1 rfl <| WT.lv 36 rfl rfl rfl Try.underlying3 rfl (at_skip 2 34 rfl (at_skip 32 2 (len_map u) rfl)) <| WT.run to 1 rfl <| WT.done ?_
    obtain ⟨br, aE, aQ⟩ := ev_put (P := Try.prog) (ps1 := []) (ps2 := [CH.row r 0 s]) (t := 3) [iv b.Job] (iv b.Job) an (Put.skip 2 33 rfl (Put.skip 32 1 (len_map (List.length_replicate ..)) (Put.lit 1 rfl))) rfl (ones_of rfl) sz3
    let bn : List Go.Value := [iv b.Kind, iv 0] ++ ((List.replicate 32 (0 : Int)).map (Value.int .u8) ++ [.slice none 0 0, iv b.Job, iv 0, iv 0])
    have ah : Cx [CH.row p 0 bn, CH.row r 0 s] := aQ
    refine WA.up1 5 (by kernel_rfl) (Up.skip rfl rfl (aE _ _ _ _ rfl rfl) ⟨(Ctx.subI 1 ah rfl), trivial⟩ ?_)
    refine WA.takes [(6, none)] ⟨(Ctx.subI 1 ah rfl), trivial⟩ (by kernel_rfl) <| WT.run to 1 rfl <| WT.done ?_
    obtain ⟨bs, aF, aR⟩ := ev_put (P := Try.prog) (ps1 := []) (ps2 := [CH.row r 0 s]) (t := 3) [iv b.Time] (iv b.Time) ah (Put.skip 2 34 rfl (Put.skip 32 2 (len_map (List.length_replicate ..)) (Put.lit 2 rfl))) rfl (ones_of rfl) sz3
    let bh : List Go.Value := [iv b.Kind, iv 0] ++ ((List.replicate 32 (0 : Int)).map (Value.int .u8) ++ [.slice none 0 0, iv b.Job, iv b.Time, iv 0])
    have aS : Cx [CH.row p 0 bh, CH.row r 0 s] := aR
    refine WA.up1 7 (by kernel_rfl) (Up.skip rfl rfl (aF _ _ _ _ rfl rfl) ⟨trivial, trivial⟩ ?_)
    refine WA.done (by kernel_rfl) <| inB_n ?_
    have aT : Cx [CH.row p 0 bh, CH.emp, CH.row r 0 s] := aS.pick [0, 2, 1] rfl
    cases d
    refine thenE_n ?_
    exact ⟨0, (⟨b.Kind, 0, (List.replicate 32 (0 : Int)), ([] : List Int), b.Job, b.Time, 0⟩ : TRecord), none, 0, 0, CH.emp, rfl, aT, (List.length_replicate ..), rfl, (Row.nil _ _), rfl⟩
   refine W.condF (congrArg Value.bool (Bool.eq_false_iff.2 T)) <| W.sr rfl <| WL.rd to 2 rfl ?_
   rcases iteE d with ⟨U, d⟩ | ⟨U, d⟩
   ·refine W.cT U rfl <| W.seq <| W.regionA [([7], CH.row r 0 s)] (by kernel_rfl) ?_
    have ao := Ctx.drewN M 1
    refine WA.takes [(0, none), (1, some 0), (2, none), (3, some 0), (4, none)] ⟨(Ctx.subI 1 ao rfl), trivial⟩ (by kernel_rfl) <| WT.run to 1 rfl <| WT.lv 35 rfl rfl rfl Try.underlying3 rfl (at_skip 2 33 rfl (at_skip 32 1 (len_map u) rfl)) <| WT.run to 1 rfl <| WT.lv 37 rfl rfl rfl Try.underlying3 rfl (at_skip 2 35 rfl (at_skip 32 3 (len_map u) rfl)) <| WT.run to 1 rfl <| WT.done ?_
    obtain ⟨bt, aG, aU⟩ := ev_put (P := Try.prog) (ps1 := []) (ps2 := [CH.row r 0 s]) (t := 3) [iv b.Job] (iv b.Job) ao (Put.skip 2 33 rfl (Put.skip 32 1 (len_map (List.length_replicate ..)) (Put.lit 1 rfl))) rfl (ones_of rfl) sz3
    let bo : List Go.Value := [iv b.Kind, iv 0] ++ ((List.replicate 32 (0 : Int)).map (Value.int .u8) ++ [.slice none 0 0, iv b.Job, iv 0, iv 0])
    have ai : Cx [CH.row p 0 bo, CH.row r 0 s] := aU
    refine WA.up1 5 (by kernel_rfl) (Up.skip rfl rfl (aG _ _ _ _ rfl rfl) ⟨(Ctx.subI 1 ai rfl), trivial⟩ ?_)
    refine WA.takes [(6, none)] ⟨(Ctx.subI 1 ai rfl), trivial⟩ (by kernel_rfl) <| WT.run to 1 rfl <| WT.done ?_
    obtain ⟨bu, aH, aV⟩ := ev_put (P := Try.prog) (ps1 := []) (ps2 := [CH.row r 0 s]) (t := 3) [iv b.By] (iv b.By) ai (Put.skip 2 35 rfl (Put.skip 32 3 (len_map (List.length_replicate ..)) (Put.lit 3 rfl))) rfl (ones_of rfl) sz3
    let bi : List Go.Value := [iv b.Kind, iv 0] ++ ((List.replicate 32 (0 : Int)).map (Value.int .u8) ++ [.slice none 0 0, iv b.Job, iv 0, iv b.By])
    have aW : Cx [CH.row p 0 bi, CH.row r 0 s] := aV
    refine WA.up1 7 (by kernel_rfl) (Up.skip rfl rfl (aH _ _ _ _ rfl rfl) ⟨trivial, trivial⟩ ?_)
    refine WA.done (by kernel_rfl) <| W.region rfl ?_
    refine WL.rd to 1 rfl <| inB_n ?_
    have aX : Cx [CH.row p 0 bi, CH.emp, CH.row r 0 s] := aW.pick [0, 2, 1] rfl
    cases d
    refine thenE_n ?_
    exact ⟨32, (⟨b.Kind, 0, (List.replicate 32 (0 : Int)), ([] : List Int), b.Job, 0, b.By⟩ : TRecord), none, 0, 0, CH.emp, rfl, aX, (List.length_replicate ..), rfl, (Row.nil _ _), rfl⟩
   refine W.cF U rfl <| W.sr rfl <| WL.rd to 2 rfl ?_
   rcases iteE d with ⟨V, d⟩ | ⟨V, d⟩
   ·refine W.cT V rfl <| W.skip <| inB_n ?_
    have aY : Cx [CH.row p 0 al, CH.emp, CH.row r 0 s] := M.pick [0, 2, 1] rfl
    cases d
    refine thenE_n ?_
    exact ⟨0, (⟨b.Kind, 0, (List.replicate 32 (0 : Int)), ([] : List Int), 0, 0, 0⟩ : TRecord), none, 0, 0, CH.emp, rfl, aY, (List.length_replicate ..), rfl, (Row.nil _ _), rfl⟩
   refine W.cF V rfl <| W.sr rfl <| WL.rd to 1 rfl <| W.ret ?_
   iterate 3 first | refine inB_r ?_ | refine thenE_r ?_
   cases d
   replace H := sumE_r H
   have aZ : Cx [] := M.pick [] rfl
   have a4 := Option.some.inj H
   subst a4
   exact post_r (resE1 rfl rfl) ⟨rfl, aZ⟩
 ·rintro l x ⟨J, v, L, N, I, B, ax, G, A, bk, bj, rfl⟩
  replace H := sumE_l H
  apply ks l ax
  refine W.seq <| W.sr rfl <| WL.run to 1 rfl <| WL.lv G 2 1 rfl rfl Try.underlying3 rfl rfl <| WL.run to 1 rfl <| WL.lv G 2 35 rfl rfl Try.underlying3 rfl (at_skip 2 33 rfl (at_skip 32 1 (len_map u) rfl)) <| WL.run to 1 rfl <| WL.lv G 2 36 rfl rfl Try.underlying3 rfl (at_skip 2 34 rfl (at_skip 32 2 (len_map u) rfl)) <| WL.run to 1 rfl ?_
  refine WL.lv G 2 37 rfl rfl Try.underlying3 rfl (at_skip 2 35 rfl (at_skip 32 3 (len_map u) rfl)) <| WL.val (Yl.buildArr (vs := mkParts 0 (List.map (Value.int .i64) [b.Epoch, b.Job, b.Time, b.By])) (cs := List.toArray ([b.Epoch, b.Job, b.Time, b.By].map (Value.int .i64))) Try.underlying81 sz3 zr81 (partsB ((.cons rfl (.cons rfl (.cons rfl (.cons rfl .nil)))))) (fill_ints .i64 _ _ _ rfl rfl)) <| WL.rd to 1 rfl ?_
  obtain ⟨ar, j, H⟩ := bindE H
  let ak : List Go.Value := TRecord.q v L I N
  refine W.cutM (fun l x => Kn l [(1, .pointer (some ⟨r, 0, none⟩)), (3, .pointer (some ⟨p, 0, none⟩)), (4, iv J)] ∧ Ctx w F D x F [CH.row p 0 ak, B, CH.row r 0 s] ∧ ar = Sum.inl ()) ?_ ?_
  ·refine W.block <| W.loop (fun a8 l x => ∃ (E : Int), Kn l [(1, .pointer (some ⟨r, 0, none⟩)), (3, .pointer (some ⟨p, 0, none⟩)), (4, iv J), (52, .agg (List.toArray ([b.Epoch, b.Job, b.Time, b.By].map (Value.int .i64)))), (53, iv E)] ∧ Ctx w F D x F [CH.row p 0 ak, B, CH.row r 0 s] ∧ docket_may.l1 a8 b E = some ar) k ⟨0, rfl, G, j⟩ ?_
   clear j
   rintro a8 l x ⟨E, aA, aj, j⟩
   rcases a8 with _ | aq
   · exact absurd j (by simp [docket_may.l1])
   rw [docket_may.l1] at j
   apply ks l aA
   refine W.sr rfl <| WL.rd to 1 rfl <| W.seq ?_
   rcases iteE j with ⟨X, j⟩ | ⟨X, j⟩
   ·refine W.cT X rfl <| W.skip <| W.seq <| W.block <| W.sr rfl ?_
    obtain ⟨av, j⟩ := guardE j
    refine WL.val (Yl.indexAgg (k' := .i64) (a := [b.Epoch, b.Job, b.Time, b.By]) (i := E) rfl rfl Try.underlying81 Try.underlying3 sz3 rfl (by have := av; simp only [List.length_cons, List.length_nil]; omega)) <| WL.rd to 1 rfl <| W.sr rfl <| WL.run to 1 rfl ?_
    obtain ⟨bd, aw, j⟩ := bindE j
    refine WL.cq aj (docket_between.calls aq _ F ([b.Epoch, b.Job, b.Time, b.By].getD E.toNat 0) 0 1099511627776 aj.pre0  bd aw) (ne.fr rfl rfl) fun x ap => ?_
    refine WL.rd to 1 rfl ?_
    rcases iteE j with ⟨Y, j⟩ | ⟨Y, j⟩
    ·refine W.condF (congrArg Value.bool (nb_t Y)) <| W.skip <| inB_n <| W.region rfl ?_
     exact WL.rd to 2 rfl <| thenE_n ⟨aq, Nat.lt_succ_self _, wi64 (E + 1), rfl, ap, j⟩
    refine W.condT (congrArg Value.bool (nb_f Y)) <| W.sr rfl <| WL.rd to 1 rfl <| W.ret ?_
    iterate 6 first | refine inB_r ?_ | refine thenE_r ?_
    cases j
    replace H := sumE_r H
    have a0 : Cx [] := ap.pick [] rfl
    have a5 := Option.some.inj H
    subst a5
    exact post_r (resE1 rfl rfl) ⟨rfl, a0⟩
   refine W.cF X rfl <| W.exit <| thenE_x <| thenE_x <| inB_here ?_
   cases j
   refine thenE_n ?_
   exact ⟨rfl, aj, rfl⟩
  ·rintro l x ⟨az, m, rfl⟩
   replace H := sumE_l H
   apply ks l az
   refine W.sr rfl <| WL.run to 1 rfl <| WL.lv m 2 34 rfl rfl Try.underlying44 rfl (at_skip 2 32 rfl (at_skip 32 0 (len_map u) rfl)) <| WL.ln (b.Data.length : Int) rfl Try.underlying44 (by omega) <| WL.run to 3 rfl ?_
   obtain ⟨a7, h, H⟩ := bindE H
   refine WL.cut (fun l x => l 2 = .bool a7 ∧ Ctx w F D x F [CH.row p 0 ak, B, CH.row r 0 s]) ?_ ?_
   ·rcases iteE h with ⟨Z, h⟩ | ⟨Z, h⟩
    ·refine WL.kn 65 (congrArg Value.bool (decide_eq_true Z)) <| WL.run to 1 rfl <| WL.lvG m 2 1 rfl rfl rfl rfl Try.underlying3 rfl rfl <| WL.run to 1 rfl <| WL.lvG m 0 1 rfl rfl rfl rfl Try.underlying3 rfl rfl <| WL.run to 3 rfl ?_
     rcases iteE h with ⟨aa, h⟩ | ⟨aa, h⟩
     ·refine WL.kn 72 (congrArg Value.bool (decide_eq_true aa)) <| WL.run to 1 rfl <| WL.valOn rfl rfl (Yl.loadVA (g := r) (off := 0) (o := 2) (cs := s) (us := b.Nonce.map (Value.int .u8)) rfl Try.underlying43 rfl (sz_of sz43 (len_map u)) (Ctx.subI 2 m rfl) (mid_skip 2 0 rfl (mid_here rfl))) <| WL.run to 1 rfl <| WL.valOn rfl rfl (Yl.loadVA (g := p) (off := 0) (o := 2) (cs := ak) (us := v.Nonce.map (Value.int .u8)) rfl Try.underlying43 rfl (sz_of sz43 (len_map A)) (Ctx.subI 0 m rfl) (mid_skip 2 0 rfl (mid_here rfl))) <| WL.valOn rfl rfl (Yl.aeql (n := 2) (xs := b.Nonce.map (Value.int .u8)) (ys := v.Nonce.map (Value.int .u8)) rfl rfl eg43 (EqV.arrI Try.underlying43 Try.underlying5 sz5 u A) (by decide)) <| WL.run to 2 rfl ?_
      rcases iteE h with ⟨ab, h⟩ | ⟨ab, h⟩
      ·refine WL.kn 79 (congrArg Value.bool (decide_eq_true ab)) <| WL.run to 1 rfl <| WL.lvG m 2 35 rfl rfl rfl rfl Try.underlying3 rfl (at_skip 2 33 rfl (at_skip 32 1 (len_map u) rfl)) <| WL.run to 1 rfl <| WL.lvG m 0 35 rfl rfl rfl rfl Try.underlying3 rfl (at_skip 2 33 rfl (at_skip 32 1 (len_map A) rfl)) <| WL.run to 3 rfl ?_
       rcases iteE h with ⟨ac, h⟩ | ⟨ac, h⟩
       ·refine WL.kn 86 (congrArg Value.bool (decide_eq_true ac)) <| WL.run to 1 rfl <| WL.lvG m 2 36 rfl rfl rfl rfl Try.underlying3 rfl (at_skip 2 34 rfl (at_skip 32 2 (len_map u) rfl)) <| WL.run to 1 rfl <| WL.lvG m 0 36 rfl rfl rfl rfl Try.underlying3 rfl (at_skip 2 34 rfl (at_skip 32 2 (len_map A) rfl)) <| WL.run to 3 rfl ?_
        rcases iteE h with ⟨ad, h⟩ | ⟨ad, h⟩
        ·refine WL.kn 93 (congrArg Value.bool (decide_eq_true ad)) <| WL.run to 1 rfl <| WL.lvG m 2 37 rfl rfl rfl rfl Try.underlying3 rfl (at_skip 2 35 rfl (at_skip 32 3 (len_map u) rfl)) <| WL.run to 1 rfl <| WL.lvG m 0 37 rfl rfl rfl rfl Try.underlying3 rfl (at_skip 2 35 rfl (at_skip 32 3 (len_map A) rfl)) <| WL.run to 3 rfl ?_
         cases h
         exact WL.done ⟨rfl, m⟩
        refine WL.kn 93 (congrArg Value.bool (decide_eq_false ad)) <| WL.offs 5 93 true rfl rfl <| WL.run to 2 rfl ?_
        cases h
        exact WL.done ⟨rfl, m⟩
       refine WL.kn 86 (congrArg Value.bool (decide_eq_false ac)) <| WL.offs 5 86 true rfl rfl <| WL.run to 2 rfl <| WL.offs 5 93 true rfl rfl <| WL.run to 2 rfl ?_
       cases h
       exact WL.done ⟨rfl, m⟩
      refine WL.kn 79 (congrArg Value.bool (decide_eq_false ab)) <| WL.offs 5 79 true rfl rfl <| WL.run to 2 rfl <| WL.offs 5 86 true rfl rfl <| WL.run to 2 rfl <| WL.offs 5 93 true rfl rfl <| WL.run to 2 rfl ?_
      cases h
      exact WL.done ⟨rfl, m⟩
     refine WL.kn 72 (congrArg Value.bool (decide_eq_false aa)) <| WL.offs 5 72 true rfl rfl <| WL.run to 2 rfl <| WL.offs 5 79 true rfl rfl <| WL.run to 2 rfl <| WL.offs 5 86 true rfl rfl <| WL.run to 2 rfl <| WL.offs 5 93 true rfl rfl <| WL.run to 2 rfl ?_
     cases h
     exact WL.done ⟨rfl, m⟩
    refine WL.kn 65 (congrArg Value.bool (decide_eq_false Z)) <| WL.offs 5 65 true rfl rfl <| WL.run to 2 rfl <| WL.offs 5 72 true rfl rfl <| WL.run to 2 rfl <| WL.offs 5 79 true rfl rfl <| WL.run to 2 rfl <| WL.offs 5 86 true rfl rfl <| WL.run to 2 rfl ?_
    refine WL.offs 5 93 true rfl rfl <| WL.run to 2 rfl ?_
    cases h
    exact WL.done ⟨rfl, m⟩
   ·rintro l x ⟨aB, a1⟩
    apply kn l (.c aB .n)
    refine W.ret ?_
    have a2 : Cx [] := a1.pick [] rfl
    have a6 := Option.some.inj H
    subst a6
    exact post_r (resE1 rfl rfl) ⟨rfl, a2⟩
def docket_asked.l1 : Nat → TJob → Int → Int → Option (Sum Unit Bool)
  | 0, _, _, _ => none
  | k + 1, b, d, a => if a < (b.Workers.length : Int) then (if 0 ≤ a ∧ a < (b.Workers.length : Int) then (if (b.Workers.getD a.toNat 0) = d then (some (Sum.inr true)) else (docket_asked.l1 k b d (wi64 (a + 1)))) else none) else (some (Sum.inl ()))
def docket_asked.f (k : Nat) (a : TJob) (b : Int) : Option Bool := (docket_asked.l1 k a b 0).bind fun d => sumE d (fun _ => some false) (fun e => some e)
theorem docket_asked.calls (k w F S L ad I y s t o A u p B x r E) (b : TJob) (J : Int) (hp : Pre w F []) (aH : ad = b.Payload.length) (aF : b.Payload.length ≤ L) (aG : L ≤ maxLen) (aE : Sl (Kd.int .u8) F F S b.Payload) (ay : s = b.Workers.length) (ao : b.Workers.length ≤ y) (au : y ≤ maxLen) (X : Sl (Kd.int .i64) F F I b.Workers) (az : A = b.Indexes.length) (ap : b.Indexes.length ≤ o) (av : o ≤ maxLen) (ak : Sl (Kd.int .i64) F F t b.Indexes) (aA : B = b.Votes.length) (aq : b.Votes.length ≤ p) (aw : p ≤ maxLen) (al : Sl TCast.K F F u b.Votes) (aB : E = b.Value.length) (ar : b.Value.length ≤ r) (ax : r ≤ maxLen) (am : Sl (Kd.int .u8) F F x b.Value) (R : Bool) (H : docket_asked.f k b J = some R) :
    Calls Try.prog 55 #[.agg (List.toArray (TJob.q b S ad L I s y t A o u B p x E r)), iv J] w fun e w' => e = .returned (.bool R) ∧ Ctx w F (domL []) w' F [] := by
 have C := Ctx.start hp
 generalize hD : domL [] = D at C ⊢
 unfold docket_asked.f at H
 refine Calls.ofW Try.func55 rfl (by simp [Try.ntmps55]) <| W.sr rfl ?_
 let M : List Go.Value := TJob.q b S ad L I s y t A o u B p x E r
 obtain ⟨O, aI, ac, N⟩ := ev_box (P := Try.prog) 55 (.agg (List.toArray M)) M C rfl
 refine WL.val (ac _ _ _ rfl) <| WL.rd to 1 rfl <| W.seq <| W.sr rfl <| WL.run to 1 rfl <| WL.lv N 0 5 rfl rfl Try.underlying29 rfl rfl <| WL.ln (b.Workers.length : Int) rfl Try.underlying29 (by omega) <| WL.rd to 1 rfl ?_
 obtain ⟨Q, a, H⟩ := bindE H
 refine W.cutM (fun g G => Ctx w F D G F [CH.row O 0 M] ∧ Q = Sum.inl ()) ?_ ?_
 ·refine W.block <| W.loop (fun U g G => ∃ (h : Int), Kn g [(1, iv J), (8, .slice I s y), (9, iv (b.Workers.length : Int)), (10, iv h)] ∧ Ctx w F D G F [CH.row O 0 M] ∧ docket_asked.l1 U b J h = some Q) k ⟨0, rfl, N, a⟩ ?_
  clear a
  rintro U g G ⟨h, Z, m, a⟩
  rcases U with _ | ai
  · exact absurd a (by simp [docket_asked.l1])
  rw [docket_asked.l1] at a
  apply ks g Z
  refine W.sr rfl <| WL.rd to 1 rfl <| W.seq ?_
  rcases iteE a with ⟨j, a⟩ | ⟨j, a⟩
  ·refine W.cT j rfl <| W.skip <| W.seq <| W.block <| W.sr rfl ?_
   obtain ⟨an, a⟩ := guardE a
   obtain ⟨aD, aC, V, Y⟩ := X (by omega)
   refine WL.val (Yl.elemAddr (i := h) rfl rfl V Try.underlying29 sz3 (by omega)) ?_
   obtain ⟨aj, aa, ab⟩ := Y h.toNat _ (getD_some (d := 0) (by omega))
   obtain rfl := aa
   refine WL.val (Yl.load (v := iv (b.Workers.getD h.toNat 0)) rfl Try.underlying3 rfl (((m.fro)).cell (ab 0 _ rfl))) <| WL.rd to 1 rfl <| W.sr rfl <| WL.rd to 3 rfl ?_
   rcases iteE a with ⟨l, a⟩ | ⟨l, a⟩
   ·refine W.cT l rfl <| W.sr rfl <| WL.rd to 1 rfl <| W.ret ?_
    iterate 6 first | refine inB_r ?_ | refine thenE_r ?_
    cases a
    replace H := sumE_r H
    have af : Cx [] := m.pick [] rfl
    have ah := Option.some.inj H
    subst ah
    exact post_r (resE1 rfl rfl) ⟨rfl, af⟩
   refine W.cF l rfl <| W.skip <| inB_n <| W.region rfl ?_
   exact WL.rd to 2 rfl <| thenE_n ⟨ai, Nat.lt_succ_self _, wi64 (h + 1), rfl, m, a⟩
  refine W.cF j rfl <| W.exit <| thenE_x <| thenE_x <| inB_here ?_
  cases a
  refine thenE_n ?_
  exact ⟨m, rfl⟩
 ·rintro g G ⟨ae, rfl⟩
  replace H := sumE_l H
  refine W.sr rfl <| WL.rd to 1 rfl <| W.ret ?_
  have ag : Cx [] := ae.pick [] rfl
  have T := Option.some.inj H
  subst T
  exact post_r (resE1 rfl rfl) ⟨rfl, ag⟩
def docket_crewed.l1 : Nat → TConfig → TJob → List (Int × Int) → Int → Option (Sum Unit Bool)
  | 0, _, _, _, _ => none
  | k + 1, e, b, d, a => if a < (b.Workers.length : Int) then (if 0 ≤ a ∧ a < (b.Workers.length : Int) then ((if ((mget d (b.Workers.getD a.toNat 0)).isSome) = true then (some (true)) else ((docket_between.f k (b.Workers.getD a.toNat 0) 0 (wi64 (e.Workers - 1))).bind fun h => if h = true then (if 0 ≤ a ∧ a < (b.Indexes.length : Int) then (if 0 ≤ e.Height then ((docket_between.f k (b.Indexes.getD a.toNat 0) 0 (wi64 ((shlOp .i64 1 e.Height) - 1))).bind fun i => some (!i)) else none) else none) else (some (true)))).bind fun g => if g = true then (some (Sum.inr false)) else (docket_crewed.l1 k e b (mset d (b.Workers.getD a.toNat 0) a) (wi64 (a + 1)))) else none) else (some (Sum.inl ()))
def docket_crewed.f (k : Nat) (a : TConfig) (b : TJob) : Option Bool := ((docket_hands.f k a).bind fun d => if (b.Workers.length : Int) = d then ((docket_hands.f k a).bind fun e => some (!decide ((b.Indexes.length : Int) = e))) else (some true)).bind fun g => if g = true then (some false) else ((docket_crewed.l1 k a b ([] : List (Int × Int)) 0).bind fun h => sumE h (fun _ => some true) (fun i => some i))
theorem docket_crewed.calls (k w F) (L : TConfig) (aZ aw bi ai Y Q V O X aj ae an ak af ao) (p : TJob) (hp : Pre w F []) (bX : bi = p.Payload.length) (bV : p.Payload.length ≤ aw) (bW : aw ≤ maxLen) (bU : Sl (Kd.int .u8) F F aZ p.Payload) (bN : Q = p.Workers.length) (bE : p.Workers.length ≤ Y) (bJ : Y ≤ maxLen) (bb : Sl (Kd.int .i64) F F ai p.Workers) (bO : X = p.Indexes.length) (bG : p.Indexes.length ≤ O) (bK : O ≤ maxLen) (bc : Sl (Kd.int .i64) F F V p.Indexes) (bP : an = p.Votes.length) (bH : p.Votes.length ≤ ae) (bL : ae ≤ maxLen) (bC : Sl TCast.K F F aj p.Votes) (bQ : ao = p.Value.length) (bI : p.Value.length ≤ af) (bM : af ≤ maxLen) (bD : Sl (Kd.int .u8) F F ak p.Value) (aY : Bool) (H : docket_crewed.f k L p = some aY) :
    Calls Try.prog 48 #[.agg (List.toArray (TConfig.q L)), .agg (List.toArray (TJob.q p aZ bi aw ai Q Y V X O aj an ae ak ao af))] w fun e w' => e = .returned (.bool aY) ∧ Ctx w F (domL []) w' F [] := by
 have C := Ctx.start hp
 generalize hD : domL [] = D at C ⊢
 unfold docket_crewed.f at H
 refine Calls.ofW Try.func48 rfl (by simp [Try.ntmps48]) <| W.sr rfl ?_
 let G : List Go.Value := TConfig.q L
 obtain ⟨u, bY, bg, bk⟩ := ev_box (P := Try.prog) 23 (.agg (List.toArray G)) G C rfl
 refine WL.val (bg _ _ _ rfl) ?_
 let J : List Go.Value := TJob.q p aZ bi aw ai Q Y V X O aj an ae ak ao af
 obtain ⟨y, bZ, bh, bl⟩ := ev_box (P := Try.prog) 55 (.agg (List.toArray J)) J bk rfl
 refine WL.val (bh _ _ _ rfl) <| WL.rd to 1 rfl <| W.seq <| W.seq ?_
 obtain ⟨br, E, H⟩ := bindE H
 refine W.cutM (fun j N => Kn j [(2, .pointer (some ⟨u, 0, none⟩)), (3, .pointer (some ⟨y, 0, none⟩)), (23, .bool br)] ∧ Ctx w F D N F [CH.row y 0 J, CH.row u 0 G]) ?_ ?_
 ·refine W.regionA [([], CH.row y 0 J), ([11], CH.row u 0 G)] (by kernel_rfl) ?_
  have ac := Ctx.drewN bl 1
  refine WA.takes [(0, none), (1, some 0), (2, none), (3, some 1)] ⟨(Ctx.subI 0 ac rfl), (Ctx.subI 1 ac rfl), trivial⟩ (by kernel_rfl) <| WT.run to 1 rfl <| WT.lv 5 rfl rfl rfl Try.underlying29 rfl rfl <| WT.val rfl (fun _ hC_ => Yl.lenN (A := ai) (l := Q) (q := Y) (n := (p.Workers.length : Int)) rfl Try.underlying29 (by omega)) ?_
  refine WT.val rfl (fun _ hC_ => Yl.loadVA (g := u) (off := 0) (o := 0) (cs := G) (us := G) rfl Try.underlying23 rfl sz23 (show Sub (CH.row u 0 G) _ from hC_) rfl) ?_
  refine WT.done ?_
  obtain ⟨bq, bd, E⟩ := bindE E
  refine WA.up1 4 (by kernel_rfl) (Up.callH rfl (by kernel_rfl) rfl (docket_hands.calls k _ F L ac.pre0  bq bd) (ne.fr rfl rfl) ?_)
  rintro bB N ⟨rfl, bm⟩
  have x : Cx [CH.row y 0 J, CH.row u 0 G] := Ctx.call0 ac bm
  refine ⟨_, rfl, ⟨(Ctx.subI 0 x rfl), (Ctx.subI 1 x rfl), trivial⟩, ?_⟩
  refine WA.takes [(5, none), (6, none)] ⟨(Ctx.subI 0 x rfl), (Ctx.subI 1 x rfl), trivial⟩ (by kernel_rfl) <| WT.run to 2 rfl <| WT.done ?_
  rcases iteE E with ⟨s, E⟩ | ⟨s, E⟩
  ·refine WA.takes [(7, none), (8, some 0), (9, none), (10, some 1)] ⟨(Ctx.subI 0 x rfl), (Ctx.subI 1 x rfl), trivial⟩ (by kernel_rfl) <| WT.on rfl rfl (congrArg Value.bool (ndec_t s)) (fun _ hC_ => Yl.fieldAddr (i := 6) rfl Try.underlying55 rfl sz29) ?_
   refine WT.on rfl rfl (congrArg Value.bool (ndec_t s)) (fun _ hC_ => Yl.loadV (g := y) (off := 0) (o := 6) (cs := J) (v := .slice V X O) rfl Try.underlying29 rfl (show Sub (CH.row y 0 J) _ from hC_) rfl) ?_
   refine WT.on rfl rfl (congrArg Value.bool (ndec_t s)) (fun _ hC_ => Yl.lenN (A := V) (l := X) (q := O) (n := (p.Indexes.length : Int)) rfl Try.underlying29 (by omega)) ?_
   refine WT.on rfl rfl (congrArg Value.bool (ndec_t s)) (fun _ hC_ => Yl.loadVA (g := u) (off := 0) (o := 0) (cs := G) (us := G) rfl Try.underlying23 rfl sz23 (show Sub (CH.row u 0 G) _ from hC_) rfl) ?_
   refine WT.done ?_
   obtain ⟨ah, be, E⟩ := bindE E
   refine WA.up1 11 (by kernel_rfl) (Up.callG (args := #[.agg (List.toArray G)]) rfl rfl (congrArg Value.bool (ndec_t s)) (by kernel_rfl) rfl (ne.fr rfl rfl) (docket_hands.calls k _ F L x.pre0  ah be) ?_)
   rintro bB N ⟨rfl, bn⟩
   have ad : Cx [CH.row y 0 J, CH.row u 0 G] := Ctx.call0 x bn
   refine ⟨_, rfl, ⟨(Ctx.subI 0 ad rfl), trivial, trivial⟩, ?_⟩
   refine WA.takes [(12, none), (13, none)] ⟨(Ctx.subI 0 ad rfl), (Ctx.subI 1 ad rfl), trivial⟩ (by kernel_rfl) <| WT.on rfl rfl (congrArg Value.bool (ndec_t s)) (fun _ hC_ => Yl.neq (m := (p.Indexes.length : Int)) (n := ah) (q := !decide ((p.Indexes.length : Int) = ah)) rfl rfl rfl) ?_
   refine WT.val rfl (fun _ hC_ => Yl.pickF (v := .bool (!decide ((p.Indexes.length : Int) = ah))) (congrArg Value.bool (ndec_t s)) rfl) ?_
   refine WT.done <| WA.done (by kernel_rfl) ?_
   cases E
   refine thenE_n ?_
   exact ⟨rfl, ad⟩
  refine WA.takes [(7, none), (8, none), (9, none), (10, none)] ⟨(Ctx.subI 0 x rfl), (Ctx.subI 1 x rfl), trivial⟩ (by kernel_rfl) <| WT.off rfl rfl (congrArg Value.bool (ndec_f s)) <| WT.off rfl rfl (congrArg Value.bool (ndec_f s)) <| WT.off rfl rfl (congrArg Value.bool (ndec_f s)) <| WT.off rfl rfl (congrArg Value.bool (ndec_f s)) <| WT.done <| WA.up1Off 11 (by kernel_rfl) rfl rfl (congrArg Value.bool (ndec_f s)) rfl rfl ⟨(Ctx.subI 0 x rfl), trivial, trivial⟩ <| WA.takes [(12, none), (13, none)] ⟨(Ctx.subI 0 x rfl), (Ctx.subI 1 x rfl), trivial⟩ (by kernel_rfl) <| WT.off rfl rfl (congrArg Value.bool (ndec_f s)) ?_
  refine WT.val rfl (fun _ hC_ => Yl.pickT (v := .bool true) (congrArg Value.bool (ndec_f s)) rfl) ?_
  refine WT.done <| WA.done (by kernel_rfl) ?_
  cases E
  refine thenE_n ?_
  exact ⟨rfl, x⟩
 ·rintro j N ⟨bf, aX⟩
  apply ks j bf
  rcases iteE H with ⟨Z, H⟩ | ⟨Z, H⟩
  ·refine W.condT (congrArg Value.bool Z) <| W.sr rfl <| WL.rd to 1 rfl <| W.ret <| thenE_r ?_
   have bo : Cx [] := aX.pick [] rfl
   have bp := Option.some.inj H
   subst bp
   exact post_r (resE1 rfl rfl) ⟨rfl, bo⟩
  refine W.condF (congrArg Value.bool (Bool.eq_false_iff.2 Z)) <| W.skip <| W.sr rfl ?_
  obtain ⟨a8, bj, bR, aU, al, az⟩ := ev_makeMap (P := Try.prog) (α := Int) (β := Int) (t := 106) (Value.int .i64) (Value.int .i64) aX
  refine WL.val (aU _ _) <| WL.rd to 1 rfl <| W.seq <| W.sr rfl <| WL.run to 1 rfl <| WL.lv al 1 5 rfl rfl Try.underlying29 rfl rfl <| WL.ln (p.Workers.length : Int) rfl Try.underlying29 (by omega) <| WL.rd to 1 rfl ?_
  obtain ⟨aq, b, H⟩ := bindE H
  refine W.cutM (fun j N => Ctx w F D N F [CH.row y 0 J, CH.row u 0 G] ∧ aq = Sum.inl ()) ?_ ?_
  ·refine W.block <| W.loop (fun ba j N => ∃ (I : List (Int × Int)) (a : Int), ∃ M ab, Kn j [(2, .pointer (some ⟨u, 0, none⟩)), (3, .pointer (some ⟨y, 0, none⟩)), (5, .map (some M)), (26, .slice ai Q Y), (27, iv (p.Workers.length : Int)), (28, iv a)] ∧ Ctx w F D N F [ab, CH.row y 0 J, CH.row u 0 G] ∧ MRow (Value.int .i64) (Value.int .i64) ab M I ∧ docket_crewed.l1 ba L p I a = some aq) k ⟨([] : List (Int × Int)), 0, a8, bj, rfl, al, az, b⟩ ?_
   clear b
   rintro ba j N ⟨I, a, M, ab, aG, B, ag, b⟩
   rcases ba with _ | aa
   · exact absurd b (by simp [docket_crewed.l1])
   rw [docket_crewed.l1] at b
   apply ks j aG
   refine W.sr rfl <| WL.rd to 1 rfl <| W.seq ?_
   rcases iteE b with ⟨R, b⟩ | ⟨R, b⟩
   ·refine W.cT R rfl <| W.skip <| W.seq <| W.block <| W.sr rfl <| WL.run to 1 rfl ?_
    obtain ⟨bu, b⟩ := guardE b
    obtain ⟨bz, bw, ax, aC⟩ := bb (by omega)
    refine WL.val (Yl.elemAddr (i := a) rfl rfl ax Try.underlying29 sz3 (by omega)) ?_
    obtain ⟨bs, aQ, aS⟩ := aC a.toNat _ (getD_some (d := 0) (by omega))
    obtain rfl := aQ
    refine WL.val (Yl.load (v := iv (p.Workers.getD a.toNat 0)) rfl Try.underlying3 rfl (((B.fro)).cell (aS 0 _ rfl))) <| WL.rd to 2 rfl <| W.sr rfl <| WL.run to 2 rfl <| WL.val (Yl.lookup (v := .tuple #[(iv ((mget I (p.Workers.getD a.toNat 0)).getD 0)), (.bool ((mget I (p.Workers.getD a.toNat 0)).isSome))]) ag (Ctx.subI 0 B rfl) Try.underlying106 Try.underlying3 rfl (keyInt .i64) zr3 (p.Workers.getD a.toNat 0) rfl rfl (by cases (mget I (p.Workers.getD a.toNat 0)) <;> rfl)) <| WL.rd to 5 rfl <| W.seq <| W.seq <| W.region_quiet (by kernel_rfl) (by kernel_rfl) rfl ?_
    refine WQ.run to 2 rfl ?_
    obtain ⟨a9, h, b⟩ := bindE b
    refine WQ.cut (fun j => j 60 = .bool a9 ∧ j 2 = .pointer (some ⟨u, 0, none⟩) ∧ j 3 = .pointer (some ⟨y, 0, none⟩) ∧ j 5 = .map (some M) ∧ j 6 = iv a ∧ j 7 = iv (p.Workers.getD a.toNat 0) ∧ j 26 = .slice ai Q Y ∧ j 27 = iv (p.Workers.length : Int) ∧ j 28 = iv a) ?_ ?_
    ·rcases iteE h with ⟨S, h⟩ | ⟨S, h⟩
     ·refine WQ.kn 40 (congrArg Value.bool S) <| WQ.offs 6 40 false rfl rfl <| WQ.run to 2 rfl <| WQ.offs 11 48 false rfl rfl <| WQ.run to 1 rfl ?_
      cases h
      exact WQ.done ⟨rfl, rfl, rfl, rfl, rfl, rfl, rfl, rfl, rfl⟩
     refine WQ.kn 40 (congrArg Value.bool (Bool.eq_false_iff.2 S)) <| WQ.run to 2 rfl <| WQ.lvG B 2 1 rfl rfl rfl rfl Try.underlying3 rfl rfl <| WQ.run to 1 rfl <| WQ.on rfl rfl ?_
     obtain ⟨au, aE, h⟩ := bindE h
     refine WQ.call (v := .bool au) (f := 26) (args := #[iv (p.Workers.getD a.toNat 0), iv 0, iv (wi64 (L.Workers - 1))]) (fun _ hw => by obtain ⟨_, rfl⟩ := hw; exact (ne.fr rfl rfl)) (fun _ hw => by obtain ⟨ap, rfl⟩ := hw; exact (docket_between.calls aa _ F (p.Workers.getD a.toNat 0) 0 (wi64 (L.Workers - 1)) (B.drewN ap).pre0  au aE).mono (fun _ _ ⟨he, m_, hm_⟩ => ⟨he, ap + m_, by rw [hm_, World.drewN_drewN]⟩)) ?_
     refine WQ.run to 3 rfl ?_
     rcases iteE h with ⟨T, h⟩ | ⟨T, h⟩
     ·refine WQ.kn 48 (congrArg Value.bool (nb_t T)) <| WQ.run to 1 rfl <| WQ.lvG B 1 6 rfl rfl rfl rfl Try.underlying29 rfl rfl <| WQ.run to 1 rfl ?_
      obtain ⟨bv, h⟩ := guardE h
      obtain ⟨bA, bx, ay, aD⟩ := bc (by omega)
      refine WQ.vOn rfl rfl (fun _ => Yl.elemAddr (i := a) rfl rfl ay Try.underlying29 sz3 (by omega)) ?_
      obtain ⟨bt, aR, aT⟩ := aD a.toNat _ (getD_some (d := 0) (by omega))
      obtain rfl := aR
      refine WQ.vOn rfl rfl (fun _ => Yl.load (v := iv (p.Indexes.getD a.toNat 0)) rfl Try.underlying3 rfl ((((B.drewN _).fro)).cell (aT 0 _ rfl))) ?_
      refine WQ.run to 1 rfl <| WQ.lvG B 2 2 rfl rfl rfl rfl Try.underlying3 rfl rfl ?_
      obtain ⟨aB, h⟩ := guardE h
      refine WQ.vOn rfl rfl (fun _ => Yl.shl (m := 1) (n := L.Height) (r := shlOp .i64 1 L.Height) rfl rfl aB rfl) ?_
      refine WQ.run to 1 rfl <| WQ.on rfl rfl ?_
      obtain ⟨av, aF, h⟩ := bindE h
      refine WQ.call (v := .bool av) (f := 26) (args := #[iv (p.Indexes.getD a.toNat 0), iv 0, iv (wi64 ((shlOp .i64 1 L.Height) - 1))]) (fun _ hw => by obtain ⟨_, rfl⟩ := hw; exact (ne.fr rfl rfl)) (fun _ hw => by obtain ⟨ap, rfl⟩ := hw; exact (docket_between.calls aa _ F (p.Indexes.getD a.toNat 0) 0 (wi64 ((shlOp .i64 1 L.Height) - 1)) (B.drewN ap).pre0  av aF).mono (fun _ _ ⟨he, m_, hm_⟩ => ⟨he, ap + m_, by rw [hm_, World.drewN_drewN]⟩)) ?_
      refine WQ.run to 2 rfl ?_
      cases h
      exact WQ.done ⟨rfl, rfl, rfl, rfl, rfl, rfl, rfl, rfl, rfl⟩
     refine WQ.kn 48 (congrArg Value.bool (nb_f T)) <| WQ.offs 11 48 false rfl rfl <| WQ.run to 1 rfl ?_
     cases h
     exact WQ.done ⟨rfl, rfl, rfl, rfl, rfl, rfl, rfl, rfl, rfl⟩
    ·rintro j ⟨aH, aI, aJ, aK, aL, aM, aN, aO, aP⟩
     intro aW
     have am := Ctx.drewN B aW
     apply kn j (.c aH (.c aI (.c aJ (.c aK (.c aL (.c aM (.c aN (.c aO (.c aP .n)))))))))
     rcases iteE b with ⟨U, b⟩ | ⟨U, b⟩
     ·refine W.condT (congrArg Value.bool U) <| W.sr rfl <| WL.rd to 1 rfl <| W.ret ?_
      iterate 7 first | refine inB_r ?_ | refine thenE_r ?_
      cases b
      replace H := sumE_r H
      have a1 : Cx [] := am.pick [] rfl
      have a6 := Option.some.inj H
      subst a6
      exact post_r (resE1 rfl rfl) ⟨rfl, a1⟩
     refine W.condF (congrArg Value.bool (Bool.eq_false_iff.2 U)) <| W.skip <| W.region rfl ?_
     refine WL.run to 3 rfl ?_
     obtain ⟨ar, bS, aV, a2, aA⟩ := ev_mapUpdate (P := Try.prog) (ps1 := []) (ps2 := [CH.row y 0 J, CH.row u 0 G]) (p.Workers.getD a.toNat 0) a am ag Try.underlying106 Try.underlying3 rfl (keyInt .i64)
     have a3 : Cx [ar, CH.row y 0 J, CH.row u 0 G] := a2
     refine WL.skip (aV _ _ _ _ _ rfl rfl rfl) <| WL.done <| inB_n <| W.region rfl ?_
     exact WL.rd to 2 rfl <| thenE_n ⟨aa, Nat.lt_succ_self _, mset I (p.Workers.getD a.toNat 0) a, wi64 (a + 1), M, ar, rfl, a3, aA, b⟩
   refine W.cF R rfl <| W.exit <| thenE_x <| thenE_x <| inB_here ?_
   have a4 : Cx [CH.row y 0 J, CH.row u 0 G] := B.pick [1, 2] rfl
   cases b
   refine thenE_n ?_
   exact ⟨a4, rfl⟩
  ·rintro j N ⟨a0, rfl⟩
   replace H := sumE_l H
   refine W.sr rfl <| WL.rd to 1 rfl <| W.ret ?_
   have a5 : Cx [] := a0.pick [] rfl
   have a7 := Option.some.inj H
   subst a7
   exact post_r (resE1 rfl rfl) ⟨rfl, a5⟩
def docket_voted.l1 : Nat → TJob → List TCast → Int → Option (Sum (List TCast) Bool)
  | 0, _, _, _ => none
  | k + 1, b, d, a => if a < (b.Votes.length : Int) then (if 0 ≤ a ∧ a < (b.Votes.length : Int) then ((tally_Cast.f k d (b.Votes.getD a.toNat TCast.z)).bind fun ⟨e, g⟩ => (if g = 0 then ((docket_asked.f k b ((b.Votes.getD a.toNat TCast.z).Worker)).bind fun h => some (!h)) else (some true)).bind fun i => if i = true then (some (Sum.inr false)) else (docket_voted.l1 k b e (wi64 (a + 1)))) else none) else (some (Sum.inl d))
def docket_voted.f (k : Nat) (i : TConfig) (a : TJob) : Option Bool := (docket_voted.l1 k a ([] : List TCast) 0).bind fun j => sumE j (fun h => (tally_Decide.f k h i.Faulty).bind fun ⟨d, e⟩ => (if e = (decide (a.State = 3)) then ((bytes_Equal.f k d a.Value).bind fun g => some (g)) else (some (false))).bind fun b => some b) (fun l => some l)
theorem docket_voted.calls (k w F) (a0 : TConfig) (aY aI bt aZ aM az au ak aA U O X aj V al) (m : TJob) (hp : Pre w F []) (cd : bt = m.Payload.length) (cb : m.Payload.length ≤ aI) (cc : aI ≤ maxLen) (ca : Sl (Kd.int .u8) F F aY m.Payload) (b0 : az = m.Workers.length) (bU : m.Workers.length ≤ aM) (bX : aM ≤ maxLen) (bR : Sl (Kd.int .i64) F F aZ m.Workers) (b1 : aA = m.Indexes.length) (bV : m.Indexes.length ≤ ak) (bY : ak ≤ maxLen) (bS : Sl (Kd.int .i64) F F au m.Indexes) (b2 : X = m.Votes.length) (bW : m.Votes.length ≤ O) (bZ : O ≤ maxLen) (aN : Sl TCast.K F F U m.Votes) (aR : al = m.Value.length) (aP : m.Value.length ≤ V) (aQ : V ≤ maxLen) (aO : Sl (Kd.int .u8) F F aj m.Value) (bv : Bool) (H : docket_voted.f k a0 m = some bv) :
    Calls Try.prog 49 #[.agg (List.toArray (TConfig.q a0)), .agg (List.toArray (TJob.q m aY bt aI aZ az aM au aA ak U X O aj al V))] w fun e w' => e = .returned (.bool bv) ∧ Ctx w F (domL []) w' F [] := by
 have C := Ctx.start hp
 generalize hD : domL [] = D at C ⊢
 unfold docket_voted.f at H
 refine Calls.ofW Try.func49 rfl (by simp [Try.ntmps49]) <| W.sr rfl ?_
 let x : List Go.Value := TConfig.q a0
 obtain ⟨o, ck, b3, b9⟩ := ev_box (P := Try.prog) 23 (.agg (List.toArray x)) x C rfl
 refine WL.val (b3 _ _ _ rfl) ?_
 let y : List Go.Value := TJob.q m aY bt aI aZ az aM au aA ak U X O aj al V
 obtain ⟨r, cl, b4, bu⟩ := ev_box (P := Try.prog) 55 (.agg (List.toArray y)) y b9 rfl
 refine WL.val (b4 _ _ _ rfl) <| WL.rd to 1 rfl <| W.sr rfl <| WL.rd to 1 rfl <| W.seq <| W.sr rfl <| WL.run to 1 rfl <| WL.lv bu 0 7 rfl rfl Try.underlying53 rfl rfl <| WL.ln (m.Votes.length : Int) rfl Try.underlying53 (by omega) ?_
 refine WL.rd to 1 rfl ?_
 obtain ⟨aV, a, H⟩ := bindE H
 refine W.cutM (fun h A => ∃ (T : List TCast), ∃ E Y Z R B, Kn h [(2, .pointer (some ⟨o, 0, none⟩)), (3, .pointer (some ⟨r, 0, none⟩)), (5, .slice Y R Z)] ∧ Ctx w F D A E [B, CH.row r 0 y, CH.row o 0 x] ∧ CH.le F E ∧ R = T.length ∧ Row TCast.K E B (.slice Y R Z) T ∧ aV = Sum.inl T) ?_ ?_
 ·refine W.block ?_
  have bw : Cx [CH.emp, CH.row r 0 y, CH.row o 0 x] := bu.pick [2, 0, 1] rfl
  refine W.loop (fun bQ h A => ∃ (I : List TCast) (s : Int), ∃ N J Q G S, Kn h [(2, .pointer (some ⟨o, 0, none⟩)), (3, .pointer (some ⟨r, 0, none⟩)), (5, .slice J G Q), (13, .slice U X O), (14, iv (m.Votes.length : Int)), (15, iv s)] ∧ Ctx w F D A N [S, CH.row r 0 y, CH.row o 0 x] ∧ CH.le F N ∧ G = I.length ∧ Row TCast.K N S (.slice J G Q) I ∧ docket_voted.l1 bQ m I s = some aV) k ⟨([] : List TCast), 0, F, none, 0, 0, CH.emp, rfl, bw, (CH.le_refl _), rfl, (Row.nil _ _), a⟩ ?_
  clear a
  rintro bQ h A ⟨I, s, N, J, Q, G, S, bk, an, b, aw, av, a⟩
  rcases bQ with _ | ap
  · exact absurd a (by simp [docket_voted.l1])
  rw [docket_voted.l1] at a
  apply ks h bk
  refine W.sr rfl <| WL.rd to 1 rfl <| W.seq ?_
  rcases iteE a with ⟨ad, a⟩ | ⟨ad, a⟩
  ·refine W.cT ad rfl <| W.skip <| W.seq <| W.block <| W.sr rfl ?_
   obtain ⟨cf, a⟩ := guardE a
   obtain ⟨ch, cg, a1, a6⟩ := aN (by omega)
   refine WL.val (Yl.elemAddr (i := s) rfl rfl a1 Try.underlying53 sz79 (by omega)) ?_
   obtain ⟨ce, bn, bo⟩ := a6 s.toNat _ (getD_some (d := TCast.z) (by omega))
   obtain ⟨aC, aJ, aS, rfl, bg, bb, bd, a4⟩ := TCast.open bn
   let aB : List Go.Value := [iv ((m.Votes.getD s.toNat TCast.z).Worker), .slice aC aS aJ]
   refine WL.val (Yl.loadAgg (cs := aB) rfl Try.underlying79 rfl sz79 (fun j u hu => by rw [add_of]; exact ((an.fro.mono b)).cell (bo _ _ hu))) ?_
   obtain ⟨aa, cj, bp, bx⟩ := ev_alloc (P := Try.prog) (e := 79) [iv 0, .slice none 0 0] an zr79 rfl
   refine WL.val (bp _ _) <| WL.st bx 0 0 aB rfl rfl rfl rfl (Put.lit 0 rfl) (ones_of rfl) sz79 fun A (aF : Cx [CH.row aa 0 aB, S, CH.row r 0 y, CH.row o 0 x]) => ?_
   refine WL.done <| W.sr rfl <| WL.run to 1 rfl <| WL.la aF 0 rfl rfl Try.underlying79 rfl sz79 ?_
   obtain ⟨bK, g, bq, (aG : Cx [CH.row aa 0 aB, CH.row r 0 y, CH.row o 0 x])⟩ := Ctx.fzI 1 aF rfl
   obtain ⟨bc, be, a5⟩ := Row.fz av g bq
   obtain ⟨⟨aW, b5⟩, a7, a⟩ := bindE a
   refine WL.callH (tally_Cast.calls ap _ bK J Q G I aC aJ aS (m.Votes.getD s.toNat TCast.z) aG.pre0 aw bc be a5 bg bb bd (Sl.mono a4 (CH.le_trans b g) (CH.le_trans b g)) aW b5 a7) (ne.fr rfl rfl) ?_
   rintro ci A ⟨ao, aD, aK, aT, ai, rfl, l, bz, bh, a2⟩
   refine ⟨_, rfl, ?_⟩
   have L : Cx [ai, CH.row aa 0 aB, CH.row r 0 y, CH.row o 0 x] := Ctx.call0 aG bz
   refine WL.rd to 5 rfl <| W.seq <| W.seq ?_
   obtain ⟨b8, v, a⟩ := bindE a
   refine W.cutM (fun h A => Kn h [(2, .pointer (some ⟨o, 0, none⟩)), (3, .pointer (some ⟨r, 0, none⟩)), (8, .slice aD aT aK), (13, .slice U X O), (14, iv (m.Votes.length : Int)), (15, iv s), (33, .bool b8)] ∧ Ctx w F D A ao [ai, CH.row aa 0 aB, CH.row r 0 y, CH.row o 0 x]) ?_ ?_
   ·refine W.region rfl ?_
    refine WL.run to 3 rfl ?_
    rcases iteE v with ⟨ae, v⟩ | ⟨ae, v⟩
    ·refine WL.kn 27 (congrArg Value.bool (ndec_t ae)) <| WL.laG L 2 rfl rfl rfl rfl Try.underlying55 rfl sz55 <| WL.run to 1 rfl <| WL.lvG L 1 0 rfl rfl rfl rfl Try.underlying3 rfl rfl <| WL.on rfl rfl ?_
     obtain ⟨b6, a8, v⟩ := bindE v
     refine WL.c0 L (docket_asked.calls ap _ ao aY aI bt aZ aM az au ak aA U O X aj V al m ((m.Votes.getD s.toNat TCast.z).Worker) L.pre0 cd cb cc (Sl.mono ca (CH.le_trans b (CH.le_trans g l)) (CH.le_trans b (CH.le_trans g l))) b0 bU bX (Sl.mono bR (CH.le_trans b (CH.le_trans g l)) (CH.le_trans b (CH.le_trans g l))) b1 bV bY (Sl.mono bS (CH.le_trans b (CH.le_trans g l)) (CH.le_trans b (CH.le_trans g l))) b2 bW bZ (Sl.mono aN (CH.le_trans b (CH.le_trans g l)) (CH.le_trans b (CH.le_trans g l))) aR aP aQ (Sl.mono aO (CH.le_trans b (CH.le_trans g l)) (CH.le_trans b (CH.le_trans g l))) b6 a8) (ne.fr rfl rfl) fun A bA => ?_
     refine WL.rd to 2 rfl ?_
     cases v
     refine thenE_n ?_
     exact ⟨rfl, bA⟩
    refine WL.kn 27 (congrArg Value.bool (ndec_f ae)) <| WL.offs 5 27 false rfl rfl <| WL.rd to 1 rfl ?_
    cases v
    refine thenE_n ?_
    exact ⟨rfl, L⟩
   ·rintro h A ⟨bl, aH⟩
    apply ks h bl
    rcases iteE a with ⟨af, a⟩ | ⟨af, a⟩
    ·refine W.condT (congrArg Value.bool af) <| W.sr rfl <| WL.rd to 1 rfl <| W.ret ?_
     iterate 7 first | refine inB_r ?_ | refine thenE_r ?_
     cases a
     replace H := sumE_r H
     have bB : Cx [] := aH.pick [] rfl
     have bN := Option.some.inj H
     subst bN
     exact post_r (resE1 rfl rfl) ⟨rfl, (Ctx.weak bB (CH.le_refl _))⟩
    refine W.condF (congrArg Value.bool (Bool.eq_false_iff.2 af)) <| W.skip <| W.region rfl ?_
    refine WL.rd to 2 rfl <| inB_n <| W.region rfl ?_
    refine WL.rd to 2 rfl ?_
    have bC : Cx [ai, CH.row r 0 y, CH.row o 0 x] := aH.pick [0, 2, 3] rfl
    exact thenE_n ⟨ap, Nat.lt_succ_self _, aW, wi64 (s + 1), ao, aD, aK, aT, ai, rfl, bC, (CH.le_trans b (CH.le_trans g l)), bh, a2, a⟩
  refine W.cF ad rfl <| W.exit <| thenE_x <| thenE_x <| inB_here ?_
  cases a
  refine thenE_n ?_
  exact ⟨I, N, J, Q, G, S, rfl, an, b, aw, av, rfl⟩
 ·rintro h A ⟨T, E, Y, Z, R, B, bj, am, ax, bf, ab, rfl⟩
  replace H := sumE_l H
  apply ks h bj
  refine W.sr rfl <| WL.run to 2 rfl <| WL.lv am 2 0 rfl rfl Try.underlying3 rfl rfl ?_
  obtain ⟨bL, ay, br, (bD : Cx [CH.row r 0 y, CH.row o 0 x])⟩ := Ctx.fzI 0 am rfl
  obtain ⟨⟨ar, aX⟩, a9, H⟩ := bindE H
  refine WL.callH (tally_Decide.calls k _ bL Y Z R T a0.Faulty (Ctx.pre (qs := []) (rest := [CH.row r 0 y, CH.row o 0 x]) bD) bf (Row.len_le ab).1 (Row.len_le ab).2.1 (Sl.mono (Row.sl ab) ay br) ar aX a9) (ne.fr rfl rfl) ?_
  rintro ci A ⟨aE, aL, aU, aq, rfl, bE, bi, a3⟩
  refine ⟨_, rfl, ?_⟩
  have ac : Row (Kd.int .u8) E aq (.slice aE aU aL) ar := a3
  have M : Cx [aq, B, CH.row r 0 y, CH.row o 0 x] := Ctx.callL (qs := []) (rest := [B, CH.row r 0 y, CH.row o 0 x]) am ay bE
  refine WL.rd to 5 rfl <| W.sr rfl <| WL.run to 2 rfl <| WL.lv M 2 1 rfl rfl Try.underlying3 rfl rfl <| WL.run to 1 rfl <| WL.val (Yl.beqD (p := aX) (q := decide (m.State = 3)) rfl rfl Try.underlying4) <| WL.run to 1 rfl ?_
  obtain ⟨bP, t, H⟩ := bindE H
  refine WL.cut (fun h A => h 4 = .bool bP ∧ Ctx w F D A E [aq, B, CH.row r 0 y, CH.row o 0 x]) ?_ ?_
  ·rcases iteE t with ⟨ag, t⟩ | ⟨ag, t⟩
   ·refine WL.kn 48 (congrArg Value.bool (decide_eq_true ag)) <| WL.run to 2 rfl <| WL.lvG M 2 8 rfl rfl rfl rfl Try.underlying44 rfl rfl <| WL.on rfl rfl ?_
    obtain ⟨bM, ah, bs, (bG : Cx [B, CH.row r 0 y, CH.row o 0 x])⟩ := Ctx.fzI 0 M rfl
    obtain ⟨b7, ba, t⟩ := bindE t
    refine WL.cq M (bytes_Equal.calls k _ bM aE aL aU ar aj V al m.Value bG.pre0 bi (Row.len_le ac).1 (Row.len_le ac).2.1 (Sl.mono (Row.sl ac) ah bs) aR aP aQ (Sl.mono aO (CH.le_trans ax ah) (CH.le_trans ax ah)) b7 ba) (ne.fr rfl rfl) fun A bH => ?_
    refine WL.run to 2 rfl ?_
    cases t
    exact WL.done ⟨rfl, bH⟩
   refine WL.kn 48 (congrArg Value.bool (decide_eq_false ag)) <| WL.offs 4 48 true rfl rfl <| WL.run to 2 rfl ?_
   cases t
   exact WL.done ⟨rfl, M⟩
  ·rintro h A ⟨bm, bI⟩
   apply kn h (.c bm .n)
   refine W.ret ?_
   have bJ : Cx [] := bI.pick [] rfl
   have bO := Option.some.inj H
   subst bO
   exact post_r (resE1 rfl rfl) ⟨rfl, (Ctx.weak bJ (CH.le_refl _))⟩
def docket_sound.f (k : Nat) (j : TConfig) (p : TState) (a : TJob) : Option Bool := (if (a.Payload.length : Int) > 64 then (some (true)) else ((docket_between.f k a.Attempt 0 1099511627776).bind fun o => some (!o))).bind fun l => if l = true then (some false) else (if a.State = 1 then ((if a.Epoch = 0 then (if a.Until = 0 then (some (decide ((wi64 ((wi64 ((wi64 ((a.Workers.length : Int) + (a.Indexes.length : Int))) + (a.Votes.length : Int))) + (a.Value.length : Int))) = 0))) else (some (false))) else (some (false))).bind fun m => some m) else ((if a.State = 2 then (some (decide (a.State = 2))) else (some (decide (a.State = 3)))).bind fun h => if h = true then ((docket_Nonce.f k p a.Epoch).bind fun ⟨r, b⟩ => (if b = true then (if a.Attempt > 0 then ((docket_between.f k a.Until 1 1099511627776).bind fun d => if d = true then ((docket_crewed.f k j a).bind fun e => if e = true then ((docket_voted.f k j a).bind fun g => some g) else (some false)) else (some false)) else (some false)) else (some false)).bind fun i => some i) else (some false)))
theorem docket_sound.calls (k w F) (au : TConfig) (aS av a1 aT aw ap am X aq an Y ar) (j : TState) (Q x Z R y aa S A ab T B ac U E ad) (d : TJob) (hp : Pre w F []) (bS : a1 = j.Eras.length) (bQ : j.Eras.length ≤ av) (bR : av ≤ maxLen) (bP : Sl TEra.K F F aS j.Eras) (bm : ap = j.Jobs.length) (bg : j.Jobs.length ≤ aw) (bj : aw ≤ maxLen) (bc : Sl TJob.K F F aT j.Jobs) (bn : aq = j.Used.length) (bh : j.Used.length ≤ X) (bk : X ≤ maxLen) (bd : Sl (Kd.int .i64) F F am j.Used) (bo : ar = j.Barred.length) (bi : j.Barred.length ≤ Y) (bl : Y ≤ maxLen) (be : Sl Kd.bool F F an j.Barred) (aN : Z = d.Payload.length) (aD : d.Payload.length ≤ x) (aI : x ≤ maxLen) (ay : Sl (Kd.int .u8) F F Q d.Payload) (aO : aa = d.Workers.length) (aE : d.Workers.length ≤ y) (aJ : y ≤ maxLen) (az : Sl (Kd.int .i64) F F R d.Workers) (aP : ab = d.Indexes.length) (aF : d.Indexes.length ≤ A) (aK : A ≤ maxLen) (aA : Sl (Kd.int .i64) F F S d.Indexes) (aQ : ac = d.Votes.length) (aG : d.Votes.length ≤ B) (aL : B ≤ maxLen) (aB : Sl TCast.K F F T d.Votes) (aR : ad = d.Value.length) (aH : d.Value.length ≤ E) (aM : E ≤ maxLen) (aC : Sl (Kd.int .u8) F F U d.Value) (a2 : Bool) (H : docket_sound.f k au j d = some a2) :
    Calls Try.prog 36 #[.agg (List.toArray (TConfig.q au)), .agg (List.toArray (TState.q j aS a1 av aT ap aw am aq X an ar Y)), .agg (List.toArray (TJob.q d Q Z x R aa y S ab A T ac B U ad E))] w fun e w' => e = .returned (.bool a2) ∧ Ctx w F (domL []) w' F [] := by
 have C := Ctx.start hp
 generalize hD : domL [] = D at C ⊢
 unfold docket_sound.f at H
 refine Calls.ofW Try.func36 rfl (by simp [Try.ntmps36]) <| W.sr rfl ?_
 let ae : List Go.Value := TConfig.q au
 obtain ⟨p, bW, bu, bE⟩ := ev_box (P := Try.prog) 23 (.agg (List.toArray ae)) ae C rfl
 refine WL.val (bu _ _ _ rfl) ?_
 let af : List Go.Value := TState.q j aS a1 av aT ap aw am aq X an ar Y
 obtain ⟨r, bX, bv, bG⟩ := ev_box (P := Try.prog) 32 (.agg (List.toArray af)) af bE rfl
 refine WL.val (bv _ _ _ rfl) ?_
 let ag : List Go.Value := TJob.q d Q Z x R aa y S ab A T ac B U ad E
 obtain ⟨s, bY, bw, V⟩ := ev_box (P := Try.prog) 55 (.agg (List.toArray ag)) ag bG rfl
 refine WL.val (bw _ _ _ rfl) <| WL.rd to 1 rfl <| W.seq <| W.sr rfl <| WL.run to 1 rfl <| WL.lv V 0 0 rfl rfl Try.underlying44 rfl rfl <| WL.ln (d.Payload.length : Int) rfl Try.underlying44 (by omega) <| WL.run to 2 rfl ?_
 obtain ⟨bN, l, H⟩ := bindE H
 refine WL.cut (fun b i => b 18 = .bool bN ∧ b 3 = .pointer (some ⟨p, 0, none⟩) ∧ b 4 = .pointer (some ⟨r, 0, none⟩) ∧ b 5 = .pointer (some ⟨s, 0, none⟩) ∧ Ctx w F D i F [CH.row s 0 ag, CH.row r 0 af, CH.row p 0 ae]) ?_ ?_
 ·rcases iteE l with ⟨ah, l⟩ | ⟨ah, l⟩
  ·refine WL.kn 13 (congrArg Value.bool (decide_eq_true ah)) <| WL.offs 4 13 false rfl rfl <| WL.run to 1 rfl ?_
   cases l
   exact WL.done ⟨rfl, rfl, rfl, rfl, V⟩
  refine WL.kn 13 (congrArg Value.bool (decide_eq_false ah)) <| WL.run to 1 rfl <| WL.lvG V 0 2 rfl rfl rfl rfl Try.underlying3 rfl rfl <| WL.on rfl rfl ?_
  obtain ⟨bU, bf, l⟩ := bindE l
  refine WL.cq V (docket_between.calls k _ F d.Attempt 0 1099511627776 V.pre0  bU bf) (ne.fr rfl rfl) fun i bH => ?_
  refine WL.run to 2 rfl ?_
  cases l
  exact WL.done ⟨rfl, rfl, rfl, rfl, bH⟩
 ·rintro b i ⟨bp, bq, br, bs, g⟩
  apply kn b (.c bp (.c bq (.c br (.c bs .n))))
  rcases iteE H with ⟨ai, H⟩ | ⟨ai, H⟩
  ·refine W.condT (congrArg Value.bool ai) <| W.sr rfl <| WL.rd to 1 rfl <| W.ret <| thenE_r ?_
   have bI : Cx [] := g.pick [] rfl
   have bL := Option.some.inj H
   subst bL
   exact post_r (resE1 rfl rfl) ⟨rfl, bI⟩
  refine W.condF (congrArg Value.bool (Bool.eq_false_iff.2 ai)) <| W.skip <| W.seq <| W.sr rfl <| WL.run to 1 rfl <| WL.lv g 0 1 rfl rfl Try.underlying3 rfl rfl <| WL.done <| W.block <| W.sr rfl ?_
  refine WL.rd to 2 rfl ?_
  rcases iteE H with ⟨aj, H⟩ | ⟨aj, H⟩
  ·refine W.cT aj rfl <| W.sr rfl <| WL.run to 1 rfl <| WL.lv g 0 3 rfl rfl Try.underlying3 rfl rfl <| WL.run to 2 rfl ?_
   obtain ⟨bO, h, H⟩ := bindE H
   refine WL.cut (fun b i => b 6 = .bool bO ∧ Ctx w F D i F [CH.row s 0 ag, CH.row r 0 af, CH.row p 0 ae]) ?_ ?_
   ·rcases iteE h with ⟨ak, h⟩ | ⟨ak, h⟩
    ·refine WL.kn 26 (congrArg Value.bool (decide_eq_true ak)) <| WL.run to 1 rfl <| WL.lvG g 0 4 rfl rfl rfl rfl Try.underlying3 rfl rfl <| WL.run to 3 rfl ?_
     rcases iteE h with ⟨al, h⟩ | ⟨al, h⟩
     ·refine WL.kn 31 (congrArg Value.bool (decide_eq_true al)) <| WL.run to 1 rfl <| WL.lvG g 0 5 rfl rfl rfl rfl Try.underlying29 rfl rfl <| WL.lnG (d.Workers.length : Int) rfl rfl rfl Try.underlying29 (by omega) <| WL.run to 1 rfl <| WL.lvG g 0 6 rfl rfl rfl rfl Try.underlying29 rfl rfl <| WL.lnG (d.Indexes.length : Int) rfl rfl rfl Try.underlying29 (by omega) <| WL.run to 2 rfl <| WL.lvG g 0 7 rfl rfl rfl rfl Try.underlying53 rfl rfl ?_
      refine WL.lnG (d.Votes.length : Int) rfl rfl rfl Try.underlying53 (by omega) <| WL.run to 2 rfl <| WL.lvG g 0 8 rfl rfl rfl rfl Try.underlying44 rfl rfl <| WL.lnG (d.Value.length : Int) rfl rfl rfl Try.underlying44 (by omega) <| WL.run to 4 rfl ?_
      cases h
      exact WL.done ⟨rfl, g⟩
     refine WL.kn 31 (congrArg Value.bool (decide_eq_false al)) <| WL.offs 16 31 true rfl rfl <| WL.run to 2 rfl ?_
     cases h
     exact WL.done ⟨rfl, g⟩
    refine WL.kn 26 (congrArg Value.bool (decide_eq_false ak)) <| WL.offs 3 26 true rfl rfl <| WL.run to 2 rfl <| WL.offs 16 31 true rfl rfl <| WL.run to 2 rfl ?_
    cases h
    exact WL.done ⟨rfl, g⟩
   ·rintro b i ⟨bt, bJ⟩
    apply kn b (.c bt .n)
    refine W.ret <| inB_r <| thenE_r ?_
    have bK : Cx [] := bJ.pick [] rfl
    have bM := Option.some.inj H
    subst bM
    exact post_r (resE1 rfl rfl) ⟨rfl, bK⟩
  refine W.cF aj rfl <| W.seq ?_
  obtain ⟨bC, m, H⟩ := bindE H
  refine W.cutM (fun b i => Kn b [(3, .pointer (some ⟨p, 0, none⟩)), (4, .pointer (some ⟨r, 0, none⟩)), (5, .pointer (some ⟨s, 0, none⟩)), (49, .bool bC)] ∧ Ctx w F D i F [CH.row s 0 ag, CH.row r 0 af, CH.row p 0 ae]) ?_ ?_
  ·refine W.sr rfl <| WL.rd to 2 rfl ?_
   rcases iteE m with ⟨G, m⟩ | ⟨G, m⟩
   ·refine W.cT G rfl <| W.skip ?_
    cases m
    refine thenE_n ?_
    exact ⟨rfl, g⟩
   refine W.cF G rfl <| W.region rfl ?_
   refine WL.rd to 2 rfl ?_
   cases m
   refine thenE_n ?_
   exact ⟨rfl, g⟩
  ·rintro b i ⟨aY, t⟩
   apply ks b aY
   rcases iteE H with ⟨I, H⟩ | ⟨I, H⟩
   ·refine W.condT (congrArg Value.bool I) <| W.sr rfl <| WL.la t 1 rfl rfl Try.underlying32 rfl sz32 <| WL.run to 1 rfl <| WL.lv t 0 3 rfl rfl Try.underlying3 rfl rfl ?_
    obtain ⟨⟨O, bx⟩, aU, H⟩ := bindE H
    refine WL.callH (docket_Nonce.calls k _ F aS av a1 aT aw ap am X aq an Y ar j d.Epoch t.pre0 bS bQ bR bP bm bg bj bc bn bh bk bd bo bi bl be O bx aU) (ne.fr rfl rfl) ?_
    rintro bZ i ⟨rfl, a3, ao⟩
    refine ⟨_, rfl, ?_⟩
    have a4 : Cx [CH.row s 0 ag, CH.row r 0 af, CH.row p 0 ae] := Ctx.call0 t a3
    refine WL.run to 3 rfl ?_
    obtain ⟨ax, bV, a0, a5⟩ := ev_alloc (P := Try.prog) (e := 43) ((List.replicate 32 (0 : Int)).map (Value.int .u8)) a4 zr43 rfl
    refine WL.val (a0 _ _) <| WL.st a5 0 0 (O.map (Value.int .u8)) rfl rfl rfl rfl (Put.all 32 (len_map (List.length_replicate ..)) (len_map ao)) (one_ints _ _) (sz_of sz43 (len_map ao)) fun i (o : Cx [CH.row ax 0 (O.map (Value.int .u8)), CH.row s 0 ag, CH.row r 0 af, CH.row p 0 ae]) => ?_
    refine WL.rd to 1 rfl <| W.seq ?_
    obtain ⟨bD, a, H⟩ := bindE H
    refine W.cutM (fun b i => b 6 = .bool bD ∧ Ctx w F D i F [CH.row ax 0 (O.map (Value.int .u8)), CH.row s 0 ag, CH.row r 0 af, CH.row p 0 ae]) ?_ ?_
    ·refine W.region rfl ?_
     refine WL.run to 2 rfl ?_
     rcases iteE a with ⟨J, a⟩ | ⟨J, a⟩
     ·refine WL.kn 60 (congrArg Value.bool J) <| WL.run to 1 rfl <| WL.lvG o 1 2 rfl rfl rfl rfl Try.underlying3 rfl rfl <| WL.run to 3 rfl ?_
      rcases iteE a with ⟨L, a⟩ | ⟨L, a⟩
      ·refine WL.kn 65 (congrArg Value.bool (decide_eq_true L)) <| WL.run to 1 rfl <| WL.lvG o 1 4 rfl rfl rfl rfl Try.underlying3 rfl rfl <| WL.on rfl rfl ?_
       obtain ⟨bz, aV, a⟩ := bindE a
       refine WL.cq o (docket_between.calls k _ F d.Until 1 1099511627776 o.pre0  bz aV) (ne.fr rfl rfl) fun i u => ?_
       refine WL.run to 2 rfl ?_
       rcases iteE a with ⟨M, a⟩ | ⟨M, a⟩
       ·refine WL.kn 70 (congrArg Value.bool M) <| WL.laG u 3 rfl rfl rfl rfl Try.underlying23 rfl sz23 <| WL.laG u 1 rfl rfl rfl rfl Try.underlying55 rfl sz55 <| WL.on rfl rfl ?_
        obtain ⟨bA, aW, a⟩ := bindE a
        refine WL.c0 u (docket_crewed.calls k _ F au Q x Z R y aa S A ab T B ac U E ad d u.pre0 aN aD aI ay aO aE aJ az aP aF aK aA aQ aG aL aB aR aH aM aC bA aW) (ne.fr rfl rfl) fun i v => ?_
        refine WL.run to 2 rfl ?_
        rcases iteE a with ⟨N, a⟩ | ⟨N, a⟩
        ·refine WL.kn 75 (congrArg Value.bool N) <| WL.laG v 3 rfl rfl rfl rfl Try.underlying23 rfl sz23 <| WL.laG v 1 rfl rfl rfl rfl Try.underlying55 rfl sz55 <| WL.on rfl rfl ?_
         obtain ⟨bB, aX, a⟩ := bindE a
         refine WL.c0 v (docket_voted.calls k _ F au Q x Z R y aa S A ab T B ac U E ad d v.pre0 aN aD aI ay aO aE aJ az aP aF aK aA aQ aG aL aB aR aH aM aC bB aX) (ne.fr rfl rfl) fun i a7 => ?_
         refine WL.rd to 2 rfl ?_
         cases a
         refine thenE_n ?_
         exact ⟨rfl, a7⟩
        refine WL.kn 75 (congrArg Value.bool (Bool.eq_false_iff.2 N)) <| WL.offs 3 75 true rfl rfl <| WL.rd to 2 rfl ?_
        cases a
        refine thenE_n ?_
        exact ⟨rfl, v⟩
       refine WL.kn 70 (congrArg Value.bool (Bool.eq_false_iff.2 M)) <| WL.offs 3 70 true rfl rfl <| WL.run to 2 rfl <| WL.offs 3 75 true rfl rfl <| WL.rd to 2 rfl ?_
       cases a
       refine thenE_n ?_
       exact ⟨rfl, u⟩
      refine WL.kn 65 (congrArg Value.bool (decide_eq_false L)) <| WL.offs 3 65 true rfl rfl <| WL.run to 2 rfl <| WL.offs 3 70 true rfl rfl <| WL.run to 2 rfl <| WL.offs 3 75 true rfl rfl <| WL.rd to 2 rfl ?_
      cases a
      refine thenE_n ?_
      exact ⟨rfl, o⟩
     refine WL.kn 60 (congrArg Value.bool (Bool.eq_false_iff.2 J)) <| WL.offs 3 60 true rfl rfl <| WL.run to 2 rfl <| WL.offs 3 65 true rfl rfl <| WL.run to 2 rfl <| WL.offs 3 70 true rfl rfl <| WL.run to 2 rfl <| WL.offs 3 75 true rfl rfl <| WL.rd to 2 rfl ?_
     cases a
     refine thenE_n ?_
     exact ⟨rfl, o⟩
    ·rintro b i ⟨aZ, a6⟩
     apply kn b (.c aZ .n)
     refine W.ret <| inB_r <| thenE_r ?_
     have a8 : Cx [] := a6.pick [] rfl
     have ba := Option.some.inj H
     subst ba
     exact post_r (resE1 rfl rfl) ⟨rfl, a8⟩
   refine W.condF (congrArg Value.bool (Bool.eq_false_iff.2 I)) <| W.skip <| inB_n <| W.sr rfl <| WL.rd to 1 rfl <| W.ret ?_
   have a9 : Cx [] := t.pick [] rfl
   have bb := Option.some.inj H
   subst bb
   exact post_r (resE1 rfl rfl) ⟨rfl, a9⟩
def docket_right.l1 : Nat → TConfig → TState → Int → Option (Sum Unit Bool)
  | 0, _, _, _ => none
  | k + 1, d, b, a => if a < (b.Used.length : Int) then (if 0 ≤ a ∧ a < (b.Used.length : Int) then (if 0 ≤ d.Height then ((docket_between.f k (b.Used.getD a.toNat 0) 0 (shlOp .i64 1 d.Height)).bind fun e => if e = true then (docket_right.l1 k d b (wi64 (a + 1))) else (some (Sum.inr false))) else none) else none) else (some (Sum.inl ()))
def docket_right.l2 : Nat → TState → Int → Int → Option (Sum Unit Bool)
  | 0, _, _, _ => none
  | k + 1, b, e, a => if a < (b.Eras.length : Int) then (if 0 ≤ a ∧ a < (b.Eras.length : Int) then ((docket_between.f k ((b.Eras.getD a.toNat TEra.z).Epoch) (wi64 (e + 1)) 1099511627776).bind fun d => if d = true then (docket_right.l2 k b ((b.Eras.getD a.toNat TEra.z).Epoch) (wi64 (a + 1))) else (some (Sum.inr false))) else none) else (some (Sum.inl ()))
def docket_right.l3 : Nat → TConfig → TState → Int → Option (Sum Unit Bool)
  | 0, _, _, _ => none
  | k + 1, e, b, a => if a < (b.Jobs.length : Int) then (if 0 ≤ a ∧ a < (b.Jobs.length : Int) then ((docket_sound.f k e b (b.Jobs.getD a.toNat TJob.z)).bind fun d => if d = true then (docket_right.l3 k e b (wi64 (a + 1))) else (some (Sum.inr false))) else none) else (some (Sum.inl ()))
def docket_right.f (k : Nat) (b : TConfig) (a : TState) : Option Bool := (if (a.Used.length : Int) = b.Workers then (if (a.Barred.length : Int) = b.Workers then (if 0 ≤ b.Heads then ((docket_between.f k a.Heads 0 (shlOp .i64 1 b.Heads)).bind fun h => if h = true then (if (a.Eras.length : Int) > 256 then (some (true)) else (some (decide ((a.Jobs.length : Int) > b.Jobs)))) else (some (true))) else none) else (some (true))) else (some (true))).bind fun g => if g = true then (some false) else ((docket_right.l1 k b a 0).bind fun d => sumE d (fun _ => (docket_right.l2 k a 0 0).bind fun d => sumE d (fun _ => (docket_right.l3 k b a 0).bind fun d => sumE d (fun _ => some true) (fun e => some e)) (fun e => some e)) (fun e => some e))
theorem docket_right.calls (k w F) (I : TConfig) (ar ak av au al T R O U ae S af) (p : TState) (hp : Pre w F []) (cv : av = p.Eras.length) (ct : p.Eras.length ≤ ak) (cu : ak ≤ maxLen) (bD : Sl TEra.K F F ar p.Eras) (b7 : T = p.Jobs.length) (b1 : p.Jobs.length ≤ al) (b4 : al ≤ maxLen) (aK : Sl TJob.K F F au p.Jobs) (b8 : U = p.Used.length) (b2 : p.Used.length ≤ O) (b5 : O ≤ maxLen) (aL : Sl (Kd.int .i64) F F R p.Used) (b9 : af = p.Barred.length) (b3 : p.Barred.length ≤ S) (b6 : S ≤ maxLen) (bY : Sl Kd.bool F F ae p.Barred) (bG : Bool) (H : docket_right.f k I p = some bG) :
    Calls Try.prog 28 #[.agg (List.toArray (TConfig.q I)), .agg (List.toArray (TState.q p ar av ak au T al R U O ae af S))] w fun e w' => e = .returned (.bool bG) ∧ Ctx w F (domL []) w' F [] := by
 have C := Ctx.start hp
 generalize hD : domL [] = D at C ⊢
 unfold docket_right.f at H
 refine Calls.ofW Try.func28 rfl (by simp [Try.ntmps28]) <| W.sr rfl ?_
 let J : List Go.Value := TConfig.q I
 obtain ⟨s, cO, cf, cn⟩ := ev_box (P := Try.prog) 23 (.agg (List.toArray J)) J C rfl
 refine WL.val (cf _ _ _ rfl) ?_
 let L : List Go.Value := TState.q p ar av ak au T al R U O ae af S
 obtain ⟨t, cP, cg, B⟩ := ev_box (P := Try.prog) 32 (.agg (List.toArray L)) L cn rfl
 refine WL.val (cg _ _ _ rfl) <| WL.rd to 1 rfl <| W.seq <| W.seq <| W.region_quiet (by kernel_rfl) (by kernel_rfl) rfl ?_
 refine WQ.run to 1 rfl <| WQ.lv B 0 2 rfl rfl Try.underlying29 rfl rfl <| WQ.vl (fun _ => Yl.lenN (A := R) (l := U) (q := O) (n := (p.Used.length : Int)) rfl Try.underlying29 (by omega)) ?_
 refine WQ.run to 1 rfl <| WQ.lv B 1 1 rfl rfl Try.underlying3 rfl rfl <| WQ.run to 2 rfl ?_
 obtain ⟨cr, h, H⟩ := bindE H
 refine WQ.cut (fun a => a 48 = .bool cr ∧ a 2 = .pointer (some ⟨s, 0, none⟩) ∧ a 3 = .pointer (some ⟨t, 0, none⟩)) ?_ ?_
 ·rcases iteE h with ⟨am, h⟩ | ⟨am, h⟩
  ·refine WQ.kn 18 (congrArg Value.bool (ndec_t am)) <| WQ.run to 1 rfl <| WQ.lvG B 0 3 rfl rfl rfl rfl Try.underlying30 rfl rfl <| WQ.vOn rfl rfl (fun _ => Yl.lenN (A := ae) (l := af) (q := S) (n := (p.Barred.length : Int)) rfl Try.underlying30 (by omega)) ?_
   refine WQ.run to 1 rfl <| WQ.lvG B 1 1 rfl rfl rfl rfl Try.underlying3 rfl rfl <| WQ.run to 3 rfl ?_
   rcases iteE h with ⟨an, h⟩ | ⟨an, h⟩
   ·refine WQ.kn 26 (congrArg Value.bool (ndec_t an)) <| WQ.run to 1 rfl <| WQ.lvG B 0 4 rfl rfl rfl rfl Try.underlying3 rfl rfl <| WQ.run to 1 rfl <| WQ.lvG B 1 6 rfl rfl rfl rfl Try.underlying3 rfl rfl ?_
    obtain ⟨bZ, h⟩ := guardE h
    refine WQ.vOn rfl rfl (fun _ => Yl.shl (m := 1) (n := I.Heads) (r := shlOp .i64 1 I.Heads) rfl rfl bZ rfl) ?_
    refine WQ.on rfl rfl ?_
    obtain ⟨bH, b0, h⟩ := bindE h
    refine WQ.call (v := .bool bH) (f := 26) (args := #[iv p.Heads, iv 0, iv (shlOp .i64 1 I.Heads)]) (fun _ hw => by obtain ⟨_, rfl⟩ := hw; exact (ne.fr rfl rfl)) (fun _ hw => by obtain ⟨cw, rfl⟩ := hw; exact (docket_between.calls k _ F p.Heads 0 (shlOp .i64 1 I.Heads) (B.drewN cw).pre0  bH b0).mono (fun _ _ ⟨he, m_, hm_⟩ => ⟨he, cw + m_, by rw [hm_, World.drewN_drewN]⟩)) ?_
    refine WQ.run to 3 rfl ?_
    rcases iteE h with ⟨ao, h⟩ | ⟨ao, h⟩
    ·refine WQ.kn 35 (congrArg Value.bool (nb_t ao)) <| WQ.run to 1 rfl <| WQ.lvG B 0 0 rfl rfl rfl rfl Try.underlying27 rfl rfl <| WQ.vOn rfl rfl (fun _ => Yl.lenN (A := ar) (l := av) (q := ak) (n := (p.Eras.length : Int)) rfl Try.underlying27 (by omega)) ?_
     refine WQ.run to 3 rfl ?_
     rcases iteE h with ⟨ap, h⟩ | ⟨ap, h⟩
     ·refine WQ.kn 41 (congrArg Value.bool (decide_eq_true ap)) <| WQ.offs 6 41 false rfl rfl <| WQ.run to 1 rfl ?_
      cases h
      exact WQ.done ⟨rfl, rfl, rfl⟩
     refine WQ.kn 41 (congrArg Value.bool (decide_eq_false ap)) <| WQ.run to 1 rfl <| WQ.lvG B 0 1 rfl rfl rfl rfl Try.underlying28 rfl rfl <| WQ.vOn rfl rfl (fun _ => Yl.lenN (A := au) (l := T) (q := al) (n := (p.Jobs.length : Int)) rfl Try.underlying28 (by omega)) ?_
     refine WQ.run to 1 rfl <| WQ.lvG B 1 4 rfl rfl rfl rfl Try.underlying3 rfl rfl <| WQ.run to 2 rfl ?_
     cases h
     exact WQ.done ⟨rfl, rfl, rfl⟩
    refine WQ.kn 35 (congrArg Value.bool (nb_f ao)) <| WQ.offs 4 35 false rfl rfl <| WQ.run to 2 rfl <| WQ.offs 6 41 false rfl rfl <| WQ.run to 1 rfl ?_
    cases h
    exact WQ.done ⟨rfl, rfl, rfl⟩
   refine WQ.kn 26 (congrArg Value.bool (ndec_f an)) <| WQ.offs 7 26 false rfl rfl <| WQ.run to 2 rfl <| WQ.offs 4 35 false rfl rfl <| WQ.run to 2 rfl <| WQ.offs 6 41 false rfl rfl <| WQ.run to 1 rfl ?_
   cases h
   exact WQ.done ⟨rfl, rfl, rfl⟩
  refine WQ.kn 18 (congrArg Value.bool (ndec_f am)) <| WQ.offs 6 18 false rfl rfl <| WQ.run to 2 rfl <| WQ.offs 7 26 false rfl rfl <| WQ.run to 2 rfl <| WQ.offs 4 35 false rfl rfl <| WQ.run to 2 rfl <| WQ.offs 6 41 false rfl rfl <| WQ.run to 1 rfl ?_
  cases h
  exact WQ.done ⟨rfl, rfl, rfl⟩
 ·rintro a ⟨ca, cb, cc⟩
  intro ch
  have aE := Ctx.drewN B ch
  apply kn a (.c ca (.c cb (.c cc .n)))
  rcases iteE H with ⟨aq, H⟩ | ⟨aq, H⟩
  ·refine W.condT (congrArg Value.bool aq) <| W.sr rfl <| WL.rd to 1 rfl <| W.ret <| thenE_r ?_
   have co : Cx [] := aE.pick [] rfl
   have cp := Option.some.inj H
   subst cp
   exact post_r (resE1 rfl rfl) ⟨rfl, co⟩
  refine W.condF (congrArg Value.bool (Bool.eq_false_iff.2 aq)) <| W.skip <| W.seq <| W.sr rfl <| WL.run to 1 rfl <| WL.lv aE 0 2 rfl rfl Try.underlying29 rfl rfl <| WL.ln (p.Used.length : Int) rfl Try.underlying29 (by omega) <| WL.rd to 1 rfl ?_
  obtain ⟨bE, o, H⟩ := bindE H
  refine W.cutM (fun a x => Kn a [(2, .pointer (some ⟨s, 0, none⟩)), (3, .pointer (some ⟨t, 0, none⟩))] ∧ Ctx w F D x F [CH.row t 0 L, CH.row s 0 J] ∧ bE = Sum.inl ()) ?_ ?_
  ·refine W.block <| W.loop (fun Q a x => ∃ (E : Int), Kn a [(2, .pointer (some ⟨s, 0, none⟩)), (3, .pointer (some ⟨t, 0, none⟩)), (50, .slice R U O), (51, iv (p.Used.length : Int)), (52, iv E)] ∧ Ctx w F D x F [CH.row t 0 L, CH.row s 0 J] ∧ docket_right.l1 Q I p E = some bE) k ⟨0, rfl, aE, o⟩ ?_
   clear o
   rintro Q a x ⟨E, ce, M, o⟩
   rcases Q with _ | aM
   · exact absurd o (by simp [docket_right.l1])
   rw [docket_right.l1] at o
   apply ks a ce
   refine W.sr rfl <| WL.rd to 1 rfl <| W.seq ?_
   rcases iteE o with ⟨X, o⟩ | ⟨X, o⟩
   ·refine W.cT X rfl <| W.skip <| W.seq <| W.block <| W.sr rfl ?_
    obtain ⟨cA, o⟩ := guardE o
    obtain ⟨cH, cD, aW, a5⟩ := aL (by omega)
    refine WL.val (Yl.elemAddr (i := E) rfl rfl aW Try.underlying29 sz3 (by omega)) ?_
    obtain ⟨cx, bt, bw⟩ := a5 E.toNat _ (getD_some (d := 0) (by omega))
    obtain rfl := bt
    refine WL.val (Yl.load (v := iv (p.Used.getD E.toNat 0)) rfl Try.underlying3 rfl (((M.fro)).cell (bw 0 _ rfl))) <| WL.rd to 1 rfl <| W.sr rfl <| WL.run to 2 rfl <| WL.lv M 1 2 rfl rfl Try.underlying3 rfl rfl ?_
    obtain ⟨a4, o⟩ := guardE o
    refine WL.val (Yl.shl (m := 1) (n := I.Height) (r := shlOp .i64 1 I.Height) rfl rfl a4 rfl) ?_
    obtain ⟨ck, a8, o⟩ := bindE o
    refine WL.cq M (docket_between.calls aM _ F (p.Used.getD E.toNat 0) 0 (shlOp .i64 1 I.Height) M.pre0  ck a8) (ne.fr rfl rfl) fun x aB => ?_
    refine WL.rd to 1 rfl ?_
    rcases iteE o with ⟨Y, o⟩ | ⟨Y, o⟩
    ·refine W.condF (congrArg Value.bool (nb_t Y)) <| W.skip <| inB_n <| W.region rfl ?_
     exact WL.rd to 2 rfl <| thenE_n ⟨aM, Nat.lt_succ_self _, wi64 (E + 1), rfl, aB, o⟩
    refine W.condT (congrArg Value.bool (nb_f Y)) <| W.sr rfl <| WL.rd to 1 rfl <| W.ret ?_
    iterate 6 first | refine inB_r ?_ | refine thenE_r ?_
    cases o
    replace H := sumE_r H
    have bI : Cx [] := aB.pick [] rfl
    have bR := Option.some.inj H
    subst bR
    exact post_r (resE1 rfl rfl) ⟨rfl, bI⟩
   refine W.cF X rfl <| W.exit <| thenE_x <| thenE_x <| inB_here ?_
   cases o
   refine thenE_n ?_
   exact ⟨rfl, M, rfl⟩
  ·rintro a x ⟨cd, bC, rfl⟩
   replace H := sumE_l H
   apply ks a cd
   refine W.sr rfl <| WL.rd to 1 rfl <| W.seq <| W.sr rfl <| WL.run to 1 rfl <| WL.lv bC 0 0 rfl rfl Try.underlying27 rfl rfl <| WL.ln (p.Eras.length : Int) rfl Try.underlying27 (by omega) <| WL.rd to 1 rfl ?_
   obtain ⟨aU, b, H⟩ := bindE H
   refine W.cutM (fun a x => Kn a [(2, .pointer (some ⟨s, 0, none⟩)), (3, .pointer (some ⟨t, 0, none⟩))] ∧ Ctx w F D x F [CH.row t 0 L, CH.row s 0 J] ∧ aU = Sum.inl ()) ?_ ?_
   ·refine W.block <| W.loop (fun Q a x => ∃ (ad : Int) (y : Int), Kn a [(2, .pointer (some ⟨s, 0, none⟩)), (3, .pointer (some ⟨t, 0, none⟩)), (7, iv ad), (64, .slice ar av ak), (65, iv (p.Eras.length : Int)), (66, iv y)] ∧ Ctx w F D x F [CH.row t 0 L, CH.row s 0 J] ∧ docket_right.l2 Q p ad y = some aU) k ⟨0, 0, rfl, bC, b⟩ ?_
    clear b
    rintro Q a x ⟨ad, y, br, ag, b⟩
    rcases Q with _ | aN
    · exact absurd b (by simp [docket_right.l2])
    rw [docket_right.l2] at b
    apply ks a br
    refine W.sr rfl <| WL.rd to 1 rfl <| W.seq ?_
    rcases iteE b with ⟨Z, b⟩ | ⟨Z, b⟩
    ·refine W.cT Z rfl <| W.skip <| W.seq <| W.block <| W.sr rfl ?_
     obtain ⟨cB, b⟩ := guardE b
     obtain ⟨cI, cE, aX, a6⟩ := bD (by omega)
     refine WL.val (Yl.elemAddr (i := y) rfl rfl aX Try.underlying27 sz65 (by omega)) ?_
     obtain ⟨cy, bu, bx⟩ := a6 y.toNat _ (getD_some (d := TEra.z) (by omega))
     obtain ⟨rfl, V⟩ := TEra.open bu
     let ci : List Go.Value := [iv ((p.Eras.getD y.toNat TEra.z).Epoch)] ++ (((p.Eras.getD y.toNat TEra.z).Nonce).map (Value.int .u8))
     refine WL.val (Yl.loadAgg (cs := ci) rfl Try.underlying65 rfl (sz_of sz65 (len_app rfl (len_map V))) (fun j u hu => by rw [add_of]; exact ((ag.fro)).cell (bx _ _ hu))) ?_
     let cK : List Go.Value := [iv 0] ++ ((List.replicate 32 (0 : Int)).map (Value.int .u8))
     obtain ⟨bW, cM, bA, bJ⟩ := ev_alloc (P := Try.prog) (e := 65) cK ag zr65 rfl
     refine WL.val (bA _ _) <| WL.st bJ 0 0 ci rfl rfl rfl rfl (Put.all 33 (len_app rfl (len_map (List.length_replicate ..))) (len_app rfl (len_map V))) (ones_append (ones_of rfl) (one_ints _ _)) (sz_of sz65 (len_app rfl (len_map V))) fun x (ah : Cx [CH.row bW 0 ci, CH.row t 0 L, CH.row s 0 J]) => ?_
     refine WL.done <| W.seq <| W.sr rfl <| WL.run to 1 rfl <| WL.lv ah 0 0 rfl rfl Try.underlying3 rfl rfl <| WL.run to 2 rfl ?_
     obtain ⟨cl, a9, b⟩ := bindE b
     refine WL.cq ah (docket_between.calls aN _ F ((p.Eras.getD y.toNat TEra.z).Epoch) (wi64 (ad + 1)) 1099511627776 ah.pre0  cl a9) (ne.fr rfl rfl) fun x ai => ?_
     refine WL.rd to 1 rfl ?_
     rcases iteE b with ⟨aa, b⟩ | ⟨aa, b⟩
     ·refine W.condF (congrArg Value.bool (nb_t aa)) <| W.skip <| W.region rfl ?_
      refine WL.run to 1 rfl <| WL.lv ai 0 0 rfl rfl Try.underlying3 rfl rfl <| WL.rd to 1 rfl <| inB_n <| W.region rfl ?_
      refine WL.rd to 2 rfl ?_
      have bK : Cx [CH.row t 0 L, CH.row s 0 J] := ai.pick [1, 2] rfl
      exact thenE_n ⟨aN, Nat.lt_succ_self _, (p.Eras.getD y.toNat TEra.z).Epoch, wi64 (y + 1), rfl, bK, b⟩
     refine W.condT (congrArg Value.bool (nb_f aa)) <| W.sr rfl <| WL.rd to 1 rfl <| W.ret ?_
     iterate 7 first | refine inB_r ?_ | refine thenE_r ?_
     cases b
     replace H := sumE_r H
     have bL : Cx [] := ai.pick [] rfl
     have bS := Option.some.inj H
     subst bS
     exact post_r (resE1 rfl rfl) ⟨rfl, bL⟩
    refine W.cF Z rfl <| W.exit <| thenE_x <| thenE_x <| inB_here ?_
    cases b
    refine thenE_n ?_
    exact ⟨rfl, ag, rfl⟩
   ·rintro a x ⟨bq, aC, rfl⟩
    replace H := sumE_l H
    apply ks a bq
    refine W.seq <| W.sr rfl <| WL.run to 1 rfl <| WL.lv aC 0 1 rfl rfl Try.underlying28 rfl rfl <| WL.ln (p.Jobs.length : Int) rfl Try.underlying28 (by omega) <| WL.rd to 1 rfl ?_
    obtain ⟨aV, g, H⟩ := bindE H
    refine W.cutM (fun a x => Ctx w F D x F [CH.row t 0 L, CH.row s 0 J] ∧ aV = Sum.inl ()) ?_ ?_
    ·refine W.block <| W.loop (fun Q a x => ∃ (G : Int), Kn a [(2, .pointer (some ⟨s, 0, none⟩)), (3, .pointer (some ⟨t, 0, none⟩)), (80, .slice au T al), (81, iv (p.Jobs.length : Int)), (82, iv G)] ∧ Ctx w F D x F [CH.row t 0 L, CH.row s 0 J] ∧ docket_right.l3 Q I p G = some aV) k ⟨0, rfl, aC, g⟩ ?_
     clear g
     rintro Q a x ⟨G, bs, aj, g⟩
     rcases Q with _ | aO
     · exact absurd g (by simp [docket_right.l3])
     rw [docket_right.l3] at g
     apply ks a bs
     refine W.sr rfl <| WL.rd to 1 rfl <| W.seq ?_
     rcases iteE g with ⟨ab, g⟩ | ⟨ab, g⟩
     ·refine W.cT ab rfl <| W.skip <| W.seq <| W.block <| W.sr rfl ?_
      obtain ⟨cC, g⟩ := guardE g
      obtain ⟨cJ, cG, aY, a7⟩ := aK (by omega)
      refine WL.val (Yl.elemAddr (i := G) rfl rfl aY Try.underlying28 sz55 (by omega)) ?_
      obtain ⟨cz, bv, bz⟩ := a7 G.toNat _ (getD_some (d := TJob.z) (by omega))
      obtain ⟨aw, aF, aP, ax, aG, aQ, ay, aH, aR, az, aI, aS, aA, aJ, aT, rfl, bl, bb, bg, aZ, bm, bc, bh, a0, bn, bd, bi, a1, bo, be, bj, a2, bp, bf, bk, a3⟩ := TJob.open bv
      let cj : List Go.Value := (TJob.q (p.Jobs.getD G.toNat TJob.z) aw aP aF ax aQ aG ay aR aH az aS aI aA aT aJ)
      refine WL.val (Yl.loadAgg (cs := cj) rfl Try.underlying55 rfl sz55 (fun j u hu => by rw [add_of]; exact ((aj.fro)).cell (bz _ _ hu))) ?_
      let cL : List Go.Value := [.slice none 0 0, iv 0, iv 0, iv 0, iv 0, .slice none 0 0, .slice none 0 0, .slice none 0 0, .slice none 0 0]
      obtain ⟨bX, cN, bB, bN⟩ := ev_alloc (P := Try.prog) (e := 55) cL aj zr55 rfl
      refine WL.val (bB _ _) <| WL.st bN 0 0 cj rfl rfl rfl rfl (Put.lit 0 rfl) (ones_of rfl) sz55 fun x (N : Cx [CH.row bX 0 cj, CH.row t 0 L, CH.row s 0 J]) => ?_
      refine WL.done <| W.sr rfl <| WL.la N 2 rfl rfl Try.underlying23 rfl sz23 <| WL.la N 1 rfl rfl Try.underlying32 rfl sz32 <| WL.la N 0 rfl rfl Try.underlying55 rfl sz55 ?_
      obtain ⟨cm, ba, g⟩ := bindE g
      refine WL.c0 N (docket_sound.calls aO _ F I ar ak av au al T R O U ae S af p aw aF aP ax aG aQ ay aH aR az aI aS aA aJ aT (p.Jobs.getD G.toNat TJob.z) N.pre0 cv ct cu bD b7 b1 b4 aK b8 b2 b5 aL b9 b3 b6 bY bl bb bg aZ bm bc bh a0 bn bd bi a1 bo be bj a2 bp bf bk a3 cm ba) (ne.fr rfl rfl) fun x aD => ?_
      refine WL.rd to 1 rfl ?_
      rcases iteE g with ⟨ac, g⟩ | ⟨ac, g⟩
      ·refine W.condF (congrArg Value.bool (nb_t ac)) <| W.skip <| inB_n <| W.region rfl ?_
       refine WL.rd to 2 rfl ?_
       have bO : Cx [CH.row t 0 L, CH.row s 0 J] := aD.pick [1, 2] rfl
       exact thenE_n ⟨aO, Nat.lt_succ_self _, wi64 (G + 1), rfl, bO, g⟩
      refine W.condT (congrArg Value.bool (nb_f ac)) <| W.sr rfl <| WL.rd to 1 rfl <| W.ret ?_
      iterate 6 first | refine inB_r ?_ | refine thenE_r ?_
      cases g
      replace H := sumE_r H
      have bP : Cx [] := aD.pick [] rfl
      have bU := Option.some.inj H
      subst bU
      exact post_r (resE1 rfl rfl) ⟨rfl, bP⟩
     refine W.cF ab rfl <| W.exit <| thenE_x <| thenE_x <| inB_here ?_
     cases g
     refine thenE_n ?_
     exact ⟨aj, rfl⟩
    ·rintro a x ⟨bM, rfl⟩
     replace H := sumE_l H
     refine W.sr rfl <| WL.rd to 1 rfl <| W.ret ?_
     have bQ : Cx [] := bM.pick [] rfl
     have bV := Option.some.inj H
     subst bV
     exact post_r (resE1 rfl rfl) ⟨rfl, bQ⟩
end Go.Proofs.Ytobdpbnadjkhiaa
