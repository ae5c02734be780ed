/- Functions of the program: each as a plain function of numbers and lists, and the proof that the program's own comes to it. Nothing is assumed but what each theorem says. -/
import Derived.Test.YtobdpbnadjkhiaaGreatTGb
namespace Go.Proofs.YtobdpbnadjkhiaaGreat
open Go.RowKit Go.WG
set_option linter.unusedVariables false
set_option linter.unusedSimpArgs false
def docket_between.f (k : Nat) (a0 : Int) (a1 : Int) (a2 : Int) : Option Bool := some ((decide (a0 ≥ a1)) && (decide (a0 ≤ a2)))
set_option maxRecDepth 100000 in
set_option maxHeartbeats 4000000 in
theorem docket_between.calls (k : Nat) (w : World) (F : CH) (a0 : Int) (a1 : Int) (a2 : Int) (hp : Pre w F [])  (r0_ : Bool) (H : docket_between.f k a0 a1 a2 = some r0_) :
    Calls Tryz.prog 50 #[.int .i64 a0, .int .i64 a1, .int .i64 a2] w fun e w' => e = .returned (.bool r0_) ∧ (∃ n_, w' = w.drewN n_) := by
 have C := Ctx.start hp
 generalize domL [] = D at C
 have W0 : ∃ n_, w = w.drewN n_ := ⟨0, rfl⟩
 unfold docket_between.f at H
 refine Calls.ofW Tryz.func50 rfl (by simp [Tryz.ntmps50]) ?_
 refine W.seq ?_
 refine W.region rfl ?_
 refine WL.run to 1 rfl ?_
 refine WL.done ?_
 refine W.seq ?_
 refine W.region rfl ?_
 refine WL.run to 4 rfl ?_
 refine WL.cut (fun env_ w_ => env_ 6 = .bool ((decide (a0 ≥ a1)) && (decide (a0 ≤ a2))) ∧ Ctx w F D w_ F [] ∧ (∃ n_, w_ = w.drewN n_)) ?_ ?_
 ·rcases Bool.eq_false_or_eq_true (decide (a0 ≥ a1)) with hb1 | hb1
  ·refine WL.kn 10 (congrArg Value.bool hb1) ?_
   refine WL.run to 5 rfl ?_
   exact WL.done ⟨(congrArg Value.bool (show (decide (a0 ≤ a2)) = ((decide (a0 ≥ a1)) && (decide (a0 ≤ a2))) from by simp [hb1])), C, W0⟩
  ·refine WL.kn 10 (congrArg Value.bool hb1) ?_
   refine WL.offs 3 10 true rfl rfl ?_
   refine WL.run to 2 rfl ?_
   exact WL.done ⟨(congrArg Value.bool (show false = ((decide (a0 ≥ a1)) && (decide (a0 ≤ a2))) from by simp [hb1])), C, W0⟩
 ·rintro env_ w_ ⟨ho2, C3, Wq4⟩
  apply kn env_ (.c ho2 .n)
  refine W.ret ?_
  have e5 := Option.some.inj H
  subst e5
  exact post_r (resE1 rfl rfl) ⟨rfl, Wq4⟩
def docket_Check.l1 : Nat → TConfig → Int → Option (Sum Unit Int)
  | 0, _, _ => none
  | k + 1, a0, x47 => if x47 < 7 then (if 0 ≤ x47 ∧ x47 < (7 : Int) then ((docket_between.f k (([[a0.Faulty, 0, 2], [a0.Workers, wi64 ((wi64 (2 * a0.Faulty)) + 1), 8], [a0.Height, 0, 6], [a0.Heads, 0, 6], [a0.Bits, 1, 256], [a0.Jobs, 1, 64], [a0.Term, 1, 10000]].getD x47.toNat []).getD (0 : Int).toNat 0) (([[a0.Faulty, 0, 2], [a0.Workers, wi64 ((wi64 (2 * a0.Faulty)) + 1), 8], [a0.Height, 0, 6], [a0.Heads, 0, 6], [a0.Bits, 1, 256], [a0.Jobs, 1, 64], [a0.Term, 1, 10000]].getD x47.toNat []).getD (1 : Int).toNat 0) (([[a0.Faulty, 0, 2], [a0.Workers, wi64 ((wi64 (2 * a0.Faulty)) + 1), 8], [a0.Height, 0, 6], [a0.Heads, 0, 6], [a0.Bits, 1, 256], [a0.Jobs, 1, 64], [a0.Term, 1, 10000]].getD x47.toNat []).getD (2 : Int).toNat 0)).bind fun r76 => if r76 = true then (docket_Check.l1 k a0 (wi64 (x47 + 1))) else (some (Sum.inr 1))) else none) else (some (Sum.inl ()))
def docket_Check.f (k : Nat) (a0 : TConfig) : Option Int := (docket_Check.l1 k a0 0).bind fun o_ => sumE o_ (fun _ => some 0) (fun p_ => some p_)
set_option maxRecDepth 100000 in
set_option maxHeartbeats 4000000 in
theorem docket_Check.calls (k : Nat) (w : World) (F : CH) (a0 : TConfig) (hp : Pre w F [])  (r0_ : Int) (H : docket_Check.f k a0 = some r0_) :
    Calls Tryz.prog 39 #[.agg (List.toArray [.int .i64 a0.Faulty, .int .i64 a0.Workers, .int .i64 a0.Height, .int .i64 a0.Bits, .int .i64 a0.Jobs, .int .i64 a0.Term, .int .i64 a0.Heads])] w fun e w' => e = .returned (.int .i64 r0_) ∧ Ctx w F (domL []) w' F [] := by
 have C := Ctx.start hp
 generalize hD : domL [] = D at C ⊢
 unfold docket_Check.f at H
 refine Calls.ofW Tryz.func39 rfl (by simp [Tryz.ntmps39]) ?_
 refine W.seq ?_
 refine W.region rfl ?_
 let q1 : List Go.Value := [.int .i64 a0.Faulty, .int .i64 a0.Workers, .int .i64 a0.Height, .int .i64 a0.Bits, .int .i64 a0.Jobs, .int .i64 a0.Term, .int .i64 a0.Heads]
 obtain ⟨g1, w2, hy3, C4⟩ := ev_box (P := Tryz.prog) 42 (.agg (List.toArray q1)) q1 C rfl
 refine WL.val (hy3 _ _ _ rfl) ?_
 refine WL.run to 1 rfl ?_
 refine WL.done ?_
 refine W.seq ?_
 refine W.seq ?_
 refine W.region rfl ?_
 refine WL.run to 1 rfl ?_
 refine WL.val (Yl.loadV (g := g1) (off := 0) (o := 0) (cs := q1) (v := .int .i64 a0.Faulty) rfl Tryz.underlying3 rfl (Ctx.subI 0 C4 rfl) rfl) ?_
 refine WL.val (Yl.buildArr (vs := mkParts 0 (List.map (Value.int .i64) [a0.Faulty, 0, 2])) (cs := List.toArray ([a0.Faulty, 0, 2].map (Value.int .i64))) Tryz.underlying114 sz3 zr114 (partsB ((.cons rfl (.cons rfl (.cons rfl .nil))))) (fill_ints .i64 _ _ _ rfl rfl)) ?_
 refine WL.run to 1 rfl ?_
 refine WL.val (Yl.loadV (g := g1) (off := 0) (o := 1) (cs := q1) (v := .int .i64 a0.Workers) rfl Tryz.underlying3 rfl (Ctx.subI 0 C4 rfl) rfl) ?_
 refine WL.run to 1 rfl ?_
 refine WL.val (Yl.loadV (g := g1) (off := 0) (o := 0) (cs := q1) (v := .int .i64 a0.Faulty) rfl Tryz.underlying3 rfl (Ctx.subI 0 C4 rfl) rfl) ?_
 refine WL.run to 2 rfl ?_
 refine WL.val (Yl.buildArr (vs := mkParts 0 (List.map (Value.int .i64) [a0.Workers, wi64 ((wi64 (2 * a0.Faulty)) + 1), 8])) (cs := List.toArray ([a0.Workers, wi64 ((wi64 (2 * a0.Faulty)) + 1), 8].map (Value.int .i64))) Tryz.underlying114 sz3 zr114 (partsB ((.cons rfl (.cons rfl (.cons rfl .nil))))) (fill_ints .i64 _ _ _ rfl rfl)) ?_
 refine WL.run to 1 rfl ?_
 refine WL.val (Yl.loadV (g := g1) (off := 0) (o := 2) (cs := q1) (v := .int .i64 a0.Height) rfl Tryz.underlying3 rfl (Ctx.subI 0 C4 rfl) rfl) ?_
 refine WL.val (Yl.buildArr (vs := mkParts 0 (List.map (Value.int .i64) [a0.Height, 0, 6])) (cs := List.toArray ([a0.Height, 0, 6].map (Value.int .i64))) Tryz.underlying114 sz3 zr114 (partsB ((.cons rfl (.cons rfl (.cons rfl .nil))))) (fill_ints .i64 _ _ _ rfl rfl)) ?_
 refine WL.run to 1 rfl ?_
 refine WL.val (Yl.loadV (g := g1) (off := 0) (o := 6) (cs := q1) (v := .int .i64 a0.Heads) rfl Tryz.underlying3 rfl (Ctx.subI 0 C4 rfl) rfl) ?_
 refine WL.val (Yl.buildArr (vs := mkParts 0 (List.map (Value.int .i64) [a0.Heads, 0, 6])) (cs := List.toArray ([a0.Heads, 0, 6].map (Value.int .i64))) Tryz.underlying114 sz3 zr114 (partsB ((.cons rfl (.cons rfl (.cons rfl .nil))))) (fill_ints .i64 _ _ _ rfl rfl)) ?_
 refine WL.run to 1 rfl ?_
 refine WL.val (Yl.loadV (g := g1) (off := 0) (o := 3) (cs := q1) (v := .int .i64 a0.Bits) rfl Tryz.underlying3 rfl (Ctx.subI 0 C4 rfl) rfl) ?_
 refine WL.val (Yl.buildArr (vs := mkParts 0 (List.map (Value.int .i64) [a0.Bits, 1, 256])) (cs := List.toArray ([a0.Bits, 1, 256].map (Value.int .i64))) Tryz.underlying114 sz3 zr114 (partsB ((.cons rfl (.cons rfl (.cons rfl .nil))))) (fill_ints .i64 _ _ _ rfl rfl)) ?_
 refine WL.run to 1 rfl ?_
 refine WL.val (Yl.loadV (g := g1) (off := 0) (o := 4) (cs := q1) (v := .int .i64 a0.Jobs) rfl Tryz.underlying3 rfl (Ctx.subI 0 C4 rfl) rfl) ?_
 refine WL.val (Yl.buildArr (vs := mkParts 0 (List.map (Value.int .i64) [a0.Jobs, 1, 64])) (cs := List.toArray ([a0.Jobs, 1, 64].map (Value.int .i64))) Tryz.underlying114 sz3 zr114 (partsB ((.cons rfl (.cons rfl (.cons rfl .nil))))) (fill_ints .i64 _ _ _ rfl rfl)) ?_
 refine WL.run to 1 rfl ?_
 refine WL.val (Yl.loadV (g := g1) (off := 0) (o := 5) (cs := q1) (v := .int .i64 a0.Term) rfl Tryz.underlying3 rfl (Ctx.subI 0 C4 rfl) rfl) ?_
 refine WL.val (Yl.buildArr (vs := mkParts 0 (List.map (Value.int .i64) [a0.Term, 1, 10000])) (cs := List.toArray ([a0.Term, 1, 10000].map (Value.int .i64))) Tryz.underlying114 sz3 zr114 (partsB ((.cons rfl (.cons rfl (.cons rfl .nil))))) (fill_ints .i64 _ _ _ rfl rfl)) ?_
 have ha5 : [[a0.Faulty, 0, 2], [a0.Workers, wi64 ((wi64 (2 * a0.Faulty)) + 1), 8], [a0.Height, 0, 6], [a0.Heads, 0, 6], [a0.Bits, 1, 256], [a0.Jobs, 1, 64], [a0.Term, 1, 10000]].length = 7 ∧ ∀ a_ ∈ [[a0.Faulty, 0, 2], [a0.Workers, wi64 ((wi64 (2 * a0.Faulty)) + 1), 8], [a0.Height, 0, 6], [a0.Heads, 0, 6], [a0.Bits, 1, 256], [a0.Jobs, 1, 64], [a0.Term, 1, 10000]], a_.length = 3 := ⟨rfl, by simp⟩
 refine WL.val (Yl.buildArr (vs := mkParts 0 (List.map (fun b => Value.agg (b.map (Value.int .i64)).toArray) [[a0.Faulty, 0, 2], [a0.Workers, wi64 ((wi64 (2 * a0.Faulty)) + 1), 8], [a0.Height, 0, 6], [a0.Heads, 0, 6], [a0.Bits, 1, 256], [a0.Jobs, 1, 64], [a0.Term, 1, 10000]])) (cs := List.toArray ([[a0.Faulty, 0, 2], [a0.Workers, wi64 ((wi64 (2 * a0.Faulty)) + 1), 8], [a0.Height, 0, 6], [a0.Heads, 0, 6], [a0.Bits, 1, 256], [a0.Jobs, 1, 64], [a0.Term, 1, 10000]].flatten.map (Value.int .i64))) Tryz.underlying115 sz114 zr115 (partsB ((.cons rfl (.cons rfl (.cons rfl (.cons rfl (.cons rfl (.cons rfl (.cons rfl .nil))))))))) (fill_arrs .i64 _ _ _ ha5.2 rfl rfl)) ?_
 refine WL.run to 1 rfl ?_
 refine WL.done ?_
 obtain ⟨o44, hX43, H⟩ := bindE H
 refine W.cutM (fun env_ w_ => Ctx w F D w_ F [CH.row g1 0 q1] ∧ o44 = Sum.inl ()) ?_ ?_
 ·refine W.block ?_
  refine W.loop (fun g_ env_ w_ => ∃ (x47 : Int), env_ 30 = .agg (List.toArray ([[a0.Faulty, 0, 2], [a0.Workers, wi64 ((wi64 (2 * a0.Faulty)) + 1), 8], [a0.Height, 0, 6], [a0.Heads, 0, 6], [a0.Bits, 1, 256], [a0.Jobs, 1, 64], [a0.Term, 1, 10000]].flatten.map (Value.int .i64))) ∧ env_ 31 = .int .i64 x47 ∧ Ctx w F D w_ F [CH.row g1 0 q1] ∧ docket_Check.l1 g_ a0 x47 = some o44) k ⟨0, rfl, rfl, C4, hX43⟩ ?_
  clear hX43
  rintro g_ env_ w_ ⟨x47, ho45, ho46, C48, hX43⟩
  rcases g_ with _ | k64
  · exact absurd hX43 (by simp [docket_Check.l1])
  rw [docket_Check.l1] at hX43
  apply kn env_ (.c ho45 (.c ho46 .n))
  refine W.seq ?_
  refine W.region rfl ?_
  refine WL.run to 1 rfl ?_
  refine WL.done ?_
  refine W.seq ?_
  rcases iteE hX43 with ⟨hc65, hX43⟩ | ⟨hc65, hX43⟩
  ·refine W.condT (congrArg Value.bool (decide_eq_true hc65)) ?_
   refine W.skip ?_
   refine W.seq ?_
   refine W.block ?_
   refine W.seq ?_
   refine W.region rfl ?_
   obtain ⟨hc66, hX43⟩ := guardE hX43
   refine WL.val (Yl.indexAgg2 (k' := .i64) (L := [[a0.Faulty, 0, 2], [a0.Workers, wi64 ((wi64 (2 * a0.Faulty)) + 1), 8], [a0.Height, 0, 6], [a0.Heads, 0, 6], [a0.Bits, 1, 256], [a0.Jobs, 1, 64], [a0.Term, 1, 10000]]) (i := x47) rfl rfl Tryz.underlying115 Tryz.underlying114 rfl sz114 ha5 hc66) ?_
   obtain ⟨g67, w68, hy69, C70⟩ := ev_alloc (P := Tryz.prog) (e := 114) ((List.replicate 3 (0 : Int)).map (Value.int .i64)) C48 zr114 rfl
   refine WL.val (hy69 _ _) ?_
   obtain ⟨w71, hy72, C73⟩ := ev_put (P := Tryz.prog) (ps1 := []) (ps2 := [CH.row g1 0 q1]) (t := 114) (([[a0.Faulty, 0, 2], [a0.Workers, wi64 ((wi64 (2 * a0.Faulty)) + 1), 8], [a0.Height, 0, 6], [a0.Heads, 0, 6], [a0.Bits, 1, 256], [a0.Jobs, 1, 64], [a0.Term, 1, 10000]].getD x47.toNat []).map (Value.int .i64)) (.agg (List.toArray (([[a0.Faulty, 0, 2], [a0.Workers, wi64 ((wi64 (2 * a0.Faulty)) + 1), 8], [a0.Height, 0, 6], [a0.Heads, 0, 6], [a0.Bits, 1, 256], [a0.Jobs, 1, 64], [a0.Term, 1, 10000]].getD x47.toNat []).map (Value.int .i64)))) C70 (Put.all 3 (len_map (List.length_replicate ..)) (len_map (flat_at ha5 hc66))) rfl (one_ints _ _) (sz_of sz114 (len_map (flat_at ha5 hc66)))
   have C74 : Ctx _ _ _ _ _ [CH.row g67 0 (([[a0.Faulty, 0, 2], [a0.Workers, wi64 ((wi64 (2 * a0.Faulty)) + 1), 8], [a0.Height, 0, 6], [a0.Heads, 0, 6], [a0.Bits, 1, 256], [a0.Jobs, 1, 64], [a0.Term, 1, 10000]].getD x47.toNat []).map (Value.int .i64)), CH.row g1 0 q1] := C73
   refine WL.skip (hy72 _ _ _ _ rfl rfl) ?_
   refine WL.done ?_
   refine W.seq ?_
   refine W.region rfl ?_
   refine WL.val (Yl.arrAddr (i := 0) rfl rfl Tryz.underlying114 sz3 (show 0 ≤ (0 : Int) ∧ (0 : Int) < (3 : Int) from by decide)) ?_
   refine WL.val (Yl.loadAr (k' := .i64) (g := g67) (off := 0) (o := 0) (cs := ([[a0.Faulty, 0, 2], [a0.Workers, wi64 ((wi64 (2 * a0.Faulty)) + 1), 8], [a0.Height, 0, 6], [a0.Heads, 0, 6], [a0.Bits, 1, 256], [a0.Jobs, 1, 64], [a0.Term, 1, 10000]].getD x47.toNat []).map (Value.int .i64)) (pre := []) (post := []) (a := [[a0.Faulty, 0, 2], [a0.Workers, wi64 ((wi64 (2 * a0.Faulty)) + 1), 8], [a0.Height, 0, 6], [a0.Heads, 0, 6], [a0.Bits, 1, 256], [a0.Jobs, 1, 64], [a0.Term, 1, 10000]].getD x47.toNat []) (i := 0) rfl Tryz.underlying3 rfl (Ctx.subI 0 C74 rfl) (by first | (simp only [List.length_append, List.length_map, List.length_cons, List.length_nil, (flat_at ha5 hc66)]; done) | simp [(flat_at ha5 hc66)]) (by first | (simp only [List.length_append, List.length_map, List.length_cons, List.length_nil, (flat_at ha5 hc66)]; done) | simp [(flat_at ha5 hc66)]) (by have := (flat_at ha5 hc66); have := (show 0 ≤ (0 : Int) ∧ (0 : Int) < (3 : Int) from by decide); omega)) ?_
   refine WL.val (Yl.arrAddr (i := 1) rfl rfl Tryz.underlying114 sz3 (show 0 ≤ (1 : Int) ∧ (1 : Int) < (3 : Int) from by decide)) ?_
   refine WL.val (Yl.loadAr (k' := .i64) (g := g67) (off := 0) (o := 0) (cs := ([[a0.Faulty, 0, 2], [a0.Workers, wi64 ((wi64 (2 * a0.Faulty)) + 1), 8], [a0.Height, 0, 6], [a0.Heads, 0, 6], [a0.Bits, 1, 256], [a0.Jobs, 1, 64], [a0.Term, 1, 10000]].getD x47.toNat []).map (Value.int .i64)) (pre := []) (post := []) (a := [[a0.Faulty, 0, 2], [a0.Workers, wi64 ((wi64 (2 * a0.Faulty)) + 1), 8], [a0.Height, 0, 6], [a0.Heads, 0, 6], [a0.Bits, 1, 256], [a0.Jobs, 1, 64], [a0.Term, 1, 10000]].getD x47.toNat []) (i := 1) rfl Tryz.underlying3 rfl (Ctx.subI 0 C74 rfl) (by first | (simp only [List.length_append, List.length_map, List.length_cons, List.length_nil, (flat_at ha5 hc66)]; done) | simp [(flat_at ha5 hc66)]) (by first | (simp only [List.length_append, List.length_map, List.length_cons, List.length_nil, (flat_at ha5 hc66)]; done) | simp [(flat_at ha5 hc66)]) (by have := (flat_at ha5 hc66); have := (show 0 ≤ (1 : Int) ∧ (1 : Int) < (3 : Int) from by decide); omega)) ?_
   refine WL.val (Yl.arrAddr (i := 2) rfl rfl Tryz.underlying114 sz3 (show 0 ≤ (2 : Int) ∧ (2 : Int) < (3 : Int) from by decide)) ?_
   refine WL.val (Yl.loadAr (k' := .i64) (g := g67) (off := 0) (o := 0) (cs := ([[a0.Faulty, 0, 2], [a0.Workers, wi64 ((wi64 (2 * a0.Faulty)) + 1), 8], [a0.Height, 0, 6], [a0.Heads, 0, 6], [a0.Bits, 1, 256], [a0.Jobs, 1, 64], [a0.Term, 1, 10000]].getD x47.toNat []).map (Value.int .i64)) (pre := []) (post := []) (a := [[a0.Faulty, 0, 2], [a0.Workers, wi64 ((wi64 (2 * a0.Faulty)) + 1), 8], [a0.Height, 0, 6], [a0.Heads, 0, 6], [a0.Bits, 1, 256], [a0.Jobs, 1, 64], [a0.Term, 1, 10000]].getD x47.toNat []) (i := 2) rfl Tryz.underlying3 rfl (Ctx.subI 0 C74 rfl) (by first | (simp only [List.length_append, List.length_map, List.length_cons, List.length_nil, (flat_at ha5 hc66)]; done) | simp [(flat_at ha5 hc66)]) (by first | (simp only [List.length_append, List.length_map, List.length_cons, List.length_nil, (flat_at ha5 hc66)]; done) | simp [(flat_at ha5 hc66)]) (by have := (flat_at ha5 hc66); have := (show 0 ≤ (2 : Int) ∧ (2 : Int) < (3 : Int) from by decide); omega)) ?_
   obtain ⟨r76, hg75, hX43⟩ := bindE hX43
   refine WL.callH (docket_between.calls k64 _ F (([[a0.Faulty, 0, 2], [a0.Workers, wi64 ((wi64 (2 * a0.Faulty)) + 1), 8], [a0.Height, 0, 6], [a0.Heads, 0, 6], [a0.Bits, 1, 256], [a0.Jobs, 1, 64], [a0.Term, 1, 10000]].getD x47.toNat []).getD (0 : Int).toNat 0) (([[a0.Faulty, 0, 2], [a0.Workers, wi64 ((wi64 (2 * a0.Faulty)) + 1), 8], [a0.Height, 0, 6], [a0.Heads, 0, 6], [a0.Bits, 1, 256], [a0.Jobs, 1, 64], [a0.Term, 1, 10000]].getD x47.toNat []).getD (1 : Int).toNat 0) (([[a0.Faulty, 0, 2], [a0.Workers, wi64 ((wi64 (2 * a0.Faulty)) + 1), 8], [a0.Height, 0, 6], [a0.Heads, 0, 6], [a0.Bits, 1, 256], [a0.Jobs, 1, 64], [a0.Term, 1, 10000]].getD x47.toNat []).getD (2 : Int).toNat 0) C74.pre0  r76 hg75) (Yenter.fn Tryz.func50 (by kernel_rfl) rfl (argsE (.cons rfl (.cons rfl (.cons rfl .nil))))) ?_
   rintro e_ w_ ⟨rfl, ⟨m77, rfl⟩⟩
   refine ⟨_, rfl, ?_⟩
   have C78 := Ctx.drewN C74 m77
   refine WL.run to 1 rfl ?_
   refine WL.done ?_
   rcases iteE hX43 with ⟨hc79, hX43⟩ | ⟨hc79, hX43⟩
   ·refine W.condF (congrArg Value.bool (nb_t hc79)) ?_
    refine W.skip ?_
    refine inB_n ?_
    refine W.region rfl ?_
    refine WL.run to 2 rfl ?_
    refine WL.done ?_
    have C80 : Ctx _ _ _ _ _ [CH.row g1 0 q1] := Ctx.pick [1] C78 rfl
    exact thenE_n ⟨k64, Nat.lt_succ_self _, wi64 (x47 + 1), rfl, rfl, C80, hX43⟩
   ·refine W.condT (congrArg Value.bool (nb_f hc79)) ?_
    refine W.seq ?_
    refine W.region rfl ?_
    refine WL.run to 1 rfl ?_
    refine WL.done ?_
    refine W.ret ?_
    refine inB_r ?_
    refine thenE_r ?_
    refine thenE_r ?_
    refine inB_r ?_
    refine thenE_r ?_
    refine thenE_r ?_
    cases hX43
    replace H := sumE_r H
    have C81 : Ctx _ _ _ _ _ [] := Ctx.pick [] C78 rfl
    have e82 := Option.some.inj H
    subst e82
    exact post_r (resE1 rfl rfl) ⟨rfl, C81⟩
  ·refine W.condF (congrArg Value.bool (decide_eq_false hc65)) ?_
   refine W.exit ?_
   refine thenE_x ?_
   refine thenE_x ?_
   refine inB_here ?_
   cases hX43
   refine thenE_n ?_
   exact ⟨C48, rfl⟩
 ·rintro env_ w_ ⟨C42, rfl⟩
  replace H := sumE_l H
  refine W.seq ?_
  refine W.region rfl ?_
  refine WL.run to 1 rfl ?_
  refine WL.done ?_
  refine W.ret ?_
  have C83 : Ctx _ _ _ _ _ [] := Ctx.pick [] C42 rfl
  have e84 := Option.some.inj H
  subst e84
  exact post_r (resE1 rfl rfl) ⟨rfl, C83⟩
def docket_hands.f (k : Nat) (a0 : TConfig) : Option Int := some (wi64 ((wi64 (2 * a0.Faulty)) + 1))
set_option maxRecDepth 100000 in
set_option maxHeartbeats 4000000 in
theorem docket_hands.calls (k : Nat) (w : World) (F : CH) (a0 : TConfig) (hp : Pre w F [])  (r0_ : Int) (H : docket_hands.f k a0 = some r0_) :
    Calls Tryz.prog 81 #[.agg (List.toArray [.int .i64 a0.Faulty, .int .i64 a0.Workers, .int .i64 a0.Height, .int .i64 a0.Bits, .int .i64 a0.Jobs, .int .i64 a0.Term, .int .i64 a0.Heads])] w fun e w' => e = .returned (.int .i64 r0_) ∧ Ctx w F (domL []) w' F [] := by
 have C := Ctx.start hp
 generalize hD : domL [] = D at C ⊢
 unfold docket_hands.f at H
 refine Calls.ofW Tryz.func81 rfl (by simp [Tryz.ntmps81]) ?_
 refine W.seq ?_
 refine W.region rfl ?_
 let q1 : List Go.Value := [.int .i64 a0.Faulty, .int .i64 a0.Workers, .int .i64 a0.Height, .int .i64 a0.Bits, .int .i64 a0.Jobs, .int .i64 a0.Term, .int .i64 a0.Heads]
 obtain ⟨g1, w2, hy3, C4⟩ := ev_box (P := Tryz.prog) 42 (.agg (List.toArray q1)) q1 C rfl
 refine WL.val (hy3 _ _ _ rfl) ?_
 refine WL.run to 1 rfl ?_
 refine WL.done ?_
 refine W.seq ?_
 refine W.region rfl ?_
 refine WL.run to 1 rfl ?_
 refine WL.val (Yl.loadV (g := g1) (off := 0) (o := 0) (cs := q1) (v := .int .i64 a0.Faulty) rfl Tryz.underlying3 rfl (Ctx.subI 0 C4 rfl) rfl) ?_
 refine WL.run to 3 rfl ?_
 refine WL.done ?_
 refine W.ret ?_
 have C5 : Ctx _ _ _ _ _ [] := Ctx.pick [] C4 rfl
 have e6 := Option.some.inj H
 subst e6
 exact post_r (resE1 rfl rfl) ⟨rfl, C5⟩
def docket_New.f (k : Nat) (a0 : TConfig) : Option (TState × Int) := (docket_Check.f k a0).bind fun r10 => if r10 = 0 then (if 0 ≤ a0.Workers ∧ a0.Workers * 8 ≤ 140737488355328 then (if 0 ≤ a0.Workers ∧ a0.Workers * 1 ≤ 140737488355328 then (some ((⟨([] : List TEra), ([] : List TJob), (List.replicate a0.Workers.toNat (0 : Int)), (List.replicate a0.Workers.toNat (false : Bool)), 0⟩ : TState), 0)) else none) else none) else (some ((⟨([] : List TEra), ([] : List TJob), ([] : List Int), ([] : List Bool), 0⟩ : TState), r10))
set_option maxRecDepth 100000 in
set_option maxHeartbeats 4000000 in
theorem docket_New.calls (k : Nat) (w : World) (F : CH) (a0 : TConfig) (hp : Pre w F [])  (r0_ : TState) (r1_ : Int) (H : docket_New.f k a0 = some (r0_, r1_)) :
    Calls Tryz.prog 14 #[.agg (List.toArray [.int .i64 a0.Faulty, .int .i64 a0.Workers, .int .i64 a0.Height, .int .i64 a0.Bits, .int .i64 a0.Jobs, .int .i64 a0.Term, .int .i64 a0.Heads])] w fun e w' => ∃ (A159 : Option Addr) (c160 : Nat) (n161 : Nat) (p163 : CH) (A165 : Option Addr) (c166 : Nat) (n167 : Nat) (p169 : CH) (A171 : Option Addr) (c172 : Nat) (n173 : Nat) (p175 : CH) (A177 : Option Addr) (c178 : Nat) (n179 : Nat) (p181 : CH), e = .returned (.tuple #[(.agg (List.toArray [.slice A159 n161 c160, .slice A165 n167 c166, .slice A171 n173 c172, .slice A177 n179 c178, .int .i64 r0_.Heads])), (.int .i64 r1_)]) ∧ Ctx w F (domL []) w' F [p163, p169, p175, p181] ∧ n161 = r0_.Eras.length ∧ Row TEra.K F p163 (.slice A159 n161 c160) r0_.Eras ∧ n167 = r0_.Jobs.length ∧ Row TJob.K F p169 (.slice A165 n167 c166) r0_.Jobs ∧ n173 = r0_.Used.length ∧ Row (Kd.int .i64) F p175 (.slice A171 n173 c172) r0_.Used ∧ n179 = r0_.Barred.length ∧ Row Kd.bool F p181 (.slice A177 n179 c178) r0_.Barred := by
 have C := Ctx.start hp
 generalize hD : domL [] = D at C ⊢
 unfold docket_New.f at H
 refine Calls.ofW Tryz.func14 rfl (by simp [Tryz.ntmps14]) ?_
 refine W.seq ?_
 refine W.region rfl ?_
 let q1 : List Go.Value := [.int .i64 a0.Faulty, .int .i64 a0.Workers, .int .i64 a0.Height, .int .i64 a0.Bits, .int .i64 a0.Jobs, .int .i64 a0.Term, .int .i64 a0.Heads]
 obtain ⟨g1, w2, hy3, C4⟩ := ev_box (P := Tryz.prog) 42 (.agg (List.toArray q1)) q1 C rfl
 refine WL.val (hy3 _ _ _ rfl) ?_
 let q2 : List Go.Value := [.slice none 0 0, .slice none 0 0, .slice none 0 0, .slice none 0 0, .int .i64 0]
 obtain ⟨g5, w6, hy7, C8⟩ := ev_alloc (P := Tryz.prog) (e := 50) q2 C4 zr50 rfl
 refine WL.val (hy7 _ _) ?_
 refine WL.run to 1 rfl ?_
 refine WL.done ?_
 refine W.seq ?_
 refine W.seq ?_
 refine W.region rfl ?_
 refine WL.val (Yl.loadVA (g := g1) (off := 0) (o := 0) (cs := q1) (us := q1) rfl Tryz.underlying42 rfl sz42 (Ctx.subI 1 C8 rfl) rfl) ?_
 obtain ⟨r10, hg9, H⟩ := bindE H
 refine WL.callH (docket_Check.calls k _ F a0 (Ctx.pre (qs := []) (rest := [CH.row g5 0 q2, CH.row g1 0 q1]) C8)  r10 hg9) (Yenter.fn Tryz.func39 (by kernel_rfl) rfl (argsE (.cons rfl .nil))) ?_
 rintro e_ w_ ⟨rfl, C11⟩
 refine ⟨_, rfl, ?_⟩
 have C12 : Ctx _ _ _ _ _ [CH.row g5 0 q2, CH.row g1 0 q1] := Ctx.call (qs := []) (rest := [CH.row g5 0 q2, CH.row g1 0 q1]) C8 C11
 refine WL.run to 1 rfl ?_
 refine WL.done ?_
 refine W.seq ?_
 refine W.region rfl ?_
 refine WL.run to 2 rfl ?_
 refine WL.done ?_
 rcases iteE H with ⟨hc13, H⟩ | ⟨hc13, H⟩
 ·refine W.condF (congrArg Value.bool (ndec_t hc13)) ?_
  refine W.skip ?_
  refine W.seq ?_
  refine W.regionA [([7], CH.row g1 0 q1)] (by kernel_rfl) ?_
  have C38 := Ctx.drewN C12 1
  refine WA.takes [(0, none), (1, some 0), (3, none), (4, some 0)] ⟨(Ctx.subI 1 C38 rfl), trivial⟩ (by kernel_rfl) ?_
  refine WT.run to 1 rfl ?_
  refine WT.val rfl (fun _ hC_ => Yl.loadV (g := g1) (off := 0) (o := 1) (cs := q1) (v := .int .i64 a0.Workers) rfl Tryz.underlying3 rfl (show Sub (CH.row g1 0 q1) _ from hC_) rfl) ?_
  refine WT.run to 1 rfl ?_
  refine WT.val rfl (fun _ hC_ => Yl.loadV (g := g1) (off := 0) (o := 1) (cs := q1) (v := .int .i64 a0.Workers) rfl Tryz.underlying3 rfl (show Sub (CH.row g1 0 q1) _ from hC_) rfl) ?_
  refine WT.done ?_
  obtain ⟨hc60, H⟩ := guardE H
  obtain ⟨hc61, H⟩ := guardE H
  refine WA.par (fun L_ env_ w_ => ∃ (A81 : Option Addr) (c82 : Nat) (n83 : Nat) (p87 : CH) (A88 : Option Addr) (c89 : Nat) (n90 : Nat) (p94 : CH), Ctx w F D w_ F [p87, p94, CH.row g5 0 q2, CH.row g1 0 q1] ∧ env_ 2 = .pointer (some ⟨g5, 0, none⟩) ∧ env_ 3 = .int .i64 0 ∧ env_ 12 = .int .i64 a0.Workers ∧ env_ 15 = .int .i64 a0.Workers ∧ cond (L_ 2) (env_ 13 = .slice A81 n83 c82 ∧ n83 = (List.replicate a0.Workers.toNat (0 : Int)).length ∧ Row (Kd.int .i64) F p87 (.slice A81 n83 c82) (List.replicate a0.Workers.toNat (0 : Int))) (True) ∧ cond (L_ 5) (env_ 16 = .slice A88 n90 c89 ∧ n90 = (List.replicate a0.Workers.toNat (false : Bool)).length ∧ Row Kd.bool F p94 (.slice A88 n90 c89) (List.replicate a0.Workers.toNat (false : Bool))) (True)) [(2, [], []), (5, [], [])] [0, 1, 3, 4] [0, 1, 2, 3, 4, 5] #[true, true, true, true, true, true, false, false, false] 3 2 (by kernel_rfl) ?_ (.cons ?_ (.cons ?_ .nil)) ?_
  ·have C95 := Ctx.emp C38
   have C96 := Ctx.emp C95
   exact ⟨none, 0, 0, CH.emp, none, 0, 0, CH.emp, C96, rfl, rfl, rfl, rfl, (iF rfl trivial), (iF rfl trivial)⟩
  ·intro L_ env_ w_ hk_ hI_
   obtain ⟨k105, _⟩ := hk_
   obtain ⟨A81, c82, n83, p87, A88, c89, n90, p94, C97, ho99, ho100, ho101, ho102, hT103, hT104⟩ := hI_
   obtain ⟨A106, c107, n108, p109, w110, hn111, hy112, C113, hR114⟩ := ev_make' (P := Tryz.prog) 3 (Kd.int .i64) C97 Tryz.underlying47 ti3 0 rfl (by decide) a0.Workers hc60
   refine UpI.val rfl rfl (hy112 _ _ _ _ _ _ ho101 ho101) ⟨(Ctx.subI 4 C113 rfl), trivial⟩ ?_
   have C115 : Ctx _ _ _ _ _ [p109, p94, CH.row g5 0 q2, CH.row g1 0 q1] := Ctx.pick [0, 2, 3, 4] C113 rfl
   exact ⟨A106, c107, n108, p109, A88, c89, n90, p94, C115, ho99, ho100, ho101, ho102, (iT rfl ⟨rfl, hn111, hR114⟩), hT104⟩
  ·intro L_ env_ w_ hk_ hI_
   obtain ⟨k124, _⟩ := hk_
   obtain ⟨A81, c82, n83, p87, A88, c89, n90, p94, C116, ho118, ho119, ho120, ho121, hT122, hT123⟩ := hI_
   obtain ⟨A125, c126, n127, p128, w129, hn130, hy131, C132, hR133⟩ := ev_make' (P := Tryz.prog) 4 Kd.bool C116 Tryz.underlying48 ti4 false rfl (by decide) a0.Workers hc61
   refine UpI.val rfl rfl (hy131 _ _ _ _ _ _ ho121 ho121) ⟨(Ctx.subI 4 C132 rfl), trivial⟩ ?_
   have C134 : Ctx _ _ _ _ _ [p87, p128, CH.row g5 0 q2, CH.row g1 0 q1] := Ctx.pick [1, 0, 3, 4] C132 rfl
   exact ⟨A81, c82, n83, p87, A125, c126, n127, p128, C134, ho118, ho119, ho120, ho121, hT122, (iT rfl ⟨rfl, hn130, hR133⟩)⟩
  ·rintro env_ w_ ⟨A81, c82, n83, p87, A88, c89, n90, p94, C135, ho137, ho138, ho139, ho140, hT141, hT142⟩
   obtain ⟨e143, hn84, hR86⟩ := cT rfl hT141
   obtain ⟨e144, hn91, hR93⟩ := cT rfl hT142
   refine WA.takes [(6, none)] ⟨(Ctx.subI 3 C135 rfl), trivial⟩ (by kernel_rfl) ?_
   let q3 : List Go.Value := [.slice none 0 0, .slice none 0 0, .slice A81 n83 c82, .slice A88 n90 c89, .int .i64 0]
   refine WT.val rfl (fun _ hC_ => Yl.build (places := [(0, 1), (1, 1), (2, 1), (3, 1), (4, 1)]) (cs := List.toArray q3) Tryz.underlying50 zr50 (pl50 _ Tryz.underlying50) (partsB (.cons (by exact e143) (.cons (by exact e144) .nil))) rfl) ?_
   refine WT.done ?_
   obtain ⟨w145, hy146, C147⟩ := ev_setI (P := Tryz.prog) (ps1 := [p87, p94]) (ps2 := [CH.row g1 0 q1]) (t := 50) 0 q3 (.agg (List.toArray q3)) C135 rfl rfl (ones_of rfl) sz50
   have C148 : Ctx _ _ _ _ _ [p87, p94, CH.row g5 0 q3, CH.row g1 0 q1] := C147
   refine WA.up1 7 (by kernel_rfl) (Up.skip rfl rfl (hy146 _ _ _ _ ho137 rfl) ⟨trivial, trivial⟩ ?_)
   refine WA.takes [(8, none)] ⟨(Ctx.subI 3 C148 rfl), trivial⟩ (by kernel_rfl) ?_
   refine WT.run to 1 rfl ?_
   refine WT.done ?_
   refine WA.done (by kernel_rfl) ?_
   refine W.ret ?_
   have C149 : Ctx _ _ _ _ _ [CH.emp, CH.emp, p87, p94] := Ctx.pick [4, 4, 0, 1] C148 rfl
   simp only [Option.some.injEq, Prod.mk.injEq] at H
   obtain ⟨e150, e151⟩ := H
   subst e150 e151
   exact post_r (resET rfl ((.cell ho137 (run_loadVA2 (g := g5) (off := 0) (o := 0) (cs := q3) (us := q3) Tryz.underlying50 rfl sz50 (Ctx.subI 2 C148 rfl) rfl) (.tmp rfl .nil))) rfl) ⟨none, 0, 0, CH.emp, none, 0, 0, CH.emp, A81, c82, n83, p87, A88, c89, n90, p94, rfl, C149, rfl, (Row.nil _ _), rfl, (Row.nil _ _), hn84, hR86, hn91, hR93⟩
 ·refine W.condT (congrArg Value.bool (ndec_f hc13)) ?_
  refine W.seq ?_
  refine W.region rfl ?_
  refine WL.val (Yl.build (places := [(0, 1), (1, 1), (2, 1), (3, 1), (4, 1)]) (cs := List.toArray q2) Tryz.underlying50 zr50 (pl50 _ Tryz.underlying50) (partsB .nil) rfl) ?_
  refine WL.run to 1 rfl ?_
  obtain ⟨w152, hy153, C154⟩ := ev_setI (P := Tryz.prog) (ps1 := []) (ps2 := [CH.row g1 0 q1]) (t := 50) 0 q2 (.agg (List.toArray q2)) C12 rfl rfl (ones_of rfl) sz50
  have C155 : Ctx _ _ _ _ _ [CH.row g5 0 q2, CH.row g1 0 q1] := C154
  refine WL.skip (hy153 _ _ _ _ rfl rfl) ?_
  refine WL.run to 1 rfl ?_
  refine WL.done ?_
  refine W.ret ?_
  refine thenE_r ?_
  have C156 : Ctx _ _ _ _ _ [CH.emp, CH.emp, CH.emp, CH.emp] := Ctx.pick [2, 2, 2, 2] C155 rfl
  simp only [Option.some.injEq, Prod.mk.injEq] at H
  obtain ⟨e157, e158⟩ := H
  subst e157 e158
  exact post_r (resET rfl ((.cell rfl (run_loadVA2 (g := g5) (off := 0) (o := 0) (cs := q2) (us := q2) Tryz.underlying50 rfl sz50 (Ctx.subI 0 C155 rfl) rfl) (.tmp rfl .nil))) rfl) ⟨none, 0, 0, CH.emp, none, 0, 0, CH.emp, none, 0, 0, CH.emp, none, 0, 0, CH.emp, rfl, C156, rfl, (Row.nil _ _), rfl, (Row.nil _ _), rfl, (Row.nil _ _), rfl, (Row.nil _ _)⟩
def docket_Epoch.f (k : Nat) (a0 : TState) : Option Int := if (a0.Eras.length : Int) > 0 then (if 0 ≤ (wi64 ((a0.Eras.length : Int) - 1)) ∧ (wi64 ((a0.Eras.length : Int) - 1)) < (a0.Eras.length : Int) then (some ((a0.Eras.getD (wi64 ((a0.Eras.length : Int) - 1)).toNat TEra.z).Epoch)) else none) else (some 0)
set_option maxRecDepth 100000 in
set_option maxHeartbeats 4000000 in
theorem docket_Epoch.calls (k : Nat) (w : World) (F : CH) (A1 : Option Addr) (c2 : Nat) (n3 : Nat) (A8 : Option Addr) (c9 : Nat) (n10 : Nat) (A15 : Option Addr) (c16 : Nat) (n17 : Nat) (A22 : Option Addr) (c23 : Nat) (n24 : Nat) (a0 : TState) (hp : Pre w F []) (hn4 : n3 = a0.Eras.length) (hl5 : a0.Eras.length ≤ c2) (hm6 : c2 ≤ maxLen) (hS7 : Sl TEra.K F F A1 a0.Eras) (hn11 : n10 = a0.Jobs.length) (hl12 : a0.Jobs.length ≤ c9) (hm13 : c9 ≤ maxLen) (hS14 : Sl TJob.K F F A8 a0.Jobs) (hn18 : n17 = a0.Used.length) (hl19 : a0.Used.length ≤ c16) (hm20 : c16 ≤ maxLen) (hS21 : Sl (Kd.int .i64) F F A15 a0.Used) (hn25 : n24 = a0.Barred.length) (hl26 : a0.Barred.length ≤ c23) (hm27 : c23 ≤ maxLen) (hS28 : Sl Kd.bool F F A22 a0.Barred) (r0_ : Int) (H : docket_Epoch.f k a0 = some r0_) :
    Calls Tryz.prog 21 #[.agg (List.toArray [.slice A1 n3 c2, .slice A8 n10 c9, .slice A15 n17 c16, .slice A22 n24 c23, .int .i64 a0.Heads])] w fun e w' => e = .returned (.int .i64 r0_) ∧ Ctx w F (domL []) w' F [] := by
 have C := Ctx.start hp
 generalize hD : domL [] = D at C ⊢
 unfold docket_Epoch.f at H
 refine Calls.ofW Tryz.func21 rfl (by simp [Tryz.ntmps21]) ?_
 refine W.seq ?_
 refine W.region rfl ?_
 let q1 : List Go.Value := [.slice A1 n3 c2, .slice A8 n10 c9, .slice A15 n17 c16, .slice A22 n24 c23, .int .i64 a0.Heads]
 obtain ⟨g29, w30, hy31, C32⟩ := ev_box (P := Tryz.prog) 50 (.agg (List.toArray q1)) q1 C rfl
 refine WL.val (hy31 _ _ _ rfl) ?_
 refine WL.run to 1 rfl ?_
 refine WL.done ?_
 refine W.seq ?_
 refine W.seq ?_
 refine W.region rfl ?_
 refine WL.run to 1 rfl ?_
 refine WL.val (Yl.loadV (g := g29) (off := 0) (o := 0) (cs := q1) (v := .slice A1 n3 c2) rfl Tryz.underlying45 rfl (Ctx.subI 0 C32 rfl) rfl) ?_
 refine WL.val (Yl.lenN (A := A1) (l := n3) (q := c2) (n := (a0.Eras.length : Int)) rfl Tryz.underlying45 (by omega)) ?_
 refine WL.run to 1 rfl ?_
 refine WL.done ?_
 refine W.seq ?_
 refine W.region rfl ?_
 refine WL.run to 2 rfl ?_
 refine WL.done ?_
 rcases iteE H with ⟨hc33, H⟩ | ⟨hc33, H⟩
 ·refine W.condT (congrArg Value.bool (decide_eq_true hc33)) ?_
  refine W.seq ?_
  refine W.region rfl ?_
  refine WL.run to 1 rfl ?_
  refine WL.val (Yl.loadV (g := g29) (off := 0) (o := 0) (cs := q1) (v := .slice A1 n3 c2) rfl Tryz.underlying45 rfl (Ctx.subI 0 C32 rfl) rfl) ?_
  refine WL.run to 2 rfl ?_
  obtain ⟨hc34, H⟩ := guardE H
  obtain ⟨b35, of36, hA37, he38⟩ := hS7 (by omega)
  refine WL.val (Yl.elemAddr (i := wi64 ((a0.Eras.length : Int) - 1)) rfl rfl hA37 Tryz.underlying45 sz94 (by omega)) ?_
  refine WL.run to 1 rfl ?_
  obtain ⟨cs39, hr40, hx41⟩ := he38 (wi64 ((a0.Eras.length : Int) - 1)).toNat _ (getD_some (d := TEra.z) (by omega))
  obtain ⟨rfl, ha42⟩ := TEra.open hr40
  refine WL.val (Yl.load (v := .int .i64 ((a0.Eras.getD (wi64 ((a0.Eras.length : Int) - 1)).toNat TEra.z).Epoch)) rfl Tryz.underlying3 rfl (((C32.fro)).cell (hx41 0 _ rfl))) ?_
  refine WL.run to 1 rfl ?_
  refine WL.done ?_
  refine W.ret ?_
  refine thenE_r ?_
  have C43 : Ctx _ _ _ _ _ [] := Ctx.pick [] C32 rfl
  have e44 := Option.some.inj H
  subst e44
  exact post_r (resE1 rfl rfl) ⟨rfl, C43⟩
 ·refine W.condF (congrArg Value.bool (decide_eq_false hc33)) ?_
  refine W.skip ?_
  refine W.seq ?_
  refine W.region rfl ?_
  refine WL.run to 1 rfl ?_
  refine WL.done ?_
  refine W.ret ?_
  have C45 : Ctx _ _ _ _ _ [] := Ctx.pick [] C32 rfl
  have e46 := Option.some.inj H
  subst e46
  exact post_r (resE1 rfl rfl) ⟨rfl, C45⟩
def docket_Epoch_raw.f (k : Nat) (a0 : TState) : Option Int := if (a0.Eras.length : Int) > 0 then (if 0 ≤ (wi64 ((a0.Eras.length : Int) - 1)) ∧ (wi64 ((a0.Eras.length : Int) - 1)) < (a0.Eras.length : Int) then (some ((a0.Eras.getD (wi64 ((a0.Eras.length : Int) - 1)).toNat TEra.z).Epoch)) else none) else (some 0)
set_option maxRecDepth 100000 in
set_option maxHeartbeats 4000000 in
theorem docket_Epoch_raw.calls (k : Nat) (w : World) (F : CH) (A1 : Option Addr) (c2 : Nat) (n3 : Nat) (A8 : Option Addr) (c9 : Nat) (n10 : Nat) (A11 : Option Addr) (c12 : Nat) (n13 : Nat) (A14 : Option Addr) (c15 : Nat) (n16 : Nat) (a0 : TState) (hp : Pre w F []) (hn4 : n3 = a0.Eras.length) (hl5 : a0.Eras.length ≤ c2) (hm6 : c2 ≤ maxLen) (hS7 : Sl TEra.K F F A1 a0.Eras) (r0_ : Int) (H : docket_Epoch_raw.f k a0 = some r0_) :
    Calls Tryz.prog 21 #[.agg (List.toArray [.slice A1 n3 c2, .slice A8 n10 c9, .slice A11 n13 c12, .slice A14 n16 c15, .int .i64 a0.Heads])] w fun e w' => e = .returned (.int .i64 r0_) ∧ Ctx w F (domL []) w' F [] := by
 have C := Ctx.start hp
 generalize hD : domL [] = D at C ⊢
 unfold docket_Epoch_raw.f at H
 refine Calls.ofW Tryz.func21 rfl (by simp [Tryz.ntmps21]) ?_
 refine W.seq ?_
 refine W.region rfl ?_
 let q1 : List Go.Value := [.slice A1 n3 c2, .slice A8 n10 c9, .slice A11 n13 c12, .slice A14 n16 c15, .int .i64 a0.Heads]
 obtain ⟨g17, w18, hy19, C20⟩ := ev_box (P := Tryz.prog) 50 (.agg (List.toArray q1)) q1 C rfl
 refine WL.val (hy19 _ _ _ rfl) ?_
 refine WL.run to 1 rfl ?_
 refine WL.done ?_
 refine W.seq ?_
 refine W.seq ?_
 refine W.region rfl ?_
 refine WL.run to 1 rfl ?_
 refine WL.val (Yl.loadV (g := g17) (off := 0) (o := 0) (cs := q1) (v := .slice A1 n3 c2) rfl Tryz.underlying45 rfl (Ctx.subI 0 C20 rfl) rfl) ?_
 refine WL.val (Yl.lenN (A := A1) (l := n3) (q := c2) (n := (a0.Eras.length : Int)) rfl Tryz.underlying45 (by omega)) ?_
 refine WL.run to 1 rfl ?_
 refine WL.done ?_
 refine W.seq ?_
 refine W.region rfl ?_
 refine WL.run to 2 rfl ?_
 refine WL.done ?_
 rcases iteE H with ⟨hc21, H⟩ | ⟨hc21, H⟩
 ·refine W.condT (congrArg Value.bool (decide_eq_true hc21)) ?_
  refine W.seq ?_
  refine W.region rfl ?_
  refine WL.run to 1 rfl ?_
  refine WL.val (Yl.loadV (g := g17) (off := 0) (o := 0) (cs := q1) (v := .slice A1 n3 c2) rfl Tryz.underlying45 rfl (Ctx.subI 0 C20 rfl) rfl) ?_
  refine WL.run to 2 rfl ?_
  obtain ⟨hc22, H⟩ := guardE H
  obtain ⟨b23, of24, hA25, he26⟩ := hS7 (by omega)
  refine WL.val (Yl.elemAddr (i := wi64 ((a0.Eras.length : Int) - 1)) rfl rfl hA25 Tryz.underlying45 sz94 (by omega)) ?_
  refine WL.run to 1 rfl ?_
  obtain ⟨cs27, hr28, hx29⟩ := he26 (wi64 ((a0.Eras.length : Int) - 1)).toNat _ (getD_some (d := TEra.z) (by omega))
  obtain ⟨rfl, ha30⟩ := TEra.open hr28
  refine WL.val (Yl.load (v := .int .i64 ((a0.Eras.getD (wi64 ((a0.Eras.length : Int) - 1)).toNat TEra.z).Epoch)) rfl Tryz.underlying3 rfl (((C20.fro)).cell (hx29 0 _ rfl))) ?_
  refine WL.run to 1 rfl ?_
  refine WL.done ?_
  refine W.ret ?_
  refine thenE_r ?_
  have C31 : Ctx _ _ _ _ _ [] := Ctx.pick [] C20 rfl
  have e32 := Option.some.inj H
  subst e32
  exact post_r (resE1 rfl rfl) ⟨rfl, C31⟩
 ·refine W.condF (congrArg Value.bool (decide_eq_false hc21)) ?_
  refine W.skip ?_
  refine W.seq ?_
  refine W.region rfl ?_
  refine WL.run to 1 rfl ?_
  refine WL.done ?_
  refine W.ret ?_
  have C33 : Ctx _ _ _ _ _ [] := Ctx.pick [] C20 rfl
  have e34 := Option.some.inj H
  subst e34
  exact post_r (resE1 rfl rfl) ⟨rfl, C33⟩
def docket_Nonce.l1 : Nat → TState → Int → Int → Option (Sum Unit ((List Int) × Bool))
  | 0, _, _, _ => none
  | k + 1, a0, a1, x101 => if x101 < (a0.Eras.length : Int) then (if 0 ≤ x101 ∧ x101 < (a0.Eras.length : Int) then (if ((a0.Eras.getD x101.toNat TEra.z).Epoch) = a1 then (some (Sum.inr ((a0.Eras.getD x101.toNat TEra.z).Nonce, true))) else (docket_Nonce.l1 k a0 a1 (wi64 (x101 + 1)))) else none) else (some (Sum.inl ()))
def docket_Nonce.f (k : Nat) (a0 : TState) (a1 : Int) : Option ((List Int) × Bool) := (docket_Nonce.l1 k a0 a1 0).bind fun o_ => sumE o_ (fun _ => some ((List.replicate 32 (0 : Int)), false)) (fun p_ => some p_)
set_option maxRecDepth 100000 in
set_option maxHeartbeats 4000000 in
theorem docket_Nonce.calls (k : Nat) (w : World) (F : CH) (A1 : Option Addr) (c2 : Nat) (n3 : Nat) (A8 : Option Addr) (c9 : Nat) (n10 : Nat) (A15 : Option Addr) (c16 : Nat) (n17 : Nat) (A22 : Option Addr) (c23 : Nat) (n24 : Nat) (a0 : TState) (a1 : Int) (hp : Pre w F []) (hn4 : n3 = a0.Eras.length) (hl5 : a0.Eras.length ≤ c2) (hm6 : c2 ≤ maxLen) (hS7 : Sl TEra.K F F A1 a0.Eras) (hn11 : n10 = a0.Jobs.length) (hl12 : a0.Jobs.length ≤ c9) (hm13 : c9 ≤ maxLen) (hS14 : Sl TJob.K F F A8 a0.Jobs) (hn18 : n17 = a0.Used.length) (hl19 : a0.Used.length ≤ c16) (hm20 : c16 ≤ maxLen) (hS21 : Sl (Kd.int .i64) F F A15 a0.Used) (hn25 : n24 = a0.Barred.length) (hl26 : a0.Barred.length ≤ c23) (hm27 : c23 ≤ maxLen) (hS28 : Sl Kd.bool F F A22 a0.Barred) (r0_ : List Int) (r1_ : Bool) (H : docket_Nonce.f k a0 a1 = some (r0_, r1_)) :
    Calls Tryz.prog 74 #[.agg (List.toArray [.slice A1 n3 c2, .slice A8 n10 c9, .slice A15 n17 c16, .slice A22 n24 c23, .int .i64 a0.Heads]), .int .i64 a1] w fun e w' => e = .returned (.tuple #[(.agg (List.toArray (r0_.map (Value.int .u8)))), (.bool r1_)]) ∧ Ctx w F (domL []) w' F [] ∧ r0_.length = 32 := by
 have C := Ctx.start hp
 generalize hD : domL [] = D at C ⊢
 unfold docket_Nonce.f at H
 refine Calls.ofW Tryz.func74 rfl (by simp [Tryz.ntmps74]) ?_
 refine W.seq ?_
 refine W.region rfl ?_
 let q1 : List Go.Value := [.slice A1 n3 c2, .slice A8 n10 c9, .slice A15 n17 c16, .slice A22 n24 c23, .int .i64 a0.Heads]
 obtain ⟨g29, w30, hy31, C32⟩ := ev_box (P := Tryz.prog) 50 (.agg (List.toArray q1)) q1 C rfl
 refine WL.val (hy31 _ _ _ rfl) ?_
 obtain ⟨g33, w34, hy35, C36⟩ := ev_alloc (P := Tryz.prog) (e := 23) ((List.replicate 32 (0 : Int)).map (Value.int .u8)) C32 zr23 rfl
 refine WL.val (hy35 _ _) ?_
 refine WL.run to 1 rfl ?_
 refine WL.done ?_
 refine W.seq ?_
 refine W.seq ?_
 refine W.region rfl ?_
 refine WL.run to 1 rfl ?_
 refine WL.val (Yl.loadV (g := g29) (off := 0) (o := 0) (cs := q1) (v := .slice A1 n3 c2) rfl Tryz.underlying45 rfl (Ctx.subI 1 C36 rfl) rfl) ?_
 refine WL.val (Yl.lenN (A := A1) (l := n3) (q := c2) (n := (a0.Eras.length : Int)) rfl Tryz.underlying45 (by omega)) ?_
 refine WL.run to 1 rfl ?_
 refine WL.done ?_
 obtain ⟨o95, hX94, H⟩ := bindE H
 refine W.cutM (fun env_ w_ => env_ 4 = .pointer (some ⟨g33, 0, none⟩) ∧ Ctx w F D w_ F [CH.row g33 0 ((List.replicate 32 (0 : Int)).map (Value.int .u8)), CH.row g29 0 q1] ∧ o95 = Sum.inl ()) ?_ ?_
 ·refine W.block ?_
  refine W.loop (fun g_ env_ w_ => ∃ (x101 : Int), env_ 1 = .int .i64 a1 ∧ env_ 4 = .pointer (some ⟨g33, 0, none⟩) ∧ env_ 9 = .slice A1 n3 c2 ∧ env_ 10 = .int .i64 (a0.Eras.length : Int) ∧ env_ 11 = .int .i64 x101 ∧ Ctx w F D w_ F [CH.row g33 0 ((List.replicate 32 (0 : Int)).map (Value.int .u8)), CH.row g29 0 q1] ∧ docket_Nonce.l1 g_ a0 a1 x101 = some o95) k ⟨0, rfl, rfl, rfl, rfl, rfl, C36, hX94⟩ ?_
  clear hX94
  rintro g_ env_ w_ ⟨x101, ho96, ho97, ho98, ho99, ho100, C102, hX94⟩
  rcases g_ with _ | k126
  · exact absurd hX94 (by simp [docket_Nonce.l1])
  rw [docket_Nonce.l1] at hX94
  apply kn env_ (.c ho96 (.c ho97 (.c ho98 (.c ho99 (.c ho100 .n)))))
  refine W.seq ?_
  refine W.region rfl ?_
  refine WL.run to 1 rfl ?_
  refine WL.done ?_
  refine W.seq ?_
  rcases iteE hX94 with ⟨hc127, hX94⟩ | ⟨hc127, hX94⟩
  ·refine W.condT (congrArg Value.bool (decide_eq_true hc127)) ?_
   refine W.skip ?_
   refine W.seq ?_
   refine W.block ?_
   refine W.seq ?_
   refine W.region rfl ?_
   obtain ⟨hc128, hX94⟩ := guardE hX94
   obtain ⟨b129, of130, hA131, he132⟩ := hS7 (by omega)
   refine WL.val (Yl.elemAddr (i := x101) rfl rfl hA131 Tryz.underlying45 sz94 (by omega)) ?_
   obtain ⟨cs133, hr134, hx135⟩ := he132 x101.toNat _ (getD_some (d := TEra.z) (by omega))
   obtain ⟨rfl, ha136⟩ := TEra.open hr134
   let q2 : List Go.Value := [.int .i64 ((a0.Eras.getD x101.toNat TEra.z).Epoch)] ++ (((a0.Eras.getD x101.toNat TEra.z).Nonce).map (Value.int .u8))
   refine WL.val (Yl.loadAgg (cs := q2) rfl Tryz.underlying94 rfl (sz_of sz94 (len_app rfl (len_map ha136))) (fun j u hu => by rw [add_of]; exact ((C102.fro)).cell (hx135 _ _ hu))) ?_
   let q3 : List Go.Value := [.int .i64 0] ++ ((List.replicate 32 (0 : Int)).map (Value.int .u8))
   obtain ⟨g137, w138, hy139, C140⟩ := ev_alloc (P := Tryz.prog) (e := 94) q3 C102 zr94 rfl
   refine WL.val (hy139 _ _) ?_
   obtain ⟨w141, hy142, C143⟩ := ev_put (P := Tryz.prog) (ps1 := []) (ps2 := [CH.row g33 0 ((List.replicate 32 (0 : Int)).map (Value.int .u8)), CH.row g29 0 q1]) (t := 94) q2 (.agg (List.toArray q2)) C140 (Put.all 33 (len_app rfl (len_map (List.length_replicate ..))) (len_app rfl (len_map ha136))) rfl (ones_append (ones_of rfl) (one_ints _ _)) (sz_of sz94 (len_app rfl (len_map ha136)))
   have C144 : Ctx _ _ _ _ _ [CH.row g137 0 q2, CH.row g33 0 ((List.replicate 32 (0 : Int)).map (Value.int .u8)), CH.row g29 0 q1] := C143
   refine WL.skip (hy142 _ _ _ _ rfl rfl) ?_
   refine WL.done ?_
   refine W.seq ?_
   refine W.region rfl ?_
   refine WL.run to 1 rfl ?_
   refine WL.val (Yl.loadV (g := g137) (off := 0) (o := 0) (cs := q2) (v := .int .i64 ((a0.Eras.getD x101.toNat TEra.z).Epoch)) rfl Tryz.underlying3 rfl (Ctx.subI 0 C144 rfl) rfl) ?_
   refine WL.run to 2 rfl ?_
   refine WL.done ?_
   rcases iteE hX94 with ⟨hc145, hX94⟩ | ⟨hc145, hX94⟩
   ·refine W.condT (congrArg Value.bool (decide_eq_true hc145)) ?_
    refine W.seq ?_
    refine W.region rfl ?_
    refine WL.run to 1 rfl ?_
    refine WL.val (Yl.loadVA (g := g137) (off := 0) (o := 1) (cs := q2) (us := ((a0.Eras.getD x101.toNat TEra.z).Nonce).map (Value.int .u8)) rfl Tryz.underlying23 rfl (sz_of sz23 (len_map ha136)) (Ctx.subI 0 C144 rfl) (mid_skip 1 0 rfl (mid_all rfl))) ?_
    obtain ⟨w146, hy147, C148⟩ := ev_put (P := Tryz.prog) (ps1 := [CH.row g137 0 q2]) (ps2 := [CH.row g29 0 q1]) (t := 23) (((a0.Eras.getD x101.toNat TEra.z).Nonce).map (Value.int .u8)) (.agg (List.toArray (((a0.Eras.getD x101.toNat TEra.z).Nonce).map (Value.int .u8)))) C144 (Put.all 32 (len_map (List.length_replicate ..)) (len_map ha136)) rfl (one_ints _ _) (sz_of sz23 (len_map ha136))
    have C149 : Ctx _ _ _ _ _ [CH.row g137 0 q2, CH.row g33 0 (((a0.Eras.getD x101.toNat TEra.z).Nonce).map (Value.int .u8)), CH.row g29 0 q1] := C148
    refine WL.skip (hy147 _ _ _ _ rfl rfl) ?_
    refine WL.run to 1 rfl ?_
    refine WL.done ?_
    refine W.ret ?_
    refine inB_r ?_
    refine thenE_r ?_
    refine thenE_r ?_
    refine inB_r ?_
    refine thenE_r ?_
    refine thenE_r ?_
    cases hX94
    replace H := sumE_r H
    have C150 : Ctx _ _ _ _ _ [] := Ctx.pick [] C149 rfl
    simp only [Option.some.injEq, Prod.mk.injEq] at H
    obtain ⟨e151, e152⟩ := H
    subst e151 e152
    exact post_r (resET rfl ((.cell rfl (run_loadVA2 (g := g33) (off := 0) (o := 0) (cs := ((a0.Eras.getD x101.toNat TEra.z).Nonce).map (Value.int .u8)) (us := ((a0.Eras.getD x101.toNat TEra.z).Nonce).map (Value.int .u8)) Tryz.underlying23 rfl (sz_of sz23 (len_map ha136)) (Ctx.subI 1 C149 rfl) (take_all _)) (.tmp rfl .nil))) rfl) ⟨rfl, C150, ha136⟩
   ·refine W.condF (congrArg Value.bool (decide_eq_false hc145)) ?_
    refine W.skip ?_
    refine inB_n ?_
    refine W.region rfl ?_
    refine WL.run to 2 rfl ?_
    refine WL.done ?_
    have C153 : Ctx _ _ _ _ _ [CH.row g33 0 ((List.replicate 32 (0 : Int)).map (Value.int .u8)), CH.row g29 0 q1] := Ctx.pick [1, 2] C144 rfl
    exact thenE_n ⟨k126, Nat.lt_succ_self _, wi64 (x101 + 1), rfl, rfl, rfl, rfl, rfl, C153, hX94⟩
  ·refine W.condF (congrArg Value.bool (decide_eq_false hc127)) ?_
   refine W.exit ?_
   refine thenE_x ?_
   refine thenE_x ?_
   refine inB_here ?_
   cases hX94
   refine thenE_n ?_
   exact ⟨rfl, C102, rfl⟩
 ·rintro env_ w_ ⟨ho92, C93, rfl⟩
  replace H := sumE_l H
  apply kn env_ (.c ho92 .n)
  refine W.seq ?_
  refine W.region rfl ?_
  refine WL.val (Yl.buildArr (cs := List.toArray ((List.replicate 32 (0 : Int)).map (Value.int .u8))) Tryz.underlying23 sz5 zr23 (partsB .nil) rfl) ?_
  obtain ⟨w154, hy155, C156⟩ := ev_put (P := Tryz.prog) (ps1 := []) (ps2 := [CH.row g29 0 q1]) (t := 23) ((List.replicate 32 (0 : Int)).map (Value.int .u8)) (.agg (List.toArray ((List.replicate 32 (0 : Int)).map (Value.int .u8)))) C93 (Put.all 32 (len_map (List.length_replicate ..)) (len_map (List.length_replicate ..))) rfl (one_ints _ _) (sz_of sz23 (len_map (List.length_replicate ..)))
  have C157 : Ctx _ _ _ _ _ [CH.row g33 0 ((List.replicate 32 (0 : Int)).map (Value.int .u8)), CH.row g29 0 q1] := C156
  refine WL.skip (hy155 _ _ _ _ rfl rfl) ?_
  refine WL.run to 1 rfl ?_
  refine WL.done ?_
  refine W.ret ?_
  have C158 : Ctx _ _ _ _ _ [] := Ctx.pick [] C157 rfl
  simp only [Option.some.injEq, Prod.mk.injEq] at H
  obtain ⟨e159, e160⟩ := H
  subst e159 e160
  exact post_r (resET rfl ((.cell rfl (run_loadVA2 (g := g33) (off := 0) (o := 0) (cs := (List.replicate 32 (0 : Int)).map (Value.int .u8)) (us := (List.replicate 32 (0 : Int)).map (Value.int .u8)) Tryz.underlying23 rfl (sz_of sz23 (len_map (List.length_replicate ..))) (Ctx.subI 0 C157 rfl) (take_all _)) (.tmp rfl .nil))) rfl) ⟨rfl, C158, (List.length_replicate ..)⟩
def docket_may.l1 : Nat → TRecord → Int → Option (Sum Unit Bool)
  | 0, _, _ => none
  | k + 1, a0, x299 => if x299 < 4 then (if 0 ≤ x299 ∧ x299 < (4 : Int) then ((docket_between.f k ([a0.Epoch, a0.Job, a0.Time, a0.By].getD x299.toNat 0) 0 1099511627776).bind fun r312 => if r312 = true then (docket_may.l1 k a0 (wi64 (x299 + 1))) else (some (Sum.inr false))) else none) else (some (Sum.inl ()))
def docket_may.f (k : Nat) (a0 : TRecord) : Option Bool := (if a0.Kind = 1 then (if a0.Epoch < 1 then (some (Sum.inr false)) else (some (Sum.inl (0, (⟨a0.Kind, a0.Epoch, a0.Nonce, ([] : List Int), 0, 0, 0⟩ : TRecord))))) else (if a0.Kind = 2 then (some (Sum.inl (64, (⟨a0.Kind, 0, (List.replicate 32 (0 : Int)), ([] : List Int), 0, 0, 0⟩ : TRecord)))) else ((if a0.Kind = 3 then (some (decide (a0.Kind = 3))) else (some (decide (a0.Kind = 5)))).bind fun x220 => if x220 = true then (some (Sum.inl (0, (⟨a0.Kind, 0, (List.replicate 32 (0 : Int)), ([] : List Int), a0.Job, a0.Time, 0⟩ : TRecord)))) else (if a0.Kind = 4 then (some (Sum.inl (32, (⟨a0.Kind, 0, (List.replicate 32 (0 : Int)), ([] : List Int), a0.Job, 0, a0.By⟩ : TRecord)))) else (if a0.Kind = 6 then (some (Sum.inl (0, (⟨a0.Kind, 0, (List.replicate 32 (0 : Int)), ([] : List Int), 0, 0, 0⟩ : TRecord)))) else (some (Sum.inr false))))))).bind fun o_ => sumE o_ (fun ⟨x178, x179⟩ => (docket_may.l1 k a0 0).bind fun o_ => sumE o_ (fun _ => (if (a0.Data.length : Int) ≤ x178 then (if a0.Epoch = x179.Epoch then (if a0.Nonce = x179.Nonce then (if a0.Job = x179.Job then (if a0.Time = x179.Time then (some (decide (a0.By = x179.By))) else (some (false))) else (some (false))) else (some (false))) else (some (false))) else (some (false))).bind fun g318 => some g318) (fun p_ => some p_)) (fun p_ => some p_)
set_option maxRecDepth 100000 in
set_option maxHeartbeats 4000000 in
theorem docket_may.calls (k : Nat) (w : World) (F : CH) (A2 : Option Addr) (c3 : Nat) (n4 : Nat) (a0 : TRecord) (hp : Pre w F []) (ha1 : a0.Nonce.length = 32) (hn5 : n4 = a0.Data.length) (hl6 : a0.Data.length ≤ c3) (hm7 : c3 ≤ maxLen) (hS8 : Sl (Kd.int .u8) F F A2 a0.Data) (r0_ : Bool) (H : docket_may.f k a0 = some r0_) :
    Calls Tryz.prog 22 #[.agg (List.toArray ([.int .i64 a0.Kind, .int .i64 a0.Epoch] ++ (a0.Nonce.map (Value.int .u8) ++ [.slice A2 n4 c3, .int .i64 a0.Job, .int .i64 a0.Time, .int .i64 a0.By])))] w fun e w' => e = .returned (.bool r0_) ∧ Ctx w F (domL []) w' F [] := by
 have C := Ctx.start hp
 generalize hD : domL [] = D at C ⊢
 unfold docket_may.f at H
 refine Calls.ofW Tryz.func22 rfl (by simp [Tryz.ntmps22]) ?_
 refine W.seq ?_
 refine W.region rfl ?_
 let q1 : List Go.Value := [.int .i64 a0.Kind, .int .i64 a0.Epoch] ++ (a0.Nonce.map (Value.int .u8) ++ [.slice A2 n4 c3, .int .i64 a0.Job, .int .i64 a0.Time, .int .i64 a0.By])
 obtain ⟨g9, w10, hy11, C12⟩ := ev_box (P := Tryz.prog) 26 (.agg (List.toArray q1)) q1 C rfl
 refine WL.val (hy11 _ _ _ rfl) ?_
 refine WL.run to 1 rfl ?_
 refine WL.done ?_
 refine W.seq ?_
 refine W.region rfl ?_
 refine WL.run to 1 rfl ?_
 refine WL.val (Yl.loadV (g := g9) (off := 0) (o := 0) (cs := q1) (v := .int .i64 a0.Kind) rfl Tryz.underlying3 rfl (Ctx.subI 0 C12 rfl) rfl) ?_
 let q2 : List Go.Value := [.int .i64 a0.Kind, .int .i64 0] ++ ((List.replicate 32 (0 : Int)).map (Value.int .u8) ++ [.slice none 0 0, .int .i64 0, .int .i64 0, .int .i64 0])
 refine WL.val (Yl.build (places := [(0, 1), (1, 1), (2, 32), (34, 1), (35, 1), (36, 1), (37, 1)]) (cs := List.toArray q2) Tryz.underlying26 zr26 (pl26 _ Tryz.underlying26) (partsB (.cons rfl .nil)) (Fills.run (a := [.int .i64 0, .int .i64 0] ++ ((List.replicate 32 (0 : Int)).map (Value.int .u8) ++ [.slice none 0 0, .int .i64 0, .int .i64 0, .int .i64 0])) (c := [.int .i64 a0.Kind, .int .i64 0] ++ ((List.replicate 32 (0 : Int)).map (Value.int .u8) ++ [.slice none 0 0, .int .i64 0, .int .i64 0, .int .i64 0])) (.put (us := [.int .i64 a0.Kind]) rfl rfl rfl (Put.left (Put.lit 0 rfl)) .nil))) ?_
 let q3 : List Go.Value := [.int .i64 0, .int .i64 0] ++ ((List.replicate 32 (0 : Int)).map (Value.int .u8) ++ [.slice none 0 0, .int .i64 0, .int .i64 0, .int .i64 0])
 obtain ⟨g13, w14, hy15, C16⟩ := ev_alloc (P := Tryz.prog) (e := 26) q3 C12 zr26 rfl
 refine WL.val (hy15 _ _) ?_
 obtain ⟨w17, hy18, C19⟩ := ev_put (P := Tryz.prog) (ps1 := []) (ps2 := [CH.row g9 0 q1]) (t := 26) q2 (.agg (List.toArray q2)) C16 (Put.all 38 (len_app rfl (len_app (len_map (List.length_replicate ..)) rfl)) (len_app rfl (len_app (len_map (List.length_replicate ..)) rfl))) rfl (ones_append (ones_of rfl) (ones_append (one_ints _ _) (ones_of rfl))) (sz_of sz26 (len_app rfl (len_app (len_map (List.length_replicate ..)) rfl)))
 have C20 : Ctx _ _ _ _ _ [CH.row g13 0 q2, CH.row g9 0 q1] := C19
 refine WL.skip (hy18 _ _ _ _ rfl rfl) ?_
 refine WL.done ?_
 refine W.seq ?_
 refine W.region rfl ?_
 refine WL.run to 1 rfl ?_
 refine WL.done ?_
 refine W.seq ?_
 obtain ⟨o189, hX188, H⟩ := bindE H
 refine W.cutM (fun env_ w_ => ∃ (x178 : Int) (x179 : TRecord) (A181 : Option Addr) (c182 : Nat) (n183 : Nat) (p185 : CH), env_ 1 = .pointer (some ⟨g9, 0, none⟩) ∧ env_ 3 = .pointer (some ⟨g13, 0, none⟩) ∧ env_ 4 = .int .i64 x178 ∧ Ctx w F D w_ F [CH.row g13 0 ([.int .i64 x179.Kind, .int .i64 x179.Epoch] ++ (x179.Nonce.map (Value.int .u8) ++ [.slice A181 n183 c182, .int .i64 x179.Job, .int .i64 x179.Time, .int .i64 x179.By])), p185, CH.row g9 0 q1] ∧ x179.Nonce.length = 32 ∧ n183 = x179.Data.length ∧ Row (Kd.int .u8) F p185 (.slice A181 n183 c182) x179.Data ∧ o189 = Sum.inl (x178, x179)) ?_ ?_
 ·refine W.seq ?_
  refine W.region rfl ?_
  refine WL.run to 1 rfl ?_
  refine WL.val (Yl.loadV (g := g9) (off := 0) (o := 0) (cs := q1) (v := .int .i64 a0.Kind) rfl Tryz.underlying3 rfl (Ctx.subI 1 C20 rfl) rfl) ?_
  refine WL.done ?_
  refine W.block ?_
  refine W.seq ?_
  refine W.region rfl ?_
  refine WL.run to 2 rfl ?_
  refine WL.done ?_
  rcases iteE hX188 with ⟨hc190, hX188⟩ | ⟨hc190, hX188⟩
  ·refine W.condT (congrArg Value.bool (decide_eq_true hc190)) ?_
   refine W.seq ?_
   refine W.regionA [([7], CH.row g9 0 q1)] (by kernel_rfl) ?_
   have C199 := Ctx.drewN C20 1
   refine WA.takes [(0, none), (1, some 0), (2, none), (3, some 0), (4, none)] ⟨(Ctx.subI 1 C199 rfl), trivial⟩ (by kernel_rfl) ?_
   refine WT.run to 1 rfl ?_
   refine WT.val rfl (fun _ hC_ => Yl.loadV (g := g9) (off := 0) (o := 1) (cs := q1) (v := .int .i64 a0.Epoch) rfl Tryz.underlying3 rfl (show Sub (CH.row g9 0 q1) _ from hC_) rfl) ?_
   refine WT.run to 1 rfl ?_
   refine WT.val rfl (fun _ hC_ => Yl.loadVA (g := g9) (off := 0) (o := 2) (cs := q1) (us := a0.Nonce.map (Value.int .u8)) rfl Tryz.underlying23 rfl (sz_of sz23 (len_map ha1)) (show Sub (CH.row g9 0 q1) _ from hC_) (mid_skip 2 0 rfl (mid_here rfl))) ?_
   refine WT.run to 1 rfl ?_
   refine WT.done ?_
   obtain ⟨w200, hy201, C202⟩ := ev_put (P := Tryz.prog) (ps1 := []) (ps2 := [CH.row g9 0 q1]) (t := 3) [.int .i64 a0.Epoch] (.int .i64 a0.Epoch) C199 (Put.left (Put.lit 1 rfl)) rfl (ones_of rfl) sz3
   let q4 : List Go.Value := [.int .i64 a0.Kind, .int .i64 a0.Epoch] ++ ((List.replicate 32 (0 : Int)).map (Value.int .u8) ++ [.slice none 0 0, .int .i64 0, .int .i64 0, .int .i64 0])
   have C203 : Ctx _ _ _ _ _ [CH.row g13 0 q4, CH.row g9 0 q1] := C202
   refine WA.up1 5 (by kernel_rfl) (Up.skip rfl rfl (hy201 _ _ _ _ rfl rfl) ⟨(Ctx.subI 1 C203 rfl), trivial⟩ ?_)
   refine WA.takes [(6, none)] ⟨(Ctx.subI 1 C203 rfl), trivial⟩ (by kernel_rfl) ?_
   refine WT.run to 1 rfl ?_
   refine WT.done ?_
   obtain ⟨w204, hy205, C206⟩ := ev_put (P := Tryz.prog) (ps1 := []) (ps2 := [CH.row g9 0 q1]) (t := 23) (a0.Nonce.map (Value.int .u8)) (.agg (List.toArray (a0.Nonce.map (Value.int .u8)))) C203 (Put.skip 2 0 rfl (Put.here 32 (len_map (List.length_replicate ..)) (len_map ha1))) rfl (one_ints _ _) (sz_of sz23 (len_map ha1))
   let q5 : List Go.Value := [.int .i64 a0.Kind, .int .i64 a0.Epoch] ++ (a0.Nonce.map (Value.int .u8) ++ [.slice none 0 0, .int .i64 0, .int .i64 0, .int .i64 0])
   have C207 : Ctx _ _ _ _ _ [CH.row g13 0 q5, CH.row g9 0 q1] := C206
   refine WA.up1 7 (by kernel_rfl) (Up.skip rfl rfl (hy205 _ _ _ _ rfl rfl) ⟨trivial, trivial⟩ ?_)
   refine WA.done (by kernel_rfl) ?_
   refine W.seq ?_
   refine W.region rfl ?_
   refine WL.run to 1 rfl ?_
   refine WL.val (Yl.loadV (g := g9) (off := 0) (o := 1) (cs := q1) (v := .int .i64 a0.Epoch) rfl Tryz.underlying3 rfl (Ctx.subI 1 C207 rfl) rfl) ?_
   refine WL.run to 1 rfl ?_
   refine WL.done ?_
   rcases iteE hX188 with ⟨hc208, hX188⟩ | ⟨hc208, hX188⟩
   ·refine W.condT (congrArg Value.bool (decide_eq_true hc208)) ?_
    refine W.seq ?_
    refine W.region rfl ?_
    refine WL.run to 1 rfl ?_
    refine WL.done ?_
    refine W.ret ?_
    refine inB_r ?_
    refine thenE_r ?_
    refine thenE_r ?_
    cases hX188
    replace H := sumE_r H
    have C209 : Ctx _ _ _ _ _ [] := Ctx.pick [] C207 rfl
    have e210 := Option.some.inj H
    subst e210
    exact post_r (resE1 rfl rfl) ⟨rfl, C209⟩
   ·refine W.condF (congrArg Value.bool (decide_eq_false hc208)) ?_
    refine W.skip ?_
    refine inB_n ?_
    have C211 : Ctx _ _ _ _ _ [CH.row g13 0 q5, CH.emp, CH.row g9 0 q1] := Ctx.pick [0, 2, 1] C207 rfl
    cases hX188
    refine thenE_n ?_
    exact ⟨0, (⟨a0.Kind, a0.Epoch, a0.Nonce, ([] : List Int), 0, 0, 0⟩ : TRecord), none, 0, 0, CH.emp, rfl, rfl, rfl, C211, ha1, rfl, (Row.nil _ _), rfl⟩
  ·refine W.condF (congrArg Value.bool (decide_eq_false hc190)) ?_
   refine W.seq ?_
   refine W.region rfl ?_
   refine WL.run to 2 rfl ?_
   refine WL.done ?_
   rcases iteE hX188 with ⟨hc212, hX188⟩ | ⟨hc212, hX188⟩
   ·refine W.condT (congrArg Value.bool (decide_eq_true hc212)) ?_
    refine W.region rfl ?_
    refine WL.run to 1 rfl ?_
    refine WL.done ?_
    refine inB_n ?_
    have C213 : Ctx _ _ _ _ _ [CH.row g13 0 q2, CH.emp, CH.row g9 0 q1] := Ctx.pick [0, 2, 1] C20 rfl
    cases hX188
    refine thenE_n ?_
    exact ⟨64, (⟨a0.Kind, 0, (List.replicate 32 (0 : Int)), ([] : List Int), 0, 0, 0⟩ : TRecord), none, 0, 0, CH.emp, rfl, rfl, rfl, C213, (List.length_replicate ..), rfl, (Row.nil _ _), rfl⟩
   ·refine W.condF (congrArg Value.bool (decide_eq_false hc212)) ?_
    refine W.seq ?_
    obtain ⟨x220, hX222, hX188⟩ := bindE hX188
    refine W.cutM (fun env_ w_ => env_ 1 = .pointer (some ⟨g9, 0, none⟩) ∧ env_ 3 = .pointer (some ⟨g13, 0, none⟩) ∧ env_ 4 = .int .i64 0 ∧ env_ 11 = .int .i64 a0.Kind ∧ env_ 25 = .bool x220 ∧ Ctx w F D w_ F [CH.row g13 0 q2, CH.row g9 0 q1]) ?_ ?_
    ·refine W.seq ?_
     refine W.region rfl ?_
     refine WL.run to 2 rfl ?_
     refine WL.done ?_
     rcases iteE hX222 with ⟨hc223, hX222⟩ | ⟨hc223, hX222⟩
     ·refine W.condT (congrArg Value.bool (decide_eq_true hc223)) ?_
      refine W.skip ?_
      cases hX222
      refine thenE_n ?_
      exact ⟨rfl, rfl, rfl, rfl, rfl, C20⟩
     ·refine W.condF (congrArg Value.bool (decide_eq_false hc223)) ?_
      refine W.region rfl ?_
      refine WL.run to 2 rfl ?_
      refine WL.done ?_
      cases hX222
      refine thenE_n ?_
      exact ⟨rfl, rfl, rfl, rfl, rfl, C20⟩
    ·rintro env_ w_ ⟨ho215, ho216, ho217, ho218, ho219, C221⟩
     apply kn env_ (.c ho215 (.c ho216 (.c ho217 (.c ho218 (.c ho219 .n)))))
     rcases iteE hX188 with ⟨hc224, hX188⟩ | ⟨hc224, hX188⟩
     ·refine W.condT (congrArg Value.bool hc224) ?_
      refine W.regionA [([7], CH.row g9 0 q1)] (by kernel_rfl) ?_
      have C233 := Ctx.drewN C221 1
      refine WA.takes [(0, none), (1, some 0), (2, none), (3, some 0), (4, none)] ⟨(Ctx.subI 1 C233 rfl), trivial⟩ (by kernel_rfl) ?_
      refine WT.run to 1 rfl ?_
      refine WT.val rfl (fun _ hC_ => Yl.loadV (g := g9) (off := 0) (o := 35) (cs := q1) (v := .int .i64 a0.Job) rfl Tryz.underlying3 rfl (show Sub (CH.row g9 0 q1) _ from hC_) (at_skip 2 33 rfl (at_skip 32 1 (len_map ha1) rfl))) ?_
      refine WT.run to 1 rfl ?_
      refine WT.val rfl (fun _ hC_ => Yl.loadV (g := g9) (off := 0) (o := 36) (cs := q1) (v := .int .i64 a0.Time) rfl Tryz.underlying3 rfl (show Sub (CH.row g9 0 q1) _ from hC_) (at_skip 2 34 rfl (at_skip 32 2 (len_map ha1) rfl))) ?_
      refine WT.run to 1 rfl ?_
      refine WT.done ?_
      obtain ⟨w234, hy235, C236⟩ := ev_put (P := Tryz.prog) (ps1 := []) (ps2 := [CH.row g9 0 q1]) (t := 3) [.int .i64 a0.Job] (.int .i64 a0.Job) C233 (Put.skip 2 33 rfl (Put.skip 32 1 (len_map (List.length_replicate ..)) (Put.lit 1 rfl))) rfl (ones_of rfl) sz3
      let q6 : List Go.Value := [.int .i64 a0.Kind, .int .i64 0] ++ ((List.replicate 32 (0 : Int)).map (Value.int .u8) ++ [.slice none 0 0, .int .i64 a0.Job, .int .i64 0, .int .i64 0])
      have C237 : Ctx _ _ _ _ _ [CH.row g13 0 q6, CH.row g9 0 q1] := C236
      refine WA.up1 5 (by kernel_rfl) (Up.skip rfl rfl (hy235 _ _ _ _ rfl rfl) ⟨(Ctx.subI 1 C237 rfl), trivial⟩ ?_)
      refine WA.takes [(6, none)] ⟨(Ctx.subI 1 C237 rfl), trivial⟩ (by kernel_rfl) ?_
      refine WT.run to 1 rfl ?_
      refine WT.done ?_
      obtain ⟨w238, hy239, C240⟩ := ev_put (P := Tryz.prog) (ps1 := []) (ps2 := [CH.row g9 0 q1]) (t := 3) [.int .i64 a0.Time] (.int .i64 a0.Time) C237 (Put.skip 2 34 rfl (Put.skip 32 2 (len_map (List.length_replicate ..)) (Put.lit 2 rfl))) rfl (ones_of rfl) sz3
      let q7 : List Go.Value := [.int .i64 a0.Kind, .int .i64 0] ++ ((List.replicate 32 (0 : Int)).map (Value.int .u8) ++ [.slice none 0 0, .int .i64 a0.Job, .int .i64 a0.Time, .int .i64 0])
      have C241 : Ctx _ _ _ _ _ [CH.row g13 0 q7, CH.row g9 0 q1] := C240
      refine WA.up1 7 (by kernel_rfl) (Up.skip rfl rfl (hy239 _ _ _ _ rfl rfl) ⟨trivial, trivial⟩ ?_)
      refine WA.done (by kernel_rfl) ?_
      refine inB_n ?_
      have C242 : Ctx _ _ _ _ _ [CH.row g13 0 q7, CH.emp, CH.row g9 0 q1] := Ctx.pick [0, 2, 1] C241 rfl
      cases hX188
      refine thenE_n ?_
      exact ⟨0, (⟨a0.Kind, 0, (List.replicate 32 (0 : Int)), ([] : List Int), a0.Job, a0.Time, 0⟩ : TRecord), none, 0, 0, CH.emp, rfl, rfl, rfl, C242, (List.length_replicate ..), rfl, (Row.nil _ _), rfl⟩
     ·refine W.condF (congrArg Value.bool (Bool.eq_false_iff.2 hc224)) ?_
      refine W.seq ?_
      refine W.region rfl ?_
      refine WL.run to 2 rfl ?_
      refine WL.done ?_
      rcases iteE hX188 with ⟨hc243, hX188⟩ | ⟨hc243, hX188⟩
      ·refine W.condT (congrArg Value.bool (decide_eq_true hc243)) ?_
       refine W.seq ?_
       refine W.regionA [([7], CH.row g9 0 q1)] (by kernel_rfl) ?_
       have C252 := Ctx.drewN C221 1
       refine WA.takes [(0, none), (1, some 0), (2, none), (3, some 0), (4, none)] ⟨(Ctx.subI 1 C252 rfl), trivial⟩ (by kernel_rfl) ?_
       refine WT.run to 1 rfl ?_
       refine WT.val rfl (fun _ hC_ => Yl.loadV (g := g9) (off := 0) (o := 35) (cs := q1) (v := .int .i64 a0.Job) rfl Tryz.underlying3 rfl (show Sub (CH.row g9 0 q1) _ from hC_) (at_skip 2 33 rfl (at_skip 32 1 (len_map ha1) rfl))) ?_
       refine WT.run to 1 rfl ?_
       refine WT.val rfl (fun _ hC_ => Yl.loadV (g := g9) (off := 0) (o := 37) (cs := q1) (v := .int .i64 a0.By) rfl Tryz.underlying3 rfl (show Sub (CH.row g9 0 q1) _ from hC_) (at_skip 2 35 rfl (at_skip 32 3 (len_map ha1) rfl))) ?_
       refine WT.run to 1 rfl ?_
       refine WT.done ?_
       obtain ⟨w253, hy254, C255⟩ := ev_put (P := Tryz.prog) (ps1 := []) (ps2 := [CH.row g9 0 q1]) (t := 3) [.int .i64 a0.Job] (.int .i64 a0.Job) C252 (Put.skip 2 33 rfl (Put.skip 32 1 (len_map (List.length_replicate ..)) (Put.lit 1 rfl))) rfl (ones_of rfl) sz3
       let q8 : List Go.Value := [.int .i64 a0.Kind, .int .i64 0] ++ ((List.replicate 32 (0 : Int)).map (Value.int .u8) ++ [.slice none 0 0, .int .i64 a0.Job, .int .i64 0, .int .i64 0])
       have C256 : Ctx _ _ _ _ _ [CH.row g13 0 q8, CH.row g9 0 q1] := C255
       refine WA.up1 5 (by kernel_rfl) (Up.skip rfl rfl (hy254 _ _ _ _ rfl rfl) ⟨(Ctx.subI 1 C256 rfl), trivial⟩ ?_)
       refine WA.takes [(6, none)] ⟨(Ctx.subI 1 C256 rfl), trivial⟩ (by kernel_rfl) ?_
       refine WT.run to 1 rfl ?_
       refine WT.done ?_
       obtain ⟨w257, hy258, C259⟩ := ev_put (P := Tryz.prog) (ps1 := []) (ps2 := [CH.row g9 0 q1]) (t := 3) [.int .i64 a0.By] (.int .i64 a0.By) C256 (Put.skip 2 35 rfl (Put.skip 32 3 (len_map (List.length_replicate ..)) (Put.lit 3 rfl))) rfl (ones_of rfl) sz3
       let q9 : List Go.Value := [.int .i64 a0.Kind, .int .i64 0] ++ ((List.replicate 32 (0 : Int)).map (Value.int .u8) ++ [.slice none 0 0, .int .i64 a0.Job, .int .i64 0, .int .i64 a0.By])
       have C260 : Ctx _ _ _ _ _ [CH.row g13 0 q9, CH.row g9 0 q1] := C259
       refine WA.up1 7 (by kernel_rfl) (Up.skip rfl rfl (hy258 _ _ _ _ rfl rfl) ⟨trivial, trivial⟩ ?_)
       refine WA.done (by kernel_rfl) ?_
       refine W.region rfl ?_
       refine WL.run to 1 rfl ?_
       refine WL.done ?_
       refine inB_n ?_
       have C261 : Ctx _ _ _ _ _ [CH.row g13 0 q9, CH.emp, CH.row g9 0 q1] := Ctx.pick [0, 2, 1] C260 rfl
       cases hX188
       refine thenE_n ?_
       exact ⟨32, (⟨a0.Kind, 0, (List.replicate 32 (0 : Int)), ([] : List Int), a0.Job, 0, a0.By⟩ : TRecord), none, 0, 0, CH.emp, rfl, rfl, rfl, C261, (List.length_replicate ..), rfl, (Row.nil _ _), rfl⟩
      ·refine W.condF (congrArg Value.bool (decide_eq_false hc243)) ?_
       refine W.seq ?_
       refine W.region rfl ?_
       refine WL.run to 2 rfl ?_
       refine WL.done ?_
       rcases iteE hX188 with ⟨hc262, hX188⟩ | ⟨hc262, hX188⟩
       ·refine W.condT (congrArg Value.bool (decide_eq_true hc262)) ?_
        refine W.skip ?_
        refine inB_n ?_
        have C263 : Ctx _ _ _ _ _ [CH.row g13 0 q2, CH.emp, CH.row g9 0 q1] := Ctx.pick [0, 2, 1] C221 rfl
        cases hX188
        refine thenE_n ?_
        exact ⟨0, (⟨a0.Kind, 0, (List.replicate 32 (0 : Int)), ([] : List Int), 0, 0, 0⟩ : TRecord), none, 0, 0, CH.emp, rfl, rfl, rfl, C263, (List.length_replicate ..), rfl, (Row.nil _ _), rfl⟩
       ·refine W.condF (congrArg Value.bool (decide_eq_false hc262)) ?_
        refine W.seq ?_
        refine W.region rfl ?_
        refine WL.run to 1 rfl ?_
        refine WL.done ?_
        refine W.ret ?_
        refine inB_r ?_
        refine thenE_r ?_
        refine thenE_r ?_
        cases hX188
        replace H := sumE_r H
        have C264 : Ctx _ _ _ _ _ [] := Ctx.pick [] C221 rfl
        have e265 := Option.some.inj H
        subst e265
        exact post_r (resE1 rfl rfl) ⟨rfl, C264⟩
 ·rintro env_ w_ ⟨x178, x179, A181, c182, n183, p185, ho175, ho176, ho177, C187, ha180, hn184, hR186, rfl⟩
  replace H := sumE_l H
  apply kn env_ (.c ho175 (.c ho176 (.c ho177 .n)))
  refine W.seq ?_
  refine W.seq ?_
  refine W.region rfl ?_
  refine WL.run to 1 rfl ?_
  refine WL.val (Yl.loadV (g := g9) (off := 0) (o := 1) (cs := q1) (v := .int .i64 a0.Epoch) rfl Tryz.underlying3 rfl (Ctx.subI 2 C187 rfl) rfl) ?_
  refine WL.run to 1 rfl ?_
  refine WL.val (Yl.loadV (g := g9) (off := 0) (o := 35) (cs := q1) (v := .int .i64 a0.Job) rfl Tryz.underlying3 rfl (Ctx.subI 2 C187 rfl) (at_skip 2 33 rfl (at_skip 32 1 (len_map ha1) rfl))) ?_
  refine WL.run to 1 rfl ?_
  refine WL.val (Yl.loadV (g := g9) (off := 0) (o := 36) (cs := q1) (v := .int .i64 a0.Time) rfl Tryz.underlying3 rfl (Ctx.subI 2 C187 rfl) (at_skip 2 34 rfl (at_skip 32 2 (len_map ha1) rfl))) ?_
  refine WL.run to 1 rfl ?_
  refine WL.val (Yl.loadV (g := g9) (off := 0) (o := 37) (cs := q1) (v := .int .i64 a0.By) rfl Tryz.underlying3 rfl (Ctx.subI 2 C187 rfl) (at_skip 2 35 rfl (at_skip 32 3 (len_map ha1) rfl))) ?_
  refine WL.val (Yl.buildArr (vs := mkParts 0 (List.map (Value.int .i64) [a0.Epoch, a0.Job, a0.Time, a0.By])) (cs := List.toArray ([a0.Epoch, a0.Job, a0.Time, a0.By].map (Value.int .i64))) Tryz.underlying103 sz3 zr103 (partsB ((.cons rfl (.cons rfl (.cons rfl (.cons rfl .nil)))))) (fill_ints .i64 _ _ _ rfl rfl)) ?_
  refine WL.run to 1 rfl ?_
  refine WL.done ?_
  obtain ⟨o293, hX292, H⟩ := bindE H
  let q10 : List Go.Value := [.int .i64 x179.Kind, .int .i64 x179.Epoch] ++ (x179.Nonce.map (Value.int .u8) ++ [.slice A181 n183 c182, .int .i64 x179.Job, .int .i64 x179.Time, .int .i64 x179.By])
  refine W.cutM (fun env_ w_ => env_ 1 = .pointer (some ⟨g9, 0, none⟩) ∧ env_ 3 = .pointer (some ⟨g13, 0, none⟩) ∧ env_ 4 = .int .i64 x178 ∧ Ctx w F D w_ F [CH.row g13 0 q10, p185, CH.row g9 0 q1] ∧ o293 = Sum.inl ()) ?_ ?_
  ·refine W.block ?_
   refine W.loop (fun g_ env_ w_ => ∃ (x299 : Int), env_ 1 = .pointer (some ⟨g9, 0, none⟩) ∧ env_ 3 = .pointer (some ⟨g13, 0, none⟩) ∧ env_ 4 = .int .i64 x178 ∧ env_ 52 = .agg (List.toArray ([a0.Epoch, a0.Job, a0.Time, a0.By].map (Value.int .i64))) ∧ env_ 53 = .int .i64 x299 ∧ Ctx w F D w_ F [CH.row g13 0 q10, p185, CH.row g9 0 q1] ∧ docket_may.l1 g_ a0 x299 = some o293) k ⟨0, rfl, rfl, rfl, rfl, rfl, C187, hX292⟩ ?_
   clear hX292
   rintro g_ env_ w_ ⟨x299, ho294, ho295, ho296, ho297, ho298, C300, hX292⟩
   rcases g_ with _ | k308
   · exact absurd hX292 (by simp [docket_may.l1])
   rw [docket_may.l1] at hX292
   apply kn env_ (.c ho294 (.c ho295 (.c ho296 (.c ho297 (.c ho298 .n)))))
   refine W.seq ?_
   refine W.region rfl ?_
   refine WL.run to 1 rfl ?_
   refine WL.done ?_
   refine W.seq ?_
   rcases iteE hX292 with ⟨hc309, hX292⟩ | ⟨hc309, hX292⟩
   ·refine W.condT (congrArg Value.bool (decide_eq_true hc309)) ?_
    refine W.skip ?_
    refine W.seq ?_
    refine W.block ?_
    refine W.seq ?_
    refine W.region rfl ?_
    obtain ⟨hc310, hX292⟩ := guardE hX292
    refine WL.val (Yl.indexAgg (k' := .i64) (a := [a0.Epoch, a0.Job, a0.Time, a0.By]) (i := x299) rfl rfl Tryz.underlying103 Tryz.underlying3 sz3 rfl (by have := hc310; simp only [List.length_cons, List.length_nil]; omega)) ?_
    refine WL.run to 1 rfl ?_
    refine WL.done ?_
    refine W.seq ?_
    refine W.region rfl ?_
    refine WL.run to 1 rfl ?_
    obtain ⟨r312, hg311, hX292⟩ := bindE hX292
    refine WL.callH (docket_between.calls k308 _ F ([a0.Epoch, a0.Job, a0.Time, a0.By].getD x299.toNat 0) 0 1099511627776 C300.pre0  r312 hg311) (Yenter.fn Tryz.func50 (by kernel_rfl) rfl (argsE (.cons rfl (.cons rfl (.cons rfl .nil))))) ?_
    rintro e_ w_ ⟨rfl, ⟨m313, rfl⟩⟩
    refine ⟨_, rfl, ?_⟩
    have C314 := Ctx.drewN C300 m313
    refine WL.run to 1 rfl ?_
    refine WL.done ?_
    rcases iteE hX292 with ⟨hc315, hX292⟩ | ⟨hc315, hX292⟩
    ·refine W.condF (congrArg Value.bool (nb_t hc315)) ?_
     refine W.skip ?_
     refine inB_n ?_
     refine W.region rfl ?_
     refine WL.run to 2 rfl ?_
     refine WL.done ?_
     exact thenE_n ⟨k308, Nat.lt_succ_self _, wi64 (x299 + 1), rfl, rfl, rfl, rfl, rfl, C314, hX292⟩
    ·refine W.condT (congrArg Value.bool (nb_f hc315)) ?_
     refine W.seq ?_
     refine W.region rfl ?_
     refine WL.run to 1 rfl ?_
     refine WL.done ?_
     refine W.ret ?_
     refine inB_r ?_
     refine thenE_r ?_
     refine thenE_r ?_
     refine inB_r ?_
     refine thenE_r ?_
     refine thenE_r ?_
     cases hX292
     replace H := sumE_r H
     have C316 : Ctx _ _ _ _ _ [] := Ctx.pick [] C314 rfl
     have e317 := Option.some.inj H
     subst e317
     exact post_r (resE1 rfl rfl) ⟨rfl, C316⟩
   ·refine W.condF (congrArg Value.bool (decide_eq_false hc309)) ?_
    refine W.exit ?_
    refine thenE_x ?_
    refine thenE_x ?_
    refine inB_here ?_
    cases hX292
    refine thenE_n ?_
    exact ⟨rfl, rfl, rfl, C300, rfl⟩
  ·rintro env_ w_ ⟨ho288, ho289, ho290, C291, rfl⟩
   replace H := sumE_l H
   apply kn env_ (.c ho288 (.c ho289 (.c ho290 .n)))
   refine W.seq ?_
   refine W.region rfl ?_
   refine WL.run to 1 rfl ?_
   refine WL.val (Yl.loadV (g := g9) (off := 0) (o := 34) (cs := q1) (v := .slice A2 n4 c3) rfl Tryz.underlying24 rfl (Ctx.subI 2 C291 rfl) (at_skip 2 32 rfl (at_skip 32 0 (len_map ha1) rfl))) ?_
   refine WL.val (Yl.lenN (A := A2) (l := n4) (q := c3) (n := (a0.Data.length : Int)) rfl Tryz.underlying24 (by omega)) ?_
   refine WL.run to 3 rfl ?_
   obtain ⟨g318, HE319, H⟩ := bindE H
   refine WL.cut (fun env_ w_ => env_ 2 = .bool g318 ∧ Ctx w F D w_ F [CH.row g13 0 q10, p185, CH.row g9 0 q1]) ?_ ?_
   ·rcases iteE HE319 with ⟨hc320, HE319⟩ | ⟨hc320, HE319⟩
    ·refine WL.kn 65 (congrArg Value.bool (decide_eq_true hc320)) ?_
     refine WL.run to 1 rfl ?_
     refine WL.valOn rfl rfl (Yl.loadV (g := g9) (off := 0) (o := 1) (cs := q1) (v := .int .i64 a0.Epoch) rfl Tryz.underlying3 rfl (Ctx.subI 2 C291 rfl) rfl) ?_
     refine WL.run to 1 rfl ?_
     refine WL.valOn rfl rfl (Yl.loadV (g := g13) (off := 0) (o := 1) (cs := q10) (v := .int .i64 x179.Epoch) rfl Tryz.underlying3 rfl (Ctx.subI 0 C291 rfl) rfl) ?_
     refine WL.run to 3 rfl ?_
     rcases iteE HE319 with ⟨hc321, HE319⟩ | ⟨hc321, HE319⟩
     ·refine WL.kn 72 (congrArg Value.bool (decide_eq_true hc321)) ?_
      refine WL.run to 1 rfl ?_
      refine WL.valOn rfl rfl (Yl.loadVA (g := g9) (off := 0) (o := 2) (cs := q1) (us := a0.Nonce.map (Value.int .u8)) rfl Tryz.underlying23 rfl (sz_of sz23 (len_map ha1)) (Ctx.subI 2 C291 rfl) (mid_skip 2 0 rfl (mid_here rfl))) ?_
      refine WL.run to 1 rfl ?_
      refine WL.valOn rfl rfl (Yl.loadVA (g := g13) (off := 0) (o := 2) (cs := q10) (us := x179.Nonce.map (Value.int .u8)) rfl Tryz.underlying23 rfl (sz_of sz23 (len_map ha180)) (Ctx.subI 0 C291 rfl) (mid_skip 2 0 rfl (mid_here rfl))) ?_
      refine WL.valOn rfl rfl (Yl.aeql (n := 2) (xs := a0.Nonce.map (Value.int .u8)) (ys := x179.Nonce.map (Value.int .u8)) rfl rfl eg23 (EqV.arrI Tryz.underlying23 Tryz.underlying5 sz5 ha1 ha180) (by decide)) ?_
      refine WL.run to 2 rfl ?_
      rcases iteE HE319 with ⟨hc322, HE319⟩ | ⟨hc322, HE319⟩
      ·refine WL.kn 79 (congrArg Value.bool (decide_eq_true hc322)) ?_
       refine WL.run to 1 rfl ?_
       refine WL.valOn rfl rfl (Yl.loadV (g := g9) (off := 0) (o := 35) (cs := q1) (v := .int .i64 a0.Job) rfl Tryz.underlying3 rfl (Ctx.subI 2 C291 rfl) (at_skip 2 33 rfl (at_skip 32 1 (len_map ha1) rfl))) ?_
       refine WL.run to 1 rfl ?_
       refine WL.valOn rfl rfl (Yl.loadV (g := g13) (off := 0) (o := 35) (cs := q10) (v := .int .i64 x179.Job) rfl Tryz.underlying3 rfl (Ctx.subI 0 C291 rfl) (at_skip 2 33 rfl (at_skip 32 1 (len_map ha180) rfl))) ?_
       refine WL.run to 3 rfl ?_
       rcases iteE HE319 with ⟨hc323, HE319⟩ | ⟨hc323, HE319⟩
       ·refine WL.kn 86 (congrArg Value.bool (decide_eq_true hc323)) ?_
        refine WL.run to 1 rfl ?_
        refine WL.valOn rfl rfl (Yl.loadV (g := g9) (off := 0) (o := 36) (cs := q1) (v := .int .i64 a0.Time) rfl Tryz.underlying3 rfl (Ctx.subI 2 C291 rfl) (at_skip 2 34 rfl (at_skip 32 2 (len_map ha1) rfl))) ?_
        refine WL.run to 1 rfl ?_
        refine WL.valOn rfl rfl (Yl.loadV (g := g13) (off := 0) (o := 36) (cs := q10) (v := .int .i64 x179.Time) rfl Tryz.underlying3 rfl (Ctx.subI 0 C291 rfl) (at_skip 2 34 rfl (at_skip 32 2 (len_map ha180) rfl))) ?_
        refine WL.run to 3 rfl ?_
        rcases iteE HE319 with ⟨hc324, HE319⟩ | ⟨hc324, HE319⟩
        ·refine WL.kn 93 (congrArg Value.bool (decide_eq_true hc324)) ?_
         refine WL.run to 1 rfl ?_
         refine WL.valOn rfl rfl (Yl.loadV (g := g9) (off := 0) (o := 37) (cs := q1) (v := .int .i64 a0.By) rfl Tryz.underlying3 rfl (Ctx.subI 2 C291 rfl) (at_skip 2 35 rfl (at_skip 32 3 (len_map ha1) rfl))) ?_
         refine WL.run to 1 rfl ?_
         refine WL.valOn rfl rfl (Yl.loadV (g := g13) (off := 0) (o := 37) (cs := q10) (v := .int .i64 x179.By) rfl Tryz.underlying3 rfl (Ctx.subI 0 C291 rfl) (at_skip 2 35 rfl (at_skip 32 3 (len_map ha180) rfl))) ?_
         refine WL.run to 3 rfl ?_
         cases HE319
         exact WL.done ⟨rfl, C291⟩
        ·refine WL.kn 93 (congrArg Value.bool (decide_eq_false hc324)) ?_
         refine WL.offs 5 93 true rfl rfl ?_
         refine WL.run to 2 rfl ?_
         cases HE319
         exact WL.done ⟨rfl, C291⟩
       ·refine WL.kn 86 (congrArg Value.bool (decide_eq_false hc323)) ?_
        refine WL.offs 5 86 true rfl rfl ?_
        refine WL.run to 2 rfl ?_
        refine WL.offs 5 93 true rfl rfl ?_
        refine WL.run to 2 rfl ?_
        cases HE319
        exact WL.done ⟨rfl, C291⟩
      ·refine WL.kn 79 (congrArg Value.bool (decide_eq_false hc322)) ?_
       refine WL.offs 5 79 true rfl rfl ?_
       refine WL.run to 2 rfl ?_
       refine WL.offs 5 86 true rfl rfl ?_
       refine WL.run to 2 rfl ?_
       refine WL.offs 5 93 true rfl rfl ?_
       refine WL.run to 2 rfl ?_
       cases HE319
       exact WL.done ⟨rfl, C291⟩
     ·refine WL.kn 72 (congrArg Value.bool (decide_eq_false hc321)) ?_
      refine WL.offs 5 72 true rfl rfl ?_
      refine WL.run to 2 rfl ?_
      refine WL.offs 5 79 true rfl rfl ?_
      refine WL.run to 2 rfl ?_
      refine WL.offs 5 86 true rfl rfl ?_
      refine WL.run to 2 rfl ?_
      refine WL.offs 5 93 true rfl rfl ?_
      refine WL.run to 2 rfl ?_
      cases HE319
      exact WL.done ⟨rfl, C291⟩
    ·refine WL.kn 65 (congrArg Value.bool (decide_eq_false hc320)) ?_
     refine WL.offs 5 65 true rfl rfl ?_
     refine WL.run to 2 rfl ?_
     refine WL.offs 5 72 true rfl rfl ?_
     refine WL.run to 2 rfl ?_
     refine WL.offs 5 79 true rfl rfl ?_
     refine WL.run to 2 rfl ?_
     refine WL.offs 5 86 true rfl rfl ?_
     refine WL.run to 2 rfl ?_
     refine WL.offs 5 93 true rfl rfl ?_
     refine WL.run to 2 rfl ?_
     cases HE319
     exact WL.done ⟨rfl, C291⟩
   ·rintro env_ w_ ⟨ho325, C326⟩
    apply kn env_ (.c ho325 .n)
    refine W.ret ?_
    have C327 : Ctx _ _ _ _ _ [] := Ctx.pick [] C326 rfl
    have e328 := Option.some.inj H
    subst e328
    exact post_r (resE1 rfl rfl) ⟨rfl, C327⟩
def docket_asked.l1 : Nat → TJob → Int → Int → Option (Sum Unit Bool)
  | 0, _, _, _ => none
  | k + 1, a0, a1, x74 => if x74 < (a0.Workers.length : Int) then (if 0 ≤ x74 ∧ x74 < (a0.Workers.length : Int) then (if (a0.Workers.getD x74.toNat 0) = a1 then (some (Sum.inr true)) else (docket_asked.l1 k a0 a1 (wi64 (x74 + 1)))) else none) else (some (Sum.inl ()))
def docket_asked.f (k : Nat) (a0 : TJob) (a1 : Int) : Option Bool := (docket_asked.l1 k a0 a1 0).bind fun o_ => sumE o_ (fun _ => some false) (fun p_ => some p_)
set_option maxRecDepth 100000 in
set_option maxHeartbeats 4000000 in
theorem docket_asked.calls (k : Nat) (w : World) (F : CH) (A1 : Option Addr) (c2 : Nat) (n3 : Nat) (A8 : Option Addr) (c9 : Nat) (n10 : Nat) (A15 : Option Addr) (c16 : Nat) (n17 : Nat) (A22 : Option Addr) (c23 : Nat) (n24 : Nat) (A29 : Option Addr) (c30 : Nat) (n31 : Nat) (a0 : TJob) (a1 : Int) (hp : Pre w F []) (hn4 : n3 = a0.Payload.length) (hl5 : a0.Payload.length ≤ c2) (hm6 : c2 ≤ maxLen) (hS7 : Sl (Kd.int .u8) F F A1 a0.Payload) (hn11 : n10 = a0.Workers.length) (hl12 : a0.Workers.length ≤ c9) (hm13 : c9 ≤ maxLen) (hS14 : Sl (Kd.int .i64) F F A8 a0.Workers) (hn18 : n17 = a0.Indexes.length) (hl19 : a0.Indexes.length ≤ c16) (hm20 : c16 ≤ maxLen) (hS21 : Sl (Kd.int .i64) F F A15 a0.Indexes) (hn25 : n24 = a0.Votes.length) (hl26 : a0.Votes.length ≤ c23) (hm27 : c23 ≤ maxLen) (hS28 : Sl TCast.K F F A22 a0.Votes) (hn32 : n31 = a0.Value.length) (hl33 : a0.Value.length ≤ c30) (hm34 : c30 ≤ maxLen) (hS35 : Sl (Kd.int .u8) F F A29 a0.Value) (r0_ : Bool) (H : docket_asked.f k a0 a1 = some r0_) :
    Calls Tryz.prog 82 #[.agg (List.toArray [.slice A1 n3 c2, .int .i64 a0.State, .int .i64 a0.Attempt, .int .i64 a0.Epoch, .int .i64 a0.Until, .slice A8 n10 c9, .slice A15 n17 c16, .slice A22 n24 c23, .slice A29 n31 c30]), .int .i64 a1] w fun e w' => e = .returned (.bool r0_) ∧ Ctx w F (domL []) w' F [] := by
 have C := Ctx.start hp
 generalize hD : domL [] = D at C ⊢
 unfold docket_asked.f at H
 refine Calls.ofW Tryz.func82 rfl (by simp [Tryz.ntmps82]) ?_
 refine W.seq ?_
 refine W.region rfl ?_
 let q1 : List Go.Value := [.slice A1 n3 c2, .int .i64 a0.State, .int .i64 a0.Attempt, .int .i64 a0.Epoch, .int .i64 a0.Until, .slice A8 n10 c9, .slice A15 n17 c16, .slice A22 n24 c23, .slice A29 n31 c30]
 obtain ⟨g36, w37, hy38, C39⟩ := ev_box (P := Tryz.prog) 63 (.agg (List.toArray q1)) q1 C rfl
 refine WL.val (hy38 _ _ _ rfl) ?_
 refine WL.run to 1 rfl ?_
 refine WL.done ?_
 refine W.seq ?_
 refine W.seq ?_
 refine W.region rfl ?_
 refine WL.run to 1 rfl ?_
 refine WL.val (Yl.loadV (g := g36) (off := 0) (o := 5) (cs := q1) (v := .slice A8 n10 c9) rfl Tryz.underlying47 rfl (Ctx.subI 0 C39 rfl) rfl) ?_
 refine WL.val (Yl.lenN (A := A8) (l := n10) (q := c9) (n := (a0.Workers.length : Int)) rfl Tryz.underlying47 (by omega)) ?_
 refine WL.run to 1 rfl ?_
 refine WL.done ?_
 obtain ⟨o69, hX68, H⟩ := bindE H
 refine W.cutM (fun env_ w_ => Ctx w F D w_ F [CH.row g36 0 q1] ∧ o69 = Sum.inl ()) ?_ ?_
 ·refine W.block ?_
  refine W.loop (fun g_ env_ w_ => ∃ (x74 : Int), env_ 1 = .int .i64 a1 ∧ env_ 8 = .slice A8 n10 c9 ∧ env_ 9 = .int .i64 (a0.Workers.length : Int) ∧ env_ 10 = .int .i64 x74 ∧ Ctx w F D w_ F [CH.row g36 0 q1] ∧ docket_asked.l1 g_ a0 a1 x74 = some o69) k ⟨0, rfl, rfl, rfl, rfl, C39, hX68⟩ ?_
  clear hX68
  rintro g_ env_ w_ ⟨x74, ho70, ho71, ho72, ho73, C75, hX68⟩
  rcases g_ with _ | k86
  · exact absurd hX68 (by simp [docket_asked.l1])
  rw [docket_asked.l1] at hX68
  apply kn env_ (.c ho70 (.c ho71 (.c ho72 (.c ho73 .n))))
  refine W.seq ?_
  refine W.region rfl ?_
  refine WL.run to 1 rfl ?_
  refine WL.done ?_
  refine W.seq ?_
  rcases iteE hX68 with ⟨hc87, hX68⟩ | ⟨hc87, hX68⟩
  ·refine W.condT (congrArg Value.bool (decide_eq_true hc87)) ?_
   refine W.skip ?_
   refine W.seq ?_
   refine W.block ?_
   refine W.seq ?_
   refine W.region rfl ?_
   obtain ⟨hc88, hX68⟩ := guardE hX68
   obtain ⟨b89, of90, hA91, he92⟩ := hS14 (by omega)
   refine WL.val (Yl.elemAddr (i := x74) rfl rfl hA91 Tryz.underlying47 sz3 (by omega)) ?_
   obtain ⟨cs93, hr94, hx95⟩ := he92 x74.toNat _ (getD_some (d := 0) (by omega))
   obtain rfl := hr94
   refine WL.val (Yl.load (v := .int .i64 (a0.Workers.getD x74.toNat 0)) rfl Tryz.underlying3 rfl (((C75.fro)).cell (hx95 0 _ rfl))) ?_
   refine WL.run to 1 rfl ?_
   refine WL.done ?_
   refine W.seq ?_
   refine W.region rfl ?_
   refine WL.run to 3 rfl ?_
   refine WL.done ?_
   rcases iteE hX68 with ⟨hc96, hX68⟩ | ⟨hc96, hX68⟩
   ·refine W.condT (congrArg Value.bool (decide_eq_true hc96)) ?_
    refine W.seq ?_
    refine W.region rfl ?_
    refine WL.run to 1 rfl ?_
    refine WL.done ?_
    refine W.ret ?_
    refine inB_r ?_
    refine thenE_r ?_
    refine thenE_r ?_
    refine inB_r ?_
    refine thenE_r ?_
    refine thenE_r ?_
    cases hX68
    replace H := sumE_r H
    have C97 : Ctx _ _ _ _ _ [] := Ctx.pick [] C75 rfl
    have e98 := Option.some.inj H
    subst e98
    exact post_r (resE1 rfl rfl) ⟨rfl, C97⟩
   ·refine W.condF (congrArg Value.bool (decide_eq_false hc96)) ?_
    refine W.skip ?_
    refine inB_n ?_
    refine W.region rfl ?_
    refine WL.run to 2 rfl ?_
    refine WL.done ?_
    exact thenE_n ⟨k86, Nat.lt_succ_self _, wi64 (x74 + 1), rfl, rfl, rfl, rfl, C75, hX68⟩
  ·refine W.condF (congrArg Value.bool (decide_eq_false hc87)) ?_
   refine W.exit ?_
   refine thenE_x ?_
   refine thenE_x ?_
   refine inB_here ?_
   cases hX68
   refine thenE_n ?_
   exact ⟨C75, rfl⟩
 ·rintro env_ w_ ⟨C67, rfl⟩
  replace H := sumE_l H
  refine W.seq ?_
  refine W.region rfl ?_
  refine WL.run to 1 rfl ?_
  refine WL.done ?_
  refine W.ret ?_
  have C99 : Ctx _ _ _ _ _ [] := Ctx.pick [] C67 rfl
  have e100 := Option.some.inj H
  subst e100
  exact post_r (resE1 rfl rfl) ⟨rfl, C99⟩
def docket_crewed.l1 : Nat → TConfig → TJob → List (Int × Int) → Int → Option (Sum Unit Bool)
  | 0, _, _, _, _ => none
  | k + 1, a0, a1, x326, x333 => if x333 < (a1.Workers.length : Int) then (if 0 ≤ x333 ∧ x333 < (a1.Workers.length : Int) then ((if ((mget x326 (a1.Workers.getD x333.toNat 0)).isSome) = true then (some (true)) else ((docket_between.f k (a1.Workers.getD x333.toNat 0) 0 (wi64 (a0.Workers - 1))).bind fun r393 => if r393 = true then (if 0 ≤ x333 ∧ x333 < (a1.Indexes.length : Int) then (if 0 ≤ a0.Height then ((docket_between.f k (a1.Indexes.getD x333.toNat 0) 0 (wi64 ((shlOp .i64 1 a0.Height) - 1))).bind fun r405 => some (!r405)) else none) else none) else (some (true)))).bind fun g389 => if g389 = true then (some (Sum.inr false)) else (docket_crewed.l1 k a0 a1 (mset x326 (a1.Workers.getD x333.toNat 0) x333) (wi64 (x333 + 1)))) else none) else (some (Sum.inl ()))
def docket_crewed.f (k : Nat) (a0 : TConfig) (a1 : TJob) : Option Bool := ((docket_hands.f k a0).bind fun r98 => if (a1.Workers.length : Int) = r98 then ((docket_hands.f k a0).bind fun r103 => some (!decide ((a1.Indexes.length : Int) = r103))) else (some true)).bind fun x77 => if x77 = true then (some false) else ((docket_crewed.l1 k a0 a1 ([] : List (Int × Int)) 0).bind fun o_ => sumE o_ (fun _ => some true) (fun p_ => some p_))
set_option maxRecDepth 100000 in
set_option maxHeartbeats 4000000 in
theorem docket_crewed.calls (k : Nat) (w : World) (F : CH) (a0 : TConfig) (A1 : Option Addr) (c2 : Nat) (n3 : Nat) (A8 : Option Addr) (c9 : Nat) (n10 : Nat) (A15 : Option Addr) (c16 : Nat) (n17 : Nat) (A22 : Option Addr) (c23 : Nat) (n24 : Nat) (A29 : Option Addr) (c30 : Nat) (n31 : Nat) (a1 : TJob) (hp : Pre w F []) (hn4 : n3 = a1.Payload.length) (hl5 : a1.Payload.length ≤ c2) (hm6 : c2 ≤ maxLen) (hS7 : Sl (Kd.int .u8) F F A1 a1.Payload) (hn11 : n10 = a1.Workers.length) (hl12 : a1.Workers.length ≤ c9) (hm13 : c9 ≤ maxLen) (hS14 : Sl (Kd.int .i64) F F A8 a1.Workers) (hn18 : n17 = a1.Indexes.length) (hl19 : a1.Indexes.length ≤ c16) (hm20 : c16 ≤ maxLen) (hS21 : Sl (Kd.int .i64) F F A15 a1.Indexes) (hn25 : n24 = a1.Votes.length) (hl26 : a1.Votes.length ≤ c23) (hm27 : c23 ≤ maxLen) (hS28 : Sl TCast.K F F A22 a1.Votes) (hn32 : n31 = a1.Value.length) (hl33 : a1.Value.length ≤ c30) (hm34 : c30 ≤ maxLen) (hS35 : Sl (Kd.int .u8) F F A29 a1.Value) (r0_ : Bool) (H : docket_crewed.f k a0 a1 = some r0_) :
    Calls Tryz.prog 75 #[.agg (List.toArray [.int .i64 a0.Faulty, .int .i64 a0.Workers, .int .i64 a0.Height, .int .i64 a0.Bits, .int .i64 a0.Jobs, .int .i64 a0.Term, .int .i64 a0.Heads]), .agg (List.toArray [.slice A1 n3 c2, .int .i64 a1.State, .int .i64 a1.Attempt, .int .i64 a1.Epoch, .int .i64 a1.Until, .slice A8 n10 c9, .slice A15 n17 c16, .slice A22 n24 c23, .slice A29 n31 c30])] w fun e w' => e = .returned (.bool r0_) ∧ Ctx w F (domL []) w' F [] := by
 have C := Ctx.start hp
 generalize hD : domL [] = D at C ⊢
 unfold docket_crewed.f at H
 refine Calls.ofW Tryz.func75 rfl (by simp [Tryz.ntmps75]) ?_
 refine W.seq ?_
 refine W.region rfl ?_
 let q1 : List Go.Value := [.int .i64 a0.Faulty, .int .i64 a0.Workers, .int .i64 a0.Height, .int .i64 a0.Bits, .int .i64 a0.Jobs, .int .i64 a0.Term, .int .i64 a0.Heads]
 obtain ⟨g36, w37, hy38, C39⟩ := ev_box (P := Tryz.prog) 42 (.agg (List.toArray q1)) q1 C rfl
 refine WL.val (hy38 _ _ _ rfl) ?_
 let q2 : List Go.Value := [.slice A1 n3 c2, .int .i64 a1.State, .int .i64 a1.Attempt, .int .i64 a1.Epoch, .int .i64 a1.Until, .slice A8 n10 c9, .slice A15 n17 c16, .slice A22 n24 c23, .slice A29 n31 c30]
 obtain ⟨g40, w41, hy42, C43⟩ := ev_box (P := Tryz.prog) 63 (.agg (List.toArray q2)) q2 C39 rfl
 refine WL.val (hy42 _ _ _ rfl) ?_
 refine WL.run to 1 rfl ?_
 refine WL.done ?_
 refine W.seq ?_
 refine W.seq ?_
 obtain ⟨x77, hX79, H⟩ := bindE H
 refine W.cutM (fun env_ w_ => env_ 2 = .pointer (some ⟨g36, 0, none⟩) ∧ env_ 3 = .pointer (some ⟨g40, 0, none⟩) ∧ env_ 23 = .bool x77 ∧ Ctx w F D w_ F [CH.row g40 0 q2, CH.row g36 0 q1]) ?_ ?_
 ·refine W.regionA [([], CH.row g40 0 q2), ([11], CH.row g36 0 q1)] (by kernel_rfl) ?_
  have C96 := Ctx.drewN C43 1
  refine WA.takes [(0, none), (1, some 0), (2, none), (3, some 1)] ⟨(Ctx.subI 0 C96 rfl), (Ctx.subI 1 C96 rfl), trivial⟩ (by kernel_rfl) ?_
  refine WT.run to 1 rfl ?_
  refine WT.val rfl (fun _ hC_ => Yl.loadV (g := g40) (off := 0) (o := 5) (cs := q2) (v := .slice A8 n10 c9) rfl Tryz.underlying47 rfl (show Sub (CH.row g40 0 q2) _ from hC_) rfl) ?_
  refine WT.val rfl (fun _ hC_ => Yl.lenN (A := A8) (l := n10) (q := c9) (n := (a1.Workers.length : Int)) rfl Tryz.underlying47 (by omega)) ?_
  refine WT.val rfl (fun _ hC_ => Yl.loadVA (g := g36) (off := 0) (o := 0) (cs := q1) (us := q1) rfl Tryz.underlying42 rfl sz42 (show Sub (CH.row g36 0 q1) _ from hC_) rfl) ?_
  refine WT.done ?_
  obtain ⟨r98, hg97, hX79⟩ := bindE hX79
  refine WA.up1 4 (by kernel_rfl) (Up.callH rfl (by kernel_rfl) rfl (docket_hands.calls k _ F a0 (Ctx.pre (qs := []) (rest := [CH.row g40 0 q2, CH.row g36 0 q1]) C96)  r98 hg97) (Yenter.fn Tryz.func81 (by kernel_rfl) rfl (argsE (.cons rfl .nil))) ?_)
  rintro e_ w_ ⟨rfl, C99⟩
  have C100 : Ctx _ _ _ _ _ [CH.row g40 0 q2, CH.row g36 0 q1] := Ctx.call (qs := []) (rest := [CH.row g40 0 q2, CH.row g36 0 q1]) C96 C99
  refine ⟨_, rfl, ⟨(Ctx.subI 0 C100 rfl), (Ctx.subI 1 C100 rfl), trivial⟩, ?_⟩
  refine WA.takes [(5, none), (6, none)] ⟨(Ctx.subI 0 C100 rfl), (Ctx.subI 1 C100 rfl), trivial⟩ (by kernel_rfl) ?_
  refine WT.run to 2 rfl ?_
  refine WT.done ?_
  rcases iteE hX79 with ⟨hc101, hX79⟩ | ⟨hc101, hX79⟩
  ·refine WA.takes [(7, none), (8, some 0), (9, none), (10, some 1)] ⟨(Ctx.subI 0 C100 rfl), (Ctx.subI 1 C100 rfl), trivial⟩ (by kernel_rfl) ?_
   refine WT.on rfl rfl (congrArg Value.bool (ndec_t hc101)) (fun _ hC_ => Yl.fieldAddr (i := 6) rfl Tryz.underlying63 rfl sz47) ?_
   refine WT.on rfl rfl (congrArg Value.bool (ndec_t hc101)) (fun _ hC_ => Yl.loadV (g := g40) (off := 0) (o := 6) (cs := q2) (v := .slice A15 n17 c16) rfl Tryz.underlying47 rfl (show Sub (CH.row g40 0 q2) _ from hC_) rfl) ?_
   refine WT.on rfl rfl (congrArg Value.bool (ndec_t hc101)) (fun _ hC_ => Yl.lenN (A := A15) (l := n17) (q := c16) (n := (a1.Indexes.length : Int)) rfl Tryz.underlying47 (by omega)) ?_
   refine WT.on rfl rfl (congrArg Value.bool (ndec_t hc101)) (fun _ hC_ => Yl.loadVA (g := g36) (off := 0) (o := 0) (cs := q1) (us := q1) rfl Tryz.underlying42 rfl sz42 (show Sub (CH.row g36 0 q1) _ from hC_) rfl) ?_
   refine WT.done ?_
   obtain ⟨r103, hg102, hX79⟩ := bindE hX79
   refine WA.up1 11 (by kernel_rfl) (Up.callG (args := #[.agg (List.toArray q1)]) rfl rfl (congrArg Value.bool (ndec_t hc101)) (by kernel_rfl) rfl (Yenter.fn Tryz.func81 (by kernel_rfl) rfl (argsE (.cons rfl .nil))) (docket_hands.calls k _ F a0 (Ctx.pre (qs := []) (rest := [CH.row g40 0 q2, CH.row g36 0 q1]) C100)  r103 hg102) ?_)
   rintro e_ w_ ⟨rfl, C104⟩
   have C105 : Ctx _ _ _ _ _ [CH.row g40 0 q2, CH.row g36 0 q1] := Ctx.call (qs := []) (rest := [CH.row g40 0 q2, CH.row g36 0 q1]) C100 C104
   refine ⟨_, rfl, ⟨(Ctx.subI 0 C105 rfl), trivial, trivial⟩, ?_⟩
   refine WA.takes [(12, none), (13, none)] ⟨(Ctx.subI 0 C105 rfl), (Ctx.subI 1 C105 rfl), trivial⟩ (by kernel_rfl) ?_
   refine WT.on rfl rfl (congrArg Value.bool (ndec_t hc101)) (fun _ hC_ => Yl.neq (m := (a1.Indexes.length : Int)) (n := r103) (q := !decide ((a1.Indexes.length : Int) = r103)) rfl rfl rfl) ?_
   refine WT.val rfl (fun _ hC_ => Yl.pickF (v := .bool (!decide ((a1.Indexes.length : Int) = r103))) (congrArg Value.bool (ndec_t hc101)) rfl) ?_
   refine WT.done ?_
   refine WA.done (by kernel_rfl) ?_
   cases hX79
   refine thenE_n ?_
   exact ⟨rfl, rfl, rfl, C105⟩
  ·refine WA.takes [(7, none), (8, none), (9, none), (10, none)] ⟨(Ctx.subI 0 C100 rfl), (Ctx.subI 1 C100 rfl), trivial⟩ (by kernel_rfl) ?_
   refine WT.off rfl rfl (congrArg Value.bool (ndec_f hc101)) ?_
   refine WT.off rfl rfl (congrArg Value.bool (ndec_f hc101)) ?_
   refine WT.off rfl rfl (congrArg Value.bool (ndec_f hc101)) ?_
   refine WT.off rfl rfl (congrArg Value.bool (ndec_f hc101)) ?_
   refine WT.done ?_
   refine WA.up1Off 11 (by kernel_rfl) rfl rfl (congrArg Value.bool (ndec_f hc101)) rfl rfl ⟨(Ctx.subI 0 C100 rfl), trivial, trivial⟩ ?_
   refine WA.takes [(12, none), (13, none)] ⟨(Ctx.subI 0 C100 rfl), (Ctx.subI 1 C100 rfl), trivial⟩ (by kernel_rfl) ?_
   refine WT.off rfl rfl (congrArg Value.bool (ndec_f hc101)) ?_
   refine WT.val rfl (fun _ hC_ => Yl.pickT (v := .bool true) (congrArg Value.bool (ndec_f hc101)) rfl) ?_
   refine WT.done ?_
   refine WA.done (by kernel_rfl) ?_
   cases hX79
   refine thenE_n ?_
   exact ⟨rfl, rfl, rfl, C100⟩
 ·rintro env_ w_ ⟨ho74, ho75, ho76, C78⟩
  apply kn env_ (.c ho74 (.c ho75 (.c ho76 .n)))
  rcases iteE H with ⟨hc106, H⟩ | ⟨hc106, H⟩
  ·refine W.condT (congrArg Value.bool hc106) ?_
   refine W.seq ?_
   refine W.region rfl ?_
   refine WL.run to 1 rfl ?_
   refine WL.done ?_
   refine W.ret ?_
   refine thenE_r ?_
   have C107 : Ctx _ _ _ _ _ [] := Ctx.pick [] C78 rfl
   have e108 := Option.some.inj H
   subst e108
   exact post_r (resE1 rfl rfl) ⟨rfl, C107⟩
  ·refine W.condF (congrArg Value.bool (Bool.eq_false_iff.2 hc106)) ?_
   refine W.skip ?_
   refine W.seq ?_
   refine W.region rfl ?_
   obtain ⟨g109, p110, w111, hy112, C113, hM114⟩ := ev_makeMap (P := Tryz.prog) (α := Int) (β := Int) (t := 139) (Value.int .i64) (Value.int .i64) C78
   refine WL.val (hy112 _ _) ?_
   refine WL.run to 1 rfl ?_
   refine WL.done ?_
   refine W.seq ?_
   refine W.seq ?_
   refine W.region rfl ?_
   refine WL.run to 1 rfl ?_
   refine WL.val (Yl.loadV (g := g40) (off := 0) (o := 5) (cs := q2) (v := .slice A8 n10 c9) rfl Tryz.underlying47 rfl (Ctx.subI 1 C113 rfl) rfl) ?_
   refine WL.val (Yl.lenN (A := A8) (l := n10) (q := c9) (n := (a1.Workers.length : Int)) rfl Tryz.underlying47 (by omega)) ?_
   refine WL.run to 1 rfl ?_
   refine WL.done ?_
   obtain ⟨o270, hX269, H⟩ := bindE H
   refine W.cutM (fun env_ w_ => Ctx w F D w_ F [CH.row g40 0 q2, CH.row g36 0 q1] ∧ o270 = Sum.inl ()) ?_ ?_
   ·refine W.block ?_
    refine W.loop (fun g_ env_ w_ => ∃ (x326 : List (Int × Int)) (x333 : Int) (g327 : Nat) (p328 : CH), env_ 2 = .pointer (some ⟨g36, 0, none⟩) ∧ env_ 3 = .pointer (some ⟨g40, 0, none⟩) ∧ env_ 5 = .map (some g327) ∧ env_ 26 = .slice A8 n10 c9 ∧ env_ 27 = .int .i64 (a1.Workers.length : Int) ∧ env_ 28 = .int .i64 x333 ∧ Ctx w F D w_ F [p328, CH.row g40 0 q2, CH.row g36 0 q1] ∧ MRow (Value.int .i64) (Value.int .i64) p328 g327 x326 ∧ docket_crewed.l1 g_ a0 a1 x326 x333 = some o270) k ⟨([] : List (Int × Int)), 0, g109, p110, rfl, rfl, rfl, rfl, rfl, rfl, C113, hM114, hX269⟩ ?_
    clear hX269
    rintro g_ env_ w_ ⟨x326, x333, g327, p328, ho323, ho324, ho325, ho330, ho331, ho332, C334, hM329, hX269⟩
    rcases g_ with _ | k379
    · exact absurd hX269 (by simp [docket_crewed.l1])
    rw [docket_crewed.l1] at hX269
    apply kn env_ (.c ho323 (.c ho324 (.c ho325 (.c ho330 (.c ho331 (.c ho332 .n))))))
    refine W.seq ?_
    refine W.region rfl ?_
    refine WL.run to 1 rfl ?_
    refine WL.done ?_
    refine W.seq ?_
    rcases iteE hX269 with ⟨hc380, hX269⟩ | ⟨hc380, hX269⟩
    ·refine W.condT (congrArg Value.bool (decide_eq_true hc380)) ?_
     refine W.skip ?_
     refine W.seq ?_
     refine W.block ?_
     refine W.seq ?_
     refine W.region rfl ?_
     refine WL.run to 1 rfl ?_
     obtain ⟨hc381, hX269⟩ := guardE hX269
     obtain ⟨b382, of383, hA384, he385⟩ := hS14 (by omega)
     refine WL.val (Yl.elemAddr (i := x333) rfl rfl hA384 Tryz.underlying47 sz3 (by omega)) ?_
     obtain ⟨cs386, hr387, hx388⟩ := he385 x333.toNat _ (getD_some (d := 0) (by omega))
     obtain rfl := hr387
     refine WL.val (Yl.load (v := .int .i64 (a1.Workers.getD x333.toNat 0)) rfl Tryz.underlying3 rfl (((C334.fro)).cell (hx388 0 _ rfl))) ?_
     refine WL.run to 2 rfl ?_
     refine WL.done ?_
     refine W.seq ?_
     refine W.region rfl ?_
     refine WL.run to 2 rfl ?_
     refine WL.val (Yl.lookup (v := .tuple #[(.int .i64 ((mget x326 (a1.Workers.getD x333.toNat 0)).getD 0)), (.bool ((mget x326 (a1.Workers.getD x333.toNat 0)).isSome))]) hM329 (Ctx.subI 0 C334 rfl) Tryz.underlying139 Tryz.underlying3 rfl (keyInt .i64) zr3 (a1.Workers.getD x333.toNat 0) rfl rfl (by cases (mget x326 (a1.Workers.getD x333.toNat 0)) <;> rfl)) ?_
     refine WL.run to 5 rfl ?_
     refine WL.done ?_
     refine W.seq ?_
     refine W.seq ?_
     refine W.region_quiet (by kernel_rfl) (by kernel_rfl) rfl ?_
     refine WQ.run to 2 rfl ?_
     obtain ⟨g389, HE390, hX269⟩ := bindE hX269
     refine WQ.cut (fun env_ => env_ 60 = .bool g389 ∧ env_ 2 = .pointer (some ⟨g36, 0, none⟩) ∧ env_ 3 = .pointer (some ⟨g40, 0, none⟩) ∧ env_ 5 = .map (some g327) ∧ env_ 6 = .int .i64 x333 ∧ env_ 7 = .int .i64 (a1.Workers.getD x333.toNat 0) ∧ env_ 26 = .slice A8 n10 c9 ∧ env_ 27 = .int .i64 (a1.Workers.length : Int) ∧ env_ 28 = .int .i64 x333) ?_ ?_
     ·rcases iteE HE390 with ⟨hc391, HE390⟩ | ⟨hc391, HE390⟩
      ·refine WQ.kn 40 (congrArg Value.bool hc391) ?_
       refine WQ.offs 6 40 false rfl rfl ?_
       refine WQ.run to 2 rfl ?_
       refine WQ.offs 11 48 false rfl rfl ?_
       refine WQ.run to 1 rfl ?_
       cases HE390
       exact WQ.done ⟨rfl, rfl, rfl, rfl, rfl, rfl, rfl, rfl, rfl⟩
      ·refine WQ.kn 40 (congrArg Value.bool (Bool.eq_false_iff.2 hc391)) ?_
       refine WQ.run to 2 rfl ?_
       refine WQ.vOn rfl rfl (fun _ => Yl.loadV (g := g36) (off := 0) (o := 1) (cs := q1) (v := .int .i64 a0.Workers) rfl Tryz.underlying3 rfl (Ctx.subI 2 (C334.drewN _) rfl) rfl) ?_
       refine WQ.run to 1 rfl ?_
       refine WQ.on rfl rfl ?_
       obtain ⟨r393, hg392, HE390⟩ := bindE HE390
       refine WQ.call (v := .bool r393) (f := 50) (args := #[.int .i64 (a1.Workers.getD x333.toNat 0), .int .i64 0, .int .i64 (wi64 (a0.Workers - 1))]) (fun _ hw => by obtain ⟨_, rfl⟩ := hw; exact (Yenter.fn Tryz.func50 (by kernel_rfl) rfl (argsE (.cons rfl (.cons rfl (.cons rfl .nil)))))) (fun _ hw => by obtain ⟨n_, rfl⟩ := hw; exact (docket_between.calls k379 _ F (a1.Workers.getD x333.toNat 0) 0 (wi64 (a0.Workers - 1)) (C334.drewN n_).pre0  r393 hg392).mono (fun _ _ ⟨he, m_, hm_⟩ => ⟨he, n_ + m_, by rw [hm_, World.drewN_drewN]⟩)) ?_
       refine WQ.run to 3 rfl ?_
       rcases iteE HE390 with ⟨hc394, HE390⟩ | ⟨hc394, HE390⟩
       ·refine WQ.kn 48 (congrArg Value.bool (nb_t hc394)) ?_
        refine WQ.run to 1 rfl ?_
        refine WQ.vOn rfl rfl (fun _ => Yl.loadV (g := g40) (off := 0) (o := 6) (cs := q2) (v := .slice A15 n17 c16) rfl Tryz.underlying47 rfl (Ctx.subI 1 (C334.drewN _) rfl) rfl) ?_
        refine WQ.run to 1 rfl ?_
        obtain ⟨hc395, HE390⟩ := guardE HE390
        obtain ⟨b396, of397, hA398, he399⟩ := hS21 (by omega)
        refine WQ.vOn rfl rfl (fun _ => Yl.elemAddr (i := x333) rfl rfl hA398 Tryz.underlying47 sz3 (by omega)) ?_
        obtain ⟨cs400, hr401, hx402⟩ := he399 x333.toNat _ (getD_some (d := 0) (by omega))
        obtain rfl := hr401
        refine WQ.vOn rfl rfl (fun _ => Yl.load (v := .int .i64 (a1.Indexes.getD x333.toNat 0)) rfl Tryz.underlying3 rfl ((((C334.drewN _).fro)).cell (hx402 0 _ rfl))) ?_
        refine WQ.run to 1 rfl ?_
        refine WQ.vOn rfl rfl (fun _ => Yl.loadV (g := g36) (off := 0) (o := 2) (cs := q1) (v := .int .i64 a0.Height) rfl Tryz.underlying3 rfl (Ctx.subI 2 (C334.drewN _) rfl) rfl) ?_
        obtain ⟨hc403, HE390⟩ := guardE HE390
        refine WQ.vOn rfl rfl (fun _ => Yl.shl (m := 1) (n := a0.Height) (r := shlOp .i64 1 a0.Height) rfl rfl hc403 rfl) ?_
        refine WQ.run to 1 rfl ?_
        refine WQ.on rfl rfl ?_
        obtain ⟨r405, hg404, HE390⟩ := bindE HE390
        refine WQ.call (v := .bool r405) (f := 50) (args := #[.int .i64 (a1.Indexes.getD x333.toNat 0), .int .i64 0, .int .i64 (wi64 ((shlOp .i64 1 a0.Height) - 1))]) (fun _ hw => by obtain ⟨_, rfl⟩ := hw; exact (Yenter.fn Tryz.func50 (by kernel_rfl) rfl (argsE (.cons rfl (.cons rfl (.cons rfl .nil)))))) (fun _ hw => by obtain ⟨n_, rfl⟩ := hw; exact (docket_between.calls k379 _ F (a1.Indexes.getD x333.toNat 0) 0 (wi64 ((shlOp .i64 1 a0.Height) - 1)) (C334.drewN n_).pre0  r405 hg404).mono (fun _ _ ⟨he, m_, hm_⟩ => ⟨he, n_ + m_, by rw [hm_, World.drewN_drewN]⟩)) ?_
        refine WQ.run to 2 rfl ?_
        cases HE390
        exact WQ.done ⟨rfl, rfl, rfl, rfl, rfl, rfl, rfl, rfl, rfl⟩
       ·refine WQ.kn 48 (congrArg Value.bool (nb_f hc394)) ?_
        refine WQ.offs 11 48 false rfl rfl ?_
        refine WQ.run to 1 rfl ?_
        cases HE390
        exact WQ.done ⟨rfl, rfl, rfl, rfl, rfl, rfl, rfl, rfl, rfl⟩
     ·rintro env_ ⟨ho406, ho407, ho408, ho409, ho410, ho411, ho412, ho413, ho414⟩
      intro nq415
      have C416 := Ctx.drewN C334 nq415
      apply kn env_ (.c ho406 (.c ho407 (.c ho408 (.c ho409 (.c ho410 (.c ho411 (.c ho412 (.c ho413 (.c ho414 .n)))))))))
      rcases iteE hX269 with ⟨hc417, hX269⟩ | ⟨hc417, hX269⟩
      ·refine W.condT (congrArg Value.bool hc417) ?_
       refine W.seq ?_
       refine W.region rfl ?_
       refine WL.run to 1 rfl ?_
       refine WL.done ?_
       refine W.ret ?_
       refine thenE_r ?_
       refine inB_r ?_
       refine thenE_r ?_
       refine thenE_r ?_
       refine inB_r ?_
       refine thenE_r ?_
       refine thenE_r ?_
       cases hX269
       replace H := sumE_r H
       have C418 : Ctx _ _ _ _ _ [] := Ctx.pick [] C416 rfl
       have e419 := Option.some.inj H
       subst e419
       exact post_r (resE1 rfl rfl) ⟨rfl, C418⟩
      ·refine W.condF (congrArg Value.bool (Bool.eq_false_iff.2 hc417)) ?_
       refine W.skip ?_
       refine W.region rfl ?_
       refine WL.run to 3 rfl ?_
       obtain ⟨p420, w421, hy422, C423, hM424⟩ := ev_mapUpdate (P := Tryz.prog) (ps1 := []) (ps2 := [CH.row g40 0 q2, CH.row g36 0 q1]) (a1.Workers.getD x333.toNat 0) x333 C416 hM329 Tryz.underlying139 Tryz.underlying3 rfl (keyInt .i64)
       have C425 : Ctx _ _ _ _ _ [p420, CH.row g40 0 q2, CH.row g36 0 q1] := C423
       refine WL.skip (hy422 _ _ _ _ _ rfl rfl rfl) ?_
       refine WL.done ?_
       refine inB_n ?_
       refine W.region rfl ?_
       refine WL.run to 2 rfl ?_
       refine WL.done ?_
       exact thenE_n ⟨k379, Nat.lt_succ_self _, mset x326 (a1.Workers.getD x333.toNat 0) x333, wi64 (x333 + 1), g327, p420, rfl, rfl, rfl, rfl, rfl, rfl, C425, hM424, hX269⟩
    ·refine W.condF (congrArg Value.bool (decide_eq_false hc380)) ?_
     refine W.exit ?_
     refine thenE_x ?_
     refine thenE_x ?_
     refine inB_here ?_
     have C426 : Ctx _ _ _ _ _ [CH.row g40 0 q2, CH.row g36 0 q1] := Ctx.pick [1, 2] C334 rfl
     cases hX269
     refine thenE_n ?_
     exact ⟨C426, rfl⟩
   ·rintro env_ w_ ⟨C268, rfl⟩
    replace H := sumE_l H
    refine W.seq ?_
    refine W.region rfl ?_
    refine WL.run to 1 rfl ?_
    refine WL.done ?_
    refine W.ret ?_
    have C427 : Ctx _ _ _ _ _ [] := Ctx.pick [] C268 rfl
    have e428 := Option.some.inj H
    subst e428
    exact post_r (resE1 rfl rfl) ⟨rfl, C427⟩
def docket_voted.l1 : Nat → TJob → List TCast → Int → Option (Sum (List TCast) Bool)
  | 0, _, _, _ => none
  | k + 1, a1, x374, x384 => if x384 < (a1.Votes.length : Int) then (if 0 ≤ x384 ∧ x384 < (a1.Votes.length : Int) then ((tally_Cast.f k x374 (a1.Votes.getD x384.toNat TCast.z)).bind fun ⟨r485, r486⟩ => (if r486 = 0 then ((docket_asked.f k a1 ((a1.Votes.getD x384.toNat TCast.z).Worker)).bind fun r514 => some (!r514)) else (some true)).bind fun x509 => if x509 = true then (some (Sum.inr false)) else (docket_voted.l1 k a1 r485 (wi64 (x384 + 1)))) else none) else (some (Sum.inl x374))
def docket_voted.f (k : Nat) (a0 : TConfig) (a1 : TJob) : Option Bool := (docket_voted.l1 k a1 ([] : List TCast) 0).bind fun o_ => sumE o_ (fun x279 => (tally_Decide.f k x279 a0.Faulty).bind fun ⟨r526, r527⟩ => (if r527 = (decide (a1.State = 3)) then ((bytes_Equal.f k r526 a1.Value).bind fun r545 => some (r545)) else (some (false))).bind fun g537 => some g537) (fun p_ => some p_)
set_option maxRecDepth 100000 in
set_option maxHeartbeats 4000000 in
theorem docket_voted.calls (k : Nat) (w : World) (F : CH) (a0 : TConfig) (A1 : Option Addr) (c2 : Nat) (n3 : Nat) (A8 : Option Addr) (c9 : Nat) (n10 : Nat) (A15 : Option Addr) (c16 : Nat) (n17 : Nat) (A22 : Option Addr) (c23 : Nat) (n24 : Nat) (A29 : Option Addr) (c30 : Nat) (n31 : Nat) (a1 : TJob) (hp : Pre w F []) (hn4 : n3 = a1.Payload.length) (hl5 : a1.Payload.length ≤ c2) (hm6 : c2 ≤ maxLen) (hS7 : Sl (Kd.int .u8) F F A1 a1.Payload) (hn11 : n10 = a1.Workers.length) (hl12 : a1.Workers.length ≤ c9) (hm13 : c9 ≤ maxLen) (hS14 : Sl (Kd.int .i64) F F A8 a1.Workers) (hn18 : n17 = a1.Indexes.length) (hl19 : a1.Indexes.length ≤ c16) (hm20 : c16 ≤ maxLen) (hS21 : Sl (Kd.int .i64) F F A15 a1.Indexes) (hn25 : n24 = a1.Votes.length) (hl26 : a1.Votes.length ≤ c23) (hm27 : c23 ≤ maxLen) (hS28 : Sl TCast.K F F A22 a1.Votes) (hn32 : n31 = a1.Value.length) (hl33 : a1.Value.length ≤ c30) (hm34 : c30 ≤ maxLen) (hS35 : Sl (Kd.int .u8) F F A29 a1.Value) (r0_ : Bool) (H : docket_voted.f k a0 a1 = some r0_) :
    Calls Tryz.prog 76 #[.agg (List.toArray [.int .i64 a0.Faulty, .int .i64 a0.Workers, .int .i64 a0.Height, .int .i64 a0.Bits, .int .i64 a0.Jobs, .int .i64 a0.Term, .int .i64 a0.Heads]), .agg (List.toArray [.slice A1 n3 c2, .int .i64 a1.State, .int .i64 a1.Attempt, .int .i64 a1.Epoch, .int .i64 a1.Until, .slice A8 n10 c9, .slice A15 n17 c16, .slice A22 n24 c23, .slice A29 n31 c30])] w fun e w' => e = .returned (.bool r0_) ∧ Ctx w F (domL []) w' F [] := by
 have C := Ctx.start hp
 generalize hD : domL [] = D at C ⊢
 unfold docket_voted.f at H
 refine Calls.ofW Tryz.func76 rfl (by simp [Tryz.ntmps76]) ?_
 refine W.seq ?_
 refine W.region rfl ?_
 let q1 : List Go.Value := [.int .i64 a0.Faulty, .int .i64 a0.Workers, .int .i64 a0.Height, .int .i64 a0.Bits, .int .i64 a0.Jobs, .int .i64 a0.Term, .int .i64 a0.Heads]
 obtain ⟨g36, w37, hy38, C39⟩ := ev_box (P := Tryz.prog) 42 (.agg (List.toArray q1)) q1 C rfl
 refine WL.val (hy38 _ _ _ rfl) ?_
 let q2 : List Go.Value := [.slice A1 n3 c2, .int .i64 a1.State, .int .i64 a1.Attempt, .int .i64 a1.Epoch, .int .i64 a1.Until, .slice A8 n10 c9, .slice A15 n17 c16, .slice A22 n24 c23, .slice A29 n31 c30]
 obtain ⟨g40, w41, hy42, C43⟩ := ev_box (P := Tryz.prog) 63 (.agg (List.toArray q2)) q2 C39 rfl
 refine WL.val (hy42 _ _ _ rfl) ?_
 refine WL.run to 1 rfl ?_
 refine WL.done ?_
 refine W.seq ?_
 refine W.region rfl ?_
 refine WL.run to 1 rfl ?_
 refine WL.done ?_
 refine W.seq ?_
 refine W.seq ?_
 refine W.region rfl ?_
 refine WL.run to 1 rfl ?_
 refine WL.val (Yl.loadV (g := g40) (off := 0) (o := 7) (cs := q2) (v := .slice A22 n24 c23) rfl Tryz.underlying61 rfl (Ctx.subI 0 C43 rfl) rfl) ?_
 refine WL.val (Yl.lenN (A := A22) (l := n24) (q := c23) (n := (a1.Votes.length : Int)) rfl Tryz.underlying61 (by omega)) ?_
 refine WL.run to 1 rfl ?_
 refine WL.done ?_
 obtain ⟨o288, hX287, H⟩ := bindE H
 refine W.cutM (fun env_ w_ => ∃ (x279 : List TCast) (F274 : CH) (A280 : Option Addr) (c281 : Nat) (n282 : Nat) (p284 : CH), env_ 2 = .pointer (some ⟨g36, 0, none⟩) ∧ env_ 3 = .pointer (some ⟨g40, 0, none⟩) ∧ env_ 5 = .slice A280 n282 c281 ∧ Ctx w F D w_ F274 [p284, CH.row g40 0 q2, CH.row g36 0 q1] ∧ CH.le F F274 ∧ n282 = x279.length ∧ Row TCast.K F274 p284 (.slice A280 n282 c281) x279 ∧ o288 = Sum.inl x279) ?_ ?_
 ·refine W.block ?_
  have C452 : Ctx _ _ _ _ _ [CH.emp, CH.row g40 0 q2, CH.row g36 0 q1] := Ctx.pick [2, 0, 1] C43 rfl
  refine W.loop (fun g_ env_ w_ => ∃ (x374 : List TCast) (x384 : Int) (F369 : CH) (A375 : Option Addr) (c376 : Nat) (n377 : Nat) (p379 : CH), env_ 2 = .pointer (some ⟨g36, 0, none⟩) ∧ env_ 3 = .pointer (some ⟨g40, 0, none⟩) ∧ env_ 5 = .slice A375 n377 c376 ∧ env_ 13 = .slice A22 n24 c23 ∧ env_ 14 = .int .i64 (a1.Votes.length : Int) ∧ env_ 15 = .int .i64 x384 ∧ Ctx w F D w_ F369 [p379, CH.row g40 0 q2, CH.row g36 0 q1] ∧ CH.le F F369 ∧ n377 = x374.length ∧ Row TCast.K F369 p379 (.slice A375 n377 c376) x374 ∧ docket_voted.l1 g_ a1 x374 x384 = some o288) k ⟨([] : List TCast), 0, F, none, 0, 0, CH.emp, rfl, rfl, rfl, rfl, rfl, rfl, C452, (CH.le_refl _), rfl, (Row.nil _ _), hX287⟩ ?_
  clear hX287
  rintro g_ env_ w_ ⟨x374, x384, F369, A375, c376, n377, p379, ho371, ho372, ho373, ho381, ho382, ho383, C385, le370, hn378, hR380, hX287⟩
  rcases g_ with _ | k451
  · exact absurd hX287 (by simp [docket_voted.l1])
  rw [docket_voted.l1] at hX287
  apply kn env_ (.c ho371 (.c ho372 (.c ho373 (.c ho381 (.c ho382 (.c ho383 .n))))))
  refine W.seq ?_
  refine W.region rfl ?_
  refine WL.run to 1 rfl ?_
  refine WL.done ?_
  refine W.seq ?_
  rcases iteE hX287 with ⟨hc453, hX287⟩ | ⟨hc453, hX287⟩
  ·refine W.condT (congrArg Value.bool (decide_eq_true hc453)) ?_
   refine W.skip ?_
   refine W.seq ?_
   refine W.block ?_
   refine W.seq ?_
   refine W.region rfl ?_
   obtain ⟨hc454, hX287⟩ := guardE hX287
   obtain ⟨b455, of456, hA457, he458⟩ := hS28 (by omega)
   refine WL.val (Yl.elemAddr (i := x384) rfl rfl hA457 Tryz.underlying61 sz96 (by omega)) ?_
   obtain ⟨cs459, hr460, hx461⟩ := he458 x384.toNat _ (getD_some (d := TCast.z) (by omega))
   obtain ⟨A462, c463, n464, rfl, hn465, hl466, hm467, hS468⟩ := TCast.open hr460
   let q3 : List Go.Value := [.int .i64 ((a1.Votes.getD x384.toNat TCast.z).Worker), .slice A462 n464 c463]
   refine WL.val (Yl.loadAgg (cs := q3) rfl Tryz.underlying96 rfl sz96 (fun j u hu => by rw [add_of]; exact ((C385.fro.mono le370)).cell (hx461 _ _ hu))) ?_
   obtain ⟨g469, w470, hy471, C472⟩ := ev_alloc (P := Tryz.prog) (e := 96) [.int .i64 0, .slice none 0 0] C385 zr96 rfl
   refine WL.val (hy471 _ _) ?_
   obtain ⟨w473, hy474, C475⟩ := ev_setI (P := Tryz.prog) (ps1 := []) (ps2 := [p379, CH.row g40 0 q2, CH.row g36 0 q1]) (t := 96) 0 q3 (.agg (List.toArray q3)) C472 rfl rfl (ones_of rfl) sz96
   have C476 : Ctx _ _ _ _ _ [CH.row g469 0 q3, p379, CH.row g40 0 q2, CH.row g36 0 q1] := C475
   refine WL.skip (hy474 _ _ _ _ rfl rfl) ?_
   refine WL.done ?_
   refine W.seq ?_
   refine W.region rfl ?_
   refine WL.run to 1 rfl ?_
   refine WL.val (Yl.loadVA (g := g469) (off := 0) (o := 0) (cs := q3) (us := q3) rfl Tryz.underlying96 rfl sz96 (Ctx.subI 0 C476 rfl) rfl) ?_
   obtain ⟨F477, le478, lp479, (C480 : Ctx _ _ _ _ _ [CH.row g469 0 q3, CH.row g40 0 q2, CH.row g36 0 q1])⟩ := Ctx.fzI 1 C476 rfl
   obtain ⟨hl481, hm482, hS483⟩ := Row.fz hR380 le478 lp479
   obtain ⟨⟨r485, r486⟩, hg484, hX287⟩ := bindE hX287
   refine WL.callH (tally_Cast.calls k451 _ F477 A375 c376 n377 x374 A462 c463 n464 (a1.Votes.getD x384.toNat TCast.z) (Ctx.pre (qs := []) (rest := [CH.row g469 0 q3, CH.row g40 0 q2, CH.row g36 0 q1]) C480) hn378 hl481 hm482 hS483 hn465 hl466 hm467 (Sl.mono hS468 (CH.le_trans le370 le478) (CH.le_trans le370 le478)) r485 r486 hg484) (Yenter.fn Tryz.func83 (by kernel_rfl) rfl (argsE (.cons rfl (.cons rfl .nil)))) ?_
   rintro e_ w_ ⟨F487, A489, c490, n491, p493, rfl, le488, C495, hn492, hR494⟩
   refine ⟨_, rfl, ?_⟩
   have C496 : Ctx _ _ _ _ _ [p493, CH.row g469 0 q3, CH.row g40 0 q2, CH.row g36 0 q1] := Ctx.call (qs := []) (rest := [CH.row g469 0 q3, CH.row g40 0 q2, CH.row g36 0 q1]) C480 C495
   refine WL.run to 5 rfl ?_
   refine WL.done ?_
   refine W.seq ?_
   refine W.seq ?_
   obtain ⟨x509, hX511, hX287⟩ := bindE hX287
   refine W.cutM (fun env_ w_ => env_ 2 = .pointer (some ⟨g36, 0, none⟩) ∧ env_ 3 = .pointer (some ⟨g40, 0, none⟩) ∧ env_ 8 = .slice A489 n491 c490 ∧ env_ 13 = .slice A22 n24 c23 ∧ env_ 14 = .int .i64 (a1.Votes.length : Int) ∧ env_ 15 = .int .i64 x384 ∧ env_ 33 = .bool x509 ∧ Ctx w F D w_ F487 [p493, CH.row g469 0 q3, CH.row g40 0 q2, CH.row g36 0 q1]) ?_ ?_
   ·refine W.region rfl ?_
    refine WL.run to 3 rfl ?_
    rcases iteE hX511 with ⟨hc512, hX511⟩ | ⟨hc512, hX511⟩
    ·refine WL.kn 27 (congrArg Value.bool (ndec_t hc512)) ?_
     refine WL.valOn rfl rfl (Yl.loadVA (g := g40) (off := 0) (o := 0) (cs := q2) (us := q2) rfl Tryz.underlying63 rfl sz63 (Ctx.subI 2 C496 rfl) rfl) ?_
     refine WL.run to 1 rfl ?_
     refine WL.valOn rfl rfl (Yl.loadV (g := g469) (off := 0) (o := 0) (cs := q3) (v := .int .i64 ((a1.Votes.getD x384.toNat TCast.z).Worker)) rfl Tryz.underlying3 rfl (Ctx.subI 1 C496 rfl) rfl) ?_
     refine WL.on rfl rfl ?_
     obtain ⟨r514, hg513, hX511⟩ := bindE hX511
     refine WL.callH (docket_asked.calls k451 _ F487 A1 c2 n3 A8 c9 n10 A15 c16 n17 A22 c23 n24 A29 c30 n31 a1 ((a1.Votes.getD x384.toNat TCast.z).Worker) (Ctx.pre (qs := []) (rest := [p493, CH.row g469 0 q3, CH.row g40 0 q2, CH.row g36 0 q1]) C496) hn4 hl5 hm6 (Sl.mono hS7 (CH.le_trans le370 (CH.le_trans le478 le488)) (CH.le_trans le370 (CH.le_trans le478 le488))) hn11 hl12 hm13 (Sl.mono hS14 (CH.le_trans le370 (CH.le_trans le478 le488)) (CH.le_trans le370 (CH.le_trans le478 le488))) hn18 hl19 hm20 (Sl.mono hS21 (CH.le_trans le370 (CH.le_trans le478 le488)) (CH.le_trans le370 (CH.le_trans le478 le488))) hn25 hl26 hm27 (Sl.mono hS28 (CH.le_trans le370 (CH.le_trans le478 le488)) (CH.le_trans le370 (CH.le_trans le478 le488))) hn32 hl33 hm34 (Sl.mono hS35 (CH.le_trans le370 (CH.le_trans le478 le488)) (CH.le_trans le370 (CH.le_trans le478 le488))) r514 hg513) (Yenter.fn Tryz.func82 (by kernel_rfl) rfl (argsE (.cons rfl (.cons rfl .nil)))) ?_
     rintro e_ w_ ⟨rfl, C515⟩
     refine ⟨_, rfl, ?_⟩
     have C516 : Ctx _ _ _ _ _ [p493, CH.row g469 0 q3, CH.row g40 0 q2, CH.row g36 0 q1] := Ctx.call (qs := []) (rest := [p493, CH.row g469 0 q3, CH.row g40 0 q2, CH.row g36 0 q1]) C496 C515
     refine WL.run to 2 rfl ?_
     refine WL.done ?_
     cases hX511
     refine thenE_n ?_
     exact ⟨rfl, rfl, rfl, rfl, rfl, rfl, rfl, C516⟩
    ·refine WL.kn 27 (congrArg Value.bool (ndec_f hc512)) ?_
     refine WL.offs 5 27 false rfl rfl ?_
     refine WL.run to 1 rfl ?_
     refine WL.done ?_
     cases hX511
     refine thenE_n ?_
     exact ⟨rfl, rfl, rfl, rfl, rfl, rfl, rfl, C496⟩
   ·rintro env_ w_ ⟨ho502, ho503, ho504, ho505, ho506, ho507, ho508, C510⟩
    apply kn env_ (.c ho502 (.c ho503 (.c ho504 (.c ho505 (.c ho506 (.c ho507 (.c ho508 .n)))))))
    rcases iteE hX287 with ⟨hc517, hX287⟩ | ⟨hc517, hX287⟩
    ·refine W.condT (congrArg Value.bool hc517) ?_
     refine W.seq ?_
     refine W.region rfl ?_
     refine WL.run to 1 rfl ?_
     refine WL.done ?_
     refine W.ret ?_
     refine thenE_r ?_
     refine inB_r ?_
     refine thenE_r ?_
     refine thenE_r ?_
     refine inB_r ?_
     refine thenE_r ?_
     refine thenE_r ?_
     cases hX287
     replace H := sumE_r H
     have C518 : Ctx _ _ _ _ _ [] := Ctx.pick [] C510 rfl
     have e519 := Option.some.inj H
     subst e519
     exact post_r (resE1 rfl rfl) ⟨rfl, (Ctx.weak C518 (CH.le_refl _))⟩
    ·refine W.condF (congrArg Value.bool (Bool.eq_false_iff.2 hc517)) ?_
     refine W.skip ?_
     refine W.region rfl ?_
     refine WL.run to 2 rfl ?_
     refine WL.done ?_
     refine inB_n ?_
     refine W.region rfl ?_
     refine WL.run to 2 rfl ?_
     refine WL.done ?_
     have C520 : Ctx _ _ _ _ _ [p493, CH.row g40 0 q2, CH.row g36 0 q1] := Ctx.pick [0, 2, 3] C510 rfl
     exact thenE_n ⟨k451, Nat.lt_succ_self _, r485, wi64 (x384 + 1), F487, A489, c490, n491, p493, rfl, rfl, rfl, rfl, rfl, rfl, C520, (CH.le_trans le370 (CH.le_trans le478 le488)), hn492, hR494, hX287⟩
  ·refine W.condF (congrArg Value.bool (decide_eq_false hc453)) ?_
   refine W.exit ?_
   refine thenE_x ?_
   refine thenE_x ?_
   refine inB_here ?_
   cases hX287
   refine thenE_n ?_
   exact ⟨x374, F369, A375, c376, n377, p379, rfl, rfl, rfl, C385, le370, hn378, hR380, rfl⟩
 ·rintro env_ w_ ⟨x279, F274, A280, c281, n282, p284, ho276, ho277, ho278, C286, le275, hn283, hR285, rfl⟩
  replace H := sumE_l H
  apply kn env_ (.c ho276 (.c ho277 (.c ho278 .n)))
  refine W.seq ?_
  refine W.region rfl ?_
  refine WL.run to 2 rfl ?_
  refine WL.val (Yl.loadV (g := g36) (off := 0) (o := 0) (cs := q1) (v := .int .i64 a0.Faulty) rfl Tryz.underlying3 rfl (Ctx.subI 2 C286 rfl) rfl) ?_
  obtain ⟨F521, le522, lp523, (C524 : Ctx _ _ _ _ _ [CH.row g40 0 q2, CH.row g36 0 q1])⟩ := Ctx.fzI 0 C286 rfl
  obtain ⟨⟨r526, r527⟩, hg525, H⟩ := bindE H
  refine WL.callH (tally_Decide.calls k _ F521 A280 c281 n282 x279 a0.Faulty (Ctx.pre (qs := []) (rest := [CH.row g40 0 q2, CH.row g36 0 q1]) C524) hn283 (Row.len_le hR285).1 (Row.len_le hR285).2.1 (Sl.mono (Row.sl hR285) le522 lp523) r526 r527 hg525) (Yenter.fn Tryz.func84 (by kernel_rfl) rfl (argsE (.cons rfl (.cons rfl .nil)))) ?_
  rintro e_ w_ ⟨A528, c529, n530, p532, rfl, C534, hn531, hR533⟩
  refine ⟨_, rfl, ?_⟩
  have hR535 : Row (Kd.int .u8) F274 p532 (.slice A528 n530 c529) r526 := hR533
  have C536 : Ctx _ _ _ _ _ [p532, p284, CH.row g40 0 q2, CH.row g36 0 q1] := Ctx.callL (qs := []) (rest := [p284, CH.row g40 0 q2, CH.row g36 0 q1]) C286 le522 C534
  refine WL.run to 5 rfl ?_
  refine WL.done ?_
  refine W.seq ?_
  refine W.region rfl ?_
  refine WL.run to 2 rfl ?_
  refine WL.val (Yl.loadV (g := g40) (off := 0) (o := 1) (cs := q2) (v := .int .i64 a1.State) rfl Tryz.underlying3 rfl (Ctx.subI 2 C536 rfl) rfl) ?_
  refine WL.run to 1 rfl ?_
  refine WL.val (Yl.beqD (p := r527) (q := decide (a1.State = 3)) rfl rfl Tryz.underlying4) ?_
  refine WL.run to 1 rfl ?_
  obtain ⟨g537, HE538, H⟩ := bindE H
  refine WL.cut (fun env_ w_ => env_ 4 = .bool g537 ∧ Ctx w F D w_ F274 [p532, p284, CH.row g40 0 q2, CH.row g36 0 q1]) ?_ ?_
  ·rcases iteE HE538 with ⟨hc539, HE538⟩ | ⟨hc539, HE538⟩
   ·refine WL.kn 48 (congrArg Value.bool (decide_eq_true hc539)) ?_
    refine WL.run to 2 rfl ?_
    refine WL.valOn rfl rfl (Yl.loadV (g := g40) (off := 0) (o := 8) (cs := q2) (v := .slice A29 n31 c30) rfl Tryz.underlying24 rfl (Ctx.subI 2 C536 rfl) rfl) ?_
    refine WL.on rfl rfl ?_
    obtain ⟨F540, le541, lp542, (C543 : Ctx _ _ _ _ _ [p284, CH.row g40 0 q2, CH.row g36 0 q1])⟩ := Ctx.fzI 0 C536 rfl
    obtain ⟨r545, hg544, HE538⟩ := bindE HE538
    refine WL.callH (bytes_Equal.calls k _ F540 A528 c529 n530 r526 A29 c30 n31 a1.Value C543.pre0 hn531 (Row.len_le hR535).1 (Row.len_le hR535).2.1 (Sl.mono (Row.sl hR535) le541 lp542) hn32 hl33 hm34 (Sl.mono hS35 (CH.le_trans le275 le541) (CH.le_trans le275 le541)) r545 hg544) (Yenter.fn Tryz.func89 (by kernel_rfl) rfl (argsE (.cons rfl (.cons rfl .nil)))) ?_
    rintro e_ w_ ⟨rfl, ⟨m546, rfl⟩⟩
    refine ⟨_, rfl, ?_⟩
    have C547 := Ctx.drewN C536 m546
    refine WL.run to 2 rfl ?_
    cases HE538
    exact WL.done ⟨rfl, C547⟩
   ·refine WL.kn 48 (congrArg Value.bool (decide_eq_false hc539)) ?_
    refine WL.offs 4 48 true rfl rfl ?_
    refine WL.run to 2 rfl ?_
    cases HE538
    exact WL.done ⟨rfl, C536⟩
  ·rintro env_ w_ ⟨ho548, C549⟩
   apply kn env_ (.c ho548 .n)
   refine W.ret ?_
   have C550 : Ctx _ _ _ _ _ [] := Ctx.pick [] C549 rfl
   have e551 := Option.some.inj H
   subst e551
   exact post_r (resE1 rfl rfl) ⟨rfl, (Ctx.weak C550 (CH.le_refl _))⟩
def docket_sound.f (k : Nat) (a0 : TConfig) (a1 : TState) (a2 : TJob) : Option Bool := (if (a2.Payload.length : Int) > 64 then (some (true)) else ((docket_between.f k a2.Attempt 0 1099511627776).bind fun r80 => some (!r80))).bind fun g76 => if g76 = true then (some false) else (if a2.State = 1 then ((if a2.Epoch = 0 then (if a2.Until = 0 then (some (decide ((wi64 ((wi64 ((wi64 ((a2.Workers.length : Int) + (a2.Indexes.length : Int))) + (a2.Votes.length : Int))) + (a2.Value.length : Int))) = 0))) else (some (false))) else (some (false))).bind fun g92 => some g92) else ((if a2.State = 2 then (some (decide (a2.State = 2))) else (some (decide (a2.State = 3)))).bind fun x105 => if x105 = true then ((docket_Nonce.f k a1 a2.Epoch).bind fun ⟨r111, r112⟩ => (if r112 = true then (if a2.Attempt > 0 then ((docket_between.f k a2.Until 1 1099511627776).bind fun r147 => if r147 = true then ((docket_crewed.f k a0 a2).bind fun r152 => if r152 = true then ((docket_voted.f k a0 a2).bind fun r157 => some r157) else (some false)) else (some false)) else (some false)) else (some false)).bind fun x141 => some x141) else (some false)))
set_option maxRecDepth 100000 in
set_option maxHeartbeats 4000000 in
theorem docket_sound.calls (k : Nat) (w : World) (F : CH) (a0 : TConfig) (A1 : Option Addr) (c2 : Nat) (n3 : Nat) (A8 : Option Addr) (c9 : Nat) (n10 : Nat) (A15 : Option Addr) (c16 : Nat) (n17 : Nat) (A22 : Option Addr) (c23 : Nat) (n24 : Nat) (a1 : TState) (A29 : Option Addr) (c30 : Nat) (n31 : Nat) (A36 : Option Addr) (c37 : Nat) (n38 : Nat) (A43 : Option Addr) (c44 : Nat) (n45 : Nat) (A50 : Option Addr) (c51 : Nat) (n52 : Nat) (A57 : Option Addr) (c58 : Nat) (n59 : Nat) (a2 : TJob) (hp : Pre w F []) (hn4 : n3 = a1.Eras.length) (hl5 : a1.Eras.length ≤ c2) (hm6 : c2 ≤ maxLen) (hS7 : Sl TEra.K F F A1 a1.Eras) (hn11 : n10 = a1.Jobs.length) (hl12 : a1.Jobs.length ≤ c9) (hm13 : c9 ≤ maxLen) (hS14 : Sl TJob.K F F A8 a1.Jobs) (hn18 : n17 = a1.Used.length) (hl19 : a1.Used.length ≤ c16) (hm20 : c16 ≤ maxLen) (hS21 : Sl (Kd.int .i64) F F A15 a1.Used) (hn25 : n24 = a1.Barred.length) (hl26 : a1.Barred.length ≤ c23) (hm27 : c23 ≤ maxLen) (hS28 : Sl Kd.bool F F A22 a1.Barred) (hn32 : n31 = a2.Payload.length) (hl33 : a2.Payload.length ≤ c30) (hm34 : c30 ≤ maxLen) (hS35 : Sl (Kd.int .u8) F F A29 a2.Payload) (hn39 : n38 = a2.Workers.length) (hl40 : a2.Workers.length ≤ c37) (hm41 : c37 ≤ maxLen) (hS42 : Sl (Kd.int .i64) F F A36 a2.Workers) (hn46 : n45 = a2.Indexes.length) (hl47 : a2.Indexes.length ≤ c44) (hm48 : c44 ≤ maxLen) (hS49 : Sl (Kd.int .i64) F F A43 a2.Indexes) (hn53 : n52 = a2.Votes.length) (hl54 : a2.Votes.length ≤ c51) (hm55 : c51 ≤ maxLen) (hS56 : Sl TCast.K F F A50 a2.Votes) (hn60 : n59 = a2.Value.length) (hl61 : a2.Value.length ≤ c58) (hm62 : c58 ≤ maxLen) (hS63 : Sl (Kd.int .u8) F F A57 a2.Value) (r0_ : Bool) (H : docket_sound.f k a0 a1 a2 = some r0_) :
    Calls Tryz.prog 63 #[.agg (List.toArray [.int .i64 a0.Faulty, .int .i64 a0.Workers, .int .i64 a0.Height, .int .i64 a0.Bits, .int .i64 a0.Jobs, .int .i64 a0.Term, .int .i64 a0.Heads]), .agg (List.toArray [.slice A1 n3 c2, .slice A8 n10 c9, .slice A15 n17 c16, .slice A22 n24 c23, .int .i64 a1.Heads]), .agg (List.toArray [.slice A29 n31 c30, .int .i64 a2.State, .int .i64 a2.Attempt, .int .i64 a2.Epoch, .int .i64 a2.Until, .slice A36 n38 c37, .slice A43 n45 c44, .slice A50 n52 c51, .slice A57 n59 c58])] w fun e w' => e = .returned (.bool r0_) ∧ Ctx w F (domL []) w' F [] := by
 have C := Ctx.start hp
 generalize hD : domL [] = D at C ⊢
 unfold docket_sound.f at H
 refine Calls.ofW Tryz.func63 rfl (by simp [Tryz.ntmps63]) ?_
 refine W.seq ?_
 refine W.region rfl ?_
 let q1 : List Go.Value := [.int .i64 a0.Faulty, .int .i64 a0.Workers, .int .i64 a0.Height, .int .i64 a0.Bits, .int .i64 a0.Jobs, .int .i64 a0.Term, .int .i64 a0.Heads]
 obtain ⟨g64, w65, hy66, C67⟩ := ev_box (P := Tryz.prog) 42 (.agg (List.toArray q1)) q1 C rfl
 refine WL.val (hy66 _ _ _ rfl) ?_
 let q2 : List Go.Value := [.slice A1 n3 c2, .slice A8 n10 c9, .slice A15 n17 c16, .slice A22 n24 c23, .int .i64 a1.Heads]
 obtain ⟨g68, w69, hy70, C71⟩ := ev_box (P := Tryz.prog) 50 (.agg (List.toArray q2)) q2 C67 rfl
 refine WL.val (hy70 _ _ _ rfl) ?_
 let q3 : List Go.Value := [.slice A29 n31 c30, .int .i64 a2.State, .int .i64 a2.Attempt, .int .i64 a2.Epoch, .int .i64 a2.Until, .slice A36 n38 c37, .slice A43 n45 c44, .slice A50 n52 c51, .slice A57 n59 c58]
 obtain ⟨g72, w73, hy74, C75⟩ := ev_box (P := Tryz.prog) 63 (.agg (List.toArray q3)) q3 C71 rfl
 refine WL.val (hy74 _ _ _ rfl) ?_
 refine WL.run to 1 rfl ?_
 refine WL.done ?_
 refine W.seq ?_
 refine W.seq ?_
 refine W.region rfl ?_
 refine WL.run to 1 rfl ?_
 refine WL.val (Yl.loadV (g := g72) (off := 0) (o := 0) (cs := q3) (v := .slice A29 n31 c30) rfl Tryz.underlying24 rfl (Ctx.subI 0 C75 rfl) rfl) ?_
 refine WL.val (Yl.lenN (A := A29) (l := n31) (q := c30) (n := (a2.Payload.length : Int)) rfl Tryz.underlying24 (by omega)) ?_
 refine WL.run to 2 rfl ?_
 obtain ⟨g76, HE77, H⟩ := bindE H
 refine WL.cut (fun env_ w_ => env_ 18 = .bool g76 ∧ env_ 3 = .pointer (some ⟨g64, 0, none⟩) ∧ env_ 4 = .pointer (some ⟨g68, 0, none⟩) ∧ env_ 5 = .pointer (some ⟨g72, 0, none⟩) ∧ Ctx w F D w_ F [CH.row g72 0 q3, CH.row g68 0 q2, CH.row g64 0 q1]) ?_ ?_
 ·rcases iteE HE77 with ⟨hc78, HE77⟩ | ⟨hc78, HE77⟩
  ·refine WL.kn 13 (congrArg Value.bool (decide_eq_true hc78)) ?_
   refine WL.offs 4 13 false rfl rfl ?_
   refine WL.run to 1 rfl ?_
   cases HE77
   exact WL.done ⟨rfl, rfl, rfl, rfl, C75⟩
  ·refine WL.kn 13 (congrArg Value.bool (decide_eq_false hc78)) ?_
   refine WL.run to 1 rfl ?_
   refine WL.valOn rfl rfl (Yl.loadV (g := g72) (off := 0) (o := 2) (cs := q3) (v := .int .i64 a2.Attempt) rfl Tryz.underlying3 rfl (Ctx.subI 0 C75 rfl) rfl) ?_
   refine WL.on rfl rfl ?_
   obtain ⟨r80, hg79, HE77⟩ := bindE HE77
   refine WL.callH (docket_between.calls k _ F a2.Attempt 0 1099511627776 C75.pre0  r80 hg79) (Yenter.fn Tryz.func50 (by kernel_rfl) rfl (argsE (.cons rfl (.cons rfl (.cons rfl .nil))))) ?_
   rintro e_ w_ ⟨rfl, ⟨m81, rfl⟩⟩
   refine ⟨_, rfl, ?_⟩
   have C82 := Ctx.drewN C75 m81
   refine WL.run to 2 rfl ?_
   cases HE77
   exact WL.done ⟨rfl, rfl, rfl, rfl, C82⟩
 ·rintro env_ w_ ⟨ho83, ho84, ho85, ho86, C87⟩
  apply kn env_ (.c ho83 (.c ho84 (.c ho85 (.c ho86 .n))))
  rcases iteE H with ⟨hc88, H⟩ | ⟨hc88, H⟩
  ·refine W.condT (congrArg Value.bool hc88) ?_
   refine W.seq ?_
   refine W.region rfl ?_
   refine WL.run to 1 rfl ?_
   refine WL.done ?_
   refine W.ret ?_
   refine thenE_r ?_
   have C89 : Ctx _ _ _ _ _ [] := Ctx.pick [] C87 rfl
   have e90 := Option.some.inj H
   subst e90
   exact post_r (resE1 rfl rfl) ⟨rfl, C89⟩
  ·refine W.condF (congrArg Value.bool (Bool.eq_false_iff.2 hc88)) ?_
   refine W.skip ?_
   refine W.seq ?_
   refine W.seq ?_
   refine W.region rfl ?_
   refine WL.run to 1 rfl ?_
   refine WL.val (Yl.loadV (g := g72) (off := 0) (o := 1) (cs := q3) (v := .int .i64 a2.State) rfl Tryz.underlying3 rfl (Ctx.subI 0 C87 rfl) rfl) ?_
   refine WL.done ?_
   refine W.block ?_
   refine W.seq ?_
   refine W.region rfl ?_
   refine WL.run to 2 rfl ?_
   refine WL.done ?_
   rcases iteE H with ⟨hc91, H⟩ | ⟨hc91, H⟩
   ·refine W.condT (congrArg Value.bool (decide_eq_true hc91)) ?_
    refine W.seq ?_
    refine W.region rfl ?_
    refine WL.run to 1 rfl ?_
    refine WL.val (Yl.loadV (g := g72) (off := 0) (o := 3) (cs := q3) (v := .int .i64 a2.Epoch) rfl Tryz.underlying3 rfl (Ctx.subI 0 C87 rfl) rfl) ?_
    refine WL.run to 2 rfl ?_
    obtain ⟨g92, HE93, H⟩ := bindE H
    refine WL.cut (fun env_ w_ => env_ 6 = .bool g92 ∧ Ctx w F D w_ F [CH.row g72 0 q3, CH.row g68 0 q2, CH.row g64 0 q1]) ?_ ?_
    ·rcases iteE HE93 with ⟨hc94, HE93⟩ | ⟨hc94, HE93⟩
     ·refine WL.kn 26 (congrArg Value.bool (decide_eq_true hc94)) ?_
      refine WL.run to 1 rfl ?_
      refine WL.valOn rfl rfl (Yl.loadV (g := g72) (off := 0) (o := 4) (cs := q3) (v := .int .i64 a2.Until) rfl Tryz.underlying3 rfl (Ctx.subI 0 C87 rfl) rfl) ?_
      refine WL.run to 3 rfl ?_
      rcases iteE HE93 with ⟨hc95, HE93⟩ | ⟨hc95, HE93⟩
      ·refine WL.kn 31 (congrArg Value.bool (decide_eq_true hc95)) ?_
       refine WL.run to 1 rfl ?_
       refine WL.valOn rfl rfl (Yl.loadV (g := g72) (off := 0) (o := 5) (cs := q3) (v := .slice A36 n38 c37) rfl Tryz.underlying47 rfl (Ctx.subI 0 C87 rfl) rfl) ?_
       refine WL.valOn rfl rfl (Yl.lenN (A := A36) (l := n38) (q := c37) (n := (a2.Workers.length : Int)) rfl Tryz.underlying47 (by omega)) ?_
       refine WL.run to 1 rfl ?_
       refine WL.valOn rfl rfl (Yl.loadV (g := g72) (off := 0) (o := 6) (cs := q3) (v := .slice A43 n45 c44) rfl Tryz.underlying47 rfl (Ctx.subI 0 C87 rfl) rfl) ?_
       refine WL.valOn rfl rfl (Yl.lenN (A := A43) (l := n45) (q := c44) (n := (a2.Indexes.length : Int)) rfl Tryz.underlying47 (by omega)) ?_
       refine WL.run to 2 rfl ?_
       refine WL.valOn rfl rfl (Yl.loadV (g := g72) (off := 0) (o := 7) (cs := q3) (v := .slice A50 n52 c51) rfl Tryz.underlying61 rfl (Ctx.subI 0 C87 rfl) rfl) ?_
       refine WL.valOn rfl rfl (Yl.lenN (A := A50) (l := n52) (q := c51) (n := (a2.Votes.length : Int)) rfl Tryz.underlying61 (by omega)) ?_
       refine WL.run to 2 rfl ?_
       refine WL.valOn rfl rfl (Yl.loadV (g := g72) (off := 0) (o := 8) (cs := q3) (v := .slice A57 n59 c58) rfl Tryz.underlying24 rfl (Ctx.subI 0 C87 rfl) rfl) ?_
       refine WL.valOn rfl rfl (Yl.lenN (A := A57) (l := n59) (q := c58) (n := (a2.Value.length : Int)) rfl Tryz.underlying24 (by omega)) ?_
       refine WL.run to 4 rfl ?_
       cases HE93
       exact WL.done ⟨rfl, C87⟩
      ·refine WL.kn 31 (congrArg Value.bool (decide_eq_false hc95)) ?_
       refine WL.offs 16 31 true rfl rfl ?_
       refine WL.run to 2 rfl ?_
       cases HE93
       exact WL.done ⟨rfl, C87⟩
     ·refine WL.kn 26 (congrArg Value.bool (decide_eq_false hc94)) ?_
      refine WL.offs 3 26 true rfl rfl ?_
      refine WL.run to 2 rfl ?_
      refine WL.offs 16 31 true rfl rfl ?_
      refine WL.run to 2 rfl ?_
      cases HE93
      exact WL.done ⟨rfl, C87⟩
    ·rintro env_ w_ ⟨ho96, C97⟩
     apply kn env_ (.c ho96 .n)
     refine W.ret ?_
     refine inB_r ?_
     refine thenE_r ?_
     have C98 : Ctx _ _ _ _ _ [] := Ctx.pick [] C97 rfl
     have e99 := Option.some.inj H
     subst e99
     exact post_r (resE1 rfl rfl) ⟨rfl, C98⟩
   ·refine W.condF (congrArg Value.bool (decide_eq_false hc91)) ?_
    refine W.seq ?_
    obtain ⟨x105, hX107, H⟩ := bindE H
    refine W.cutM (fun env_ w_ => env_ 3 = .pointer (some ⟨g64, 0, none⟩) ∧ env_ 4 = .pointer (some ⟨g68, 0, none⟩) ∧ env_ 5 = .pointer (some ⟨g72, 0, none⟩) ∧ env_ 49 = .bool x105 ∧ Ctx w F D w_ F [CH.row g72 0 q3, CH.row g68 0 q2, CH.row g64 0 q1]) ?_ ?_
    ·refine W.seq ?_
     refine W.region rfl ?_
     refine WL.run to 2 rfl ?_
     refine WL.done ?_
     rcases iteE hX107 with ⟨hc108, hX107⟩ | ⟨hc108, hX107⟩
     ·refine W.condT (congrArg Value.bool (decide_eq_true hc108)) ?_
      refine W.skip ?_
      cases hX107
      refine thenE_n ?_
      exact ⟨rfl, rfl, rfl, rfl, C87⟩
     ·refine W.condF (congrArg Value.bool (decide_eq_false hc108)) ?_
      refine W.region rfl ?_
      refine WL.run to 2 rfl ?_
      refine WL.done ?_
      cases hX107
      refine thenE_n ?_
      exact ⟨rfl, rfl, rfl, rfl, C87⟩
    ·rintro env_ w_ ⟨ho101, ho102, ho103, ho104, C106⟩
     apply kn env_ (.c ho101 (.c ho102 (.c ho103 (.c ho104 .n))))
     rcases iteE H with ⟨hc109, H⟩ | ⟨hc109, H⟩
     ·refine W.condT (congrArg Value.bool hc109) ?_
      refine W.seq ?_
      refine W.region rfl ?_
      refine WL.val (Yl.loadVA (g := g68) (off := 0) (o := 0) (cs := q2) (us := q2) rfl Tryz.underlying50 rfl sz50 (Ctx.subI 1 C106 rfl) rfl) ?_
      refine WL.run to 1 rfl ?_
      refine WL.val (Yl.loadV (g := g72) (off := 0) (o := 3) (cs := q3) (v := .int .i64 a2.Epoch) rfl Tryz.underlying3 rfl (Ctx.subI 0 C106 rfl) rfl) ?_
      obtain ⟨⟨r111, r112⟩, hg110, H⟩ := bindE H
      refine WL.callH (docket_Nonce.calls k _ F A1 c2 n3 A8 c9 n10 A15 c16 n17 A22 c23 n24 a1 a2.Epoch (Ctx.pre (qs := []) (rest := [CH.row g72 0 q3, CH.row g68 0 q2, CH.row g64 0 q1]) C106) hn4 hl5 hm6 hS7 hn11 hl12 hm13 hS14 hn18 hl19 hm20 hS21 hn25 hl26 hm27 hS28 r111 r112 hg110) (Yenter.fn Tryz.func74 (by kernel_rfl) rfl (argsE (.cons rfl (.cons rfl .nil)))) ?_
      rintro e_ w_ ⟨rfl, C114, ha113⟩
      refine ⟨_, rfl, ?_⟩
      have C115 : Ctx _ _ _ _ _ [CH.row g72 0 q3, CH.row g68 0 q2, CH.row g64 0 q1] := Ctx.call (qs := []) (rest := [CH.row g72 0 q3, CH.row g68 0 q2, CH.row g64 0 q1]) C106 C114
      refine WL.run to 3 rfl ?_
      obtain ⟨g116, w117, hy118, C119⟩ := ev_alloc (P := Tryz.prog) (e := 23) ((List.replicate 32 (0 : Int)).map (Value.int .u8)) C115 zr23 rfl
      refine WL.val (hy118 _ _) ?_
      obtain ⟨w120, hy121, C122⟩ := ev_put (P := Tryz.prog) (ps1 := []) (ps2 := [CH.row g72 0 q3, CH.row g68 0 q2, CH.row g64 0 q1]) (t := 23) (r111.map (Value.int .u8)) (.agg (List.toArray (r111.map (Value.int .u8)))) C119 (Put.all 32 (len_map (List.length_replicate ..)) (len_map ha113)) rfl (one_ints _ _) (sz_of sz23 (len_map ha113))
      have C123 : Ctx _ _ _ _ _ [CH.row g116 0 (r111.map (Value.int .u8)), CH.row g72 0 q3, CH.row g68 0 q2, CH.row g64 0 q1] := C122
      refine WL.skip (hy121 _ _ _ _ rfl rfl) ?_
      refine WL.run to 1 rfl ?_
      refine WL.done ?_
      refine W.seq ?_
      obtain ⟨x141, hX143, H⟩ := bindE H
      refine W.cutM (fun env_ w_ => env_ 6 = .bool x141 ∧ Ctx w F D w_ F [CH.row g116 0 (r111.map (Value.int .u8)), CH.row g72 0 q3, CH.row g68 0 q2, CH.row g64 0 q1]) ?_ ?_
      ·refine W.region rfl ?_
       refine WL.run to 2 rfl ?_
       rcases iteE hX143 with ⟨hc144, hX143⟩ | ⟨hc144, hX143⟩
       ·refine WL.kn 60 (congrArg Value.bool hc144) ?_
        refine WL.run to 1 rfl ?_
        refine WL.valOn rfl rfl (Yl.loadV (g := g72) (off := 0) (o := 2) (cs := q3) (v := .int .i64 a2.Attempt) rfl Tryz.underlying3 rfl (Ctx.subI 1 C123 rfl) rfl) ?_
        refine WL.run to 3 rfl ?_
        rcases iteE hX143 with ⟨hc145, hX143⟩ | ⟨hc145, hX143⟩
        ·refine WL.kn 65 (congrArg Value.bool (decide_eq_true hc145)) ?_
         refine WL.run to 1 rfl ?_
         refine WL.valOn rfl rfl (Yl.loadV (g := g72) (off := 0) (o := 4) (cs := q3) (v := .int .i64 a2.Until) rfl Tryz.underlying3 rfl (Ctx.subI 1 C123 rfl) rfl) ?_
         refine WL.on rfl rfl ?_
         obtain ⟨r147, hg146, hX143⟩ := bindE hX143
         refine WL.callH (docket_between.calls k _ F a2.Until 1 1099511627776 C123.pre0  r147 hg146) (Yenter.fn Tryz.func50 (by kernel_rfl) rfl (argsE (.cons rfl (.cons rfl (.cons rfl .nil))))) ?_
         rintro e_ w_ ⟨rfl, ⟨m148, rfl⟩⟩
         refine ⟨_, rfl, ?_⟩
         have C149 := Ctx.drewN C123 m148
         refine WL.run to 2 rfl ?_
         rcases iteE hX143 with ⟨hc150, hX143⟩ | ⟨hc150, hX143⟩
         ·refine WL.kn 70 (congrArg Value.bool hc150) ?_
          refine WL.valOn rfl rfl (Yl.loadVA (g := g64) (off := 0) (o := 0) (cs := q1) (us := q1) rfl Tryz.underlying42 rfl sz42 (Ctx.subI 3 C149 rfl) rfl) ?_
          refine WL.valOn rfl rfl (Yl.loadVA (g := g72) (off := 0) (o := 0) (cs := q3) (us := q3) rfl Tryz.underlying63 rfl sz63 (Ctx.subI 1 C149 rfl) rfl) ?_
          refine WL.on rfl rfl ?_
          obtain ⟨r152, hg151, hX143⟩ := bindE hX143
          refine WL.callH (docket_crewed.calls k _ F a0 A29 c30 n31 A36 c37 n38 A43 c44 n45 A50 c51 n52 A57 c58 n59 a2 (Ctx.pre (qs := []) (rest := [CH.row g116 0 (r111.map (Value.int .u8)), CH.row g72 0 q3, CH.row g68 0 q2, CH.row g64 0 q1]) C149) hn32 hl33 hm34 hS35 hn39 hl40 hm41 hS42 hn46 hl47 hm48 hS49 hn53 hl54 hm55 hS56 hn60 hl61 hm62 hS63 r152 hg151) (Yenter.fn Tryz.func75 (by kernel_rfl) rfl (argsE (.cons rfl (.cons rfl .nil)))) ?_
          rintro e_ w_ ⟨rfl, C153⟩
          refine ⟨_, rfl, ?_⟩
          have C154 : Ctx _ _ _ _ _ [CH.row g116 0 (r111.map (Value.int .u8)), CH.row g72 0 q3, CH.row g68 0 q2, CH.row g64 0 q1] := Ctx.call (qs := []) (rest := [CH.row g116 0 (r111.map (Value.int .u8)), CH.row g72 0 q3, CH.row g68 0 q2, CH.row g64 0 q1]) C149 C153
          refine WL.run to 2 rfl ?_
          rcases iteE hX143 with ⟨hc155, hX143⟩ | ⟨hc155, hX143⟩
          ·refine WL.kn 75 (congrArg Value.bool hc155) ?_
           refine WL.valOn rfl rfl (Yl.loadVA (g := g64) (off := 0) (o := 0) (cs := q1) (us := q1) rfl Tryz.underlying42 rfl sz42 (Ctx.subI 3 C154 rfl) rfl) ?_
           refine WL.valOn rfl rfl (Yl.loadVA (g := g72) (off := 0) (o := 0) (cs := q3) (us := q3) rfl Tryz.underlying63 rfl sz63 (Ctx.subI 1 C154 rfl) rfl) ?_
           refine WL.on rfl rfl ?_
           obtain ⟨r157, hg156, hX143⟩ := bindE hX143
           refine WL.callH (docket_voted.calls k _ F a0 A29 c30 n31 A36 c37 n38 A43 c44 n45 A50 c51 n52 A57 c58 n59 a2 (Ctx.pre (qs := []) (rest := [CH.row g116 0 (r111.map (Value.int .u8)), CH.row g72 0 q3, CH.row g68 0 q2, CH.row g64 0 q1]) C154) hn32 hl33 hm34 hS35 hn39 hl40 hm41 hS42 hn46 hl47 hm48 hS49 hn53 hl54 hm55 hS56 hn60 hl61 hm62 hS63 r157 hg156) (Yenter.fn Tryz.func76 (by kernel_rfl) rfl (argsE (.cons rfl (.cons rfl .nil)))) ?_
           rintro e_ w_ ⟨rfl, C158⟩
           refine ⟨_, rfl, ?_⟩
           have C159 : Ctx _ _ _ _ _ [CH.row g116 0 (r111.map (Value.int .u8)), CH.row g72 0 q3, CH.row g68 0 q2, CH.row g64 0 q1] := Ctx.call (qs := []) (rest := [CH.row g116 0 (r111.map (Value.int .u8)), CH.row g72 0 q3, CH.row g68 0 q2, CH.row g64 0 q1]) C154 C158
           refine WL.run to 2 rfl ?_
           refine WL.done ?_
           cases hX143
           refine thenE_n ?_
           exact ⟨rfl, C159⟩
          ·refine WL.kn 75 (congrArg Value.bool (Bool.eq_false_iff.2 hc155)) ?_
           refine WL.offs 3 75 true rfl rfl ?_
           refine WL.run to 2 rfl ?_
           refine WL.done ?_
           cases hX143
           refine thenE_n ?_
           exact ⟨rfl, C154⟩
         ·refine WL.kn 70 (congrArg Value.bool (Bool.eq_false_iff.2 hc150)) ?_
          refine WL.offs 3 70 true rfl rfl ?_
          refine WL.run to 2 rfl ?_
          refine WL.offs 3 75 true rfl rfl ?_
          refine WL.run to 2 rfl ?_
          refine WL.done ?_
          cases hX143
          refine thenE_n ?_
          exact ⟨rfl, C149⟩
        ·refine WL.kn 65 (congrArg Value.bool (decide_eq_false hc145)) ?_
         refine WL.offs 3 65 true rfl rfl ?_
         refine WL.run to 2 rfl ?_
         refine WL.offs 3 70 true rfl rfl ?_
         refine WL.run to 2 rfl ?_
         refine WL.offs 3 75 true rfl rfl ?_
         refine WL.run to 2 rfl ?_
         refine WL.done ?_
         cases hX143
         refine thenE_n ?_
         exact ⟨rfl, C123⟩
       ·refine WL.kn 60 (congrArg Value.bool (Bool.eq_false_iff.2 hc144)) ?_
        refine WL.offs 3 60 true rfl rfl ?_
        refine WL.run to 2 rfl ?_
        refine WL.offs 3 65 true rfl rfl ?_
        refine WL.run to 2 rfl ?_
        refine WL.offs 3 70 true rfl rfl ?_
        refine WL.run to 2 rfl ?_
        refine WL.offs 3 75 true rfl rfl ?_
        refine WL.run to 2 rfl ?_
        refine WL.done ?_
        cases hX143
        refine thenE_n ?_
        exact ⟨rfl, C123⟩
      ·rintro env_ w_ ⟨ho140, C142⟩
       apply kn env_ (.c ho140 .n)
       refine W.ret ?_
       refine inB_r ?_
       refine thenE_r ?_
       have C160 : Ctx _ _ _ _ _ [] := Ctx.pick [] C142 rfl
       have e161 := Option.some.inj H
       subst e161
       exact post_r (resE1 rfl rfl) ⟨rfl, C160⟩
     ·refine W.condF (congrArg Value.bool (Bool.eq_false_iff.2 hc109)) ?_
      refine W.skip ?_
      refine inB_n ?_
      refine W.seq ?_
      refine W.region rfl ?_
      refine WL.run to 1 rfl ?_
      refine WL.done ?_
      refine W.ret ?_
      have C162 : Ctx _ _ _ _ _ [] := Ctx.pick [] C106 rfl
      have e163 := Option.some.inj H
      subst e163
      exact post_r (resE1 rfl rfl) ⟨rfl, C162⟩
def docket_right.l1 : Nat → TConfig → TState → Int → Option (Sum Unit Bool)
  | 0, _, _, _ => none
  | k + 1, a0, a1, x102 => if x102 < (a1.Used.length : Int) then (if 0 ≤ x102 ∧ x102 < (a1.Used.length : Int) then (if 0 ≤ a0.Height then ((docket_between.f k (a1.Used.getD x102.toNat 0) 0 (shlOp .i64 1 a0.Height)).bind fun r131 => if r131 = true then (docket_right.l1 k a0 a1 (wi64 (x102 + 1))) else (some (Sum.inr false))) else none) else none) else (some (Sum.inl ()))
def docket_right.l2 : Nat → TState → Int → Int → Option (Sum Unit Bool)
  | 0, _, _, _ => none
  | k + 1, a1, x202, x206 => if x206 < (a1.Eras.length : Int) then (if 0 ≤ x206 ∧ x206 < (a1.Eras.length : Int) then ((docket_between.f k ((a1.Eras.getD x206.toNat TEra.z).Epoch) (wi64 (x202 + 1)) 1099511627776).bind fun r251 => if r251 = true then (docket_right.l2 k a1 ((a1.Eras.getD x206.toNat TEra.z).Epoch) (wi64 (x206 + 1))) else (some (Sum.inr false))) else none) else (some (Sum.inl ()))
def docket_right.l3 : Nat → TConfig → TState → Int → Option (Sum Unit Bool)
  | 0, _, _, _ => none
  | k + 1, a0, a1, x389 => if x389 < (a1.Jobs.length : Int) then (if 0 ≤ x389 ∧ x389 < (a1.Jobs.length : Int) then ((docket_sound.f k a0 a1 (a1.Jobs.getD x389.toNat TJob.z)).bind fun r502 => if r502 = true then (docket_right.l3 k a0 a1 (wi64 (x389 + 1))) else (some (Sum.inr false))) else none) else (some (Sum.inl ()))
def docket_right.f (k : Nat) (a0 : TConfig) (a1 : TState) : Option Bool := (if (a1.Used.length : Int) = a0.Workers then (if (a1.Barred.length : Int) = a0.Workers then (if 0 ≤ a0.Heads then ((docket_between.f k a1.Heads 0 (shlOp .i64 1 a0.Heads)).bind fun r43 => if r43 = true then (if (a1.Eras.length : Int) > 256 then (some (true)) else (some (decide ((a1.Jobs.length : Int) > a0.Jobs)))) else (some (true))) else none) else (some (true))) else (some (true))).bind fun g37 => if g37 = true then (some false) else ((docket_right.l1 k a0 a1 0).bind fun o_ => sumE o_ (fun _ => (docket_right.l2 k a1 0 0).bind fun o_ => sumE o_ (fun _ => (docket_right.l3 k a0 a1 0).bind fun o_ => sumE o_ (fun _ => some true) (fun p_ => some p_)) (fun p_ => some p_)) (fun p_ => some p_))
set_option maxRecDepth 100000 in
set_option maxHeartbeats 4000000 in
theorem docket_right.calls (k : Nat) (w : World) (F : CH) (a0 : TConfig) (A1 : Option Addr) (c2 : Nat) (n3 : Nat) (A8 : Option Addr) (c9 : Nat) (n10 : Nat) (A15 : Option Addr) (c16 : Nat) (n17 : Nat) (A22 : Option Addr) (c23 : Nat) (n24 : Nat) (a1 : TState) (hp : Pre w F []) (hn4 : n3 = a1.Eras.length) (hl5 : a1.Eras.length ≤ c2) (hm6 : c2 ≤ maxLen) (hS7 : Sl TEra.K F F A1 a1.Eras) (hn11 : n10 = a1.Jobs.length) (hl12 : a1.Jobs.length ≤ c9) (hm13 : c9 ≤ maxLen) (hS14 : Sl TJob.K F F A8 a1.Jobs) (hn18 : n17 = a1.Used.length) (hl19 : a1.Used.length ≤ c16) (hm20 : c16 ≤ maxLen) (hS21 : Sl (Kd.int .i64) F F A15 a1.Used) (hn25 : n24 = a1.Barred.length) (hl26 : a1.Barred.length ≤ c23) (hm27 : c23 ≤ maxLen) (hS28 : Sl Kd.bool F F A22 a1.Barred) (r0_ : Bool) (H : docket_right.f k a0 a1 = some r0_) :
    Calls Tryz.prog 40 #[.agg (List.toArray [.int .i64 a0.Faulty, .int .i64 a0.Workers, .int .i64 a0.Height, .int .i64 a0.Bits, .int .i64 a0.Jobs, .int .i64 a0.Term, .int .i64 a0.Heads]), .agg (List.toArray [.slice A1 n3 c2, .slice A8 n10 c9, .slice A15 n17 c16, .slice A22 n24 c23, .int .i64 a1.Heads])] w fun e w' => e = .returned (.bool r0_) ∧ Ctx w F (domL []) w' F [] := by
 have C := Ctx.start hp
 generalize hD : domL [] = D at C ⊢
 unfold docket_right.f at H
 refine Calls.ofW Tryz.func40 rfl (by simp [Tryz.ntmps40]) ?_
 refine W.seq ?_
 refine W.region rfl ?_
 let q1 : List Go.Value := [.int .i64 a0.Faulty, .int .i64 a0.Workers, .int .i64 a0.Height, .int .i64 a0.Bits, .int .i64 a0.Jobs, .int .i64 a0.Term, .int .i64 a0.Heads]
 obtain ⟨g29, w30, hy31, C32⟩ := ev_box (P := Tryz.prog) 42 (.agg (List.toArray q1)) q1 C rfl
 refine WL.val (hy31 _ _ _ rfl) ?_
 let q2 : List Go.Value := [.slice A1 n3 c2, .slice A8 n10 c9, .slice A15 n17 c16, .slice A22 n24 c23, .int .i64 a1.Heads]
 obtain ⟨g33, w34, hy35, C36⟩ := ev_box (P := Tryz.prog) 50 (.agg (List.toArray q2)) q2 C32 rfl
 refine WL.val (hy35 _ _ _ rfl) ?_
 refine WL.run to 1 rfl ?_
 refine WL.done ?_
 refine W.seq ?_
 refine W.seq ?_
 refine W.region_quiet (by kernel_rfl) (by kernel_rfl) rfl ?_
 refine WQ.run to 1 rfl ?_
 refine WQ.vl (fun _ => Yl.loadV (g := g33) (off := 0) (o := 2) (cs := q2) (v := .slice A15 n17 c16) rfl Tryz.underlying47 rfl (Ctx.subI 0 (C36.drewN _) rfl) rfl) ?_
 refine WQ.vl (fun _ => Yl.lenN (A := A15) (l := n17) (q := c16) (n := (a1.Used.length : Int)) rfl Tryz.underlying47 (by omega)) ?_
 refine WQ.run to 1 rfl ?_
 refine WQ.vl (fun _ => Yl.loadV (g := g29) (off := 0) (o := 1) (cs := q1) (v := .int .i64 a0.Workers) rfl Tryz.underlying3 rfl (Ctx.subI 1 (C36.drewN _) rfl) rfl) ?_
 refine WQ.run to 2 rfl ?_
 obtain ⟨g37, HE38, H⟩ := bindE H
 refine WQ.cut (fun env_ => env_ 48 = .bool g37 ∧ env_ 2 = .pointer (some ⟨g29, 0, none⟩) ∧ env_ 3 = .pointer (some ⟨g33, 0, none⟩)) ?_ ?_
 ·rcases iteE HE38 with ⟨hc39, HE38⟩ | ⟨hc39, HE38⟩
  ·refine WQ.kn 18 (congrArg Value.bool (ndec_t hc39)) ?_
   refine WQ.run to 1 rfl ?_
   refine WQ.vOn rfl rfl (fun _ => Yl.loadV (g := g33) (off := 0) (o := 3) (cs := q2) (v := .slice A22 n24 c23) rfl Tryz.underlying48 rfl (Ctx.subI 0 (C36.drewN _) rfl) rfl) ?_
   refine WQ.vOn rfl rfl (fun _ => Yl.lenN (A := A22) (l := n24) (q := c23) (n := (a1.Barred.length : Int)) rfl Tryz.underlying48 (by omega)) ?_
   refine WQ.run to 1 rfl ?_
   refine WQ.vOn rfl rfl (fun _ => Yl.loadV (g := g29) (off := 0) (o := 1) (cs := q1) (v := .int .i64 a0.Workers) rfl Tryz.underlying3 rfl (Ctx.subI 1 (C36.drewN _) rfl) rfl) ?_
   refine WQ.run to 3 rfl ?_
   rcases iteE HE38 with ⟨hc40, HE38⟩ | ⟨hc40, HE38⟩
   ·refine WQ.kn 26 (congrArg Value.bool (ndec_t hc40)) ?_
    refine WQ.run to 1 rfl ?_
    refine WQ.vOn rfl rfl (fun _ => Yl.loadV (g := g33) (off := 0) (o := 4) (cs := q2) (v := .int .i64 a1.Heads) rfl Tryz.underlying3 rfl (Ctx.subI 0 (C36.drewN _) rfl) rfl) ?_
    refine WQ.run to 1 rfl ?_
    refine WQ.vOn rfl rfl (fun _ => Yl.loadV (g := g29) (off := 0) (o := 6) (cs := q1) (v := .int .i64 a0.Heads) rfl Tryz.underlying3 rfl (Ctx.subI 1 (C36.drewN _) rfl) rfl) ?_
    obtain ⟨hc41, HE38⟩ := guardE HE38
    refine WQ.vOn rfl rfl (fun _ => Yl.shl (m := 1) (n := a0.Heads) (r := shlOp .i64 1 a0.Heads) rfl rfl hc41 rfl) ?_
    refine WQ.on rfl rfl ?_
    obtain ⟨r43, hg42, HE38⟩ := bindE HE38
    refine WQ.call (v := .bool r43) (f := 50) (args := #[.int .i64 a1.Heads, .int .i64 0, .int .i64 (shlOp .i64 1 a0.Heads)]) (fun _ hw => by obtain ⟨_, rfl⟩ := hw; exact (Yenter.fn Tryz.func50 (by kernel_rfl) rfl (argsE (.cons rfl (.cons rfl (.cons rfl .nil)))))) (fun _ hw => by obtain ⟨n_, rfl⟩ := hw; exact (docket_between.calls k _ F a1.Heads 0 (shlOp .i64 1 a0.Heads) (C36.drewN n_).pre0  r43 hg42).mono (fun _ _ ⟨he, m_, hm_⟩ => ⟨he, n_ + m_, by rw [hm_, World.drewN_drewN]⟩)) ?_
    refine WQ.run to 3 rfl ?_
    rcases iteE HE38 with ⟨hc44, HE38⟩ | ⟨hc44, HE38⟩
    ·refine WQ.kn 35 (congrArg Value.bool (nb_t hc44)) ?_
     refine WQ.run to 1 rfl ?_
     refine WQ.vOn rfl rfl (fun _ => Yl.loadV (g := g33) (off := 0) (o := 0) (cs := q2) (v := .slice A1 n3 c2) rfl Tryz.underlying45 rfl (Ctx.subI 0 (C36.drewN _) rfl) rfl) ?_
     refine WQ.vOn rfl rfl (fun _ => Yl.lenN (A := A1) (l := n3) (q := c2) (n := (a1.Eras.length : Int)) rfl Tryz.underlying45 (by omega)) ?_
     refine WQ.run to 3 rfl ?_
     rcases iteE HE38 with ⟨hc45, HE38⟩ | ⟨hc45, HE38⟩
     ·refine WQ.kn 41 (congrArg Value.bool (decide_eq_true hc45)) ?_
      refine WQ.offs 6 41 false rfl rfl ?_
      refine WQ.run to 1 rfl ?_
      cases HE38
      exact WQ.done ⟨rfl, rfl, rfl⟩
     ·refine WQ.kn 41 (congrArg Value.bool (decide_eq_false hc45)) ?_
      refine WQ.run to 1 rfl ?_
      refine WQ.vOn rfl rfl (fun _ => Yl.loadV (g := g33) (off := 0) (o := 1) (cs := q2) (v := .slice A8 n10 c9) rfl Tryz.underlying46 rfl (Ctx.subI 0 (C36.drewN _) rfl) rfl) ?_
      refine WQ.vOn rfl rfl (fun _ => Yl.lenN (A := A8) (l := n10) (q := c9) (n := (a1.Jobs.length : Int)) rfl Tryz.underlying46 (by omega)) ?_
      refine WQ.run to 1 rfl ?_
      refine WQ.vOn rfl rfl (fun _ => Yl.loadV (g := g29) (off := 0) (o := 4) (cs := q1) (v := .int .i64 a0.Jobs) rfl Tryz.underlying3 rfl (Ctx.subI 1 (C36.drewN _) rfl) rfl) ?_
      refine WQ.run to 2 rfl ?_
      cases HE38
      exact WQ.done ⟨rfl, rfl, rfl⟩
    ·refine WQ.kn 35 (congrArg Value.bool (nb_f hc44)) ?_
     refine WQ.offs 4 35 false rfl rfl ?_
     refine WQ.run to 2 rfl ?_
     refine WQ.offs 6 41 false rfl rfl ?_
     refine WQ.run to 1 rfl ?_
     cases HE38
     exact WQ.done ⟨rfl, rfl, rfl⟩
   ·refine WQ.kn 26 (congrArg Value.bool (ndec_f hc40)) ?_
    refine WQ.offs 7 26 false rfl rfl ?_
    refine WQ.run to 2 rfl ?_
    refine WQ.offs 4 35 false rfl rfl ?_
    refine WQ.run to 2 rfl ?_
    refine WQ.offs 6 41 false rfl rfl ?_
    refine WQ.run to 1 rfl ?_
    cases HE38
    exact WQ.done ⟨rfl, rfl, rfl⟩
  ·refine WQ.kn 18 (congrArg Value.bool (ndec_f hc39)) ?_
   refine WQ.offs 6 18 false rfl rfl ?_
   refine WQ.run to 2 rfl ?_
   refine WQ.offs 7 26 false rfl rfl ?_
   refine WQ.run to 2 rfl ?_
   refine WQ.offs 4 35 false rfl rfl ?_
   refine WQ.run to 2 rfl ?_
   refine WQ.offs 6 41 false rfl rfl ?_
   refine WQ.run to 1 rfl ?_
   cases HE38
   exact WQ.done ⟨rfl, rfl, rfl⟩
 ·rintro env_ ⟨ho46, ho47, ho48⟩
  intro nq49
  have C50 := Ctx.drewN C36 nq49
  apply kn env_ (.c ho46 (.c ho47 (.c ho48 .n)))
  rcases iteE H with ⟨hc51, H⟩ | ⟨hc51, H⟩
  ·refine W.condT (congrArg Value.bool hc51) ?_
   refine W.seq ?_
   refine W.region rfl ?_
   refine WL.run to 1 rfl ?_
   refine WL.done ?_
   refine W.ret ?_
   refine thenE_r ?_
   have C52 : Ctx _ _ _ _ _ [] := Ctx.pick [] C50 rfl
   have e53 := Option.some.inj H
   subst e53
   exact post_r (resE1 rfl rfl) ⟨rfl, C52⟩
  ·refine W.condF (congrArg Value.bool (Bool.eq_false_iff.2 hc51)) ?_
   refine W.skip ?_
   refine W.seq ?_
   refine W.seq ?_
   refine W.region rfl ?_
   refine WL.run to 1 rfl ?_
   refine WL.val (Yl.loadV (g := g33) (off := 0) (o := 2) (cs := q2) (v := .slice A15 n17 c16) rfl Tryz.underlying47 rfl (Ctx.subI 0 C50 rfl) rfl) ?_
   refine WL.val (Yl.lenN (A := A15) (l := n17) (q := c16) (n := (a1.Used.length : Int)) rfl Tryz.underlying47 (by omega)) ?_
   refine WL.run to 1 rfl ?_
   refine WL.done ?_
   obtain ⟨o96, hX95, H⟩ := bindE H
   refine W.cutM (fun env_ w_ => env_ 2 = .pointer (some ⟨g29, 0, none⟩) ∧ env_ 3 = .pointer (some ⟨g33, 0, none⟩) ∧ Ctx w F D w_ F [CH.row g33 0 q2, CH.row g29 0 q1] ∧ o96 = Sum.inl ()) ?_ ?_
   ·refine W.block ?_
    refine W.loop (fun g_ env_ w_ => ∃ (x102 : Int), env_ 2 = .pointer (some ⟨g29, 0, none⟩) ∧ env_ 3 = .pointer (some ⟨g33, 0, none⟩) ∧ env_ 50 = .slice A15 n17 c16 ∧ env_ 51 = .int .i64 (a1.Used.length : Int) ∧ env_ 52 = .int .i64 x102 ∧ Ctx w F D w_ F [CH.row g33 0 q2, CH.row g29 0 q1] ∧ docket_right.l1 g_ a0 a1 x102 = some o96) k ⟨0, rfl, rfl, rfl, rfl, rfl, C50, hX95⟩ ?_
    clear hX95
    rintro g_ env_ w_ ⟨x102, ho97, ho98, ho99, ho100, ho101, C103, hX95⟩
    rcases g_ with _ | k119
    · exact absurd hX95 (by simp [docket_right.l1])
    rw [docket_right.l1] at hX95
    apply kn env_ (.c ho97 (.c ho98 (.c ho99 (.c ho100 (.c ho101 .n)))))
    refine W.seq ?_
    refine W.region rfl ?_
    refine WL.run to 1 rfl ?_
    refine WL.done ?_
    refine W.seq ?_
    rcases iteE hX95 with ⟨hc120, hX95⟩ | ⟨hc120, hX95⟩
    ·refine W.condT (congrArg Value.bool (decide_eq_true hc120)) ?_
     refine W.skip ?_
     refine W.seq ?_
     refine W.block ?_
     refine W.seq ?_
     refine W.region rfl ?_
     obtain ⟨hc121, hX95⟩ := guardE hX95
     obtain ⟨b122, of123, hA124, he125⟩ := hS21 (by omega)
     refine WL.val (Yl.elemAddr (i := x102) rfl rfl hA124 Tryz.underlying47 sz3 (by omega)) ?_
     obtain ⟨cs126, hr127, hx128⟩ := he125 x102.toNat _ (getD_some (d := 0) (by omega))
     obtain rfl := hr127
     refine WL.val (Yl.load (v := .int .i64 (a1.Used.getD x102.toNat 0)) rfl Tryz.underlying3 rfl (((C103.fro)).cell (hx128 0 _ rfl))) ?_
     refine WL.run to 1 rfl ?_
     refine WL.done ?_
     refine W.seq ?_
     refine W.region rfl ?_
     refine WL.run to 2 rfl ?_
     refine WL.val (Yl.loadV (g := g29) (off := 0) (o := 2) (cs := q1) (v := .int .i64 a0.Height) rfl Tryz.underlying3 rfl (Ctx.subI 1 C103 rfl) rfl) ?_
     obtain ⟨hc129, hX95⟩ := guardE hX95
     refine WL.val (Yl.shl (m := 1) (n := a0.Height) (r := shlOp .i64 1 a0.Height) rfl rfl hc129 rfl) ?_
     obtain ⟨r131, hg130, hX95⟩ := bindE hX95
     refine WL.callH (docket_between.calls k119 _ F (a1.Used.getD x102.toNat 0) 0 (shlOp .i64 1 a0.Height) C103.pre0  r131 hg130) (Yenter.fn Tryz.func50 (by kernel_rfl) rfl (argsE (.cons rfl (.cons rfl (.cons rfl .nil))))) ?_
     rintro e_ w_ ⟨rfl, ⟨m132, rfl⟩⟩
     refine ⟨_, rfl, ?_⟩
     have C133 := Ctx.drewN C103 m132
     refine WL.run to 1 rfl ?_
     refine WL.done ?_
     rcases iteE hX95 with ⟨hc134, hX95⟩ | ⟨hc134, hX95⟩
     ·refine W.condF (congrArg Value.bool (nb_t hc134)) ?_
      refine W.skip ?_
      refine inB_n ?_
      refine W.region rfl ?_
      refine WL.run to 2 rfl ?_
      refine WL.done ?_
      exact thenE_n ⟨k119, Nat.lt_succ_self _, wi64 (x102 + 1), rfl, rfl, rfl, rfl, rfl, C133, hX95⟩
     ·refine W.condT (congrArg Value.bool (nb_f hc134)) ?_
      refine W.seq ?_
      refine W.region rfl ?_
      refine WL.run to 1 rfl ?_
      refine WL.done ?_
      refine W.ret ?_
      refine inB_r ?_
      refine thenE_r ?_
      refine thenE_r ?_
      refine inB_r ?_
      refine thenE_r ?_
      refine thenE_r ?_
      cases hX95
      replace H := sumE_r H
      have C135 : Ctx _ _ _ _ _ [] := Ctx.pick [] C133 rfl
      have e136 := Option.some.inj H
      subst e136
      exact post_r (resE1 rfl rfl) ⟨rfl, C135⟩
    ·refine W.condF (congrArg Value.bool (decide_eq_false hc120)) ?_
     refine W.exit ?_
     refine thenE_x ?_
     refine thenE_x ?_
     refine inB_here ?_
     cases hX95
     refine thenE_n ?_
     exact ⟨rfl, rfl, C103, rfl⟩
   ·rintro env_ w_ ⟨ho92, ho93, C94, rfl⟩
    replace H := sumE_l H
    apply kn env_ (.c ho92 (.c ho93 .n))
    refine W.seq ?_
    refine W.region rfl ?_
    refine WL.run to 1 rfl ?_
    refine WL.done ?_
    refine W.seq ?_
    refine W.seq ?_
    refine W.region rfl ?_
    refine WL.run to 1 rfl ?_
    refine WL.val (Yl.loadV (g := g33) (off := 0) (o := 0) (cs := q2) (v := .slice A1 n3 c2) rfl Tryz.underlying45 rfl (Ctx.subI 0 C94 rfl) rfl) ?_
    refine WL.val (Yl.lenN (A := A1) (l := n3) (q := c2) (n := (a1.Eras.length : Int)) rfl Tryz.underlying45 (by omega)) ?_
    refine WL.run to 1 rfl ?_
    refine WL.done ?_
    obtain ⟨o198, hX197, H⟩ := bindE H
    refine W.cutM (fun env_ w_ => env_ 2 = .pointer (some ⟨g29, 0, none⟩) ∧ env_ 3 = .pointer (some ⟨g33, 0, none⟩) ∧ Ctx w F D w_ F [CH.row g33 0 q2, CH.row g29 0 q1] ∧ o198 = Sum.inl ()) ?_ ?_
    ·refine W.block ?_
     refine W.loop (fun g_ env_ w_ => ∃ (x202 : Int) (x206 : Int), env_ 2 = .pointer (some ⟨g29, 0, none⟩) ∧ env_ 3 = .pointer (some ⟨g33, 0, none⟩) ∧ env_ 7 = .int .i64 x202 ∧ env_ 64 = .slice A1 n3 c2 ∧ env_ 65 = .int .i64 (a1.Eras.length : Int) ∧ env_ 66 = .int .i64 x206 ∧ Ctx w F D w_ F [CH.row g33 0 q2, CH.row g29 0 q1] ∧ docket_right.l2 g_ a1 x202 x206 = some o198) k ⟨0, 0, rfl, rfl, rfl, rfl, rfl, rfl, C94, hX197⟩ ?_
     clear hX197
     rintro g_ env_ w_ ⟨x202, x206, ho199, ho200, ho201, ho203, ho204, ho205, C207, hX197⟩
     rcases g_ with _ | k231
     · exact absurd hX197 (by simp [docket_right.l2])
     rw [docket_right.l2] at hX197
     apply kn env_ (.c ho199 (.c ho200 (.c ho201 (.c ho203 (.c ho204 (.c ho205 .n))))))
     refine W.seq ?_
     refine W.region rfl ?_
     refine WL.run to 1 rfl ?_
     refine WL.done ?_
     refine W.seq ?_
     rcases iteE hX197 with ⟨hc232, hX197⟩ | ⟨hc232, hX197⟩
     ·refine W.condT (congrArg Value.bool (decide_eq_true hc232)) ?_
      refine W.skip ?_
      refine W.seq ?_
      refine W.block ?_
      refine W.seq ?_
      refine W.region rfl ?_
      obtain ⟨hc233, hX197⟩ := guardE hX197
      obtain ⟨b234, of235, hA236, he237⟩ := hS7 (by omega)
      refine WL.val (Yl.elemAddr (i := x206) rfl rfl hA236 Tryz.underlying45 sz94 (by omega)) ?_
      obtain ⟨cs238, hr239, hx240⟩ := he237 x206.toNat _ (getD_some (d := TEra.z) (by omega))
      obtain ⟨rfl, ha241⟩ := TEra.open hr239
      let q3 : List Go.Value := [.int .i64 ((a1.Eras.getD x206.toNat TEra.z).Epoch)] ++ (((a1.Eras.getD x206.toNat TEra.z).Nonce).map (Value.int .u8))
      refine WL.val (Yl.loadAgg (cs := q3) rfl Tryz.underlying94 rfl (sz_of sz94 (len_app rfl (len_map ha241))) (fun j u hu => by rw [add_of]; exact ((C207.fro)).cell (hx240 _ _ hu))) ?_
      let q4 : List Go.Value := [.int .i64 0] ++ ((List.replicate 32 (0 : Int)).map (Value.int .u8))
      obtain ⟨g242, w243, hy244, C245⟩ := ev_alloc (P := Tryz.prog) (e := 94) q4 C207 zr94 rfl
      refine WL.val (hy244 _ _) ?_
      obtain ⟨w246, hy247, C248⟩ := ev_put (P := Tryz.prog) (ps1 := []) (ps2 := [CH.row g33 0 q2, CH.row g29 0 q1]) (t := 94) q3 (.agg (List.toArray q3)) C245 (Put.all 33 (len_app rfl (len_map (List.length_replicate ..))) (len_app rfl (len_map ha241))) rfl (ones_append (ones_of rfl) (one_ints _ _)) (sz_of sz94 (len_app rfl (len_map ha241)))
      have C249 : Ctx _ _ _ _ _ [CH.row g242 0 q3, CH.row g33 0 q2, CH.row g29 0 q1] := C248
      refine WL.skip (hy247 _ _ _ _ rfl rfl) ?_
      refine WL.done ?_
      refine W.seq ?_
      refine W.seq ?_
      refine W.region rfl ?_
      refine WL.run to 1 rfl ?_
      refine WL.val (Yl.loadV (g := g242) (off := 0) (o := 0) (cs := q3) (v := .int .i64 ((a1.Eras.getD x206.toNat TEra.z).Epoch)) rfl Tryz.underlying3 rfl (Ctx.subI 0 C249 rfl) rfl) ?_
      refine WL.run to 2 rfl ?_
      obtain ⟨r251, hg250, hX197⟩ := bindE hX197
      refine WL.callH (docket_between.calls k231 _ F ((a1.Eras.getD x206.toNat TEra.z).Epoch) (wi64 (x202 + 1)) 1099511627776 C249.pre0  r251 hg250) (Yenter.fn Tryz.func50 (by kernel_rfl) rfl (argsE (.cons rfl (.cons rfl (.cons rfl .nil))))) ?_
      rintro e_ w_ ⟨rfl, ⟨m252, rfl⟩⟩
      refine ⟨_, rfl, ?_⟩
      have C253 := Ctx.drewN C249 m252
      refine WL.run to 1 rfl ?_
      refine WL.done ?_
      rcases iteE hX197 with ⟨hc254, hX197⟩ | ⟨hc254, hX197⟩
      ·refine W.condF (congrArg Value.bool (nb_t hc254)) ?_
       refine W.skip ?_
       refine W.region rfl ?_
       refine WL.run to 1 rfl ?_
       refine WL.val (Yl.loadV (g := g242) (off := 0) (o := 0) (cs := q3) (v := .int .i64 ((a1.Eras.getD x206.toNat TEra.z).Epoch)) rfl Tryz.underlying3 rfl (Ctx.subI 0 C253 rfl) rfl) ?_
       refine WL.run to 1 rfl ?_
       refine WL.done ?_
       refine inB_n ?_
       refine W.region rfl ?_
       refine WL.run to 2 rfl ?_
       refine WL.done ?_
       have C255 : Ctx _ _ _ _ _ [CH.row g33 0 q2, CH.row g29 0 q1] := Ctx.pick [1, 2] C253 rfl
       exact thenE_n ⟨k231, Nat.lt_succ_self _, (a1.Eras.getD x206.toNat TEra.z).Epoch, wi64 (x206 + 1), rfl, rfl, rfl, rfl, rfl, rfl, C255, hX197⟩
      ·refine W.condT (congrArg Value.bool (nb_f hc254)) ?_
       refine W.seq ?_
       refine W.region rfl ?_
       refine WL.run to 1 rfl ?_
       refine WL.done ?_
       refine W.ret ?_
       refine thenE_r ?_
       refine inB_r ?_
       refine thenE_r ?_
       refine thenE_r ?_
       refine inB_r ?_
       refine thenE_r ?_
       refine thenE_r ?_
       cases hX197
       replace H := sumE_r H
       have C256 : Ctx _ _ _ _ _ [] := Ctx.pick [] C253 rfl
       have e257 := Option.some.inj H
       subst e257
       exact post_r (resE1 rfl rfl) ⟨rfl, C256⟩
     ·refine W.condF (congrArg Value.bool (decide_eq_false hc232)) ?_
      refine W.exit ?_
      refine thenE_x ?_
      refine thenE_x ?_
      refine inB_here ?_
      cases hX197
      refine thenE_n ?_
      exact ⟨rfl, rfl, C207, rfl⟩
    ·rintro env_ w_ ⟨ho194, ho195, C196, rfl⟩
     replace H := sumE_l H
     apply kn env_ (.c ho194 (.c ho195 .n))
     refine W.seq ?_
     refine W.seq ?_
     refine W.region rfl ?_
     refine WL.run to 1 rfl ?_
     refine WL.val (Yl.loadV (g := g33) (off := 0) (o := 1) (cs := q2) (v := .slice A8 n10 c9) rfl Tryz.underlying46 rfl (Ctx.subI 0 C196 rfl) rfl) ?_
     refine WL.val (Yl.lenN (A := A8) (l := n10) (q := c9) (n := (a1.Jobs.length : Int)) rfl Tryz.underlying46 (by omega)) ?_
     refine WL.run to 1 rfl ?_
     refine WL.done ?_
     obtain ⟨o383, hX382, H⟩ := bindE H
     refine W.cutM (fun env_ w_ => Ctx w F D w_ F [CH.row g33 0 q2, CH.row g29 0 q1] ∧ o383 = Sum.inl ()) ?_ ?_
     ·refine W.block ?_
      refine W.loop (fun g_ env_ w_ => ∃ (x389 : Int), env_ 2 = .pointer (some ⟨g29, 0, none⟩) ∧ env_ 3 = .pointer (some ⟨g33, 0, none⟩) ∧ env_ 80 = .slice A8 n10 c9 ∧ env_ 81 = .int .i64 (a1.Jobs.length : Int) ∧ env_ 82 = .int .i64 x389 ∧ Ctx w F D w_ F [CH.row g33 0 q2, CH.row g29 0 q1] ∧ docket_right.l3 g_ a0 a1 x389 = some o383) k ⟨0, rfl, rfl, rfl, rfl, rfl, C196, hX382⟩ ?_
      clear hX382
      rintro g_ env_ w_ ⟨x389, ho384, ho385, ho386, ho387, ho388, C390, hX382⟩
      rcases g_ with _ | k448
      · exact absurd hX382 (by simp [docket_right.l3])
      rw [docket_right.l3] at hX382
      apply kn env_ (.c ho384 (.c ho385 (.c ho386 (.c ho387 (.c ho388 .n)))))
      refine W.seq ?_
      refine W.region rfl ?_
      refine WL.run to 1 rfl ?_
      refine WL.done ?_
      refine W.seq ?_
      rcases iteE hX382 with ⟨hc449, hX382⟩ | ⟨hc449, hX382⟩
      ·refine W.condT (congrArg Value.bool (decide_eq_true hc449)) ?_
       refine W.skip ?_
       refine W.seq ?_
       refine W.block ?_
       refine W.seq ?_
       refine W.region rfl ?_
       obtain ⟨hc450, hX382⟩ := guardE hX382
       obtain ⟨b451, of452, hA453, he454⟩ := hS14 (by omega)
       refine WL.val (Yl.elemAddr (i := x389) rfl rfl hA453 Tryz.underlying46 sz63 (by omega)) ?_
       obtain ⟨cs455, hr456, hx457⟩ := he454 x389.toNat _ (getD_some (d := TJob.z) (by omega))
       obtain ⟨A458, c459, n460, A465, c466, n467, A472, c473, n474, A479, c480, n481, A486, c487, n488, rfl, hn461, hl462, hm463, hS464, hn468, hl469, hm470, hS471, hn475, hl476, hm477, hS478, hn482, hl483, hm484, hS485, hn489, hl490, hm491, hS492⟩ := TJob.open hr456
       let q5 : List Go.Value := [.slice A458 n460 c459, .int .i64 ((a1.Jobs.getD x389.toNat TJob.z).State), .int .i64 ((a1.Jobs.getD x389.toNat TJob.z).Attempt), .int .i64 ((a1.Jobs.getD x389.toNat TJob.z).Epoch), .int .i64 ((a1.Jobs.getD x389.toNat TJob.z).Until), .slice A465 n467 c466, .slice A472 n474 c473, .slice A479 n481 c480, .slice A486 n488 c487]
       refine WL.val (Yl.loadAgg (cs := q5) rfl Tryz.underlying63 rfl sz63 (fun j u hu => by rw [add_of]; exact ((C390.fro)).cell (hx457 _ _ hu))) ?_
       let q6 : List Go.Value := [.slice none 0 0, .int .i64 0, .int .i64 0, .int .i64 0, .int .i64 0, .slice none 0 0, .slice none 0 0, .slice none 0 0, .slice none 0 0]
       obtain ⟨g493, w494, hy495, C496⟩ := ev_alloc (P := Tryz.prog) (e := 63) q6 C390 zr63 rfl
       refine WL.val (hy495 _ _) ?_
       obtain ⟨w497, hy498, C499⟩ := ev_setI (P := Tryz.prog) (ps1 := []) (ps2 := [CH.row g33 0 q2, CH.row g29 0 q1]) (t := 63) 0 q5 (.agg (List.toArray q5)) C496 rfl rfl (ones_of rfl) sz63
       have C500 : Ctx _ _ _ _ _ [CH.row g493 0 q5, CH.row g33 0 q2, CH.row g29 0 q1] := C499
       refine WL.skip (hy498 _ _ _ _ rfl rfl) ?_
       refine WL.done ?_
       refine W.seq ?_
       refine W.region rfl ?_
       refine WL.val (Yl.loadVA (g := g29) (off := 0) (o := 0) (cs := q1) (us := q1) rfl Tryz.underlying42 rfl sz42 (Ctx.subI 2 C500 rfl) rfl) ?_
       refine WL.val (Yl.loadVA (g := g33) (off := 0) (o := 0) (cs := q2) (us := q2) rfl Tryz.underlying50 rfl sz50 (Ctx.subI 1 C500 rfl) rfl) ?_
       refine WL.val (Yl.loadVA (g := g493) (off := 0) (o := 0) (cs := q5) (us := q5) rfl Tryz.underlying63 rfl sz63 (Ctx.subI 0 C500 rfl) rfl) ?_
       obtain ⟨r502, hg501, hX382⟩ := bindE hX382
       refine WL.callH (docket_sound.calls k448 _ F a0 A1 c2 n3 A8 c9 n10 A15 c16 n17 A22 c23 n24 a1 A458 c459 n460 A465 c466 n467 A472 c473 n474 A479 c480 n481 A486 c487 n488 (a1.Jobs.getD x389.toNat TJob.z) (Ctx.pre (qs := []) (rest := [CH.row g493 0 q5, CH.row g33 0 q2, CH.row g29 0 q1]) C500) hn4 hl5 hm6 hS7 hn11 hl12 hm13 hS14 hn18 hl19 hm20 hS21 hn25 hl26 hm27 hS28 hn461 hl462 hm463 hS464 hn468 hl469 hm470 hS471 hn475 hl476 hm477 hS478 hn482 hl483 hm484 hS485 hn489 hl490 hm491 hS492 r502 hg501) (Yenter.fn Tryz.func63 (by kernel_rfl) rfl (argsE (.cons rfl (.cons rfl (.cons rfl .nil))))) ?_
       rintro e_ w_ ⟨rfl, C503⟩
       refine ⟨_, rfl, ?_⟩
       have C504 : Ctx _ _ _ _ _ [CH.row g493 0 q5, CH.row g33 0 q2, CH.row g29 0 q1] := Ctx.call (qs := []) (rest := [CH.row g493 0 q5, CH.row g33 0 q2, CH.row g29 0 q1]) C500 C503
       refine WL.run to 1 rfl ?_
       refine WL.done ?_
       rcases iteE hX382 with ⟨hc505, hX382⟩ | ⟨hc505, hX382⟩
       ·refine W.condF (congrArg Value.bool (nb_t hc505)) ?_
        refine W.skip ?_
        refine inB_n ?_
        refine W.region rfl ?_
        refine WL.run to 2 rfl ?_
        refine WL.done ?_
        have C506 : Ctx _ _ _ _ _ [CH.row g33 0 q2, CH.row g29 0 q1] := Ctx.pick [1, 2] C504 rfl
        exact thenE_n ⟨k448, Nat.lt_succ_self _, wi64 (x389 + 1), rfl, rfl, rfl, rfl, rfl, C506, hX382⟩
       ·refine W.condT (congrArg Value.bool (nb_f hc505)) ?_
        refine W.seq ?_
        refine W.region rfl ?_
        refine WL.run to 1 rfl ?_
        refine WL.done ?_
        refine W.ret ?_
        refine inB_r ?_
        refine thenE_r ?_
        refine thenE_r ?_
        refine inB_r ?_
        refine thenE_r ?_
        refine thenE_r ?_
        cases hX382
        replace H := sumE_r H
        have C507 : Ctx _ _ _ _ _ [] := Ctx.pick [] C504 rfl
        have e508 := Option.some.inj H
        subst e508
        exact post_r (resE1 rfl rfl) ⟨rfl, C507⟩
      ·refine W.condF (congrArg Value.bool (decide_eq_false hc449)) ?_
       refine W.exit ?_
       refine thenE_x ?_
       refine thenE_x ?_
       refine inB_here ?_
       cases hX382
       refine thenE_n ?_
       exact ⟨C390, rfl⟩
     ·rintro env_ w_ ⟨C381, rfl⟩
      replace H := sumE_l H
      refine W.seq ?_
      refine W.region rfl ?_
      refine WL.run to 1 rfl ?_
      refine WL.done ?_
      refine W.ret ?_
      have C509 : Ctx _ _ _ _ _ [] := Ctx.pick [] C381 rfl
      have e510 := Option.some.inj H
      subst e510
      exact post_r (resE1 rfl rfl) ⟨rfl, C509⟩
end Go.Proofs.YtobdpbnadjkhiaaGreat
