/- tally.voters: a map of maps, built vote by vote. Nothing is assumed but what each theorem says. -/
import Derived.Test.YtobdpbnadjkhiaaTGt
import Derived.Test.YtobdpbnadjkhiaaTLq
import Derived.Laws.Cover3
namespace Go.Proofs.Ytobdpbnadjkhiaa
open Go.RowKit Go.WG
set_option linter.unusedVariables false
set_option linter.unusedSimpArgs false
def tally_voters.l1 : Nat → List TCast → List (ByteArray × List (Int × Int)) → Int → Option (List (ByteArray × List (Int × Int)))
 | 0, _, _, _ => none
 | k + 1, a0, x, i => if i < (a0.length : Int) then (if 0 ≤ i ∧ i < (a0.length : Int) then (tally_voters.l1 k a0 (mset x (strOfNums (a0.getD i.toNat TCast.z).Value) (mset ((mget x (strOfNums (a0.getD i.toNat TCast.z).Value)).getD []) (a0.getD i.toNat TCast.z).Worker i)) (wi64 (i + 1))) else none) else some x
def tally_voters.f (k : Nat) (a0 : List TCast) : Option (List (ByteArray × List (Int × Int))) := tally_voters.l1 k a0 [] 0
section
variable {α β : Type} [DecidableEq α]
theorem mset_at {l1 l2 : List (α × β)} {k : α} {v0 v : β} (h : ((l1 ++ (k, v0) :: l2).map (·.1)).Nodup) : mset (l1 ++ (k, v0) :: l2) k v = l1 ++ (k, v) :: l2 ∧ mget (l1 ++ (k, v0) :: l2) k = some v0 := by
 rw [List.map_append, List.map_cons, List.nodup_append] at h
 obtain ⟨h1, h2, h3⟩ := h
 obtain ⟨h4, h5⟩ := List.nodup_cons.1 h2
 have n1 : ∀ q ∈ l1, q.1 ≠ k := fun q hq => h3 _ (List.mem_map.2 ⟨q, hq, rfl⟩) _ (by simp)
 have n2 : ∀ q ∈ l2, q.1 ≠ k := fun q hq e => h4 (e ▸ List.mem_map.2 ⟨q, hq, rfl⟩)
 have hg : mget (l1 ++ (k, v0) :: l2) k = some v0 := by
  unfold mget
  rw [List.find?_append, List.find?_eq_none.2 (fun q hq => by simpa using n1 q hq)]
  simp
 refine ⟨?_, hg⟩
 unfold mset
 rw [hg, Option.isSome_some, if_pos rfl, List.map_append, List.map_cons, if_pos rfl]
 congr 1
 ·exact (List.map_congr_left fun q hq => if_neg (n1 q hq)).trans (List.map_id _)
 ·congr 1
  exact (List.map_congr_left fun q hq => if_neg (n2 q hq)).trans (List.map_id _)
theorem mset_new {l : List (α × β)} {k : α} {v : β} (h : mget l k = none) : mset l k v = l ++ [(k, v)] := by unfold mset; rw [h]; rfl
end
inductive Fa2 {γ δ : Type} (R : γ → δ → Prop) : List γ → List δ → Prop
 | nil : Fa2 R [] []
 | cons {x : γ} {y : δ} {xs : List γ} {ys : List δ} (h : R x y) (t : Fa2 R xs ys) : Fa2 R (x :: xs) (y :: ys)
/-- The outer map's row, the inner ones' behind it. -/
def VM (pm : CH) (ps : List CH) (g : Nat) (T : List (ByteArray × Nat × List (Int × Int))) : Prop :=
 MRow Value.string (fun g => Value.map (some g)) pm g (T.map fun t => (t.1, t.2.1)) ∧ Fa2 (fun q (t : ByteArray × Nat × List (Int × Int)) => MRow (Value.int .i64) (Value.int .i64) q t.2.1 t.2.2) ps T
def vmL (T : List (ByteArray × Nat × List (Int × Int))) : List (ByteArray × List (Int × Int)) := T.map fun t => (t.1, t.2.2)
theorem forall2_split {γ δ : Type} {R : γ → δ → Prop} : ∀ {xs : List γ} {y1 y2 : List δ} {y : δ}, Fa2 R xs (y1 ++ y :: y2) → ∃ x1 x x2, xs = x1 ++ x :: x2 ∧ Fa2 R x1 y1 ∧ R x y ∧ Fa2 R x2 y2
 | _, [], _, _, h => by cases h with | cons h t => exact ⟨[], _, _, rfl, .nil, h, t⟩
 | _, z :: y1, _, _, h => by
  cases h with
  | cons h t =>
   obtain ⟨x1, x, x2, rfl, h1, h2, h3⟩ := forall2_split t
   exact ⟨_ :: x1, x, x2, rfl, .cons h h1, h2, h3⟩
theorem forall2_app {γ δ : Type} {R : γ → δ → Prop} : ∀ {x1 x2 : List γ} {y1 y2 : List δ}, Fa2 R x1 y1 → Fa2 R x2 y2 → Fa2 R (x1 ++ x2) (y1 ++ y2)
 | _, _, _, _, .nil, h => h
 | _, _, _, _, .cons h t, k => .cons h (forall2_app t k)
theorem Yl.mapNil {P : Program} {env : Env} {w : World} {ty t t' kt et : TypeId} {x : Operand} {p : Option Nat} (hx : Go.WG.ev env x = .map p) (hu : P.underlying t = some (.map kt et)) : Yl P env (.binOp .eql t x (.const (.map none)) t') ty w (.bool p.isNone) w := by
 show (execOp (Go.WG.ev env) _).run P w = _
 have hy : Go.WG.ev env (.const (.map none)) = .map none := rfl
 have h1 := run_equal_map_nil (P := P) (w := w) t kt et p hu
 have h2 : (eqGuard .eql t x (.const (.map none)) (.map p) (.map none)).run P w = .ok () w := rfl
 simp [execOp, hx, hy, h2, binOp, h1]
set_option maxRecDepth 100000 in
set_option maxHeartbeats 4000000 in
theorem tally_voters.calls (k : Nat) (w : World) (F : CH) (A1 : Option Addr) (c2 : Nat) (n3 : Nat) (a0 : List TCast) (hp : Pre w F []) (hn4 : n3 = a0.length) (hl5 : a0.length ≤ c2) (hm6 : c2 ≤ maxLen) (hS7 : Sl TCast.K F F A1 a0) (r0_ : List (ByteArray × List (Int × Int))) (H : tally_voters.f k a0 = some r0_) :
  Calls Try.prog 71 #[.slice A1 n3 c2] w fun e w' => ∃ (g : Nat) (p : CH), e = .returned (.map (some g)) ∧ Ctx w F (domL []) w' F [p] ∧ NMap Value.string (Value.int .i64) (Value.int .i64) p g r0_ := by
 have C := Ctx.start hp
 generalize hD : domL [] = D at C ⊢
 unfold tally_voters.f at H
 refine Calls.ofW Try.func71 rfl (by simp [Try.ntmps71]) ?_
 refine W.seq ?_
 refine W.region rfl ?_
 refine WL.val (Yl.assign (v := .map none) rfl) ?_
 refine WL.done ?_
 refine W.seq ?_
 refine W.region rfl ?_
 obtain ⟨g, pm, w1, hy1, C1, hM⟩ := ev_makeMap (P := Try.prog) (α := ByteArray) (β := Nat) (t := 118) Value.string (fun g => Value.map (some g)) C
 refine WL.val (hy1 _ _) ?_
 refine WL.val (Yl.assign (v := .map (some g)) rfl) ?_
 refine WL.done ?_
 refine W.seq ?_
 refine W.seq ?_
 refine W.region rfl ?_
 refine WL.val (Yl.move (v := .slice A1 n3 c2) rfl) ?_
 refine WL.val (Yl.lenN (A := A1) (l := n3) (q := c2) (n := (a0.length : Int)) rfl Try.underlying53 (by omega)) ?_
 refine WL.val (Yl.move (v := .int .i64 0) rfl) ?_
 refine WL.done ?_
 refine W.cutM (fun env_ w_ => ∃ (pm : CH) (ps : List CH) (T : List (ByteArray × Nat × List (Int × Int))), env_ 3 = .map (some g) ∧ Ctx w F D w_ F (pm :: ps) ∧ VM pm ps g T ∧ vmL T = r0_) ?_ ?_
 ·skip
  refine W.block ?_
  refine W.loop (fun g_ env_ w_ => ∃ (i : Int) (pm : CH) (ps : List CH) (T : List (ByteArray × Nat × List (Int × Int))), env_ 3 = .map (some g) ∧ env_ 8 = .slice A1 n3 c2 ∧ env_ 9 = .int .i64 (a0.length : Int) ∧ env_ 10 = .int .i64 i ∧ Ctx w F D w_ F (pm :: ps) ∧ VM pm ps g T ∧ tally_voters.l1 g_ a0 (vmL T) i = some r0_) k ⟨0, pm, [], [], rfl, rfl, rfl, rfl, C1, ⟨hM, .nil⟩, H⟩ ?_
  clear H
  rintro g_ env_ w_ ⟨i, pm, ps, T, h3, h8, h9, h10, C, hV, H⟩
  rcases g_ with _ | k'
  ·exact absurd H (by simp [tally_voters.l1])
  rw [tally_voters.l1] at H
  refine W.seq ?_
  refine W.region rfl ?_
  refine WL.val (Yl.lss (m := i) (n := (a0.length : Int)) (q := decide (i < (a0.length : Int))) h10 h9 rfl) ?_
  refine WL.done ?_
  refine W.seq ?_
  rcases iteE H with ⟨hc, H⟩ | ⟨hc, H⟩
  ·skip
   refine W.condT (congrArg Value.bool (decide_eq_true hc)) ?_
   refine W.skip ?_
   refine W.seq ?_
   refine W.block ?_
   refine W.seq ?_
   refine W.region rfl ?_
   refine WL.val (Yl.move (v := .int .i64 i) h10) ?_
   obtain ⟨hb, H⟩ := guardE H
   obtain ⟨b, of, hA, he⟩ := hS7 (by omega)
   refine WL.val (Yl.elemAddr (i := i) h8 h10 hA Try.underlying53 sz79 (by omega)) ?_
   obtain ⟨cs, hr, hx⟩ := he i.toNat _ (getD_some (d := TCast.z) (by omega))
   generalize a0.getD i.toNat TCast.z = q at H hr hx
   obtain ⟨Av, cv, nv, rfl, hnv, hlv, hmv, hSv⟩ := TCast.open hr
   refine WL.val (Yl.loadAgg (cs := [.int .i64 q.Worker, .slice Av nv cv]) rfl Try.underlying79 rfl sz79 (fun j u hu => by rw [add_of]; exact ((C.fro)).cell (hx _ _ hu))) ?_
   obtain ⟨ga, w2, hy2, C2⟩ := ev_alloc (P := Try.prog) (e := 79) [.int .i64 0, .slice none 0 0] C zr79 rfl
   refine WL.val (hy2 _ _) ?_
   refine WL.val (Yl.assign (v := .int .i64 i) rfl) ?_
   obtain ⟨w3, hy3, C3⟩ := ev_set (P := Try.prog) (ps1 := []) (ps2 := pm :: ps) (t := 79) (o := 0) [.int .i64 0, .slice none 0 0] [] [.int .i64 0, .slice none 0 0] [] [.int .i64 q.Worker, .slice Av nv cv] (.agg (List.toArray [.int .i64 q.Worker, .slice Av nv cv])) C2 rfl rfl rfl rfl (by simp [Value.oneCell']) sz79
   refine WL.skip (hy3 _ _ _ _ rfl rfl) ?_
   refine WL.done ?_
   have C4 : Ctx _ _ _ _ F (CH.row ga 0 [.int .i64 q.Worker, .slice Av nv cv] :: pm :: ps) := C3
   refine W.seq ?_
   refine W.region rfl ?_
   refine WL.val (Yl.move (v := .map (some g)) h3) ?_
   refine WL.val (Yl.fieldAddr (i := 1) rfl Try.underlying79 rfl sz44) ?_
   refine WL.val (Yl.loadV (g := ga) (off := 0) (o := 1) (cs := [.int .i64 q.Worker, .slice Av nv cv]) (v := .slice Av nv cv) rfl Try.underlying44 rfl (C4.sub_mem (by simp)) rfl) ?_
   refine WL.val (Yl.convBS (xs := q.Value) rfl hnv hSv C4.fro Try.underlying44 Try.underlying5 Try.underlying9) ?_
   have e1 := mget_map (fun t : ByteArray × Nat × List (Int × Int) => t.2.1) (fun t => t.1) T (strOfNums q.Value)
   have e2 := mget_map (fun t : ByteArray × Nat × List (Int × Int) => t.2.2) (fun t => t.1) T (strOfNums q.Value)
   cases hf : T.find? (fun t => decide (t.1 = strOfNums q.Value)) with
   | none =>
    rw [hf, Option.map_none] at e1 e2
    refine WL.val (Yl.lookup (v := .map none) hV.1 (C4.sub_mem (by simp)) Try.underlying118 Try.underlying9 rfl keyStr zr106 (strOfNums q.Value) rfl rfl (by rw [e1]; rfl)) ?_
    refine WL.val (Yl.assign (v := .map none) rfl) ?_
    refine WL.done ?_
    refine W.seq ?_
    refine W.seq ?_
    refine W.region rfl ?_
    refine WL.val (Yl.move (v := .map none) rfl) ?_
    refine WL.val (Yl.mapNil (p := none) rfl Try.underlying106) ?_
    refine WL.done ?_
    refine W.condT rfl ?_
    refine W.seq ?_
    refine W.region rfl ?_
    obtain ⟨g2, p2, w4, hy4, C5, hM2⟩ := ev_makeMap (P := Try.prog) (α := Int) (β := Int) (t := 106) (Value.int .i64) (Value.int .i64) C4
    refine WL.val (hy4 _ _) ?_
    refine WL.val (Yl.assign (v := .map (some g2)) rfl) ?_
    refine WL.done ?_
    refine W.region rfl ?_
    refine WL.val (Yl.move (v := .map (some g)) h3) ?_
    refine WL.val (Yl.fieldAddr (i := 1) rfl Try.underlying79 rfl sz44) ?_
    refine WL.val (Yl.loadV (g := ga) (off := 0) (o := 1) (cs := [.int .i64 q.Worker, .slice Av nv cv]) (v := .slice Av nv cv) rfl Try.underlying44 rfl (C5.sub_mem (by simp)) rfl) ?_
    refine WL.val (Yl.convBS (xs := q.Value) rfl hnv hSv C5.fro Try.underlying44 Try.underlying5 Try.underlying9) ?_
    refine WL.val (Yl.move (v := .map (some g2)) rfl) ?_
    obtain ⟨pm', w5, hy5, C6, hM'⟩ := ev_mapUpdate (P := Try.prog) (ps1 := [p2, (CH.row ga 0 [.int .i64 q.Worker, .slice Av nv cv])]) (ps2 := ps) (strOfNums q.Value) g2 C5 hV.1 Try.underlying118 Try.underlying9 rfl keyStr
    refine WL.skip (hy5 _ _ _ _ _ rfl rfl rfl) ?_
    refine WL.done ?_
    refine W.region rfl ?_
    refine WL.val (Yl.move (v := .map (some g2)) rfl) ?_
    refine WL.val (Yl.fieldAddr (i := 0) rfl Try.underlying79 rfl sz3) ?_
    refine WL.val (Yl.loadV (g := ga) (off := 0) (o := 0) (cs := [.int .i64 q.Worker, .slice Av nv cv]) (v := .int .i64 q.Worker) rfl Try.underlying3 rfl (C6.sub_mem (by simp)) rfl) ?_
    refine WL.val (Yl.move (v := .int .i64 i) rfl) ?_
    obtain ⟨p3, w6, hy6, C7, hM3⟩ := ev_mapUpdate (P := Try.prog) (ps1 := []) (ps2 := (CH.row ga 0 [.int .i64 q.Worker, .slice Av nv cv]) :: pm' :: ps) q.Worker i C6 hM2 Try.underlying106 Try.underlying3 rfl (keyInt .i64)
    refine WL.skip (hy6 _ _ _ _ _ rfl rfl rfl) ?_
    refine WL.done ?_
    refine inB_n ?_
    refine W.region rfl ?_
    refine WL.val (Yl.add (m := i) (n := 1) (r := wi64 (i + 1)) h10 rfl rfl) ?_
    refine WL.val (Yl.move (v := .int .i64 (wi64 (i + 1))) rfl) ?_
    refine WL.done ?_
    have C8 : Ctx _ _ _ _ F (p3 :: pm' :: ps) := Ctx.drop [p3] (pm' :: ps) C7
    have C9 : Ctx _ _ _ _ F (pm' :: (ps ++ [p3])) := C8.perm ((List.Perm.swap _ _ _).trans (List.Perm.cons _ (List.perm_append_singleton _ _).symm))
    refine thenE_n ⟨k', Nat.lt_succ_self _, wi64 (i + 1), pm', ps ++ [p3], T ++ [(strOfNums q.Value, g2, mset [] q.Worker i)], h3, h8, h9, rfl, C9, ⟨?_, forall2_app hV.2 (.cons hM3 .nil)⟩, ?_⟩
    ·rw [mset_new e1] at hM'
     rw [List.map_append]
     exact hM'
    ·have e3 : vmL (T ++ [(strOfNums q.Value, g2, mset [] q.Worker i)]) = mset (vmL T) (strOfNums q.Value) (mset ((mget (vmL T) (strOfNums q.Value)).getD []) q.Worker i) := by
      have e2' : mget (vmL T) (strOfNums q.Value) = none := e2
      rw [mset_new e2', e2']
      unfold vmL
      rw [List.map_append]
      rfl
     rw [e3]
     exact H
   | some t =>
    rw [hf, Option.map_some] at e1 e2
    have hk : t.1 = strOfNums q.Value := by simpa using List.find?_some hf
    obtain ⟨T1, T2, hT⟩ := List.append_of_mem (List.mem_of_find?_eq_some hf)
    obtain ⟨tk, gi, m⟩ := t
    obtain rfl : tk = strOfNums q.Value := hk
    subst hT
    obtain ⟨hR, hF2⟩ := hV
    obtain ⟨ps1, qi, ps2, rfl, hf1, hRi, hf2⟩ := forall2_split hF2
    refine WL.val (Yl.lookup (v := .map (some gi)) hR (C4.sub_mem (by simp)) Try.underlying118 Try.underlying9 rfl keyStr zr106 (strOfNums q.Value) rfl rfl (by rw [e1]; rfl)) ?_
    refine WL.val (Yl.assign (v := .map (some gi)) rfl) ?_
    refine WL.done ?_
    refine W.seq ?_
    refine W.seq ?_
    refine W.region rfl ?_
    refine WL.val (Yl.move (v := .map (some gi)) rfl) ?_
    refine WL.val (Yl.mapNil (p := some gi) rfl Try.underlying106) ?_
    refine WL.done ?_
    refine W.condF rfl ?_
    refine W.skip ?_
    refine W.region rfl ?_
    refine WL.val (Yl.move (v := .map (some gi)) rfl) ?_
    refine WL.val (Yl.fieldAddr (i := 0) rfl Try.underlying79 rfl sz3) ?_
    refine WL.val (Yl.loadV (g := ga) (off := 0) (o := 0) (cs := [.int .i64 q.Worker, .slice Av nv cv]) (v := .int .i64 q.Worker) rfl Try.underlying3 rfl (C4.sub_mem (by simp)) rfl) ?_
    refine WL.val (Yl.move (v := .int .i64 i) rfl) ?_
    obtain ⟨p3, w6, hy6, C7, hM3⟩ := ev_mapUpdate (P := Try.prog) (ps1 := (CH.row ga 0 [.int .i64 q.Worker, .slice Av nv cv]) :: pm :: ps1) (ps2 := ps2) q.Worker i C4 hRi Try.underlying106 Try.underlying3 rfl (keyInt .i64)
    refine WL.skip (hy6 _ _ _ _ _ rfl rfl rfl) ?_
    refine WL.done ?_
    refine inB_n ?_
    refine W.region rfl ?_
    refine WL.val (Yl.add (m := i) (n := 1) (r := wi64 (i + 1)) h10 rfl rfl) ?_
    refine WL.val (Yl.move (v := .int .i64 (wi64 (i + 1))) rfl) ?_
    refine WL.done ?_
    have C8 : Ctx _ _ _ _ F (pm :: (ps1 ++ p3 :: ps2)) := Ctx.drop [] (pm :: (ps1 ++ p3 :: ps2)) C7
    refine thenE_n ⟨k', Nat.lt_succ_self _, wi64 (i + 1), pm, ps1 ++ p3 :: ps2, T1 ++ (strOfNums q.Value, gi, mset m q.Worker i) :: T2, h3, h8, h9, rfl, C8, ⟨?_, forall2_app hf1 (.cons hM3 hf2)⟩, ?_⟩
    ·simpa using hR
    ·have hnd : ((vmL (T1 ++ (strOfNums q.Value, gi, m) :: T2)).map (·.1)).Nodup := by
      obtain ⟨es, cl, _, hE⟩ := hR
      have := hE.keys
      unfold vmL
      rw [List.map_map] at this ⊢
      exact this
     have e3 : vmL (T1 ++ (strOfNums q.Value, gi, mset m q.Worker i) :: T2) = mset (vmL (T1 ++ (strOfNums q.Value, gi, m) :: T2)) (strOfNums q.Value) (mset ((mget (vmL (T1 ++ (strOfNums q.Value, gi, m) :: T2)) (strOfNums q.Value)).getD []) q.Worker i) := by
      unfold vmL at hnd ⊢
      rw [List.map_append, List.map_cons] at hnd ⊢
      rw [List.map_append, List.map_cons]
      have := mset_at (v := mset m q.Worker i) hnd
      rw [this.2, Option.getD_some, this.1]
     rw [e3]
     exact H
  ·skip
   refine W.condF (congrArg Value.bool (decide_eq_false hc)) ?_
   refine W.exit ?_
   refine thenE_x ?_
   refine thenE_x ?_
   refine inB_here ?_
   injection H with H
   exact thenE_n ⟨pm, ps, T, h3, C, hV, H⟩
 ·skip
  rintro env_ w_ ⟨pm, ps, T, h3, C, hV, rfl⟩
  refine W.seq ?_
  refine W.region rfl ?_
  refine WL.val (Yl.move (v := .map (some g)) h3) ?_
  refine WL.val (Yl.assign (v := .map (some g)) rfl) ?_
  refine WL.done ?_
  refine W.ret ?_
  obtain ⟨p, Cp, hle⟩ := Ctx.joinAll (pm :: ps) [] [] (by simpa using C)
  refine post_r (resE1 rfl rfl) ⟨g, p, rfl, by subst hD; exact Cp, ?_⟩
  have hex : ∀ (ps' : List CH) (T' : List (ByteArray × Nat × List (Int × Int))), Fa2 (fun q (t : ByteArray × Nat × List (Int × Int)) => MRow (Value.int .i64) (Value.int .i64) q t.2.1 t.2.2) ps' T' → (∀ q ∈ ps', CH.le q p) → ∃ U : List (ByteArray × Nat × CH × List (Int × Int)), (U.map fun t => (t.1, t.2.1, t.2.2.2)) = T' ∧ ∀ t ∈ U, CH.le t.2.2.1 p ∧ MRow (Value.int .i64) (Value.int .i64) t.2.2.1 t.2.1 t.2.2.2 := by
   intro ps' T' h
   induction h with
   | nil => exact fun _ => ⟨[], rfl, fun t ht => by cases ht⟩
   | cons h t ih =>
    intro hq
    obtain ⟨U, hU, hUt⟩ := ih fun q hm => hq q (List.mem_cons_of_mem _ hm)
    rename_i x y xs ys
    refine ⟨(y.1, y.2.1, x, y.2.2) :: U, by rw [List.map_cons, hU], fun t ht => ?_⟩
    rcases List.mem_cons.1 ht with rfl | ht
    ·exact ⟨hq x (by simp), h⟩
    ·exact hUt t ht
  obtain ⟨U, hU, hUt⟩ := hex ps T hV.2 fun q hm => hle q (List.mem_cons_of_mem _ hm)
  subst hU
  refine ⟨U, pm, hle pm (by simp), ?_, hUt, ?_⟩
  ·have := hV.1
   rw [List.map_map] at this
   exact this
  ·unfold vmL
   rw [List.map_map]
   rfl
end Go.Proofs.Ytobdpbnadjkhiaa
