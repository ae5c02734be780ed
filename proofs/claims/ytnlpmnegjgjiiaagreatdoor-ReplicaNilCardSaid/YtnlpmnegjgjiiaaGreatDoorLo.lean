/- Arrays: as values, in variables, as slices; structs with arrays built; texts' bytes; the rest of a row. Nothing is assumed. -/
import Derived.Test.YtnlpmnegjgjiiaaGreatDoorLn
import Derived.Scope
namespace Go.WG
open Go Go.RowKit
set_option linter.unusedVariables false
set_option linter.unusedSimpArgs false
/-- A text's byte. -/
def sget (s : ByteArray) (i : Int) : Int := match s[i.toNat]? with | some b => (b.toNat : Int) | none => 0
section
variable {P : Program} {env : Env} {ty t : TypeId} {x y : Operand} {w : World} {k : IntKind}
theorem Yl.indexStr {s : ByteArray} {i : Int} (hx : ev env x = .string s) (hy : ev env y = .int k i) (ht : P.underlying t = some .string) (h : 0 ≤ i ∧ i < (s.size : Int)) : Yl P env (.index t x y) ty w (.int .u8 (sget s i)) w := by
  have hlt : i.toNat < s.size := by omega
  have e1 : s[i.toNat]? = some s[i.toNat] := ByteArray.getElem?_lt' s _ hlt
  show (execOp (ev env) _).run P w = _
  simp [execOp, hx, hy, run_index_string w t s k i ht, h, sget, e1]
theorem Yl.indexAgg {k' : IntKind} {a : List Int} {n : Nat} {e : TypeId} {i : Int} (hx : ev env x = .agg (a.map (Value.int k')).toArray) (hy : ev env y = .int k i) (ht : P.underlying t = some (.array n e)) (he : P.underlying e = some (.int k')) (hs : (P.info? e).map (·.size) = some 1) (hl : a.length = n) (h : 0 ≤ i ∧ i < (a.length : Int)) :
    Yl P env (.index t x y) ty w (.int k' (a.getD i.toNat 0)) w := by
  obtain ⟨inf, hi, hsz⟩ := Option.map_eq_some_iff.1 hs
  have hlt : i.toNat < a.length := by omega
  have h2 : 0 ≤ i ∧ i < (n : Int) := by omega
  have hp : PartE P e (a.map (Value.int k')) (i.toNat * 1) (.int k' (a.getD i.toNat 0)) := PartE.one he rfl (by simp [hlt])
  show (execOp (ev env) _).run P w = _
  simp only [execOp, hx, hy, Instr.index, asIntOf, Sem.run_bind, Sem.run_pure, Result.andThen_ok, run_underlying ht, sizeOf, typeInfo, hi, hsz, h2, and_self, if_true, Nat.mul_one]
  have := hp w
  rw [Nat.mul_one] at this
  simp [h2, hi, hsz, this]
theorem Yl.loadAr {k' : IntKind} {d : TypeDesc} {g off o : Nat} {cs pre post : List Value} {a : List Int} {i : Int} (hx : ev env x = .pointer (some ⟨g, off + o + i.toNat * 1, none⟩)) (hu : P.underlying t = some d) (hd : aggD d = false) (hs : Sub (CH.row g off cs) w) (hc : cs = pre ++ (a.map (Value.int k') ++ post)) (ho : pre.length = o) (h : 0 ≤ i ∧ i < (a.length : Int)) :
    Yl P env (.load t x) ty w (.int k' (a.getD i.toNat 0)) w := by
  have hlt : i.toNat < a.length := by omega
  refine Yl.loadV (g := g) (off := off) (o := o + i.toNat * 1) (cs := cs) (by rw [hx, Nat.add_assoc]) hu hd hs ?_
  subst hc; subst ho
  rw [Nat.mul_one, List.getElem?_append_right (by omega), Nat.add_sub_cancel_left, List.getElem?_append_left (by simpa using hlt)]
  simp [hlt]
/-- An array's cells, read as a slice's. -/
theorem Sl.ofArr {k' : IntKind} {F : CH} {g off o : Nat} {cs pre post : List Value} {a : List Int} (h : CH.le (CH.row g off cs) F) (hc : cs = pre ++ (a.map (Value.int k') ++ post)) (ho : pre.length = o) : Sl (Kd.int k') F F (some ⟨g, off + o, none⟩) a := fun _ => by
  refine ⟨g, off + o, rfl, fun j x hj => ⟨[.int k' x], rfl, fun i u hu => ?_⟩⟩
  subst hc; subst ho
  cases i with
  | succ i => simp at hu
  | zero =>
    simp only [List.getElem?_cons_zero, Option.some.injEq] at hu
    subst hu
    refine h _ _ _ ?_
    have hlt := (List.getElem?_eq_some_iff.1 hj).1
    have : (pre ++ (a.map (Value.int k') ++ post))[pre.length + j]? = some (.int k' x) := by
      rw [List.getElem?_append_right (by omega), Nat.add_sub_cancel_left, List.getElem?_append_left (by simpa using hlt), List.getElem?_map, hj]; rfl
    have := CH.row_get (g := g) (off := off) this
    simpa [Kd.int, Kd.scalar, Nat.add_assoc] using this
/-- A part of a struct's cells, only read. -/
theorem CH.le_part {g off o : Nat} {cs us : List Value} (h : (cs.drop o).take us.length = us) : CH.le (CH.row g (off + o) us) (CH.row g off cs) := fun b x v hv => by
  obtain ⟨rfl, j, u, rfl, hj, rfl⟩ := CH.row_some hv
  rw [Nat.add_assoc]
  refine CH.row_get ?_
  have hlt := (List.getElem?_eq_some_iff.1 hj).1
  rw [← h, List.getElem?_take, if_pos hlt, List.getElem?_drop] at hj
  exact hj
end
section
variable {P : Program} {w0 w : World} {F0 F : CH} {D : Nat → Nat → Prop} {ps ps1 ps2 : List CH}
theorem ev_setAr {t : TypeId} {g off o : Nat} (cs pre post : List Value) (a : List Int) (k : IntKind) (i v : Int) (C : Ctx w0 F0 D w F (ps1 ++ CH.row g off cs :: ps2)) (hcs : cs = pre ++ (a.map (Value.int k) ++ post)) (ho : pre.length = o) (hi : 0 ≤ i ∧ i < (a.length : Int)) (hs : (P.info? t).map (·.size) = some 1) :
    ∃ w', (∀ (env : Env) (x y : Operand) (ty : TypeId), ev env x = .pointer (some ⟨g, off + o + i.toNat * 1, none⟩) → ev env y = .int k v → Yskip P env (.store t x y) ty w w') ∧ Ctx w0 F0 D w' F (ps1 ++ CH.row g off (pre ++ ((a.set i.toNat v).map (Value.int k) ++ post)) :: ps2) := by
  have hlt : i.toNat < a.length := by omega
  have hsplit : a = a.take i.toNat ++ [a[i.toNat]] ++ a.drop (i.toNat + 1) := by
    rw [List.append_assoc, List.singleton_append, ← List.drop_eq_getElem_cons hlt, List.take_append_drop]
  obtain ⟨w', hy, C'⟩ := ev_set (P := P) (t := t) (o := o + i.toNat) cs (pre ++ (a.take i.toNat).map (Value.int k)) [.int k a[i.toNat]] ((a.drop (i.toNat + 1)).map (Value.int k) ++ post) [.int k v] (.int k v) C
    (by rw [hcs]; (conv => lhs; rw [hsplit]); simp only [List.map_append, List.append_assoc, List.map_cons, List.map_nil]) (by rw [List.length_append, List.length_map, List.length_take]; omega) rfl rfl (by simp [Value.oneCell']) hs
  refine ⟨w', fun env x y ty hx hv => hy env x y ty (by rw [hx]; simp [Nat.add_assoc]) hv, ?_⟩
  have : pre ++ (a.take i.toNat).map (Value.int k) ++ [Value.int k v] ++ ((a.drop (i.toNat + 1)).map (Value.int k) ++ post) = pre ++ ((a.set i.toNat v).map (Value.int k) ++ post) := by
    rw [List.set_eq_take_append_cons_drop, if_pos hlt]
    simp
  rw [this] at C'
  exact C'
/-- The rest of a row of one's own. -/
theorem Row.tail {α : Type} {K : Kd α} {p : CH} {A : Option Addr} {n c : Nat} {xs : List α} (h : Row K F p (.slice A n c) xs) (lo : Nat) (hlo : lo ≤ n) :
    ∃ A' c' m p', Value.slice (if c = lo then A else A.map (·.add (lo * K.sz))) (n - lo) (c - lo) = .slice A' m c' ∧ m = (xs.drop lo).length ∧ Row K F p' (.slice A' m c') (xs.drop lo) ∧ CH.le p' p := by
  rcases h with ⟨h1, rfl, rfl⟩ | ⟨g, off, cap, cur, h1, h2, h3, rfl, h5, h6, h7⟩
  · injection h1 with e1 e2 e3
    subst e1 e2 e3
    have : lo = 0 := by omega
    subst this
    exact ⟨none, 0, 0, CH.emp, by simp, rfl, Row.nil _ _, CH.le_refl _⟩
  · injection h1 with e1 e2 e3
    subst e1 e2 e3
    by_cases hc : c = lo
    · have hd : xs.drop lo = [] := List.drop_eq_nil_of_le (by omega)
      refine ⟨_, _, _, CH.row g off [], rfl, by rw [hd, List.length_nil]; omega, ?_, by rw [CH.row_nil]; intro a b v hv; cases hv⟩
      rw [if_pos hc]
      refine .inr ⟨g, off, c - lo, [], by rw [hd, List.length_nil]; congr 1; omega, by rw [hd, List.length_nil]; omega, by omega, rfl, by rw [show c - lo = 0 by omega]; simp, by simp, ?_⟩
      rw [hd]; exact Els.nil K F []
    · refine ⟨_, _, _, CH.row g (off + lo * K.sz) (cur.drop (lo * K.sz)), rfl, by rw [List.length_drop], ?_, ?_⟩
      · rw [if_neg hc]
        refine .inr ⟨g, off + lo * K.sz, c - lo, cur.drop (lo * K.sz), ?_, by rw [List.length_drop]; omega, by omega, rfl, by rw [List.length_drop, h5, Nat.sub_mul], fun u hu => h6 u (List.mem_of_mem_drop hu), h7.drop lo⟩
        rw [List.length_drop]
        simp only [Option.map_some, Addr.add]
        congr 2
        split
        · rename_i h0; rw [h0, Nat.add_zero]
        · rfl
      · refine CH.le_part ?_
        rw [List.take_of_length_le (Nat.le_refl _)]
theorem Own.le {h h' : CH} (k : Own h w) (hl : CH.le h' h) : Own h' w := fun g o v hv => k g o v (hl g o v hv)
theorem Ctx.shrink (ps1 ps2 : List CH) {p p' : CH} (hl : CH.le p' p) (h : Ctx w0 F0 D w F (ps1 ++ p :: ps2)) : Ctx w0 F0 D w F (ps1 ++ p' :: ps2) := by
  obtain ⟨hp1, hp2, hc⟩ := List.pairwise_append.1 h.pair
  have hsub : ∀ q, q ∈ ps1 ++ p' :: ps2 → q = p' ∨ q ∈ ps1 ++ p :: ps2 := fun q hq => by
    rcases List.mem_append.1 hq with hq | hq
    · exact .inr (List.mem_append.2 (.inl hq))
    · rcases List.mem_cons.1 hq with rfl | hq
      · exact .inl rfl
      · exact .inr (List.mem_append.2 (.inr (List.mem_cons_of_mem _ hq)))
  have hpo := h.own p (by simp)
  refine ⟨h.mod, h.le, h.fro, h.dom, fun q hq => ?_, List.pairwise_append.2 ⟨hp1, List.pairwise_cons.2 ⟨fun q hq => CH.dis_le ((List.pairwise_cons.1 hp2).1 q hq) hl, (List.pairwise_cons.1 hp2).2⟩, fun q hq r hr => ?_⟩⟩
  · rcases hsub q hq with rfl | hq
    · exact ⟨hpo.1.le hl, CH.dis_symm (CH.dis_le (CH.dis_symm hpo.2.1) hl), fun g o hne => hpo.2.2 g o (by
        intro hn
        cases hv : q g o with
        | none => exact hne hv
        | some v => have := hl g o v hv; rw [hn] at this; cases this)⟩
    · exact h.own q hq
  · rcases List.mem_cons.1 hr with rfl | hr
    · exact CH.dis_symm (CH.dis_le (CH.dis_symm (hc q hq p (List.mem_cons_self ..))) hl)
    · exact hc q hq r (List.mem_cons_of_mem _ hr)
end
/-! ### arrays and structs, built -/
section
variable {P : Program} {env : Env} {ty t : TypeId} {w : World}
theorem Yl.buildArr {n sz : Nat} {e : TypeId} {z : Value} {xs : List (Nat × Operand)} {vs : List (Nat × Value)} {cs : Array Value} (ht : P.underlying t = some (.array n e)) (hs : (P.info? e).map (·.size) = some sz) (hz : (P.info? t).map (·.zero) = some (some z))
    (hx : xs.map (fun p => (p.1, ev env p.2)) = vs) (hf : Instr.fill (fun i => some (i * sz, sz)) z.cells vs = some cs) : Yl P env (.build t xs.toArray) ty w (.agg cs) w := by
  obtain ⟨inf, hi, hz'⟩ := Option.map_eq_some_iff.1 hz
  obtain ⟨inf2, hi2, hsz⟩ := Option.map_eq_some_iff.1 hs
  show (execOp (ev env) _).run P w = _
  have hx2 : List.map (fun (p : Nat × Operand) => (p.fst, ev env p.snd)) xs = vs := hx
  simp [execOp, Instr.build, zeroValue, typeInfo, hi, hz', run_underlying ht, sizeOf, hi2, hsz, hx2, hf]
/-- Parts, put one after the other into cells. -/
inductive Fills (place : Nat → Option (Nat × Nat)) : List (Nat × Value) → List Value → List Value → Prop
  | nil {a : List Value} : Fills place [] a a
  | cons {i off n : Nat} {v : Value} {us a b c : List Value} {rest : List (Nat × Value)} (hv : v.cells = us.toArray) (hp : place i = some (off, n)) (hn : us.length = n) (ha : off + n ≤ a.length) (e : a.take off ++ us ++ a.drop (off + n) = b) (h : Fills place rest b c) : Fills place ((i, v) :: rest) a c
theorem Fills.run {place : Nat → Option (Nat × Nat)} {vs : List (Nat × Value)} {a c : List Value} (h : Fills place vs a c) : Instr.fill place a.toArray vs = some c.toArray := by
  induction h with
  | nil => rfl
  | cons hv hp hn ha e _ ih =>
    subst hn
    rw [fill_cons place _ _ _ _ _ _ hv hp ha, e]
    exact ih
end
end Go.WG
namespace Go.WG
open Go Go.RowKit
section
variable {P : Program} {w0 w : World} {F0 F : CH} {D : Nat → Nat → Prop} {ps1 ps2 : List CH}
theorem ev_setAr' {t : TypeId} {g off o : Nat} (cs cs' pre post : List Value) (a : List Int) (k : IntKind) (i v : Int) (C : Ctx w0 F0 D w F (ps1 ++ CH.row g off cs :: ps2)) (hcs : cs = pre ++ (a.map (Value.int k) ++ post)) (hcs' : cs' = pre ++ ((a.set i.toNat v).map (Value.int k) ++ post)) (ho : pre.length = o) (hi : 0 ≤ i ∧ i < (a.length : Int)) (hs : (P.info? t).map (·.size) = some 1) :
    ∃ w', (∀ (env : Env) (x y : Operand) (ty : TypeId), ev env x = .pointer (some ⟨g, off + o + i.toNat * 1, none⟩) → ev env y = .int k v → Yskip P env (.store t x y) ty w w') ∧ Ctx w0 F0 D w' F (ps1 ++ CH.row g off cs' :: ps2) := by
  subst hcs'
  exact ev_setAr cs pre post a k i v C hcs ho hi hs
end
end Go.WG
namespace Go.WG
theorem one_ints (k : IntKind) (a : List Int) : ∀ u ∈ a.map (Value.int k), u.oneCell' = true := fun u hu => by
  obtain ⟨y, _, rfl⟩ := List.mem_map.1 hu
  rfl
theorem ones_append {a b : List Value} (ha : ∀ u ∈ a, u.oneCell' = true) (hb : ∀ u ∈ b, u.oneCell' = true) : ∀ u ∈ a ++ b, u.oneCell' = true := fun u hu => by
  rcases List.mem_append.1 hu with h | h
  · exact ha u h
  · exact hb u h
end Go.WG
namespace Go.WG
theorem sz_of {x : Option Nat} {n m : Nat} (h : x = some n) (e : m = n) : x = some m := by rw [e]; exact h
theorem take_all {α : Type} (us : List α) : (us.drop 0).take us.length = us := by rw [List.drop_zero, List.take_length]
theorem take_mid {α : Type} {cs pre us post : List α} {o : Nat} (hc : cs = pre ++ (us ++ post)) (ho : pre.length = o) : (cs.drop o).take us.length = us := by
  rw [hc, ← ho, List.drop_left, List.take_left]
end Go.WG
namespace Go.WG
open Go Go.RowKit
theorem reps_ints (k : IntKind) : ∀ xs : List Int, Reps (Kd.int k) CH.emp xs (xs.map (Value.int k))
  | [] => .nil
  | x :: xs => .cons (show (Kd.int k).rep CH.emp x (Value.int k x).cells.toList from rfl) (reps_ints k xs)
theorem flat_ints (k : IntKind) : ∀ xs : List Int, (xs.map (Value.int k)).flatMap (·.cells.toList) = xs.map (Value.int k)
  | [] => rfl
  | x :: xs => by rw [List.map_cons, List.flatMap_cons, flat_ints k xs]; rfl
theorem fill_ints (k : IntKind) (xs : List Int) (z : Value) (a : List Value) (hz : z.cells = a.toArray) (hl : a.length = xs.length) : Instr.fill (fun i => some (i * 1, 1)) z.cells (mkParts 0 (xs.map (Value.int k))) = some (xs.map (Value.int k)).toArray := by
  have := fill_row (reps_ints k xs) 0 a (by simp [Kd.int, Kd.scalar, hl])
  rw [hz]
  simp only [Kd.int, Kd.scalar] at this
  rw [this, flat_ints, List.length_map]
  simp [hl]
end Go.WG
namespace Go.WG
theorem Fills.seg {place : Nat → Option (Nat × Nat)} {i off n : Nat} {v : Value} {us a b c pre z post : List Value} {rest : List (Nat × Value)} (hv : v.cells = us.toArray) (hp : place i = some (off, n)) (hn : us.length = n) (ha : a = pre ++ (z ++ post)) (hb : b = pre ++ (us ++ post)) (ho : pre.length = off) (hz : z.length = n) (h : Fills place rest b c) : Fills place ((i, v) :: rest) a c := by
  subst ha hb ho
  refine .cons hv hp hn (by simp only [List.length_append]; omega) ?_ h
  rw [List.take_left, ← List.append_assoc, List.drop_append, List.drop_eq_nil_of_le (by rw [List.length_append]; omega), List.nil_append, List.length_append, hz, Nat.sub_self, List.drop_zero, List.append_assoc]
end Go.WG
namespace Go.WG
open Go Go.RowKit
/-- No jump to a label. -/
def noGotoE (Q : Exit → Env → World → Prop) : Exit → Env → World → Prop
  | .goto _, _, _ => False
  | e, env, w => Q e env w
section
variable {P : Program} {N : Nat} {Q : Exit → Env → World → Prop} {env : Env} {w : World}
theorem W.scope {c : Code} (h : W P N c (noGotoE Q) env w) : W P N (.scope c) Q env w := fun a ha =>
  wp_scope_straight (Go.wp_mono (h a ha) fun e a' w' ⟨env', hf, hQ⟩ => by
    cases e with
    | goto l => exact hQ.elim
    | _ => exact ⟨env', hf, hQ⟩)
theorem noG_n (h : Q .normal env w) : noGotoE Q .normal env w := h
theorem noG_r (h : Q .ret env w) : noGotoE Q .ret env w := h
theorem noG_x {i : Nat} (h : Q (.exit i) env w) : noGotoE Q (.exit i) env w := h
end
end Go.WG
namespace Go.WG
theorem OB.mkT {env : Env} {z : Operand} {k : IntKind} {n : Int} {d m : Nat} (h : ev env z = .int k n) (h0 : 0 ≤ n) (e : n.toNat = m) : OB env (some z) d m := by
  subst e
  exact OB.mk h h0
end Go.WG
namespace Go.WG
open Go Go.RowKit
section
variable {P : Program} {N : Nat} {ops : Array Oper} {Ms : List (List Nat × CH)} {R : Env → World → Prop} {env : Env} {w : World} {fuel : Nat} {listed : Array Bool}
theorem WA.up1N (i : Nat) {o : Oper} {L : Array Bool} (hr : Region.ready .any ops listed = [i]) (hi : ops[i]? = some o) (hd : dstOk N o = true) (hw : Region.wanted o (yieldedE ops env) = false) (hl : listed.setIfInBounds i true = L) (hs : SLc Ms i listed w) (h : WA P N ops Ms R fuel L (putE env o.dst undef) w) :
    WA P N ops Ms R (fuel + 1) listed env w := fun hcl a ha => by
  refine ⟨fun h => (by rw [hr] at h; cases h), fun j hj => ?_⟩
  have hji : j = i := by
    have h2 : j ∈ [i] := hr ▸ hj
    exact List.mem_singleton.1 h2
  subst hji
  obtain ⟨_, oj, hoj, hall⟩ := mem_ready.1 hj
  rw [hi] at hoj
  injection hoj with hoj
  subst hoj
  subst hl
  unfold wpOp
  simp only [hi]
  rw [ha.yielded ops, if_neg (by rw [hw]; simp)]
  exact ⟨hs, h (hcl.set hi hall) _ (ha.put' hd undef)⟩
theorem WA.up1Off (i : Nat) {dst : Option Nat} {op : Op} {ty : TypeId} {pos : String} {aft : Array Edge} {j : Nat} {b : Bool} {x : Nat} {L : Array Bool} (hr : Region.ready .any ops listed = [i]) (hi : ops[i]? = some ⟨dst, op, ty, pos, aft, some (j, b)⟩) (hj : (ops[j]?).bind (·.dst) = some x) (hx : env x = .bool (!b)) (hd : dstOk N ⟨dst, op, ty, pos, aft, some (j, b)⟩ = true) (hl : listed.setIfInBounds i true = L) (hs : SLc Ms i listed w) (h : WA P N ops Ms R fuel L (putE env dst undef) w) :
    WA P N ops Ms R (fuel + 1) listed env w := WA.up1N i hr hi hd (by unfold Region.wanted yieldedE; simp only [hj, hx]; cases b <;> simp) hl hs h
theorem WA.up1Off' (i : Nat) {dst : Option Nat} {op : Op} {ty : TypeId} {pos : String} {aft : Array Edge} {j : Nat} {b : Bool} {x : Nat} {L : Array Bool} (hr : Region.ready .any ops listed = [i]) (hi : ops[i]? = some ⟨dst, op, ty, pos, aft, some (j, b)⟩) (hj : (ops[j]?).bind (·.dst) = some x) (hx : env x = undef) (hd : dstOk N ⟨dst, op, ty, pos, aft, some (j, b)⟩ = true) (hl : listed.setIfInBounds i true = L) (hs : SLc Ms i listed w) (h : WA P N ops Ms R fuel L (putE env dst undef) w) :
    WA P N ops Ms R (fuel + 1) listed env w := WA.up1N i hr hi hd (by unfold Region.wanted yieldedE; simp only [hj, hx]; cases b <;> rfl) hl hs h
end
end Go.WG
