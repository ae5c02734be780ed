/- Bytes as texts; maps of maps; maps that are ranged over. -/
import Derived.Test.YtnlpmnegjgjiiaaGreatDoorLo
import Derived.Laws.BytesArg
import Derived.Maps.RangeRun
namespace Go.WG
open Go.RowKit
set_option linter.unusedVariables false
set_option linter.unusedSimpArgs false
section
variable {P : Program} {env : Env} {w w' : World} {ty t t2 e : TypeId} {x y : Operand}
/-- Bytes as a text. -/
theorem Yl.convBS {A : Option Addr} {n c : Nat} {xs : List Int} {F h : CH} (hx : Go.WG.ev env x = .slice A n c) (hn : n = xs.length) (hS : Sl (Kd.int .u8) F h A xs) (hs : Sub h w) (ht : P.underlying t = some (.slice e)) (he : P.underlying e = some (.int .u8)) (hd : P.underlying t2 = some .string) : Yl P env (.convert t t2 x) ty w (.string (strOfNums xs)) w := by
  have key : (convert t t2 (.slice A n c)).run P w = .ok (.string (strOfNums xs)) w := by
    cases xs with
    | nil =>
      subst hn
      cases A with
      | none => exact run_convert_bytes_nil w t e ht he 0 c t2 hd
      | some a =>
        rw [List.length_nil, run_convert_bytes_string w t t2 e _ _ c ht he hd, run_bytesToString w a 0 c [] (by simp only [loadCells, loadCellsFrom]; rfl)]
        rfl
    | cons z zs =>
      obtain ⟨b, off, rfl, hel⟩ := hS (by simp)
      refine run_convert_bytes_arg w t e ht he b off n c (z :: zs) hn.symm (fun i hi => ?_) t2 hd
      have hi' : i < (z :: zs).length := by omega
      obtain ⟨cs, hr, hc⟩ := hel i ((z :: zs).getD i 0) (by rw [List.getD_eq_getElem?_getD, List.getElem?_eq_getElem hi', Option.getD_some])
      have hr' : cs = [Value.int .u8 ((z :: zs).getD i 0)] := hr
      subst hr'
      have h1 := hs.cell (hc 0 _ rfl)
      have e1 : off + i * (Kd.int .u8).sz + 0 = off + i := by show off + i * 1 + 0 = off + i; omega
      rw [e1] at h1
      exact h1
  show (execOp (Go.WG.ev env) _).run P w = _
  simp [execOp, hx, key]
/-- No bytes as a text. -/
theorem Yl.convBN {c : Nat} (hx : Go.WG.ev env x = .slice none 0 c) (ht : P.underlying t = some (.slice e)) (he : P.underlying e = some (.int .u8)) (hd : P.underlying t2 = some .string) : Yl P env (.convert t t2 x) ty w (.string (strOfNums [])) w :=
  Yl.convBS (F := CH.emp) (h := CH.emp) (xs := []) hx rfl (Sl.nil _ _ _ _) (fun _ _ _ h => by cases h) ht he hd
end
/-! ### maps of maps -/
section
variable {α β γ : Type} [DecidableEq α] {ek : α → Value} {ek2 : β → Value} {ev2 : γ → Value} {P : Program} {w : World} {p : CH} {g : Nat} {L : List (α × List (β × γ))} {d : TypeDesc}
theorem mget_map {τ δ : Type} (f : τ → δ) (h : τ → α) (T : List τ) (k : α) : mget (T.map fun t => (h t, f t)) k = (T.find? fun t => decide (h t = k)).map f := by
  unfold mget
  rw [List.find?_map, Option.map_map]
  rfl
/-- The outer one's entries lead to inner ones, all within one piece. -/
def NMap (ek : α → Value) (ek2 : β → Value) (ev2 : γ → Value) (p : CH) (g : Nat) (L : List (α × List (β × γ))) : Prop :=
  ∃ (T : List (α × Nat × CH × List (β × γ))) (pm : CH), CH.le pm p ∧ MRow ek (fun g => Value.map (some g)) pm g (T.map fun t => (t.1, t.2.1)) ∧ (∀ t ∈ T, CH.le t.2.2.1 p ∧ MRow ek2 ev2 t.2.2.1 t.2.1 t.2.2.2) ∧ L = T.map fun t => (t.1, t.2.2.2)
/-- What a look into it yields. -/
def MapV (ek2 : β → Value) (ev2 : γ → Value) (p : CH) (v : Value) (l : List (β × γ)) : Prop := (v = .map none ∧ l = []) ∨ ∃ g q, v = .map (some g) ∧ CH.le q p ∧ MRow ek2 ev2 q g l
theorem NMap.get {t kt et : TypeId} (hM : NMap ek ek2 ev2 p g L) (ht : P.underlying t = some (.map kt et)) (hu : P.underlying kt = some d) (hd : keyD d = true) (hk : KeyEnc d ek) (hz : (P.info? et).map (·.zero) = some (some (.map none))) (k : α) :
    ∃ v, MapV ek2 ev2 p v ((mget L k).getD []) ∧ ∀ (w : World) (_ : Sub p w) (env : Env) (ty : TypeId) (x y : Operand), Go.WG.ev env x = .map (some g) → Go.WG.ev env y = ek k → Yl P env (.lookup t x y false) ty w v w := by
  obtain ⟨T, pm, hle, hR, hT, rfl⟩ := hM
  have e0 := mget_map (fun t : α × Nat × CH × List (β × γ) => t.2.2.2) (fun t => t.1) T k
  rw [e0]
  have e := mget_map (fun t : α × Nat × CH × List (β × γ) => t.2.1) (fun t => t.1) T k
  cases hf : T.find? (fun t => decide (t.1 = k)) with
  | none =>
    rw [hf] at e
    refine ⟨.map none, .inl ⟨rfl, rfl⟩, fun w hs env ty x y hx hy => Yl.lookup hR (hs.mono hle) ht hu hd hk hz k hx hy ?_⟩
    rw [e]; rfl
  | some q =>
    rw [hf] at e
    have hm := List.mem_of_find?_eq_some hf
    refine ⟨.map (some q.2.1), .inr ⟨q.2.1, q.2.2.1, rfl, (hT q hm).1, (hT q hm).2⟩, fun w hs env ty x y hx hy => Yl.lookup hR (hs.mono hle) ht hu hd hk hz k hx hy ?_⟩
    rw [e]; rfl
theorem Yl.lenMV {t kt et ty : TypeId} {env : Env} {x : Operand} {v : Value} {l : List (β × γ)} (hV : MapV ek2 ev2 p v l) (hs : Sub p w) (hx : Go.WG.ev env x = v) (ht : P.underlying t = some (.map kt et)) : Yl P env (.call { callee := .builtin .len, args := #[x], argTypes := #[t] }) ty w (.int .i64 (l.length : Int)) w := by
  show (execOp (Go.WG.ev env) _).run P w = _
  rcases hV with ⟨rfl, rfl⟩ | ⟨g, q, rfl, hle, es, clock, rfl, hE⟩
  · simp [execOp, resolve, invoke, builtin, Builtin.len_, hx, run_underlying ht, goInt]
  · have hh := mp_heap (hs.mono hle)
    have hl : es.size = l.length := by
      have := congrArg List.length hE.ent
      simpa using this
    simp [execOp, resolve, invoke, builtin, Builtin.len_, hx, run_underlying ht, goInt, getObj, Sem.run, hh, hl]
/-- Pieces joined to one. -/
theorem Ctx.joinAll {w0 w : World} {F0 F : CH} {D : Nat → Nat → Prop} : ∀ (ps pre rest : List CH), Ctx w0 F0 D w F (pre ++ ps ++ rest) → ∃ p, Ctx w0 F0 D w F (pre ++ p :: rest) ∧ ∀ q ∈ ps, CH.le q p
  | [], pre, rest, h => by
    rw [List.append_nil] at h
    refine ⟨CH.emp, (Ctx.emp h).perm ?_, fun q hq => by cases hq⟩
    exact (List.perm_middle (l₁ := pre) (a := CH.emp) (l₂ := rest)).symm
  | a :: ps, pre, rest, h => by
    have h' : Ctx w0 F0 D w F ((pre ++ [a]) ++ ps ++ rest) := by simpa using h
    obtain ⟨p, hC, hl⟩ := Ctx.joinAll ps (pre ++ [a]) rest h'
    have hC' : Ctx w0 F0 D w F (pre ++ a :: p :: rest) := by simpa using hC
    have hdis : CH.dis a p := by
      have := (List.pairwise_append.1 hC'.pair).2.1
      exact (List.pairwise_cons.1 this).1 p (by simp)
    refine ⟨CH.join a p, Ctx.join pre rest hC', fun q hq => ?_⟩
    rcases List.mem_cons.1 hq with rfl | hq
    · exact CH.le_joinL _ _
    · exact CH.le_trans (hl q hq) (CH.le_joinR hdis)
end
/-! ### maps that are ranged over -/
section
variable {P : Program} {w0 w w' : World} {F0 F : CH} {D : Nat → Nat → Prop} {ps : List CH}
open Go.ChangeMaps (setBlock)
/-- Nothing that was there has turned. -/
theorem Ctx.stay (h : Ctx w0 F0 D w F ps) (m : Mod (fun _ _ => False) w w') : Ctx w0 F0 D w' F ps :=
  ⟨h.mod.trans m (fun _ _ _ h => h.elim), h.le, h.fro.mod m (fun _ _ _ => id), h.dom, fun p hp => ⟨(h.own p hp).1.mod m (fun _ _ _ => id), (h.own p hp).2⟩, h.pair⟩
theorem look_iter {r o : Nat} {m : Option Nat} {s c : Nat} {seen : Array Nat} (hr : w.heap[r]? = some (.mapIter m s seen c)) : look w r o = none := by
  unfold look; rw [hr]
/-- The iterator goes on. -/
theorem Ctx.setIter {r : Nat} {m m' : Option Nat} {s c s' c' : Nat} {seen seen' : Array Nat} (h : Ctx w0 F0 D w F ps) (hr : w.heap[r]? = some (.mapIter m s seen c)) (hb : w0.heap.size ≤ r) : Ctx w0 F0 D (setBlock w r (.mapIter m' s' seen' c')) F ps := by
  have hset := MapKept.heap_set (o' := Obj.mapIter m' s' seen' c') hr
  have hlook : ∀ g o, look (setBlock w r (.mapIter m' s' seen' c')) g o = look w g o := fun g o => by
    by_cases hg : g = r
    · subst hg
      rw [look_iter hr, look_iter (w := setBlock w g (.mapIter m' s' seen' c')) hset.1]
    · exact look_congr (hset.2 g hg) o
  have hfro : ∀ g o, (setBlock w r (.mapIter m' s' seen' c')).frozen? ⟨g, o, none⟩ = w.frozen? ⟨g, o, none⟩ := fun g o => by
    unfold World.frozen?
    by_cases hg : g = r
    · subst hg
      have e : (setBlock w g (.mapIter m' s' seen' c')).heap[g]? = _ := hset.1
      simp only [e, hr]
    · have e : (setBlock w r (.mapIter m' s' seen' c')).heap[g]? = _ := hset.2 g hg
      simp only [e]
  have hne : ∀ g, g < w0.heap.size → g ≠ r := fun g hg e => by omega
  refine ⟨⟨h.mod.os, h.mod.tape, h.mod.output, Nat.le_trans h.mod.size (by simp [setBlock]), fun g hg hn => (hset.2 g (hne g hg)).trans (h.mod.block g hg hn), fun g o hg hn => (hlook g o).trans (h.mod.cell g o hg hn), fun g o hg => (hfro g o).trans (h.mod.froz g o hg)⟩, h.le, fun g o v hv => by rw [hlook]; exact h.fro g o v hv, h.dom, fun p hp => ⟨fun g o v hv => by rw [hlook, hfro]; exact (h.own p hp).1 g o v hv, (h.own p hp).2⟩, h.pair⟩
/-- What has been met of a map, and the iterator over it. -/
structure Iter {α β : Type} (ek : α → Value) (ev : β → Value) (w : World) (r g : Nat) (es : Array MapEntry) (clock : Nat) (ks : List α) (left : Nat) : Prop where
  seen : ∃ vs : List MapEntry, w.heap[r]? = some (.mapIter (some g) clock (vs.map (·.born)).toArray clock) ∧ (∀ e ∈ vs, e ∈ es.toList) ∧ (vs.map (·.born)).Nodup ∧ vs.map (·.key) = ks.map ek ∧ (leftOf es (vs.map (·.born)).toArray).size = left
theorem ev_range {α β : Type} {ek : α → Value} {ev' : β → Value} {l : List (α × β)} {t kt et : TypeId} {g : Nat} {es : Array MapEntry} {clock : Nat} (C : Ctx w0 F0 D w F ps) (hs : Sub (CH.mp g es clock) w) (ht : P.underlying t = some (.map kt et)) :
    ∃ r w', (∀ (env : Env) (ty : TypeId) (x : Operand), ev env x = .map (some g) → Yl P env (.range t x) ty w (.pointer (some ⟨r, 0, none⟩)) w') ∧ Ctx w0 F0 D w' F ps ∧ w0.heap.size ≤ r ∧ Iter ek ev' w' r g es clock ([] : List α) (leftOf es #[]).size := by
  refine ⟨w.heap.size, _, fun env ty x hx => ?_, C.stay (Mod.alloc _ w _), C.mod.size, ⟨[], (heap_alloc_new w (.mapIter (some g) clock #[] clock)), by simp, by simp, rfl, rfl⟩⟩
  show (execOp (ev env) _).run P w = _
  have := run_range_map (P := P) w t kt et g es clock ht (mp_heap hs)
  simp [execOp, hx, this]
theorem nodup_born_eq {es : List MapEntry} (h : (es.map (·.born)).Nodup) {a b : MapEntry} (ha : a ∈ es) (hb : b ∈ es) (e : a.born = b.born) : a = b := by
  obtain ⟨i, hi⟩ := List.getElem?_of_mem ha
  obtain ⟨j, hj⟩ := List.getElem?_of_mem hb
  have : i = j := nodup_idx (x := a.born) h (by rw [List.getElem?_map, hi]; rfl) (by rw [List.getElem?_map, hj, e]; rfl)
  subst this
  rw [hi] at hj
  injection hj
theorem nodup_of_map {α β : Type} (f : α → β) : ∀ {l : List α}, (l.map f).Nodup → l.Nodup
  | [], _ => List.nodup_nil
  | a :: l, h => by
    rw [List.map_cons, List.nodup_cons] at h
    exact List.nodup_cons.2 ⟨fun hm => h.1 (List.mem_map.2 ⟨a, hm, rfl⟩), nodup_of_map f h.2⟩
theorem nodup_len : ∀ (l m : List Nat), l.Nodup → (∀ x ∈ l, x ∈ m) → l.length ≤ m.length
  | [], m, _, _ => Nat.zero_le _
  | a :: l, m, h, hs => by
    have ha := hs a (by simp)
    obtain ⟨h1, h2⟩ := List.nodup_cons.1 h
    have := nodup_len l (m.erase a) h2 fun x hx => (List.mem_erase_of_ne (fun e : x = a => h1 (by rw [← e]; exact hx))).2 (hs x (List.mem_cons_of_mem _ hx))
    rw [List.length_erase_of_mem ha] at this
    have hm : 0 < m.length := List.length_pos_of_mem ha
    rw [List.length_cons]; omega
/-- The iterator's step. -/
theorem Iter.next {α β : Type} {ek : α → Value} {ev' : β → Value} {l : List (α × β)} {r g : Nat} {es : Array MapEntry} {clock : Nat} {ks : List α} {left : Nat} (dec : Value → α) (hdec : ∀ a, dec (ek a) = a) (I : Iter ek ev' w r g es clock ks left) (C : Ctx w0 F0 D w F ps) (hs : Sub (CH.mp g es clock) w) (hr : w0.heap.size ≤ r) (hM : MEnt ek ev' es clock l) :
    (ks.Perm (l.map (·.1)) ∧ ∀ (env : Env) (ty : TypeId) (x : Operand), ev env x = .pointer (some ⟨r, 0, none⟩) → Yl P env (.next x false) ty w (.tuple #[.bool false]) w) ∨
    ∃ k v w' left', left' < left ∧ ks.length < l.length ∧ (∀ (env : Env) (ty : TypeId) (x : Operand), ev env x = .pointer (some ⟨r, 0, none⟩) → Yl P env (.next x false) ty w (.tuple #[.bool true, ek k, v]) w') ∧ Ctx w0 F0 D w' F ps ∧ Iter ek ev' w' r g es clock (ks ++ [k]) left' ∧ (∀ (env : Env) (ty : TypeId) (x : Operand), ev env x = .pointer (some ⟨r, 0, none⟩) → Yl P env (.entry x) ty w' (.tuple #[ek k, v]) w') := by
  obtain ⟨vs, hri, hmem, hnd, hks, hleft⟩ := I.seen
  have hb := mp_heap hs
  have hlen : ks.length = vs.length := by have := congrArg List.length hks; simpa using this.symm
  have hll : es.toList.length = l.length := by have := congrArg List.length hM.ent; simpa using this
  have hlt : ∀ n, n < es.toList.length → n < l.length := fun n h => by omega
  rcases run_next_at (P := P) w 0 r g clock clock (vs.map (·.born)).toArray es clock hri hb hM.born (Nat.le_refl _) with ⟨h0, hrun⟩ | ⟨e, he, w1, hw1, hrun⟩
  · left
    refine ⟨?_, fun env ty x hx => ?_⟩
    · have hall : ∀ e ∈ es.toList, e ∈ vs := fun e he => by
        have := all_seen es _ h0 e he
        rw [List.contains_toArray, List.contains_iff_mem, List.mem_map] at this
        obtain ⟨v, hv, hvb⟩ := this
        rw [← nodup_born_eq hM.uniq (hmem v hv) he hvb]; exact hv
      have hp : vs.Perm es.toList := (List.perm_ext_iff_of_nodup (nodup_of_map _ hnd) (nodup_of_map _ hM.uniq)).2 fun e => ⟨hmem e, hall e⟩
      have h1 := (hp.map (·.key)).map dec
      rw [hks, List.map_map] at h1
      have h2 : (es.toList.map (·.key)).map dec = l.map (·.1) := by
        have := congrArg (List.map (fun q : Value × Value => dec q.1)) hM.ent
        rw [List.map_map, List.map_map] at this
        rw [List.map_map]
        refine this.trans ?_
        exact List.map_congr_left fun q _ => hdec q.1
      rw [h2] at h1
      have h3 : ks.map (dec ∘ ek) = ks := by
        rw [show (dec ∘ ek) = id from funext hdec, List.map_id]
      rwa [h3] at h1
    · show (execOp (ev env) _).run P w = _
      have hrun' : (Instr.next (.pointer (some ⟨r, 0, none⟩)) false ty).run P w = _ := hrun
      simp [execOp, hx, hrun']
  · right
    obtain ⟨hem, hes⟩ := mem_left he
    obtain ⟨i, hi⟩ := List.getElem?_of_mem hem
    have hil : i < es.toList.length := (List.getElem?_eq_some_iff.1 hi).1
    have hent : (e.key, e.val) = (ek (l[i]'(hlt i hil)).1, ev' (l[i]'(hlt i hil)).2) := by
      have := congrArg (fun z => z[i]?) hM.ent
      simp only [List.getElem?_map, hi, List.getElem?_eq_getElem (hlt i hil), Option.map_some] at this
      injection this
    have hkey : e.key = ek (l[i]'(hlt i hil)).1 := congrArg Prod.fst hent
    generalize (l[i]'(hlt i hil)).1 = k at hkey
    have hnot : e.born ∉ vs.map (·.born) := fun h => by
      have : (vs.map (·.born)).toArray.contains e.born = true := by rw [List.contains_toArray, List.contains_iff_mem]; exact h
      rw [hes] at this; cases this
    have hnd2 : ((vs ++ [e]).map (·.born)).Nodup := by
      rw [List.map_append, List.nodup_append]
      refine ⟨hnd, by simp, fun a ha b hb2 => ?_⟩
      simp only [List.map_cons, List.map_nil, List.mem_singleton] at hb2
      subst hb2
      exact fun e2 => hnot (e2 ▸ ha)
    have hpush : (vs.map (·.born)).toArray.push e.born = ((vs ++ [e]).map (·.born)).toArray := by simp
    have hkl : ks.length < l.length := by
      have h1 := nodup_len ((vs ++ [e]).map (·.born)) (es.toList.map (·.born)) hnd2 (fun z hz => by
        obtain ⟨y, hy, rfl⟩ := List.mem_map.1 hz
        refine List.mem_map.2 ⟨y, ?_, rfl⟩
        rcases List.mem_append.1 hy with h | h
        · exact hmem y h
        · rw [List.mem_singleton.1 h]; exact hem)
      rw [List.length_map, List.length_map, List.length_append, List.length_singleton] at h1
      omega
    have hri1 : w1.heap[r]? = some (.mapIter (some g) clock (vs.map (·.born)).toArray clock) := by rcases hw1 with rfl | rfl <;> exact hri
    have hb1 : w1.heap[g]? = some (.map es clock) := by rcases hw1 with rfl | rfl <;> exact hb
    have C1 : Ctx w0 F0 D w1 F ps := by
      rcases hw1 with rfl | rfl
      · exact C
      · exact C.drewN 1
    have hgr : g ≠ r := fun e2 => by rw [e2, hri] at hb; cases hb
    have hset := MapKept.heap_set (o' := Obj.mapIter (some g) clock ((vs.map (·.born)).toArray.push e.born) clock) hri1
    refine ⟨k, e.val, setBlock w1 r (.mapIter (some g) clock ((vs.map (·.born)).toArray.push e.born) clock), (leftOf es ((vs ++ [e]).map (·.born)).toArray).size, ?_, hkl, fun env ty x hx => ?_, C1.setIter hri1 hr, ⟨vs ++ [e], by rw [← hpush]; exact hset.1, fun z hz => ?_, hnd2, ?_, rfl⟩, fun env ty x hx => ?_⟩
    · rw [← hpush, ← hleft]; exact left_shrinks es _ e he
    · show (execOp (ev env) _).run P w = _
      have hrun' : (Instr.next (.pointer (some ⟨r, 0, none⟩)) false ty).run P w = _ := hrun
      rw [hkey] at hrun'
      simp [execOp, hx, hrun']
    · rcases List.mem_append.1 hz with h | h
      · exact hmem z h
      · rw [List.mem_singleton.1 h]; exact hem
    · rw [List.map_append, List.map_append, hks, List.map_cons, List.map_cons, hkey]; rfl
    · show (execOp (ev env) _).run P _ = _
      have hrun' := run_entry_at (P := P) (setBlock w1 r (.mapIter (some g) clock ((List.map (fun x : MapEntry => x.born) vs).toArray.push e.born) clock)) r g clock (List.map (fun x : MapEntry => x.born) vs).toArray es clock e hset.1 ((hset.2 g hgr).trans hb1) hem hM.uniq
      rw [hkey] at hrun'
      generalize setBlock w1 r (.mapIter (some g) clock ((List.map (fun x : MapEntry => x.born) vs).toArray.push e.born) clock) = W at hrun' ⊢
      simp [execOp, hx, hrun']
theorem Ctx.pre1 {w0 w : World} {F0 F : CH} {D : Nat → Nat → Prop} {ps : List CH} (h : Ctx w0 F0 D w F ps) : Pre w F ps := ⟨h.fro, fun p hp => ⟨(h.own p hp).1, (h.own p hp).2.1⟩, h.pair⟩
theorem Ctx.call1 {w0 w w' : World} {F0 F F' : CH} {D : Nat → Nat → Prop} {ps ps' : List CH} (h : Ctx w0 F0 D w F ps) (k : Ctx w F (domL ps) w' F' ps') : Ctx w0 F0 D w' F' ps' := by
  have := Ctx.call (qs := ps) (rest := []) (by simpa using h) k
  simpa using this
theorem Ctx.sub_mem {w0 w : World} {F0 F : CH} {D : Nat → Nat → Prop} {ps : List CH} {p : CH} (h : Ctx w0 F0 D w F ps) (hp : p ∈ ps) : Sub p w := (h.own p hp).1.sub
/-- The iterator stays while other pieces turn. -/
theorem Iter.keep {α β : Type} {ek : α → Value} {ev' : β → Value} {r g : Nat} {es : Array MapEntry} {clock : Nat} {ks : List α} {left : Nat} {F' : CH} {ps' : List CH} (I : Iter ek ev' w r g es clock ks left) (C : Ctx w0 F0 D w F ps) (k : Ctx w F (domL ps) w' F' ps') : Iter ek ev' w' r g es clock ks left := by
  obtain ⟨vs, hri, h⟩ := I.seen
  have hlt : r < w.heap.size := (Array.getElem?_eq_some_iff.1 hri).1
  refine ⟨vs, (k.mod.block r hlt fun o ho => ?_).trans hri, h⟩
  obtain ⟨p, hp, hn⟩ := ho
  cases hv : p r o with
  | none => exact hn hv
  | some v => have := (C.own p hp).1.sub r o v hv; rw [look_iter hri] at this; cases this
end
/-- Elements as bare cells. -/
def Kd.raw (n : Nat) : Kd (List Value) where
  sz := n
  rep := fun _ x cs => cs = x ∧ x.length = n ∧ ∀ u ∈ x, u.oneCell' = true
  len := fun h => by rw [h.1, h.2.1]
  one := fun h u hu => h.2.2 u (h.1 ▸ hu)
  mono := fun _ h => h
theorem Yl.elemAddr0 {P : Program} {env : Env} {w : World} {ty t e : TypeId} {x y : Operand} {k : IntKind} {g o c : Nat} (hx : Go.WG.ev env x = .slice (some ⟨g, o, none⟩) 1 c) (hy : Go.WG.ev env y = .int k 0) (ht : P.underlying t = some (.slice e)) {sz : Nat} (hs : (P.info? e).map (·.size) = some sz) :
    Yl P env (.indexAddr t x y) ty w (.pointer (some ⟨g, o, none⟩)) w := by
  have := Yl.elemAddr (P := P) (w := w) (ty := ty) hx hy rfl ht hs ⟨Int.le_refl _, by decide⟩
  simpa using this
/-- A row of one element's bare cells: these cells are the piece's first. -/
theorem Row.raw1 {n : Nat} {F p : CH} {A : Option Addr} {m c : Nat} {cells : List Value} (hR : Row (Kd.raw n) F p (.slice A m c) [cells]) : ∃ g o, A = some ⟨g, o, none⟩ ∧ m = 1 ∧ CH.le (CH.row g o cells) p := by
  rcases hR with ⟨_, h, _⟩ | ⟨g, off, cap, cur, hv, hle, hm, rfl, hl, h1, he⟩
  · cases h
  · injection hv with e1 e2 e3
    refine ⟨g, off, e1, e2, fun b x cc h => ?_⟩
    obtain ⟨rfl, k, v, rfl, hk, rfl⟩ := CH.row_some h
    have h3 := (he.2 0 cells rfl).1
    have h4 := congrArg (fun l => l[k]?) h3
    rw [Nat.zero_mul, List.drop_zero] at h4
    simp only [List.getElem?_take] at h4
    split at h4
    · exact CH.row_get (h4.trans hk)
    · rw [hk] at h4; cases h4
end Go.WG
