/- Maps in memory: as lists of pairs, in the order of their making. -/
import Derived.Test.YtnlpmnegjgjiiaaGreatDoorLk
namespace Go.WG
open Go.RowKit
set_option linter.unusedVariables false
set_option linter.unusedSimpArgs false
section
variable {α β : Type} [DecidableEq α]
def mget (l : List (α × β)) (k : α) : Option β := (l.find? fun q => decide (q.1 = k)).map (·.2)
def mset (l : List (α × β)) (k : α) (v : β) : List (α × β) :=
  if (mget l k).isSome = true then l.map fun q => if q.1 = k then (k, v) else q else l ++ [(k, v)]
def mdel (l : List (α × β)) (k : α) : List (α × β) := l.filter fun q => decide (q.1 ≠ k)
end
/-- A key's type whose values are compared at once. -/
def keyD : TypeDesc → Bool
  | .int _ => true
  | .string => true
  | _ => false
structure KeyEnc {α : Type} [DecidableEq α] (d : TypeDesc) (ek : α → Value) : Prop where
  now : ∀ a b, Instr.sameNow d (ek a) (ek b) = some (decide (a = b))
  bits : ∀ a, Instr.sameBits 10000 (ek a) (ek a) = true
theorem keyInt (k : IntKind) : KeyEnc (.int k) (Value.int k) := ⟨fun a b => by simp [Instr.sameNow]; rfl, fun a => by simp [Instr.sameBits]⟩
theorem baeq (a b : ByteArray) : (a == b) = decide (a = b) := by
  have h : (a == b) = (a.data == b.data) := rfl
  rw [h]
  by_cases e : a = b
  · subst e
    simp
  · rw [decide_eq_false e]
    have : a.data ≠ b.data := fun h => e (ByteArray.ext h)
    simpa using this
theorem keyStr : KeyEnc .string Value.string := ⟨fun a b => by simp [Instr.sameNow, baeq], fun a => by simp [Instr.sameBits, baeq]⟩
/-- The entries of a map are those of a list. -/
structure MEnt {α β : Type} (ek : α → Value) (ev : β → Value) (es : Array MapEntry) (clock : Nat) (l : List (α × β)) : Prop where
  ent : es.toList.map (fun e => (e.key, e.val)) = l.map (fun q => (ek q.1, ev q.2))
  born : ∀ e ∈ es.toList, e.born < clock
  uniq : (es.toList.map (·.born)).Nodup
  keys : (l.map (·.1)).Nodup
def MRow {α β : Type} (ek : α → Value) (ev : β → Value) (p : CH) (g : Nat) (l : List (α × β)) : Prop := ∃ es clock, p = CH.mp g es clock ∧ MEnt ek ev es clock l
section
variable {α β : Type} [DecidableEq α] {ek : α → Value} {ev : β → Value} {es : Array MapEntry} {clock : Nat} {l : List (α × β)} {d : TypeDesc} {P : Program} {w : World}
theorem findNow_eq (hk : KeyEnc d ek) (k : α) : ∀ (es : List MapEntry) (l : List (α × β)) (i : Nat), es.map (fun e => (e.key, e.val)) = l.map (fun q => (ek q.1, ev q.2)) →
    Instr.findNow d (ek k) es i = some ((l.findIdx? fun q => decide (q.1 = k)).bind fun j => (l[j]?).map fun q => (i + j, ev q.2))
  | [], [], i, _ => rfl
  | [], _ :: _, _, h => by simp at h
  | _ :: _, [], _, h => by simp at h
  | e :: es, q :: l, i, h => by
    simp only [List.map_cons, List.cons.injEq] at h
    obtain ⟨h1, h2⟩ := h
    injection h1 with h1 h3
    unfold Instr.findNow
    rw [h1, hk.now, List.findIdx?_cons]
    by_cases he : k = q.1
    · subst he
      simp [h3]
    · have he' : ¬ q.1 = k := fun h => he h.symm
      rw [decide_eq_false he, decide_eq_false he']
      simp only [Bool.false_eq_true, if_false]
      rw [findNow_eq hk k es l (i + 1) h2]
      cases hf : l.findIdx? (fun q => decide (q.1 = k)) with
      | none => simp
      | some j => simp [Nat.add_assoc, Nat.add_comm 1 j]
theorem mget_idx (l : List (α × β)) (k : α) : mget l k = (l.findIdx? fun q => decide (q.1 = k)).bind fun j => (l[j]?).map (·.2) := by
  unfold mget
  induction l with
  | nil => rfl
  | cons q l ih =>
    rw [List.find?_cons, List.findIdx?_cons]
    by_cases h : q.1 = k
    · simp [h]
    · simp only [decide_eq_false h, Bool.false_eq_true, if_false]
      rw [ih]
      cases l.findIdx? (fun q => decide (q.1 = k)) with
      | none => simp
      | some j => simp
theorem run_checkKey {kt : TypeId} (hu : P.underlying kt = some d) (hd : keyD d = true) (b : Bool) (v : Value) : (Instr.checkKey b 10000 kt v).run P w = .ok () w := by
  unfold Instr.checkKey
  cases d <;> simp [keyD] at hd <;> simp [run_underlying hu]
theorem run_findKey {kt : TypeId} (hu : P.underlying kt = some d) (hk : KeyEnc d ek) (h : es.toList.map (fun e => (e.key, e.val)) = l.map (fun q => (ek q.1, ev q.2))) (k : α) :
    (Instr.findKey kt (ek k) es.toList).run P w = .ok ((l.findIdx? fun q => decide (q.1 = k)).bind fun j => (l[j]?).map fun q => (j, ev q.2)) w := by
  have hf := findNow_eq hk k es.toList l 0 h
  simp only [Nat.zero_add] at hf
  simp [Instr.findKey, run_underlying hu, hf]
theorem mp_heap {g : Nat} (hs : Sub (CH.mp g es clock) w) : w.heap[g]? = some (.map es clock) := (look_m (hs g 0 _ (CH.mp_at g es clock))).1
/-- A key looked up. -/
theorem Yl.lookup {env : Env} {ty t kt et : TypeId} {x y : Operand} {g : Nat} {p : CH} {ok : Bool} {z v : Value} (hR : MRow ek ev p g l) (hs : Sub p w) (ht : P.underlying t = some (.map kt et)) (hu : P.underlying kt = some d) (hd : keyD d = true) (hk : KeyEnc d ek) (hz : (P.info? et).map (·.zero) = some (some z)) (k : α)
    (hx : Go.WG.ev env x = .map (some g)) (hy : Go.WG.ev env y = ek k) (hv : (if ok = true then Value.tuple #[(match mget l k with | some b => ev b | none => z), .bool (mget l k).isSome] else (match mget l k with | some b => ev b | none => z)) = v) : Yl P env (.lookup t x y ok) ty w v w := by
  obtain ⟨es, clock, rfl, hM⟩ := hR
  obtain ⟨inf, hi, hz'⟩ := Option.map_eq_some_iff.1 hz
  have hh := mp_heap hs
  have hf := run_findKey (P := P) (w := w) hu hk hM.ent k
  have hc := run_checkKey (P := P) (w := w) hu hd es.isEmpty (ek k)
  have hobj : (getObj g).run P w = .ok (.map es clock) w := by simp [getObj, Sem.run, hh]
  subst hv
  show (execOp (Go.WG.ev env) _).run P w = _
  rw [mget_idx]
  simp only [execOp, hx, hy, Instr.lookup]
  simp [run_underlying ht, hobj, hc, hf]
  cases hj : l.findIdx? (fun q => decide (q.1 = k)) with
  | none => cases ok <;> simp [zeroValue, typeInfo, hi, hz']
  | some j =>
    have hlt : j < l.length := (List.findIdx?_eq_some_iff_getElem.1 hj).1
    cases ok <;> simp [List.getElem?_eq_getElem hlt]
theorem mget_none_iff (l : List (α × β)) (k : α) : mget l k = none ↔ l.findIdx? (fun q => decide (q.1 = k)) = none := by
  rw [mget_idx]
  cases h : l.findIdx? (fun q => decide (q.1 = k)) with
  | none => simp
  | some j =>
    have hlt : j < l.length := (List.findIdx?_eq_some_iff_getElem.1 h).1
    simp [List.getElem?_eq_getElem hlt]
theorem World.frozen_map {w : World} {g o : Nat} (h : w.heap[g]? = some (.map es clock)) : w.frozen? ⟨g, o, none⟩ = false := by
  unfold World.frozen?
  rw [h]
/-- A map's object turned. -/
theorem Mod.setObj {g : Nat} {es' : Array MapEntry} {clock' : Nat} (h : w.heap[g]? = some (.map es clock)) : Mod (fun b x => b = g ∧ x = 0) w { w with heap := w.heap.setIfInBounds g (.map es' clock') } := by
  have hg : g < w.heap.size := (Array.getElem?_eq_some_iff.1 h).1
  have hne : ∀ b, b ≠ g → (w.heap.setIfInBounds g (.map es' clock'))[b]? = w.heap[b]? := fun b hb => Array.getElem?_setIfInBounds_ne (Ne.symm hb)
  have heq : (w.heap.setIfInBounds g (.map es' clock'))[g]? = some (.map es' clock') := by rw [Array.getElem?_setIfInBounds_self]; simp [hg]
  refine ⟨rfl, rfl, rfl, by simp, fun b _ hn => hne b (fun e => hn 0 ⟨e, rfl⟩), fun b x _ hn => ?_, fun b x _ => ?_⟩
  · by_cases hb : b = g
    · subst hb
      have hx : ¬ x = 0 := fun e => hn ⟨rfl, e⟩
      unfold look
      simp only [heq, h, if_neg hx]
    · exact look_congr (hne b hb) x
  · by_cases hb : b = g
    · subst hb
      unfold World.frozen?
      simp only [heq, h]
    · unfold World.frozen?
      simp only [hne b hb]
end
section
variable {P : Program} {w0 w : World} {F0 F : CH} {D : Nat → Nat → Prop} {ps ps1 ps2 : List CH}
theorem Ctx.setMap {g : Nat} {es : Array MapEntry} {clock : Nat} (es' : Array MapEntry) (clock' : Nat) (C : Ctx w0 F0 D w F (ps1 ++ CH.mp g es clock :: ps2)) :
    Ctx w0 F0 D { w with heap := w.heap.setIfInBounds g (.map es' clock') } F (ps1 ++ CH.mp g es' clock' :: ps2) := by
  have hh := mp_heap (Ctx.sub_of ps1 ps2 C)
  have hg : g < w.heap.size := (Array.getElem?_eq_some_iff.1 hh).1
  have heq : (w.heap.setIfInBounds g (.map es' clock'))[g]? = some (.map es' clock') := by rw [Array.getElem?_setIfInBounds_self]; simp [hg]
  refine C.turn (g := g) (o := 0) (Mod.setObj hh) (CH.mp_at _ _ _) _ (CH.mp_at _ _ _) ⟨?_, World.frozen_map heq⟩ fun b x hn => ?_
  · unfold look
    simp only [heq, if_true]
  · unfold CH.mp
    rw [if_neg hn, if_neg hn]
theorem run_getMap {g : Nat} {es : Array MapEntry} {clock : Nat} (h : w.heap[g]? = some (.map es clock)) : (getObj g).run P w = .ok (.map es clock) w := by simp [getObj, Sem.run, h]
theorem run_setMap {g : Nat} {es : Array MapEntry} {clock : Nat} {o : Obj} (h : w.heap[g]? = some (.map es clock)) : (setObj g o).run P w = .ok () { w with heap := w.heap.setIfInBounds g o } := by simp [setObj, Sem.run, h]
theorem Ctx.allocMap (C : Ctx w0 F0 D w F ps) : Ctx w0 F0 D (w.alloc (.map #[] 0)) F (CH.mp w.heap.size #[] 0 :: ps) := by
  have hh : (w.alloc (.map #[] 0)).heap[w.heap.size]? = some (.map #[] 0) := heap_alloc_new w _
  have k : Ctx w F (domL []) (w.alloc (.map #[] 0)) F [CH.mp w.heap.size #[] 0] := by
    refine ⟨Mod.alloc _ _ _, CH.le_refl _, C.fro.mod (Mod.alloc (fun _ _ => False) _ _) (fun _ _ _ => id), fun g o hn => .inl hn, fun p hp => ?_, List.pairwise_singleton _ _⟩
    obtain rfl := List.mem_singleton.1 hp
    refine ⟨fun g o c hc => ?_, fun g o => ?_, fun g o hn => ?_⟩
    · obtain ⟨rfl, rfl, rfl⟩ := CH.mp_some hc
      refine ⟨?_, World.frozen_map hh⟩
      unfold look
      simp only [hh, if_true]
    · cases hv : CH.mp w.heap.size #[] 0 g o with
      | none => exact .inr rfl
      | some c =>
        obtain ⟨rfl, rfl, _⟩ := CH.mp_some hv
        left
        by_cases hF : F w.heap.size 0 = none
        · exact hF
        · have := C.fro.lt hF
          omega
    · cases hv : CH.mp w.heap.size #[] 0 g o with
      | none => exact absurd hv hn
      | some c =>
        obtain ⟨rfl, rfl, _⟩ := CH.mp_some hv
        exact .inr (Nat.le_refl _)
  exact C.call0 k
theorem ev_makeMap {α β : Type} (ek : α → Value) (ev' : β → Value) {t : TypeId} (C : Ctx w0 F0 D w F ps) :
    ∃ g p w', (∀ (env : Env) (ty : TypeId), Yl P env (.makeMap t none) ty w (.map (some g)) w') ∧ Ctx w0 F0 D w' F (p :: ps) ∧ MRow ek ev' p g ([] : List (α × β)) :=
  ⟨w.heap.size, _, w.alloc (.map #[] 0), fun env ty => by
    show (execOp (ev env) _).run P w = _
    simp [execOp, Instr.makeMap, newObj]
    rfl, C.allocMap, ⟨#[], 0, rfl, rfl, by simp, by simp, by simp⟩⟩
theorem nodup_idx {γ : Type} {l : List γ} (h : l.Nodup) {i j : Nat} {x : γ} (hi : l[i]? = some x) (hj : l[j]? = some x) : i = j := by
  obtain ⟨h1, h2⟩ := List.getElem?_eq_some_iff.1 hi
  obtain ⟨h3, h4⟩ := List.getElem?_eq_some_iff.1 hj
  rcases Nat.lt_trichotomy i j with hlt | heq | hgt
  · exact absurd (h2.trans h4.symm) (List.pairwise_iff_getElem.1 h i j h1 h3 hlt)
  · exact heq
  · exact absurd (h4.trans h2.symm) (List.pairwise_iff_getElem.1 h j i h3 h1 hgt)
theorem MEnt.modify {α β : Type} [DecidableEq α] {ek : α → Value} {ev' : β → Value} {es : Array MapEntry} {clock : Nat} {l : List (α × β)} (h : MEnt ek ev' es clock l) {j : Nat} {k : α} (v : β) (hj : l.findIdx? (fun q => decide (q.1 = k)) = some j) :
    MEnt ek ev' (es.modify j fun e => { e with key := ek k, val := ev' v }) clock (mset l k v) := by
  obtain ⟨hlt, hjk, _⟩ := List.findIdx?_eq_some_iff_getElem.1 hj
  have hjk' : l[j].1 = k := of_decide_eq_true hjk
  have hsome : (mget l k).isSome = true := by rw [mget_idx, hj]; simp [List.getElem?_eq_getElem hlt]
  have hlen : es.toList.length = l.length := by have := congrArg List.length h.ent; simpa using this
  have hset : mset l k v = l.map fun q => if q.1 = k then (k, v) else q := by unfold mset; rw [if_pos hsome]
  have hb : ((es.modify j fun e => { e with key := ek k, val := ev' v }).toList.map (·.born)) = es.toList.map (·.born) := by
    apply List.ext_getElem?
    intro i
    simp only [List.getElem?_map, Array.getElem?_toList, Array.getElem?_modify]
    split
    · cases es[i]? <;> rfl
    · rfl
  have hkeys : (mset l k v).map (·.1) = l.map (·.1) := by
    rw [hset, List.map_map]
    refine List.map_congr_left fun q _ => ?_
    simp only [Function.comp]
    split
    · rename_i hq; exact hq.symm
    · rfl
  refine ⟨?_, fun e he => ?_, by rw [hb]; exact h.uniq, by rw [hkeys]; exact h.keys⟩
  · rw [hset]
    apply List.ext_getElem?
    intro i
    have hi := congrArg (fun z => z[i]?) h.ent
    simp only [List.getElem?_map, Array.getElem?_toList] at hi
    simp only [List.getElem?_map, Array.getElem?_toList, Array.getElem?_modify]
    by_cases hij : j = i
    · subst hij
      rw [if_pos rfl, List.getElem?_eq_getElem hlt]
      rw [List.getElem?_eq_getElem hlt] at hi
      cases he : es[j]? with
      | none => rw [he] at hi; simp at hi
      | some e => simp [hjk']
    · rw [if_neg hij, hi]
      cases hq : l[i]? with
      | none => rfl
      | some q =>
        simp only [Option.map_some]
        have : ¬ q.1 = k := fun e => hij (nodup_idx h.keys (x := k) (by simp [List.getElem?_eq_getElem hlt, hjk']) (by simp [hq, e]))
        rw [if_neg this]
  · have : e.born ∈ ((es.modify j fun e => { e with key := ek k, val := ev' v }).toList.map (·.born)) := List.mem_map.2 ⟨e, he, rfl⟩
    rw [hb] at this
    obtain ⟨e', he', hbb⟩ := List.mem_map.1 this
    rw [← hbb]
    exact h.born e' he'
theorem MEnt.push {α β : Type} [DecidableEq α] {ek : α → Value} {ev' : β → Value} {es : Array MapEntry} {clock : Nat} {l : List (α × β)} (h : MEnt ek ev' es clock l) {k : α} (v : β) (hj : l.findIdx? (fun q => decide (q.1 = k)) = none) :
    MEnt ek ev' (es.push { key := ek k, val := ev' v, born := clock }) (clock + 1) (l ++ [(k, v)]) := by
  refine ⟨by simp [h.ent], fun e he => ?_, ?_, ?_⟩
  · rw [Array.toList_push] at he
    rcases List.mem_append.1 he with he | he
    · have := h.born e he; omega
    · rw [List.mem_singleton.1 he]; exact Nat.lt_succ_self _
  · rw [Array.toList_push, List.map_append, List.map_cons, List.map_nil]
    refine List.nodup_append.2 ⟨h.uniq, by simp, fun a ha b hb => ?_⟩
    rw [List.mem_singleton.1 hb]
    obtain ⟨e, he, rfl⟩ := List.mem_map.1 ha
    exact Nat.ne_of_lt (h.born e he)
  · rw [List.map_append, List.map_cons, List.map_nil]
    refine List.nodup_append.2 ⟨h.keys, by simp, fun a ha b hb => ?_⟩
    rw [List.mem_singleton.1 hb]
    obtain ⟨q, hq, rfl⟩ := List.mem_map.1 ha
    have := List.findIdx?_eq_none_iff.1 hj q hq
    simpa using this
/-- m[k] = v. -/
theorem ev_mapUpdate {α β : Type} [DecidableEq α] {ek : α → Value} {ev' : β → Value} {l : List (α × β)} {d : TypeDesc} {t kt et : TypeId} {g : Nat} {p : CH} (k : α) (v : β) (C : Ctx w0 F0 D w F (ps1 ++ p :: ps2)) (hR : MRow ek ev' p g l) (ht : P.underlying t = some (.map kt et)) (hu : P.underlying kt = some d) (hd : keyD d = true) (hk : KeyEnc d ek) :
    ∃ p' w', (∀ (env : Env) (ty : TypeId) (x y z : Operand), ev env x = .map (some g) → ev env y = ek k → ev env z = ev' v → Yskip P env (.mapUpdate t x y z) ty w w') ∧ Ctx w0 F0 D w' F (ps1 ++ p' :: ps2) ∧ MRow ek ev' p' g (mset l k v) := by
  obtain ⟨es, clock, rfl, hM⟩ := hR
  have hh := mp_heap (Ctx.sub_of ps1 ps2 C)
  have hf := run_findKey (P := P) (w := w) hu hk hM.ent k
  have hc := run_checkKey (P := P) (w := w) hu hd false (ek k)
  cases hj : l.findIdx? (fun q => decide (q.1 = k)) with
  | none =>
    have hset : mset l k v = l ++ [(k, v)] := by unfold mset; rw [(mget_none_iff l k).2 hj]; rfl
    refine ⟨_, _, fun env ty x y z hx hy hz => ?_, C.setMap (es.push { key := ek k, val := ev' v, born := clock }) (clock + 1), ⟨_, _, rfl, by rw [hset]; exact hM.push v hj⟩⟩
    show (execOp (ev env) _).run P w = _
    simp only [execOp, hx, hy, hz, Instr.mapUpdate]
    simp [run_underlying ht, run_getMap hh, hc, hf, hj, run_setMap hh]
  | some j =>
    have hlt : j < l.length := (List.findIdx?_eq_some_iff_getElem.1 hj).1
    have hjk : l[j].1 = k := of_decide_eq_true (List.findIdx?_eq_some_iff_getElem.1 hj).2.1
    have hkey : ((es[j]?).map (·.key)).getD (ek k) = ek k := by
      have hi := congrArg (fun z => z[j]?) hM.ent
      simp only [List.getElem?_map, Array.getElem?_toList, List.getElem?_eq_getElem hlt, Option.map_some, hjk] at hi
      cases he : es[j]? with
      | none => rfl
      | some e =>
        rw [he] at hi
        simp only [Option.map_some, Option.some.injEq, Prod.mk.injEq] at hi
        simp [hi.1]
    refine ⟨_, _, fun env ty x y z hx hy hz => ?_, C.setMap (es.modify j fun e => { e with key := ek k, val := ev' v }) clock, ⟨_, _, rfl, hM.modify v hj⟩⟩
    show (execOp (ev env) _).run P w = _
    simp only [execOp, hx, hy, hz, Instr.mapUpdate]
    simp [run_underlying ht, run_getMap hh, hc, hf, hj, List.getElem?_eq_getElem hlt, Instr.keyThatStays, hkey, hk.bits, run_setMap hh]
theorem mdel_erase {α β : Type} [DecidableEq α] {k : α} : ∀ {l : List (α × β)} {j : Nat}, (l.map (·.1)).Nodup → l.findIdx? (fun q => decide (q.1 = k)) = some j → mdel l k = l.eraseIdx j
  | [], j, _, h => by simp at h
  | q :: l, j, hn, h => by
    rw [List.map_cons, List.nodup_cons] at hn
    rw [List.findIdx?_cons] at h
    by_cases hq : q.1 = k
    · rw [decide_eq_true hq, if_pos rfl] at h
      injection h with h
      subst h
      unfold mdel
      rw [List.filter_cons_of_neg (by simp [hq]), List.eraseIdx_cons_zero, List.filter_eq_self]
      intro p hp
      refine decide_eq_true fun hpk => hn.1 ?_
      rw [hq, ← hpk]
      exact List.mem_map.2 ⟨p, hp, rfl⟩
    · rw [decide_eq_false hq] at h
      simp only [Bool.false_eq_true, if_false, Option.map_eq_some_iff] at h
      obtain ⟨i, hi, rfl⟩ := h
      have ih := mdel_erase hn.2 hi
      unfold mdel at ih ⊢
      rw [List.filter_cons_of_pos (by simp [hq]), ih, List.eraseIdx_cons_succ]
theorem mdel_none {α β : Type} [DecidableEq α] {k : α} {l : List (α × β)} (h : l.findIdx? (fun q => decide (q.1 = k)) = none) : mdel l k = l := by
  unfold mdel
  rw [List.filter_eq_self]
  intro q hq
  have := List.findIdx?_eq_none_iff.1 h q hq
  simpa using this
theorem map_eraseIdx' {γ δ : Type} (f : γ → δ) : ∀ (l : List γ) (j : Nat), (l.eraseIdx j).map f = (l.map f).eraseIdx j
  | [], _ => rfl
  | _ :: _, 0 => rfl
  | a :: l, j + 1 => by rw [List.eraseIdx_cons_succ, List.map_cons, List.map_cons, List.eraseIdx_cons_succ, map_eraseIdx' f l j]
theorem MEnt.erase {α β : Type} [DecidableEq α] {ek : α → Value} {ev' : β → Value} {es : Array MapEntry} {clock : Nat} {l : List (α × β)} (h : MEnt ek ev' es clock l) {j : Nat} {k : α} (hj : l.findIdx? (fun q => decide (q.1 = k)) = some j) :
    MEnt ek ev' (es.eraseIdxIfInBounds j) clock (mdel l k) := by
  have hlt := (List.findIdx?_eq_some_iff_getElem.1 hj).1
  have hlen : es.toList.length = l.length := by have := congrArg List.length h.ent; simpa using this
  have hes : (es.eraseIdxIfInBounds j).toList = es.toList.eraseIdx j := by
    unfold Array.eraseIdxIfInBounds
    rw [dif_pos (by rw [← Array.length_toList]; omega), Array.toList_eraseIdx]
  rw [mdel_erase h.keys hj]
  refine ⟨by rw [hes, map_eraseIdx', h.ent, map_eraseIdx'], fun e he => h.born e (by rw [hes] at he; exact List.mem_of_mem_eraseIdx he), ?_, ?_⟩
  · rw [hes, map_eraseIdx']
    exact h.uniq.sublist (List.eraseIdx_sublist ..)
  · rw [map_eraseIdx']
    exact h.keys.sublist (List.eraseIdx_sublist ..)
theorem setMap_same {g : Nat} {es : Array MapEntry} {clock : Nat} (h : w.heap[g]? = some (.map es clock)) : ({ w with heap := w.heap.setIfInBounds g (.map es clock) } : World) = w := by
  have : w.heap.setIfInBounds g (.map es clock) = w.heap := by
    apply Array.ext_getElem?
    intro i
    rw [Array.getElem?_setIfInBounds]
    split
    · rename_i hi
      subst hi
      split
      · exact h.symm
      · rename_i hn
        rw [Array.getElem?_eq_none (by omega)] at h
        cases h
    · rfl
  rw [this]
/-- delete(m, k). -/
theorem ev_delete {α β : Type} [DecidableEq α] {ek : α → Value} {ev' : β → Value} {l : List (α × β)} {d : TypeDesc} {t kt et u : TypeId} {g : Nat} {p : CH} (k : α) (C : Ctx w0 F0 D w F (ps1 ++ p :: ps2)) (hR : MRow ek ev' p g l) (ht : P.underlying t = some (.map kt et)) (hu : P.underlying kt = some d) (hd : keyD d = true) (hk : KeyEnc d ek) :
    ∃ p' w', (∀ (env : Env) (ty : TypeId) (x y : Operand), ev env x = .map (some g) → ev env y = ek k → Yl P env (.call { callee := .builtin .delete, args := #[x, y], argTypes := #[t, u] }) ty w (.tuple #[]) w') ∧ Ctx w0 F0 D w' F (ps1 ++ p' :: ps2) ∧ MRow ek ev' p' g (mdel l k) := by
  obtain ⟨es, clock, rfl, hM⟩ := hR
  have hh := mp_heap (Ctx.sub_of ps1 ps2 C)
  have hf := run_findKey (P := P) (w := w) hu hk hM.ent k
  have hc := run_checkKey (P := P) (w := w) hu hd es.isEmpty (ek k)
  cases hj : l.findIdx? (fun q => decide (q.1 = k)) with
  | none =>
    refine ⟨_, _, fun env ty x y hx hy => ?_, C.setMap es clock, ⟨_, _, rfl, by rw [mdel_none hj]; exact hM⟩⟩
    show (execOp (ev env) _).run P w = _
    simp only [execOp, resolve, invoke, builtin]
    simp [hx, hy, Builtin.delete_, run_underlying ht, run_getMap hh, hc, hf, hj, run_setMap hh]
  | some j =>
    have hlt : j < l.length := (List.findIdx?_eq_some_iff_getElem.1 hj).1
    refine ⟨_, _, fun env ty x y hx hy => ?_, C.setMap (es.eraseIdxIfInBounds j) clock, ⟨_, _, rfl, hM.erase hj⟩⟩
    show (execOp (ev env) _).run P w = _
    simp only [execOp, resolve, invoke, builtin]
    simp [hx, hy, Builtin.delete_, run_underlying ht, run_getMap hh, hc, hf, hj, List.getElem?_eq_getElem hlt, run_setMap hh]
/-- What an entry's stamp tells. -/
def Stamp {α : Type} (ek : α → Value) (p : CH) (g : Nat) (k : α) (b : Int) : Prop := ∃ es clock, p = CH.mp g es clock ∧ ∃ (j : Nat) (e : MapEntry), es[j]? = some e ∧ e.key = ek k ∧ b = (e.born : Int)
/-- An entry made sure of: m[k] as it stands, or the zero value put there. -/
theorem ev_mapEntry {α β : Type} [DecidableEq α] {ek : α → Value} {ev' : β → Value} {l : List (α × β)} {d : TypeDesc} {t kt et : TypeId} {g : Nat} {p : CH} {z : Value} (k : α) (z0 : β) (C : Ctx w0 F0 D w F (ps1 ++ p :: ps2)) (hR : MRow ek ev' p g l) (ht : P.underlying t = some (.map kt et)) (hu : P.underlying kt = some d) (hd : keyD d = true) (hk : KeyEnc d ek) (hz : (P.info? et).map (·.zero) = some (some z)) (hz0 : z = ev' z0) :
    ∃ p' w' v b, (∀ (env : Env) (ty : TypeId) (x y : Operand), ev env x = .map (some g) → ev env y = ek k → Yl P env (.mapEntry t x y) ty w (.tuple #[v, .int .i64 b]) w') ∧ Ctx w0 F0 D w' F (ps1 ++ p' :: ps2) ∧ MRow ek ev' p' g (mset l k ((mget l k).getD z0)) ∧ Stamp ek p' g k b := by
  obtain ⟨es, clock, rfl, hM⟩ := hR
  obtain ⟨inf, hi, hz'⟩ := Option.map_eq_some_iff.1 hz
  subst hz0
  have hh := mp_heap (Ctx.sub_of ps1 ps2 C)
  have hf := run_findKey (P := P) (w := w) hu hk hM.ent k
  have hc := run_checkKey (P := P) (w := w) hu hd false (ek k)
  cases hj : l.findIdx? (fun q => decide (q.1 = k)) with
  | none =>
    have hg : mget l k = none := (mget_none_iff l k).2 hj
    have hset : mset l k ((mget l k).getD z0) = l ++ [(k, z0)] := by unfold mset; rw [hg]; rfl
    refine ⟨_, _, ev' z0, (clock : Int), fun env ty x y hx hy => ?_, C.setMap (es.push { key := ek k, val := ev' z0, born := clock }) (clock + 1), ⟨_, _, rfl, by rw [hset]; exact hM.push z0 hj⟩, ⟨_, _, rfl, es.size, _, by rw [Array.getElem?_push_size], rfl, rfl⟩⟩
    show (execOp (ev env) _).run P w = _
    simp only [execOp, hx, hy, Instr.mapEntry]
    simp [run_underlying ht, run_getMap hh, hc, hf, hj, run_setMap hh, zeroValue, typeInfo, hi, hz', goInt]
  | some j =>
    have hlt : j < l.length := (List.findIdx?_eq_some_iff_getElem.1 hj).1
    have hjk : l[j].1 = k := of_decide_eq_true (List.findIdx?_eq_some_iff_getElem.1 hj).2.1
    have hg : mget l k = some l[j].2 := by rw [mget_idx, hj]; simp [List.getElem?_eq_getElem hlt]
    have hi' := congrArg (fun z => z[j]?) hM.ent
    simp only [List.getElem?_map, Array.getElem?_toList, List.getElem?_eq_getElem hlt, Option.map_some, hjk] at hi'
    obtain ⟨e, he, hee⟩ := Option.map_eq_some_iff.1 hi'
    injection hee with he1 he2
    have hmod : (es.modify j fun e => { e with key := ek k }) = es.modify j fun e => { e with key := ek k, val := ev' l[j].2 } := by
      apply Array.ext_getElem?
      intro i
      rw [Array.getElem?_modify, Array.getElem?_modify]
      split
      · rename_i hij
        subst hij
        rw [he]
        simp [he2]
      · rfl
    refine ⟨_, _, ev' l[j].2, (e.born : Int), fun env ty x y hx hy => ?_, C.setMap (es.modify j fun e => { e with key := ek k }) clock, ⟨_, _, rfl, by rw [hmod, hg, Option.getD_some]; exact hM.modify l[j].2 hj⟩, ⟨_, _, rfl, j, { e with key := ek k }, by rw [Array.getElem?_modify, if_pos rfl, he]; rfl, rfl, rfl⟩⟩
    show (execOp (ev env) _).run P w = _
    simp only [execOp, hx, hy, Instr.mapEntry]
    simp [run_underlying ht, run_getMap hh, hc, hf, hj, List.getElem?_eq_getElem hlt, Instr.keyThatStays, he, he1, hk.bits, run_setMap hh, goInt]
/-- The entry's value turned. -/
theorem ev_entryStore {α β : Type} [DecidableEq α] {ek : α → Value} {ev' : β → Value} {l : List (α × β)} {d : TypeDesc} {t : TypeId} {g : Nat} {p : CH} {b : Int} (k : α) (v : β) (C : Ctx w0 F0 D w F (ps1 ++ p :: ps2)) (hR : MRow ek ev' p g l) (hS : Stamp ek p g k b) (hk : KeyEnc d ek) :
    ∃ p' w', (∀ (env : Env) (ty : TypeId) (x y z : Operand), ev env x = .map (some g) → ev env y = .int .i64 b → ev env z = ev' v → Yskip P env (.entryStore t x y z) ty w w') ∧ Ctx w0 F0 D w' F (ps1 ++ p' :: ps2) ∧ MRow ek ev' p' g (mset l k v) := by
  obtain ⟨es, clock, rfl, hM⟩ := hR
  obtain ⟨es', clock', hp, j, e, he, hek, rfl⟩ := hS
  have hpe : es = es' ∧ clock = clock' := by
    have h1 := congrFun (congrFun hp g) 0
    rw [CH.mp_at, CH.mp_at] at h1
    injection h1 with h1
    injection h1 with h1 h2
    exact ⟨h1, h2⟩
  obtain ⟨rfl, rfl⟩ := hpe
  have hh := mp_heap (Ctx.sub_of ps1 ps2 C)
  have hi' := congrArg (fun z => z[j]?) hM.ent
  simp only [List.getElem?_map, Array.getElem?_toList, he, Option.map_some] at hi'
  obtain ⟨q, hq, hqe⟩ := Option.map_eq_some_iff.1 hi'.symm
  injection hqe with hq1 hq2
  have hqk : q.1 = k := by
    have h1 := hk.now q.1 k
    rw [hq1, hek] at h1
    have h2 := hk.now k k
    rw [h2] at h1
    simpa using h1.symm
  have hlt : j < l.length := (List.getElem?_eq_some_iff.1 hq).1
  have hlj : l[j] = q := (List.getElem?_eq_some_iff.1 hq).2
  have hj : l.findIdx? (fun q => decide (q.1 = k)) = some j := by
    refine List.findIdx?_eq_some_iff_getElem.2 ⟨hlt, by rw [hlj]; exact decide_eq_true hqk, fun i hi => ?_⟩
    intro hd
    have hik : (l[i]'(by omega)).1 = k := of_decide_eq_true hd
    have := nodup_idx hM.keys (i := i) (j := j) (x := k) (by simp [List.getElem?_eq_getElem (show i < l.length by omega), hik]) (by simp [hq, hqk])
    omega
  have hfind : es.findIdx? (fun x => (x.born : Int) == (e.born : Int)) = some j := by
    rw [Array.findIdx?_eq_some_iff_getElem]
    obtain ⟨hjs, hje⟩ := Array.getElem?_eq_some_iff.1 he
    refine ⟨hjs, by rw [hje]; simp, fun i hi => ?_⟩
    intro hd
    have hb : (es[i]'(by omega)).born = e.born := Int.ofNat_inj.1 (by simpa using hd)
    have := nodup_idx hM.uniq (i := i) (j := j) (x := e.born) (by simp [Array.getElem?_eq_getElem (show i < es.size by omega), hb]) (by simp [he])
    omega
  have hmod : (es.modify j fun e => { e with val := ev' v }) = es.modify j fun e => { e with key := ek k, val := ev' v } := by
    apply Array.ext_getElem?
    intro i
    rw [Array.getElem?_modify, Array.getElem?_modify]
    split
    · rename_i hij
      subst hij
      rw [he]
      simp [hek]
    · rfl
  refine ⟨_, _, fun env ty x y z hx hy hz => ?_, C.setMap (es.modify j fun e => { e with val := ev' v }) clock, ⟨_, _, rfl, by rw [hmod]; exact hM.modify v hj⟩⟩
  show (execOp (ev env) _).run P w = _
  simp only [execOp, hx, hy, hz, Instr.entryStore]
  simp [run_getMap hh, asInt, asIntOf, hfind, run_setMap hh]
end
end Go.WG
namespace Go.WG
section
variable {P : Program} {env : Env} {w w' : World} {ty t t' e : TypeId} {x y : Operand} {a b : Addr} {v : Value}
theorem run_ptrEq {n : Nat} {p q : Option Addr} (hn : p = none ∨ q = none) (hu : P.underlying t = some (.pointer e)) : (Op.equalIn (n + 1) t (.pointer p) (.pointer q)).run P w = .ok (decide (p = q)) w := by
  unfold Op.equalIn
  rcases hn with rfl | rfl
  · cases q <;> simp [run_underlying hu]
  · cases p <;> simp [run_underlying hu]
theorem run_ptrGuard {op : BinOp} {p q : Option Addr} (_hu : P.underlying t = some (.pointer e)) : (eqGuard op t x y (.pointer p) (.pointer q)).run P w = .ok () w := by
  unfold eqGuard
  cases op <;> rfl
theorem Yl.ptrG {op : BinOp} {p q : Option Addr} {r : Bool} (ho : op = .eql ∨ op = .neq) (hx : ev env x = .pointer p) (hy : ev env y = .pointer q) (hn : p = none ∨ q = none) (hu : P.underlying t = some (.pointer e)) (hr : (if op = .eql then decide (p = q) else !decide (p = q)) = r) : Yl P env (.binOp op t x y t') ty w (.bool r) w := by
  show (execOp (ev env) _).run P w = _
  subst hr
  have h1 : (Op.equal t (.pointer p) (.pointer q)).run P w = .ok (decide (p = q)) w := run_ptrEq (n := 9999) hn hu
  have h2 := run_ptrGuard (P := P) (w := w) (op := op) (x := x) (y := y) (p := p) (q := q) hu
  rcases ho with rfl | rfl
  · simp [execOp, hx, hy, h2, binOp, h1]
  · simp [execOp, hx, hy, h2, binOp, h1]
theorem Yl.ptrEqNN (hx : ev env x = .pointer none) (hy : ev env y = .pointer none) (hu : P.underlying t = some (.pointer e)) : Yl P env (.binOp .eql t x y t') ty w (.bool true) w := Yl.ptrG (.inl rfl) hx hy (.inl rfl) hu (by simp)
theorem Yl.ptrNeNN (hx : ev env x = .pointer none) (hy : ev env y = .pointer none) (hu : P.underlying t = some (.pointer e)) : Yl P env (.binOp .neq t x y t') ty w (.bool false) w := Yl.ptrG (.inr rfl) hx hy (.inl rfl) hu (by simp)
theorem Yl.ptrEqSN (hx : ev env x = .pointer (some a)) (hy : ev env y = .pointer none) (hu : P.underlying t = some (.pointer e)) : Yl P env (.binOp .eql t x y t') ty w (.bool false) w := Yl.ptrG (.inl rfl) hx hy (.inr rfl) hu (by simp)
theorem Yl.ptrNeSN (hx : ev env x = .pointer (some a)) (hy : ev env y = .pointer none) (hu : P.underlying t = some (.pointer e)) : Yl P env (.binOp .neq t x y t') ty w (.bool true) w := Yl.ptrG (.inr rfl) hx hy (.inr rfl) hu (by simp)
end
section
variable {P : Program} {w0 w : World} {F0 F : CH} {D : Nat → Nat → Prop} {ps : List CH}
theorem ev_box (e : TypeId) (v : Value) (cs : List Value) (C : Ctx w0 F0 D w F ps) (hc : v.cells = cs.toArray) :
    ∃ g w', (∀ (env : Env) (ty : TypeId) (x : Operand), ev env x = v → Yl P env (.box e x) ty w (.pointer (some ⟨g, 0, none⟩)) w') ∧ Ctx w0 F0 D w' F (CH.row g 0 cs :: ps) := by
  refine ⟨w.heap.size, w.alloc (.cells cs.toArray e), fun env ty x hx => ?_, by simpa using C.alloc cs.toArray e⟩
  show (execOp (ev env) _).run P w = _
  simp [execOp, hx, Instr.box, newVar, newRow, hc]
end
section
variable {P : Program} {ops : Array Oper} {Q : Exit → Env → World → Prop} {env : Env} {w w' : World} {rest : List Oper} {op : Op} {ty : TypeId} {pos : String} {aft : Array Edge} {v : Value} {N : Nat} {Ms : List (List Nat × CH)} {R : Env → World → Prop} {fuel : Nat} {listed : Array Bool}
theorem WL.valN (h : Yl P env op ty w v w') (k : WL P ops Q rest env w') : WL P ops Q (⟨none, op, ty, pos, aft, none⟩ :: rest) env w := by
  unfold WL
  rw [if_pos (wanted_none _ rfl _)]
  exact .inl ⟨v, w', by rw [execOp_bare]; exact h, k⟩
theorem Up.valN {i : Nat} {L : Array Bool} (hi : ops[i]? = some ⟨none, op, ty, pos, aft, none⟩) (hl : listed.setIfInBounds i true = L)
    (hy : Yl P env op ty w v w') (hs : SLc Ms i listed w') (h : WA P N ops Ms R fuel L env w') : Up P N ops Ms R fuel listed env w i :=
  ⟨_, hi, rfl, wanted_none _ rfl _, .inl ⟨v, w', by rw [execOp_bare]; exact hy, hs, hl ▸ h⟩⟩
end
end Go.WG
namespace Go.WG
/-- What a function's results are, in slots or in memory. -/
inductive RE (P : Program) (env : Env) (w : World) : List ResultVar → List Value → Prop
  | nil : RE P env w [] []
  | tmp {t : Nat} {v : Value} {rs : List ResultVar} {vs : List Value} (h : env t = v) (k : RE P env w rs vs) : RE P env w (.tmp t :: rs) (v :: vs)
  | cell {a : Nat} {t : TypeId} {ad : Addr} {v : Value} {rs : List ResultVar} {vs : List Value} (h : env a = .pointer (some ad)) (hl : (loadVar t ad).run P w = .ok v w) (k : RE P env w rs vs) : RE P env w (.cell a t :: rs) (v :: vs)
def resF (env : Env) : ResultVar → Sem Value
  | .tmp t => pure (env t)
  | .cell x t => do loadVar t (← asAddr (env x))
theorem RE.run {P : Program} {env : Env} {w : World} {rs : List ResultVar} {vs : List Value} (h : RE P env w rs vs) : (rs.mapM (resF env)).run P w = .ok vs w := by
  induction h with
  | nil => rfl
  | tmp h k ih => simp [List.mapM_cons, resF, h, ih]
  | cell h hl k ih => simp [List.mapM_cons, resF, h, asAddr, hl, ih]
theorem run_results {P : Program} {fn : Func} {N : Nat} {env : Env} {w : World} {rs : List ResultVar} {vs : List Value} (hr : fn.results = rs.toArray) (h : RE P env w rs vs) (a : Act) (ha : Frm N env a) :
    (results fn a.tmps).run P w = .ok (if h : vs.toArray.size = 1 then vs.toArray[0] else .tuple vs.toArray) w := by
  have hf : (fun (r : ResultVar) => match r with
      | .tmp t => (pure (a.tmps.getD t undef) : Sem Value)
      | .cell x t => do loadVar t (← asAddr (a.tmps.getD x undef))) = resF env := by
    funext r
    cases r <;> simp only [resF, ha.get]
  unfold results
  rw [hr, Array.mapM_eq_mapM_toList]
  erw [hf]
  simp [h.run]
theorem resET {P : Program} {fn : Func} {env : Env} {w : World} {rs : List ResultVar} {vs : List Value} (hr : fn.results = rs.toArray) (h : RE P env w rs vs) (hl : Nat.beq vs.length 1 = false) : resE fn env w P (.tuple vs.toArray) := fun a ha => by
  have h2 : ¬ vs.length = 1 := fun e => by rw [e] at hl; cases hl
  rw [run_results hr h a ha, dif_neg (by simpa using h2)]
theorem resEC {P : Program} {fn : Func} {env : Env} {w : World} {rs : List ResultVar} {v : Value} (hr : fn.results = rs.toArray) (h : RE P env w rs [v]) : resE fn env w P v := fun a ha => by
  rw [run_results hr h a ha]
  rfl
end Go.WG
namespace Go.WG
theorem run_loadVA2 {P : Program} {w : World} {t : TypeId} {d : TypeDesc} {g off o : Nat} {cs us : List Value} (hu : P.underlying t = some d) (hd : aggD d = true) (hsz : (P.info? t).map (·.size) = some us.length) (hs : Sub (CH.row g off cs) w) (hc : (cs.drop o).take us.length = us) : (loadVar t ⟨g, off + o, none⟩).run P w = .ok (.agg us.toArray) w :=
  run_loadVar_agg hu hd _ us hsz fun j v hj => by
    rw [add_of, Nat.add_assoc]
    refine hs.cell (CH.row_get ?_)
    rw [← hc, List.getElem?_take] at hj
    split at hj
    · rwa [List.getElem?_drop] at hj
    · cases hj
end Go.WG
namespace Go.WG
section
variable {P : Program} {ops : Array Oper} {env : Env} {w w' : World} {op : Op} {ty : TypeId} {pos : String} {aft : Array Edge} {v : Value} {N : Nat} {Ms : List (List Nat × CH)} {R : Env → World → Prop} {fuel : Nat} {listed : Array Bool} {i j x d : Nat} {b : Bool} {L : Array Bool} {dst : Option Nat}
theorem Up.valG (hi : ops[i]? = some ⟨some d, op, ty, pos, aft, some (j, b)⟩) (hj : (ops[j]?).bind (·.dst) = some x) (hx : env x = .bool b) (hd : Nat.blt d N = true) (hl : listed.setIfInBounds i true = L)
    (hy : Yl P env op ty w v w') (hs : SLc Ms i listed w') (h : WA P N ops Ms R fuel L (upd env d v) w') : Up P N ops Ms R fuel listed env w i :=
  Up.on hi hj hx (by simpa [dstOk] using hd) (.inl ⟨v, w', by rw [execOp_bare]; exact hy, hs, hl ▸ h⟩)
theorem Up.skipG (hi : ops[i]? = some ⟨none, op, ty, pos, aft, some (j, b)⟩) (hj : (ops[j]?).bind (·.dst) = some x) (hx : env x = .bool b) (hl : listed.setIfInBounds i true = L)
    (hy : Yskip P env op ty w w') (hs : SLc Ms i listed w') (h : WA P N ops Ms R fuel L env w') : Up P N ops Ms R fuel listed env w i :=
  Up.on hi hj hx rfl (.inr (.inl ⟨w', by rw [execOp_bare]; exact hy, hs, hl ▸ h⟩))
theorem Up.callG (hi : ops[i]? = some ⟨dst, op, ty, pos, aft, some (j, b)⟩) (hj : (ops[j]?).bind (·.dst) = some x) (hx : env x = .bool b) (hd : dstOk N ⟨dst, op, ty, pos, aft, none⟩ = true) (hl : listed.setIfInBounds i true = L)
    {f : FuncId} {args : Array Value} (he : Yenter P env op ty w f args) {R' : Ending → World → Prop} (hc : Calls P f args w R')
    (h : ∀ e w', R' e w' → ∃ v, e = .returned v ∧ SLc Ms i listed w' ∧ WA P N ops Ms R fuel L (putE env dst v) w') : Up P N ops Ms R fuel listed env w i :=
  Up.on hi hj hx hd (.inr (.inr ⟨f, args, w, by rw [execOp_bare]; exact he, hc.mono (hl ▸ h)⟩))
end
end Go.WG
