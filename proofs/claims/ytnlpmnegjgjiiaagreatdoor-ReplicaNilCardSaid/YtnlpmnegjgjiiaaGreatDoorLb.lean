/- Memory as partial heaps of cells: what is frozen (only read from here on), what is owned (rows and variables of the call's own), what a call may turn. -/
import Derived.Test.YtnlpmnegjgjiiaaGreatDoorLa
namespace Go.WG
open Go.RowKit

/-- What stands at a place: a value, or a whole map. -/
inductive Cell where
  | v (x : Value)
  | m (es : Array MapEntry) (clock : Nat)
abbrev CH := Nat → Nat → Option Cell
namespace CH
def le (a b : CH) : Prop := ∀ g o v, a g o = some v → b g o = some v
def dis (a b : CH) : Prop := ∀ g o, a g o = none ∨ b g o = none
def join (a b : CH) : CH := fun g o => match a g o with | some v => some v | none => b g o
def emp : CH := fun _ _ => none
def row (g off : Nat) (cs : List Value) : CH := fun b o => if b = g ∧ off ≤ o then (cs[o - off]?).map Cell.v else none
def mp (g : Nat) (es : Array MapEntry) (clock : Nat) : CH := fun b o => if b = g ∧ o = 0 then some (.m es clock) else none
theorem mp_at (g : Nat) (es : Array MapEntry) (clock : Nat) : mp g es clock g 0 = some (.m es clock) := by unfold mp; rw [if_pos ⟨rfl, rfl⟩]
theorem mp_some {g b o : Nat} {es : Array MapEntry} {clock : Nat} {c : Cell} (h : mp g es clock b o = some c) : b = g ∧ o = 0 ∧ c = .m es clock := by
  unfold mp at h
  split at h
  · rename_i hc
    injection h with h
    exact ⟨hc.1, hc.2, h.symm⟩
  · cases h
theorem le_refl (a : CH) : le a a := fun _ _ _ h => h
theorem le_trans {a b c : CH} (h : le a b) (k : le b c) : le a c := fun g o v hv => k g o v (h g o v hv)
theorem le_joinL (a b : CH) : le a (join a b) := fun g o v h => by unfold join; rw [h]
theorem le_joinR {a b : CH} (hd : dis a b) : le b (join a b) := fun g o v h => by
  unfold join
  rcases hd g o with h0 | h0
  · rw [h0]; exact h
  · rw [h0] at h; cases h
theorem join_le {a b c : CH} (h : le a c) (k : le b c) : le (join a b) c := fun g o v hv => by
  unfold join at hv
  cases ha : a g o with
  | some u => rw [ha] at hv; exact h g o v (by rw [ha]; exact hv)
  | none => rw [ha] at hv; exact k g o v hv
theorem dis_symm {a b : CH} (h : dis a b) : dis b a := fun g o => (h g o).symm
theorem join_none {a b : CH} {g o : Nat} (h : join a b g o ≠ none) : a g o ≠ none ∨ b g o ≠ none := by
  unfold join at h
  cases ha : a g o with
  | some u => exact .inl (by simp)
  | none => rw [ha] at h; exact .inr h
theorem dis_join {a b c : CH} (h : dis a c) (k : dis b c) : dis (join a b) c := fun g o => by
  rcases h g o with h0 | h0
  · rcases k g o with k0 | k0
    · left; unfold join; rw [h0]; exact k0
    · exact .inr k0
  · exact .inr h0
theorem emp_dis (a : CH) : dis emp a := fun _ _ => .inl rfl
theorem dis_emp (a : CH) : dis a emp := fun _ _ => .inr rfl
theorem row_at {g off : Nat} {cs : List Value} (k : Nat) : row g off cs g (off + k) = (cs[k]?).map Cell.v := by
  unfold row
  rw [if_pos ⟨rfl, by omega⟩, Nat.add_sub_cancel_left]
theorem row_get {g off : Nat} {cs : List Value} {k : Nat} {v : Value} (h : cs[k]? = some v) : row g off cs g (off + k) = some (.v v) := by rw [row_at, h]; rfl
theorem row_some {g off b o : Nat} {cs : List Value} {c : Cell} (h : row g off cs b o = some c) : b = g ∧ ∃ k v, o = off + k ∧ cs[k]? = some v ∧ c = .v v := by
  unfold row at h
  split at h
  · rename_i hc
    obtain ⟨v, hv, rfl⟩ := Option.map_eq_some_iff.1 h
    exact ⟨hc.1, o - off, v, by omega, hv, rfl⟩
  · cases h
theorem row_ne {g off b o : Nat} {cs : List Value} (h : row g off cs b o ≠ none) : b = g ∧ off ≤ o ∧ o < off + cs.length := by
  cases hv : row g off cs b o with
  | none => exact absurd hv h
  | some v =>
    obtain ⟨rfl, k, u, rfl, hk, _⟩ := row_some hv
    have := (List.getElem?_eq_some_iff.1 hk).1
    exact ⟨rfl, by omega, by omega⟩
theorem row_nil (g off : Nat) : row g off [] = emp := by
  funext b o
  unfold row emp
  split <;> simp
/-- A row in two. -/
theorem row_append (g off : Nat) (a b : List Value) : row g off (a ++ b) = join (row g off a) (row g (off + a.length) b) := by
  funext c o
  unfold join
  by_cases hc : c = g ∧ off ≤ o
  · obtain ⟨rfl, hle⟩ := hc
    by_cases hl : o - off < a.length
    · have h1 : row c off a c o = some (.v a[o - off]) := by unfold row; rw [if_pos ⟨rfl, hle⟩]; simp [hl]
      rw [h1]
      unfold row
      rw [if_pos ⟨rfl, hle⟩, List.getElem?_append_left hl]
      simp [hl]
    · have h1 : row c off a c o = none := by unfold row; rw [if_pos ⟨rfl, hle⟩]; simp; omega
      rw [h1]
      unfold row
      rw [if_pos ⟨rfl, hle⟩, if_pos ⟨rfl, by omega⟩, List.getElem?_append_right (by omega)]
      simp only
      congr 2
      omega
  · have h1 : row g off a c o = none := by unfold row; rw [if_neg hc]
    rw [h1]
    unfold row
    rw [if_neg hc, if_neg (by rintro ⟨h2, h3⟩; exact hc ⟨h2, by omega⟩)]
theorem row_dis_next (g off : Nat) (a b : List Value) : dis (row g off a) (row g (off + a.length) b) := fun c o => by
  by_cases h : row g off a c o = none
  · exact .inl h
  · obtain ⟨rfl, h1, h2⟩ := row_ne h
    right
    unfold row
    rw [if_neg (by omega)]
end CH

/-- What stands at a place of a world. -/
def look (w : World) (g o : Nat) : Option Cell :=
  match w.heap[g]? with
  | some (.cells c _ _) => (c[o]?).map Cell.v
  | some (.map es cl) => if o = 0 then some (.m es cl) else none
  | _ => none
theorem look_v {w : World} {g o : Nat} {x : Value} : look w g o = some (.v x) ↔ w.cell? ⟨g, o, none⟩ = some x := by
  unfold look World.cell?
  cases w.heap[g]? with
  | none => simp
  | some b =>
    cases b with
    | cells c _ _ => simp
    | map es cl => simp only; split <;> simp
    | _ => simp
theorem look_m {w : World} {g o : Nat} {es : Array MapEntry} {cl : Nat} (h : look w g o = some (.m es cl)) : w.heap[g]? = some (.map es cl) ∧ o = 0 := by
  unfold look at h
  cases hb : w.heap[g]? with
  | none => rw [hb] at h; cases h
  | some b =>
    rw [hb] at h
    cases b with
    | cells c _ _ => simp at h
    | map es' cl' =>
      simp only at h
      split at h
      · rename_i h0
        injection h with h
        injection h with h1 h2
        subst h1; subst h2
        exact ⟨rfl, h0⟩
      · cases h
    | _ => simp at h
theorem look_congr {w w' : World} {g : Nat} (h : w'.heap[g]? = w.heap[g]?) (o : Nat) : look w' g o = look w g o := by unfold look; rw [h]
theorem look_lt {w : World} {g o : Nat} {c : Cell} (h : look w g o = some c) : g < w.heap.size := by
  unfold look at h
  cases hb : w.heap[g]? with
  | none => rw [hb] at h; cases h
  | some b => exact (Array.getElem?_eq_some_iff.1 hb).1
/-- The cells are there. -/
def Sub (h : CH) (w : World) : Prop := ∀ g o v, h g o = some v → look w g o = some v
/-- They are there and may be written. -/
def Own (h : CH) (w : World) : Prop := ∀ g o v, h g o = some v → look w g o = some v ∧ w.frozen? ⟨g, o, none⟩ = false
theorem Sub.cell {h : CH} {w : World} (k : Sub h w) {g o : Nat} {v : Value} (hv : h g o = some (.v v)) : w.cell? ⟨g, o, none⟩ = some v := look_v.1 (k g o _ hv)
theorem Own.sub {h : CH} {w : World} (k : Own h w) : Sub h w := fun g o v hv => (k g o v hv).1
theorem Sub.mono {h h' : CH} {w : World} (k : Sub h w) (hl : CH.le h' h) : Sub h' w := fun g o v hv => k g o v (hl g o v hv)
theorem Sub.lt {h : CH} {w : World} (k : Sub h w) {g o : Nat} (hn : h g o ≠ none) : g < w.heap.size := by
  cases hv : h g o with
  | none => exact absurd hv hn
  | some v => exact look_lt (k g o v hv)

/-- From w to w' nothing has turned but cells of D, and what is new. -/
structure Mod (D : Nat → Nat → Prop) (w w' : World) : Prop where
  os : w'.os = w.os
  tape : w'.tape = w.tape
  output : w'.output = w.output
  size : w.heap.size ≤ w'.heap.size
  block : ∀ g, g < w.heap.size → (∀ o, ¬ D g o) → w'.heap[g]? = w.heap[g]?
  cell : ∀ g o, g < w.heap.size → ¬ D g o → look w' g o = look w g o
  froz : ∀ g o, g < w.heap.size → w'.frozen? ⟨g, o, none⟩ = w.frozen? ⟨g, o, none⟩

theorem Mod.refl (D : Nat → Nat → Prop) (w : World) : Mod D w w := ⟨rfl, rfl, rfl, Nat.le_refl _, fun _ _ _ => rfl, fun _ _ _ _ => rfl, fun _ _ _ => rfl⟩
theorem Mod.trans {D D' : Nat → Nat → Prop} {a b c : World} (h : Mod D a b) (k : Mod D' b c) (hD : ∀ g o, g < a.heap.size → D' g o → D g o) : Mod D a c :=
  ⟨k.os.trans h.os, k.tape.trans h.tape, k.output.trans h.output, Nat.le_trans h.size k.size,
    fun g hg hn => (k.block g (Nat.lt_of_lt_of_le hg h.size) (fun o ho => hn o (hD g o hg ho))).trans (h.block g hg hn),
    fun g o hg hn => (k.cell g o (Nat.lt_of_lt_of_le hg h.size) (fun ho => hn (hD g o hg ho))).trans (h.cell g o hg hn),
    fun g o hg => (k.froz g o (Nat.lt_of_lt_of_le hg h.size)).trans (h.froz g o hg)⟩
theorem Mod.of_below {D : Nat → Nat → Prop} {w w' : World} (h : Below w.heap.size w w') : Mod D w w' :=
  ⟨h.os, h.tape, h.output, h.size, fun g hg _ => h.block g hg, fun g o hg _ => look_congr (h.block g hg) o, fun g o hg => h.frozen (p := ⟨g, o, none⟩) hg⟩
theorem Mod.below {w w' : World} {D : Nat → Nat → Prop} (h : Mod D w w') (hD : ∀ g o, ¬ D g o) : Below w.heap.size w w' := ⟨h.os, h.tape, h.output, h.size, fun g hg => h.block g hg (hD g)⟩
theorem Mod.alloc (D : Nat → Nat → Prop) (w : World) (o : Obj) : Mod D w (w.alloc o) := Mod.of_below ((Below.refl _ _).alloc (Nat.le_refl _) o)
theorem Mod.drewN (D : Nat → Nat → Prop) (w : World) (n : Nat) : Mod D w (w.drewN n) := ⟨rfl, rfl, rfl, Nat.le_refl _, fun _ _ _ => rfl, fun _ _ _ _ => rfl, fun _ _ _ => rfl⟩
theorem frozen_setCell (w : World) (a : Addr) (v : Value) (b : Addr) : (w.setCell a v).frozen? b = w.frozen? b := by
  unfold World.frozen? World.setCell
  simp only [Array.getElem?_modify]
  by_cases h : a.block = b.block
  · rw [if_pos h]
    cases hb : w.heap[b.block]? with
    | none => rfl
    | some o => cases o <;> rfl
  · rw [if_neg h]
theorem look_setCell_other (w : World) (g o : Nat) (v : Value) (b x : Nat) (hn : ¬ (b = g ∧ x = o)) : look (w.setCell ⟨g, o, none⟩ v) b x = look w b x := by
  by_cases hb : b = g
  · subst hb
    unfold look World.setCell
    simp only [Array.getElem?_modify, if_true]
    cases hb : w.heap[b]? with
    | none => rfl
    | some q =>
      cases q with
      | cells c e f =>
        simp only [Option.map_some, Option.isSome_none, Bool.false_eq_true, if_false]
        rw [Array.getElem?_setIfInBounds_ne (by intro e; exact hn ⟨rfl, e.symm⟩)]
      | _ => rfl
  · exact look_congr (Below.heap_setCell _ _ _ _ (by intro e; exact hb e)) x
theorem look_setCell_same (w : World) (g o : Nat) (v u : Value) (h : look w g o = some (.v u)) : look (w.setCell ⟨g, o, none⟩ v) g o = some (.v v) :=
  look_v.2 (World.cell?_setCell_same _ _ _ (look_v.1 h))
theorem Mod.setCell (D : Nat → Nat → Prop) (w : World) (g o : Nat) (v : Value) (hD : D g o) : Mod D w (w.setCell ⟨g, o, none⟩ v) :=
  ⟨rfl, rfl, rfl, by simp [World.setCell], fun b hb hn => Below.heap_setCell _ _ _ _ (by rintro rfl; exact hn o hD),
    fun b x hb hn => look_setCell_other w g o v b x (by
      rintro ⟨rfl, rfl⟩
      exact hn hD), fun b x _ => frozen_setCell w _ _ _⟩

theorem Sub.mod {h : CH} {D : Nat → Nat → Prop} {w w' : World} (k : Sub h w) (m : Mod D w w') (hd : ∀ g o, h g o ≠ none → ¬ D g o) : Sub h w' := fun g o v hv => by
  have hne : h g o ≠ none := by rw [hv]; simp
  rw [m.cell g o (k.lt hne) (hd g o hne)]
  exact k g o v hv
theorem Own.mod {h : CH} {D : Nat → Nat → Prop} {w w' : World} (k : Own h w) (m : Mod D w w') (hd : ∀ g o, h g o ≠ none → ¬ D g o) : Own h w' := fun g o v hv => by
  have hne : h g o ≠ none := by rw [hv]; simp
  rw [m.cell g o (k.sub.lt hne) (hd g o hne), m.froz g o (k.sub.lt hne)]
  exact k g o v hv

def domL (ps : List CH) : Nat → Nat → Prop := fun g o => ∃ p ∈ ps, p g o ≠ none

/-- What a function finds: what is frozen, and rows and variables of its own that it may write. -/
structure Pre (w : World) (F : CH) (ps : List CH) : Prop where
  fro : Sub F w
  own : ∀ p ∈ ps, Own p w ∧ CH.dis F p
  pair : ps.Pairwise CH.dis
/-- What holds on the way of a function that began in w0. -/
structure Ctx (w0 : World) (F0 : CH) (D : Nat → Nat → Prop) (w : World) (F : CH) (ps : List CH) : Prop where
  mod : Mod D w0 w
  le : CH.le F0 F
  fro : Sub F w
  dom : ∀ g o, F g o ≠ none → F0 g o ≠ none ∨ D g o ∨ w0.heap.size ≤ g
  own : ∀ p ∈ ps, Own p w ∧ CH.dis F p ∧ ∀ g o, p g o ≠ none → D g o ∨ w0.heap.size ≤ g
  pair : ps.Pairwise CH.dis

section
variable {w0 w w' : World} {F0 F F' : CH} {D : Nat → Nat → Prop} {ps ps1 ps2 qs qs' rest : List CH} {p : CH}
theorem Ctx.start (h : Pre w F ps) : Ctx w F (domL ps) w F ps :=
  ⟨Mod.refl _ _, CH.le_refl _, h.fro, fun _ _ hn => .inl hn, fun p hp => ⟨(h.own p hp).1, (h.own p hp).2, fun _ _ hn => .inl ⟨p, hp, hn⟩⟩, h.pair⟩
theorem Ctx.pre (h : Ctx w0 F0 D w F (qs ++ rest)) : Pre w F qs :=
  ⟨h.fro, fun p hp => ⟨(h.own p (List.mem_append_left _ hp)).1, (h.own p (List.mem_append_left _ hp)).2.1⟩, (List.pairwise_append.1 h.pair).1⟩
theorem Ctx.pre0 (h : Ctx w0 F0 D w F ps) : Pre w F [] := ⟨h.fro, fun p hp => by simp at hp, .nil⟩
theorem Ctx.call (h : Ctx w0 F0 D w F (qs ++ rest)) (k : Ctx w F (domL qs) w' F' qs') : Ctx w0 F0 D w' F' (qs' ++ rest) := by
  obtain ⟨hpq, hpr, hcross⟩ := List.pairwise_append.1 h.pair
  have hq : ∀ g o, domL qs g o → D g o ∨ w0.heap.size ≤ g := fun g o ⟨q, hq, hn⟩ => (h.own q (List.mem_append_left _ hq)).2.2 g o hn
  have hrest : ∀ r ∈ rest, ∀ g o, r g o ≠ none → ¬ domL qs g o := fun r hr g o hn ⟨q, hq, hqn⟩ => by
    rcases hcross q hq r hr g o with h0 | h0
    · exact hqn h0
    · exact hn h0
  refine ⟨h.mod.trans k.mod (fun g o hg hd => (hq g o hd).resolve_right (by omega)), CH.le_trans h.le k.le, k.fro, fun g o hn => ?_, fun p hp => ?_, ?_⟩
  · rcases k.dom g o hn with h1 | h1 | h1
    · exact h.dom g o h1
    · rcases hq g o h1 with h2 | h2
      · exact .inr (.inl h2)
      · exact .inr (.inr h2)
    · exact .inr (.inr (Nat.le_trans h.mod.size h1))
  · rcases List.mem_append.1 hp with hp | hp
    · obtain ⟨h1, h2, h3⟩ := k.own p hp
      refine ⟨h1, h2, fun g o hn => ?_⟩
      rcases h3 g o hn with h4 | h4
      · exact hq g o h4
      · exact .inr (Nat.le_trans h.mod.size h4)
    · obtain ⟨h1, h2, h3⟩ := h.own p (List.mem_append_right _ hp)
      refine ⟨h1.mod k.mod (hrest p hp), fun g o => ?_, h3⟩
      by_cases hn : p g o = none
      · exact .inr hn
      · left
        by_cases hF : F' g o = none
        · exact hF
        · exfalso
          rcases k.dom g o hF with h4 | h4 | h4
          · rcases h2 g o with h5 | h5
            · exact h4 h5
            · exact hn h5
          · exact hrest p hp g o hn h4
          · have := h1.sub.lt hn
            omega
  · refine List.pairwise_append.2 ⟨k.pair, hpr, fun q hq' r hr g o => ?_⟩
    by_cases hn : r g o = none
    · exact .inr hn
    · left
      by_cases hqn : q g o = none
      · exact hqn
      · exfalso
        rcases (k.own q hq').2.2 g o hqn with h4 | h4
        · exact hrest r hr g o hn h4
        · have := (h.own r (List.mem_append_right _ hr)).1.sub.lt hn
          omega
theorem Ctx.call0 (h : Ctx w0 F0 D w F ps) (k : Ctx w F (domL []) w' F' qs') : Ctx w0 F0 D w' F' (qs' ++ ps) := Ctx.call (qs := []) h k
theorem Ctx.perm (h : Ctx w0 F0 D w F ps) (hp : ps.Perm qs) : Ctx w0 F0 D w F qs :=
  ⟨h.mod, h.le, h.fro, h.dom, fun p hq => h.own p (hp.mem_iff.2 hq), (hp.pairwise_iff (fun h => CH.dis_symm h)).1 h.pair⟩
theorem Ctx.alloc (h : Ctx w0 F0 D w F ps) (cs : Array Value) (e : TypeId) : Ctx w0 F0 D (w.alloc (.cells cs e)) F (CH.row w.heap.size 0 cs.toList :: ps) := by
  have k : Ctx w F (domL []) (w.alloc (.cells cs e)) F [CH.row w.heap.size 0 cs.toList] := by
    refine ⟨Mod.alloc _ _ _, CH.le_refl _, h.fro.mod (Mod.alloc (fun _ _ => False) _ _) (fun _ _ _ => id), fun g o hn => .inl hn, fun p hp => ?_, List.pairwise_singleton _ _⟩
    obtain rfl := List.mem_singleton.1 hp
    refine ⟨fun g o v hv => ?_, fun g o => ?_, fun g o hn => .inr (by obtain ⟨rfl, _⟩ := CH.row_ne hn; exact Nat.le_refl _)⟩
    · obtain ⟨rfl, k, u, rfl, hk, rfl⟩ := CH.row_some hv
      have hh : (w.alloc (.cells cs e)).heap[w.heap.size]? = some (.cells cs e (0, 0)) := heap_alloc_new w _
      constructor
      · refine look_v.2 ?_
        rw [cell_of_row _ _ _ cs e (0, 0) hh]
        simpa using hk
      · unfold World.frozen?
        rw [hh]
        simp
    · by_cases hn : CH.row w.heap.size 0 cs.toList g o = none
      · exact .inr hn
      · obtain ⟨rfl, _⟩ := CH.row_ne hn
        left
        by_cases hF : F w.heap.size o = none
        · exact hF
        · have := h.fro.lt hF
          omega
  exact h.call0 k
theorem Ctx.drewN (h : Ctx w0 F0 D w F ps) (n : Nat) : Ctx w0 F0 D (w.drewN n) F ps :=
  ⟨h.mod.trans (Mod.drewN D w n) (fun _ _ _ h => h), h.le, h.fro, h.dom, h.own, h.pair⟩
theorem Ctx.turn (h : Ctx w0 F0 D w F (ps1 ++ p :: ps2)) {g o : Nat} {u v : Cell} (m : Mod (fun b x => b = g ∧ x = o) w w') (hp : p g o = some u) (p' : CH) (hp1 : p' g o = some v) (hnew : look w' g o = some v ∧ w'.frozen? ⟨g, o, none⟩ = false) (hp2 : ∀ b x, ¬ (b = g ∧ x = o) → p' b x = p b x) :
    Ctx w0 F0 D w' F (ps1 ++ p' :: ps2) := by
  have hm : p ∈ ps1 ++ p :: ps2 := by simp
  obtain ⟨ho, hdF, hdom⟩ := h.own p hm
  have hne : p g o ≠ none := by rw [hp]; simp
  have hD := hdom g o hne
  have hnone : ∀ b x, p' b x ≠ none → p b x ≠ none := fun b x hn => by
    by_cases hb : b = g ∧ x = o
    · obtain ⟨rfl, rfl⟩ := hb; exact hne
    · rwa [hp2 b x hb] at hn
  refine ⟨h.mod.trans m (fun b x hb hx => by obtain ⟨rfl, rfl⟩ := hx; exact hD.resolve_right (by omega)), h.le, h.fro.mod m (fun b x hn hx => ?_), h.dom, fun q hq => ?_, ?_⟩
  · obtain ⟨rfl, rfl⟩ := hx
    rcases hdF b x with h0 | h0
    · exact hn h0
    · exact hne h0
  · rcases List.mem_append.1 hq with hq | hq
    · obtain ⟨h1, h2, h3⟩ := h.own q (List.mem_append_left _ hq)
      refine ⟨h1.mod m (fun b x hn hx => ?_), h2, h3⟩
      obtain ⟨rfl, rfl⟩ := hx
      rcases (List.pairwise_append.1 h.pair).2.2 q hq p (by simp) b x with h0 | h0
      · exact hn h0
      · exact hne h0
    · rcases List.mem_cons.1 hq with rfl | hq
      · refine ⟨fun b x y hy => ?_, fun b x => ?_, fun b x hn => hdom b x (hnone b x hn)⟩
        · by_cases hb : b = g ∧ x = o
          · obtain ⟨rfl, rfl⟩ := hb
            rw [hp1] at hy
            injection hy with hy
            subst hy
            exact hnew
          · rw [hp2 b x hb] at hy
            obtain ⟨h1, h2⟩ := ho b x y hy
            have hlt := look_lt h1
            rw [m.cell b x hlt hb, m.froz b x hlt]
            exact ⟨h1, h2⟩
        · rcases hdF b x with h0 | h0
          · exact .inl h0
          · right
            by_cases hn : q b x = none
            · exact hn
            · exact absurd h0 (hnone b x hn)
      · obtain ⟨h1, h2, h3⟩ := h.own q (List.mem_append_right _ (List.mem_cons_of_mem _ hq))
        refine ⟨h1.mod m (fun b x hn hx => ?_), h2, h3⟩
        obtain ⟨rfl, rfl⟩ := hx
        rcases (List.pairwise_cons.1 (List.pairwise_append.1 h.pair).2.1).1 q hq b x with h0 | h0
        · exact hne h0
        · exact hn h0
  · obtain ⟨hp1', hp2', hc⟩ := List.pairwise_append.1 h.pair
    have hd : ∀ q, CH.dis p q → CH.dis p' q := fun q hd b x => by
      rcases hd b x with h0 | h0
      · left
        by_cases hn : p' b x = none
        · exact hn
        · exact absurd h0 (hnone b x hn)
      · exact .inr h0
    refine List.pairwise_append.2 ⟨hp1', List.pairwise_cons.2 ⟨fun q hq => hd q ((List.pairwise_cons.1 hp2').1 q hq), (List.pairwise_cons.1 hp2').2⟩, fun q hq r hr => ?_⟩
    rcases List.mem_cons.1 hr with rfl | hr
    · exact CH.dis_symm (hd q (CH.dis_symm (hc q hq p (by simp))))
    · exact hc q hq r (List.mem_cons_of_mem _ hr)
theorem Ctx.set (h : Ctx w0 F0 D w F (ps1 ++ p :: ps2)) {g o : Nat} {u v : Value} (hp : p g o = some (.v u)) (p' : CH) (hp1 : p' g o = some (.v v)) (hp2 : ∀ b x, ¬ (b = g ∧ x = o) → p' b x = p b x) :
    Ctx w0 F0 D (w.setCell ⟨g, o, none⟩ v) F (ps1 ++ p' :: ps2) := by
  have ho := (h.own p (by simp)).1 g o _ hp
  exact h.turn (Mod.setCell _ _ _ _ _ ⟨rfl, rfl⟩) hp p' hp1 ⟨look_setCell_same _ _ _ _ _ ho.1, by rw [frozen_setCell]; exact ho.2⟩ hp2
/-- A store into a row. -/
theorem Ctx.setRow {g off : Nat} {cs : List Value} (ps1 ps2 : List CH) (k : Nat) (v : Value) (hk : k < cs.length) (h : Ctx w0 F0 D w F (ps1 ++ CH.row g off cs :: ps2)) :
    Ctx w0 F0 D (w.setCell ⟨g, off + k, none⟩ v) F (ps1 ++ CH.row g off (cs.set k v) :: ps2) := by
  refine h.set (u := cs[k]) (by rw [CH.row_at]; simp [hk]) _ (by rw [CH.row_at]; simp [hk]) fun b x hn => ?_
  unfold CH.row
  split
  · rename_i hc
    obtain ⟨rfl, hle⟩ := hc
    rw [List.getElem?_set_ne (by intro e; exact hn ⟨rfl, by omega⟩)]
  · rfl
/-- What is owned is only read from here on. -/
theorem Ctx.freeze (ps1 ps2 : List CH) (h : Ctx w0 F0 D w F (ps1 ++ p :: ps2)) : Ctx w0 F0 D w (CH.join F p) (ps1 ++ ps2) := by
  have hm : p ∈ ps1 ++ p :: ps2 := by simp
  obtain ⟨ho, hdF, hdom⟩ := h.own p hm
  obtain ⟨hp1, hp2, hc⟩ := List.pairwise_append.1 h.pair
  have hin : ∀ q ∈ ps1 ++ ps2, q ∈ ps1 ++ p :: ps2 ∧ CH.dis p q := fun q hq => by
    rcases List.mem_append.1 hq with hq | hq
    · exact ⟨List.mem_append_left _ hq, CH.dis_symm (hc q hq p (by simp))⟩
    · exact ⟨List.mem_append_right _ (List.mem_cons_of_mem _ hq), (List.pairwise_cons.1 hp2).1 q hq⟩
  refine ⟨h.mod, CH.le_trans h.le (CH.le_joinL _ _), fun g o v hv => ?_, fun g o hn => ?_, fun q hq => ?_, List.pairwise_append.2 ⟨hp1, (List.pairwise_cons.1 hp2).2, fun q hq r hr => hc q hq r (List.mem_cons_of_mem _ hr)⟩⟩
  · unfold CH.join at hv
    cases hF : F g o with
    | some u => rw [hF] at hv; exact h.fro g o v (by rw [hF]; exact hv)
    | none => rw [hF] at hv; exact (ho g o v hv).1
  · rcases CH.join_none hn with h1 | h1
    · exact h.dom g o h1
    · rcases hdom g o h1 with h2 | h2
      · exact .inr (.inl h2)
      · exact .inr (.inr h2)
  · obtain ⟨hq', hd⟩ := hin q hq
    obtain ⟨h1, h2, h3⟩ := h.own q hq'
    exact ⟨h1, CH.dis_join h2 hd, h3⟩
theorem Ctx.dis_of (ps1 ps2 : List CH) (h : Ctx w0 F0 D w F (ps1 ++ p :: ps2)) : CH.dis F p := (h.own p (by simp)).2.1
theorem Ctx.sub_of (ps1 ps2 : List CH) (h : Ctx w0 F0 D w F (ps1 ++ p :: ps2)) : Sub p w := (h.own p (by simp)).1.sub
theorem Ctx.own_of (ps1 ps2 : List CH) (h : Ctx w0 F0 D w F (ps1 ++ p :: ps2)) : Own p w := (h.own p (by simp)).1
theorem Ctx.drop (ps1 ps2 : List CH) (h : Ctx w0 F0 D w F (ps1 ++ p :: ps2)) : Ctx w0 F0 D w F (ps1 ++ ps2) := by
  obtain ⟨hp1, hp2, hc⟩ := List.pairwise_append.1 h.pair
  refine ⟨h.mod, h.le, h.fro, h.dom, fun q hq => h.own q ?_, List.pairwise_append.2 ⟨hp1, (List.pairwise_cons.1 hp2).2, fun q hq r hr => hc q hq r (List.mem_cons_of_mem _ hr)⟩⟩
  rcases List.mem_append.1 hq with hq | hq
  · exact List.mem_append_left _ hq
  · exact List.mem_append_right _ (List.mem_cons_of_mem _ hq)
/-- Two pieces in the place of one. -/
theorem Ctx.split (ps1 ps2 : List CH) {a b : CH} (hab : CH.dis a b) (h : Ctx w0 F0 D w F (ps1 ++ CH.join a b :: ps2)) : Ctx w0 F0 D w F (ps1 ++ a :: b :: ps2) := by
  obtain ⟨ho, hdF, hdom⟩ := h.own (CH.join a b) (by simp)
  obtain ⟨hp1, hp2, hc⟩ := List.pairwise_append.1 h.pair
  have ha : ∀ g o, a g o ≠ none → CH.join a b g o ≠ none := fun g o hn => by
    unfold CH.join
    cases hv : a g o with
    | none => exact absurd hv hn
    | some v => simp
  have hb : ∀ g o, b g o ≠ none → CH.join a b g o ≠ none := fun g o hn => by
    cases hv : b g o with
    | none => exact absurd hv hn
    | some v => rw [CH.le_joinR hab g o v hv]; simp
  have hd : ∀ q, CH.dis (CH.join a b) q → CH.dis a q ∧ CH.dis b q := fun q hq => ⟨fun g o => by
      rcases hq g o with h0 | h0
      · left; by_cases hn : a g o = none
        · exact hn
        · exact absurd h0 (ha g o hn)
      · exact .inr h0, fun g o => by
      rcases hq g o with h0 | h0
      · left; by_cases hn : b g o = none
        · exact hn
        · exact absurd h0 (hb g o hn)
      · exact .inr h0⟩
  have hF := hd F (CH.dis_symm hdF)
  refine ⟨h.mod, h.le, h.fro, h.dom, fun q hq => ?_, List.pairwise_append.2 ⟨hp1, List.pairwise_cons.2 ⟨fun q hq => ?_, List.pairwise_cons.2 ⟨fun q hq => (hd q ((List.pairwise_cons.1 hp2).1 q hq)).2, (List.pairwise_cons.1 hp2).2⟩⟩, fun q hq r hr => ?_⟩⟩
  · rcases List.mem_append.1 hq with hq | hq
    · exact h.own q (List.mem_append_left _ hq)
    · rcases List.mem_cons.1 hq with rfl | hq
      · exact ⟨fun g o v hv => ho g o v (CH.le_joinL _ _ g o v hv), CH.dis_symm hF.1, fun g o hn => hdom g o (ha g o hn)⟩
      · rcases List.mem_cons.1 hq with rfl | hq
        · exact ⟨fun g o v hv => ho g o v (CH.le_joinR hab g o v hv), CH.dis_symm hF.2, fun g o hn => hdom g o (hb g o hn)⟩
        · exact h.own q (List.mem_append_right _ (List.mem_cons_of_mem _ hq))
  · rcases List.mem_cons.1 hq with rfl | hq
    · exact hab
    · exact (hd q ((List.pairwise_cons.1 hp2).1 q hq)).1
  · have hqd := hd q (CH.dis_symm (hc q hq (CH.join a b) (by simp)))
    rcases List.mem_cons.1 hr with rfl | hr
    · exact CH.dis_symm hqd.1
    · rcases List.mem_cons.1 hr with rfl | hr
      · exact CH.dis_symm hqd.2
      · exact hc q hq r (List.mem_cons_of_mem _ hr)
/-- One piece in the place of two. -/
theorem Ctx.join (ps1 ps2 : List CH) {a b : CH} (h : Ctx w0 F0 D w F (ps1 ++ a :: b :: ps2)) : Ctx w0 F0 D w F (ps1 ++ CH.join a b :: ps2) := by
  obtain ⟨hoa, hFa, hda⟩ := h.own a (by simp)
  obtain ⟨hob, hFb, hdb⟩ := h.own b (by simp)
  obtain ⟨hp1, hp2, hc⟩ := List.pairwise_append.1 h.pair
  obtain ⟨ha2, hp3⟩ := List.pairwise_cons.1 hp2
  obtain ⟨hb2, hp4⟩ := List.pairwise_cons.1 hp3
  refine ⟨h.mod, h.le, h.fro, h.dom, fun q hq => ?_, List.pairwise_append.2 ⟨hp1, List.pairwise_cons.2 ⟨fun q hq => CH.dis_join (ha2 q (List.mem_cons_of_mem _ hq)) (hb2 q hq), hp4⟩, fun q hq r hr => ?_⟩⟩
  · rcases List.mem_append.1 hq with hq | hq
    · exact h.own q (List.mem_append_left _ hq)
    · rcases List.mem_cons.1 hq with rfl | hq
      · refine ⟨fun g o v hv => ?_, CH.dis_symm (CH.dis_join (CH.dis_symm hFa) (CH.dis_symm hFb)), fun g o hn => (CH.join_none hn).elim (hda g o) (hdb g o)⟩
        unfold CH.join at hv
        cases hF : a g o with
        | some u => rw [hF] at hv; exact hoa g o v (by rw [hF]; exact hv)
        | none => rw [hF] at hv; exact hob g o v hv
      · exact h.own q (List.mem_append_right _ (List.mem_cons_of_mem _ (List.mem_cons_of_mem _ hq)))
  · rcases List.mem_cons.1 hr with rfl | hr
    · exact CH.dis_symm (CH.dis_join (CH.dis_symm (hc q hq a (by simp))) (CH.dis_symm (hc q hq b (by simp))))
    · exact hc q hq r (List.mem_cons_of_mem _ (List.mem_cons_of_mem _ hr))
/-- A new piece that is nothing. -/
theorem Ctx.emp (h : Ctx w0 F0 D w F ps) : Ctx w0 F0 D w F (CH.emp :: ps) :=
  ⟨h.mod, h.le, h.fro, h.dom, fun q hq => by
    rcases List.mem_cons.1 hq with rfl | hq
    · exact ⟨fun _ _ _ hv => (by cases hv), CH.dis_emp _, fun g o hn => absurd rfl hn⟩
    · exact h.own q hq, List.pairwise_cons.2 ⟨fun q _ => CH.emp_dis q, h.pair⟩⟩
/-- A law's end: nothing that was there has turned. -/
theorem Ctx.below (h : Ctx w0 F0 (domL []) w F ps) : Below w0.heap.size w0 w := h.mod.below (fun _ _ ⟨_, hp, _⟩ => by simp at hp)
end
end Go.WG
