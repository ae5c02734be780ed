/- What a law is handed: the arguments as they are read, and what is read as things of a kind. -/
import Derived.Test.YtobdpbnadjkhiaaGreatTM1
import Derived.OpenShut
import Derived.ShutString
import Derived.ChangeOld
import Derived.Below
import Derived.SizedLaws
import Derived.Carry
import Derived.Laws.StructEq
import Derived.ChangeKeysEq
import Derived.Scope
import Derived.Laws.BytesArg
import Derived.Maps.RangeRun
namespace Go.WG
open Go.RowKit
open Go.WideShapes Go.ChangeShapes
def whole (W : World) : CH := fun g o => look W g o
theorem Hc (W : World) : Sub (whole W) W := fun _ _ _ h => h
theorem GP (W : World) : Pre W (whole W) [] := ⟨Hc W, fun _ h => by simp at h, .nil⟩
abbrev vY (P : Program) {H : Type} (d : DataW H) (t : TypeId) : Prop := (d.weights P t).all (· ≤ reachBytes) = true
def Rd {α : Type} (P : Program) (K : Kd α) (ok : α → Prop) (t : TypeId) : Prop :=
 ∀ {H : Type} (enc : TypeId × Value → H) (W : World) (fuel : Nat) (cs : List Value) (d : DataW H) (ps : List MemPlace),
  DataW.trod enc P W 0 (fun _ => true) true fuel t cs = some (d, ps) → vY P d t → ∃ x, K.rep (whole W) x cs ∧ ok x
section
variable {P : Program} {t e : TypeId}
theorem Rd.int {k : IntKind} (h : P.underlying t = some (.int k)) : Rd P (Kd.int k) (fun n => (Lit.int k n).wf = true) t := fun enc W fuel cs d ps hr _ => by
 obtain ⟨n, h1, h2, h3⟩ := DataW.trod_int h hr
 exact ⟨n, h1, h3⟩
theorem Rd.bool (h : P.underlying t = some .bool) : Rd P Kd.bool (fun _ => True) t := fun enc W fuel cs d ps hr _ => by
 obtain ⟨b, h1, h2⟩ := DataW.trod_bool h hr
 exact ⟨b, h1, trivial⟩
theorem FC {α β : Type} {f : α → Option β} : ∀ {l : List α} {r : List β}, l.mapM f = some r → r.length = l.length ∧ ∀ (i : Nat) (x : α), l[i]? = some x → ∃ y, r[i]? = some y ∧ f x = some y
 | [], r, h => by
  simp at h
  subst h
  exact ⟨rfl, fun i x hx => by simp at hx⟩
 | a :: l, r, h => by
  rw [List.mapM_cons] at h
  obtain ⟨y, h1, h⟩ := Option.bind_eq_some_iff.1 h
  obtain ⟨ys, h2, h⟩ := Option.bind_eq_some_iff.1 h
  injection h with h
  subst h
  obtain ⟨h3, h4⟩ := FC h2
  refine ⟨by simp [h3], fun i x hx => ?_⟩
  cases i with
  | zero =>
   simp only [List.getElem?_cons_zero, Option.some.injEq] at hx
   subst hx
   exact ⟨y, by simp, h1⟩
  | succ i =>
   simp only [List.getElem?_cons_succ] at hx
   obtain ⟨z, h5, h6⟩ := h4 i x hx
   exact ⟨z, by simpa using h5, h6⟩
theorem Hd {W : World} {a : Addr} {n : Nat} {cs : List Value} (h : W.cells? 0 a n = some cs) : cs.length = n ∧ ∀ i u, cs[i]? = some u → W.cell? (a.add i) = some u := by
 unfold World.cells? at h
 rw [if_pos (Nat.zero_le _)] at h
 obtain ⟨h1, h2⟩ := FC h
 rw [List.length_range] at h1
 refine ⟨h1, fun i u hu => ?_⟩
 have hi := (List.getElem?_eq_some_iff.1 hu).1
 obtain ⟨y, h3, h4⟩ := h2 i i (List.getElem?_range (by omega))
 rw [hu] at h3
 injection h3 with h3
 subst h3
 exact h4
theorem Fw {H : Type} (d : DataW H) (l : List (DataW H)) (hd : d ∈ l) : ∀ n ∈ d.weights P e, n ∈ DataW.weightsAll P e l := by
 induction l with
 | nil => simp at hd
 | cons a l ih =>
  intro n hn
  unfold DataW.weightsAll
  rw [List.mem_append]
  rcases List.mem_cons.1 hd with rfl | hd
  ·exact .inl hn
  ·exact .inr (ih hd n hn)
theorem Rd.slice {α : Type} {K : Kd α} {ok : α → Prop} {b : Nat} (hu : P.underlying t = some (.slice e)) (hs : P.cellsOf e = K.sz) (hb : P.bytesOf e = b) (hp : 0 < K.sz) (r : Rd P K ok e) :
  Rd P (Kd.slice K) (fun xs => xs.length * b ≤ reachBytes ∧ ∀ x ∈ xs, ok x) t := fun enc W fuel cs d ps hr hw => by
 rcases DataW.trod_slice hu hr with ⟨rfl, hx⟩ | ⟨a, len, cap, elems, rest, n, rfl, rfl, hx, _, hl, hm, hel, hcell, hsp1, hsp2⟩
 ·exact ⟨[], ⟨none, 0, rfl, Nat.le_refl _, Nat.zero_le _, Sl.nil _ _ _ _⟩, by simp, by simp⟩
 ·injection hx with hx _
  subst hx
  have hw1 : ∀ d ∈ elems.map (·.1), vY P d e := fun d hd => List.all_eq_true.2 fun k hk => List.all_eq_true.1 hw k (by
   unfold DataW.weights
   simp only [hu]
   exact List.mem_cons_of_mem _ (List.mem_append_left _ (Fw d _ hd k hk)))
  have hw2 : len * b ≤ reachBytes := by
   have h0 := List.all_eq_true.1 hw (((elems.map (·.1)).length + (rest.map (·.1)).length) * P.bytesOf e) (by unfold DataW.weights; simp only [hu]; exact List.mem_cons_self ..)
   simp only [List.length_map, decide_eq_true_eq, hel, hb] at h0
   exact Nat.le_trans (Nat.mul_le_mul_right _ (Nat.le_add_right _ _)) h0
  have each : ∀ i, i < len → ∃ x cs, K.rep (whole W) x cs ∧ ok x ∧ ∀ j u, cs[j]? = some u → W.cell? ((a.add (i * K.sz)).add j) = some u := fun i hi => by
   have h1 := hcell i hi
   have hi' : i < elems.length := by omega
   rw [List.getElem?_eq_getElem hi'] at h1
   obtain ⟨cs, h2, h3⟩ := Option.bind_eq_some_iff.1 h1
   obtain ⟨x, h4, h5⟩ := r enc W n cs elems[i].1 elems[i].2 h3 (hw1 _ (List.mem_map.2 ⟨elems[i], List.getElem_mem _, rfl⟩))
   rw [hs] at h2
   exact ⟨x, cs, h4, h5, (Hd h2).2⟩
  have hall : ∃ xs : List α, xs.length = len ∧ ∀ i x, xs[i]? = some x → ok x ∧ ∃ cs, K.rep (whole W) x cs ∧ ∀ j u, cs[j]? = some u → W.cell? ((a.add (i * K.sz)).add j) = some u := by
   clear hw hw1 hw2 hcell hr hel hl hsp1 hsp2
   induction len with
   | zero => exact ⟨[], rfl, fun i x hx => by simp at hx⟩
   | succ m ih =>
    obtain ⟨xs, h1, h2⟩ := ih (fun i hi => each i (by omega))
    obtain ⟨x, cs, h3, h4, h5⟩ := each m (Nat.lt_succ_self _)
    refine ⟨xs ++ [x], by simp [h1], fun i y hy => ?_⟩
    rcases Nat.lt_or_ge i m with hlt | hge
    ·rw [List.getElem?_append_left (by omega)] at hy
     exact h2 i y hy
    ·have hlen := (List.getElem?_eq_some_iff.1 hy).1
     have him : i = m := by rw [List.length_append, List.length_singleton, h1] at hlen; omega
     subst him
     rw [List.getElem?_append_right (by omega), h1, Nat.sub_self] at hy
     simp only [List.getElem?_cons_zero, Option.some.injEq] at hy
     subst hy
     exact ⟨h4, cs, h3, h5⟩
  obtain ⟨xs, hxl, hxs⟩ := hall
  refine ⟨xs, ⟨some a, cap, by rw [hxl], by omega, hm, fun hpos => ?_⟩, by rw [hxl]; exact hw2, fun x hx => ?_⟩
  ·obtain ⟨_, cs0, hr0, hc0⟩ := hxs 0 xs[0] (by simp [hpos])
   have hlen0 := K.len hr0
   have hcell0 := hc0 0 (cs0[0]'(by omega)) (List.getElem?_eq_getElem (by omega))
   have hspot : a.spot = none := by
    cases hsp : a.spot with
    | none => rfl
    | some s =>
     exfalso
     have : ((a.add (0 * K.sz)).add 0).spot.isSome = true := by simp [Addr.add, hsp]
     unfold World.cell? at hcell0
     split at hcell0
     ·rw [this] at hcell0; simp at hcell0
     ·cases hcell0
   obtain ⟨ab, ao, asp⟩ := a
   simp only at hspot
   subst hspot
   refine ⟨ab, ao, rfl, fun j x hj => ?_⟩
   obtain ⟨_, cs, hr1, hc1⟩ := hxs j x hj
   refine ⟨cs, hr1, fun i u hu => Bx.2 ?_⟩
   have := hc1 i u hu
   rwa [vL, vL] at this
  ·obtain ⟨i, hi⟩ := List.getElem?_of_mem hx
   exact (hxs i x hi).1
def RdP {α : Type} (P : Program) (K : Kd α) (ok : α → Prop) (fs : List Field) (off : Nat) : Prop :=
 ∀ {H : Type} (enc : TypeId × Value → H) (W : World) (n : Nat) (cs : List Value), cs.length = K.sz →
  (∀ f ∈ fs, ∃ d ps, DataW.trod enc P W 0 (fun _ => true) true n f.type ((cs.drop (f.offset - off)).take (P.cellsOf f.type)) = some (d, ps) ∧ vY P d f.type) → ∃ x, K.rep (whole W) x cs ∧ ok x
theorem RdP.one {α : Type} {K : Kd α} {ok : α → Prop} {f : Field} {off : Nat} (ho : f.offset = off) (hs : P.cellsOf f.type = K.sz) (r : Rd P K ok f.type) : RdP P K ok [f] off := fun enc W n cs hl hall => by
 obtain ⟨d, ps, h1, h2⟩ := hall f (by simp)
 rw [ho, Nat.sub_self, List.drop_zero, hs, List.take_of_length_le (by omega)] at h1
 exact r enc W n cs d ps h1 h2
theorem RdP.cons {α β : Type} {K1 : Kd α} {K2 : Kd β} {ok1 : α → Prop} {ok2 : β → Prop} {f : Field} {fs : List Field} {off : Nat} (ho : f.offset = off) (hs : P.cellsOf f.type = K1.sz) (r : Rd P K1 ok1 f.type) (hge : (fs.all fun g => Nat.ble (off + K1.sz) g.offset) = true) (rs : RdP P K2 ok2 fs (off + K1.sz)) :
  RdP P (Kd.pair K1 K2) (fun x => ok1 x.1 ∧ ok2 x.2) (f :: fs) off := fun enc W n cs hl hall => by
 have hl' : cs.length = K1.sz + K2.sz := hl
 obtain ⟨d, ps, h1, h2⟩ := hall f (by simp)
 rw [ho, Nat.sub_self, List.drop_zero, hs] at h1
 obtain ⟨x, h3, h4⟩ := r enc W n _ d ps h1 h2
 obtain ⟨y, h5, h6⟩ := rs enc W n (cs.drop K1.sz) (by rw [List.length_drop]; omega) (fun g hg => by
  obtain ⟨d, ps, h1, h2⟩ := hall g (List.mem_cons_of_mem _ hg)
  refine ⟨d, ps, ?_, h2⟩
  have := List.all_eq_true.1 hge g hg
  rw [Nat.ble_eq] at this
  rw [List.drop_drop, show K1.sz + (g.offset - (off + K1.sz)) = g.offset - off from by omega]
  exact h1)
 exact ⟨(x, y), ⟨_, _, (List.take_append_drop K1.sz cs).symm, h3, h5⟩, h4, h6⟩
theorem E4 {H : Type} : ∀ {ts : List TypeId} {ds : List (DataW H)} {j : Nat} {t : TypeId} {d : DataW H}, ts[j]? = some t → ds[j]? = some d → ∀ n ∈ d.weights P t, n ∈ DataW.weightsEach P ts ds := fun h1 h2 => DataW.weights_mem_each h1 h2
theorem Rd.struct {α β : Type} {K : Kd α} {ok : α → Prop} {fs : Array Field} (f : β → α) (g : α → β) (hfg : ∀ x, f (g x) = x) (hu : P.underlying t = some (.struct fs)) (hs : P.cellsOf t = K.sz) (r : RdP P K ok fs.toList 0) : Rd P (Kd.iso K f) (fun x => ok (f x)) t := fun enc W fuel cs d ps hr hw => by
 obtain ⟨xs, n, rfl, hx, hl, hxl, hf⟩ := DataW.trod_struct hu hr
 injection hx with hx _
 subst hx
 obtain ⟨x, h1, h2⟩ := r enc W n cs (by rw [hl, hs]) (fun fl hfl => by
  obtain ⟨i, hi⟩ := List.getElem?_of_mem hfl
  rw [Array.getElem?_toList] at hi
  have h1 := hf i fl hi
  have hlt : i < xs.length := by rw [hxl]; exact (Array.getElem?_eq_some_iff.1 hi).1
  rw [List.getElem?_eq_getElem hlt] at h1
  refine ⟨xs[i].1, xs[i].2, by rw [Nat.sub_zero]; exact h1, List.all_eq_true.2 fun k hk => List.all_eq_true.1 hw k ?_⟩
  unfold DataW.weights
  simp only [hu]
  exact E4 (j := i) (by simp [hi]) (by simp [hlt]) k hk)
 exact ⟨g x, by show K.rep _ (f (g x)) cs; rw [hfg]; exact h1, by show ok (f (g x)); rw [hfg]; exact h2⟩
theorem Rd.arr {k : IntKind} {n : Nat} (hu : P.underlying t = some (.array n e)) (he : P.underlying e = some (.int k)) (hs : P.cellsOf e = 1) (hn : P.cellsOf t = n) : Rd P (Kd.Eb n k) (fun xs => xs.length = n ∧ ∀ x ∈ xs, (Lit.int k x).wf = true) t := fun enc W fuel cs d ps hr hw => by
 obtain ⟨xs, m, rfl, hx, hl, hxl, hf⟩ := DataW.trod_array hu hr
 rw [hn] at hl
 have each : ∀ i, i < n → ∃ z, cs[i]? = some (.int k z) ∧ (Lit.int k z).wf = true := fun i hi => by
  have h1 := hf i hi
  have hlt : i < xs.length := by omega
  rw [List.getElem?_eq_getElem hlt] at h1
  obtain ⟨z, h2, h3, h4⟩ := DataW.trod_int he h1
  refine ⟨z, ?_, h4⟩
  rw [hs, Nat.mul_one] at h2
  have h5 : ((cs.drop i).take 1)[0]? = some (.int k z) := by rw [h2]; rfl
  rw [List.getElem?_take] at h5
  simpa [List.getElem?_drop] using h5
 have hall : ∃ zs : List Int, cs = zs.map (Value.int k) ∧ ∀ z ∈ zs, (Lit.int k z).wf = true := by
  clear hr hw hf hxl hu hn
  subst hl
  induction cs with
  | nil => exact ⟨[], rfl, by simp⟩
  | cons c cs ih =>
   obtain ⟨zs, h1, h2⟩ := ih (fun i hi => by simpa using each (i + 1) (by simp; omega))
   obtain ⟨z, h3, h4⟩ := each 0 (by simp)
   simp only [List.getElem?_cons_zero, Option.some.injEq] at h3
   subst h3
   exact ⟨z :: zs, by rw [List.map_cons, ← h1], fun y hy => by
    rcases List.mem_cons.1 hy with rfl | hy
    ·exact h4
    ·exact h2 y hy⟩
 obtain ⟨zs, rfl, hz⟩ := hall
 rw [List.length_map] at hl
 exact ⟨zs, ⟨rfl, hl⟩, hl, hz⟩
theorem DN {α : Type} {K : Kd α} {F : CH} {xs : List α} {A : Option Addr} {n c : Nat} (h : (Kd.slice K).rep F xs (Value.slice A n c).cells.toList) : n = xs.length ∧ xs.length ≤ c ∧ c ≤ maxLen ∧ Sl K F F A xs := by
 obtain ⟨A', c', e, h1, h2, hs⟩ := h
 injection e with e _
 injection e with e1 e2 e3
 rw [e1, e3]
 exact ⟨e2, h1, h2, hs⟩
theorem Rd.arg {α : Type} {K : Kd α} {ok : α → Prop} (r : Rd P K ok t) {H : Type} {enc : TypeId × Value → H} {W : World} {v : Value} {d : DataW H} {ps : List MemPlace} (h : DataW.Trod enc P W 0 (fun _ => true) true t v d ps)
  {ts : List TypeId} {ds : List (DataW H)} (hsz : (DataW.weightsEach P ts ds).all (· ≤ reachBytes) = true) {j : Nat} (ht : ts[j]? = some t) (hd : ds[j]? = some d) : ∃ x, K.rep (whole W) x v.cells.toList ∧ ok x := by
 obtain ⟨fuel, hf⟩ := h
 exact r enc W fuel _ d ps hf (List.all_eq_true.2 fun k hk => List.all_eq_true.1 hsz k (DataW.weights_mem_each ht hd k hk))
end
end Go.WG
namespace Go.WG
def Ev {α : Type} (f : Nat → Option α) (r : α) : Prop := ∃ K, ∀ k, K ≤ k → f k = some r
theorem Ev.one {α : Type} {f : Nat → Option α} {r : α} (h : Ev f r) : ∃ k, f k = some r := by
 obtain ⟨K, h⟩ := h
 exact ⟨K, h K (Nat.le_refl _)⟩
theorem Ev.pure {α : Type} (r : α) : Ev (fun _ => some r) r := ⟨0, fun _ _ => rfl⟩
theorem Ev.bind {α β : Type} {f : Nat → Option α} {g : Nat → α → Option β} {a : α} {r : β} (h : Ev f a) (k : Ev (fun n => g n a) r) : Ev (fun n => (f n).bind (g n)) r := by
 obtain ⟨K, h⟩ := h
 obtain ⟨K', k⟩ := k
 exact ⟨K + K', fun n hn => by show (f n).bind (g n) = some r; rw [h n (by omega)]; exact k n (by omega)⟩
theorem Ev.succ {α : Type} {f : Nat → Option α} {r : α} (h : Ev (fun k => f (k + 1)) r) : Ev f r := by
 obtain ⟨K, h⟩ := h
 refine ⟨K + 1, fun n hn => ?_⟩
 obtain ⟨m, rfl⟩ : ∃ m, n = m + 1 := ⟨n - 1, by omega⟩
 exact h m (by omega)
theorem Ev.congr {α : Type} {f g : Nat → Option α} {r : α} (h : Ev f r) (e : ∀ k, g k = f k) : Ev g r := by
 obtain ⟨K, h⟩ := h
 exact ⟨K, fun n hn => by rw [e]; exact h n hn⟩
theorem Ev.rG {α : Type} {c : Prop} [Decidable c] {f g : Nat → Option α} {r : α} (hc : c) (h : Ev f r) : Ev (fun k => if c then f k else g k) r := by
 simpa only [if_pos hc] using h
theorem Ev.rZ {α : Type} {c : Prop} [Decidable c] {f g : Nat → Option α} {r : α} (hc : ¬ c) (h : Ev g r) : Ev (fun k => if c then f k else g k) r := by
 simpa only [if_neg hc] using h
theorem Ev.unique {α : Type} {f : Nat → Option α} {r s : α} (h : Ev f r) (k : Ev f s) : r = s := by
 obtain ⟨K, h⟩ := h
 obtain ⟨K', k⟩ := k
 have h1 := h (K + K') (by omega)
 rw [k (K + K') (by omega)] at h1
 injection h1 with h1
 exact h1.symm
theorem Ev.loop {σ ρ : Type} {n : Nat} {F : Nat → Nat → σ → Option ρ} {r : ρ} (Inv : Nat → σ → Prop)
  (hs : ∀ j s, j < n → Inv j s → Ev (fun k => F (k + 1) j s) r ∨ ∃ s', Inv (j + 1) s' ∧ (Ev (fun k => F k (j + 1) s') r → Ev (fun k => F (k + 1) j s) r))
  (he : ∀ s, Inv n s → Ev (fun k => F (k + 1) n s) r) : ∀ s, Inv 0 s → Ev (fun k => F k 0 s) r := by
 have key : ∀ m j s, n - j = m → j ≤ n → Inv j s → Ev (fun k => F k j s) r := by
  intro m
  induction m with
  | zero =>
   intro j s hm hj hI
   obtain rfl : j = n := by omega
   exact Ev.succ (f := fun k => F k j s) (he s hI)
  | succ m ih =>
   intro j s hm hj hI
   rcases hs j s (by omega) hI with h | ⟨s', hI', h⟩
   ·exact Ev.succ (f := fun k => F k j s) h
   ·exact Ev.succ (f := fun k => F k j s) (h (ih (j + 1) s' (by omega) (by omega) hI'))
 exact fun s hI => key n 0 s rfl (Nat.zero_le _) hI
theorem AV {j : Nat} (h : j < 9223372036854775808) : rB (j : Int) = (j : Int) := tI (by omega) (by omega)
theorem tU {j : Nat} (h : j < 9223372036854775807) : rB ((j : Int) + 1) = ((j + 1 : Nat) : Int) := by
 rw [tI (by omega) (by omega)]
 omega
theorem take_succ {α : Type} {l : List α} {j : Nat} (d : α) (h : j < l.length) : l.take (j + 1) = l.take j ++ [l.getD j d] := by
 rw [List.take_add_one, List.getElem?_eq_getElem h, List.getD_eq_getElem?_getD, List.getElem?_eq_getElem h]
 rfl
theorem wf8 {x : Int} (h : (Lit.int .u8 x).wf = true) : 0 ≤ x ∧ x < 256 := by
 simp [Lit.wf, IntKind.min, IntKind.max, IntKind.bits, IntKind.signed] at h
 omega
namespace Heap
section
variable {α : Type} (lt : α → α → Bool) (d : α)
structure Ord : Prop where
 asymm : ∀ a b, lt a b = true → lt b a = false
 trans : ∀ a b c, lt b a = false → lt c b = false → lt c a = false
def swap (l : List α) (i j : Nat) : List α := (l.set i (l.getD j d)).set j (l.getD i d)
def down : Nat → Nat → Nat → List α → Nat × List α
 | 0, _, i, l => (i, l)
 | f + 1, n, i, l =>
  if 2 * i + 1 ≥ n then (i, l)
  else
   let j := if 2 * i + 2 < n ∧ lt (l.getD (2 * i + 2) d) (l.getD (2 * i + 1) d) = true then 2 * i + 2 else 2 * i + 1
   if lt (l.getD j d) (l.getD i d) = true then down f n j (swap d l i j) else (i, l)
def up : Nat → Nat → List α → List α
 | 0, _, l => l
 | f + 1, j, l =>
  if j = 0 then l
  else if lt (l.getD j d) (l.getD ((j - 1) / 2) d) = true then up f ((j - 1) / 2) (swap d l ((j - 1) / 2) j) else l
def Ok (i0 n : Nat) (x : Option Nat) (l : List α) : Prop := ∀ p c, i0 ≤ p → x ≠ some p → (c = 2 * p + 1 ∨ c = 2 * p + 2) → c < n → lt (l.getD c d) (l.getD p d) = false
end
section
variable {α : Type} {lt : α → α → Bool} {d : α}
theorem zM (l : List α) {i j : Nat} (hi : i < l.length) (hj : j < l.length) (k : Nat) : (swap d l i j).getD k d = if k = j then l.getD i d else if k = i then l.getD j d else l.getD k d := by
 unfold swap
 simp only [List.getD_eq_getElem?_getD, List.getElem?_set, List.length_set]
 by_cases h1 : k = j
 ·subst h1; simp [hj]
 ·rw [if_neg (Ne.symm h1), if_neg h1]
  by_cases h2 : k = i
  ·subst h2; simp [hi]
  ·rw [if_neg (Ne.symm h2), if_neg h2]
theorem yR (l : List α) (i j : Nat) : (swap d l i j).length = l.length := by simp [swap]
theorem swap_perm (l : List α) {i j : Nat} (hi : i < l.length) (hj : j < l.length) : (swap d l i j).Perm l := by
 unfold swap
 rw [List.getD_eq_getElem?_getD, List.getD_eq_getElem?_getD, List.getElem?_eq_getElem hi, List.getElem?_eq_getElem hj]
 exact List.set_set_perm hi hj
theorem Er (ho : Ord lt) (i0 n : Nat) : ∀ (f i : Nat) (l : List α), n ≤ l.length → i0 ≤ i → n ≤ f + i → Ok lt d i0 n (some i) l → (∀ q c, i0 ≤ q → (i = 2 * q + 1 ∨ i = 2 * q + 2) → (c = 2 * i + 1 ∨ c = 2 * i + 2) → c < n → lt (l.getD c d) (l.getD q d) = false) →
  (down lt d f n i l).2.Perm l ∧ Ok lt d i0 n none (down lt d f n i l).2 ∧ (∀ k, n ≤ k → (down lt d f n i l).2.getD k d = l.getD k d) := by
 intro f
 induction f with
 | zero =>
  intro i l hn hi hf hA hB
  refine ⟨.refl _, fun p c hp _ hc hcn => ?_, fun _ _ => rfl⟩
  exact hA p c hp (by intro e; injection e with e; omega) hc hcn
 | succ f ih =>
  intro i l hn hi hf hA hB
  unfold down
  split
  ·refine ⟨.refl _, fun p c hp _ hc hcn => ?_, fun _ _ => rfl⟩
   exact hA p c hp (by intro e; injection e with e; omega) hc hcn
  ·rename_i hge
   simp only
   generalize hj : (if 2 * i + 2 < n ∧ lt (l.getD (2 * i + 2) d) (l.getD (2 * i + 1) d) = true then 2 * i + 2 else 2 * i + 1) = j
   have hjc : (j = 2 * i + 1 ∨ j = 2 * i + 2) ∧ j < n := by
    split at hj <;> omega
   have hmin : ∀ c, (c = 2 * i + 1 ∨ c = 2 * i + 2) → c < n → lt (l.getD c d) (l.getD j d) = false := by
    intro c hc hcn
    have hirr : ∀ a, lt a a = false := fun a => by
     cases h : lt a a with
     | false => rfl
     | true => have := ho.asymm a a h; rw [h] at this; exact this
    split at hj
    ·rename_i h
     subst hj
     rcases hc with rfl | rfl
     ·exact ho.asymm _ _ h.2
     ·exact hirr _
    ·rename_i h
     subst hj
     rcases hc with rfl | rfl
     ·exact hirr _
     ·cases hlt : lt (l.getD (2 * i + 2) d) (l.getD (2 * i + 1) d) with
      | false => rfl
      | true => exact absurd ⟨hcn, hlt⟩ h
   split
   ·rename_i hlt
    have hil : i < l.length := by omega
    have hjl : j < l.length := by omega
    have hji : j ≠ i := by omega
    obtain ⟨h1, h2, h3⟩ := ih j (swap d l i j) (by rw [yR]; exact hn) (by omega) (by omega)
     (fun p c hp hpj hc hcn => by
      have hpj' : p ≠ j := fun e => hpj (by rw [e])
      rw [zM l hil hjl, zM l hil hjl]
      rw [if_neg hpj']
      by_cases hpi : p = i
      ·subst hpi
       rw [if_pos rfl]
       by_cases hcj : c = j
       ·rw [if_pos hcj]; exact ho.asymm _ _ hlt
       ·rw [if_neg hcj, if_neg (by omega)]; exact hmin c hc hcn
      ·rw [if_neg hpi]
       have hcj : c ≠ j := by omega
       rw [if_neg hcj]
       by_cases hci : c = i
       ·rw [if_pos hci]
        exact hB p j hp (by omega) hjc.1 hjc.2
       ·rw [if_neg hci]
        exact hA p c hp (by intro e; injection e with e; exact hpi e.symm) hc hcn)
     (fun q c hq hjq hc hcn => by
      have hqi : q = i := by omega
      subst hqi
      rw [zM l hil hjl, zM l hil hjl, if_neg (by omega), if_neg (by omega), if_neg (by omega), if_pos rfl]
      exact hA j c (by omega) (by intro e; injection e with e; omega) hc hcn)
    refine ⟨h1.trans (swap_perm l hil hjl), h2, fun k hk => ?_⟩
    rw [h3 k hk, zM l hil hjl, if_neg (by omega), if_neg (by omega)]
   ·rename_i hlt
    refine ⟨.refl _, fun p c hp _ hc hcn => ?_, fun _ _ => rfl⟩
    by_cases hpi : p = i
    ·subst hpi
     have := hmin c hc hcn
     refine ho.trans _ _ _ ?_ this
     simpa using hlt
    ·exact hA p c hp (by intro e; injection e with e; exact hpi e.symm) hc hcn
theorem Ok.min (ho : Ord lt) {n : Nat} {l : List α} (h : Ok lt d 0 n none l) : ∀ c, c < n → lt (l.getD c d) (l.getD 0 d) = false := by
 intro c
 induction c using Nat.strongRecOn with
 | ind c ih =>
  intro hc
  by_cases h0 : c = 0
  ·subst h0
   cases hl : lt (l.getD 0 d) (l.getD 0 d) with
   | false => rfl
   | true => have := ho.asymm _ _ hl; rw [hl] at this; exact this
  ·have h1 := ih ((c - 1) / 2) (by omega) (by omega)
   have h2 := h ((c - 1) / 2) c (Nat.zero_le _) (by simp) (by omega) hc
   exact ho.trans _ _ _ h1 h2
def pop (lt : α → α → Bool) (d : α) (l : List α) : α × List α :=
 let l2 := (down lt d (l.length - 1) (l.length - 1) 0 (swap d l 0 (l.length - 1))).2
 (l2.getD (l.length - 1) d, l2.take (l.length - 1))
theorem BJ (f n : Nat) : ∀ (i : Nat) (l : List α), (down lt d f n i l).2.length = l.length := by
 induction f with
 | zero => intro i l; rfl
 | succ f ih =>
  intro i l
  unfold down
  split
  ·rfl
  ·simp only
   generalize (if 2 * i + 2 < n ∧ lt (l.getD (2 * i + 2) d) (l.getD (2 * i + 1) d) = true then 2 * i + 2 else 2 * i + 1) = j
   split
   ·rw [ih, yR]
   ·rfl
theorem getD_take (l : List α) (n k : Nat) (h : k < n) : (l.take n).getD k d = l.getD k d := by
 rw [List.getD_eq_getElem?_getD, List.getD_eq_getElem?_getD, List.getElem?_take, if_pos h]
theorem Hz (ho : Ord lt) {l : List α} (hl : l ≠ []) (h : Ok lt d 0 l.length none l) :
  (pop lt d l).1 = l.getD 0 d ∧ l.Perm ((pop lt d l).1 :: (pop lt d l).2) ∧ Ok lt d 0 (pop lt d l).2.length none (pop lt d l).2 ∧ (∀ x ∈ l, lt x (pop lt d l).1 = false) := by
 have hlen : 0 < l.length := List.length_pos_iff.2 hl
 have h0 : (0 : Nat) < l.length := hlen
 have hn : l.length - 1 < l.length := by omega
 obtain ⟨h1, h2, h3⟩ := Er ho 0 (l.length - 1) (l.length - 1) 0 (swap d l 0 (l.length - 1)) (by rw [yR]; omega) (Nat.le_refl _) (by omega)
  (fun p c hp hp0 hc hcn => by
   have hp0' : p ≠ 0 := fun e => hp0 (by rw [e])
   rw [zM l h0 hn, zM l h0 hn, if_neg (by omega), if_neg (by omega), if_neg (by omega), if_neg hp0']
   exact h p c hp (by simp) hc (by omega))
  (fun q c hq hq0 => by omega)
 have hlen2 := BJ (lt := lt) (d := d) (l.length - 1) (l.length - 1) 0 (swap d l 0 (l.length - 1))
 rw [yR] at hlen2
 have hlast : (pop lt d l).1 = l.getD 0 d := by
  show (down lt d (l.length - 1) (l.length - 1) 0 (swap d l 0 (l.length - 1))).2.getD (l.length - 1) d = _
  rw [h3 _ (Nat.le_refl _), zM l h0 hn, if_pos rfl]
 have hsplit : (down lt d (l.length - 1) (l.length - 1) 0 (swap d l 0 (l.length - 1))).2 = (pop lt d l).2 ++ [(pop lt d l).1] := by
  show _ = (List.take (l.length - 1) _) ++ [List.getD (down lt d (l.length - 1) (l.length - 1) 0 (swap d l 0 (l.length - 1))).2 (l.length - 1) d]
  generalize (down lt d (l.length - 1) (l.length - 1) 0 (swap d l 0 (l.length - 1))).2 = m at hlen2
  have hm : l.length - 1 < m.length := by omega
  rw [List.getD_eq_getElem?_getD, List.getElem?_eq_getElem hm, Option.getD_some, ← List.take_succ_eq_append_getElem hm, List.take_of_length_le (by omega)]
 refine ⟨hlast, ?_, ?_, ?_⟩
 ·refine ((swap_perm l h0 hn).symm.trans h1.symm).trans ?_
  rw [hsplit]
  exact List.perm_append_comm
 ·have hl2 : (pop lt d l).2.length = l.length - 1 := by
   show (List.take (l.length - 1) _).length = _
   rw [List.length_take, hlen2]; omega
  rw [hl2]
  intro p c hp hx hc hcn
  show lt ((List.take (l.length - 1) _).getD c d) ((List.take (l.length - 1) _).getD p d) = false
  rw [getD_take _ _ _ hcn, getD_take _ _ _ (by omega)]
  exact h2 p c hp hx hc hcn
 ·intro x hx
  rw [hlast]
  obtain ⟨i, hi, rfl⟩ := List.getElem_of_mem hx
  have := h.min ho i hi
  rwa [List.getD_eq_getElem?_getD, List.getElem?_eq_getElem hi, Option.getD_some] at this
end
end Heap
namespace Heap
section
variable {α : Type} (lt : α → α → Bool)
def ins (x : α) : List α → List α
 | [] => [x]
 | y :: r => if lt y x = true then y :: ins x r else x :: y :: r
def Gm : List α → List α
 | [] => []
 | x :: r => ins lt x (Gm r)
end
section
variable {α : Type} {lt : α → α → Bool}
theorem Fh (x : α) (l : List α) : (ins lt x l).Perm (x :: l) := by
 induction l with
 | nil => exact .refl _
 | cons y r ih =>
  unfold ins
  split
  ·exact (ih.cons y).trans (.swap x y r)
  ·exact .refl _
theorem BZ (l : List α) : (Gm lt l).Perm l := by
 induction l with
 | nil => exact .refl _
 | cons x r ih => exact (Fh x _).trans (ih.cons x)
theorem Gi (ho : Ord lt) (x : α) (l : List α) (h : l.Pairwise fun a b => lt b a = false) : (ins lt x l).Pairwise fun a b => lt b a = false := by
 induction l with
 | nil => exact List.pairwise_singleton _ _
 | cons y r ih =>
  obtain ⟨h1, h2⟩ := List.pairwise_cons.1 h
  unfold ins
  split
  ·rename_i hlt
   refine List.pairwise_cons.2 ⟨fun z hz => ?_, ih h2⟩
   rcases List.mem_cons.1 ((Fh x r).mem_iff.1 hz) with rfl | hz
   ·exact ho.asymm _ _ hlt
   ·exact h1 z hz
  ·rename_i hlt
   refine List.pairwise_cons.2 ⟨fun z hz => ?_, h⟩
   rcases List.mem_cons.1 hz with rfl | hz
   ·simpa using hlt
   ·exact ho.trans x y z (by simpa using hlt) (h1 z hz)
theorem E2 (ho : Ord lt) (l : List α) : (Gm lt l).Pairwise fun a b => lt b a = false := by
 induction l with
 | nil => exact .nil
 | cons x r ih => exact Gi ho x _ ih
theorem FY (ht : ∀ a b, lt a b = false → lt b a = false → a = b) (hirr : ∀ a, lt a a = false) {x s : α} {rest S l : List α} (hp : l.Perm (x :: rest)) (hm : ∀ y ∈ l, lt y x = false) (hs : l.Perm (s :: S)) (hS : (s :: S).Pairwise fun a b => lt b a = false) : x = s ∧ rest.Perm S := by
 have hx : x ∈ s :: S := hs.mem_iff.1 (hp.mem_iff.2 (List.mem_cons_self ..))
 have h1 : lt s x = false := hm s (hs.mem_iff.2 (List.mem_cons_self ..))
 have h2 : lt x s = false := by
  rcases List.mem_cons.1 hx with rfl | hx
  ·exact hirr _
  ·exact (List.pairwise_cons.1 hS).1 x hx
 have he := ht x s h2 h1
 subst he
 exact ⟨rfl, (hp.symm.trans hs).cons_inv⟩
end
end Heap
end Go.WG
namespace Go.WG
open Go.RowKit
set_option linter.unusedVariables false
set_option linter.unusedSimpArgs false
section
variable {α β : Type} [DecidableEq α]
def xN (l : List (α × β)) (k : α) : Option β := (l.find? fun q => decide (q.1 = k)).map (·.2)
def yY (l : List (α × β)) (k : α) (v : β) : List (α × β) :=
 if (xN l k).isSome = true then l.map fun q => if q.1 = k then (k, v) else q else l ++ [(k, v)]
def I0 (l : List (α × β)) (k : α) : List (α × β) := l.filter fun q => decide (q.1 ≠ k)
end
def HU : TypeDesc → Bool
 | .int _ => true
 | .string => true
 | _ => false
structure B7 {α : Type} [DecidableEq α] (d : TypeDesc) (ek : α → Value) : Prop where
 now : ∀ a b, Instr.sameNow d (ek a) (ek b) = some (decide (a = b))
 bits : ∀ a, Instr.sameBits 10000 (ek a) (ek a) = true
theorem D4 (k : IntKind) : B7 (.int k) (Value.int k) := ⟨fun a b => by simp [Instr.sameNow]; rfl, fun a => by simp [Instr.sameBits]⟩
theorem KJ (a b : ByteArray) : (a == b) = decide (a = b) := by
 have h : (a == b) = (a.data == b.data) := rfl
 rw [h]
 by_cases e : a = b
 ·subst e
  simp
 ·rw [decide_eq_false e]
  have : a.data ≠ b.data := fun h => e (ByteArray.ext h)
  simpa using this
theorem EY : B7 .string Value.string := ⟨fun a b => by simp [Instr.sameNow, KJ], fun a => by simp [Instr.sameBits, KJ]⟩
structure Dy {α β : Type} (ek : α → Value) (ev : β → Value) (es : Array MapEntry) (clock : Nat) (l : List (α × β)) : Prop where
 ent : es.toList.map (fun e => (e.key, e.val)) = l.map (fun q => (ek q.1, ev q.2))
 born : ∀ e ∈ es.toList, e.born < clock
 uniq : (es.toList.map (·.born)).Nodup
 keys : (l.map (·.1)).Nodup
def Cl {α β : Type} (ek : α → Value) (ev : β → Value) (p : CH) (g : Nat) (l : List (α × β)) : Prop := ∃ es clock, p = CH.mp g es clock ∧ Dy ek ev es clock l
section
variable {α β : Type} [DecidableEq α] {ek : α → Value} {ev : β → Value} {es : Array MapEntry} {clock : Nat} {l : List (α × β)} {d : TypeDesc} {P : Program} {w : World}
theorem Dv (hk : B7 d ek) (k : α) : ∀ (es : List MapEntry) (l : List (α × β)) (i : Nat), es.map (fun e => (e.key, e.val)) = l.map (fun q => (ek q.1, ev q.2)) →
  Instr.findNow d (ek k) es i = some ((l.findIdx? fun q => decide (q.1 = k)).bind fun j => (l[j]?).map fun q => (i + j, ev q.2))
 | [], [], i, _ => rfl
 | [], _ :: _, _, h => by simp at h
 | _ :: _, [], _, h => by simp at h
 | e :: es, q :: l, i, h => by
  simp only [List.map_cons, List.cons.injEq] at h
  obtain ⟨h1, h2⟩ := h
  injection h1 with h1 h3
  unfold Instr.findNow
  rw [h1, hk.now, List.findIdx?_cons]
  by_cases he : k = q.1
  ·subst he
   simp [h3]
  ·have he' : ¬ q.1 = k := fun h => he h.symm
   rw [decide_eq_false he, decide_eq_false he']
   simp only [Bool.false_eq_true, if_false]
   rw [Dv hk k es l (i + 1) h2]
   cases hf : l.findIdx? (fun q => decide (q.1 = k)) with
   | none => simp
   | some j => simp [Nat.add_assoc, Nat.add_comm 1 j]
theorem D3 (l : List (α × β)) (k : α) : xN l k = (l.findIdx? fun q => decide (q.1 = k)).bind fun j => (l[j]?).map (·.2) := by
 unfold xN
 induction l with
 | nil => rfl
 | cons q l ih =>
  rw [List.find?_cons, List.findIdx?_cons]
  by_cases h : q.1 = k
  ·simp [h]
  ·simp only [decide_eq_false h, Bool.false_eq_true, if_false]
   rw [ih]
   cases l.findIdx? (fun q => decide (q.1 = k)) with
   | none => simp
   | some j => simp
theorem run_checkKey {kt : TypeId} (hu : P.underlying kt = some d) (hd : HU d = true) (b : Bool) (v : Value) : (Instr.checkKey b 10000 kt v).run P w = .ok () w := by
 unfold Instr.checkKey
 cases d <;> simp [HU] at hd <;> simp [run_underlying hu]
theorem run_findKey {kt : TypeId} (hu : P.underlying kt = some d) (hk : B7 d ek) (h : es.toList.map (fun e => (e.key, e.val)) = l.map (fun q => (ek q.1, ev q.2))) (k : α) :
  (Instr.findKey kt (ek k) es.toList).run P w = .ok ((l.findIdx? fun q => decide (q.1 = k)).bind fun j => (l[j]?).map fun q => (j, ev q.2)) w := by
 have hf := Dv hk k es.toList l 0 h
 simp only [Nat.zero_add] at hf
 simp [Instr.findKey, run_underlying hu, hf]
theorem BN {g : Nat} (hs : Sub (CH.mp g es clock) w) : w.heap[g]? = some (.map es clock) := (Jx (hs g 0 _ (CH.HV g es clock))).1
theorem Yl.lookup {env : Env} {ty t kt et : TypeId} {x y : Operand} {g : Nat} {p : CH} {ok : Bool} {z v : Value} (hR : Cl ek ev p g l) (hs : Sub p w) (ht : P.underlying t = some (.map kt et)) (hu : P.underlying kt = some d) (hd : HU d = true) (hk : B7 d ek) (hz : (P.info? et).map (·.zero) = some (some z)) (k : α)
  (hx : Go.WG.ev env x = .map (some g)) (hy : Go.WG.ev env y = ek k) (hv : (if ok = true then Value.tuple #[(match xN l k with | some b => ev b | none => z), .bool (xN l k).isSome] else (match xN l k with | some b => ev b | none => z)) = v) : Yl P env (.lookup t x y ok) ty w v w := by
 obtain ⟨es, clock, rfl, hM⟩ := hR
 obtain ⟨inf, hi, hz'⟩ := Option.map_eq_some_iff.1 hz
 have hh := BN hs
 have hf := run_findKey (P := P) (w := w) hu hk hM.ent k
 have hc := run_checkKey (P := P) (w := w) hu hd es.isEmpty (ek k)
 have hobj : (getObj g).run P w = .ok (.map es clock) w := by simp [getObj, Sem.run, hh]
 subst hv
 show (execOp (Go.WG.ev env) _).run P w = _
 rw [D3]
 simp only [execOp, hx, hy, Instr.lookup]
 simp [run_underlying ht, hobj, hc, hf]
 cases hj : l.findIdx? (fun q => decide (q.1 = k)) with
 | none => cases ok <;> simp [zeroValue, typeInfo, hi, hz']
 | some j =>
  have hlt : j < l.length := (List.findIdx?_eq_some_iff_getElem.1 hj).1
  cases ok <;> simp [List.getElem?_eq_getElem hlt]
theorem D8 (l : List (α × β)) (k : α) : xN l k = none ↔ l.findIdx? (fun q => decide (q.1 = k)) = none := by
 rw [D3]
 cases h : l.findIdx? (fun q => decide (q.1 = k)) with
 | none => simp
 | some j =>
  have hlt : j < l.length := (List.findIdx?_eq_some_iff_getElem.1 h).1
  simp [List.getElem?_eq_getElem hlt]
theorem World.DC {w : World} {g o : Nat} (h : w.heap[g]? = some (.map es clock)) : w.frozen? ⟨g, o, none⟩ = false := by
 unfold World.frozen?
 rw [h]
theorem Mod.setObj {g : Nat} {es' : Array MapEntry} {clock' : Nat} (h : w.heap[g]? = some (.map es clock)) : Mod (fun b x => b = g ∧ x = 0) w { w with heap := w.heap.setIfInBounds g (.map es' clock') } := by
 have hg : g < w.heap.size := (Array.getElem?_eq_some_iff.1 h).1
 have hne : ∀ b, b ≠ g → (w.heap.setIfInBounds g (.map es' clock'))[b]? = w.heap[b]? := fun b hb => Array.getElem?_setIfInBounds_ne (Ne.symm hb)
 have heq : (w.heap.setIfInBounds g (.map es' clock'))[g]? = some (.map es' clock') := by rw [Array.getElem?_setIfInBounds_self]; simp [hg]
 refine ⟨rfl, rfl, rfl, by simp, fun b _ hn => hne b (fun e => hn 0 ⟨e, rfl⟩), fun b x _ hn => ?_, fun b x _ => ?_⟩
 ·by_cases hb : b = g
  ·subst hb
   have hx : ¬ x = 0 := fun e => hn ⟨rfl, e⟩
   unfold look
   simp only [heq, h, if_neg hx]
  ·exact Ai (hne b hb) x
 ·by_cases hb : b = g
  ·subst hb
   unfold World.frozen?
   simp only [heq, h]
  ·unfold World.frozen?
   simp only [hne b hb]
end
section
variable {P : Program} {w0 w : World} {F0 F : CH} {D : Nat → Nat → Prop} {ps ps1 ps2 : List CH}
theorem Ctx.Hv {g : Nat} {es : Array MapEntry} {clock : Nat} (es' : Array MapEntry) (clock' : Nat) (C : Ctx w0 F0 D w F (ps1 ++ CH.mp g es clock :: ps2)) :
  Ctx w0 F0 D { w with heap := w.heap.setIfInBounds g (.map es' clock') } F (ps1 ++ CH.mp g es' clock' :: ps2) := by
 have hh := BN (Ctx.EZ ps1 ps2 C)
 have hg : g < w.heap.size := (Array.getElem?_eq_some_iff.1 hh).1
 have heq : (w.heap.setIfInBounds g (.map es' clock'))[g]? = some (.map es' clock') := by rw [Array.getElem?_setIfInBounds_self]; simp [hg]
 refine C.J6 (g := g) (o := 0) (Mod.setObj hh) (CH.HV _ _ _) _ (CH.HV _ _ _) ⟨?_, World.DC heq⟩ fun b x hn => ?_
 ·unfold look
  simp only [heq, if_true]
 ·unfold CH.mp
  rw [if_neg hn, if_neg hn]
theorem DS {g : Nat} {es : Array MapEntry} {clock : Nat} (h : w.heap[g]? = some (.map es clock)) : (getObj g).run P w = .ok (.map es clock) w := by simp [getObj, Sem.run, h]
theorem DA {g : Nat} {es : Array MapEntry} {clock : Nat} {o : Obj} (h : w.heap[g]? = some (.map es clock)) : (setObj g o).run P w = .ok () { w with heap := w.heap.setIfInBounds g o } := by simp [setObj, Sem.run, h]
theorem Ctx.allocMap (C : Ctx w0 F0 D w F ps) : Ctx w0 F0 D (w.alloc (.map #[] 0)) F (CH.mp w.heap.size #[] 0 :: ps) := by
 have hh : (w.alloc (.map #[] 0)).heap[w.heap.size]? = some (.map #[] 0) := heap_alloc_new w _
 have k : Ctx w F (sR []) (w.alloc (.map #[] 0)) F [CH.mp w.heap.size #[] 0] := by
  refine ⟨Mod.alloc _ _ _, CH.le_refl _, C.fro.mod (Mod.alloc (fun _ _ => False) _ _) (fun _ _ _ => id), fun g o hn => .inl hn, fun p hp => ?_, List.pairwise_singleton _ _⟩
  obtain rfl := List.mem_singleton.1 hp
  refine ⟨fun g o c hc => ?_, fun g o => ?_, fun g o hn => ?_⟩
  ·obtain ⟨rfl, rfl, rfl⟩ := CH.EP hc
   refine ⟨?_, World.DC hh⟩
   unfold look
   simp only [hh, if_true]
  ·cases hv : CH.mp w.heap.size #[] 0 g o with
   | none => exact .inr rfl
   | some c =>
    obtain ⟨rfl, rfl, _⟩ := CH.EP hv
    left
    by_cases hF : F w.heap.size 0 = none
    ·exact hF
    ·have := C.fro.lt hF
     omega
  ·cases hv : CH.mp w.heap.size #[] 0 g o with
   | none => exact absurd hv hn
   | some c =>
    obtain ⟨rfl, rfl, _⟩ := CH.EP hv
    exact .inr (Nat.le_refl _)
 exact C.wS k
theorem Bp {α β : Type} (ek : α → Value) (ev' : β → Value) {t : TypeId} (C : Ctx w0 F0 D w F ps) :
  ∃ g p w', (∀ (env : Env) (ty : TypeId), Yl P env (.makeMap t none) ty w (.map (some g)) w') ∧ Ctx w0 F0 D w' F (p :: ps) ∧ Cl ek ev' p g ([] : List (α × β)) :=
 ⟨w.heap.size, _, w.alloc (.map #[] 0), fun env ty => by
  show (execOp (ev env) _).run P w = _
  simp [execOp, Instr.makeMap, newObj]
  rfl, C.allocMap, ⟨#[], 0, rfl, rfl, by simp, by simp, by simp⟩⟩
theorem Ee {γ : Type} {l : List γ} (h : l.Nodup) {i j : Nat} {x : γ} (hi : l[i]? = some x) (hj : l[j]? = some x) : i = j := by
 obtain ⟨h1, h2⟩ := List.getElem?_eq_some_iff.1 hi
 obtain ⟨h3, h4⟩ := List.getElem?_eq_some_iff.1 hj
 rcases Nat.lt_trichotomy i j with hlt | heq | hgt
 ·exact absurd (h2.trans h4.symm) (List.pairwise_iff_getElem.1 h i j h1 h3 hlt)
 ·exact heq
 ·exact absurd (h4.trans h2.symm) (List.pairwise_iff_getElem.1 h j i h3 h1 hgt)
theorem Dy.modify {α β : Type} [DecidableEq α] {ek : α → Value} {ev' : β → Value} {es : Array MapEntry} {clock : Nat} {l : List (α × β)} (h : Dy ek ev' es clock l) {j : Nat} {k : α} (v : β) (hj : l.findIdx? (fun q => decide (q.1 = k)) = some j) :
  Dy ek ev' (es.modify j fun e => { e with key := ek k, val := ev' v }) clock (yY l k v) := by
 obtain ⟨hlt, hjk, _⟩ := List.findIdx?_eq_some_iff_getElem.1 hj
 have hjk' : l[j].1 = k := of_decide_eq_true hjk
 have hsome : (xN l k).isSome = true := by rw [D3, hj]; simp [List.getElem?_eq_getElem hlt]
 have hlen : es.toList.length = l.length := by have := congrArg List.length h.ent; simpa using this
 have hset : yY l k v = l.map fun q => if q.1 = k then (k, v) else q := by unfold yY; rw [if_pos hsome]
 have hb : ((es.modify j fun e => { e with key := ek k, val := ev' v }).toList.map (·.born)) = es.toList.map (·.born) := by
  apply List.ext_getElem?
  intro i
  simp only [List.getElem?_map, Array.getElem?_toList, Array.getElem?_modify]
  split
  ·cases es[i]? <;> rfl
  ·rfl
 have hkeys : (yY l k v).map (·.1) = l.map (·.1) := by
  rw [hset, List.map_map]
  refine List.map_congr_left fun q _ => ?_
  simp only [Function.comp]
  split
  ·rename_i hq; exact hq.symm
  ·rfl
 refine ⟨?_, fun e he => ?_, by rw [hb]; exact h.uniq, by rw [hkeys]; exact h.keys⟩
 ·rw [hset]
  apply List.ext_getElem?
  intro i
  have hi := congrArg (fun z => z[i]?) h.ent
  simp only [List.getElem?_map, Array.getElem?_toList] at hi
  simp only [List.getElem?_map, Array.getElem?_toList, Array.getElem?_modify]
  by_cases hij : j = i
  ·subst hij
   rw [if_pos rfl, List.getElem?_eq_getElem hlt]
   rw [List.getElem?_eq_getElem hlt] at hi
   cases he : es[j]? with
   | none => rw [he] at hi; simp at hi
   | some e => simp [hjk']
  ·rw [if_neg hij, hi]
   cases hq : l[i]? with
   | none => rfl
   | some q =>
    simp only [Option.map_some]
    have : ¬ q.1 = k := fun e => hij (Ee h.keys (x := k) (by simp [List.getElem?_eq_getElem hlt, hjk']) (by simp [hq, e]))
    rw [if_neg this]
 ·have : e.born ∈ ((es.modify j fun e => { e with key := ek k, val := ev' v }).toList.map (·.born)) := List.mem_map.2 ⟨e, he, rfl⟩
  rw [hb] at this
  obtain ⟨e', he', hbb⟩ := List.mem_map.1 this
  rw [← hbb]
  exact h.born e' he'
theorem Dy.push {α β : Type} [DecidableEq α] {ek : α → Value} {ev' : β → Value} {es : Array MapEntry} {clock : Nat} {l : List (α × β)} (h : Dy ek ev' es clock l) {k : α} (v : β) (hj : l.findIdx? (fun q => decide (q.1 = k)) = none) :
  Dy ek ev' (es.push { key := ek k, val := ev' v, born := clock }) (clock + 1) (l ++ [(k, v)]) := by
 refine ⟨by simp [h.ent], fun e he => ?_, ?_, ?_⟩
 ·rw [Array.toList_push] at he
  rcases List.mem_append.1 he with he | he
  ·have := h.born e he; omega
  ·rw [List.mem_singleton.1 he]; exact Nat.lt_succ_self _
 ·rw [Array.toList_push, List.map_append, List.map_cons, List.map_nil]
  refine List.nodup_append.2 ⟨h.uniq, by simp, fun a ha b hb => ?_⟩
  rw [List.mem_singleton.1 hb]
  obtain ⟨e, he, rfl⟩ := List.mem_map.1 ha
  exact Nat.ne_of_lt (h.born e he)
 ·rw [List.map_append, List.map_cons, List.map_nil]
  refine List.nodup_append.2 ⟨h.keys, by simp, fun a ha b hb => ?_⟩
  rw [List.mem_singleton.1 hb]
  obtain ⟨q, hq, rfl⟩ := List.mem_map.1 ha
  have := List.findIdx?_eq_none_iff.1 hj q hq
  simpa using this
theorem zR {α β : Type} [DecidableEq α] {ek : α → Value} {ev' : β → Value} {l : List (α × β)} {d : TypeDesc} {t kt et : TypeId} {g : Nat} {p : CH} (k : α) (v : β) (C : Ctx w0 F0 D w F (ps1 ++ p :: ps2)) (hR : Cl ek ev' p g l) (ht : P.underlying t = some (.map kt et)) (hu : P.underlying kt = some d) (hd : HU d = true) (hk : B7 d ek) :
  ∃ p' w', (∀ (env : Env) (ty : TypeId) (x y z : Operand), ev env x = .map (some g) → ev env y = ek k → ev env z = ev' v → BR P env (.mapUpdate t x y z) ty w w') ∧ Ctx w0 F0 D w' F (ps1 ++ p' :: ps2) ∧ Cl ek ev' p' g (yY l k v) := by
 obtain ⟨es, clock, rfl, hM⟩ := hR
 have hh := BN (Ctx.EZ ps1 ps2 C)
 have hf := run_findKey (P := P) (w := w) hu hk hM.ent k
 have hc := run_checkKey (P := P) (w := w) hu hd false (ek k)
 cases hj : l.findIdx? (fun q => decide (q.1 = k)) with
 | none =>
  have hset : yY l k v = l ++ [(k, v)] := by unfold yY; rw [(D8 l k).2 hj]; rfl
  refine ⟨_, _, fun env ty x y z hx hy hz => ?_, C.Hv (es.push { key := ek k, val := ev' v, born := clock }) (clock + 1), ⟨_, _, rfl, by rw [hset]; exact hM.push v hj⟩⟩
  show (execOp (ev env) _).run P w = _
  simp only [execOp, hx, hy, hz, Instr.mapUpdate]
  simp [run_underlying ht, DS hh, hc, hf, hj, DA hh]
 | some j =>
  have hlt : j < l.length := (List.findIdx?_eq_some_iff_getElem.1 hj).1
  have hjk : l[j].1 = k := of_decide_eq_true (List.findIdx?_eq_some_iff_getElem.1 hj).2.1
  have hkey : ((es[j]?).map (·.key)).getD (ek k) = ek k := by
   have hi := congrArg (fun z => z[j]?) hM.ent
   simp only [List.getElem?_map, Array.getElem?_toList, List.getElem?_eq_getElem hlt, Option.map_some, hjk] at hi
   cases he : es[j]? with
   | none => rfl
   | some e =>
    rw [he] at hi
    simp only [Option.map_some, Option.some.injEq, Prod.mk.injEq] at hi
    simp [hi.1]
  refine ⟨_, _, fun env ty x y z hx hy hz => ?_, C.Hv (es.modify j fun e => { e with key := ek k, val := ev' v }) clock, ⟨_, _, rfl, hM.modify v hj⟩⟩
  show (execOp (ev env) _).run P w = _
  simp only [execOp, hx, hy, hz, Instr.mapUpdate]
  simp [run_underlying ht, DS hh, hc, hf, hj, List.getElem?_eq_getElem hlt, Instr.keyThatStays, hkey, hk.bits, DA hh]
theorem DG {α β : Type} [DecidableEq α] {k : α} : ∀ {l : List (α × β)} {j : Nat}, (l.map (·.1)).Nodup → l.findIdx? (fun q => decide (q.1 = k)) = some j → I0 l k = l.eraseIdx j
 | [], j, _, h => by simp at h
 | q :: l, j, hn, h => by
  rw [List.map_cons, List.nodup_cons] at hn
  rw [List.findIdx?_cons] at h
  by_cases hq : q.1 = k
  ·rw [decide_eq_true hq, if_pos rfl] at h
   injection h with h
   subst h
   unfold I0
   rw [List.filter_cons_of_neg (by simp [hq]), List.eraseIdx_cons_zero, List.filter_eq_self]
   intro p hp
   refine decide_eq_true fun hpk => hn.1 ?_
   rw [hq, ← hpk]
   exact List.mem_map.2 ⟨p, hp, rfl⟩
  ·rw [decide_eq_false hq] at h
   simp only [Bool.false_eq_true, if_false, Option.map_eq_some_iff] at h
   obtain ⟨i, hi, rfl⟩ := h
   have ih := DG hn.2 hi
   unfold I0 at ih ⊢
   rw [List.filter_cons_of_pos (by simp [hq]), ih, List.eraseIdx_cons_succ]
theorem zE {γ δ : Type} (f : γ → δ) : ∀ (l : List γ) (j : Nat), (l.eraseIdx j).map f = (l.map f).eraseIdx j
 | [], _ => rfl
 | _ :: _, 0 => rfl
 | a :: l, j + 1 => by rw [List.eraseIdx_cons_succ, List.map_cons, List.map_cons, List.eraseIdx_cons_succ, zE f l j]
theorem Dy.erase {α β : Type} [DecidableEq α] {ek : α → Value} {ev' : β → Value} {es : Array MapEntry} {clock : Nat} {l : List (α × β)} (h : Dy ek ev' es clock l) {j : Nat} {k : α} (hj : l.findIdx? (fun q => decide (q.1 = k)) = some j) :
  Dy ek ev' (es.eraseIdxIfInBounds j) clock (I0 l k) := by
 have hlt := (List.findIdx?_eq_some_iff_getElem.1 hj).1
 have hlen : es.toList.length = l.length := by have := congrArg List.length h.ent; simpa using this
 have hes : (es.eraseIdxIfInBounds j).toList = es.toList.eraseIdx j := by
  unfold Array.eraseIdxIfInBounds
  rw [dif_pos (by rw [← Array.length_toList]; omega), Array.toList_eraseIdx]
 rw [DG h.keys hj]
 refine ⟨by rw [hes, zE, h.ent, zE], fun e he => h.born e (by rw [hes] at he; exact List.mem_of_mem_eraseIdx he), ?_, ?_⟩
 ·rw [hes, zE]
  exact h.uniq.sublist (List.eraseIdx_sublist ..)
 ·rw [zE]
  exact h.keys.sublist (List.eraseIdx_sublist ..)
end
end Go.WG
namespace Go.WG
section
variable {P : Program} {env : Env} {w w' : World} {ty t t' e : TypeId} {x y : Operand} {a b : Addr} {v : Value}
theorem GZ {n : Nat} {p q : Option Addr} (hn : p = none ∨ q = none) (hu : P.underlying t = some (.pointer e)) : (Op.equalIn (n + 1) t (.pointer p) (.pointer q)).run P w = .ok (decide (p = q)) w := by
 unfold Op.equalIn
 rcases hn with rfl | rfl
 ·cases q <;> simp [run_underlying hu]
 ·cases p <;> simp [run_underlying hu]
theorem E8 {op : BinOp} {p q : Option Addr} (_hu : P.underlying t = some (.pointer e)) : (eqGuard op t x y (.pointer p) (.pointer q)).run P w = .ok () w := by
 unfold eqGuard
 cases op <;> rfl
theorem Yl.Lb {op : BinOp} {p q : Option Addr} {r : Bool} (ho : op = .eql ∨ op = .neq) (hx : ev env x = .pointer p) (hy : ev env y = .pointer q) (hn : p = none ∨ q = none) (hu : P.underlying t = some (.pointer e)) (hr : (if op = .eql then decide (p = q) else !decide (p = q)) = r) : Yl P env (.binOp op t x y t') ty w (.bool r) w := by
 show (execOp (ev env) _).run P w = _
 subst hr
 have h1 : (Op.equal t (.pointer p) (.pointer q)).run P w = .ok (decide (p = q)) w := GZ (n := 9999) hn hu
 have h2 := E8 (P := P) (w := w) (op := op) (x := x) (y := y) (p := p) (q := q) hu
 rcases ho with rfl | rfl
 ·simp [execOp, hx, hy, h2, binOp, h1]
 ·simp [execOp, hx, hy, h2, binOp, h1]
theorem Yl.ET (hx : ev env x = .pointer (some a)) (hy : ev env y = .pointer none) (hu : P.underlying t = some (.pointer e)) : Yl P env (.binOp .eql t x y t') ty w (.bool false) w := Yl.Lb (.inl rfl) hx hy (.inr rfl) hu (by simp)
end
section
variable {P : Program} {w0 w : World} {F0 F : CH} {D : Nat → Nat → Prop} {ps : List CH}
theorem uR (e : TypeId) (v : Value) (cs : List Value) (C : Ctx w0 F0 D w F ps) (hc : v.cells = cs.toArray) :
  ∃ g w', (∀ (env : Env) (ty : TypeId) (x : Operand), ev env x = v → Yl P env (.box e x) ty w (.pointer (some ⟨g, 0, none⟩)) w') ∧ Ctx w0 F0 D w' F (CH.row g 0 cs :: ps) := by
 refine ⟨w.heap.size, w.alloc (.cells cs.toArray e), fun env ty x hx => ?_, by simpa using C.alloc cs.toArray e⟩
 show (execOp (ev env) _).run P w = _
 simp [execOp, hx, Instr.box, newVar, newRow, hc]
end
section
variable {P : Program} {ops : Array Oper} {Q : Exit → Env → World → Prop} {env : Env} {w w' : World} {rest : List Oper} {op : Op} {ty : TypeId} {pos : String} {aft : Array Edge} {v : Value} {N : Nat} {Ms : List (List Nat × CH)} {R : Env → World → Prop} {fuel : Nat} {listed : Array Bool}
end
end Go.WG
namespace Go.WG
inductive RE (P : Program) (env : Env) (w : World) : List ResultVar → List Value → Prop
 | nil : RE P env w [] []
 | tmp {t : Nat} {v : Value} {rs : List ResultVar} {vs : List Value} (h : env t = v) (k : RE P env w rs vs) : RE P env w (.tmp t :: rs) (v :: vs)
 | cell {a : Nat} {t : TypeId} {ad : Addr} {v : Value} {rs : List ResultVar} {vs : List Value} (h : env a = .pointer (some ad)) (hl : (loadVar t ad).run P w = .ok v w) (k : RE P env w rs vs) : RE P env w (.cell a t :: rs) (v :: vs)
def Ik (env : Env) : ResultVar → Sem Value
 | .tmp t => pure (env t)
 | .cell x t => do loadVar t (← asAddr (env x))
theorem RE.run {P : Program} {env : Env} {w : World} {rs : List ResultVar} {vs : List Value} (h : RE P env w rs vs) : (rs.mapM (Ik env)).run P w = .ok vs w := by
 induction h with
 | nil => rfl
 | tmp h k ih => simp [List.mapM_cons, Ik, h, ih]
 | cell h hl k ih => simp [List.mapM_cons, Ik, h, asAddr, hl, ih]
theorem Dc {P : Program} {fn : Func} {N : Nat} {env : Env} {w : World} {rs : List ResultVar} {vs : List Value} (hr : fn.results = rs.toArray) (h : RE P env w rs vs) (a : Act) (ha : Frm N env a) :
  (results fn a.tmps).run P w = .ok (if h : vs.toArray.size = 1 then vs.toArray[0] else .tuple vs.toArray) w := by
 have hf : (fun (r : ResultVar) => match r with
   | .tmp t => (pure (a.tmps.getD t undef) : Sem Value)
   | .cell x t => do loadVar t (← asAddr (a.tmps.getD x undef))) = Ik env := by
  funext r
  cases r <;> simp only [Ik, ha.get]
 unfold results
 rw [hr, Array.mapM_eq_mapM_toList]
 erw [hf]
 simp [h.run]
theorem Au {P : Program} {fn : Func} {env : Env} {w : World} {rs : List ResultVar} {vs : List Value} (hr : fn.results = rs.toArray) (h : RE P env w rs vs) (hl : Nat.beq vs.length 1 = false) : Fk fn env w P (.tuple vs.toArray) := fun a ha => by
 have h2 : ¬ vs.length = 1 := fun e => by rw [e] at hl; cases hl
 rw [Dc hr h a ha, dif_neg (by simpa using h2)]
theorem BU {P : Program} {fn : Func} {env : Env} {w : World} {rs : List ResultVar} {v : Value} (hr : fn.results = rs.toArray) (h : RE P env w rs [v]) : Fk fn env w P v := fun a ha => by
 rw [Dc hr h a ha]
 rfl
end Go.WG
namespace Go.WG
theorem tS {P : Program} {w : World} {t : TypeId} {d : TypeDesc} {g off o : Nat} {cs us : List Value} (hu : P.underlying t = some d) (hd : Ax d = true) (hsz : (P.info? t).map (·.size) = some us.length) (hs : Sub (CH.row g off cs) w) (hc : (cs.drop o).take us.length = us) : (loadVar t ⟨g, off + o, none⟩).run P w = .ok (.agg us.toArray) w :=
 Bu hu hd _ us hsz fun j v hj => by
  rw [vL, Nat.add_assoc]
  refine hs.cell (CH.yU ?_)
  rw [← hc, List.getElem?_take] at hj
  split at hj
  ·rwa [List.getElem?_drop] at hj
  ·cases hj
end Go.WG
namespace Go.WG
section
variable {P : Program} {ops : Array Oper} {env : Env} {w w' : World} {op : Op} {ty : TypeId} {pos : String} {aft : Array Edge} {v : Value} {N : Nat} {Ms : List (List Nat × CH)} {R : Env → World → Prop} {fuel : Nat} {listed : Array Bool} {i j x d : Nat} {b : Bool} {L : Array Bool} {dst : Option Nat}
theorem Up.J2 (hi : ops[i]? = some ⟨dst, op, ty, pos, aft, some (j, b)⟩) (hj : (ops[j]?).bind (·.dst) = some x) (hx : env x = .bool b) (hd : yP N ⟨dst, op, ty, pos, aft, none⟩ = true) (hl : listed.setIfInBounds i true = L)
  {f : FuncId} {args : Array Value} (he : vD P env op ty w f args) {R' : Ending → World → Prop} (hc : Calls P f args w R')
  (h : ∀ e w', R' e w' → ∃ v, e = .returned v ∧ SLc Ms i listed w' ∧ WA P N ops Ms R fuel L (zW env dst v) w') : Up P N ops Ms R fuel listed env w i :=
 Up.on hi hj hx hd (.inr (.inr ⟨f, args, w, by rw [uM]; exact he, hc.mono (hl ▸ h)⟩))
end
end Go.WG
namespace Go.WG
open Go Go.RowKit
set_option linter.unusedVariables false
set_option linter.unusedSimpArgs false
section
variable {P : Program}
def EqV (P : Program) (n : Nat) (t : TypeId) (x y : Value) (b : Bool) : Prop := ∀ (d : Nat) (w : World), (Op.equalIn (d + n) t x y).run P w = .ok b w
def Dk (P : Program) (n : Nat) (xs ys : List Value) (fs : List Field) (b : Bool) : Prop := ∀ (d : Nat) (w : World), (Op.eqFields (d + n) xs.toArray ys.toArray fs).run P w = .ok b w
def zL (P : Program) (t : TypeId) (xs : List Value) (off : Nat) (v : Value) : Prop := ∀ w : World, (part t xs.toArray off).run P w = .ok v w
theorem EqV.le {n m : Nat} {t : TypeId} {x y : Value} {b : Bool} (h : EqV P n t x y b) (hn : n ≤ m) : EqV P m t x y b := fun d w => by
 obtain ⟨k, rfl⟩ := Nat.exists_eq_add_of_le hn
 have := h (d + k) w
 rwa [show d + k + n = d + (n + k) by omega] at this
theorem EqV.int {t : TypeId} {k : IntKind} {a b : Int} (h : P.underlying t = some (.int k)) : EqV P 1 t (.int k a) (.int k b) (decide (a = b)) := fun d w => by rw [run_equalIn_int w d t k k a b h]; rfl
theorem EqV.bool {t : TypeId} {a b : Bool} (h : P.underlying t = some .bool) : EqV P 1 t (.bool a) (.bool b) (decide (a = b)) := fun d w => by rw [run_equalIn_bool' w d t a b h]; cases a <;> cases b <;> rfl
theorem Kk (a b : ByteArray) : (a.toList == b.toList) = decide (a = b) := by
 have h : (a.toList = b.toList) ↔ a = b := by
  constructor
  ·intro h
   rw [ByteArray.toList_eq, ByteArray.toList_eq] at h
   obtain ⟨⟨x⟩⟩ := a
   obtain ⟨⟨y⟩⟩ := b
   simp only at h
   rw [h]
  ·intro h; rw [h]
 by_cases e : a = b
 ·simp [e]
 ·have e2 : ¬ a.toList = b.toList := fun z => e (h.1 z)
  simp [e, e2]
theorem Dk.nil {n : Nat} {xs ys : List Value} : Dk P n xs ys [] true := fun d w => by simp [Op.eqFields]
theorem Dk.cons {n : Nat} {xs ys : List Value} {f : Field} {fs : List Field} {a b : Value} {p q : Prop} [Decidable p] [Decidable q] (hn : f.name ≠ "_") (hx : zL P f.type xs f.offset a) (hy : zL P f.type ys f.offset b) (he : EqV P n f.type a b (decide p)) (h : Dk P n xs ys fs (decide q)) :
  Dk P n xs ys (f :: fs) (decide (p ∧ q)) := fun d w => by
 simp only [Op.eqFields, if_pos hn, Sem.run_bind, hx w, hy w, he d w, Result.andThen_ok]
 by_cases hp : p
 ·simp only [hp, decide_true, Bool.not_true, Bool.false_eq_true, if_false, h d w, true_and]
 ·simp only [hp, decide_false, Bool.not_false, if_true, Sem.run_pure, false_and]
theorem Dk.one {n : Nat} {xs ys : List Value} {f : Field} {a b : Value} {p : Prop} [Decidable p] (hn : f.name ≠ "_") (hx : zL P f.type xs f.offset a) (hy : zL P f.type ys f.offset b) (he : EqV P n f.type a b (decide p)) :
  Dk P n xs ys [f] (decide p) := fun d w => by
 have := Dk.cons (q := True) hn hx hy he (fs := []) (by simpa using Dk.nil) d w
 simpa using this
theorem zL.one {t : TypeId} {xs : List Value} {off : Nat} {v : Value} {d : TypeDesc} (hu : P.underlying t = some d) (hd : Ax d = false) (hc : xs[off]? = some v) : zL P t xs off v := fun w => by
 cases d <;> simp [Ax] at hd <;> simp [part, isAgg, run_underlying hu, hc]
theorem zL.agg {t : TypeId} {xs ds : List Value} {off : Nat} {d : TypeDesc} (hu : P.underlying t = some d) (hd : Ax d = true) (hs : (P.info? t).map (·.size) = some ds.length) (hc : (xs.drop off).take ds.length = ds) : zL P t xs off (.agg ds.toArray) := fun w => by
 obtain ⟨inf, hi, hsz⟩ := Option.map_eq_some_iff.1 hs
 cases d <;> simp [Ax] at hd <;> simp [part, isAgg, run_underlying hu, sizeOf, typeInfo, hi, hsz, hc]
theorem EqV.struct {n : Nat} {t : TypeId} {fs : Array Field} {xs ys : List Value} {b : Bool} (ht : P.underlying t = some (.struct fs)) (hp : P.stoodInHeld t = false) (h : Dk P n xs ys fs.toList b) : EqV P (n + 1) t (.agg xs.toArray) (.agg ys.toArray) b := fun d w => by
 have hf : P.fieldsOf t = fs := by simp [Program.fieldsOf, ht]
 rw [← Nat.add_assoc, run_equalIn_struct w (d + n) t _ _ (by rw [hf]; exact ht) hp, hf]
 exact h d w
theorem Co {e : TypeId} {k : IntKind} (he : P.underlying e = some (.int k)) : ∀ (m j : Nat) (d : Nat) (xs ys : List Int) (w : World), j + m = xs.length → xs.length = ys.length →
  (Op.eqItems (d + 1) e 1 (xs.map (Value.int k)).toArray (ys.map (Value.int k)).toArray (List.range' j m)).run P w = .ok (decide (xs.drop j = ys.drop j)) w
 | 0, j, d, xs, ys, w, hj, hl => by
  rw [List.drop_eq_nil_of_le (by omega), List.drop_eq_nil_of_le (by omega)]
  simp [Op.eqItems]
 | m + 1, j, d, xs, ys, w, hj, hl => by
  have hx : j < xs.length := by omega
  have hy : j < ys.length := by omega
  have px : zL P e (xs.map (Value.int k)) (j * 1) (.int k xs[j]) := zL.one he rfl (by simp [hx])
  have py : zL P e (ys.map (Value.int k)) (j * 1) (.int k ys[j]) := zL.one he rfl (by simp [hy])
  simp only [List.range'_succ, Op.eqItems, Sem.run_bind, px w, py w, EqV.int he d w, Result.andThen_ok]
  rw [List.drop_eq_getElem_cons hx, List.drop_eq_getElem_cons hy]
  by_cases hp : xs[j] = ys[j]
  ·simp only [hp, decide_true, Bool.not_true, Bool.false_eq_true, if_false, List.cons.injEq, true_and]
   exact Co he m (j + 1) d xs ys w (by omega) hl
  ·simp only [hp, decide_false, Bool.not_false, if_true, Sem.run_pure, List.cons.injEq, false_and]
theorem EqV.Eb {n : Nat} {t e : TypeId} {k : IntKind} {x y : List Int} (ht : P.underlying t = some (.array n e)) (he : P.underlying e = some (.int k)) (hs : (P.info? e).map (·.size) = some 1) (hx : x.length = n) (hy : y.length = n) :
  EqV P 2 t (.agg (x.map (Value.int k)).toArray) (.agg (y.map (Value.int k)).toArray) (decide (x = y)) := fun d w => by
 obtain ⟨inf, hi, hsz⟩ := Option.map_eq_some_iff.1 hs
 have hc : P.cellsOf e = 1 := by simp [Program.cellsOf, hi, hsz]
 rw [show d + 2 = (d + 1) + 1 from rfl, run_equalIn_array w (d + 1) _ _ ht hi, hc, List.range_eq_range', Co he n 0 d x y w (by omega) (by omega)]
 simp
end
section
variable {P : Program} {env : Env} {ty t t' : TypeId} {x y : Operand} {w : World}
theorem Yl.KS {n : Nat} {xs ys : List Value} {b : Bool} (hx : ev env x = .agg xs.toArray) (hy : ev env y = .agg ys.toArray) (hg : P.eqGuardType P.depth t = false) (he : EqV P n t (.agg xs.toArray) (.agg ys.toArray) b) (hn : n ≤ 10000) :
  Yl P env (.binOp .eql t x y t') ty w (.bool b) w := by
 obtain ⟨k, hk⟩ := Nat.exists_eq_add_of_le hn
 have h1 := he k w
 rw [Nat.add_comm, ← hk] at h1
 show (execOp (ev env) _).run P w = _
 simp only [execOp, hx, hy, Sem.run_bind, run_eqGuard_agg w .eql t x y _ _ hg, Result.andThen_ok, run_eql_struct, h1, Sem.run_pure]
theorem Yl.KR {n : Nat} {xs ys : List Value} {b c : Bool} (hx : ev env x = .agg xs.toArray) (hy : ev env y = .agg ys.toArray) (hg : P.eqGuardType P.depth t = false) (he : EqV P n t (.agg xs.toArray) (.agg ys.toArray) b) (hn : n ≤ 10000) (hc : (!b) = c) :
  Yl P env (.binOp .neq t x y t') ty w (.bool c) w := by
 obtain ⟨k, hk⟩ := Nat.exists_eq_add_of_le hn
 have h1 := he k w
 rw [Nat.add_comm, ← hk] at h1
 subst hc
 show (execOp (ev env) _).run P w = _
 simp only [execOp, hx, hy, Sem.run_bind, run_eqGuard_agg w .neq t x y _ _ hg, Result.andThen_ok, run_neq_struct, h1, Sem.run_pure]
theorem Yl.KO {p q : Bool} (hx : ev env x = .bool p) (hy : ev env y = .bool q) (h : P.underlying t = some .bool) : Yl P env (.binOp .eql t x y t') ty w (.bool (decide (p = q))) w := Yl.KY hx hy fun w => by rw [run_equal_bool w t p q h]; cases p <;> cases q <;> rfl
theorem Yl.KF {p q : Bool} (hx : ev env x = .bool p) (hy : ev env y = .bool q) (h : P.underlying t = some .bool) : Yl P env (.binOp .neq t x y t') ty w (.bool (!decide (p = q))) w := Yl.K7 hx hy fun w => by rw [run_equal_bool w t p q h]; cases p <;> cases q <;> rfl
theorem Yl.KK {p q : ByteArray} (hx : ev env x = .string p) (hy : ev env y = .string q) : Yl P env (.binOp .eql t x y t') ty w (.bool (decide (p = q))) w := by
 show (execOp (ev env) _).run P w = _
 have hg : (eqGuard .eql t x y (.string p) (.string q)).run P w = .ok () w := rfl
 simp [execOp, hx, hy, hg, binOp_string_eql, Kk]
end
end Go.WG
namespace Go.WG
open Go Go.RowKit
set_option linter.unusedVariables false
set_option linter.unusedSimpArgs false
section
variable {P : Program} {env : Env} {ty t : TypeId} {x y : Operand} {w : World} {k : IntKind}
theorem Yl.Ib {k' : IntKind} {a : List Int} {n : Nat} {e : TypeId} {i : Int} (hx : ev env x = .agg (a.map (Value.int k')).toArray) (hy : ev env y = .int k i) (ht : P.underlying t = some (.array n e)) (he : P.underlying e = some (.int k')) (hs : (P.info? e).map (·.size) = some 1) (hl : a.length = n) (h : 0 ≤ i ∧ i < (a.length : Int)) :
  Yl P env (.index t x y) ty w (.int k' (a.getD i.toNat 0)) w := by
 obtain ⟨inf, hi, hsz⟩ := Option.map_eq_some_iff.1 hs
 have hlt : i.toNat < a.length := by omega
 have h2 : 0 ≤ i ∧ i < (n : Int) := by omega
 have hp : zL P e (a.map (Value.int k')) (i.toNat * 1) (.int k' (a.getD i.toNat 0)) := zL.one he rfl (by simp [hlt])
 show (execOp (ev env) _).run P w = _
 simp only [execOp, hx, hy, Instr.index, asIntOf, Sem.run_bind, Sem.run_pure, Result.andThen_ok, run_underlying ht, sizeOf, typeInfo, hi, hsz, h2, and_self, if_true, Nat.mul_one]
 have := hp w
 rw [Nat.mul_one] at this
 simp [h2, hi, hsz, this]
theorem Yl.F4 {k' : IntKind} {d : TypeDesc} {g off o : Nat} {cs pre post : List Value} {a : List Int} {i : Int} (hx : ev env x = .pointer (some ⟨g, off + o + i.toNat * 1, none⟩)) (hu : P.underlying t = some d) (hd : Ax d = false) (hs : Sub (CH.row g off cs) w) (hc : cs = pre ++ (a.map (Value.int k') ++ post)) (ho : pre.length = o) (h : 0 ≤ i ∧ i < (a.length : Int)) :
  Yl P env (.load t x) ty w (.int k' (a.getD i.toNat 0)) w := by
 have hlt : i.toNat < a.length := by omega
 refine Yl.Ad (g := g) (off := off) (o := o + i.toNat * 1) (cs := cs) (by rw [hx, Nat.add_assoc]) hu hd hs ?_
 subst hc; subst ho
 rw [Nat.mul_one, List.getElem?_append_right (by omega), Nat.add_sub_cancel_left, List.getElem?_append_left (by simpa using hlt)]
 simp [hlt]
theorem Sl.Kj {k' : IntKind} {F : CH} {g off o : Nat} {cs pre post : List Value} {a : List Int} (h : CH.le (CH.row g off cs) F) (hc : cs = pre ++ (a.map (Value.int k') ++ post)) (ho : pre.length = o) : Sl (Kd.int k') F F (some ⟨g, off + o, none⟩) a := fun _ => by
 refine ⟨g, off + o, rfl, fun j x hj => ⟨[.int k' x], rfl, fun i u hu => ?_⟩⟩
 subst hc; subst ho
 cases i with
 | succ i => simp at hu
 | zero =>
  simp only [List.getElem?_cons_zero, Option.some.injEq] at hu
  subst hu
  refine h _ _ _ ?_
  have hlt := (List.getElem?_eq_some_iff.1 hj).1
  have : (pre ++ (a.map (Value.int k') ++ post))[pre.length + j]? = some (.int k' x) := by
   rw [List.getElem?_append_right (by omega), Nat.add_sub_cancel_left, List.getElem?_append_left (by simpa using hlt), List.getElem?_map, hj]; rfl
  have := CH.yU (g := g) (off := off) this
  simpa [Kd.int, Kd.scalar, Nat.add_assoc] using this
theorem CH.IM {g off o : Nat} {cs us : List Value} (h : (cs.drop o).take us.length = us) : CH.le (CH.row g (off + o) us) (CH.row g off cs) := fun b x v hv => by
 obtain ⟨rfl, j, u, rfl, hj, rfl⟩ := CH.Ch hv
 rw [Nat.add_assoc]
 refine CH.yU ?_
 have hlt := (List.getElem?_eq_some_iff.1 hj).1
 rw [← h, List.getElem?_take, if_pos hlt, List.getElem?_drop] at hj
 exact hj
end
section
variable {P : Program} {w0 w : World} {F0 F : CH} {D : Nat → Nat → Prop} {ps ps1 ps2 : List CH}
theorem Hj {t : TypeId} {g off o : Nat} (cs pre post : List Value) (a : List Int) (k : IntKind) (i v : Int) (C : Ctx w0 F0 D w F (ps1 ++ CH.row g off cs :: ps2)) (hcs : cs = pre ++ (a.map (Value.int k) ++ post)) (ho : pre.length = o) (hi : 0 ≤ i ∧ i < (a.length : Int)) (hs : (P.info? t).map (·.size) = some 1) :
  ∃ w', (∀ (env : Env) (x y : Operand) (ty : TypeId), ev env x = .pointer (some ⟨g, off + o + i.toNat * 1, none⟩) → ev env y = .int k v → BR P env (.store t x y) ty w w') ∧ Ctx w0 F0 D w' F (ps1 ++ CH.row g off (pre ++ ((a.set i.toNat v).map (Value.int k) ++ post)) :: ps2) := by
 have hlt : i.toNat < a.length := by omega
 have hsplit : a = a.take i.toNat ++ [a[i.toNat]] ++ a.drop (i.toNat + 1) := by
  rw [List.append_assoc, List.singleton_append, ← List.drop_eq_getElem_cons hlt, List.take_append_drop]
 obtain ⟨w', hy, C'⟩ := ER (P := P) (t := t) (o := o + i.toNat) cs (pre ++ (a.take i.toNat).map (Value.int k)) [.int k a[i.toNat]] ((a.drop (i.toNat + 1)).map (Value.int k) ++ post) [.int k v] (.int k v) C
  (by rw [hcs]; (conv => lhs; rw [hsplit]); simp only [List.map_append, List.append_assoc, List.map_cons, List.map_nil]) (by rw [List.length_append, List.length_map, List.length_take]; omega) rfl rfl (by simp [Value.oneCell']) hs
 refine ⟨w', fun env x y ty hx hv => hy env x y ty (by rw [hx]; simp [Nat.add_assoc]) hv, ?_⟩
 have : pre ++ (a.take i.toNat).map (Value.int k) ++ [Value.int k v] ++ ((a.drop (i.toNat + 1)).map (Value.int k) ++ post) = pre ++ ((a.set i.toNat v).map (Value.int k) ++ post) := by
  rw [List.set_eq_take_append_cons_drop, if_pos hlt]
  simp
 rw [this] at C'
 exact C'
theorem Row.tail {α : Type} {K : Kd α} {p : CH} {A : Option Addr} {n c : Nat} {xs : List α} (h : Row K F p (.slice A n c) xs) (lo : Nat) (hlo : lo ≤ n) :
  ∃ A' c' m p', Value.slice (if c = lo then A else A.map (·.add (lo * K.sz))) (n - lo) (c - lo) = .slice A' m c' ∧ m = (xs.drop lo).length ∧ Row K F p' (.slice A' m c') (xs.drop lo) ∧ CH.le p' p := by
 rcases h with ⟨h1, rfl, rfl⟩ | ⟨g, off, cap, cur, h1, h2, h3, rfl, h5, h6, h7⟩
 ·injection h1 with e1 e2 e3
  subst e1 e2 e3
  have : lo = 0 := by omega
  subst this
  exact ⟨none, 0, 0, CH.emp, by simp, rfl, Row.nil _ _, CH.le_refl _⟩
 ·injection h1 with e1 e2 e3
  subst e1 e2 e3
  by_cases hc : c = lo
  ·have hd : xs.drop lo = [] := List.drop_eq_nil_of_le (by omega)
   refine ⟨_, _, _, CH.row g off [], rfl, by rw [hd, List.length_nil]; omega, ?_, by rw [CH.IY]; intro a b v hv; cases hv⟩
   rw [if_pos hc]
   refine .inr ⟨g, off, c - lo, [], by rw [hd, List.length_nil]; congr 1; omega, by rw [hd, List.length_nil]; omega, by omega, rfl, by rw [show c - lo = 0 by omega]; simp, by simp, ?_⟩
   rw [hd]; exact Els.nil K F []
  ·refine ⟨_, _, _, CH.row g (off + lo * K.sz) (cur.drop (lo * K.sz)), rfl, by rw [List.length_drop], ?_, ?_⟩
   ·rw [if_neg hc]
    refine .inr ⟨g, off + lo * K.sz, c - lo, cur.drop (lo * K.sz), ?_, by rw [List.length_drop]; omega, by omega, rfl, by rw [List.length_drop, h5, Nat.sub_mul], fun u hu => h6 u (List.mem_of_mem_drop hu), h7.drop lo⟩
    rw [List.length_drop]
    simp only [Option.map_some, Addr.add]
    congr 2
    split
    ·rename_i h0; rw [h0, Nat.add_zero]
    ·rfl
   ·refine CH.IM ?_
    rw [List.take_of_length_le (Nat.le_refl _)]
theorem Own.le {h h' : CH} (k : Own h w) (hl : CH.le h' h) : Own h' w := fun g o v hv => k g o v (hl g o v hv)
end
section
variable {P : Program} {env : Env} {ty t : TypeId} {w : World}
theorem Yl.yS {n sz : Nat} {e : TypeId} {z : Value} {xs : List (Nat × Operand)} {vs : List (Nat × Value)} {cs : Array Value} (ht : P.underlying t = some (.array n e)) (hs : (P.info? e).map (·.size) = some sz) (hz : (P.info? t).map (·.zero) = some (some z))
  (hx : xs.map (fun p => (p.1, ev env p.2)) = vs) (hf : Instr.fill (fun i => some (i * sz, sz)) z.cells vs = some cs) : Yl P env (.build t xs.toArray) ty w (.agg cs) w := by
 obtain ⟨inf, hi, hz'⟩ := Option.map_eq_some_iff.1 hz
 obtain ⟨inf2, hi2, hsz⟩ := Option.map_eq_some_iff.1 hs
 show (execOp (ev env) _).run P w = _
 have hx2 : List.map (fun (p : Nat × Operand) => (p.fst, ev env p.snd)) xs = vs := hx
 simp [execOp, Instr.build, zeroValue, typeInfo, hi, hz', run_underlying ht, sizeOf, hi2, hsz, hx2, hf]
inductive zF (place : Nat → Option (Nat × Nat)) : List (Nat × Value) → List Value → List Value → Prop
 | nil {a : List Value} : zF place [] a a
 | cons {i off n : Nat} {v : Value} {us a b c : List Value} {rest : List (Nat × Value)} (hv : v.cells = us.toArray) (hp : place i = some (off, n)) (hn : us.length = n) (ha : off + n ≤ a.length) (e : a.take off ++ us ++ a.drop (off + n) = b) (h : zF place rest b c) : zF place ((i, v) :: rest) a c
theorem zF.run {place : Nat → Option (Nat × Nat)} {vs : List (Nat × Value)} {a c : List Value} (h : zF place vs a c) : Instr.fill place a.toArray vs = some c.toArray := by
 induction h with
 | nil => rfl
 | cons hv hp hn ha e _ ih =>
  subst hn
  rw [CR place _ _ _ _ _ _ hv hp ha, e]
  exact ih
end
end Go.WG
namespace Go.WG
open Go Go.RowKit
section
variable {P : Program} {w0 w : World} {F0 F : CH} {D : Nat → Nat → Prop} {ps1 ps2 : List CH}
theorem Ha {t : TypeId} {g off o : Nat} (cs cs' pre post : List Value) (a : List Int) (k : IntKind) (i v : Int) (C : Ctx w0 F0 D w F (ps1 ++ CH.row g off cs :: ps2)) (hcs : cs = pre ++ (a.map (Value.int k) ++ post)) (hcs' : cs' = pre ++ ((a.set i.toNat v).map (Value.int k) ++ post)) (ho : pre.length = o) (hi : 0 ≤ i ∧ i < (a.length : Int)) (hs : (P.info? t).map (·.size) = some 1) :
  ∃ w', (∀ (env : Env) (x y : Operand) (ty : TypeId), ev env x = .pointer (some ⟨g, off + o + i.toNat * 1, none⟩) → ev env y = .int k v → BR P env (.store t x y) ty w w') ∧ Ctx w0 F0 D w' F (ps1 ++ CH.row g off cs' :: ps2) := by
 subst hcs'
 exact Hj cs pre post a k i v C hcs ho hi hs
end
end Go.WG
namespace Go.WG
theorem wN (k : IntKind) (a : List Int) : ∀ u ∈ a.map (Value.int k), u.oneCell' = true := fun u hu => by
 obtain ⟨y, _, rfl⟩ := List.mem_map.1 hu
 rfl
theorem yB {a b : List Value} (ha : ∀ u ∈ a, u.oneCell' = true) (hb : ∀ u ∈ b, u.oneCell' = true) : ∀ u ∈ a ++ b, u.oneCell' = true := fun u hu => by
 rcases List.mem_append.1 hu with h | h
 ·exact ha u h
 ·exact hb u h
end Go.WG
namespace Go.WG
theorem uY {x : Option Nat} {n m : Nat} (h : x = some n) (e : m = n) : x = some m := by rw [e]; exact h
theorem xX {α : Type} (us : List α) : (us.drop 0).take us.length = us := by rw [List.drop_zero, List.take_length]
end Go.WG
namespace Go.WG
open Go Go.RowKit
theorem Ed (k : IntKind) : ∀ xs : List Int, Dj (Kd.int k) CH.emp xs (xs.map (Value.int k))
 | [] => .nil
 | x :: xs => .cons (show (Kd.int k).rep CH.emp x (Value.int k x).cells.toList from rfl) (Ed k xs)
theorem EB (k : IntKind) : ∀ xs : List Int, (xs.map (Value.int k)).flatMap (·.cells.toList) = xs.map (Value.int k)
 | [] => rfl
 | x :: xs => by rw [List.map_cons, List.flatMap_cons, EB k xs]; rfl
theorem zK (k : IntKind) (xs : List Int) (z : Value) (a : List Value) (hz : z.cells = a.toArray) (hl : a.length = xs.length) : Instr.fill (fun i => some (i * 1, 1)) z.cells (wF 0 (xs.map (Value.int k))) = some (xs.map (Value.int k)).toArray := by
 have := DJ (Ed k xs) 0 a (by simp [Kd.int, Kd.scalar, hl])
 rw [hz]
 simp only [Kd.int, Kd.scalar] at this
 rw [this, EB, List.length_map]
 simp [hl]
end Go.WG
namespace Go.WG
theorem zF.seg {place : Nat → Option (Nat × Nat)} {i off n : Nat} {v : Value} {us a b c pre z post : List Value} {rest : List (Nat × Value)} (hv : v.cells = us.toArray) (hp : place i = some (off, n)) (hn : us.length = n) (ha : a = pre ++ (z ++ post)) (hb : b = pre ++ (us ++ post)) (ho : pre.length = off) (hz : z.length = n) (h : zF place rest b c) : zF place ((i, v) :: rest) a c := by
 subst ha hb ho
 refine .cons hv hp hn (by simp only [List.length_append]; omega) ?_ h
 rw [List.take_left, ← List.append_assoc, List.drop_append, List.drop_eq_nil_of_le (by rw [List.length_append]; omega), List.nil_append, List.length_append, hz, Nat.sub_self, List.drop_zero, List.append_assoc]
end Go.WG
namespace Go.WG
open Go Go.RowKit
def GH (Q : Exit → Env → World → Prop) : Exit → Env → World → Prop
 | .goto _, _, _ => False
 | e, env, w => Q e env w
section
variable {P : Program} {N : Nat} {Q : Exit → Env → World → Prop} {env : Env} {w : World}
theorem W.scope {c : Code} (h : W P N c (GH Q) env w) : W P N (.scope c) Q env w := fun a ha =>
 wp_scope_straight (Go.wp_mono (h a ha) fun e a' w' ⟨env', hf, hQ⟩ => by
  cases e with
  | goto l => exact hQ.elim
  | _ => exact ⟨env', hf, hQ⟩)
theorem Kq (h : Q .ret env w) : GH Q .ret env w := h
end
end Go.WG
namespace Go.WG
end Go.WG
namespace Go.WG
open Go Go.RowKit
section
variable {P : Program} {N : Nat} {ops : Array Oper} {Ms : List (List Nat × CH)} {R : Env → World → Prop} {env : Env} {w : World} {fuel : Nat} {listed : Array Bool}
theorem WA.KP (i : Nat) {o : Oper} {L : Array Bool} (hr : Region.ready .any ops listed = [i]) (hi : ops[i]? = some o) (hd : yP N o = true) (hw : Region.wanted o (uE ops env) = false) (hl : listed.setIfInBounds i true = L) (hs : SLc Ms i listed w) (h : WA P N ops Ms R fuel L (zW env o.dst undef) w) :
  WA P N ops Ms R (fuel + 1) listed env w := fun hcl a ha => by
 refine ⟨fun h => (by rw [hr] at h; cases h), fun j hj => ?_⟩
 have hji : j = i := by
  have h2 : j ∈ [i] := hr ▸ hj
  exact List.mem_singleton.1 h2
 subst hji
 obtain ⟨_, oj, hoj, hall⟩ := mem_ready.1 hj
 rw [hi] at hoj
 injection hoj with hoj
 subst hoj
 subst hl
 unfold wpOp
 simp only [hi]
 rw [ha.yielded ops, if_neg (by rw [hw]; simp)]
 exact ⟨hs, h (hcl.set hi hall) _ (ha.La hd undef)⟩
theorem WA.JI (i : Nat) {dst : Option Nat} {op : Op} {ty : TypeId} {pos : String} {aft : Array Edge} {j : Nat} {b : Bool} {x : Nat} {L : Array Bool} (hr : Region.ready .any ops listed = [i]) (hi : ops[i]? = some ⟨dst, op, ty, pos, aft, some (j, b)⟩) (hj : (ops[j]?).bind (·.dst) = some x) (hx : env x = .bool (!b)) (hd : yP N ⟨dst, op, ty, pos, aft, some (j, b)⟩ = true) (hl : listed.setIfInBounds i true = L) (hs : SLc Ms i listed w) (h : WA P N ops Ms R fuel L (zW env dst undef) w) :
  WA P N ops Ms R (fuel + 1) listed env w := WA.KP i hr hi hd (by unfold Region.wanted uE; simp only [hj, hx]; cases b <;> simp) hl hs h
end
end Go.WG
namespace Go.WG
open Go.RowKit
set_option linter.unusedVariables false
set_option linter.unusedSimpArgs false
section
variable {P : Program} {env : Env} {w w' : World} {ty t t2 e : TypeId} {x y : Operand}
theorem Yl.DI {A : Option Addr} {n c : Nat} {xs : List Int} {F h : CH} (hx : Go.WG.ev env x = .slice A n c) (hn : n = xs.length) (hS : Sl (Kd.int .u8) F h A xs) (hs : Sub h w) (ht : P.underlying t = some (.slice e)) (he : P.underlying e = some (.int .u8)) (hd : P.underlying t2 = some .string) : Yl P env (.convert t t2 x) ty w (.string (strOfNums xs)) w := by
 have key : (convert t t2 (.slice A n c)).run P w = .ok (.string (strOfNums xs)) w := by
  cases xs with
  | nil =>
   subst hn
   cases A with
   | none => exact run_convert_bytes_nil w t e ht he 0 c t2 hd
   | some a =>
    rw [List.length_nil, run_convert_bytes_string w t t2 e _ _ c ht he hd, run_bytesToString w a 0 c [] (by simp only [loadCells, loadCellsFrom]; rfl)]
    rfl
  | cons z zs =>
   obtain ⟨b, off, rfl, hel⟩ := hS (by simp)
   refine run_convert_bytes_arg w t e ht he b off n c (z :: zs) hn.symm (fun i hi => ?_) t2 hd
   have hi' : i < (z :: zs).length := by omega
   obtain ⟨cs, hr, hc⟩ := hel i ((z :: zs).getD i 0) (by rw [List.getD_eq_getElem?_getD, List.getElem?_eq_getElem hi', Option.getD_some])
   have hr' : cs = [Value.int .u8 ((z :: zs).getD i 0)] := hr
   subst hr'
   have h1 := hs.cell (hc 0 _ rfl)
   have e1 : off + i * (Kd.int .u8).sz + 0 = off + i := by show off + i * 1 + 0 = off + i; omega
   rw [e1] at h1
   exact h1
 show (execOp (Go.WG.ev env) _).run P w = _
 simp [execOp, hx, key]
end
section
variable {α β γ : Type} [DecidableEq α] {ek : α → Value} {ek2 : β → Value} {ev2 : γ → Value} {P : Program} {w : World} {p : CH} {g : Nat} {L : List (α × List (β × γ))} {d : TypeDesc}
theorem Cd {τ δ : Type} (f : τ → δ) (h : τ → α) (T : List τ) (k : α) : xN (T.map fun t => (h t, f t)) k = (T.find? fun t => decide (h t = k)).map f := by
 unfold xN
 rw [List.find?_map, Option.map_map]
 rfl
def IX (ek : α → Value) (ek2 : β → Value) (ev2 : γ → Value) (p : CH) (g : Nat) (L : List (α × List (β × γ))) : Prop :=
 ∃ (T : List (α × Nat × CH × List (β × γ))) (pm : CH), CH.le pm p ∧ Cl ek (fun g => Value.map (some g)) pm g (T.map fun t => (t.1, t.2.1)) ∧ (∀ t ∈ T, CH.le t.2.2.1 p ∧ Cl ek2 ev2 t.2.2.1 t.2.1 t.2.2.2) ∧ L = T.map fun t => (t.1, t.2.2.2)
def Ko (ek2 : β → Value) (ev2 : γ → Value) (p : CH) (v : Value) (l : List (β × γ)) : Prop := (v = .map none ∧ l = []) ∨ ∃ g q, v = .map (some g) ∧ CH.le q p ∧ Cl ek2 ev2 q g l
theorem IX.get {t kt et : TypeId} (hM : IX ek ek2 ev2 p g L) (ht : P.underlying t = some (.map kt et)) (hu : P.underlying kt = some d) (hd : HU d = true) (hk : B7 d ek) (hz : (P.info? et).map (·.zero) = some (some (.map none))) (k : α) :
  ∃ v, Ko ek2 ev2 p v ((xN L k).getD []) ∧ ∀ (w : World) (_ : Sub p w) (env : Env) (ty : TypeId) (x y : Operand), Go.WG.ev env x = .map (some g) → Go.WG.ev env y = ek k → Yl P env (.lookup t x y false) ty w v w := by
 obtain ⟨T, pm, hle, hR, hT, rfl⟩ := hM
 have e0 := Cd (fun t : α × Nat × CH × List (β × γ) => t.2.2.2) (fun t => t.1) T k
 rw [e0]
 have e := Cd (fun t : α × Nat × CH × List (β × γ) => t.2.1) (fun t => t.1) T k
 cases hf : T.find? (fun t => decide (t.1 = k)) with
 | none =>
  rw [hf] at e
  refine ⟨.map none, .inl ⟨rfl, rfl⟩, fun w hs env ty x y hx hy => Yl.lookup hR (hs.mono hle) ht hu hd hk hz k hx hy ?_⟩
  rw [e]; rfl
 | some q =>
  rw [hf] at e
  have hm := List.mem_of_find?_eq_some hf
  refine ⟨.map (some q.2.1), .inr ⟨q.2.1, q.2.2.1, rfl, (hT q hm).1, (hT q hm).2⟩, fun w hs env ty x y hx hy => Yl.lookup hR (hs.mono hle) ht hu hd hk hz k hx hy ?_⟩
  rw [e]; rfl
theorem Yl.Ku {t kt et ty : TypeId} {env : Env} {x : Operand} {v : Value} {l : List (β × γ)} (hV : Ko ek2 ev2 p v l) (hs : Sub p w) (hx : Go.WG.ev env x = v) (ht : P.underlying t = some (.map kt et)) : Yl P env (.call { callee := .builtin .len, args := #[x], argTypes := #[t] }) ty w (.int .i64 (l.length : Int)) w := by
 show (execOp (Go.WG.ev env) _).run P w = _
 rcases hV with ⟨rfl, rfl⟩ | ⟨g, q, rfl, hle, es, clock, rfl, hE⟩
 ·simp [execOp, resolve, invoke, builtin, Builtin.len_, hx, run_underlying ht, goInt]
 ·have hh := BN (hs.mono hle)
  have hl : es.size = l.length := by
   have := congrArg List.length hE.ent
   simpa using this
  simp [execOp, resolve, invoke, builtin, Builtin.len_, hx, run_underlying ht, goInt, getObj, Sem.run, hh, hl]
theorem Ctx.Gq {w0 w : World} {F0 F : CH} {D : Nat → Nat → Prop} : ∀ (ps pre rest : List CH), Ctx w0 F0 D w F (pre ++ ps ++ rest) → ∃ p, Ctx w0 F0 D w F (pre ++ p :: rest) ∧ ∀ q ∈ ps, CH.le q p
 | [], pre, rest, h => by
  rw [List.append_nil] at h
  refine ⟨CH.emp, (Ctx.emp h).perm ?_, fun q hq => by cases hq⟩
  exact (List.perm_middle (l₁ := pre) (a := CH.emp) (l₂ := rest)).symm
 | a :: ps, pre, rest, h => by
  have h' : Ctx w0 F0 D w F ((pre ++ [a]) ++ ps ++ rest) := by simpa using h
  obtain ⟨p, hC, hl⟩ := Ctx.Gq ps (pre ++ [a]) rest h'
  have hC' : Ctx w0 F0 D w F (pre ++ a :: p :: rest) := by simpa using hC
  have hdis : CH.dis a p := by
   have := (List.pairwise_append.1 hC'.pair).2.1
   exact (List.pairwise_cons.1 this).1 p (by simp)
  refine ⟨CH.join a p, Ctx.join pre rest hC', fun q hq => ?_⟩
  rcases List.mem_cons.1 hq with rfl | hq
  ·exact CH.BI _ _
  ·exact CH.le_trans (hl q hq) (CH.BH hdis)
end
section
variable {P : Program} {w0 w w' : World} {F0 F : CH} {D : Nat → Nat → Prop} {ps : List CH}
open Go.ChangeMaps (setBlock)
theorem Ctx.stay (h : Ctx w0 F0 D w F ps) (m : Mod (fun _ _ => False) w w') : Ctx w0 F0 D w' F ps :=
 ⟨h.mod.trans m (fun _ _ _ h => h.elim), h.le, h.fro.mod m (fun _ _ _ => id), h.dom, fun p hp => ⟨(h.own p hp).1.mod m (fun _ _ _ => id), (h.own p hp).2⟩, h.pair⟩
theorem CQ {r o : Nat} {m : Option Nat} {s c : Nat} {seen : Array Nat} (hr : w.heap[r]? = some (.mapIter m s seen c)) : look w r o = none := by
 unfold look; rw [hr]
theorem Ctx.setIter {r : Nat} {m m' : Option Nat} {s c s' c' : Nat} {seen seen' : Array Nat} (h : Ctx w0 F0 D w F ps) (hr : w.heap[r]? = some (.mapIter m s seen c)) (hb : w0.heap.size ≤ r) : Ctx w0 F0 D (setBlock w r (.mapIter m' s' seen' c')) F ps := by
 have hset := MapKept.heap_set (o' := Obj.mapIter m' s' seen' c') hr
 have hlook : ∀ g o, look (setBlock w r (.mapIter m' s' seen' c')) g o = look w g o := fun g o => by
  by_cases hg : g = r
  ·subst hg
   rw [CQ hr, CQ (w := setBlock w g (.mapIter m' s' seen' c')) hset.1]
  ·exact Ai (hset.2 g hg) o
 have hfro : ∀ g o, (setBlock w r (.mapIter m' s' seen' c')).frozen? ⟨g, o, none⟩ = w.frozen? ⟨g, o, none⟩ := fun g o => by
  unfold World.frozen?
  by_cases hg : g = r
  ·subst hg
   have e : (setBlock w g (.mapIter m' s' seen' c')).heap[g]? = _ := hset.1
   simp only [e, hr]
  ·have e : (setBlock w r (.mapIter m' s' seen' c')).heap[g]? = _ := hset.2 g hg
   simp only [e]
 have hne : ∀ g, g < w0.heap.size → g ≠ r := fun g hg e => by omega
 refine ⟨⟨h.mod.os, h.mod.tape, h.mod.output, Nat.le_trans h.mod.size (by simp [setBlock]), fun g hg hn => (hset.2 g (hne g hg)).trans (h.mod.block g hg hn), fun g o hg hn => (hlook g o).trans (h.mod.cell g o hg hn), fun g o hg => (hfro g o).trans (h.mod.froz g o hg)⟩, h.le, fun g o v hv => by rw [hlook]; exact h.fro g o v hv, h.dom, fun p hp => ⟨fun g o v hv => by rw [hlook, hfro]; exact (h.own p hp).1 g o v hv, (h.own p hp).2⟩, h.pair⟩
structure Iter {α β : Type} (ek : α → Value) (ev : β → Value) (w : World) (r g : Nat) (es : Array MapEntry) (clock : Nat) (ks : List α) (left : Nat) : Prop where
 seen : ∃ vs : List MapEntry, w.heap[r]? = some (.mapIter (some g) clock (vs.map (·.born)).toArray clock) ∧ (∀ e ∈ vs, e ∈ es.toList) ∧ (vs.map (·.born)).Nodup ∧ vs.map (·.key) = ks.map ek ∧ (leftOf es (vs.map (·.born)).toArray).size = left
theorem Il {α β : Type} {ek : α → Value} {ev' : β → Value} {l : List (α × β)} {t kt et : TypeId} {g : Nat} {es : Array MapEntry} {clock : Nat} (C : Ctx w0 F0 D w F ps) (hs : Sub (CH.mp g es clock) w) (ht : P.underlying t = some (.map kt et)) :
  ∃ r w', (∀ (env : Env) (ty : TypeId) (x : Operand), ev env x = .map (some g) → Yl P env (.range t x) ty w (.pointer (some ⟨r, 0, none⟩)) w') ∧ Ctx w0 F0 D w' F ps ∧ w0.heap.size ≤ r ∧ Iter ek ev' w' r g es clock ([] : List α) (leftOf es #[]).size := by
 refine ⟨w.heap.size, _, fun env ty x hx => ?_, C.stay (Mod.alloc _ w _), C.mod.size, ⟨[], (heap_alloc_new w (.mapIter (some g) clock #[] clock)), by simp, by simp, rfl, rfl⟩⟩
 show (execOp (ev env) _).run P w = _
 have := run_range_map (P := P) w t kt et g es clock ht (BN hs)
 simp [execOp, hx, this]
theorem D6 {es : List MapEntry} (h : (es.map (·.born)).Nodup) {a b : MapEntry} (ha : a ∈ es) (hb : b ∈ es) (e : a.born = b.born) : a = b := by
 obtain ⟨i, hi⟩ := List.getElem?_of_mem ha
 obtain ⟨j, hj⟩ := List.getElem?_of_mem hb
 have : i = j := Ee (x := a.born) h (by rw [List.getElem?_map, hi]; rfl) (by rw [List.getElem?_map, hj, e]; rfl)
 subst this
 rw [hi] at hj
 injection hj
theorem Bo {α β : Type} (f : α → β) : ∀ {l : List α}, (l.map f).Nodup → l.Nodup
 | [], _ => List.nodup_nil
 | a :: l, h => by
  rw [List.map_cons, List.nodup_cons] at h
  exact List.nodup_cons.2 ⟨fun hm => h.1 (List.mem_map.2 ⟨a, hm, rfl⟩), Bo f h.2⟩
theorem Ba : ∀ (l m : List Nat), l.Nodup → (∀ x ∈ l, x ∈ m) → l.length ≤ m.length
 | [], m, _, _ => Nat.zero_le _
 | a :: l, m, h, hs => by
  have ha := hs a (by simp)
  obtain ⟨h1, h2⟩ := List.nodup_cons.1 h
  have := Ba l (m.erase a) h2 fun x hx => (List.mem_erase_of_ne (fun e : x = a => h1 (by rw [← e]; exact hx))).2 (hs x (List.mem_cons_of_mem _ hx))
  rw [List.length_erase_of_mem ha] at this
  have hm : 0 < m.length := List.length_pos_of_mem ha
  rw [List.length_cons]; omega
theorem Iter.next {α β : Type} {ek : α → Value} {ev' : β → Value} {l : List (α × β)} {r g : Nat} {es : Array MapEntry} {clock : Nat} {ks : List α} {left : Nat} (dec : Value → α) (hdec : ∀ a, dec (ek a) = a) (I : Iter ek ev' w r g es clock ks left) (C : Ctx w0 F0 D w F ps) (hs : Sub (CH.mp g es clock) w) (hr : w0.heap.size ≤ r) (hM : Dy ek ev' es clock l) :
  (ks.Perm (l.map (·.1)) ∧ ∀ (env : Env) (ty : TypeId) (x : Operand), ev env x = .pointer (some ⟨r, 0, none⟩) → Yl P env (.next x false) ty w (.tuple #[.bool false]) w) ∨
  ∃ k v w' left', left' < left ∧ ks.length < l.length ∧ (∀ (env : Env) (ty : TypeId) (x : Operand), ev env x = .pointer (some ⟨r, 0, none⟩) → Yl P env (.next x false) ty w (.tuple #[.bool true, ek k, v]) w') ∧ Ctx w0 F0 D w' F ps ∧ Iter ek ev' w' r g es clock (ks ++ [k]) left' ∧ (∀ (env : Env) (ty : TypeId) (x : Operand), ev env x = .pointer (some ⟨r, 0, none⟩) → Yl P env (.entry x) ty w' (.tuple #[ek k, v]) w') := by
 obtain ⟨vs, hri, hmem, hnd, hks, hleft⟩ := I.seen
 have hb := BN hs
 have hlen : ks.length = vs.length := by have := congrArg List.length hks; simpa using this.symm
 have hll : es.toList.length = l.length := by have := congrArg List.length hM.ent; simpa using this
 have hlt : ∀ n, n < es.toList.length → n < l.length := fun n h => by omega
 rcases run_next_at (P := P) w 0 r g clock clock (vs.map (·.born)).toArray es clock hri hb hM.born (Nat.le_refl _) with ⟨h0, hrun⟩ | ⟨e, he, w1, hw1, hrun⟩
 ·left
  refine ⟨?_, fun env ty x hx => ?_⟩
  ·have hall : ∀ e ∈ es.toList, e ∈ vs := fun e he => by
    have := all_seen es _ h0 e he
    rw [List.contains_toArray, List.contains_iff_mem, List.mem_map] at this
    obtain ⟨v, hv, hvb⟩ := this
    rw [← D6 hM.uniq (hmem v hv) he hvb]; exact hv
   have hp : vs.Perm es.toList := (List.perm_ext_iff_of_nodup (Bo _ hnd) (Bo _ hM.uniq)).2 fun e => ⟨hmem e, hall e⟩
   have h1 := (hp.map (·.key)).map dec
   rw [hks, List.map_map] at h1
   have h2 : (es.toList.map (·.key)).map dec = l.map (·.1) := by
    have := congrArg (List.map (fun q : Value × Value => dec q.1)) hM.ent
    rw [List.map_map, List.map_map] at this
    rw [List.map_map]
    refine this.trans ?_
    exact List.map_congr_left fun q _ => hdec q.1
   rw [h2] at h1
   have h3 : ks.map (dec ∘ ek) = ks := by
    rw [show (dec ∘ ek) = id from funext hdec, List.map_id]
   rwa [h3] at h1
  ·show (execOp (ev env) _).run P w = _
   have hrun' : (Instr.next (.pointer (some ⟨r, 0, none⟩)) false ty).run P w = _ := hrun
   simp [execOp, hx, hrun']
 ·right
  obtain ⟨hem, hes⟩ := mem_left he
  obtain ⟨i, hi⟩ := List.getElem?_of_mem hem
  have hil : i < es.toList.length := (List.getElem?_eq_some_iff.1 hi).1
  have hent : (e.key, e.val) = (ek (l[i]'(hlt i hil)).1, ev' (l[i]'(hlt i hil)).2) := by
   have := congrArg (fun z => z[i]?) hM.ent
   simp only [List.getElem?_map, hi, List.getElem?_eq_getElem (hlt i hil), Option.map_some] at this
   injection this
  have hkey : e.key = ek (l[i]'(hlt i hil)).1 := congrArg Prod.fst hent
  generalize (l[i]'(hlt i hil)).1 = k at hkey
  have hnot : e.born ∉ vs.map (·.born) := fun h => by
   have : (vs.map (·.born)).toArray.contains e.born = true := by rw [List.contains_toArray, List.contains_iff_mem]; exact h
   rw [hes] at this; cases this
  have hnd2 : ((vs ++ [e]).map (·.born)).Nodup := by
   rw [List.map_append, List.nodup_append]
   refine ⟨hnd, by simp, fun a ha b hb2 => ?_⟩
   simp only [List.map_cons, List.map_nil, List.mem_singleton] at hb2
   subst hb2
   exact fun e2 => hnot (e2 ▸ ha)
  have hpush : (vs.map (·.born)).toArray.push e.born = ((vs ++ [e]).map (·.born)).toArray := by simp
  have hkl : ks.length < l.length := by
   have h1 := Ba ((vs ++ [e]).map (·.born)) (es.toList.map (·.born)) hnd2 (fun z hz => by
    obtain ⟨y, hy, rfl⟩ := List.mem_map.1 hz
    refine List.mem_map.2 ⟨y, ?_, rfl⟩
    rcases List.mem_append.1 hy with h | h
    ·exact hmem y h
    ·rw [List.mem_singleton.1 h]; exact hem)
   rw [List.length_map, List.length_map, List.length_append, List.length_singleton] at h1
   omega
  have hri1 : w1.heap[r]? = some (.mapIter (some g) clock (vs.map (·.born)).toArray clock) := by rcases hw1 with rfl | rfl <;> exact hri
  have hb1 : w1.heap[g]? = some (.map es clock) := by rcases hw1 with rfl | rfl <;> exact hb
  have C1 : Ctx w0 F0 D w1 F ps := by
   rcases hw1 with rfl | rfl
   ·exact C
   ·exact C.drewN 1
  have hgr : g ≠ r := fun e2 => by rw [e2, hri] at hb; cases hb
  have hset := MapKept.heap_set (o' := Obj.mapIter (some g) clock ((vs.map (·.born)).toArray.push e.born) clock) hri1
  refine ⟨k, e.val, setBlock w1 r (.mapIter (some g) clock ((vs.map (·.born)).toArray.push e.born) clock), (leftOf es ((vs ++ [e]).map (·.born)).toArray).size, ?_, hkl, fun env ty x hx => ?_, C1.setIter hri1 hr, ⟨vs ++ [e], by rw [← hpush]; exact hset.1, fun z hz => ?_, hnd2, ?_, rfl⟩, fun env ty x hx => ?_⟩
  ·rw [← hpush, ← hleft]; exact left_shrinks es _ e he
  ·show (execOp (ev env) _).run P w = _
   have hrun' : (Instr.next (.pointer (some ⟨r, 0, none⟩)) false ty).run P w = _ := hrun
   rw [hkey] at hrun'
   simp [execOp, hx, hrun']
  ·rcases List.mem_append.1 hz with h | h
   ·exact hmem z h
   ·rw [List.mem_singleton.1 h]; exact hem
  ·rw [List.map_append, List.map_append, hks, List.map_cons, List.map_cons, hkey]; rfl
  ·show (execOp (ev env) _).run P _ = _
   have hrun' := run_entry_at (P := P) (setBlock w1 r (.mapIter (some g) clock ((List.map (fun x : MapEntry => x.born) vs).toArray.push e.born) clock)) r g clock (List.map (fun x : MapEntry => x.born) vs).toArray es clock e hset.1 ((hset.2 g hgr).trans hb1) hem hM.uniq
   rw [hkey] at hrun'
   generalize setBlock w1 r (.mapIter (some g) clock ((List.map (fun x : MapEntry => x.born) vs).toArray.push e.born) clock) = W at hrun' ⊢
   simp [execOp, hx, hrun']
theorem Ctx.Lf {w0 w : World} {F0 F : CH} {D : Nat → Nat → Prop} {ps : List CH} (h : Ctx w0 F0 D w F ps) : Pre w F ps := ⟨h.fro, fun p hp => ⟨(h.own p hp).1, (h.own p hp).2.1⟩, h.pair⟩
theorem Ctx.Kf {w0 w w' : World} {F0 F F' : CH} {D : Nat → Nat → Prop} {ps ps' : List CH} (h : Ctx w0 F0 D w F ps) (k : Ctx w F (sR ps) w' F' ps') : Ctx w0 F0 D w' F' ps' := by
 have := Ctx.call (qs := ps) (rest := []) (by simpa using h) k
 simpa using this
theorem Ctx.AS {w0 w : World} {F0 F : CH} {D : Nat → Nat → Prop} {ps : List CH} {p : CH} (h : Ctx w0 F0 D w F ps) (hp : p ∈ ps) : Sub p w := (h.own p hp).1.sub
theorem Iter.K4 {α β : Type} {ek : α → Value} {ev' : β → Value} {r g : Nat} {es : Array MapEntry} {clock : Nat} {ks : List α} {left : Nat} {F' : CH} {ps' : List CH} (I : Iter ek ev' w r g es clock ks left) (C : Ctx w0 F0 D w F ps) (k : Ctx w F (sR ps) w' F' ps') : Iter ek ev' w' r g es clock ks left := by
 obtain ⟨vs, hri, h⟩ := I.seen
 have hlt : r < w.heap.size := (Array.getElem?_eq_some_iff.1 hri).1
 refine ⟨vs, (k.mod.block r hlt fun o ho => ?_).trans hri, h⟩
 obtain ⟨p, hp, hn⟩ := ho
 cases hv : p r o with
 | none => exact hn hv
 | some v => have := (C.own p hp).1.sub r o v hv; rw [CQ hri] at this; cases this
end
end Go.WG
namespace Go.WG
open Go.RowKit
set_option linter.unusedVariables false
set_option linter.unusedSimpArgs false
theorem rR {us : List Value} (h : us.all (fun u => u.oneCell') = true) : ∀ u ∈ us, u.oneCell' = true := fun u hu => List.all_eq_true.1 h u hu
def Gf (n : Nat) : List Nat → Bool
 | [] => true
 | i :: r => (Nat.ble n i || !r.any (Nat.beq i)) && Gf n r
section
variable {w0 w w' : World} {F0 F : CH} {D : Nat → Nat → Prop} {ps : List CH}
theorem FP (hp : ps.Pairwise CH.dis) : ∀ {i j : Nat}, i ≠ j → CH.dis (ps.getD i CH.emp) (ps.getD j CH.emp) := fun {i j} hij => by
 rw [List.getD_eq_getElem?_getD, List.getD_eq_getElem?_getD]
 by_cases hi : i < ps.length
 ·by_cases hj : j < ps.length
  ·rw [List.getElem?_eq_getElem hi, List.getElem?_eq_getElem hj]
   rcases Nat.lt_or_gt_of_ne hij with h | h
   ·exact List.pairwise_iff_getElem.1 hp i j hi hj h
   ·exact CH.xK (List.pairwise_iff_getElem.1 hp j i hj hi h)
  ·rw [List.getElem?_eq_none (l := ps) (i := j) (by omega)]; exact CH.Dp _
 ·rw [List.getElem?_eq_none (l := ps) (i := i) (by omega)]; exact CH.GN _
theorem Ctx.pick (is : List Nat) (h : Ctx w0 F0 D w F ps) (hn : Gf ps.length is = true) : Ctx w0 F0 D w F (is.map fun i => ps.getD i CH.emp) := by
 refine ⟨h.mod, h.le, h.fro, h.dom, fun p hp => ?_, ?_⟩
 ·obtain ⟨i, _, rfl⟩ := List.mem_map.1 hp
  by_cases hi : i < ps.length
  ·rw [List.getD_eq_getElem?_getD, List.getElem?_eq_getElem hi]
   exact h.own _ (List.getElem_mem hi)
  ·rw [List.getD_eq_getElem?_getD, List.getElem?_eq_none (by omega)]
   exact ⟨fun _ _ _ hv => (by cases hv), CH.Dp _, fun g o hn => absurd rfl hn⟩
 ·induction is with
  | nil => exact .nil
  | cons i r ih =>
   unfold Gf at hn
   rw [Bool.and_eq_true] at hn
   refine List.pairwise_cons.2 ⟨fun q hq => ?_, ih hn.2⟩
   obtain ⟨j, hj, rfl⟩ := List.mem_map.1 hq
   by_cases hij : i = j
   ·subst hij
    rcases (Bool.or_eq_true _ _).mp hn.1 with h1 | h1
    ·have := Nat.le_of_ble_eq_true h1
     rw [List.getD_eq_getElem?_getD, List.getElem?_eq_none (by omega)]
     exact CH.Dp _
    ·have : (r.any (Nat.beq i)) = true := List.any_eq_true.2 ⟨i, hj, Nat.beq_refl i⟩
     rw [this] at h1; cases h1
   ·exact FP h.pair hij
theorem Ctx.rO (i : Nat) (h : Ctx w0 F0 D w F ps) {p : CH} (hp : ps[i]? = some p) : Sub p w := (h.own p (List.mem_of_getElem? hp)).1.sub
theorem Ctx.fz (ps1 ps2 : List CH) {p : CH} (h : Ctx w0 F0 D w F (ps1 ++ p :: ps2)) : ∃ F', CH.le F F' ∧ CH.le p F' ∧ Ctx w0 F0 D w F' (ps1 ++ ps2) :=
 ⟨CH.join F p, CH.BI _ _, CH.BH (Ctx.Jp ps1 ps2 h), Ctx.freeze ps1 ps2 h⟩
theorem Ctx.fzI (i : Nat) {p : CH} (h : Ctx w0 F0 D w F ps) (hp : ps[i]? = some p) : ∃ F', CH.le F F' ∧ CH.le p F' ∧ Ctx w0 F0 D w F' (ps.eraseIdx i) := by
 obtain ⟨hi, rfl⟩ := List.getElem?_eq_some_iff.1 hp
 rw [List.eraseIdx_eq_take_drop_succ]
 refine Ctx.fz (ps.take i) (ps.drop (i + 1)) ?_
 rw [← List.drop_eq_getElem_cons hi, List.take_append_drop]
 exact h
theorem Row.fz {α : Type} {K : Kd α} {F F' p : CH} {A : Option Addr} {n c : Nat} {xs : List α} (hR : Row K F p (.slice A n c) xs) (hF : CH.le F F') (hp : CH.le p F') : xs.length ≤ c ∧ c ≤ maxLen ∧ Sl K F' F' A xs :=
 ⟨hR.rP.1, hR.rP.2.1, hR.sl.mono hF hp⟩
end
section
variable {P : Program} {w0 w : World} {F0 F : CH} {D : Nat → Nat → Prop} {ps ps1 ps2 : List CH}
theorem vH {t : TypeId} {g off : Nat} (o : Nat) {cs : List Value} (us : List Value) (v : Value) (C : Ctx w0 F0 D w F (ps1 ++ CH.row g off cs :: ps2)) (ho : Nat.ble (o + us.length) cs.length = true) (hv : v.cells = us.toArray) (h1 : ∀ u ∈ us, u.oneCell' = true) (hs : (P.info? t).map (·.size) = some us.length) :
  ∃ w', (∀ (env : Env) (x y : Operand) (ty : TypeId), ev env x = .pointer (some ⟨g, off + o, none⟩) → ev env y = v → BR P env (.store t x y) ty w w') ∧ Ctx w0 F0 D w' F (ps1 ++ CH.row g off (cs.take o ++ us ++ cs.drop (o + us.length)) :: ps2) := by
 have hle := Nat.le_of_ble_eq_true ho
 refine ER cs (cs.take o) ((cs.drop o).take us.length) (cs.drop (o + us.length)) us v C ?_ (by rw [List.length_take]; omega) (by rw [List.length_take, List.length_drop]; omega) hv h1 hs
 rw [← List.drop_drop, List.append_assoc, List.take_append_drop, List.take_append_drop]
end
section steps
variable {P : Program} {ops : Array Oper} {Q : Exit → Env → World → Prop} {env : Env} {w w' : World} {rest l : List Oper} {op : Op} {ty : TypeId} {pos : String} {aft : Array Edge} {v : Value} {d : Nat} {dst : Option Nat} {j x : Nat} {b : Bool}
def I4 (l : List Oper) (env : Env) : Env := l.foldl (fun e o => zW e o.dst undef) env
def Fv (ops : Array Oper) (x : Nat) (b : Bool) (l : List Oper) : Bool :=
 l.all fun o => match o.guard with
  | some (j, b') => (match (ops[j]?).bind (·.dst) with | some y => Nat.beq y x | none => false) && (b' == b) && (match o.dst with | some d => !Nat.beq d x | none => true)
  | none => false
theorem WL.sN (n x : Nat) (b : Bool) (hx : env x = .bool (!b)) (ho : Fv ops x b (l.take n) = true) (k : WL P ops Q (l.drop n) (I4 (l.take n) env) w) : WL P ops Q l env w := by
 induction n generalizing l env with
 | zero => exact k
 | succ n ih =>
  cases l with
  | nil => exact k
  | cons o r =>
   obtain ⟨dst, op, ty, pos, aft, g⟩ := o
   rw [List.take_succ_cons] at ho k
   unfold Fv at ho
   rw [List.all_cons, Bool.and_eq_true] at ho
   obtain ⟨h1, h2⟩ := ho
   cases g with
   | none => cases h1
   | some jb =>
    obtain ⟨j, b'⟩ := jb
    simp only [Bool.and_eq_true] at h1
    obtain ⟨⟨h3, h4⟩, h5⟩ := h1
    have h4' : b' = b := by simpa using h4
    subst h4'
    cases hj : (ops[j]?).bind (·.dst) with
    | none => simp [hj] at h3
    | some y =>
     simp only [hj] at h3
     obtain rfl := Nat.eq_of_beq_eq_true h3
     refine WL.off hj hx (ih ?_ h2 k)
     cases dst with
     | none => exact hx
     | some d =>
      have h6 : Nat.beq d y = false := by simpa using h5
      show cond (Nat.beq y d) undef (env y) = _
      have : Nat.beq y d = false := by
       rw [Bool.eq_false_iff] at h6 ⊢
       exact fun e => h6 (by rw [Nat.eq_of_beq_eq_true e]; exact Nat.beq_refl _)
      rw [this]; exact hx
theorem WL.HX (n x : Nat) (b : Bool) (hx : env x = undef) (ho : Fv ops x b (l.take n) = true) (k : WL P ops Q (l.drop n) (I4 (l.take n) env) w) : WL P ops Q l env w := by
 induction n generalizing l env with
 | zero => exact k
 | succ n ih =>
  cases l with
  | nil => exact k
  | cons o r =>
   obtain ⟨dst, op, ty, pos, aft, g⟩ := o
   rw [List.take_succ_cons] at ho k
   unfold Fv at ho
   rw [List.all_cons, Bool.and_eq_true] at ho
   obtain ⟨h1, h2⟩ := ho
   cases g with
   | none => cases h1
   | some jb =>
    obtain ⟨j, b'⟩ := jb
    simp only [Bool.and_eq_true] at h1
    obtain ⟨⟨h3, h4⟩, h5⟩ := h1
    cases hj : (ops[j]?).bind (·.dst) with
    | none => simp [hj] at h3
    | some y =>
     simp only [hj] at h3
     obtain rfl := Nat.eq_of_beq_eq_true h3
     refine WL.Ga hj hx (ih ?_ h2 k)
     cases dst with
     | none => exact hx
     | some d =>
      have h6 : Nat.beq d y = false := by simpa using h5
      show cond (Nat.beq y d) undef (env y) = _
      have : Nat.beq y d = false := by
       rw [Bool.eq_false_iff] at h6 ⊢
       exact fun e => h6 (by rw [Nat.eq_of_beq_eq_true e]; exact Nat.beq_refl _)
      rw [this]; exact hx
theorem WL.xC (hj : (ops[j]?).bind (·.dst) = some x) (hx : env x = .bool b) (h : Yl P env op ty w v w') (k : WL P ops Q rest (upd env d v) w') : WL P ops Q (⟨some d, op, ty, pos, aft, some (j, b)⟩ :: rest) env w := WL.on hj hx (WL.val h k)
theorem WQ.vl {W : World} {Q : Env → Prop} (h : ∀ n, Yl P env op ty (W.drewN n) v (W.drewN n)) (k : WQ P ops (fun w' => ∃ n, w' = W.drewN n) Q rest (upd env d v)) : WQ P ops (fun w' => ∃ n, w' = W.drewN n) Q (⟨some d, op, ty, pos, aft, none⟩ :: rest) env :=
 WQ.val (fun _ ⟨n, hn⟩ => by subst hn; exact h n) k
theorem WQ.vOn {W : World} {Q : Env → Prop} (hj : (ops[j]?).bind (·.dst) = some x) (hx : env x = .bool b) (h : ∀ n, Yl P env op ty (W.drewN n) v (W.drewN n)) (k : WQ P ops (fun w' => ∃ n, w' = W.drewN n) Q rest (upd env d v)) : WQ P ops (fun w' => ∃ n, w' = W.drewN n) Q (⟨some d, op, ty, pos, aft, some (j, b)⟩ :: rest) env :=
 WQ.on hj hx (WQ.vl h k)
theorem WQ.sN {C : World → Prop} {Q : Env → Prop} (n x : Nat) (b : Bool) (hx : env x = .bool (!b)) (ho : Fv ops x b (l.take n) = true) (k : WQ P ops C Q (l.drop n) (I4 (l.take n) env)) : WQ P ops C Q l env := by
 induction n generalizing l env with
 | zero => exact k
 | succ n ih =>
  cases l with
  | nil => exact k
  | cons o r =>
   obtain ⟨dst, op, ty, pos, aft, g⟩ := o
   rw [List.take_succ_cons] at ho k
   unfold Fv at ho
   rw [List.all_cons, Bool.and_eq_true] at ho
   obtain ⟨h1, h2⟩ := ho
   cases g with
   | none => cases h1
   | some jb =>
    obtain ⟨j, b'⟩ := jb
    simp only [Bool.and_eq_true] at h1
    obtain ⟨⟨h3, h4⟩, h5⟩ := h1
    have h4' : b' = b := by simpa using h4
    subst h4'
    cases hj : (ops[j]?).bind (·.dst) with
    | none => simp [hj] at h3
    | some y =>
     simp only [hj] at h3
     obtain rfl := Nat.eq_of_beq_eq_true h3
     refine WQ.off hj hx (ih ?_ h2 k)
     cases dst with
     | none => exact hx
     | some d =>
      have h6 : Nat.beq d y = false := by simpa using h5
      show cond (Nat.beq y d) undef (env y) = _
      have : Nat.beq y d = false := by
       rw [Bool.eq_false_iff] at h6 ⊢
       exact fun e => h6 (by rw [Nat.eq_of_beq_eq_true e]; exact Nat.beq_refl _)
      rw [this]; exact hx
theorem WQ.HX {C : World → Prop} {Q : Env → Prop} (n x : Nat) (b : Bool) (hx : env x = undef) (ho : Fv ops x b (l.take n) = true) (k : WQ P ops C Q (l.drop n) (I4 (l.take n) env)) : WQ P ops C Q l env := by
 induction n generalizing l env with
 | zero => exact k
 | succ n ih =>
  cases l with
  | nil => exact k
  | cons o r =>
   obtain ⟨dst, op, ty, pos, aft, g⟩ := o
   rw [List.take_succ_cons] at ho k
   unfold Fv at ho
   rw [List.all_cons, Bool.and_eq_true] at ho
   obtain ⟨h1, h2⟩ := ho
   cases g with
   | none => cases h1
   | some jb =>
    obtain ⟨j, b'⟩ := jb
    simp only [Bool.and_eq_true] at h1
    obtain ⟨⟨h3, h4⟩, h5⟩ := h1
    cases hj : (ops[j]?).bind (·.dst) with
    | none => simp [hj] at h3
    | some y =>
     simp only [hj] at h3
     obtain rfl := Nat.eq_of_beq_eq_true h3
     refine WQ.Ga hj hx (ih ?_ h2 k)
     cases dst with
     | none => exact hx
     | some d =>
      have h6 : Nat.beq d y = false := by simpa using h5
      show cond (Nat.beq y d) undef (env y) = _
      have : Nat.beq y d = false := by
       rw [Bool.eq_false_iff] at h6 ⊢
       exact fun e => h6 (by rw [Nat.eq_of_beq_eq_true e]; exact Nat.beq_refl _)
      rw [this]; exact hx
end steps
section
variable {P : Program} {N : Nat} {ops : Array Oper} {Ms : List (List Nat × CH)} {R : Env → World → Prop} {env : Env} {w : World} {fuel : Nat} {listed : Array Bool}
def WT (P : Program) (ops : Array Oper) (Ms : List (List Nat × CH)) (K : Env → Prop) : List (Nat × Option Nat) → Env → Prop
 | [], env => K env
 | (i, k) :: r, env => ∃ o v, ops[i]? = some o ∧ ((Region.wanted o (uE ops env) = true ∧ ∀ w, Cof Ms k w → (execOp (ev env) o).run P w = .ok (.value v) w) ∨ (Region.wanted o (uE ops env) = false ∧ v = undef)) ∧ WT P ops Ms K r (zW env o.dst v)
def DO : List (List Nat × CH) → World → Prop
 | [], _ => True
 | p :: r, w => Sub p.2 w ∧ DO r w
theorem DO.at : ∀ {Ms : List (List Nat × CH)} {w : World}, DO Ms w → ∀ p ∈ Ms, Sub p.2 w
 | _ :: _, _, h, p, hp => by
  rcases List.mem_cons.1 hp with rfl | hp
  ·exact h.1
  ·exact DO.at h.2 p hp
def waiters (ops : Array Oper) (i : Nat) : List Nat :=
 ((List.range ops.size).foldl (fun acc j => if i < j ∧ (match ops[j]? with | some o => o.after.any fun e => Region.binds .any e && Nat.blt e.on j && (Nat.beq e.on i || acc.any (Nat.beq e.on)) | none => false) = true then acc ++ [j] else acc) [])
def JS (N : Nat) (ops : Array Oper) (Ms : List (List Nat × CH)) : List (Nat × Option Nat) → Array Bool → Bool
 | [], _ => true
 | (i, k) :: r, L => chk N ops (Wof Ms k) (waiters ops i) L i && Fb Ms i && JS N ops Ms r (L.setIfInBounds i true)
theorem Jt (h : DO Ms w) (k : Option Nat) : Cof Ms k w := by
 unfold Cof
 cases k with
 | none => trivial
 | some k =>
  simp only
  cases hp : Ms[k]? with
  | none => trivial
  | some p => exact h.at p (List.mem_of_getElem? hp)
theorem WA.sZ (is : List (Nat × Option Nat)) (hs : DO Ms w) (hk : JS N ops Ms is listed = true) (h : WT P ops Ms (fun env => WA P N ops Ms R fuel (is.foldl (fun L p => L.setIfInBounds p.1 true) listed) env w) is env) : WA P N ops Ms R (fuel + is.length) listed env w := by
 induction is generalizing listed env with
 | nil => exact h
 | cons p r ih =>
  obtain ⟨i, k⟩ := p
  obtain ⟨o, v, ho, hy, ht⟩ := h
  unfold JS at hk
  rw [Bool.and_eq_true, Bool.and_eq_true] at hk
  exact WA.Jc k (waiters ops i) i ho hk.1.1 hk.1.2 (Jt hs k) (SLc.iff.2 fun p hp _ => hs.at p hp) hy (ih hk.2 ht)
variable {K : Env → Prop} {r : List (Nat × Option Nat)} {i d : Nat} {k : Option Nat} {op : Op} {ty : TypeId} {pos : String} {aft : Array Edge} {v : Value} {j x : Nat} {b : Bool} {dst : Option Nat}
theorem WT.done (h : K env) : WT P ops Ms K [] env := h
theorem WT.val (hi : ops[i]? = some ⟨some d, op, ty, pos, aft, none⟩) (hy : ∀ w, Cof Ms k w → Yl P env op ty w v w) (h : WT P ops Ms K r (upd env d v)) : WT P ops Ms K ((i, k) :: r) env :=
 ⟨_, v, hi, .inl ⟨vR _ rfl _, fun w hw => by rw [uM]; exact hy w hw⟩, h⟩
theorem WT.on (hi : ops[i]? = some ⟨some d, op, ty, pos, aft, some (j, b)⟩) (hj : (ops[j]?).bind (·.dst) = some x) (hx : env x = .bool b) (hy : ∀ w, Cof Ms k w → Yl P env op ty w v w) (h : WT P ops Ms K r (upd env d v)) : WT P ops Ms K ((i, k) :: r) env :=
 ⟨_, v, hi, .inl ⟨by unfold Region.wanted uE; simp only [hj, hx]; simp, fun w hw => by rw [uM]; exact hy w hw⟩, h⟩
theorem WT.off (hi : ops[i]? = some ⟨dst, op, ty, pos, aft, some (j, b)⟩) (hj : (ops[j]?).bind (·.dst) = some x) (hx : env x = .bool (!b)) (h : WT P ops Ms K r (zW env dst undef)) : WT P ops Ms K ((i, none) :: r) env :=
 ⟨_, undef, hi, .inr ⟨by unfold Region.wanted uE; simp only [hj, hx]; cases b <;> simp, rfl⟩, h⟩
theorem WT.Ga (hi : ops[i]? = some ⟨dst, op, ty, pos, aft, some (j, b)⟩) (hj : (ops[j]?).bind (·.dst) = some x) (hx : env x = undef) (h : WT P ops Ms K r (zW env dst undef)) : WT P ops Ms K ((i, none) :: r) env :=
 ⟨_, undef, hi, .inr ⟨by unfold Region.wanted uE; simp only [hj, hx]; cases b <;> rfl, rfl⟩, h⟩
end
end Go.WG
namespace Go.WG
open Go Go.RowKit
set_option linter.unusedVariables false
set_option linter.unusedSimpArgs false
section
theorem Ei {m : Nat} : ∀ (L : List (List Int)), (∀ a ∈ L, a.length = m) → ∀ i, i < L.length → (L.flatten.drop (i * m)).take m = L.getD i []
 | [], _, i, hi => by simp at hi
 | a :: L, h, 0, _ => by
  have ha := h a (by simp)
  simp [List.take_append, ha]
 | a :: L, h, i + 1, hi => by
  have ha := h a (by simp)
  have := Ei L (fun b hb => h b (by simp [hb])) i (by simpa using hi)
  rw [List.flatten_cons, Nat.succ_mul, Nat.add_comm, ← List.drop_drop, ← ha, List.drop_left, ha, this]
  rfl
theorem xU {L : List (List Int)} {n m : Nat} {i : Int} (hl : L.length = n ∧ ∀ a ∈ L, a.length = m) (h : 0 ≤ i ∧ i < (n : Int)) : (L.getD i.toNat []).length = m := by
 have hlt : i.toNat < L.length := by omega
 exact hl.2 _ (by rw [List.getD_eq_getElem?_getD, List.getElem?_eq_getElem hlt]; exact List.getElem_mem hlt)
variable {P : Program} {env : Env} {ty t : TypeId} {x y : Operand} {w : World} {k : IntKind}
theorem Yl.G2 {k' : IntKind} {L : List (List Int)} {n m : Nat} {e : TypeId} {d : TypeDesc} {i : Int} (hx : ev env x = .agg (L.flatten.map (Value.int k')).toArray) (hy : ev env y = .int k i) (ht : P.underlying t = some (.array n e)) (he : P.underlying e = some d) (hd : Ax d = true) (hs : (P.info? e).map (·.size) = some m) (hl : L.length = n ∧ ∀ a ∈ L, a.length = m) (h : 0 ≤ i ∧ i < (n : Int)) :
  Yl P env (.index t x y) ty w (.agg ((L.getD i.toNat []).map (Value.int k')).toArray) w := by
 obtain ⟨inf, hi, hsz⟩ := Option.map_eq_some_iff.1 hs
 have hlt : i.toNat < L.length := by omega
 have hlen : (L.getD i.toNat []).length = m := hl.2 _ (by rw [List.getD_eq_getElem?_getD, List.getElem?_eq_getElem hlt]; exact List.getElem_mem hlt)
 have hp : zL P e (L.flatten.map (Value.int k')) (i.toNat * m) (.agg ((L.getD i.toNat []).map (Value.int k')).toArray) := zL.agg he hd (by rw [hs, List.length_map, hlen]) (by rw [← List.map_drop, List.length_map, hlen, ← List.map_take, Ei L hl.2 _ hlt])
 show (execOp (ev env) _).run P w = _
 simp only [execOp, hx, hy, Instr.index, asIntOf, Sem.run_bind, Sem.run_pure, Result.andThen_ok, run_underlying ht, sizeOf, typeInfo, hi, hsz, h, and_self, if_true]
 have := hp w
 simp [h, hi, hsz, this, -List.map_flatten, -List.getD_eq_getElem?_getD]
theorem G8 {m : Nat} (k : IntKind) (L : List (List Int)) (z : Value) (a : List Value) (hm : ∀ b ∈ L, b.length = m) (hz : z.cells = a.toArray) (hl : a.length = L.length * m) : Instr.fill (fun i => some (i * m, m)) z.cells (wF 0 (L.map fun b => Value.agg (b.map (Value.int k)).toArray)) = some (L.flatten.map (Value.int k)).toArray := by
 have hr : ∀ (L : List (List Int)), (∀ b ∈ L, b.length = m) → Dj (Kd.Eb m k) CH.emp L (L.map fun b => Value.agg (b.map (Value.int k)).toArray) := by
  intro L
  induction L with
  | nil => exact fun _ => .nil
  | cons b L ih => exact fun h => .cons ⟨by simp [Value.cells], h b (by simp)⟩ (ih fun c hc => h c (by simp [hc]))
 have := DJ (hr L hm) 0 a (by simp [Kd.Eb, Kd.arr, hl])
 rw [hz]
 simp only [Kd.Eb, Kd.arr] at this
 rw [this]
 have hf : (L.map fun b => Value.agg (b.map (Value.int k)).toArray).flatMap (·.cells.toList) = L.flatten.map (Value.int k) := by
  clear this hl hm
  induction L with
  | nil => rfl
  | cons b L ih => rw [List.map_cons, List.flatMap_cons, ih, List.flatten_cons, List.map_append]; simp [Value.cells]
 rw [hf, List.length_map]
 simp [hl]
end
theorem IL {cs us : List Value} {o j : Nat} {u : Value} (h : (cs.drop o).take us.length = us) (hu : us[j]? = some u) : cs[o + j]? = some u := by
 have hlt := (List.getElem?_eq_some_iff.1 hu).1
 rw [← h, List.getElem?_take, if_pos hlt, List.getElem?_drop] at hu
 exact hu
def inL (l : List Nat) : Nat → Bool := fun j => l.any (Nat.beq j)
def IF (L : Nat → Bool) (i : Nat) : Nat → Bool := fun j => cond (Nat.beq j i) true (L j)
def CI (L : Nat → Bool) : List Nat → Prop
 | [] => True
 | f :: r => L f = false ∧ CI L r
def Db (L : Nat → Bool) : List Nat → List Nat → Prop
 | [], fs => CI L fs
 | t :: r, fs => L t = true ∧ Db L r fs
theorem CI.mk {L : Nat → Bool} : ∀ {fs : List Nat}, (∀ f ∈ fs, L f = false) → CI L fs
 | [], _ => trivial
 | f :: r, h => ⟨h f (by simp), CI.mk fun q hq => h q (by simp [hq])⟩
theorem Db.mk {L : Nat → Bool} : ∀ {ts fs : List Nat}, (∀ t ∈ ts, L t = true) → (∀ f ∈ fs, L f = false) → Db L ts fs
 | [], _, _, h => CI.mk h
 | t :: r, _, h, k => ⟨h t (by simp), Db.mk (fun q hq => h q (by simp [hq])) k⟩
theorem cT {b : Bool} {X Y : Prop} (h : b = true) (t : cond b X Y) : X := by subst h; exact t
theorem cF {b : Bool} {X Y : Prop} (h : b = false) (t : cond b X Y) : Y := by subst h; exact t
theorem iT {b : Bool} {X Y : Prop} (h : b = true) (t : X) : cond b X Y := by subst h; exact t
theorem iF {b : Bool} {X Y : Prop} (h : b = false) (t : Y) : cond b X Y := by subst h; exact t
section
variable {P : Program} {N : Nat} {ops : Array Oper} {Ms : List (List Nat × CH)} {R : Env → World → Prop} {env : Env} {w w' : World} {fuel : Nat} {listed : Array Bool}
def UpI (P : Program) (N : Nat) (ops : Array Oper) (Ms : List (List Nat × CH)) (K : Env → World → Prop) (env : Env) (w : World) (i : Nat) : Prop :=
 ∃ o, ops[i]? = some o ∧ yP N o = true ∧ Region.wanted o (uE ops env) = true ∧ BL P o env w fun env' w' => DO Ms w' ∧ K env' w'
theorem UpI.val {K : Env → World → Prop} {i : Nat} {d : Nat} {op : Op} {ty : TypeId} {pos : String} {aft : Array Edge} (hi : ops[i]? = some ⟨some d, op, ty, pos, aft, none⟩) (hd : Nat.blt d N = true) {v : Value}
  (hy : Yl P env op ty w v w') (hs : DO Ms w') (h : K (upd env d v) w') : UpI P N ops Ms K env w i :=
 ⟨_, hi, by simpa [yP] using hd, vR _ rfl _, .inl ⟨v, w', by rw [uM]; exact hy, hs, h⟩⟩
theorem UpI.skip {K : Env → World → Prop} {i : Nat} {op : Op} {ty : TypeId} {pos : String} {aft : Array Edge} (hi : ops[i]? = some ⟨none, op, ty, pos, aft, none⟩)
  (hy : BR P env op ty w w') (hs : DO Ms w') (h : K env w') : UpI P N ops Ms K env w i :=
 ⟨_, hi, rfl, vR _ rfl _, .inr (.inl ⟨w', by rw [uM]; exact hy, hs, h⟩)⟩
theorem UpI.call {K : Env → World → Prop} {i : Nat} {dst : Option Nat} {op : Op} {ty : TypeId} {pos : String} {aft : Array Edge} (hi : ops[i]? = some ⟨dst, op, ty, pos, aft, none⟩) (hd : yP N ⟨dst, op, ty, pos, aft, none⟩ = true)
  {f : FuncId} {args : Array Value} (he : vD P env op ty w f args) {R' : Ending → World → Prop} (hc : Calls P f args w R')
  (h : ∀ e w', R' e w' → ∃ v, e = .returned v ∧ DO Ms w' ∧ K (zW env dst v) w') : UpI P N ops Ms K env w i :=
 ⟨_, hi, hd, vR _ rfl _, .inr (.inr ⟨f, args, w, by rw [uM]; exact he, hc.mono h⟩)⟩
inductive CL (P : Program) (N : Nat) (ops : Array Oper) (Ms : List (List Nat × CH)) (I : (Nat → Bool) → Env → World → Prop) : List (Nat × List Nat × List Nat) → Prop
 | nil : CL P N ops Ms I []
 | cons {i : Nat} {ts fs : List Nat} {r : List (Nat × List Nat × List Nat)} (h : ∀ L env w, Db L ts (i :: fs) → I L env w → UpI P N ops Ms (I (IF L i)) env w i) (t : CL P N ops Ms I r) : CL P N ops Ms I ((i, ts, fs) :: r)
theorem CL.at {I : (Nat → Bool) → Env → World → Prop} {tab : List (Nat × List Nat × List Nat)} (h : CL P N ops Ms I tab) : ∀ p ∈ tab, ∀ L env w, Db L p.2.1 (p.1 :: p.2.2) → I L env w → UpI P N ops Ms (I (IF L p.1)) env w p.1 := by
 induction h with
 | nil => exact fun p hp => by simp at hp
 | cons h _ ih =>
  intro p hp
  rcases List.mem_cons.1 hp with rfl | hp
  ·exact h
  ·exact ih p hp
def Jj (ops : Array Oper) (L0 L1 : Array Bool) (l0 l1 : List Nat) (m : Nat) (tab : List (Nat × List Nat × List Nat)) : Bool :=
 (List.range ops.size).all (fun j => match ops[j]? with | some o => o.after.all fun e => !Region.binds .any e || Nat.blt e.on j | none => true) &&
 (Nat.beq L0.size ops.size && Nat.beq L1.size ops.size && Nat.beq ((List.range ops.size).countP fun j => L1.getD j false && !L0.getD j false) m) &&
 (l0.all (fun j => Nat.blt j ops.size) && l1.all fun j => Nat.blt j ops.size) &&
 (List.range ops.size).all (fun j => (L0.getD j false == inL l0 j) && (L1.getD j false == inL l1 j) && (!L0.getD j false || L1.getD j false) && (!L1.getD j false || L0.getD j false || tab.any fun p => Nat.beq p.1 j)) &&
 tab.all (fun p => okW .any ops p.1 (waiters ops p.1) && p.2.2.all (fun q => (waiters ops p.1).any (Nat.beq q)) && p.2.2.all (fun q => Nat.blt q ops.size) && (List.range ops.size).all (fun j => L1.getD j false || (waiters ops p.1).any (Nat.beq j)) && p.2.1.all fun a => match ops[p.1]? with | some o => o.after.any fun e => Region.binds .any e && Nat.beq e.on a | none => false)
theorem Dg {p p' : Nat → Bool} {j : Nat} (hp : p j = true) (hp' : p' j = false) (hne : ∀ q, q ≠ j → p' q = p q) : ∀ (l : List Nat), l.Nodup → j ∈ l → l.countP p' + 1 = l.countP p
 | [], _, h => by simp at h
 | q :: l, hn, h => by
  rw [List.nodup_cons] at hn
  by_cases hq : q = j
  ·subst hq
   have : l.countP p' = l.countP p := List.countP_congr fun x hx => by rw [hne x (fun e => hn.1 (e ▸ hx))]
   rw [List.countP_cons_of_pos hp, List.countP_cons_of_neg (by rw [hp']; simp), this]
  ·have ih := Dg hp hp' hne l hn.2 ((List.mem_cons.1 h).resolve_left (Ne.symm hq))
   rw [List.countP_cons, List.countP_cons, hne q hq]
   omega
theorem Gz {L : Array Bool} {j : Nat} (h : j < L.size) (d d' : Bool) : L.getD j d = L.getD j d' := by
 rw [Array.getD_eq_getD_getElem?, Array.getD_eq_getD_getElem?, Array.getElem?_eq_getElem h]; rfl
theorem FT {md : Region.Mode} (hb : ∀ j o, ops[j]? = some o → ∀ e ∈ o.after, Region.binds md e = true → e.on < j) {listed : Array Bool} (hs : listed.size = ops.size) : ∀ (j : Nat), j < ops.size → listed.getD j false = false → Region.ready md ops listed ≠ [] := by
 intro j
 induction j using Nat.strongRecOn with
 | ind j ih =>
  intro hj hun
  by_cases hall : ∀ e ∈ ops[j].after, Region.binds md e = true → listed.getD e.on false = true
  ·have : j ∈ Region.ready md ops listed := mem_ready.2 ⟨by rw [Gz (by omega) true false]; exact hun, _, Array.getElem?_eq_getElem hj, hall⟩
   intro h
   rw [h] at this
   simp at this
  ·obtain ⟨e, hq⟩ := Classical.not_forall.1 hall
   obtain ⟨he, hq⟩ := Classical.not_forall.1 hq
   obtain ⟨hbe, hq⟩ := Classical.not_forall.1 hq
   have hlt := hb j _ (Array.getElem?_eq_getElem hj) e he hbe
   exact ih e.on hlt (by omega) (by simpa using hq)
theorem WA.par (I : (Nat → Bool) → Env → World → Prop) (tab : List (Nat × List Nat × List Nat)) (l0 l1 : List Nat) (L1 : Array Bool) (f1 m : Nat) (hk : Jj ops listed L1 l0 l1 m tab = true) (h0 : I (inL l0) env w) (hst : CL P N ops Ms I tab)
  (k : ∀ env w, I (inL l1) env w → WA P N ops Ms R f1 L1 env w) : WA P N ops Ms R (f1 + m) listed env w := by
 unfold Jj at hk
 simp only [Bool.and_eq_true] at hk
 obtain ⟨⟨⟨⟨c1, ⟨⟨c2, c3⟩, c4⟩⟩, ⟨c5, c6⟩⟩, c7⟩, c8⟩ := hk
 have c2 := Nat.eq_of_beq_eq_true c2
 have c3 := Nat.eq_of_beq_eq_true c3
 have c4 := Nat.eq_of_beq_eq_true c4
 have hb : ∀ j o, ops[j]? = some o → ∀ e ∈ o.after, Region.binds .any e = true → e.on < j := fun j o ho e he hbe => by
  have hj := (Array.getElem?_eq_some_iff.1 ho).1
  have := List.all_eq_true.1 c1 j (List.mem_range.2 hj)
  simp only [ho] at this
  have := Array.all_eq_true'.1 this e he
  simp only [hbe, Bool.not_true, Bool.false_or, Nat.blt_eq] at this
  exact this
 have hall : ∀ j, j < ops.size → (listed.getD j false = inL l0 j) ∧ (L1.getD j false = inL l1 j) ∧ (listed.getD j false = true → L1.getD j false = true) ∧ (L1.getD j false = true → listed.getD j false = true ∨ ∃ p ∈ tab, p.1 = j) := fun j hj => by
  have := List.all_eq_true.1 c7 j (List.mem_range.2 hj)
  simp only [Bool.and_eq_true, beq_iff_eq, Bool.or_eq_true, Bool.not_eq_true', List.any_eq_true] at this
  obtain ⟨⟨⟨a1, a2⟩, a3⟩, a4⟩ := this
  refine ⟨a1, a2, fun h => a3.resolve_left (by rw [h]; simp), fun h => ?_⟩
  rcases a4 with (a4 | a4) | ⟨p, hp, a4⟩
  ·rw [a4] at h; cases h
  ·exact .inl a4
  ·exact .inr ⟨p, hp, Nat.eq_of_beq_eq_true a4⟩
 have hinL : ∀ (l : List Nat) (L : Array Bool), L.size = ops.size → l.all (fun j => Nat.blt j ops.size) = true → (∀ j, j < ops.size → L.getD j false = inL l j) → inL l = fun j => L.getD j false := fun l L hs hl h => by
  funext j
  by_cases hj : j < ops.size
  ·exact (h j hj).symm
  ·have e1 : L.getD j false = false := by rw [Array.getD_eq_getD_getElem?, Array.getElem?_eq_none (by omega)]; rfl
   rw [e1]
   unfold inL
   rw [List.any_eq_false]
   intro q hq e
   have := List.all_eq_true.1 hl q hq
   rw [Nat.blt_eq] at this
   exact hj (by rw [Nat.eq_of_beq_eq_true e]; exact this)
 rw [hinL l0 listed c2 c5 fun j hj => (hall j hj).1] at h0
 rw [hinL l1 L1 c3 c6 fun j hj => (hall j hj).2.1] at k
 suffices H : ∀ (r : Nat) (L : Array Bool) (env : Env) (w : World), L.size = ops.size → (∀ j, listed.getD j false = true → L.getD j false = true) → (∀ j, j < ops.size → L.getD j false = true → L1.getD j false = true) →
   ((List.range ops.size).countP fun j => L1.getD j false && !L.getD j false) = r → I (fun j => L.getD j false) env w → WA P N ops Ms R (f1 + r) L env w from
  H m listed env w c2 (fun _ h => h) (fun j hj h => (hall j hj).2.2.1 h) c4 h0
 intro r
 induction r with
 | zero =>
  intro L env w hs hsub hle hc hI
  have : L = L1 := by
   refine Array.ext (by omega) fun j h1 h2 => ?_
   have hj : j < ops.size := by omega
   have hz := List.countP_eq_zero.1 hc j (List.mem_range.2 hj)
   have e1 : L.getD j false = L[j] := by rw [Array.getD_eq_getD_getElem?, Array.getElem?_eq_getElem h1]; rfl
   have e2 : L1.getD j false = L1[j] := by rw [Array.getD_eq_getD_getElem?, Array.getElem?_eq_getElem h2]; rfl
   have hl := hle j hj
   rw [e1, e2] at hz hl
   cases hx : L[j] <;> cases hy : L1[j] <;> simp [hx, hy] at hz hl ⊢
  subst this
  exact k env w hI
 | succ r ih =>
  intro L env w hs hsub hle hc hI hcl a ha
  -- one that is wanted and not there
  obtain ⟨j0, hj0, hu0⟩ : ∃ j0, j0 < ops.size ∧ (L1.getD j0 false && !L.getD j0 false) = true := by
   obtain ⟨j0, hj0, hu⟩ := List.countP_pos_iff.1 (show 0 < (List.range ops.size).countP (fun j => L1.getD j false && !L.getD j false) by omega)
   exact ⟨j0, List.mem_range.1 hj0, hu⟩
  simp only [Bool.and_eq_true, Bool.not_eq_true'] at hu0
  refine ⟨fun h => absurd h (FT hb hs j0 hj0 hu0.2), fun j hj => ?_⟩
  obtain ⟨hun, oj, hoj, hafter⟩ := mem_ready.1 hj
  have hjl : j < ops.size := (Array.getElem?_eq_some_iff.1 hoj).1
  have hun' : L.getD j false = false := by rw [Gz (by omega) false true]; exact hun
  have tabOf : ∀ q, q < ops.size → L1.getD q false = true → L.getD q false = false → ∃ p ∈ tab, p.1 = q := fun q hq h1 h2 => ((hall q hq).2.2.2 h1).resolve_left fun h => by rw [hsub q h] at h2; cases h2
  have tabAt : ∀ p ∈ tab, okW .any ops p.1 (waiters ops p.1) = true ∧ (∀ q ∈ p.2.2, q ∈ waiters ops p.1 ∧ q < ops.size) ∧ (∀ q, q < ops.size → L1.getD q false = false → q ∈ waiters ops p.1) ∧ ∀ t ∈ p.2.1, ∃ o, ops[p.1]? = some o ∧ ∃ e ∈ o.after, Region.binds .any e = true ∧ e.on = t := fun p hp => by
   have := List.all_eq_true.1 c8 p hp
   simp only [Bool.and_eq_true] at this
   obtain ⟨⟨⟨⟨b1, b2⟩, b3⟩, b4⟩, b5⟩ := this
   have inW : ∀ q, (waiters ops p.1).any (Nat.beq q) = true → q ∈ waiters ops p.1 := fun q h => by
    obtain ⟨x, hx, e⟩ := List.any_eq_true.1 h
    rw [Nat.eq_of_beq_eq_true e]; exact hx
   refine ⟨b1, fun q hq => ⟨inW q (List.all_eq_true.1 b2 q hq), by simpa using List.all_eq_true.1 b3 q hq⟩, fun q hq h => ?_, fun t ht => ?_⟩
   ·have := List.all_eq_true.1 b4 q (List.mem_range.2 hq)
    rw [h, Bool.false_or] at this
    exact inW q this
   ·have := List.all_eq_true.1 b5 t ht
    cases ho : ops[p.1]? with
    | none => simp [ho] at this
    | some o =>
     simp only [ho] at this
     obtain ⟨e, he, h2⟩ := Array.any_eq_true'.1 this
     simp only [Bool.and_eq_true] at h2
     exact ⟨o, rfl, e, he, h2.1, Nat.eq_of_beq_eq_true h2.2⟩
  -- it is one of those
  have hj1 : L1.getD j false = true := by
   cases hx : L1.getD j false with
   | true => rfl
   | false =>
    exfalso
    obtain ⟨p, hp, e⟩ := tabOf j0 hj0 hu0.1 hu0.2
    obtain ⟨b1, _, b3, _⟩ := tabAt p hp
    have := okW.spec b1 hcl j (b3 j hjl hx) oj hoj hafter
    rw [e, hu0.2] at this
    cases this
  obtain ⟨p, hp, rfl⟩ := tabOf j hjl hj1 hun'
  obtain ⟨b1, b2, b3, b4⟩ := tabAt p hp
  have hK : Db (fun j => L.getD j false) p.2.1 (p.1 :: p.2.2) := Db.mk (fun t ht => by
    obtain ⟨o, ho, e, he, hbe, rfl⟩ := b4 t ht
    rw [hoj] at ho
    injection ho with ho
    subst ho
    exact hafter e he hbe) fun q hq => by
   rcases List.mem_cons.1 hq with rfl | hq
   ·exact hun'
   ·cases hx : L.getD q false with
    | false => rfl
    | true =>
     exfalso
     obtain ⟨b5, b6⟩ := b2 q hq
     have := okW.spec b1 hcl q b5 _ (Array.getElem?_eq_getElem b6) (hcl q _ (Array.getElem?_eq_getElem b6) hx)
     rw [hun'] at this
     cases this
  obtain ⟨o, ho, hd, hw, hstep⟩ := hst.at p hp _ env w hK hI
  rw [hoj] at ho
  injection ho with ho
  subst ho
  unfold wpOp
  simp only [hoj]
  rw [ha.yielded ops, if_pos hw]
  refine .inl (BL.wp hd hstep ha fun env' a' w' hf hn => ⟨SLc.iff.2 fun q hq _ => hn.1.at q hq, ?_⟩)
  have hset : (IF (fun j => L.getD j false) p.1) = fun j => (L.setIfInBounds p.1 true).getD j false := by
   funext q
   unfold IF
   by_cases hq : q = p.1
   ·subst hq
    rw [Nat.beq_refl, _root_.cond_true, Array.getD_eq_getD_getElem?, Array.getElem?_setIfInBounds_self_of_lt (by omega)]
    rfl
   ·have : Nat.beq q p.1 = false := by
     rw [Bool.eq_false_iff]
     intro hb
     exact hq (Nat.eq_of_beq_eq_true hb)
    rw [this, _root_.cond_false, getD_set_ne false (Ne.symm hq)]
  refine ih (L.setIfInBounds p.1 true) env' w' (by simpa using hs) (fun q hq => getD_set_true (hsub q hq)) (fun q hq h => ?_) ?_ (hset ▸ hn.2) (hcl.set hoj hafter) a' hf
  ·by_cases hqp : q = p.1
   ·rw [hqp]; exact hj1
   ·rw [getD_set_ne false (Ne.symm hqp)] at h
    exact hle q hq h
  ·have := Dg (p := fun j => L1.getD j false && !L.getD j false) (p' := fun j => L1.getD j false && !(L.setIfInBounds p.1 true).getD j false) (j := p.1) (by simp only [hj1, hun']; rfl) (by
     have : (L.setIfInBounds p.1 true).getD p.1 false = true := by rw [Array.getD_eq_getD_getElem?, Array.getElem?_setIfInBounds_self_of_lt (by omega)]; rfl
     simp only [this]; simp) (fun q hq => by simp only [getD_set_ne false (Ne.symm hq)]) (List.range ops.size) List.nodup_range (List.mem_range.2 hjl)
   omega
end
end Go.WG
namespace Go.WG
open Go Go.RowKit
def elp (A : Option Addr) (n z : Nat) (i : Int) : Value := if 0 ≤ i ∧ i < (n : Int) then .pointer (A.map (·.add (i.toNat * z))) else .pointer none
theorem B0 {A : Option Addr} {b off n m z : Nat} {i : Int} (hA : A = some ⟨b, off, none⟩) (h : 0 ≤ i ∧ i < (m : Int)) (hn : n = m) : elp A n z i = .pointer (some ⟨b, off + i.toNat * z, none⟩) := by
 subst hn; subst hA
 unfold elp
 rw [if_pos h, Option.map_some, vL]
theorem F3 {A : Option Addr} {n m z : Nat} {i : Int} (h : ¬ (0 ≤ i ∧ i < (m : Int))) (hn : n = m) : elp A n z i = .pointer none := by
 subst hn
 unfold elp
 rw [if_neg h]
theorem IA {A : Option Addr} {n z : Nat} : elp A n z (-1) = .pointer none := by
 unfold elp
 rw [if_neg (by omega)]
def fnV (i : Int) : Value := if i < 0 then .nilFunc else .func (.func i.toNat) #[] #[]
theorem B4 (n : Nat) : fnV (n : Int) = .func (.func n) #[] #[] := by
 unfold fnV
 rw [if_neg (by omega)]
 rfl
theorem CT {i : Int} (n : Nat) (h : i = (n : Int)) : fnV i = .func (.func n) #[] #[] := by rw [h, B4]
theorem vD.fnT {P : Program} {env : Env} {ty : TypeId} {w : World} {x : Operand} {f : FuncId} {fn : Func} {as : Array Operand} {ts : Array TypeId} {args : Array Value} (hx : ev env x = .func (.func f) #[] #[]) (hf : P.funcs[f]? = some fn) (hn : (fn.name == "runtime.NumGoroutine") = false) (hb : fn.body.isSome = true) (ha : as.map (ev env) = args) :
  vD P env (.call { callee := .value x, args := as, argTypes := ts }) ty w f args := by
 subst ha
 show (execOp (ev env) _).run P w = _
 have hb' : ¬ fn.body = none := by cases h : fn.body <;> simp_all
 have hn' : ¬ fn.name = "runtime.NumGoroutine" := by simpa using hn
 simp [execOp, resolve, hx, Deferred.ofValue, invoke, callFunc, hf, hn', hb']
section
variable {w0 w : World} {F0 F F' : CH} {D : Nat → Nat → Prop} {rest : List CH} {α : Type} {K : Kd α} {p : CH} {A : Option Addr} {n c b off : Nat} {xs : List α}
theorem Row.foc (hR : Row K F p (.slice A n c) xs) (hA : A = some ⟨b, off, none⟩) (C : Ctx w0 F0 D w F (p :: rest)) (i z : Nat) (hz : K.sz = z) (hi : i < xs.length) (d : α) :
  ∃ pa pb cs, K.rep F (xs.getD i d) cs ∧ Ctx w0 F0 D w F (pa :: CH.row b (off + i * z) cs :: pb :: rest) ∧
   ∀ F' x' cs', CH.le F F' → K.rep F' x' cs' → Row K F' (CH.join pa (CH.join (CH.row b (off + i * z) cs') pb)) (.slice A n c) (xs.set i x') := by
 subst hz
 rcases hR with ⟨_, rfl, _⟩ | ⟨g, Ga, cap, cur, hv1, h2, h3, rfl, h5, h6, h7⟩
 ·simp at hi
 ·injection hv1 with e1 e2 e3
  subst e2; subst e3
  rw [hA] at e1
  injection e1 with e1
  injection e1 with e1 e4
  subst e1; subst e4
  have hle : i * K.sz + K.sz ≤ cur.length := by rw [h5, ← Nat.succ_mul]; exact Nat.mul_le_mul_right _ (by omega)
  have hold : xs[i]? = some (xs.getD i d) := getD_some hi
  have hcut : ∀ cs' : List Value, cs'.length = K.sz → CH.row b off (cur.take (i * K.sz) ++ (cs' ++ cur.drop (i * K.sz + K.sz))) = CH.join (CH.row b off (cur.take (i * K.sz))) (CH.join (CH.row b (off + i * K.sz) cs') (CH.row b (off + i * K.sz + K.sz) (cur.drop (i * K.sz + K.sz)))) := fun cs' hl => by
   have h1 : (cur.take (i * K.sz)).length = i * K.sz := by rw [List.length_take]; omega
   rw [CH.BY, CH.BY, h1, hl]
  have hmid : ((cur.drop (i * K.sz)).take K.sz).length = K.sz := by rw [List.length_take, List.length_drop]; omega
  have hcur : cur = cur.take (i * K.sz) ++ ((cur.drop (i * K.sz)).take K.sz ++ cur.drop (i * K.sz + K.sz)) := by
   rw [← List.drop_drop, List.take_append_drop, List.take_append_drop]
  refine ⟨CH.row b off (cur.take (i * K.sz)), CH.row b (off + i * K.sz + K.sz) (cur.drop (i * K.sz + K.sz)), (cur.drop (i * K.sz)).take K.sz, h7.2 i _ hold, ?_, fun F' x' cs' hF hr => ?_⟩
  ·have C2 := C
   rw [hcur, hcut _ hmid] at C2
   have h1 : (cur.take (i * K.sz)).length = i * K.sz := by rw [List.length_take]; omega
   have d1 : CH.dis (CH.row b off (cur.take (i * K.sz))) (CH.join (CH.row b (off + i * K.sz) ((cur.drop (i * K.sz)).take K.sz)) (CH.row b (off + i * K.sz + K.sz) (cur.drop (i * K.sz + K.sz)))) := by
    have := CH.Ce b off (cur.take (i * K.sz)) ((cur.drop (i * K.sz)).take K.sz ++ cur.drop (i * K.sz + K.sz))
    rw [h1, CH.BY, hmid] at this
    exact this
   have d2 : CH.dis (CH.row b (off + i * K.sz) ((cur.drop (i * K.sz)).take K.sz)) (CH.row b (off + i * K.sz + K.sz) (cur.drop (i * K.sz + K.sz))) := by
    have := CH.Ce b (off + i * K.sz) ((cur.drop (i * K.sz)).take K.sz) (cur.drop (i * K.sz + K.sz))
    rw [hmid] at this
    exact this
   exact Ctx.split [_] rest d2 (Ctx.split [] rest d1 C2)
  ·have hl := K.len hr
   refine .inr ⟨b, off, c, _, by rw [hA, List.length_set], by rw [List.length_set]; exact h2, h3, (hcut cs' hl).symm, ?_, fun u hu => ?_, ?_⟩
   ·simp only [List.length_append, List.length_take, List.length_drop]; omega
   ·rcases List.mem_append.1 hu with hu | hu
    ·exact h6 u (List.mem_of_mem_take hu)
    ·rcases List.mem_append.1 hu with hu | hu
     ·exact K.one hr u hu
     ·exact h6 u (List.mem_of_mem_drop hu)
   ·have := Els.set (h7.mono hF) i x' hr hi
    rwa [List.append_assoc] at this
theorem Row.Fx {pa pb : CH} {o i : Nat} {cs : List Value} {v : Value} {x : α} (hput : ∀ F' x' cs', CH.le F F' → K.rep F' x' cs' → Row K F' (CH.join pa (CH.join (CH.row b o cs') pb)) v (xs.set i x')) (hF : CH.le F F') (hr : K.rep F' x cs) (C : Ctx w0 F0 D w F' (pa :: CH.row b o cs :: pb :: rest)) :
  ∃ p', Ctx w0 F0 D w F' (p' :: rest) ∧ Row K F' p' v (xs.set i x) :=
 ⟨_, Ctx.join [] rest (Ctx.join [pa] rest C), hput _ _ _ hF hr⟩
end
end Go.WG
namespace Go.WG
open Go Go.RowKit
section
variable {P : Program} {ops : Array Oper} {Q : Exit → Env → World → Prop} {env : Env} {w w' : World} {rest : List Oper} {op : Op} {ty : TypeId} {pos : String} {aft : Array Edge} {dst : Option Nat} {f : FuncId} {args : Array Value} {R : Ending → World → Prop}
theorem WL.sI (hc : Calls P f args w R) (h : vD P env op ty w f args) (k : ∀ e w', R e w' → ∃ v, e = .returned v ∧ WL P ops Q rest (zW env dst v) w') : WL P ops Q (⟨dst, op, ty, pos, aft, none⟩ :: rest) env w := WL.call h hc k
variable {N : Nat} {Ms : List (List Nat × CH)} {R' : Env → World → Prop} {fuel : Nat} {listed : Array Bool}
theorem Up.sI {i : Nat} {L : Array Bool} (hi : ops[i]? = some ⟨dst, op, ty, pos, aft, none⟩) (hd : yP N ⟨dst, op, ty, pos, aft, none⟩ = true) (hl : listed.setIfInBounds i true = L) (hc : Calls P f args w R) (he : vD P env op ty w f args)
  (h : ∀ e w', R e w' → ∃ v, e = .returned v ∧ SLc Ms i listed w' ∧ WA P N ops Ms R' fuel L (zW env dst v) w') : Up P N ops Ms R' fuel listed env w i := Up.call hi hd hl he hc h
theorem UpI.sI {K : Env → World → Prop} {i : Nat} (hi : ops[i]? = some ⟨dst, op, ty, pos, aft, none⟩) (hd : yP N ⟨dst, op, ty, pos, aft, none⟩ = true) (hc : Calls P f args w R) (he : vD P env op ty w f args)
  (h : ∀ e w', R e w' → ∃ v, e = .returned v ∧ DO Ms w' ∧ K (zW env dst v) w') : UpI P N ops Ms K env w i := UpI.call hi hd he hc h
end
end Go.WG
