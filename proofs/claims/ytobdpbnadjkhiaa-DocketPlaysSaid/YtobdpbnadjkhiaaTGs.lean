/- slices.Sort over a row of one's own, by the library's contract: the row is sorted. Nothing is assumed but what each theorem says. -/
import Derived.Test.YtobdpbnadjkhiaaTGs0
import Derived.Test.YtobdpbnadjkhiaaTLq
namespace Go.Proofs.Ytobdpbnadjkhiaa
open Go.RowKit Go.WG Go.Sort
set_option linter.unusedVariables false
set_option linter.unusedSimpArgs false
def sortI (xs : List Int) : List Int := xs.mergeSort fun x y => decide (x ≤ y)
def slices_Sort.f (k : Nat) (xs : List Int) : Option (List Int) := if xs.length * 8 ≤ 140737488355328 then some (sortI xs) else none
theorem sortI_length (xs : List Int) : (sortI xs).length = xs.length := List.length_mergeSort xs
theorem sortI_perm {xs ys : List Int} (h : xs.Perm ys) : sortI xs = sortI ys := by
 have tr : ∀ a b c : Int, decide (a ≤ b) = true → decide (b ≤ c) = true → decide (a ≤ c) = true := fun a b c h1 h2 => decide_eq_true (Int.le_trans (of_decide_eq_true h1) (of_decide_eq_true h2))
 have to : ∀ a b : Int, (decide (a ≤ b) || decide (b ≤ a)) = true := fun a b => by rcases Int.le_total a b with h | h <;> simp [h]
 refine List.Perm.eq_of_pairwise (le := fun a b => decide (a ≤ b) = true) (fun a b _ _ h1 h2 => Int.le_antisymm (of_decide_eq_true h1) (of_decide_eq_true h2)) (List.pairwise_mergeSort tr to xs) (List.pairwise_mergeSort tr to ys) ?_
 exact (List.mergeSort_perm xs _).trans (h.trans (List.mergeSort_perm ys _).symm)
/-- A row laid over by another of its length, blocks behind. -/
theorem Pre.put {w : World} {F : CH} {g off n : Nat} {cur : List Value} {d0 d : List Int} {os : Array Obj} (hp : Pre w F [CH.row g off cur]) (hH : Holds (Value.int .i64) w g off d0.toArray) (hd : d.length = d0.length) (hl : d.length ≤ cur.length) (hg : g < w.heap.size) :
  Ctx w F (domL [CH.row g off cur]) (grow (putRow (Value.int .i64) (Go.Sort.ahead w n) g off d.toArray) os) F [CH.row g off (d.map (Value.int .i64) ++ cur.drop d.length)] := by
 generalize hw' : grow (putRow (Value.int .i64) (Go.Sort.ahead w n) g off d.toArray) os = w'
 have hsz : (putRow (Value.int .i64) (Go.Sort.ahead w n) g off d.toArray).heap.size = w.heap.size := by rw [size_putRow, heap_ahead]
 have hold : ∀ b, b < w.heap.size → w'.heap[b]? = (putRow (Value.int .i64) (Go.Sort.ahead w n) g off d.toArray).heap[b]? := fun b hb => by
  subst hw'
  exact heap_grow_old _ os (by rw [hsz]; exact hb)
 have hother : ∀ b, b < w.heap.size → b ≠ g → w'.heap[b]? = w.heap[b]? := fun b hb hne => by
  rw [hold b hb]
  show (w.heap.modify g _)[b]? = _
  rw [Array.getElem?_modify, if_neg (Ne.symm hne)]
 have hcell : ∀ o, w'.cell? ⟨g, o, none⟩ = (putRow (Value.int .i64) (Go.Sort.ahead w n) g off d.toArray).cell? ⟨g, o, none⟩ := fun o => by
  subst hw'
  exact cell?_grow _ os _ (by rw [hsz]; exact hg)
 have hfro : ∀ b o, b < w.heap.size → w'.frozen? ⟨b, o, none⟩ = w.frozen? ⟨b, o, none⟩ := fun b o hb => by
  subst hw'
  rw [frozen?_grow _ os _ (by rw [hsz]; exact hb), frozen?_putRow]
  rfl
 have hin : ∀ j (hj : j < d.length), Go.WG.look w' g (off + j) = some (.v (.int .i64 d[j])) := fun j hj => by
  refine look_v.2 ?_
  rw [hcell, cell?_putRow (Value.int .i64) (Go.Sort.ahead w n) g off d0.toArray d.toArray (holds_ahead _ _ _ _ _ _ hH) (by simpa using hd) j (by simpa using hj)]
  rw [getElem!_pos d.toArray j (by simpa using hj)]
  simp
 have hobj : ∃ c e fr, w.heap[g]? = some (.cells c e fr) ∨ d.length = 0 := by
  rcases Nat.eq_zero_or_pos d.length with h | h
  ·exact ⟨#[], 0, (0, 0), .inr h⟩
  ·obtain ⟨c, e, fr, h1, _⟩ := cells_of_cell? (hH 0 (by simpa [hd] using h)).1
   exact ⟨c, e, fr, .inl h1⟩
 have hout : ∀ o, ¬ (off ≤ o ∧ o < off + d.length) → Go.WG.look w' g o = Go.WG.look w g o := fun o ho => by
  obtain ⟨c, e, fr, hc | hz⟩ := hobj
  ·have hc' : w'.heap[g]? = some (.cells (putCells (Value.int .i64) off d.toArray c) e fr) := by
    rw [hold g hg]
    show (w.heap.modify g _)[g]? = _
    rw [Array.getElem?_modify, if_pos rfl, hc]
    rfl
   unfold Go.WG.look
   rw [hc, hc']
   simp only
   congr 1
   unfold putCells
   rw [Array.getElem?_mapIdx]
   cases c[o]? with
   | none => rfl
   | some y =>
    rw [Option.map_some, if_neg]
    simpa using ho
  ·have hd0 : d = [] := List.eq_nil_of_length_eq_zero hz
   subst hd0
   have hid : ∀ c : Array Value, putCells (Value.int .i64) off (#[] : Array Int) c = c := fun c => by
    apply Array.ext_getElem?
    intro k
    unfold putCells
    rw [Array.getElem?_mapIdx]
    cases c[k]? with
    | none => rfl
    | some y => rw [Option.map_some, if_neg (fun h => by have h2 := h.2; rw [List.size_toArray] at h2; simp at h2; omega)]
   have hw : w'.heap[g]? = w.heap[g]? := by
    rw [hold g hg]
    show (w.heap.modify g _)[g]? = _
    rw [Array.getElem?_modify, if_pos rfl]
    cases w.heap[g]? with
    | none => rfl
    | some y =>
     cases y <;> simp [onCells, hid]
   exact look_congr hw o
 have hrow : ∀ b o c, CH.row g off cur b o = some c → Go.WG.look w b o = some c ∧ w.frozen? ⟨b, o, none⟩ = false := fun b o c h => (hp.own _ (by simp)).1 b o c h
 have hnew : ∀ b o c, CH.row g off (d.map (Value.int .i64) ++ cur.drop d.length) b o = some c → Go.WG.look w' b o = some c ∧ w'.frozen? ⟨b, o, none⟩ = false ∧ CH.row g off cur b o ≠ none := fun b o c h => by
  obtain ⟨rfl, j, v, rfl, hj, rfl⟩ := CH.row_some h
  have hjl : j < cur.length := by
   have := (List.getElem?_eq_some_iff.1 hj).1
   rw [List.length_append, List.length_map, List.length_drop] at this
   omega
  have hcur : CH.row b off cur b (off + j) = some (.v cur[j]) := CH.row_get (List.getElem?_eq_getElem hjl)
  have h2 := hrow b (off + j) _ hcur
  refine ⟨?_, by rw [hfro b _ hg]; exact h2.2, by rw [hcur]; simp⟩
  by_cases hjd : j < d.length
  ·rw [hin j hjd]
   rw [List.getElem?_append_left (by simpa using hjd), List.getElem?_map, List.getElem?_eq_getElem hjd] at hj
   injection hj with hj
   rw [hj]
  ·rw [hout _ (by omega), h2.1]
   rw [List.getElem?_append_right (by simpa using hjd), List.length_map, List.getElem?_drop] at hj
   rw [show d.length + (j - d.length) = j from by omega, List.getElem?_eq_getElem hjl] at hj
   injection hj with hj
   rw [hj]
 have hmod : Mod (domL [CH.row g off cur]) w w' := by
  refine ⟨by subst hw'; rfl, by subst hw'; rfl, by subst hw'; rfl, by subst hw'; rw [size_grow, hsz]; omega, fun b hb hn => ?_, fun b o hb hn => ?_, fun b o hb => hfro b o hb⟩
  ·by_cases hbg : b = g
   ·subst hbg
    have hd0 : d.length = 0 := by
     rcases Nat.eq_zero_or_pos d.length with h | h
     ·exact h
     ·refine absurd ⟨CH.row b off cur, by simp, ?_⟩ (hn off)
      have : CH.row b off cur b (off + 0) = some (.v cur[0]) := CH.row_get (List.getElem?_eq_getElem (by omega))
      rw [Nat.add_zero] at this
      rw [this]; simp
    have hd1 : d = [] := List.eq_nil_of_length_eq_zero hd0
    subst hd1
    rw [hold b hb]
    show (w.heap.modify b _)[b]? = _
    rw [Array.getElem?_modify, if_pos rfl]
    cases w.heap[b]? with
    | none => rfl
    | some y =>
     cases y with
     | cells c e fr =>
      have : putCells (Value.int .i64) off (#[] : Array Int) c = c := by
       apply Array.ext_getElem?
       intro k
       unfold putCells
       rw [Array.getElem?_mapIdx]
       cases c[k]? with
       | none => rfl
       | some y => rw [Option.map_some, if_neg (fun h => absurd h.1 (by have := h.2; simp at this; omega))]
      simp [onCells, this]
     | _ => rfl
   ·exact hother b hb hbg
  ·by_cases hbg : b = g
   ·subst hbg
    refine hout o fun ho => hn ⟨CH.row b off cur, by simp, ?_⟩
    have : CH.row b off cur b (off + (o - off)) = some (.v cur[o - off]) := CH.row_get (List.getElem?_eq_getElem (by omega))
    rw [show off + (o - off) = o from by omega] at this
    rw [this]; simp
   ·exact look_congr (hother b hb hbg) o
 have hdis := (hp.own _ (List.mem_singleton.2 rfl)).2
 have hsub : ∀ b o, CH.row g off (d.map (Value.int .i64) ++ cur.drop d.length) b o ≠ none → CH.row g off cur b o ≠ none := fun b o h => by
  cases hv : CH.row g off (d.map (Value.int .i64) ++ cur.drop d.length) b o with
  | none => exact absurd hv h
  | some c => exact (hnew b o c hv).2.2
 refine ⟨hmod, CH.le_refl _, hp.fro.mod hmod fun b o hF ⟨q, hq, hn⟩ => ?_, fun b o hn => .inl hn, fun q hq => ?_, List.pairwise_singleton _ _⟩
 ·obtain rfl := List.mem_singleton.1 hq
  rcases hdis b o with h | h
  ·exact hF h
  ·exact hn h
 ·obtain rfl := List.mem_singleton.1 hq
  refine ⟨fun b o c h => ⟨(hnew b o c h).1, (hnew b o c h).2.1⟩, fun b o => ?_, fun b o hn => .inl ⟨_, List.mem_singleton.2 rfl, hsub b o hn⟩⟩
  rcases hdis b o with h | h
  ·exact .inl h
  ·right
   cases hv : CH.row g off (d.map (Value.int .i64) ++ cur.drop d.length) b o with
   | none => rfl
   | some c => exact absurd h (hnew b o c hv).2.2
theorem slices_Sort.calls (k : Nat) (w : World) (F : CH) (A : Option Addr) (c n : Nat) (p : CH) (xs : List Int) (hp : Pre w F [p]) (hn : n = xs.length) (hR : Row (Kd.int .i64) F p (.slice A n c) xs) (r : List Int) (H : slices_Sort.f k xs = some r) :
  Calls Try.prog 72 #[.slice A n c] w fun e w' => ∃ p', e = .returned (.tuple #[]) ∧ Ctx w F (domL [p]) w' F [p'] ∧ n = r.length ∧ Row (Kd.int .i64) F p' (.slice A n c) r := by
 unfold slices_Sort.f at H
 obtain ⟨hb, H⟩ := guardE H
 injection H with H
 subst H
 by_cases h0 : xs.length = 0
 ·have hx : xs = [] := List.eq_nil_of_length_eq_zero h0
  subst hx; subst hn
  refine (Go.Proofs.AnyM.slices_Sort_int_none laysSort A c w).mono fun e w' ⟨he, hw⟩ => ⟨p, he, ?_, (by simp [sortI]), ?_⟩
  ·subst hw; exact Ctx.start hp
  ·simpa [sortI] using hR
 ·rcases hR with ⟨_, hx, _⟩ | ⟨g, off, cap, cur, hv, hle, hmx, rfl, hcl, hone, hel⟩
  ·exact absurd (by rw [hx]; rfl) h0
  ·injection hv with h1 h2 h3
   subst h1; subst h2; subst h3
   have hcl' : cur.length = c := by rw [hcl]; show c * 1 = c; omega
   have hown := (hp.own _ (List.mem_singleton.2 rfl)).1
   have hat : ∀ j (hj : j < xs.length), cur[j]? = some (.int .i64 xs[j]) := fun j hj => by
    have h := hel.2 j _ (List.getElem?_eq_getElem hj)
    have h' : (cur.drop (j * 1)).take 1 = [Value.int .i64 xs[j]] := h
    have := congrArg (fun l => l[0]?) h'
    simpa [List.getElem?_take, List.getElem?_drop] using this
   have hH : Holds (Value.int .i64) w g off xs.toArray := fun j hj => by
    have hj' : j < xs.length := by simpa using hj
    have := hown g (off + j) _ (CH.row_get (hat j hj'))
    rw [getElem!_pos xs.toArray j hj]
    exact ⟨by simpa using look_v.1 this.1, this.2⟩
   have hg : g < w.heap.size := look_lt (hown g (off + 0) _ (CH.row_get (hat 0 (by omega)))).1
   refine (Go.Proofs.AnyM.slices_Sort_int laysSort g off c xs w hH hg (by omega)).mono fun e w' ⟨he, m, os, hw⟩ => ⟨CH.row g off ((sortI xs).map (Value.int .i64) ++ cur.drop (sortI xs).length), he, ?_, (sortI_length xs).symm, ?_⟩
   ·rw [hw]
    exact Pre.put (d0 := xs) hp hH (sortI_length xs) (by rw [List.length_mergeSort]; omega) hg
   ·refine .inr ⟨g, off, c, _, by rw [sortI_length], by rw [sortI_length]; exact hle, hmx, rfl, ?_, fun u hu => ?_, ?_, fun j x hj => ?_⟩
    ·rw [List.length_append, List.length_map, List.length_drop, sortI_length]; show _ = c * 1; omega
    ·rcases List.mem_append.1 hu with h | h
     ·obtain ⟨z, _, rfl⟩ := List.mem_map.1 h; rfl
     ·exact hone u (List.mem_of_mem_drop h)
    ·rw [List.length_append, List.length_map, List.length_drop]; show (sortI xs).length * 1 ≤ _; omega
    ·have hjl := (List.getElem?_eq_some_iff.1 hj).1
     show (List.drop (j * 1) _).take 1 = [Value.int .i64 x]
     rw [Nat.mul_one]
     apply List.ext_getElem?
     intro i
     rw [List.getElem?_take]
     split
     ·rename_i hi
      have : i = 0 := by omega
      subst this
      rw [List.getElem?_drop, Nat.add_zero, List.getElem?_append_left (by simpa using hjl), List.getElem?_map, hj]
      rfl
     ·rename_i hi
      rw [List.getElem?_eq_none (by simp; omega)]
end Go.Proofs.Ytobdpbnadjkhiaa
