/- Plain laws of tallies: what is counted and decided. -/
import Derived.Test.YtobdpbnadjkhiaaTGb
import Derived.Test.YtobdpbnadjkhiaaTGa
import Derived.Test.YtobdpbnadjkhiaaTLk
namespace Go.Proofs.Ytobdpbnadjkhiaa.Ta
open Go.WG Go.Proofs.Ytobdpbnadjkhiaa
set_option linter.unusedSimpArgs false
set_option linter.unusedVariables false
/-- Bytes. -/
def Byt (v : List Int) : Prop := v.length ≤ 200 ∧ ∀ x ∈ v, 0 ≤ x ∧ x < 256
theorem same1_f (a b : List Int) (hb : a.length ≤ 1000000000) : Ev (fun k => juratref01_Same.f k a b) (decide (a = b)) := by
 unfold juratref01_Same.f
 by_cases he : a.length = b.length
 ·refine Ev.iteT (by omega) ?_
  have hloop : Ev (fun k => juratref01_Same.l1 k a b 0) (if a = b then Sum.inl () else Sum.inr false) := by
   refine Ev.loop (n := a.length) (F := fun k j (_ : Unit) => juratref01_Same.l1 k a b (j : Int)) (fun j _ => a.take j = b.take j) (fun j _ hj hI => ?_) (fun _ hI => ?_) () rfl
   ·simp only [juratref01_Same.l1]
    by_cases h0 : a.getD j 0 = b.getD j 0
    ·refine .inr ⟨(), by rw [take_succ 0 hj, take_succ 0 (by omega), hI, h0], fun h => Ev.iteT (by omega) (Ev.iteT (by omega) (Ev.iteT (by omega) ?_))⟩
     simp only [Int.toNat_natCast, if_pos h0, wi64_j (show j < 9223372036854775807 by omega)]
     exact h
    ·refine .inl (Ev.iteT (by omega) (Ev.iteT (by omega) (Ev.iteT (by omega) ?_)))
     rw [if_neg (fun e : a = b => h0 (by rw [e]))]
     simp only [Int.toNat_natCast, if_neg h0]
     exact Ev.pure _
   ·simp only [juratref01_Same.l1]
    rw [List.take_length, List.take_of_length_le (by omega)] at hI
    rw [if_pos hI]
    exact Ev.iteF (by omega) (Ev.pure _)
  refine Ev.bind hloop ?_
  by_cases e : a = b
  ·simp only [if_pos e, decide_eq_true e, sumE]; exact Ev.pure _
  ·simp only [if_neg e, decide_eq_false e, sumE]; exact Ev.pure _
 ·rw [decide_eq_false (fun e => he (by rw [e]))]
  exact Ev.iteF (by omega) (Ev.pure _)
theorem strOfNums_inj : ∀ {a b : List Int}, (∀ x ∈ a, 0 ≤ x ∧ x < 256) → (∀ x ∈ b, 0 ≤ x ∧ x < 256) → strOfNums a = strOfNums b → a = b := by
 intro a b ha hb h
 have h1 : a.map (fun n => UInt8.ofNat n.toNat) = b.map (fun n => UInt8.ofNat n.toNat) := by
  have := congrArg (fun z => z.data.toList) h
  simpa [strOfNums] using this
 have h2 : ∀ z : Int, 0 ≤ z ∧ z < 256 → ((UInt8.ofNat z.toNat).toNat : Int) = z := fun z hz => by
  rw [UInt8.toNat_ofNat']
  have : z.toNat < 256 := by omega
  rw [Nat.mod_eq_of_lt (by simpa using this)]
  omega
 have h3 : ∀ l : List Int, (∀ x ∈ l, 0 ≤ x ∧ x < 256) → (l.map (fun n => UInt8.ofNat n.toNat)).map (fun u => (u.toNat : Int)) = l := fun l hl => by
  rw [List.map_map]
  exact (List.map_congr_left fun z hz => h2 z (hl z hz)).trans (List.map_id _)
 rw [← h3 a ha, ← h3 b hb, h1]
theorem own_f (a : List Int) (h : a.length ≤ 200) : Ev (fun k => tally_own.f k a) a := by
 unfold tally_own.f
 exact Ev.iteT (by omega) (Ev.pure _)
theorem equal_f {a b : List Int} (ha : Byt a) (hb : Byt b) : Ev (fun k => bytes_Equal.f k a b) (decide (a = b)) := by
 unfold bytes_Equal.f
 rw [show decide (strOfNums a = strOfNums b) = decide (a = b) from decide_eq_decide.2 ⟨strOfNums_inj ha.2 hb.2, fun e => by rw [e]⟩]
 exact Ev.pure _
/-- Votes that may be. -/
def Votes (l : List TCast) : Prop := l.length ≤ 60 ∧ ∀ c ∈ l, Byt c.Value
theorem Votes.at {l : List TCast} (h : Votes l) {j : Nat} (hj : j < l.length) : Byt (l.getD j TCast.z).Value := by
 rw [List.getD_eq_getElem?_getD, List.getElem?_eq_getElem hj]
 exact h.2 _ (List.getElem_mem hj)
/-- Each once, in the order of the first. -/
def ded (xs : List Int) : List Int := xs.foldl (fun acc x => if x ∈ acc then acc else acc ++ [x]) []
theorem ded_snoc (xs : List Int) (x : Int) : ded (xs ++ [x]) = if x ∈ ded xs then ded xs else ded xs ++ [x] := by
 unfold ded
 rw [List.foldl_append]
 rfl
theorem snoc_ind {α : Type} {p : List α → Prop} (h0 : p []) (h1 : ∀ l x, p l → p (l ++ [x])) : ∀ l, p l := by
 intro l
 have : ∀ m : List α, p m.reverse := fun m => by
  induction m with
  | nil => exact h0
  | cons a m ih => rw [List.reverse_cons]; exact h1 _ _ ih
 rw [← List.reverse_reverse l]
 exact this _
theorem ded_mem (xs : List Int) (y : Int) : y ∈ ded xs ↔ y ∈ xs := by
 induction xs using snoc_ind with
 | h0 => simp [ded]
 | h1 xs x ih =>
  rw [ded_snoc]
  split
  ·rename_i h
   rw [ih, List.mem_append, List.mem_singleton]
   constructor
   ·exact .inl
   ·rintro (h1 | rfl)
    ·exact h1
    ·exact ih.1 h
  ·rw [List.mem_append, List.mem_append, ih]
theorem ded_nodup (xs : List Int) : (ded xs).Nodup := by
 induction xs using snoc_ind with
 | h0 => simp [ded]
 | h1 xs x ih =>
  rw [ded_snoc]
  split
  ·exact ih
  ·rename_i h
   rw [List.nodup_append]
   refine ⟨ih, by simp, fun a ha b hb e => h ?_⟩
   rw [List.mem_singleton] at hb
   rw [← hb, ← e]; exact ha
theorem ded_len (xs : List Int) : (ded xs).length ≤ xs.length := by
 induction xs using snoc_ind with
 | h0 => simp [ded]
 | h1 xs x ih => rw [ded_snoc]; split <;> simp <;> omega
/-- Who voted for a value. -/
def who (l : List TCast) (v : List Int) : List Int := (l.filter fun c => decide (c.Value = v)).map (·.Worker)
def cnt (l : List TCast) (v : List Int) : Nat := (ded (who l v)).length
theorem who_snoc (l : List TCast) (c : TCast) (v : List Int) : who (l ++ [c]) v = if c.Value = v then who l v ++ [c.Worker] else who l v := by
 unfold who
 rw [List.filter_append, List.map_append]
 by_cases h : c.Value = v
 ·simp [h]
 ·simp [h]
theorem mset_keys {β : Type} (m : List (Int × β)) (k : Int) (v : β) : (mset m k v).map (·.1) = if k ∈ m.map (·.1) then m.map (·.1) else m.map (·.1) ++ [k] := by
 have hs : (mget m k).isSome = true ↔ k ∈ m.map (·.1) := by
  unfold mget
  rw [Option.isSome_map, List.find?_isSome]
  constructor
  ·rintro ⟨q, hq, he⟩
   exact List.mem_map.2 ⟨q, hq, by simpa using he⟩
  ·intro h
   obtain ⟨q, hq, he⟩ := List.mem_map.1 h
   exact ⟨q, hq, by simpa using he⟩
 unfold mset
 by_cases h : (mget m k).isSome = true
 ·rw [if_pos h, if_pos (hs.1 h), List.map_map]
  refine List.map_congr_left fun q _ => ?_
  simp only [Function.comp]
  split
  ·rename_i e; exact e.symm
  ·rfl
 ·rw [if_neg h, if_neg (fun e => h (hs.2 e)), List.map_append]
  rfl
theorem mget_mset {α β : Type} [DecidableEq α] (l : List (α × β)) (k k' : α) (v : β) : mget (mset l k v) k' = if k' = k then some v else mget l k' := by
 have hc : ∀ (q : α × β) (l : List (α × β)) (k : α), mget (q :: l) k = if q.1 = k then some q.2 else mget l k := fun q l k => by
  unfold mget
  rw [List.find?_cons]
  by_cases h : q.1 = k <;> simp [h]
 have key : ∀ l : List (α × β), mget (l.map fun q => if q.1 = k then (k, v) else q) k' = if k' = k then (if (mget l k).isSome = true then some v else none) else mget l k' := fun l => by
  induction l with
  | nil => simp [mget]
  | cons q l ih =>
   rw [List.map_cons, hc, hc, hc, ih]
   by_cases h : q.1 = k
   ·rw [if_pos h]
    by_cases h2 : k' = k
    ·subst h2; simp [h]
    ·have : ¬ k = k' := fun e => h2 e.symm
     have h3 : ¬ q.1 = k' := fun e => h2 (by rw [← e, h])
     simp [h2, this, h3]
   ·rw [if_neg h]
    by_cases h2 : k' = k
    ·subst h2; simp [h]
    ·simp [h2]
 have happ : ∀ l m : List (α × β), mget (l ++ m) k' = (mget l k').or (mget m k') := fun l m => by
  induction l with
  | nil => simp [mget]
  | cons q l ih => rw [List.cons_append, hc, hc, ih]; split <;> simp
 unfold mset
 by_cases h : (mget l k).isSome = true
 ·rw [if_pos h, key, if_pos h]
 ·rw [if_neg h, happ, hc]
  have hn : mget l k = none := by simpa using h
  by_cases h2 : k' = k
  ·subst h2; simp [hn]
  ·have : ¬ k = k' := fun e => h2 e.symm
   simp [h2, this, mget]
/-- What voters makes tells who voted for each value. -/
def VOk (l : List TCast) (x : List (ByteArray × List (Int × Int))) : Prop := ∀ v, Byt v → ((mget x (strOfNums v)).getD []).map (·.1) = ded (who l v)
theorem voters_f {l : List TCast} (hl : Votes l) : ∃ x, VOk l x ∧ Ev (fun k => tally_voters.f k l) x := by
 have step : ∀ (j : Nat) (x : List (ByteArray × List (Int × Int))), j < l.length → VOk (l.take j) x → VOk (l.take (j + 1)) (mset x (strOfNums (l.getD j TCast.z).Value) (mset ((mget x (strOfNums (l.getD j TCast.z).Value)).getD []) (l.getD j TCast.z).Worker (j : Int))) := fun j x hj hx v hv => by
  rw [take_succ TCast.z hj, who_snoc, mget_mset]
  have hc := hl.at hj
  by_cases h : (l.getD j TCast.z).Value = v
  ·rw [if_pos (by rw [h]), if_pos h, Option.getD_some, mset_keys, hx _ hc, h, ded_snoc]
  ·rw [if_neg (fun e => h (strOfNums_inj hc.2 hv.2 e.symm)), if_neg h]
   exact hx v hv
 have ex : ∀ j, j ≤ l.length → ∀ x, VOk (l.take j) x → ∃ r, VOk l r ∧ Ev (fun k => tally_voters.l1 k l x (j : Int)) r := by
  intro j
  have : ∀ m j, l.length - j = m → j ≤ l.length → ∀ x, VOk (l.take j) x → ∃ r, VOk l r ∧ Ev (fun k => tally_voters.l1 k l x (j : Int)) r := by
   intro m
   induction m with
   | zero =>
    intro j hm hj x hx
    obtain rfl : j = l.length := by omega
    rw [List.take_length] at hx
    refine ⟨x, hx, Ev.succ ?_⟩
    simp only [tally_voters.l1]
    exact Ev.iteF (by omega) (Ev.pure _)
   | succ m ih =>
    intro j hm hj x hx
    obtain ⟨r, hr, hE⟩ := ih (j + 1) (by omega) (by omega) _ (step j x (by omega) hx)
    refine ⟨r, hr, Ev.succ ?_⟩
    simp only [tally_voters.l1, Int.toNat_natCast, wi64_j (show j < 9223372036854775807 by have := hl.1; omega)]
    exact Ev.iteT (by omega) (Ev.iteT (by omega) hE)
  exact this _ j rfl
 obtain ⟨r, hr, hE⟩ := ex 0 (Nat.zero_le _) [] (fun v _ => by simp [mget, who, ded])
 exact ⟨r, hr, hE⟩
theorem VOk.len {l : List TCast} {x : List (ByteArray × List (Int × Int))} (h : VOk l x) {v : List Int} (hv : Byt v) : ((mget x (strOfNums v)).getD []).length = cnt l v := by
 have := congrArg List.length (h v hv)
 simpa [cnt] using this
/-- The first vote whose value has more than f. -/
def dec (l : List TCast) (f : Int) : List TCast → List Int × Bool
 | [] => ([], false)
 | c :: r => if (cnt l c.Value : Int) > f then (c.Value, true) else dec l f r
def decV (l : List TCast) (f : Int) : List Int × Bool := if f < 0 then ([], false) else dec l f l
theorem drop_cons {α : Type} {l : List α} {j : Nat} (d : α) (h : j < l.length) : l.drop j = l.getD j d :: l.drop (j + 1) := by
 rw [List.getD_eq_getElem?_getD, List.getElem?_eq_getElem h, Option.getD_some]
 exact List.drop_eq_getElem_cons h
theorem decide_f {l : List TCast} (hl : Votes l) (f : Int) : Ev (fun k => tally_Decide.f k l f) (decV l f) := by
 unfold tally_Decide.f decV
 by_cases hf : f < 0
 ·rw [if_pos hf]; exact Ev.iteT hf (Ev.pure _)
 ·rw [if_neg hf]
  refine Ev.iteF hf ?_
  obtain ⟨x, hx, hE⟩ := voters_f hl
  refine Ev.bind hE ?_
  have hloop : Ev (fun k => tally_Decide.l1 k l f x 0) (if (dec l f l).2 = true then Sum.inr (dec l f l) else Sum.inl ()) := by
   refine Ev.loop (n := l.length) (F := fun k j (_ : Unit) => tally_Decide.l1 k l f x (j : Int)) (fun j _ => dec l f (l.drop j) = dec l f l) (fun j _ hj hI => ?_) (fun _ hI => ?_) () rfl
   ·simp only [tally_Decide.l1, Int.toNat_natCast, hx.len (hl.at hj), wi64_j (show j < 9223372036854775807 by have := hl.1; omega)]
    rw [drop_cons TCast.z hj, dec] at hI
    by_cases hc : (cnt l (l.getD j TCast.z).Value : Int) > f
    ·rw [if_pos hc] at hI
     refine .inl (Ev.iteT (by omega) (Ev.iteT (by omega) (Ev.iteT hc ?_)))
     rw [← hI]
     exact Ev.bind (own_f _ (hl.at hj).1) (Ev.pure _)
    ·rw [if_neg hc] at hI
     exact .inr ⟨(), hI, fun h => Ev.iteT (by omega) (Ev.iteT (by omega) (Ev.iteF hc h))⟩
   ·simp only [tally_Decide.l1]
    rw [List.drop_length, dec] at hI
    rw [← hI]
    exact Ev.iteF (by omega) (Ev.pure _)
  refine Ev.bind hloop ?_
  have hn : ∀ r : List TCast, (dec l f r).2 ≠ true → dec l f r = ([], false) := fun r => by
   induction r with
   | nil => intro _; rfl
   | cons c r ih =>
    unfold dec
    split
    ·intro h; exact absurd rfl h
    ·exact ih
  by_cases h : (dec l f l).2 = true
  ·rw [if_pos h]; exact Ev.pure _
  ·rw [if_neg h, hn l h]; exact Ev.pure _
end Go.Proofs.Ytobdpbnadjkhiaa.Ta
