/- Plain laws of bytes: the program's readers. -/
import Derived.Test.YtobdpbnadjkhiaaGreatTM10
import Derived.Test.YtobdpbnadjkhiaaGreatTM3
import Derived.Test.YtobdpbnadjkhiaaGreatTM8
import Derived.Test.YtobdpbnadjkhiaaGreatTM2
import Derived.Test.YtobdpbnadjkhiaaGreatTM4
import Derived.Test.YtobdpbnadjkhiaaGreatTM5
import Derived.Test.YtobdpbnadjkhiaaGreatTM6
import Derived.Test.YtobdpbnadjkhiaaGreatTM9
namespace Go.Proofs.YtobdpbnadjkhiaaGreat.Rc
open Go.WG Go.Proofs.YtobdpbnadjkhiaaGreat
set_option linter.unusedSimpArgs false
set_option linter.unusedVariables false
structure At (r : rC) (s : RS) : Prop where
 a : 0 ≤ r.at_ ∧ r.at_ ≤ (r.b.length : Int)
 l : r.b.length ≤ 1000000
 d : r.b.drop r.at_.toNat = s.1
 q : r.e = s.2
 w : vY r.b
theorem At.CK {r : rC} {s : RS} (h : At r s) : Ok s := ⟨by rw [← h.d]; exact h.w.drop _, by rw [← h.d, List.length_drop]; have := h.l; omega⟩
theorem At.len {r : rC} {s : RS} (h : At r s) : (s.1.length : Int) = (r.b.length : Int) - r.at_ := by
 rw [← h.d, List.length_drop]; have := h.a; omega
theorem At.err {r : rC} {s : RS} (h : At r s) (e : Int) : At ⟨r.b, r.at_, e⟩ (s.1, e) := ⟨h.a, h.l, h.d, rfl, h.w⟩
theorem At.fwd {r : rC} {s : RS} (h : At r s) (n : Nat) (hn : n ≤ s.1.length) : At ⟨r.b, r.at_ + n, r.e⟩ (s.1.drop n, s.2) := by
 have := h.len
 have ha := h.a
 refine ⟨by dsimp only; omega, h.l, ?_, h.q, h.w⟩
 dsimp only
 rw [← h.d, List.drop_drop]
 congr 1
 omega
theorem Fc {r : rC} {s : RS} (h : At r s) {n : Int} (h0 : 0 ≤ n ∧ n < 18446744073709551616) (k : Nat) :
  uQ.f k r n = some (if n > (s.1.length : Int) then ([], false, r) else (s.1.take n.toNat, true, ⟨r.b, r.at_ + n, r.e⟩)) := by
 unfold uQ.f
 have hl := h.len; have ha := h.a; have hb := h.l
 have e1 : wR (rB ((r.b.length : Int) - r.at_)) = (s.1.length : Int) := by rw [tI (by omega) (by omega), zX (by omega) (by omega)]; omega
 rw [e1]
 by_cases g : n > (s.1.length : Int)
 ·rw [if_pos g, if_pos g]
 ·rw [if_neg g, if_neg g]
  have e2 : rB n = n := tI (by omega) (by omega)
  have e3 : rB (r.at_ + n) = r.at_ + n := tI (by omega) (by omega)
  rw [e2, e3, if_pos (by omega), ← h.d, List.take_drop]
  congr 3
  congr 1
  omega
theorem Ep (r : rC) (k : Nat) : uS.f k r = some (!decide (r.e = 0)) := rfl
theorem Ci (r : rC) (e w : Int) (k : Nat) : sT.f k r e w = some ⟨r.b, w, e⟩ := rfl
theorem F7 {r : rC} {s : RS} (h : At r s) {most : Int} (hm0 : 0 ≤ most) : ∃ r', Ev (fun k => vM.f k r most) ((vB most s).1, r') ∧ At r' (vB most s).2 ∧ r'.b = r.b := by
 unfold vM.f
 simp only [Ep, Option.bind_some, Ci]
 obtain ⟨b, e⟩ := s
 have he' := h.q
 dsimp only at he'
 by_cases he : e = 0
 ·subst he
  rw [BA]
  have h1 := Fc h (n := 1) (by omega)
  have hb : vY b := by have := h.CK.b; exact this
  have hl1 : b.length ≤ 1000000 := h.CK.l
  rw [decide_eq_true he']
  simp only [h1, Option.bind_some]
  cases b with
  | nil =>
   simp only [AT, List.length_nil]
   exact ⟨⟨r.b, r.at_, 40⟩, Ev.rZ (by simp) (by rw [if_pos (by decide)]; exact Ev.rZ (by simp) (Ev.pure _)), h.err 40, rfl⟩
  | cons d t =>
   have hd := hb d (by simp)
   unfold B8 at hd
   rw [List.length_cons] at hl1
   have hF := h.fwd 1 (by rw [List.length_cons]; omega)
   have e1 : (List.take (Int.toNat 1) (d :: t)) = [d] := rfl
   have hF' : At ⟨r.b, r.at_ + 1, r.e⟩ (t, 0) := hF
   have ew : wR d = d := zX (by omega) (by omega)
   have h2 := Fc hF' (n := d) (by omega)
   rw [if_neg (show ¬ (1 : Int) > (((d :: t, (0 : Int)) : RS).1.length : Int) by simp only [List.length_cons]; omega)]
   simp only [e1, List.getD_cons_zero, Int.toNat_zero, ew, h2, Option.bind_some, AT]
   have fin : ∀ {f : Nat → Option (Int × rC)} {x : Int} {r' : rC} {s' : RS}, Ev f (x, r') → At r' s' → r'.b = r.b → ∃ r', Ev (fun k => if (!true) = true then some (0, r) else if true = true then (if 0 ≤ (0 : Int) ∧ (0 : Int) < ([d].length : Int) then f k else none) else some (0, (⟨r.b, r.at_, 40⟩ : rC))) (x, r') ∧ At r' s' ∧ r'.b = r.b := fun hf ha hb => ⟨_, Ev.rZ (by simp) (Ev.rG rfl (Ev.rG (by simp) hf)), ha, hb⟩
   by_cases h8 : d > 8
   ·simp only [if_pos h8]; exact fin (Ev.pure _) (h.err 41) rfl
   simp only [if_neg h8]
   by_cases hs : d > (t.length : Int)
   ·simp only [if_pos hs]
    refine fin ?_ (h.err 40) rfl
    exact Ev.bind (Da (l := []) (by simp) (fun y hy => by cases hy)) (Ev.rZ (by simp) (Ev.pure _))
   simp only [if_neg hs]
   have hnum := Da (l := t.take d.toNat) (by rw [List.length_take]; omega) (hb.tail.take _)
   have htl : (t.take d.toNat).length = d.toNat := by rw [List.length_take]; omega
   by_cases hz : 0 < d ∧ t.getD 0 0 = 0
   ·simp only [if_pos hz]
    refine fin ?_ (h.err 41) rfl
    refine Ev.bind hnum (Ev.rG trivial (Ev.bind (a := true) (Ev.rG (by omega) (Ev.rG (by omega) ?_)) (Ev.rG rfl (Ev.pure _))))
    have : (t.take d.toNat).getD 0 0 = 0 := by
     rw [List.getD_eq_getElem?_getD, List.getElem?_take, if_pos (by omega), ← List.getD_eq_getElem?_getD]; exact hz.2
    rw [decide_eq_true this]; exact Ev.pure _
   ·simp only [if_neg hz]
    have hgo : Ev (fun k => if ((t.take d.toNat).length : Int) > 0 then (if 0 ≤ (0 : Int) ∧ (0 : Int) < ((t.take d.toNat).length : Int) then (some (decide ((t.take d.toNat).getD 0 0 = 0))) else none) else (some false)) false := by
     by_cases hd0 : d > 0
     ·refine Ev.rG (by omega) (Ev.rG (by omega) ?_)
      have : ¬ (t.take d.toNat).getD 0 0 = 0 := fun e => hz ⟨hd0, by
       rw [List.getD_eq_getElem?_getD, List.getElem?_take, if_pos (by omega), ← List.getD_eq_getElem?_getD] at e; exact e⟩
      rw [decide_eq_false this]; exact Ev.pure _
     ·exact Ev.rZ (by omega) (Ev.pure _)
    have hA : At ⟨r.b, r.at_ + 1 + d, r.e⟩ (t.drop d.toNat, 0) := by
     have := hF'.fwd d.toNat (by dsimp only; omega)
     have e : (r.at_ + 1 + ((d.toNat : Nat) : Int)) = r.at_ + 1 + d := by omega
     rw [e] at this
     exact this
    by_cases hm : (yZ (t.take d.toNat) : Int) > most
    ·simp only [if_pos hm]
     exact fin (Ev.bind hnum (Ev.rG trivial (Ev.bind hgo (Ev.rZ (by simp) (Ev.rG hm (Ev.pure _)))))) (h.err 42) rfl
    ·simp only [if_neg hm]
     exact fin (Ev.bind hnum (Ev.rG trivial (Ev.bind hgo (Ev.rZ (by simp) (Ev.rZ hm (Ev.pure _)))))) hA rfl
 ·rw [EJ _ _ he]
  refine ⟨r, ?_, h, rfl⟩
  rw [decide_eq_false (by rw [he']; exact he)]
  exact Ev.rG rfl (Ev.pure _)
theorem EN {r : rC} {s : RS} (h : At r s) {most : Int} (h0 : 0 ≤ most ∧ most ≤ 1000000) : ∃ r', Ev (fun k => vF.f k r most) ((uN most s).1, r') ∧ At r' (uN most s).2 := by
 obtain ⟨r1, hn, h1, hbb⟩ := F7 h (most := 18446744073709551615) (by decide)
 unfold vF.f xL.f
 simp only [Ep, Option.bind_some, Ci]
 obtain ⟨b, e⟩ := s
 have he' := h.q
 dsimp only at he'
 by_cases he : e = 0
 ·subst he
  rw [Dn]
  rw [BA] at hn h1
  rw [decide_eq_true he']
  have ew : wR most = most := zX h0.1 (by omega)
  simp only [ew]
  cases hg : AT 18446744073709551615 b with
  | inl q =>
   have hq := Dr hg
   rw [hg] at hn h1
   have he1 := h1.q
   dsimp only at he1 hn h1 ⊢
   refine ⟨r1, Ev.rZ (by simp) (Ev.bind (a := (0, r1)) (Ev.bind hn (Ev.rZ (by simp [he1, hq]) (Ev.pure _))) ?_), h1⟩
   rw [decide_eq_false (by rw [he1]; exact hq)]
   exact Ev.rG rfl (Ev.pure _)
  | inr p =>
   obtain ⟨x, rest⟩ := p
   rw [hg] at hn h1
   have he1 := h1.q
   have hlr := h1.CK.l
   have hx64 := BE h.CK.b hg
   dsimp only at he1 hn h1 hlr ⊢
   by_cases hm : (x : Int) > most
   ·rw [show (if (x : Int) > most then (([] : List Int), (b, (42 : Int))) else if x > rest.length then ([], (b, 40)) else (rest.take x, (rest.drop x, 0))) = ([], (b, 42)) from if_pos hm]
    have hA : At ⟨r1.b, r.at_, 42⟩ (b, 42) := by rw [hbb]; exact h.err 42
    refine ⟨⟨r1.b, r.at_, 42⟩, Ev.rZ (by simp) (Ev.bind (a := ((x : Int), ⟨r1.b, r.at_, 42⟩)) (Ev.bind hn (Ev.rG (by simp [he1]; omega) (Ev.pure _))) ?_), hA⟩
    exact Ev.rG rfl (Ev.pure _)
   ·rw [show (if (x : Int) > most then (([] : List Int), (b, (42 : Int))) else if x > rest.length then ([], (b, 40)) else (rest.take x, (rest.drop x, 0))) = (if x > rest.length then ([], (b, 40)) else (rest.take x, (rest.drop x, 0))) from if_neg hm]
    have ht := Fc h1 (n := (x : Int)) (by omega)
    have hoff : Ev (fun k => some (!decide (r1.e = 0))) false := by rw [decide_eq_true he1]; exact Ev.pure _
    by_cases hx : x > rest.length
    ·rw [if_pos hx]
     rw [if_pos (by dsimp only; omega)] at ht
     have hA : At ⟨r1.b, r.at_, 40⟩ (b, 40) := by rw [hbb]; exact h.err 40
     refine ⟨⟨r1.b, r.at_, 40⟩, Ev.rZ (by simp) (Ev.bind (a := ((x : Int), r1)) (Ev.bind hn (Ev.rZ (by simp [he1]; omega) (Ev.pure _))) ?_), hA⟩
     rw [decide_eq_true he1]
     simp only [ht, Option.bind_some]
     exact Ev.rZ (by simp) (Ev.rZ (by simp) (Ev.pure _))
    ·rw [if_neg hx]
     rw [if_neg (by dsimp only; omega)] at ht
     have hF := h1.fwd x (by dsimp only; omega)
     refine ⟨⟨r1.b, r1.at_ + x, r1.e⟩, Ev.rZ (by simp) (Ev.bind (a := ((x : Int), r1)) (Ev.bind hn (Ev.rZ (by simp [he1]; omega) (Ev.pure _))) ?_), hF⟩
     rw [decide_eq_true he1]
     simp only [ht, Option.bind_some, Int.toNat_natCast]
     exact Ev.rZ (by simp) (Ev.rG trivial (Ev.rG (by rw [List.length_take]; omega) (Ev.pure _)))
 ·rw [E1 _ _ he]
  refine ⟨r, ?_, h⟩
  rw [decide_eq_false (by rw [he']; exact he)]
  exact Ev.rG rfl (Ev.pure _)
theorem Js {r : rC} {s : RS} (h : At r s) : ∃ r', Ev (fun k => wH.f k r) ((Be s).1, r') ∧ At r' (Be s).2 := by
 unfold wH.f
 have ht := Fc h (n := 32) (by decide)
 obtain ⟨b, e⟩ := s
 have he' := h.q
 dsimp only at he' ht
 by_cases he : e = 0
 ·subst he
  rw [Fa]
  by_cases h32 : b.length < 32
  ·rw [if_pos h32]
   rw [if_pos (by omega)] at ht
   simp only [Ep, Option.bind_some, Ci, ht]
   rw [decide_eq_true he']
   exact ⟨⟨r.b, r.at_, 40⟩, Ev.rZ (by simp) (Ev.rZ (by simp) (Ev.pure _)), h.err 40⟩
  ·rw [if_neg h32]
   rw [if_neg (by omega)] at ht
   have e1 : AR 32 (List.replicate 32 0) (b.take 32) = b.take 32 := by
    have : (b.take 32).length = 32 := by rw [List.length_take]; omega
    unfold AR
    rw [this, List.take_of_length_le (by omega)]
    simp
   simp only [Ep, Option.bind_some, Ci, ht, show ((32 : Int).toNat) = 32 from rfl, e1]
   rw [decide_eq_true he']
   exact ⟨⟨r.b, r.at_ + 32, r.e⟩, Ev.rZ (by simp) (Ev.rG trivial (Ev.pure _)), h.fwd 32 (by dsimp only; omega)⟩
 ·rw [Gc _ he]
  simp only [Ep, Option.bind_some]
  rw [decide_eq_false (by rw [he']; exact he)]
  exact ⟨r, Ev.rG rfl (Ev.pure _), h⟩
theorem JR {r : rC} {s : RS} (h : At r s) : ∃ r', Ev (fun k => xM.f k r) (GS s, r') := by
 unfold xM.f xS.f wX.f
 have hl := h.len; have ha := h.a; have hb := h.l
 have e1 : rB ((r.b.length : Int) - r.at_) = (s.1.length : Int) := by rw [tI (by omega) (by omega)]; omega
 simp only [Ep, Option.bind_some, Ci, e1]
 obtain ⟨b, e⟩ := s
 have he' := h.q
 dsimp only at he' ⊢
 unfold GS
 dsimp only
 by_cases he : e = 0
 ·rw [decide_eq_true (by rw [he']; exact he)]
  by_cases hb : b = []
  ·refine ⟨r, Ev.bind (a := false) (Ev.rZ (by simp) ?_) (Ev.rZ (by simp) ?_)⟩
   ·rw [hb]; exact Ev.pure _
   ·rw [if_neg fun k => k.2 hb, he']; exact Ev.pure _
  ·have : 0 < b.length := List.length_pos_iff.2 hb
   refine ⟨⟨r.b, r.at_, 43⟩, Ev.bind (a := true) (Ev.rZ (by simp) ?_) (Ev.rG rfl ?_)⟩
   ·rw [decide_eq_true (by omega)]; exact Ev.pure _
   ·rw [if_pos ⟨he, hb⟩]; exact Ev.pure _
 ·rw [decide_eq_false (by rw [he']; exact he)]
  refine ⟨r, Ev.bind (a := false) (Ev.rG rfl (Ev.pure _)) (Ev.rZ (by simp) ?_)⟩
  rw [if_neg fun k => he k.1, he']; exact Ev.pure _
end Go.Proofs.YtobdpbnadjkhiaaGreat.Rc
namespace Go.Proofs.YtobdpbnadjkhiaaGreat.Ta
open Go.WG Go.Proofs.YtobdpbnadjkhiaaGreat
set_option linter.unusedSimpArgs false
set_option linter.unusedVariables false
def Byt (v : List Int) : Prop := v.length ≤ 200 ∧ ∀ x ∈ v, 0 ≤ x ∧ x < 256
theorem zG (a b : List Int) (hb : a.length ≤ 1000000000) : Ev (fun k => sK.f k a b) (decide (a = b)) := by
 unfold sK.f
 by_cases he : a.length = b.length
 ·refine Ev.rG (by omega) ?_
  have hloop : Ev (fun k => sK.l1 k a b 0) (if a = b then Sum.inl () else Sum.inr false) := by
   refine Ev.loop (n := a.length) (F := fun k j (_ : Unit) => sK.l1 k a b (j : Int)) (fun j _ => a.take j = b.take j) (fun j _ hj hI => ?_) (fun _ hI => ?_) () rfl
   ·simp only [sK.l1]
    by_cases h0 : a.getD j 0 = b.getD j 0
    ·refine .inr ⟨(), by rw [take_succ 0 hj, take_succ 0 (by omega), hI, h0], fun h => Ev.rG (by omega) (Ev.rG (by omega) (Ev.rG (by omega) ?_))⟩
     simp only [Int.toNat_natCast, if_pos h0, tU (show j < 9223372036854775807 by omega)]
     exact h
    ·refine .inl (Ev.rG (by omega) (Ev.rG (by omega) (Ev.rG (by omega) ?_)))
     rw [if_neg (fun e : a = b => h0 (by rw [e]))]
     simp only [Int.toNat_natCast, if_neg h0]
     exact Ev.pure _
   ·simp only [sK.l1]
    rw [List.take_length, List.take_of_length_le (by omega)] at hI
    rw [if_pos hI]
    exact Ev.rZ (by omega) (Ev.pure _)
  refine Ev.bind hloop ?_
  by_cases e : a = b
  ·simp only [if_pos e, decide_eq_true e, vS]; exact Ev.pure _
  ·simp only [if_neg e, decide_eq_false e, vS]; exact Ev.pure _
 ·rw [decide_eq_false (fun e => he (by rw [e]))]
  exact Ev.rZ (by omega) (Ev.pure _)
theorem BT : ∀ {a b : List Int}, (∀ x ∈ a, 0 ≤ x ∧ x < 256) → (∀ x ∈ b, 0 ≤ x ∧ x < 256) → strOfNums a = strOfNums b → a = b := by
 intro a b ha hb h
 have h1 : a.map (fun n => UInt8.ofNat n.toNat) = b.map (fun n => UInt8.ofNat n.toNat) := by
  have := congrArg (fun z => z.data.toList) h
  simpa [strOfNums] using this
 have h2 : ∀ z : Int, 0 ≤ z ∧ z < 256 → ((UInt8.ofNat z.toNat).toNat : Int) = z := fun z hz => by
  rw [UInt8.toNat_ofNat']
  have : z.toNat < 256 := by omega
  rw [Nat.mod_eq_of_lt (by simpa using this)]
  omega
 have h3 : ∀ l : List Int, (∀ x ∈ l, 0 ≤ x ∧ x < 256) → (l.map (fun n => UInt8.ofNat n.toNat)).map (fun u => (u.toNat : Int)) = l := fun l hl => by
  rw [List.map_map]
  exact (List.map_congr_left fun z hz => h2 z (hl z hz)).trans (List.map_id _)
 rw [← h3 a ha, ← h3 b hb, h1]
theorem Dd (a : List Int) (h : a.length ≤ 200) : Ev (fun k => yE.f k a) a := by
 unfold yE.f
 exact Ev.rG (by omega) (Ev.pure _)
theorem GF {a b : List Int} (ha : Byt a) (hb : Byt b) : Ev (fun k => xV.f k a b) (decide (a = b)) := by
 unfold xV.f
 rw [show decide (strOfNums a = strOfNums b) = decide (a = b) from decide_eq_decide.2 ⟨BT ha.2 hb.2, fun e => by rw [e]⟩]
 exact Ev.pure _
def rI (l : List rA) : Prop := l.length ≤ 60 ∧ ∀ c ∈ l, Byt c.Value
theorem rI.at {l : List rA} (h : rI l) {j : Nat} (hj : j < l.length) : Byt (l.getD j rA.z).Value := by
 rw [List.getD_eq_getElem?_getD, List.getElem?_eq_getElem hj]
 exact h.2 _ (List.getElem_mem hj)
def ded (xs : List Int) : List Int := xs.foldl (fun acc x => if x ∈ acc then acc else acc ++ [x]) []
theorem AN (xs : List Int) (x : Int) : ded (xs ++ [x]) = if x ∈ ded xs then ded xs else ded xs ++ [x] := by
 unfold ded
 rw [List.foldl_append]
 rfl
theorem DP {α : Type} {p : List α → Prop} (h0 : p []) (h1 : ∀ l x, p l → p (l ++ [x])) : ∀ l, p l := by
 intro l
 have : ∀ m : List α, p m.reverse := fun m => by
  induction m with
  | nil => exact h0
  | cons a m ih => rw [List.reverse_cons]; exact h1 _ _ ih
 rw [← List.reverse_reverse l]
 exact this _
theorem Cc (xs : List Int) (y : Int) : y ∈ ded xs ↔ y ∈ xs := by
 induction xs using DP with
 | h0 => simp [ded]
 | h1 xs x ih =>
  rw [AN]
  split
  ·rename_i h
   rw [ih, List.mem_append, List.mem_singleton]
   constructor
   ·exact .inl
   ·rintro (h1 | rfl)
    ·exact h1
    ·exact ih.1 h
  ·rw [List.mem_append, List.mem_append, ih]
theorem EG (xs : List Int) : (ded xs).length ≤ xs.length := by
 induction xs using DP with
 | h0 => simp [ded]
 | h1 xs x ih => rw [AN]; split <;> simp <;> omega
theorem JK {xs : List Int} (h : xs.Nodup) : ded xs = xs := by
 induction xs using DP with
 | h0 => simp [ded]
 | h1 xs x ih =>
  rw [List.nodup_append] at h
  rw [AN, if_neg, ih h.1]
  rw [Cc]
  exact fun hm => h.2.2 x hm x (by simp) rfl
def who (l : List rA) (v : List Int) : List Int := (l.filter fun c => decide (c.Value = v)).map (·.Worker)
def cnt (l : List rA) (v : List Int) : Nat := (ded (who l v)).length
theorem Bc (l : List rA) (c : rA) (v : List Int) : who (l ++ [c]) v = if c.Value = v then who l v ++ [c.Worker] else who l v := by
 unfold who
 rw [List.filter_append, List.map_append]
 by_cases h : c.Value = v
 ·simp [h]
 ·simp [h]
theorem CO {β : Type} (m : List (Int × β)) (k : Int) (v : β) : (yY m k v).map (·.1) = if k ∈ m.map (·.1) then m.map (·.1) else m.map (·.1) ++ [k] := by
 have hs : (xN m k).isSome = true ↔ k ∈ m.map (·.1) := by
  unfold xN
  rw [Option.isSome_map, List.find?_isSome]
  constructor
  ·rintro ⟨q, hq, he⟩
   exact List.mem_map.2 ⟨q, hq, by simpa using he⟩
  ·intro h
   obtain ⟨q, hq, he⟩ := List.mem_map.1 h
   exact ⟨q, hq, by simpa using he⟩
 unfold yY
 by_cases h : (xN m k).isSome = true
 ·rw [if_pos h, if_pos (hs.1 h), List.map_map]
  refine List.map_congr_left fun q _ => ?_
  simp only [Function.comp]
  split
  ·rename_i e; exact e.symm
  ·rfl
 ·rw [if_neg h, if_neg (fun e => h (hs.2 e)), List.map_append]
  rfl
theorem He {α β : Type} [DecidableEq α] (l : List (α × β)) (k k' : α) (v : β) : xN (yY l k v) k' = if k' = k then some v else xN l k' := by
 have hc : ∀ (q : α × β) (l : List (α × β)) (k : α), xN (q :: l) k = if q.1 = k then some q.2 else xN l k := fun q l k => by
  unfold xN
  rw [List.find?_cons]
  by_cases h : q.1 = k <;> simp [h]
 have key : ∀ l : List (α × β), xN (l.map fun q => if q.1 = k then (k, v) else q) k' = if k' = k then (if (xN l k).isSome = true then some v else none) else xN l k' := fun l => by
  induction l with
  | nil => simp [xN]
  | cons q l ih =>
   rw [List.map_cons, hc, hc, hc, ih]
   by_cases h : q.1 = k
   ·rw [if_pos h]
    by_cases h2 : k' = k
    ·subst h2; simp [h]
    ·have : ¬ k = k' := fun e => h2 e.symm
     have h3 : ¬ q.1 = k' := fun e => h2 (by rw [← e, h])
     simp [h2, this, h3]
   ·rw [if_neg h]
    by_cases h2 : k' = k
    ·subst h2; simp [h]
    ·simp [h2]
 have happ : ∀ l m : List (α × β), xN (l ++ m) k' = (xN l k').or (xN m k') := fun l m => by
  induction l with
  | nil => simp [xN]
  | cons q l ih => rw [List.cons_append, hc, hc, ih]; split <;> simp
 unfold yY
 by_cases h : (xN l k).isSome = true
 ·rw [if_pos h, key, if_pos h]
 ·rw [if_neg h, happ, hc]
  have hn : xN l k = none := by simpa using h
  by_cases h2 : k' = k
  ·subst h2; simp [hn]
  ·have : ¬ k = k' := fun e => h2 e.symm
   simp [h2, this, xN]
def VOk (l : List rA) (x : List (ByteArray × List (Int × Int))) : Prop := ∀ v, Byt v → ((xN x (strOfNums v)).getD []).map (·.1) = ded (who l v)
theorem HR {l : List rA} (hl : rI l) : ∃ x, VOk l x ∧ Ev (fun k => vE.f k l) x := by
 have step : ∀ (j : Nat) (x : List (ByteArray × List (Int × Int))), j < l.length → VOk (l.take j) x → VOk (l.take (j + 1)) (yY x (strOfNums (l.getD j rA.z).Value) (yY ((xN x (strOfNums (l.getD j rA.z).Value)).getD []) (l.getD j rA.z).Worker (j : Int))) := fun j x hj hx v hv => by
  rw [take_succ rA.z hj, Bc, He]
  have hc := hl.at hj
  by_cases h : (l.getD j rA.z).Value = v
  ·rw [if_pos (by rw [h]), if_pos h, Option.getD_some, CO, hx _ hc, h, AN]
  ·rw [if_neg (fun e => h (BT hc.2 hv.2 e.symm)), if_neg h]
   exact hx v hv
 have ex : ∀ j, j ≤ l.length → ∀ x, VOk (l.take j) x → ∃ r, VOk l r ∧ Ev (fun k => vE.l1 k l x (j : Int)) r := by
  intro j
  have : ∀ m j, l.length - j = m → j ≤ l.length → ∀ x, VOk (l.take j) x → ∃ r, VOk l r ∧ Ev (fun k => vE.l1 k l x (j : Int)) r := by
   intro m
   induction m with
   | zero =>
    intro j hm hj x hx
    obtain rfl : j = l.length := by omega
    rw [List.take_length] at hx
    refine ⟨x, hx, Ev.succ ?_⟩
    simp only [vE.l1]
    exact Ev.rZ (by omega) (Ev.pure _)
   | succ m ih =>
    intro j hm hj x hx
    obtain ⟨r, hr, hE⟩ := ih (j + 1) (by omega) (by omega) _ (step j x (by omega) hx)
    refine ⟨r, hr, Ev.succ ?_⟩
    simp only [vE.l1, Int.toNat_natCast, tU (show j < 9223372036854775807 by have := hl.1; omega)]
    exact Ev.rG (by omega) (Ev.rG (by omega) hE)
  exact this _ j rfl
 obtain ⟨r, hr, hE⟩ := ex 0 (Nat.zero_le _) [] (fun v _ => by simp [xN, who, ded])
 exact ⟨r, hr, hE⟩
theorem VOk.len {l : List rA} {x : List (ByteArray × List (Int × Int))} (h : VOk l x) {v : List Int} (hv : Byt v) : ((xN x (strOfNums v)).getD []).length = cnt l v := by
 have := congrArg List.length (h v hv)
 simpa [cnt] using this
def dec (l : List rA) (f : Int) : List rA → List Int × Bool
 | [] => ([], false)
 | c :: r => if (cnt l c.Value : Int) > f then (c.Value, true) else dec l f r
def yO (l : List rA) (f : Int) : List Int × Bool := if f < 0 then ([], false) else dec l f l
theorem drop_cons {α : Type} {l : List α} {j : Nat} (d : α) (h : j < l.length) : l.drop j = l.getD j d :: l.drop (j + 1) := by
 rw [List.getD_eq_getElem?_getD, List.getElem?_eq_getElem h, Option.getD_some]
 exact List.drop_eq_getElem_cons h
theorem Fz {l : List rA} (hl : rI l) (f : Int) : Ev (fun k => uL.f k l f) (yO l f) := by
 unfold uL.f yO
 by_cases hf : f < 0
 ·rw [if_pos hf]; exact Ev.rG hf (Ev.pure _)
 ·rw [if_neg hf]
  refine Ev.rZ hf ?_
  obtain ⟨x, hx, hE⟩ := HR hl
  refine Ev.bind hE ?_
  have hloop : Ev (fun k => uL.l1 k l f x 0) (if (dec l f l).2 = true then Sum.inr (dec l f l) else Sum.inl ()) := by
   refine Ev.loop (n := l.length) (F := fun k j (_ : Unit) => uL.l1 k l f x (j : Int)) (fun j _ => dec l f (l.drop j) = dec l f l) (fun j _ hj hI => ?_) (fun _ hI => ?_) () rfl
   ·simp only [uL.l1, Int.toNat_natCast, hx.len (hl.at hj), tU (show j < 9223372036854775807 by have := hl.1; omega)]
    rw [drop_cons rA.z hj, dec] at hI
    by_cases hc : (cnt l (l.getD j rA.z).Value : Int) > f
    ·rw [if_pos hc] at hI
     refine .inl (Ev.rG (by omega) (Ev.rG (by omega) (Ev.rG hc ?_)))
     rw [← hI]
     exact Ev.bind (Dd _ (hl.at hj).1) (Ev.pure _)
    ·rw [if_neg hc] at hI
     exact .inr ⟨(), hI, fun h => Ev.rG (by omega) (Ev.rG (by omega) (Ev.rZ hc h))⟩
   ·simp only [uL.l1]
    rw [List.drop_length, dec] at hI
    rw [← hI]
    exact Ev.rZ (by omega) (Ev.pure _)
  refine Ev.bind hloop ?_
  have hn : ∀ r : List rA, (dec l f r).2 ≠ true → dec l f r = ([], false) := fun r => by
   induction r with
   | nil => intro _; rfl
   | cons c r ih =>
    unfold dec
    split
    ·intro h; exact absurd rfl h
    ·exact ih
  by_cases h : (dec l f l).2 = true
  ·rw [if_pos h]; exact Ev.pure _
  ·rw [if_neg h, hn l h]; exact Ev.pure _
end Go.Proofs.YtobdpbnadjkhiaaGreat.Ta
namespace Go.Proofs.YtobdpbnadjkhiaaGreat.Ta
open Go.WG Go.Proofs.YtobdpbnadjkhiaaGreat
set_option linter.unusedSimpArgs false
set_option linter.unusedVariables false
theorem Gp (l : List rA) (v : List Int) (x : Int) : x ∈ who l v ↔ ∃ c ∈ l, c.Value = v ∧ c.Worker = x := by
 unfold who
 rw [List.mem_map]
 constructor
 ·rintro ⟨c, hc, rfl⟩
  rw [List.mem_filter] at hc
  exact ⟨c, hc.1, of_decide_eq_true hc.2, rfl⟩
 ·rintro ⟨c, hc, h, rfl⟩
  exact ⟨c, List.mem_filter.2 ⟨hc, decide_eq_true h⟩, rfl⟩
theorem Ds {α : Type} {l : List α} {n : Nat} {x : α} (d : α) (hn : n ≤ l.length) : x ∈ l.take n ↔ ∃ k, k < n ∧ l.getD k d = x := by
 rw [List.mem_iff_getElem?]
 constructor
 ·rintro ⟨k, hk⟩
  rw [List.getElem?_take] at hk
  split at hk
  ·rename_i h
   exact ⟨k, h, by rw [List.getD_eq_getElem?_getD, hk]; rfl⟩
  ·cases hk
 ·rintro ⟨k, hk, rfl⟩
  refine ⟨k, ?_⟩
  rw [List.getElem?_take, if_pos hk, List.getElem?_eq_getElem (by omega), List.getD_eq_getElem?_getD, List.getElem?_eq_getElem (by omega)]
  rfl
def lie (l : List rA) (v : List Int) : List Int := (l.filter fun c => decide (¬ c.Value = v)).map (·.Worker)
theorem IJ (l : List rA) (v : List Int) (x : Int) : x ∈ lie l v ↔ ∃ c ∈ l, ¬ c.Value = v ∧ c.Worker = x := by
 unfold lie
 rw [List.mem_map]
 constructor
 ·rintro ⟨c, hc, rfl⟩
  rw [List.mem_filter] at hc
  exact ⟨c, hc.1, of_decide_eq_true hc.2, rfl⟩
 ·rintro ⟨c, hc, h, rfl⟩
  exact ⟨c, List.mem_filter.2 ⟨hc, decide_eq_true h⟩, rfl⟩
theorem FK (l : List rA) (c : rA) (v : List Int) : lie (l ++ [c]) v = if c.Value = v then lie l v else lie l v ++ [c.Worker] := by
 unfold lie
 rw [List.filter_append, List.map_append]
 by_cases h : c.Value = v
 ·simp [h]
 ·simp [h]
theorem GM (l : List rA) (v : List Int) : (lie l v).length ≤ l.length := by unfold lie; rw [List.length_map]; exact List.length_filter_le _ _
def Gb (l : List rA) (v : List Int) : List Int := Bf (ded (lie l v))
theorem Hb (xs : List Int) (x : Int) : x ∈ Bf xs ↔ x ∈ xs := (List.mergeSort_perm xs _).mem_iff
theorem HM (l : List rA) (v : List Int) (x : Int) : x ∈ Gb l v ↔ ∃ c ∈ l, ¬ c.Value = v ∧ c.Worker = x := by
 unfold Gb
 rw [Hb, Cc, IJ]
theorem Ih (l : List rA) (v : List Int) : (Gb l v).length ≤ l.length := by
 unfold Gb
 rw [yW]
 exact Nat.le_trans (EG _) (GM _ _)
theorem I3 {l : List rA} (hl : rI l) {v : List Int} (hv : Byt v) : Ev (fun k => vC.f k l v) (Gb l v) := by
 unfold vC.f
 have hloop : ∃ x : List (Int × Int), x.map (·.1) = ded (lie l v) ∧ Ev (fun k => vC.l1 k l v [] 0) x := by
  have : ∀ m j, l.length - j = m → j ≤ l.length → ∀ x : List (Int × Int), x.map (·.1) = ded (lie (l.take j) v) → ∃ r : List (Int × Int), r.map (·.1) = ded (lie l v) ∧ Ev (fun k => vC.l1 k l v x (j : Int)) r := by
   intro m
   induction m with
   | zero =>
    intro j hm hj x hx
    obtain rfl : j = l.length := by omega
    rw [List.take_length] at hx
    refine ⟨x, hx, Ev.succ ?_⟩
    simp only [vC.l1]
    exact Ev.rZ (by omega) (Ev.pure _)
   | succ m ih =>
    intro j hm hj x hx
    have hjl : j < l.length := by omega
    have hE := GF (hl.at hjl) hv
    by_cases h : (l.getD j rA.z).Value = v
    ·obtain ⟨r, hr, hi⟩ := ih (j + 1) (by omega) (by omega) x (by rw [take_succ rA.z hjl, FK, if_pos h]; exact hx)
     refine ⟨r, hr, Ev.succ ?_⟩
     simp only [vC.l1, Int.toNat_natCast, tU (show j < 9223372036854775807 by have := hl.1; omega)]
     rw [decide_eq_true h] at hE
     repeat' (first | assumption | exact Ev.pure _ | apply Ev.rG (by first | assumption | omega | exact trivial | exact Bool.false_ne_true | exact rfl | (simp only [decide_eq_true_eq]; assumption) | (simp only [decide_eq_true_eq]; omega)) | apply Ev.rZ (by first | assumption | omega | exact trivial | exact Bool.false_ne_true | exact rfl | (simp only [decide_eq_true_eq]; assumption) | (simp only [decide_eq_true_eq]; omega)) | (apply Ev.bind (hE); try dsimp only; try simp only [Int.toNat_natCast]) | exact (hE) | apply Ev.bind)
    ·obtain ⟨r, hr, hi⟩ := ih (j + 1) (by omega) (by omega) (yY x (l.getD j rA.z).Worker (j : Int)) (by rw [take_succ rA.z hjl, FK, if_neg h, AN, CO, hx])
     refine ⟨r, hr, Ev.succ ?_⟩
     simp only [vC.l1, Int.toNat_natCast, tU (show j < 9223372036854775807 by have := hl.1; omega)]
     rw [decide_eq_false h] at hE
     repeat' (first | assumption | exact Ev.pure _ | apply Ev.rG (by first | assumption | omega | exact trivial | exact Bool.false_ne_true | exact rfl | (simp only [decide_eq_true_eq]; assumption) | (simp only [decide_eq_true_eq]; omega)) | apply Ev.rZ (by first | assumption | omega | exact trivial | exact Bool.false_ne_true | exact rfl | (simp only [decide_eq_true_eq]; assumption) | (simp only [decide_eq_true_eq]; omega)) | (apply Ev.bind (hE); try dsimp only; try simp only [Int.toNat_natCast]) | exact (hE) | apply Ev.bind)
  exact this _ 0 rfl (Nat.zero_le _) [] (by simp [lie, ded])
 obtain ⟨x, hx, hE⟩ := hloop
 refine Ev.bind hE (Ev.rG ?_ ?_)
 ·have h1 := congrArg List.length hx
  rw [List.length_map] at h1
  have h2 := EG (lie l v)
  have h3 := GM l v
  have := hl.1
  omega
 ·rw [hx]; exact Ev.pure _
def AQ (l : List rA) : Prop := (l.map (·.Worker)).Nodup
theorem CV {l : List rA} (p : rA → Bool) (h : AQ l) : ((l.filter p).map (·.Worker)).Nodup := List.Nodup.sublist ((List.filter_sublist).map _) h
theorem DK {l : List rA} (h : AQ l) (v : List Int) : cnt l v = (l.filter fun c => decide (c.Value = v)).length := by
 unfold cnt who
 rw [JK (CV _ h), List.length_map]
theorem FD (l : List rA) {v w : List Int} (h : v ≠ w) : (l.filter fun c => decide (c.Value = v)).length + (l.filter fun c => decide (c.Value = w)).length ≤ l.length := by
 induction l with
 | nil => simp
 | cons c l ih =>
  rw [List.filter_cons, List.filter_cons]
  by_cases h1 : c.Value = v
  ·have h2 : ¬ c.Value = w := fun e => h (h1.symm.trans e)
   simp [h1, h]; omega
  ·by_cases h2 : c.Value = w
   ·simp [h1, h2]
    have : ¬ w = v := fun e => h e.symm
    simp [this]
    omega
   ·simp [h1, h2]; omega
theorem HY {l : List rA} (h : AQ l) {f : Int} (hl : (l.length : Int) ≤ 2 * f + 1) {v w : List Int} (hv : (cnt l v : Int) > f) (hw : (cnt l w : Int) > f) : v = w := by
 refine Classical.byContradiction fun hne => ?_
 have := FD l hne
 rw [DK h] at hv hw
 omega
theorem DT (l : List rA) (f : Int) : ∀ r : List rA, (dec l f r).2 = true → (∃ c ∈ r, c.Value = (dec l f r).1) ∧ (cnt l (dec l f r).1 : Int) > f := by
 intro r
 induction r with
 | nil => intro h; cases h
 | cons c r ih =>
  unfold dec
  split
  ·rename_i hc
   exact fun _ => ⟨⟨c, by simp, rfl⟩, hc⟩
  ·intro h
   obtain ⟨⟨d, hd, he⟩, h2⟩ := ih h
   exact ⟨⟨d, List.mem_cons_of_mem _ hd, he⟩, h2⟩
theorem Hu (l : List rA) (f : Int) : ∀ r : List rA, (∃ c ∈ r, (cnt l c.Value : Int) > f) → (dec l f r).2 = true := by
 intro r
 induction r with
 | nil => rintro ⟨c, hc, _⟩; cases hc
 | cons c r ih =>
  rintro ⟨d, hd, h⟩
  unfold dec
  split
  ·rfl
  ·rename_i hc
   rcases List.mem_cons.1 hd with rfl | hd
   ·exact absurd h hc
   ·exact ih ⟨d, hd, h⟩
theorem Ir {l : List rA} {v : List Int} (h : 0 < cnt l v) : ∃ c ∈ l, c.Value = v := by
 unfold cnt at h
 obtain ⟨x, hx⟩ := List.exists_mem_of_length_pos h
 rw [Cc, Gp] at hx
 obtain ⟨c, hc, h1, _⟩ := hx
 exact ⟨c, hc, h1⟩
theorem IB {l : List rA} (h : AQ l) {f : Int} (hf : 0 ≤ f) (hl : (l.length : Int) ≤ 2 * f + 1) {v : List Int} (hv : (cnt l v : Int) > f) : yO l f = (v, true) := by
 unfold yO
 rw [if_neg (by omega)]
 obtain ⟨c, hc, rfl⟩ := Ir (l := l) (v := v) (by omega)
 have h1 := Hu l f l ⟨c, hc, hv⟩
 obtain ⟨_, h2⟩ := DT l f l h1
 have := HY h hl hv h2
 rw [this]
 exact Prod.ext rfl h1
def yT (l : List rA) (c : rA) : List rA × Int :=
 if c.Worker < 0 then ([], 1) else if (c.Value.length : Int) > 32 then ([], 42) else if ∃ d ∈ l, d.Worker = c.Worker then ([], 190) else (l ++ [c], 0)
theorem Ho {l : List rA} (hl : rI l) (c : rA) : Ev (fun k => uW.f k l c) (yT l c) := by
 unfold uW.f yT
 have h60 := hl.1
 by_cases h1 : c.Worker < 0
 ·rw [if_pos h1]; exact Ev.rG h1 (Ev.pure _)
 rw [if_neg h1]
 refine Ev.rZ h1 ?_
 by_cases h2 : (c.Value.length : Int) > 32
 ·rw [if_pos h2]; exact Ev.rG h2 (Ev.pure _)
 rw [if_neg h2]
 refine Ev.rZ h2 ?_
 by_cases h3 : ∃ d ∈ l, d.Worker = c.Worker
 ·rw [if_pos h3]
  have hloop : Ev (fun k => uW.l1 k l c [] 0) (Sum.inr ([], 190)) := by
   refine Ev.loop (n := l.length) (F := fun k j (s : List rA) => uW.l1 k l c s (j : Int)) (fun j s => s.length = j ∧ ∀ d ∈ l.take j, ¬ d.Worker = c.Worker) (fun j s hj hI => ?_) (fun s hI => ?_) [] ⟨rfl, by simp⟩
   ·obtain ⟨hs, hI⟩ := hI
    simp only [uW.l1, Int.toNat_natCast, tU (show j < 9223372036854775807 by omega)]
    by_cases h4 : (l.getD j rA.z).Worker = c.Worker
    ·left
     repeat' (first | assumption | exact Ev.pure _ | apply Ev.rG (by first | assumption | omega | exact trivial | exact Bool.false_ne_true | exact rfl | (simp only [decide_eq_true_eq]; assumption) | (simp only [decide_eq_true_eq]; omega)) | apply Ev.rZ (by first | assumption | omega | exact trivial | exact Bool.false_ne_true | exact rfl | (simp only [decide_eq_true_eq]; assumption) | (simp only [decide_eq_true_eq]; omega)) | apply Ev.bind)
    ·refine .inr ⟨s ++ [(⟨(l.getD j rA.z).Worker, (l.getD j rA.z).Value⟩ : rA)], ⟨by rw [List.length_append, hs]; rfl, fun d hd => ?_⟩, fun h => ?_⟩
     ·rw [take_succ rA.z hj] at hd
      rcases List.mem_append.1 hd with h | h
      ·exact hI d h
      ·rw [List.mem_singleton.1 h]; exact h4
     ·repeat' (first | assumption | exact Ev.pure _ | apply Ev.rG (by first | assumption | omega | exact trivial | exact Bool.false_ne_true | exact rfl | (simp only [decide_eq_true_eq]; assumption) | (simp only [decide_eq_true_eq]; omega)) | apply Ev.rZ (by first | assumption | omega | exact trivial | exact Bool.false_ne_true | exact rfl | (simp only [decide_eq_true_eq]; assumption) | (simp only [decide_eq_true_eq]; omega)) | (apply Ev.bind (Dd _ (hl.at hj).1); try dsimp only; try simp only [Int.toNat_natCast]) | exact (Dd _ (hl.at hj).1) | apply Ev.bind)
   ·rw [List.take_length] at hI
    obtain ⟨d, hd, he⟩ := h3
    exact absurd he (hI.2 d hd)
  exact Ev.bind hloop (Ev.pure _)
 ·rw [if_neg h3]
  have hloop : Ev (fun k => uW.l1 k l c [] 0) (Sum.inl l) := by
   refine Ev.loop (n := l.length) (F := fun k j (s : List rA) => uW.l1 k l c s (j : Int)) (fun j s => s = l.take j) (fun j s hj hI => ?_) (fun s hI => ?_) [] rfl
   ·subst hI
    have htl : (l.take j).length = j := by rw [List.length_take]; omega
    have h4 : ¬ (l.getD j rA.z).Worker = c.Worker := fun e => h3 ⟨_, by
     rw [List.getD_eq_getElem?_getD, List.getElem?_eq_getElem hj]; exact List.getElem_mem hj, e⟩
    simp only [uW.l1, Int.toNat_natCast, tU (show j < 9223372036854775807 by omega)]
    refine .inr ⟨_, rfl, fun h => ?_⟩
    rw [take_succ rA.z hj] at h
    repeat' (first | assumption | exact Ev.pure _ | apply Ev.rG (by first | assumption | omega | exact trivial | exact Bool.false_ne_true | exact rfl | (simp only [decide_eq_true_eq]; assumption) | (simp only [decide_eq_true_eq]; omega)) | apply Ev.rZ (by first | assumption | omega | exact trivial | exact Bool.false_ne_true | exact rfl | (simp only [decide_eq_true_eq]; assumption) | (simp only [decide_eq_true_eq]; omega)) | (apply Ev.bind (Dd _ (hl.at hj).1); try dsimp only; try simp only [Int.toNat_natCast]) | exact (Dd _ (hl.at hj).1) | apply Ev.bind)
   ·subst hI
    rw [List.take_length]
    simp only [uW.l1]
    exact Ev.rZ (by omega) (Ev.pure _)
  refine Ev.bind hloop ?_
  simp only [vS]
  refine Ev.bind (Dd _ (by omega)) ?_
  repeat' (first | assumption | exact Ev.pure _ | apply Ev.rG (by first | assumption | omega | exact trivial | exact Bool.false_ne_true | exact rfl | (simp only [decide_eq_true_eq]; assumption) | (simp only [decide_eq_true_eq]; omega)) | apply Ev.rZ (by first | assumption | omega | exact trivial | exact Bool.false_ne_true | exact rfl | (simp only [decide_eq_true_eq]; assumption) | (simp only [decide_eq_true_eq]; omega)) | apply Ev.bind)
end Go.Proofs.YtobdpbnadjkhiaaGreat.Ta
namespace Go.Proofs.YtobdpbnadjkhiaaGreat.Pure
open Go.WG Go.Proofs.YtobdpbnadjkhiaaGreat Go.Proofs.YtobdpbnadjkhiaaGreat.Ta
set_option linter.unusedSimpArgs false
set_option linter.unusedVariables false
structure vT (c : rK) : Prop where
 f : 0 ≤ c.Faulty ∧ c.Faulty ≤ 2
 w : 2 * c.Faulty + 1 ≤ c.Workers ∧ c.Workers ≤ 8
 h : 0 ≤ c.Height ∧ c.Height ≤ 6
 hd : 0 ≤ c.Heads ∧ c.Heads ≤ 6
 b : 1 ≤ c.Bits ∧ c.Bits ≤ 256
 j : 1 ≤ c.Jobs ∧ c.Jobs ≤ 64
 t : 1 ≤ c.Term ∧ c.Term ≤ 10000
instance (c : rK) : Decidable (vT c) :=
 if h : (0 ≤ c.Faulty ∧ c.Faulty ≤ 2) ∧ (2 * c.Faulty + 1 ≤ c.Workers ∧ c.Workers ≤ 8) ∧ (0 ≤ c.Height ∧ c.Height ≤ 6) ∧ (0 ≤ c.Heads ∧ c.Heads ≤ 6) ∧ (1 ≤ c.Bits ∧ c.Bits ≤ 256) ∧ (1 ≤ c.Jobs ∧ c.Jobs ≤ 64) ∧ (1 ≤ c.Term ∧ c.Term ≤ 10000)
 then isTrue ⟨h.1, h.2.1, h.2.2.1, h.2.2.2.1, h.2.2.2.2.1, h.2.2.2.2.2.1, h.2.2.2.2.2.2⟩
 else isFalse fun k => h ⟨k.f, k.w, k.h, k.hd, k.b, k.j, k.t⟩
theorem btw (k : Nat) (n a b : Int) : sV.f k n a b = some (decide (a ≤ n ∧ n ≤ b)) := by
 unfold sV.f
 congr 1
 simp only [ge_iff_le, Bool.decide_and]
theorem Gx {c : rK} (hc : vT c) (k : Nat) : wV.f k c = some (2 * c.Faulty + 1) := by
 unfold wV.f
 have := hc.f
 rw [tI (x := 2 * c.Faulty) (by omega) (by omega), tI (by omega) (by omega)]
theorem Cw (c : rK) : Ev (fun k => tL.f k c) (if vT c then 0 else 1) := by
 unfold tL.f
 have st : ∀ (i : Nat) (x lo hi : Int), i < 7 →
   ([[c.Faulty, 0, 2], [c.Workers, rB (rB (2 * c.Faulty) + 1), 8], [c.Height, 0, 6], [c.Heads, 0, 6], [c.Bits, 1, 256], [c.Jobs, 1, 64], [c.Term, 1, 10000]] : List (List Int)).getD i [] = [x, lo, hi] →
   ∀ k, tL.l1 (k + 1) c (i : Int) = if lo ≤ x ∧ x ≤ hi then tL.l1 k c ((i + 1 : Nat) : Int) else some (Sum.inr 1) := by
  intro i x lo hi hi7 hg k
  simp only [tL.l1, Int.toNat_natCast, hg, btw, Option.bind_some]
  rw [if_pos (by omega), if_pos (by omega), tU (by omega)]
  simp only [decide_eq_true_eq]
  rfl
 have en : ∀ k, tL.l1 (k + 1) c ((7 : Nat) : Int) = some (Sum.inl ()) := fun k => by
  simp only [tL.l1]
  rw [if_neg (by omega)]
 have s0 := st 0 _ _ _ (by omega) rfl
 have s1 := st 1 _ _ _ (by omega) rfl
 have s2 := st 2 _ _ _ (by omega) rfl
 have s3 := st 3 _ _ _ (by omega) rfl
 have s4 := st 4 _ _ _ (by omega) rfl
 have s5 := st 5 _ _ _ (by omega) rfl
 have s6 := st 6 _ _ _ (by omega) rfl
 have hl : Ev (fun k => tL.l1 k c 0) (if vT c then Sum.inl () else Sum.inr 1) := by
  refine ⟨8, fun k hk => ?_⟩
  obtain ⟨m, rfl⟩ : ∃ m, k = m + 8 := ⟨k - 8, by omega⟩
  show tL.l1 (m + 7 + 1) c ((0 : Nat) : Int) = _
  rw [s0]
  by_cases h0 : 0 ≤ c.Faulty ∧ c.Faulty ≤ 2
  ·have e : rB (rB (2 * c.Faulty) + 1) = 2 * c.Faulty + 1 := by rw [tI (x := 2 * c.Faulty) (by omega) (by omega), tI (by omega) (by omega)]
   rw [if_pos h0, show m + 7 = m + 6 + 1 from rfl, s1, e]
   by_cases h1 : 2 * c.Faulty + 1 ≤ c.Workers ∧ c.Workers ≤ 8
   ·rw [if_pos h1, show m + 6 = m + 5 + 1 from rfl, s2]
    by_cases h2 : 0 ≤ c.Height ∧ c.Height ≤ 6
    ·rw [if_pos h2, show m + 5 = m + 4 + 1 from rfl, s3]
     by_cases h3 : 0 ≤ c.Heads ∧ c.Heads ≤ 6
     ·rw [if_pos h3, show m + 4 = m + 3 + 1 from rfl, s4]
      by_cases h4 : 1 ≤ c.Bits ∧ c.Bits ≤ 256
      ·rw [if_pos h4, show m + 3 = m + 2 + 1 from rfl, s5]
       by_cases h5 : 1 ≤ c.Jobs ∧ c.Jobs ≤ 64
       ·rw [if_pos h5, show m + 2 = m + 1 + 1 from rfl, s6]
        by_cases h6 : 1 ≤ c.Term ∧ c.Term ≤ 10000
        ·rw [if_pos h6, en, if_pos ⟨h0, h1, h2, h3, h4, h5, h6⟩]
        ·rw [if_neg h6, if_neg fun k => h6 k.t]
       ·rw [if_neg h5, if_neg fun k => h5 k.j]
      ·rw [if_neg h4, if_neg fun k => h4 k.b]
     ·rw [if_neg h3, if_neg fun k => h3 k.hd]
    ·rw [if_neg h2, if_neg fun k => h2 k.h]
   ·rw [if_neg h1, if_neg fun k => h1 k.w]
  ·rw [if_neg h0, if_neg fun k => h0 k.f]
 refine Ev.bind hl ?_
 by_cases h : vT c
 ·simp only [if_pos h, vS]; exact Ev.pure _
 ·simp only [if_neg h, vS]; exact Ev.pure _
def Fe (c : rK) : bF × Int := if vT c then (⟨[], [], List.replicate c.Workers.toNat 0, List.replicate c.Workers.toNat false, 0⟩, 0) else (⟨[], [], [], [], 0⟩, 1)
theorem Kb (c : rK) : Ev (fun k => yJ.f k c) (Fe c) := by
 unfold yJ.f Fe
 refine Ev.bind (Cw c) ?_
 by_cases h : vT c
 ·simp only [if_pos h]
  have := h.w; have := h.f
  refine Ev.rG trivial (Ev.rG (by omega) (Ev.rG (by omega) ?_))
  exact Ev.pure _
 ·simp only [if_neg h]
  exact Ev.pure _
def BS (s : bF) : Int := if s.Eras.length = 0 then 0 else (s.Eras.getD (s.Eras.length - 1) sD.z).Epoch
theorem Jb (s : bF) (h : s.Eras.length ≤ 300) : Ev (fun k => xP.f k s) (BS s) := by
 unfold xP.f BS
 by_cases h0 : s.Eras.length = 0
 ·rw [if_pos h0]; exact Ev.rZ (by omega) (Ev.pure _)
 ·rw [if_neg h0]
  have e : rB ((s.Eras.length : Int) - 1) = ((s.Eras.length - 1 : Nat) : Int) := by rw [tI (by omega) (by omega)]; omega
  simp only [e, Int.toNat_natCast]
  exact Ev.rG (by omega) (Ev.rG (by omega) (Ev.pure _))
theorem Hs (s : bF) (h : s.Eras.length ≤ 300) : Ev (fun k => xR.f k s) (BS s) := Jb s h
def xA (e : Int) : List sD → List Int × Bool
 | [] => (List.replicate 32 0, false)
 | a :: r => if a.Epoch = e then (a.Nonce, true) else xA e r
theorem Gs (s : bF) (e : Int) (h : s.Eras.length ≤ 300) : Ev (fun k => uG.f k s e) (xA e s.Eras) := by
 unfold uG.f
 have hloop : Ev (fun k => uG.l1 k s e 0) (if (xA e s.Eras).2 = true then Sum.inr (xA e s.Eras) else Sum.inl ()) := by
  refine Ev.loop (n := s.Eras.length) (F := fun k j (_ : Unit) => uG.l1 k s e (j : Int)) (fun j _ => xA e (s.Eras.drop j) = xA e s.Eras) (fun j _ hj hI => ?_) (fun _ hI => ?_) () rfl
  ·simp only [uG.l1, Int.toNat_natCast, tU (show j < 9223372036854775807 by omega)]
   rw [drop_cons sD.z hj, xA] at hI
   by_cases hc : (s.Eras.getD j sD.z).Epoch = e
   ·rw [if_pos hc] at hI
    rw [← hI]
    exact .inl (Ev.rG (by omega) (Ev.rG (by omega) (Ev.rG hc (Ev.pure _))))
   ·rw [if_neg hc] at hI
    exact .inr ⟨(), hI, fun h => Ev.rG (by omega) (Ev.rG (by omega) (Ev.rZ hc h))⟩
  ·simp only [uG.l1]
   rw [List.drop_length, xA] at hI
   rw [← hI]
   exact Ev.rZ (by omega) (Ev.pure _)
 refine Ev.bind hloop ?_
 have hn : ∀ r : List sD, (xA e r).2 ≠ true → xA e r = (List.replicate 32 0, false) := fun r => by
  induction r with
  | nil => intro _; rfl
  | cons c r ih =>
   unfold xA
   split
   ·intro h; exact absurd rfl h
   ·exact ih
 by_cases hb : (xA e s.Eras).2 = true
 ·rw [if_pos hb]; exact Ev.pure _
 ·rw [if_neg hb, hn _ hb]; exact Ev.pure _
theorem Gv (j : bT) (w : Int) (h : j.Workers.length ≤ 8) : Ev (fun k => uK.f k j w) (decide (w ∈ j.Workers)) := by
 unfold uK.f
 have hloop : Ev (fun k => uK.l1 k j w 0) (if w ∈ j.Workers then Sum.inr true else Sum.inl ()) := by
  refine Ev.loop (n := j.Workers.length) (F := fun k i (_ : Unit) => uK.l1 k j w (i : Int)) (fun i _ => ¬ w ∈ j.Workers.take i) (fun i _ hi hI => ?_) (fun _ hI => ?_) () (by simp)
  ·simp only [uK.l1, Int.toNat_natCast, tU (show i < 9223372036854775807 by omega)]
   by_cases hc : j.Workers.getD i 0 = w
   ·rw [if_pos (by rw [← hc, List.getD_eq_getElem?_getD, List.getElem?_eq_getElem hi]; exact List.getElem_mem hi)]
    exact .inl (Ev.rG (by omega) (Ev.rG (by omega) (Ev.rG hc (Ev.pure _))))
   ·refine .inr ⟨(), ?_, fun h => Ev.rG (by omega) (Ev.rG (by omega) (Ev.rZ hc h))⟩
    rw [take_succ 0 hi, List.mem_append, List.mem_singleton]
    rintro (h | h)
    ·exact hI h
    ·exact hc h.symm
  ·simp only [uK.l1]
   rw [List.take_length] at hI
   rw [if_neg hI]
   exact Ev.rZ (by omega) (Ev.pure _)
 refine Ev.bind hloop ?_
 by_cases hb : w ∈ j.Workers
 ·rw [if_pos hb, decide_eq_true hb]; exact Ev.pure _
 ·rw [if_neg hb, decide_eq_false hb]; exact Ev.pure _
theorem J7 (r : rD) : ∃ b, Ev (fun k => tJ.f k r) b := by
 have hl : ∃ o, Ev (fun k => tJ.l1 k r 0) o := by
  have : ∀ m i, 4 - i = m → i ≤ 4 → ∃ o, Ev (fun k => tJ.l1 k r ((i : Nat) : Int)) o := by
   intro m
   induction m with
   | zero =>
    intro i hm hi
    obtain rfl : i = 4 := by omega
    refine ⟨Sum.inl (), Ev.succ ?_⟩
    simp only [tJ.l1]
    exact Ev.rZ (by omega) (Ev.pure _)
   | succ m ih =>
    intro i hm hi
    obtain ⟨o, ho⟩ := ih (i + 1) (by omega) (by omega)
    by_cases hb : (0 ≤ [r.Epoch, r.Job, r.Time, r.By].getD i 0 ∧ [r.Epoch, r.Job, r.Time, r.By].getD i 0 ≤ 1099511627776)
    ·refine ⟨o, Ev.succ ?_⟩
     simp only [tJ.l1, Int.toNat_natCast, btw, Option.bind_some, decide_eq_true_eq, tU (show i < 9223372036854775807 by omega)]
     exact Ev.rG (by omega) (Ev.rG (by omega) (Ev.rG hb ho))
    ·refine ⟨Sum.inr false, Ev.succ ?_⟩
     simp only [tJ.l1, Int.toNat_natCast, btw, Option.bind_some, decide_eq_true_eq, tU (show i < 9223372036854775807 by omega)]
     exact Ev.rG (by omega) (Ev.rG (by omega) (Ev.rZ hb (Ev.pure _)))
  exact this 4 0 rfl (by omega)
 obtain ⟨o, K, hK⟩ := hl
 have hK' : ∀ k, K ≤ k → tJ.l1 k r 0 = some o := hK
 have last : ∀ (x : Int × rD), ∃ q, ∀ k, K ≤ k → (tJ.l1 k r 0).bind (fun o_ => vS o_ (fun _ => (if (r.Data.length : Int) ≤ x.1 then (if r.Epoch = x.2.Epoch then (if r.Nonce = x.2.Nonce then (if r.Job = x.2.Job then (if r.Time = x.2.Time then (some (decide (r.By = x.2.By))) else (some (false))) else (some (false))) else (some (false))) else (some (false))) else (some (false))).bind fun g => some g) (fun p_ => some p_)) = some q := fun x => by
  cases o with
  | inr b => exact ⟨b, fun k hk => by rw [hK' k hk]; rfl⟩
  | inl u =>
   refine ⟨decide ((r.Data.length : Int) ≤ x.1) && (decide (r.Epoch = x.2.Epoch) && (decide (r.Nonce = x.2.Nonce) && (decide (r.Job = x.2.Job) && (decide (r.Time = x.2.Time) && decide (r.By = x.2.By))))), fun k hk => ?_⟩
   rw [hK' k hk]
   simp only [Option.bind_some, vS]
   by_cases h1 : (r.Data.length : Int) ≤ x.1
   ·by_cases h2 : r.Epoch = x.2.Epoch
    ·by_cases h3 : r.Nonce = x.2.Nonce
     ·by_cases h4 : r.Job = x.2.Job
      ·by_cases h5 : r.Time = x.2.Time
       ·simp [h1, h2, h3, h4, h5]
       ·simp [h1, h2, h3, h4, h5]
      ·simp [h1, h2, h3, h4]
     ·simp [h1, h2, h3]
    ·simp [h1, h2]
   ·simp [h1]
 have whole : ∀ p : Option (Sum (Int × rD) Bool), (∃ x, p = some x) → ∃ b, ∃ K, ∀ k, K ≤ k → p.bind (fun o_ => vS o_ (fun (x : Int × rD) => (tJ.l1 k r 0).bind (fun o_ => vS o_ (fun _ => (if (r.Data.length : Int) ≤ x.1 then (if r.Epoch = x.2.Epoch then (if r.Nonce = x.2.Nonce then (if r.Job = x.2.Job then (if r.Time = x.2.Time then (some (decide (r.By = x.2.By))) else (some (false))) else (some (false))) else (some (false))) else (some (false))) else (some (false))).bind fun g => some g) (fun p_ => some p_))) (fun p_ => some p_)) = some b := by
  rintro p ⟨x, rfl⟩
  cases x with
  | inr b => exact ⟨b, 0, fun k _ => rfl⟩
  | inl x => obtain ⟨q, hq⟩ := last x; exact ⟨q, K, fun k hk => hq k hk⟩
 unfold tJ.f
 refine whole _ ?_
 by_cases h1 : r.Kind = 1
 ·by_cases h0 : r.Epoch < 1
  ·exact ⟨_, by rw [if_pos h1, if_pos h0]⟩
  ·exact ⟨_, by rw [if_pos h1, if_neg h0]⟩
 ·by_cases h2 : r.Kind = 2
  ·exact ⟨_, by rw [if_neg h1, if_pos h2]⟩
  ·have h35 : (if r.Kind = 3 then some (decide (r.Kind = 3)) else some (decide (r.Kind = 5))) = some (decide (r.Kind = 3 ∨ r.Kind = 5)) := by
    by_cases h3 : r.Kind = 3 <;> simp [h3]
   rw [if_neg h1, if_neg h2, h35, Option.bind_some]
   by_cases h : r.Kind = 3 ∨ r.Kind = 5
   ·exact ⟨_, by rw [if_pos (decide_eq_true h)]⟩
   ·rw [if_neg (by simpa using h)]
    by_cases h4 : r.Kind = 4
    ·exact ⟨_, by rw [if_pos h4]⟩
    ·by_cases h6 : r.Kind = 6
     ·exact ⟨_, by rw [if_neg h4, if_pos h6]⟩
     ·exact ⟨_, by rw [if_neg h4, if_neg h6]⟩
end Go.Proofs.YtobdpbnadjkhiaaGreat.Pure
namespace Go.Proofs.YtobdpbnadjkhiaaGreat.Pure
open Go.WG Go.Proofs.YtobdpbnadjkhiaaGreat Go.Proofs.YtobdpbnadjkhiaaGreat.Ta
set_option linter.unusedSimpArgs false
set_option linter.unusedVariables false
noncomputable def B (P : Prop) : Bool := @decide P (Classical.propDecidable P)
theorem B_t {P : Prop} (h : P) : B P = true := by unfold B; exact @decide_eq_true P (Classical.propDecidable P) h
theorem B_f {P : Prop} (h : ¬ P) : B P = false := by unfold B; exact @decide_eq_false P (Classical.propDecidable P) h
theorem BD {P Q : Prop} (h : P ↔ Q) : B P = B Q := by rw [propext h]
theorem FH {P : Prop} [i : Decidable P] : B P = decide P := by
 by_cases h : P
 ·rw [B_t h, decide_eq_true h]
 ·rw [B_f h, decide_eq_false h]
noncomputable def two {α : Type} (P : Prop) (x y : α) : α := cond (B P) x y
theorem xZ {α : Type} {P : Prop} {x y : α} (h : P) : two P x y = x := by unfold two; rw [B_t h]; rfl
theorem xJ {α : Type} {P : Prop} {x y : α} (h : ¬ P) : two P x y = y := by unfold two; rw [B_f h]; rfl
theorem EM {n : Int} (h : 0 ≤ n ∧ n ≤ 6) : 1 ≤ vP .i64 1 n ∧ vP .i64 1 n ≤ 64 := by
 have : n = 0 ∨ n = 1 ∨ n = 2 ∨ n = 3 ∨ n = 4 ∨ n = 5 ∨ n = 6 := by omega
 rcases this with h | h | h | h | h | h | h <;> (rw [h]; decide)
def xO (c : rK) : Int := vP .i64 1 c.Height
theorem vT.keys {c : rK} (h : vT c) : 1 ≤ xO c ∧ xO c ≤ 64 := EM h.h
structure B9 (c : rK) (j : bT) : Prop where
 lw : (j.Workers.length : Int) = 2 * c.Faulty + 1
 li : (j.Indexes.length : Int) = 2 * c.Faulty + 1
 nd : j.Workers.Nodup
 w : ∀ i < j.Workers.length, 0 ≤ j.Workers.getD i 0 ∧ j.Workers.getD i 0 ≤ c.Workers - 1
 i : ∀ i < j.Workers.length, 0 ≤ j.Indexes.getD i 0 ∧ j.Indexes.getD i 0 ≤ xO c - 1
theorem AF {xs : List Int} {x : Int} (h : xs.Nodup) (hx : ¬ x ∈ xs) : (xs ++ [x]).Nodup := by
 rw [List.nodup_append]
 exact ⟨h, by simp, fun a ha b hb e => hx (by rw [List.mem_singleton] at hb; rw [← hb, ← e]; exact ha)⟩
theorem Bz {xs : List Int} (h : xs.Nodup) {i : Nat} (hi : i < xs.length) : ¬ xs.getD i 0 ∈ xs.take i := fun hm => by
 obtain ⟨q, hq, he⟩ := (Ds (0 : Int) (by omega)).1 hm
 have e1 : xs[q]'(by omega) = xs[i] := by
  rw [List.getD_eq_getElem?_getD, List.getD_eq_getElem?_getD, List.getElem?_eq_getElem hi, List.getElem?_eq_getElem (by omega)] at he
  exact he
 have := (List.getElem_inj h).1 e1
 omega
theorem AW (m : List (Int × Int)) (k : Int) : (xN m k).isSome = true ↔ k ∈ m.map (·.1) := by
 unfold xN
 rw [Option.isSome_map, List.find?_isSome]
 constructor
 ·rintro ⟨q, hq, he⟩
  exact List.mem_map.2 ⟨q, hq, by simpa using he⟩
 ·intro h
  obtain ⟨q, hq, he⟩ := List.mem_map.1 h
  exact ⟨q, hq, by simpa using he⟩
theorem Hr {c : rK} (hc : vT c) (j : bT) (hw : j.Workers.length ≤ 8) : Ev (fun k => uP.f k c j) (B (B9 c j)) := by
 unfold uP.f
 simp only [Gx hc, Option.bind_some]
 have hF := hc.f; have hW := hc.w; have hK := hc.keys
 by_cases h1 : (j.Workers.length : Int) = 2 * c.Faulty + 1
 ·by_cases h2 : (j.Indexes.length : Int) = 2 * c.Faulty + 1
  ·refine Ev.bind (a := false) (Ev.rG h1 (by rw [decide_eq_true h2]; exact Ev.pure _)) (Ev.rZ (by simp) ?_)
   have hloop : Ev (fun k => uP.l1 k c j [] 0) (two (B9 c j) (Sum.inl ()) (Sum.inr false)) := by
    refine Ev.loop (n := j.Workers.length) (F := fun k i (s : List (Int × Int)) => uP.l1 k c j s (i : Int))
     (fun i s => s.map (·.1) = j.Workers.take i ∧ (j.Workers.take i).Nodup ∧ ∀ q < i, (0 ≤ j.Workers.getD q 0 ∧ j.Workers.getD q 0 ≤ c.Workers - 1) ∧ (0 ≤ j.Indexes.getD q 0 ∧ j.Indexes.getD q 0 ≤ xO c - 1)) (fun i s hi hI => ?_) (fun s hI => ?_) [] ⟨rfl, by simp, fun q hq => by omega⟩
    ·obtain ⟨hs, hn, hb⟩ := hI
     have e1 : rB (c.Workers - 1) = c.Workers - 1 := tI (by omega) (by omega)
     have e2 : rB (vP .i64 1 c.Height - 1) = xO c - 1 := tI (by unfold xO at hK; omega) (by unfold xO at hK; omega)
     simp only [uP.l1, Int.toNat_natCast, btw, Option.bind_some, tU (show i < 9223372036854775807 by omega), e1, e2]
     have hH := hc.h.1
     by_cases h3 : (xN s (j.Workers.getD i 0)).isSome = true
     ·rw [xJ (fun k => Bz k.nd hi (by rw [← hs]; exact (AW s _).1 h3))]
      exact .inl (Ev.rG (by omega) (Ev.rG (by omega) (Ev.bind (a := true) (Ev.rG h3 (Ev.pure _)) (Ev.rG rfl (Ev.pure _)))))
     by_cases h4 : 0 ≤ j.Workers.getD i 0 ∧ j.Workers.getD i 0 ≤ c.Workers - 1
     ·by_cases h5 : 0 ≤ j.Indexes.getD i 0 ∧ j.Indexes.getD i 0 ≤ xO c - 1
      ·refine .inr ⟨yY s (j.Workers.getD i 0) (i : Int), ⟨?_, ?_, fun q hq => ?_⟩, fun h => ?_⟩
       ·rw [CO, if_neg (fun e => h3 ((AW s _).2 e)), hs, take_succ 0 hi]
       ·rw [take_succ 0 hi]
        exact AF hn fun e => h3 ((AW s _).2 (by rw [hs]; exact e))
       ·by_cases e : q = i
        ·subst e; exact ⟨h4, h5⟩
        ·exact hb q (by omega)
       ·refine Ev.rG (by omega) (Ev.rG (by omega) (Ev.bind (a := false) (Ev.rZ h3 (Ev.rG (decide_eq_true h4) (Ev.rG (by omega) (Ev.rG hH ?_)))) (Ev.rZ (by simp) h)))
        rw [decide_eq_true h5]; exact Ev.pure _
      ·rw [xJ (fun k => h5 (k.i i hi))]
       refine .inl (Ev.rG (by omega) (Ev.rG (by omega) (Ev.bind (a := true) (Ev.rZ h3 (Ev.rG (decide_eq_true h4) (Ev.rG (by omega) (Ev.rG hH ?_)))) (Ev.rG rfl (Ev.pure _)))))
       rw [decide_eq_false h5]; exact Ev.pure _
     ·rw [xJ (fun k => h4 (k.w i hi))]
      refine .inl (Ev.rG (by omega) (Ev.rG (by omega) (Ev.bind (a := true) (Ev.rZ h3 (Ev.rZ ?_ (Ev.pure _))) (Ev.rG rfl (Ev.pure _)))))
      rw [decide_eq_false h4]; simp
    ·obtain ⟨hs, hn, hb⟩ := hI
     rw [List.take_length] at hn
     simp only [uP.l1]
     rw [xZ ⟨h1, h2, hn, fun i hi => (hb i hi).1, fun i hi => (hb i hi).2⟩]
     exact Ev.rZ (by omega) (Ev.pure _)
   refine Ev.bind hloop ?_
   by_cases h : B9 c j
   ·simp only [xZ h, B_t h, vS]; exact Ev.pure _
   ·simp only [xJ h, B_f h, vS]; exact Ev.pure _
  ·rw [B_f fun k => h2 k.li]
   refine Ev.bind (a := true) (Ev.rG h1 (by rw [decide_eq_false h2]; exact Ev.pure _)) (Ev.rG rfl (Ev.pure _))
 ·rw [B_f fun k => h1 k.lw]
  exact Ev.bind (a := true) (Ev.rZ h1 (Ev.pure _)) (Ev.rG rfl (Ev.pure _))
structure GA (c : rK) (j : bT) : Prop where
 once : AQ j.rI
 each : ∀ v ∈ j.rI, 0 ≤ v.Worker ∧ v.Value.length ≤ 32 ∧ v.Worker ∈ j.Workers
 dec : yO j.rI c.Faulty = (j.Value, decide (j.State = 3))
structure Bd (j : bT) : Prop where
 pay : Byt j.Payload
 val : Byt j.Value
 votes : rI j.rI
 wk : j.Workers.length ≤ 8
 ix : j.Indexes.length ≤ 8
theorem FZ {l : List rA} (h : rI l) (n : Nat) : rI (l.take n) := ⟨by rw [List.length_take]; have := h.1; omega, fun c hc => h.2 c (List.mem_of_mem_take hc)⟩
theorem uJ {α : Type} {l : List α} {i : Nat} (d : α) (h : i < l.length) : l.getD i d ∈ l := by
 rw [List.getD_eq_getElem?_getD, List.getElem?_eq_getElem h]; exact List.getElem_mem h
theorem EF {l : List rA} (h : AQ l) (n : Nat) : AQ (l.take n) := List.Nodup.sublist ((List.take_sublist n l).map _) h
theorem Cq {l : List rA} (h : rI l) (f : Int) : Byt (yO l f).1 := by
 unfold yO
 by_cases hf : f < 0
 ·rw [if_pos hf]; exact ⟨by decide, by simp⟩
 ·rw [if_neg hf]
  have : ∀ r : List rA, (∀ c ∈ r, Byt c.Value) → Byt (dec l f r).1 := fun r => by
   induction r with
   | nil => intro _; exact ⟨by simp [dec], by simp [dec]⟩
   | cons c r ih =>
    intro hr
    unfold dec
    split
    ·exact hr c (by simp)
    ·exact ih fun d hd => hr d (List.mem_cons_of_mem _ hd)
  exact this l h.2
theorem Fl {l : List rA} {c : rA} (h1 : 0 ≤ c.Worker) (h2 : c.Value.length ≤ 32) (h3 : ¬ ∃ d ∈ l, d.Worker = c.Worker) : yT l c = (l ++ [c], 0) := by
 unfold yT
 rw [if_neg (by omega), if_neg (by omega), if_neg h3]
theorem Ft {l : List rA} {c : rA} (h : ¬ (0 ≤ c.Worker ∧ c.Value.length ≤ 32 ∧ ¬ ∃ d ∈ l, d.Worker = c.Worker)) : ¬ (yT l c).2 = 0 := by
 unfold yT
 split
 ·simp
 ·split
  ·simp
  ·split
   ·simp
   ·rename_i h1 h2 h3
    exact absurd ⟨by omega, by omega, h3⟩ h
theorem ED {l : List rA} (h : rI l) (h5 : l.length ≤ 59) {c : rA} (hc : Byt c.Value) : rI (yT l c).1 := by
 have h0 : rI [] := ⟨by decide, by simp⟩
 unfold yT
 split
 ·exact h0
 ·split
  ·exact h0
  ·split
   ·exact h0
   ·refine ⟨by rw [List.length_append, List.length_singleton]; omega, fun x hx => ?_⟩
    rcases List.mem_append.1 hx with hx | hx
    ·exact h.2 x hx
    ·rw [List.mem_singleton.1 hx]; exact hc
theorem It {c : rK} (hc : vT c) {j : bT} (hj : Bd j) : Ev (fun k => vA.f k c j) (B (GA c j)) := by
 unfold vA.f
 have h60 := hj.votes.1
 have hloop : Ev (fun k => vA.l1 k j [] 0) (two (AQ j.rI ∧ ∀ v ∈ j.rI, 0 ≤ v.Worker ∧ v.Value.length ≤ 32 ∧ v.Worker ∈ j.Workers) (Sum.inl j.rI) (Sum.inr false)) := by
  refine Ev.loop (n := j.rI.length) (F := fun k i (s : List rA) => vA.l1 k j s (i : Int)) (fun i s => s = j.rI.take i ∧ AQ (j.rI.take i) ∧ ∀ v ∈ j.rI.take i, 0 ≤ v.Worker ∧ v.Value.length ≤ 32 ∧ v.Worker ∈ j.Workers) (fun i s hi hI => ?_) (fun s hI => ?_) [] ⟨rfl, by simp [AQ], by simp⟩
  ·obtain ⟨rfl, ho, hb⟩ := hI
   have hcast := Ho (FZ hj.votes i) (j.rI.getD i rA.z)
   have hask := Gv j (j.rI.getD i rA.z).Worker hj.wk
   have hm := uJ rA.z hi
   simp only [vA.l1, Int.toNat_natCast, tU (show i < 9223372036854775807 by omega)]
   by_cases h1 : 0 ≤ (j.rI.getD i rA.z).Worker ∧ (j.rI.getD i rA.z).Value.length ≤ 32 ∧ ¬ ∃ d ∈ j.rI.take i, d.Worker = (j.rI.getD i rA.z).Worker
   ·rw [Fl h1.1 h1.2.1 h1.2.2] at hcast
    by_cases h2 : (j.rI.getD i rA.z).Worker ∈ j.Workers
    ·rw [decide_eq_true h2] at hask
     refine .inr ⟨j.rI.take (i + 1), ⟨rfl, ?_, fun v hv => ?_⟩, fun h => ?_⟩
     ·rw [take_succ rA.z hi]
      unfold AQ
      rw [List.map_append]
      refine AF ho fun e => h1.2.2 ?_
      obtain ⟨d, hd, he⟩ := List.mem_map.1 e
      exact ⟨d, hd, he⟩
     ·rw [take_succ rA.z hi] at hv
      rcases List.mem_append.1 hv with hv | hv
      ·exact hb v hv
      ·rw [List.mem_singleton.1 hv]; exact ⟨h1.1, h1.2.1, h2⟩
     ·rw [take_succ rA.z hi] at h
      exact Ev.rG (by omega) (Ev.rG (by omega) (Ev.bind hcast (Ev.bind (a := false) (Ev.rG rfl (Ev.bind hask (Ev.pure _))) (Ev.rZ (by simp) h))))
    ·rw [decide_eq_false h2] at hask
     rw [xJ fun k => h2 (k.2 _ hm).2.2]
     exact .inl (Ev.rG (by omega) (Ev.rG (by omega) (Ev.bind hcast (Ev.bind (a := true) (Ev.rG rfl (Ev.bind hask (Ev.pure _))) (Ev.rG rfl (Ev.pure _))))))
   ·rw [xJ fun k => h1 ⟨(k.2 _ hm).1, (k.2 _ hm).2.1, fun ⟨d, hd, he⟩ => by
     have h3 := EF k.1 (i + 1)
     rw [take_succ rA.z hi] at h3
     unfold AQ at h3
     rw [List.map_append, List.nodup_append] at h3
     exact h3.2.2 _ (List.mem_map.2 ⟨d, hd, rfl⟩) _ (by simp) he⟩]
    have hne := Ft h1
    refine .inl (Ev.rG (by omega) (Ev.rG (by omega) (Ev.bind hcast ?_)))
    exact Ev.bind (a := true) (Ev.rZ hne (Ev.pure _)) (Ev.rG rfl (Ev.pure _))
  ·obtain ⟨rfl, ho, hb⟩ := hI
   rw [List.take_length] at ho hb
   simp only [vA.l1, List.take_length]
   rw [xZ ⟨ho, hb⟩]
   exact Ev.rZ (by omega) (Ev.pure _)
 refine Ev.bind hloop ?_
 by_cases h : AQ j.rI ∧ ∀ v ∈ j.rI, 0 ≤ v.Worker ∧ v.Value.length ≤ 32 ∧ v.Worker ∈ j.Workers
 ·simp only [xZ h, vS]
  refine Ev.bind (Fz hj.votes c.Faulty) ?_
  by_cases h1 : (yO j.rI c.Faulty).2 = decide (j.State = 3)
  ·have he := GF (Cq hj.votes c.Faulty) hj.val
   have hB : B (GA c j) = decide ((yO j.rI c.Faulty).1 = j.Value) := by
    rw [← FH]
    exact BD ⟨fun k => by rw [k.dec], fun k => ⟨h.1, h.2, Prod.ext k h1⟩⟩
   rw [hB]
   exact Ev.bind (Ev.rG h1 (Ev.bind he (Ev.pure _))) (Ev.pure _)
  ·rw [B_f fun k => h1 (by rw [k.dec])]
   exact Ev.bind (Ev.rZ h1 (Ev.pure _)) (Ev.pure _)
 ·simp only [xJ h, vS]
  rw [B_f fun k => h ⟨k.once, k.each⟩]
  exact Ev.pure _
end Go.Proofs.YtobdpbnadjkhiaaGreat.Pure
namespace Go.Proofs.YtobdpbnadjkhiaaGreat.Pure
open Go.WG Go.Proofs.YtobdpbnadjkhiaaGreat Go.Proofs.YtobdpbnadjkhiaaGreat.Ta
set_option linter.unusedSimpArgs false
set_option linter.unusedVariables false
structure Idle (j : bT) : Prop where
 s : j.State = 1
 e : j.Epoch = 0
 u : j.Until = 0
 w : j.Workers = []
 i : j.Indexes = []
 v : j.rI = []
 x : j.Value = []
structure E9 (c : rK) (s : bF) (j : bT) : Prop where
 st : j.State = 2 ∨ j.State = 3
 n : (xA j.Epoch s.Eras).2 = true
 a : j.Attempt > 0
 u : 1 ≤ j.Until ∧ j.Until ≤ 1099511627776
 cr : B9 c j
 vt : GA c j
structure Sound (c : rK) (s : bF) (j : bT) : Prop where
 p : j.Payload.length ≤ 64
 a : 0 ≤ j.Attempt ∧ j.Attempt ≤ 1099511627776
 k : Idle j ∨ E9 c s j
theorem D7 {α : Type} {l : List α} : l.length = 0 ↔ l = [] := List.length_eq_zero_iff
theorem Iq {c : rK} (hc : vT c) (s : bF) (hs : s.Eras.length ≤ 300) {j : bT} (hj : Bd j) : Ev (fun k => yK.f k c s j) (B (Sound c s j)) := by
 unfold yK.f
 simp only [btw, Option.bind_some, decide_eq_true_eq]
 by_cases h1 : j.Payload.length ≤ 64
 ·by_cases h2 : 0 ≤ j.Attempt ∧ j.Attempt ≤ 1099511627776
  ·refine Ev.bind (a := false) (Ev.rZ (by omega) (by rw [decide_eq_true h2]; exact Ev.pure _)) (Ev.rZ (by simp) ?_)
   by_cases h3 : j.State = 1
   ·refine Ev.rG h3 ?_
    have hB : B (Sound c s j) = B (Idle j) := BD ⟨fun k => k.k.elim id fun b => absurd h3 (by rcases b.st with h | h <;> (rw [h]; decide)), fun k => ⟨h1, h2, .inl k⟩⟩
    rw [hB]
    have hv := hj.votes.1; have hx := hj.val.1; have hw := hj.wk; have hi := hj.ix
    by_cases h4 : j.Epoch = 0
    ·by_cases h5 : j.Until = 0
     ·refine Ev.bind (Ev.rG h4 (Ev.rG h5 (Ev.pure _))) ?_
      rw [tI (x := (j.Workers.length : Int) + j.Indexes.length) (by omega) (by omega), tI (x := (j.Workers.length : Int) + j.Indexes.length + j.rI.length) (by omega) (by omega), tI (x := (j.Workers.length : Int) + j.Indexes.length + j.rI.length + j.Value.length) (by omega) (by omega)]
      rw [← FH]
      have : B ((j.Workers.length : Int) + j.Indexes.length + j.rI.length + j.Value.length = 0) = B (Idle j) := BD ⟨fun k => ⟨h3, h4, h5, D7.1 (by omega), D7.1 (by omega), D7.1 (by omega), D7.1 (by omega)⟩, fun k => by rw [k.w, k.i, k.v, k.x]; rfl⟩
      rw [this]
      exact Ev.pure _
     ·rw [B_f fun k => h5 k.u]
      exact Ev.bind (Ev.rG h4 (Ev.rZ h5 (Ev.pure _))) (Ev.pure _)
    ·rw [B_f fun k => h4 k.e]
     exact Ev.bind (Ev.rZ h4 (Ev.pure _)) (Ev.pure _)
   ·refine Ev.rZ h3 ?_
    have hB : B (Sound c s j) = B (E9 c s j) := BD ⟨fun k => k.k.elim (fun b => absurd b.s h3) id, fun k => ⟨h1, h2, .inr k⟩⟩
    rw [hB]
    by_cases h4 : j.State = 2 ∨ j.State = 3
    ·refine Ev.bind (a := true) ?_ (Ev.rG rfl (Ev.bind (Gs s j.Epoch hs) ?_))
     ·by_cases h5 : j.State = 2
      ·exact Ev.rG h5 (by rw [decide_eq_true h5]; exact Ev.pure _)
      ·exact Ev.rZ h5 (by rw [decide_eq_true (h4.resolve_left h5)]; exact Ev.pure _)
     ·refine Ev.bind ?_ (Ev.pure _)
      by_cases h5 : (xA j.Epoch s.Eras).2 = true
      ·refine Ev.rG h5 ?_
       by_cases h6 : j.Attempt > 0
       ·refine Ev.rG h6 ?_
        by_cases h7 : 1 ≤ j.Until ∧ j.Until ≤ 1099511627776
        ·refine Ev.rG h7 (Ev.bind (Hr hc j hj.wk) ?_)
         by_cases h8 : B9 c j
         ·rw [B_t h8]
          refine Ev.rG rfl (Ev.bind (It hc hj) ?_)
          have : B (GA c j) = B (E9 c s j) := BD ⟨fun k => ⟨h4, h5, h6, h7, h8, k⟩, fun k => k.vt⟩
          rw [this]; exact Ev.pure _
         ·rw [B_f h8, B_f fun k => h8 k.cr]
          exact Ev.rZ (by simp) (Ev.pure _)
        ·rw [B_f fun k => h7 k.u]; exact Ev.rZ h7 (Ev.pure _)
       ·rw [B_f fun k => h6 k.a]; exact Ev.rZ h6 (Ev.pure _)
      ·rw [B_f fun k => h5 k.n]; exact Ev.rZ h5 (Ev.pure _)
    ·rw [B_f fun k => h4 k.st]
     refine Ev.bind (a := false) (Ev.rZ (fun e => h4 (.inl e)) (by rw [decide_eq_false (fun e => h4 (.inr e))]; exact Ev.pure _)) (Ev.rZ (by simp) (Ev.pure _))
  ·rw [B_f fun k => h2 k.a]
   exact Ev.bind (a := true) (Ev.rZ (by omega) (by rw [decide_eq_false h2]; exact Ev.pure _)) (Ev.rG rfl (Ev.pure _))
 ·rw [B_f fun k => h1 k.p]
  exact Ev.bind (a := true) (Ev.rG (by omega) (Ev.pure _)) (Ev.rG rfl (Ev.pure _))
structure AB (s : bF) : Prop where
 eras : s.Eras.length ≤ 300
 jobs : s.Jobs.length ≤ 100
 each : ∀ j ∈ s.Jobs, Bd j
 used : s.Used.length ≤ 8
 bar : s.Barred.length ≤ 8
def An : Int → List sD → Prop
 | _, [] => True
 | l, e :: r => (l + 1 ≤ e.Epoch ∧ e.Epoch ≤ 1099511627776) ∧ An e.Epoch r
structure Good (c : rK) (s : bF) : Prop where
 u : (s.Used.length : Int) = c.Workers
 b : (s.Barred.length : Int) = c.Workers
 h : 0 ≤ s.Heads ∧ s.Heads ≤ vP .i64 1 c.Heads
 e : s.Eras.length ≤ 256
 j : (s.Jobs.length : Int) ≤ c.Jobs
 un : ∀ i < s.Used.length, 0 ≤ s.Used.getD i 0 ∧ s.Used.getD i 0 ≤ xO c
 er : An 0 s.Eras
 jb : ∀ i < s.Jobs.length, Sound c s (s.Jobs.getD i bT.z)
theorem CD {c : rK} (hc : vT c) {s : bF} (hs : AB s) : Ev (fun k => sJ.f k c s) (B (Good c s)) := by
 unfold sJ.f
 have hH := hc.h.1; have hHd := hc.hd.1; have hK := hc.keys
 have hj1 := hs.jobs; have he1 := hs.eras; have hu1 := hs.used
 simp only [btw, Option.bind_some, decide_eq_true_eq]
 by_cases h1 : (s.Used.length : Int) = c.Workers
 ·by_cases h2 : (s.Barred.length : Int) = c.Workers
  ·by_cases h3 : 0 ≤ s.Heads ∧ s.Heads ≤ vP .i64 1 c.Heads
   ·by_cases h4 : s.Eras.length ≤ 256
    ·by_cases h5 : (s.Jobs.length : Int) ≤ c.Jobs
     ·refine Ev.bind (a := false) (Ev.rG h1 (Ev.rG h2 (Ev.rG hHd (Ev.rG h3 (Ev.rZ (by omega) (by rw [decide_eq_false (by omega)]; exact Ev.pure _)))))) (Ev.rZ (by simp) ?_)
      have hl1 : Ev (fun k => sJ.l1 k c s 0) (two (∀ i < s.Used.length, 0 ≤ s.Used.getD i 0 ∧ s.Used.getD i 0 ≤ xO c) (Sum.inl ()) (Sum.inr false)) := by
       refine Ev.loop (n := s.Used.length) (F := fun k i (_ : Unit) => sJ.l1 k c s (i : Int)) (fun i _ => ∀ q < i, 0 ≤ s.Used.getD q 0 ∧ s.Used.getD q 0 ≤ xO c) (fun i _ hi hI => ?_) (fun _ hI => ?_) () (fun q hq => by omega)
       ·simp only [sJ.l1, Int.toNat_natCast, btw, Option.bind_some, decide_eq_true_eq, tU (show i < 9223372036854775807 by omega)]
        by_cases h : 0 ≤ s.Used.getD i 0 ∧ s.Used.getD i 0 ≤ xO c
        ·refine .inr ⟨(), fun q hq => ?_, fun k => Ev.rG (by omega) (Ev.rG (by omega) (Ev.rG hH (Ev.rG h k)))⟩
         by_cases e : q = i
         ·subst e; exact h
         ·exact hI q (by omega)
        ·rw [xJ fun k => h (k i hi)]
         exact .inl (Ev.rG (by omega) (Ev.rG (by omega) (Ev.rG hH (Ev.rZ h (Ev.pure _)))))
       ·simp only [sJ.l1]
        rw [xZ hI]
        exact Ev.rZ (by omega) (Ev.pure _)
      have hl2 : Ev (fun k => sJ.l2 k s 0 0) (two (An 0 s.Eras) (Sum.inl ()) (Sum.inr false)) := by
       refine Ev.loop (n := s.Eras.length) (F := fun k i (l : Int) => sJ.l2 k s l (i : Int)) (fun i l => (0 ≤ l ∧ l ≤ 1099511627776) ∧ (An 0 s.Eras ↔ An l (s.Eras.drop i))) (fun i l hi hI => ?_) (fun l hI => ?_) 0 ⟨by decide, Iff.rfl⟩
       ·obtain ⟨hl, hI⟩ := hI
        rw [drop_cons sD.z hi] at hI
        simp only [sJ.l2, Int.toNat_natCast, btw, Option.bind_some, decide_eq_true_eq, tU (show i < 9223372036854775807 by omega), tI (x := l + 1) (by omega) (by omega)]
        by_cases h : l + 1 ≤ (s.Eras.getD i sD.z).Epoch ∧ (s.Eras.getD i sD.z).Epoch ≤ 1099511627776
        ·exact .inr ⟨(s.Eras.getD i sD.z).Epoch, ⟨by omega, hI.trans ⟨fun k => k.2, fun k => ⟨h, k⟩⟩⟩, fun k => Ev.rG (by omega) (Ev.rG (by omega) (Ev.rG h k))⟩
        ·rw [xJ fun k => h (hI.1 k).1]
         exact .inl (Ev.rG (by omega) (Ev.rG (by omega) (Ev.rZ h (Ev.pure _))))
       ·simp only [sJ.l2]
        rw [xZ (hI.2.2 (by rw [List.drop_length]; trivial))]
        exact Ev.rZ (by omega) (Ev.pure _)
      have hl3 : Ev (fun k => sJ.l3 k c s 0) (two (∀ i < s.Jobs.length, Sound c s (s.Jobs.getD i bT.z)) (Sum.inl ()) (Sum.inr false)) := by
       refine Ev.loop (n := s.Jobs.length) (F := fun k i (_ : Unit) => sJ.l3 k c s (i : Int)) (fun i _ => ∀ q < i, Sound c s (s.Jobs.getD q bT.z)) (fun i _ hi hI => ?_) (fun _ hI => ?_) () (fun q hq => by omega)
       ·have hsd := Iq hc s he1 (hs.each _ (uJ bT.z hi))
        simp only [sJ.l3, Int.toNat_natCast, tU (show i < 9223372036854775807 by omega)]
        by_cases h : Sound c s (s.Jobs.getD i bT.z)
        ·rw [B_t h] at hsd
         refine .inr ⟨(), fun q hq => ?_, fun k => Ev.rG (by omega) (Ev.rG (by omega) (Ev.bind hsd (Ev.rG rfl k)))⟩
         by_cases e : q = i
         ·subst e; exact h
         ·exact hI q (by omega)
        ·rw [B_f h] at hsd
         rw [xJ fun k => h (k i hi)]
         exact .inl (Ev.rG (by omega) (Ev.rG (by omega) (Ev.bind hsd (Ev.rZ (by simp) (Ev.pure _)))))
       ·simp only [sJ.l3]
        rw [xZ hI]
        exact Ev.rZ (by omega) (Ev.pure _)
      refine Ev.bind hl1 ?_
      by_cases g1 : ∀ i < s.Used.length, 0 ≤ s.Used.getD i 0 ∧ s.Used.getD i 0 ≤ xO c
      ·simp only [xZ g1, vS]
       refine Ev.bind hl2 ?_
       by_cases g2 : An 0 s.Eras
       ·simp only [xZ g2, vS]
        refine Ev.bind hl3 ?_
        by_cases g3 : ∀ i < s.Jobs.length, Sound c s (s.Jobs.getD i bT.z)
        ·simp only [xZ g3, vS]
         rw [B_t ⟨h1, h2, h3, h4, h5, g1, g2, g3⟩]; exact Ev.pure _
        ·simp only [xJ g3, vS]
         rw [B_f fun k => g3 k.jb]; exact Ev.pure _
       ·simp only [xJ g2, vS]
        rw [B_f fun k => g2 k.er]; exact Ev.pure _
      ·simp only [xJ g1, vS]
       rw [B_f fun k => g1 k.un]; exact Ev.pure _
     ·rw [B_f fun k => h5 k.j]
      exact Ev.bind (a := true) (Ev.rG h1 (Ev.rG h2 (Ev.rG hHd (Ev.rG h3 (Ev.rZ (by omega) (by rw [decide_eq_true (by omega)]; exact Ev.pure _)))))) (Ev.rG rfl (Ev.pure _))
    ·rw [B_f fun k => h4 k.e]
     exact Ev.bind (a := true) (Ev.rG h1 (Ev.rG h2 (Ev.rG hHd (Ev.rG h3 (Ev.rG (by omega) (Ev.pure _)))))) (Ev.rG rfl (Ev.pure _))
   ·rw [B_f fun k => h3 k.h]
    exact Ev.bind (a := true) (Ev.rG h1 (Ev.rG h2 (Ev.rG hHd (Ev.rZ h3 (Ev.pure _))))) (Ev.rG rfl (Ev.pure _))
  ·rw [B_f fun k => h2 k.b]
   exact Ev.bind (a := true) (Ev.rG h1 (Ev.rZ h2 (Ev.pure _))) (Ev.rG rfl (Ev.pure _))
 ·rw [B_f fun k => h1 k.u]
  exact Ev.bind (a := true) (Ev.rZ h1 (Ev.pure _)) (Ev.rG rfl (Ev.pure _))
end Go.Proofs.YtobdpbnadjkhiaaGreat.Pure
namespace Go.Proofs.YtobdpbnadjkhiaaGreat.Pure
open Go.WG Go.Proofs.YtobdpbnadjkhiaaGreat Go.Proofs.YtobdpbnadjkhiaaGreat.Ta
set_option linter.unusedSimpArgs false
set_option linter.unusedVariables false
theorem Hm {s : bF} {i : Nat} (hj : Bd (s.Jobs.getD i bT.z)) : Ev (fun k => tF.l2 k s (i : Int) 0 { s.Jobs.getD i bT.z with rI := [] }) (s.Jobs.getD i bT.z) := by
 have h60 := hj.votes.1
 refine Ev.loop (n := (s.Jobs.getD i bT.z).rI.length) (F := fun k q (x : bT) => tF.l2 k s (i : Int) (q : Int) x) (fun q x => x = { s.Jobs.getD i bT.z with rI := (s.Jobs.getD i bT.z).rI.take q }) (fun q x hq hI => ?_) (fun x hI => ?_) _ rfl
 ·subst hI
  have hv := (Ta.rI.at hj.votes hq).1
  have htl : ((s.Jobs.getD i bT.z).rI.take q).length = q := by rw [List.length_take]; omega
  refine .inr ⟨_, rfl, fun h => ?_⟩
  rw [take_succ rA.z hq] at h
  simp only [tF.l2, Int.toNat_natCast, tU (show q < 9223372036854775807 by omega)]
  refine Ev.rG (by omega) (Ev.rG (by omega) (Ev.rG (by omega) (Ev.rG ?_ h)))
  rw [htl]; omega
 ·subst hI
  simp only [tF.l2, Int.toNat_natCast, List.take_length]
  exact Ev.rZ (by omega) (Ev.pure _)
theorem GC {s : bF} (hs : AB s) : Ev (fun k => tF.f k s) s := by
 unfold tF.f
 have h1 := hs.eras; have h2 := hs.used; have h3 := hs.bar; have h4 := hs.jobs
 have hloop : Ev (fun k => tF.l1 k s 0 ⟨s.Eras, [], s.Used, s.Barred, s.Heads⟩) s := by
  refine Ev.loop (n := s.Jobs.length) (F := fun k i (x : bF) => tF.l1 k s (i : Int) x) (fun i x => x = ⟨s.Eras, s.Jobs.take i, s.Used, s.Barred, s.Heads⟩) (fun i x hi hI => ?_) (fun x hI => ?_) _ rfl
  ·subst hI
   have hj := hs.each _ (uJ bT.z hi)
   have htl : (s.Jobs.take i).length = i := by rw [List.length_take]; omega
   have g1 := hj.pay.1; have g2 := hj.wk; have g3 := hj.ix; have g4 := hj.val.1
   refine .inr ⟨_, rfl, fun h => ?_⟩
   rw [take_succ bT.z hi] at h
   simp only [tF.l1, Int.toNat_natCast, tU (show i < 9223372036854775807 by omega)]
   refine Ev.rG (by omega) (Ev.rG (by omega) (Ev.rG (by omega) (Ev.rG (by omega) (Ev.rG (by omega) (Ev.rG (by omega) (Ev.bind (Hm hj) (Ev.rG ?_ h)))))))
   rw [htl]; omega
  ·subst hI
   simp only [tF.l1, List.take_length]
   exact Ev.rZ (by omega) (Ev.pure _)
 exact Ev.rG (by omega) (Ev.rG (by omega) (Ev.rG (by omega) (Ev.bind hloop (Ev.pure _))))
def idle (j : bT) : bT := ⟨j.Payload, 1, j.Attempt, 0, 0, [], [], [], []⟩
theorem Gu (k : Nat) (xs : List bT) (i : Int) : xY.f k (xs, i) = some (xs.set i.toNat (idle (xs.getD i.toNat bT.z))) := rfl
def HC (s : bF) (r : rD) : Int × Int := if 1 ≤ r.Job ∧ r.Job ≤ (s.Jobs.length : Int) then (r.Job - 1, 0) else (-1, 211)
theorem Fu (c : rK) {s : bF} (hs : AB s) (r : rD) (k : Nat) : vN.f k ⟨c, s⟩ r = some (HC s r) := by
 unfold vN.f HC
 have := hs.jobs
 simp only [btw, Option.bind_some, decide_eq_true_eq]
 by_cases h : 1 ≤ r.Job ∧ r.Job ≤ (s.Jobs.length : Int)
 ·have e : rB (r.Job - 1) = r.Job - 1 := tI (by omega) (by omega)
  rw [if_pos h, if_pos h, e, if_pos (by omega)]
 ·rw [if_neg h, if_neg h]
theorem Hq (c : rK) (s : bF) (k : Nat) : vO.f k ⟨c, s⟩ = some (if s.Eras.length = 0 then 210 else 0) := by
 unfold vO.f
 by_cases h : s.Eras.length = 0
 ·rw [if_pos h, if_pos (by simpa using h)]
 ·rw [if_neg h, if_neg (by simpa using h)]
def xW (j : bT) : bT := if j.State = 2 then idle j else j
def B3 (s : bF) (r : rD) : Int × bF :=
 if r.Epoch ≤ BS s then (210, s) else if s.Eras.length ≥ 256 then (90, s)
 else (0, ⟨s.Eras ++ [⟨r.Epoch, r.Nonce⟩], s.Jobs.map xW, s.Used, s.Barred, s.Heads⟩)
theorem Iy {α : Type} (f : α → α) (l : List α) (d : α) {i : Nat} (hi : i < l.length) : ((l.take i).map f ++ l.drop i).set i (f (l.getD i d)) = (l.take (i + 1)).map f ++ l.drop (i + 1) := by
 have h1 : ((l.take i).map f).length = i := by rw [List.length_map, List.length_take]; omega
 rw [List.set_append_right _ _ (by omega), h1, Nat.sub_self, drop_cons d hi, List.set_cons_zero, take_succ d hi, List.map_append, List.append_assoc]
 rfl
theorem II {α : Type} (f : α → α) (l : List α) (d : α) {i : Nat} (hi : i < l.length) : ((l.take i).map f ++ l.drop i).getD i d = l.getD i d := by
 have h1 : ((l.take i).map f).length = i := by rw [List.length_map, List.length_take]; omega
 rw [List.getD_eq_getElem?_getD, List.getElem?_append_right (by omega), h1, Nat.sub_self, List.getElem?_drop, Nat.add_zero, List.getD_eq_getElem?_getD]
theorem Im (c : rK) {s : bF} (hs : AB s) (r : rD) : Ev (fun k => tB.f k ⟨c, s⟩ r) ((B3 s r).1, ⟨c, (B3 s r).2⟩) := by
 unfold tB.f B3
 have h1 := hs.eras; have h2 := hs.jobs
 refine Ev.bind (Jb s h1) ?_
 by_cases g1 : r.Epoch ≤ BS s
 ·rw [if_pos g1]; exact Ev.rG g1 (Ev.pure _)
 rw [if_neg g1]
 refine Ev.rZ g1 ?_
 by_cases g2 : s.Eras.length ≥ 256
 ·rw [if_pos g2]; exact Ev.rG (show (s.Eras.length : Int) ≥ 256 by omega) (Ev.pure _)
 rw [if_neg g2]
 refine Ev.rZ (by simp only [ge_iff_le]; omega) (Ev.rG (by simp only; omega) ?_)
 have hloop : ∀ E : List sD, Ev (fun k => tB.l1 k ⟨c, s⟩ 0 ⟨c, ⟨E, s.Jobs, s.Used, s.Barred, s.Heads⟩⟩) (⟨c, ⟨E, s.Jobs.map xW, s.Used, s.Barred, s.Heads⟩⟩ : sF) := fun E => by
  refine Ev.loop (n := s.Jobs.length) (F := fun k i (x : sF) => tB.l1 k ⟨c, s⟩ (i : Int) x) (fun i x => x = ⟨c, ⟨E, (s.Jobs.take i).map xW ++ s.Jobs.drop i, s.Used, s.Barred, s.Heads⟩⟩) (fun i x hi hI => ?_) (fun x hI => ?_) _ (by simp)
  ·subst hI
   have hl : ((s.Jobs.take i).map xW ++ s.Jobs.drop i).length = s.Jobs.length := by rw [List.length_append, List.length_map, List.length_take, List.length_drop]; omega
   simp only [tB.l1, Int.toNat_natCast, tU (show i < 9223372036854775807 by omega), Gu, Option.bind_some, II xW s.Jobs bT.z hi]
   have hset := Iy xW s.Jobs bT.z hi
   by_cases g : (s.Jobs.getD i bT.z).State = 2
   ·refine .inr ⟨_, rfl, fun h => ?_⟩
    rw [← hset] at h
    refine Ev.rG (by omega) (Ev.rG (by rw [hl]; omega) (Ev.rG g ?_))
    rw [show idle (s.Jobs.getD i bT.z) = xW (s.Jobs.getD i bT.z) from by unfold xW; rw [if_pos g]]
    exact h
   ·refine .inr ⟨_, rfl, fun h => ?_⟩
    have e : (s.Jobs.take (i + 1)).map xW ++ s.Jobs.drop (i + 1) = (s.Jobs.take i).map xW ++ s.Jobs.drop i := by
     rw [take_succ bT.z hi, drop_cons bT.z hi, List.map_append, List.append_assoc]
     have : xW (s.Jobs.getD i bT.z) = s.Jobs.getD i bT.z := by unfold xW; rw [if_neg g]
     rw [List.map_singleton, this]; rfl
    rw [e] at h
    exact Ev.rG (by omega) (Ev.rG (by rw [hl]; omega) (Ev.rZ g h))
  ·subst hI
   simp only [tB.l1, List.take_length, List.drop_length, List.append_nil]
   exact Ev.rZ (by omega) (Ev.pure _)
 exact Ev.bind (hloop _) (Ev.pure _)
def Br (c : rK) (s : bF) (r : rD) : Int × bF :=
 if s.Eras.length = 0 then (210, s) else if (s.Jobs.length : Int) ≥ c.Jobs then (90, s)
 else (0, ⟨s.Eras, s.Jobs ++ [⟨r.Data, 1, 0, 0, 0, [], [], [], []⟩], s.Used, s.Barred, s.Heads⟩)
theorem HA (c : rK) {s : bF} (hs : AB s) {r : rD} (hr : r.Data.length ≤ 200) : Ev (fun k => vV.f k ⟨c, s⟩ r) ((Br c s r).1, ⟨c, (Br c s r).2⟩) := by
 unfold vV.f Br
 have h2 := hs.jobs
 simp only [Hq, Option.bind_some]
 by_cases g1 : s.Eras.length = 0
 ·simp only [if_pos g1]; exact Ev.rZ (by decide) (Ev.pure _)
 simp only [if_neg g1]
 by_cases g2 : (s.Jobs.length : Int) ≥ c.Jobs
 ·simp only [if_pos g2]; exact Ev.rG trivial (Ev.pure _)
 simp only [if_neg g2]
 exact Ev.rG trivial (Ev.rG (by omega) (Ev.rG (by omega) (Ev.pure _)))
def DD (c : rK) (s : bF) : Int × bF :=
 if s.Eras.length = 0 then (210, s) else if s.Heads = vP .i64 1 c.Heads then (70, s) else (0, ⟨s.Eras, s.Jobs, s.Used, s.Barred, s.Heads + 1⟩)
theorem JU {c : rK} (hc : vT c) {s : bF} (hh : 0 ≤ s.Heads ∧ s.Heads ≤ vP .i64 1 c.Heads) (r : rD) : Ev (fun k => wL.f k ⟨c, s⟩ r) ((DD c s).1, ⟨c, (DD c s).2⟩) := by
 unfold wL.f DD
 have h1 := EM hc.hd
 simp only [Hq, Option.bind_some]
 by_cases g1 : s.Eras.length = 0
 ·simp only [if_pos g1]; exact Ev.rZ (by decide) (Ev.pure _)
 simp only [if_neg g1]
 by_cases g2 : s.Heads = vP .i64 1 c.Heads
 ·simp only [if_pos g2]; exact Ev.rG trivial (Ev.rG hc.hd.1 (Ev.pure _))
 simp only [if_neg g2, tI (x := s.Heads + 1) (by omega) (by omega)]
 exact Ev.rG trivial (Ev.rG hc.hd.1 (Ev.pure _))
def Bj (s : bF) (r : rD) : Int × bF :=
 if 1 ≤ r.Job ∧ r.Job ≤ (s.Jobs.length : Int) then
  (if (s.Jobs.getD (r.Job - 1).toNat bT.z).State = 2 then (if r.Time < (s.Jobs.getD (r.Job - 1).toNat bT.z).Until then (213, s) else (0, ⟨s.Eras, s.Jobs.set (r.Job - 1).toNat (idle (s.Jobs.getD (r.Job - 1).toNat bT.z)), s.Used, s.Barred, s.Heads⟩)) else (212, s))
 else (211, s)
theorem Hn (c : rK) {s : bF} (hs : AB s) (r : rD) : Ev (fun k => vX.f k ⟨c, s⟩ r) ((Bj s r).1, ⟨c, (Bj s r).2⟩) := by
 unfold vX.f Bj
 simp only [Fu c hs, Option.bind_some, Gu]
 unfold HC
 by_cases g : 1 ≤ r.Job ∧ r.Job ≤ (s.Jobs.length : Int)
 ·simp only [if_pos g]
  refine Ev.rG (by omega) (Ev.rG trivial ?_)
  by_cases g1 : (s.Jobs.getD (r.Job - 1).toNat bT.z).State = 2
  ·simp only [if_pos g1]
   by_cases g2 : r.Time < (s.Jobs.getD (r.Job - 1).toNat bT.z).Until
   ·simp only [if_pos g2]; exact Ev.pure _
   ·simp only [if_neg g2]; exact Ev.pure _
  ·simp only [if_neg g1]; exact Ev.pure _
 ·simp only [if_neg g]
  exact Ev.rZ (by omega) (Ev.rZ (by decide) (Ev.pure _))
end Go.Proofs.YtobdpbnadjkhiaaGreat.Pure
namespace Go.Proofs.YtobdpbnadjkhiaaGreat.Cr
open Go.WG Go.Proofs.YtobdpbnadjkhiaaGreat
set_option linter.unusedSimpArgs false
set_option linter.unusedVariables false
theorem drop_cons {α : Type} {l : List α} {j : Nat} (d : α) (h : j < l.length) : l.drop j = l.getD j d :: l.drop (j + 1) := by
 rw [List.getD_eq_getElem?_getD, List.getElem?_eq_getElem h, Option.getD_some]
 exact List.drop_eq_getElem_cons h
def BC (a0 : List Int) (a1 : List Bool) : Bool := a0.all (fun x => decide (0 ≤ x)) && decide (a0.length = a1.length) && decide (a0.length ≤ 8)
theorem Ak {j : Nat} (h : j < 9223372036854775807) : rB ((j : Int) + 1) = ((j + 1 : Nat) : Int) := by
 rw [tI (by omega) (by omega)]
 omega
theorem Ia (a0 : List Int) (hb : a0.length < 9223372036854775807) : ∀ (m j : Nat), a0.length - j = m → j ≤ a0.length → Ev (fun k => wA.l1 k a0 (j : Int)) (if (a0.drop j).all (fun x => decide (0 ≤ x)) = true then Sum.inl () else Sum.inr false) := by
 intro m
 induction m with
 | zero =>
  intro j hm hj
  have hj' : j = a0.length := by omega
  subst hj'
  refine Ev.succ ((Ev.pure _).congr fun k => ?_)
  simp [wA.l1]
 | succ m ih =>
  intro j hm hj
  have hlt : j < a0.length := by omega
  rw [drop_cons 0 hlt, List.all_cons]
  have h1 : (j : Int) < (a0.length : Int) := by omega
  have h2 : 0 ≤ (j : Int) ∧ (j : Int) < (a0.length : Int) := by omega
  by_cases h0 : a0.getD j 0 < 0
  ·refine Ev.succ ((Ev.pure _).congr fun k => ?_)
   have h0' : ¬ 0 ≤ a0.getD j 0 := by omega
   simp only [wA.l1, if_pos h1, if_pos h2, Int.toNat_natCast, if_pos h0, decide_eq_false h0']
   rfl
  ·have h0' : 0 ≤ a0.getD j 0 := by omega
   rw [decide_eq_true h0', Bool.true_and]
   refine Ev.succ ((ih (j + 1) (by omega) (by omega)).congr fun k => ?_)
   simp only [wA.l1, if_pos h1, if_pos h2, Int.toNat_natCast, if_neg h0, Ak (show j < 9223372036854775807 by omega)]
theorem CD (a0 : List Int) (a1 : List Bool) (hb : a0.length < 9223372036854775807) : Ev (fun k => wA.f k a0 a1) (BC a0 a1) := by
 have h := Ia a0 hb _ 0 rfl (Nat.zero_le _)
 rw [List.drop_zero] at h
 refine Ev.bind (g := fun _ _ => _) h ?_
 unfold BC
 cases ha : a0.all (fun x => decide (0 ≤ x)) with
 | false => simpa [vS] using Ev.pure false
 | true =>
  simp only [if_true, vS, Bool.true_and]
  by_cases he : a0.length = a1.length
  ·have he' : (a0.length : Int) = (a1.length : Int) := by omega
   simp only [if_pos he', decide_eq_true he, Bool.true_and, Option.bind_some]
   rw [show decide ((a0.length : Int) ≤ 8) = decide (a0.length ≤ 8) from decide_eq_decide.2 (by omega)]
   exact Ev.pure _
  ·have he' : ¬ (a0.length : Int) = (a1.length : Int) := by omega
   simp only [if_neg he', decide_eq_false he, Bool.false_and, Option.bind_some]
   exact Ev.pure _
theorem FN {a0 : List Int} {a1 : List Bool} (h : BC a0 a1 = true) : a0.length = a1.length ∧ a0.length ≤ 8 ∧ ∀ x ∈ a0, 0 ≤ x := by
 simp only [BC, Bool.and_eq_true, decide_eq_true_eq, List.all_eq_true] at h
 exact ⟨h.1.2, h.2, h.1.1⟩
def Ae (a0 : List Int) (a1 : List Bool) (a2 : Int) : Nat → Nat → List sA
 | 0, _ => []
 | m + 1, j => if a1.getD j false = true then Ae a0 a1 a2 m (j + 1) else if a0.getD j 0 < a2 then ⟨a0.getD j 0, (j : Int)⟩ :: Ae a0 a1 a2 m (j + 1) else Ae a0 a1 a2 m (j + 1)
def AJ (a1 : List Bool) : Nat → Nat → Nat
 | 0, _ => 0
 | m + 1, j => if a1.getD j false = true then AJ a1 m (j + 1) else AJ a1 m (j + 1) + 1
theorem I7 (a0 : List Int) (a1 : List Bool) (a2 : Int) (he : a0.length = a1.length) (h8 : a0.length ≤ 8) : ∀ (m j : Nat) (acc : List sA) (fr : Nat), a0.length - j = m → j ≤ a0.length → acc.length ≤ j → fr ≤ j →
  Ev (fun k => vJ.l1 k a0 a1 a2 acc (fr : Int) (j : Int)) (acc ++ Ae a0 a1 a2 m j, ((fr + AJ a1 m j : Nat) : Int)) := by
 intro m
 induction m with
 | zero =>
  intro j acc fr hm hj _ _
  have hn : ¬ (j : Int) < (a0.length : Int) := by omega
  refine Ev.succ ((Ev.pure _).congr fun k => ?_)
  simp only [vJ.l1, if_neg hn, Ae, AJ, List.append_nil, Nat.add_zero]
 | succ m ih =>
  intro j acc fr hm hj ha hf
  have h1 : (j : Int) < (a0.length : Int) := by omega
  have h2 : 0 ≤ (j : Int) ∧ (j : Int) < (a0.length : Int) := by omega
  have h3 : 0 ≤ (j : Int) ∧ (j : Int) < (a1.length : Int) := by omega
  by_cases hb : a1.getD j false = true
  ·have := ih (j + 1) acc fr (by omega) (by omega) (by omega) (by omega)
   refine Ev.succ (Ev.congr (r := _) (f := fun k => vJ.l1 k a0 a1 a2 acc (fr : Int) ((j + 1 : Nat) : Int)) ?_ fun k => ?_)
   ·simp only [Ae, AJ, if_pos hb]
    exact this
   ·simp only [vJ.l1, if_pos h1, if_pos h2, if_pos h3, Int.toNat_natCast, if_pos hb, Ak (show j < 9223372036854775807 by omega)]
  ·by_cases hk : a0.getD j 0 < a2
   ·have hlim : (acc.length + 1 + (acc.length + 1) / 4 + 192) * 16 ≤ 281474976710656 := by omega
    have := ih (j + 1) (acc ++ [⟨a0.getD j 0, (j : Int)⟩]) (fr + 1) (by omega) (by omega) (by simp; omega) (by omega)
    refine Ev.succ (Ev.congr (r := _) (f := fun k => vJ.l1 k a0 a1 a2 (acc ++ [⟨a0.getD j 0, (j : Int)⟩]) ((fr + 1 : Nat) : Int) ((j + 1 : Nat) : Int)) ?_ fun k => ?_)
    ·simp only [Ae, AJ, if_neg hb, if_pos hk]
     rw [List.append_assoc, List.singleton_append, Nat.add_assoc, Nat.add_comm 1] at this
     exact this
    ·simp only [vJ.l1, if_pos h1, if_pos h2, if_pos h3, Int.toNat_natCast, if_neg hb, if_pos hk, if_pos hlim, Ak (show j < 9223372036854775807 by omega), Ak (show fr < 9223372036854775807 by omega)]
   ·have := ih (j + 1) acc (fr + 1) (by omega) (by omega) (by omega) (by omega)
    refine Ev.succ (Ev.congr (r := _) (f := fun k => vJ.l1 k a0 a1 a2 acc ((fr + 1 : Nat) : Int) ((j + 1 : Nat) : Int)) ?_ fun k => ?_)
    ·simp only [Ae, AJ, if_neg hb, if_neg hk]
     rw [Nat.add_assoc, Nat.add_comm 1] at this
     exact this
    ·simp only [vJ.l1, if_pos h1, if_pos h2, if_pos h3, Int.toNat_natCast, if_neg hb, if_neg hk, Ak (show j < 9223372036854775807 by omega), Ak (show fr < 9223372036854775807 by omega)]
theorem Jz (a0 : List Int) (a1 : List Bool) (a2 : Int) (he : a0.length = a1.length) (h8 : a0.length ≤ 8) : Ev (fun k => vJ.f k a0 a1 a2) (Ae a0 a1 a2 a0.length 0, ((AJ a1 a0.length 0 : Nat) : Int)) := by
 have h := I7 a0 a1 a2 he h8 a0.length 0 [] 0 (by omega) (by omega) (by simp) (by simp)
 rw [List.nil_append, Nat.zero_add] at h
 exact Ev.bind (g := fun _ p => some (p.1, p.2)) h (Ev.pure _)
theorem GW (a0 : List Int) (a1 : List Bool) (a2 : Int) : ∀ m j, (Ae a0 a1 a2 m j).length ≤ AJ a1 m j ∧ AJ a1 m j ≤ m := by
 intro m
 induction m with
 | zero => intro j; exact ⟨Nat.le_refl _, Nat.le_refl _⟩
 | succ m ih =>
  intro j
  have := ih (j + 1)
  simp only [Ae, AJ]
  split
  ·omega
  ·split
   ·simp only [List.length_cons]; omega
   ·omega
end Go.Proofs.YtobdpbnadjkhiaaGreat.Cr
namespace Go.Proofs.YtobdpbnadjkhiaaGreat.Cr
open Go.WG Go.Proofs.YtobdpbnadjkhiaaGreat
set_option linter.unusedSimpArgs false
set_option linter.unusedVariables false
def ltH (a b : sA) : Bool := decide (a.used < b.used ∨ (a.used = b.used ∧ a.id < b.id))
theorem E7 : Heap.Ord ltH where
 asymm := fun a b h => by
  simp only [ltH, decide_eq_true_eq] at h
  simp only [ltH, decide_eq_false_iff_not]
  omega
 trans := fun a b c h k => by
  simp only [ltH, decide_eq_false_iff_not] at *
  omega
theorem JD (a b : sA) (h : ltH a b = false) (k : ltH b a = false) : a = b := by
 simp only [ltH, decide_eq_false_iff_not] at h k
 obtain ⟨u, i⟩ := a
 obtain ⟨v, j⟩ := b
 simp only at h k
 have h1 : u = v := by omega
 have h2 : i = j := by omega
 rw [h1, h2]
theorem I5 (a : sA) : ltH a a = false := by simp [ltH]
theorem JV (a b : sA) : ((if a.used < b.used then some true else if a.used = b.used then some (decide (a.id < b.id)) else some false).bind fun g => some g) = some (ltH a b) := by
 by_cases hu : a.used < b.used
 ·simp [hu, ltH]
 ·by_cases he : a.used = b.used
  ·simp [he, ltH]
  ·simp [hu, he, ltH]
theorem Ig (k : Nat) (l : List sA) (i j : Nat) (hi : i < l.length) (hj : j < l.length) : wE.f k l (i : Int) (j : Int) = some (ltH (l.getD i sA.z) (l.getD j sA.z)) := by
 have h1 : 0 ≤ (i : Int) ∧ (i : Int) < (l.length : Int) := by omega
 have h2 : 0 ≤ (j : Int) ∧ (j : Int) < (l.length : Int) := by omega
 simp only [wE.f, if_pos h1, if_pos h2, Int.toNat_natCast]
 exact JV _ _
theorem HJ (k : Nat) (l : List sA) (i j : Nat) (hi : i < l.length) (hj : j < l.length) : wW.f k l (i : Int) (j : Int) = some (Heap.swap sA.z l i j) := by
 have h1 : 0 ≤ (i : Int) ∧ (i : Int) < (l.length : Int) := by omega
 have h2 : 0 ≤ (j : Int) ∧ (j : Int) < (l.length : Int) := by omega
 have h3 : 0 ≤ (j : Int) ∧ (j : Int) < ((l.set i (l.getD j sA.z)).length : Int) := by rw [List.length_set]; omega
 simp only [wW.f, if_pos h1, if_pos h2, Int.toNat_natCast, Option.bind_some, if_pos h3]
 rfl
theorem IH (n : Nat) (hn63 : n ≤ 1000000000000) : ∀ (f i : Nat) (l : List sA), n ≤ l.length → n ≤ f + i → i < n ∨ f = 0 →  i ≤ n →
  Ev (fun k => vZ.l1 k (n : Int) (i : Int) l) (((Heap.down ltH sA.z f n i l).1 : Int), (Heap.down ltH sA.z f n i l).2) := by
 intro f
 induction f with
 | zero =>
  intro i l hl hf _ hin
  have e1 : rB (2 * (i : Int)) = 2 * (i : Int) := tI (by omega) (by omega)
  have e2 : rB (2 * (i : Int) + 1) = 2 * (i : Int) + 1 := tI (by omega) (by omega)
  refine Ev.succ ((Ev.pure _).congr fun k => ?_)
  have h1 : 2 * (i : Int) + 1 ≥ (n : Int) := by omega
  simp only [vZ.l1, e1, e2, decide_eq_true h1, Bool.true_or, if_true, Heap.down]
 | succ f ih =>
  intro i l hl hf hfi hin
  have hin' : i < n := by omega
  have e1 : rB (2 * (i : Int)) = 2 * (i : Int) := tI (by omega) (by omega)
  have e2 : rB (2 * (i : Int) + 1) = 2 * (i : Int) + 1 := tI (by omega) (by omega)
  have e3 : rB (2 * (i : Int) + 1 + 1) = 2 * (i : Int) + 1 + 1 := tI (by omega) (by omega)
  by_cases hge : 2 * i + 1 ≥ n
  ·refine Ev.succ ((Ev.pure _).congr fun k => ?_)
   have h1 : 2 * (i : Int) + 1 ≥ (n : Int) := by omega
   simp only [vZ.l1, e1, e2, decide_eq_true h1, Bool.true_or, if_true, Heap.down, if_pos hge]
  ·have h1 : ¬ 2 * (i : Int) + 1 ≥ (n : Int) := by omega
   have h2 : ¬ 2 * (i : Int) + 1 < 0 := by omega
   generalize hj : (if 2 * i + 2 < n ∧ ltH (l.getD (2 * i + 2) sA.z) (l.getD (2 * i + 1) sA.z) = true then 2 * i + 2 else 2 * i + 1) = j
   have hjc : (j = 2 * i + 1 ∨ j = 2 * i + 2) ∧ j < n := by split at hj <;> omega
   have hpick : ∀ k, ((if 2 * (i : Int) + 1 + 1 < (n : Int) then ((wE.f k l (2 * (i : Int) + 1 + 1) (2 * (i : Int) + 1)).bind fun r => some r) else some false).bind fun g => if g = true then some (2 * (i : Int) + 1 + 1) else some (2 * (i : Int) + 1)) = some (j : Int) := fun k => by
    by_cases h22 : 2 * i + 2 < n
    ·have h22' : 2 * (i : Int) + 1 + 1 < (n : Int) := by omega
     have hl2 := Ig k l (2 * i + 2) (2 * i + 1) (by omega) (by omega)
     rw [show ((2 * i + 2 : Nat) : Int) = 2 * (i : Int) + 1 + 1 from by omega, show ((2 * i + 1 : Nat) : Int) = 2 * (i : Int) + 1 from by omega] at hl2
     simp only [if_pos h22', hl2, Option.bind_some]
     cases hlt : ltH (l.getD (2 * i + 2) sA.z) (l.getD (2 * i + 1) sA.z) with
     | true =>
      rw [hlt] at hj
      rw [if_pos ⟨h22, rfl⟩] at hj
      subst hj
      simp only [if_true]
      congr 1
     | false =>
      rw [hlt] at hj
      rw [if_neg (by simp)] at hj
      subst hj
      simp
    ·have h22' : ¬ 2 * (i : Int) + 1 + 1 < (n : Int) := by omega
     rw [if_neg (fun h => h22 h.1)] at hj
     subst hj
     simp [if_neg h22']
   have hless := fun k => Ig k l j i (by omega) (by omega)
   have hswap := fun k => HJ k l i j (by omega) (by omega)
   simp only [Heap.down, if_neg hge, hj]
   cases hlt : ltH (l.getD j sA.z) (l.getD i sA.z) with
   | true =>
    rw [if_pos rfl]
    have h := ih j (Heap.swap sA.z l i j) (by rw [Heap.yR]; exact hl) (by omega) (by omega) (by omega)
    refine Ev.succ (h.congr fun k => ?_)
    simp only [vZ.l1, e1, e2, e3, decide_eq_false h1, decide_eq_false h2, Bool.false_or, hpick k, Option.bind_some, hless k, hlt, if_true, hswap k]
    simp
   | false =>
    rw [if_neg (by simp)]
    refine Ev.succ ((Ev.pure _).congr fun k => ?_)
    simp only [vZ.l1, e1, e2, e3, decide_eq_false h1, decide_eq_false h2, Bool.false_or, hpick k, Option.bind_some, hless k, hlt]
    simp
theorem HO (n : Nat) (hn63 : n ≤ 1000000000000) (i : Nat) (l : List sA) (hl : n ≤ l.length) (hi : i ≤ n) :
  ∃ b, Ev (fun k => vZ.f k l (i : Int) (n : Int)) (b, (Heap.down ltH sA.z (n - i) n i l).2) := by
 have h := IH n hn63 (n - i) i l hl (by omega) (by omega) hi
 exact ⟨decide (((Heap.down ltH sA.z (n - i) n i l).1 : Int) > (i : Int)), Ev.bind (g := fun _ (p : Int × List sA) => some (decide (p.1 > (i : Int)), p.2)) h (Ev.pure _)⟩
theorem IN (n : Nat) (hn63 : n ≤ 1000000000000) : ∀ (j : Nat) (l : List sA), l.length = n → j ≤ n → Heap.Ok ltH sA.z j n none l →
  ∃ r, Ev (fun k => wK.l1 k (n : Int) ((j : Int) - 1) l) r ∧ r.Perm l ∧ Heap.Ok ltH sA.z 0 n none r := by
 intro j
 induction j with
 | zero =>
  intro l hl hj hok
  refine ⟨l, Ev.succ ((Ev.pure _).congr fun k => ?_), .refl _, hok⟩
  have : ¬ (((0 : Nat) : Int) - 1 ≥ 0) := by omega
  simp only [wK.l1, if_neg this]
 | succ j ih =>
  intro l hl hj hok
  obtain ⟨b, hd⟩ := HO n hn63 j l (by omega) (by omega)
  obtain ⟨h1, h2, h3⟩ := Heap.Er E7 j n (n - j) j l (by omega) (Nat.le_refl _) (by omega)
   (fun p c hp hpj hc hcn => hok p c (by have : p ≠ j := fun e => hpj (by rw [e]); omega) (by simp) hc hcn) (fun q c hq hjq _ _ => by omega)
  obtain ⟨r, h4, h5, h6⟩ := ih (Heap.down ltH sA.z (n - j) n j l).2 (by rw [Heap.BJ]; exact hl) (by omega) h2
  refine ⟨r, Ev.succ ?_, h5.trans h1, h6⟩
  have hge : ((j + 1 : Nat) : Int) - 1 ≥ 0 := by omega
  have e1 : ((j + 1 : Nat) : Int) - 1 = (j : Int) := by omega
  have e2 : rB ((j : Int) - 1) = (j : Int) - 1 := tI (by omega) (by omega)
  refine Ev.congr (Ev.bind (g := fun k p => wK.l1 k (n : Int) (rB ((j : Int) - 1)) p.2) hd (by simpa only [e2] using h4)) fun k => ?_
  have hge' : (j : Int) ≥ 0 := by omega
  simp only [wK.l1, e1, if_pos hge']
theorem JT (l : List sA) (hn63 : l.length ≤ 1000000000000) : ∃ r, Ev (fun k => wK.f k l) r ∧ r.Perm l ∧ Heap.Ok ltH sA.z 0 r.length none r := by
 have hok : Heap.Ok ltH sA.z (l.length / 2) l.length none l := fun p c hp _ hc hcn => by omega
 obtain ⟨r, h1, h2, h3⟩ := IN l.length hn63 (l.length / 2) l rfl (by omega) hok
 refine ⟨r, ?_, h2, by rw [h2.length_eq]; exact h3⟩
 have e1 : (l.length : Int).tdiv 2 = ((l.length / 2 : Nat) : Int) := by rw [Int.tdiv_eq_ediv_of_nonneg (by omega)]; omega
 have e2 : rB ((l.length / 2 : Nat) : Int) = ((l.length / 2 : Nat) : Int) := tI (by omega) (by omega)
 have e3 : rB (((l.length / 2 : Nat) : Int) - 1) = ((l.length / 2 : Nat) : Int) - 1 := tI (by omega) (by omega)
 refine Ev.congr (Ev.bind (g := fun _ x => some x) h1 (Ev.pure _)) fun k => ?_
 simp only [wK.f, xH.f, Option.bind_some, e1, e2, e3]
theorem G1 (k : Nat) (l : List sA) (h : 0 < l.length) (hn63 : l.length ≤ 1000000000000) : xQ.f k l = some (l.getD (l.length - 1) sA.z, l.take (l.length - 1)) := by
 have e1 : rB ((l.length : Int) - 1) = ((l.length - 1 : Nat) : Int) := by rw [tI (by omega) (by omega)]; omega
 have h1 : 0 ≤ ((l.length - 1 : Nat) : Int) ∧ ((l.length - 1 : Nat) : Int) < (l.length : Int) := by omega
 have h2 : 0 ≤ ((l.length - 1 : Nat) : Int) ∧ ((l.length - 1 : Nat) : Int) ≤ (l.length : Int) := by omega
 simp only [xQ.f, e1, if_pos h1, if_pos h2, Int.toNat_natCast]
theorem Km (l : List sA) (h : 0 < l.length) (hn63 : l.length ≤ 1000000000000) : Ev (fun k => AG.f k l) (Heap.pop ltH sA.z l) := by
 have e1 : rB ((l.length : Int) - 1) = ((l.length - 1 : Nat) : Int) := by rw [tI (by omega) (by omega)]; omega
 obtain ⟨b, hd⟩ := HO (l.length - 1) (by omega) 0 (Heap.swap sA.z l 0 (l.length - 1)) (by rw [Heap.yR]; omega) (Nat.zero_le _)
 have hlen : (Heap.down ltH sA.z (l.length - 1 - 0) (l.length - 1) 0 (Heap.swap sA.z l 0 (l.length - 1))).2.length = l.length := by rw [Heap.BJ, Heap.yR]
 have hsw := fun k => HJ k l 0 (l.length - 1) h (by omega)
 have hp := fun k => G1 k (Heap.down ltH sA.z (l.length - 1 - 0) (l.length - 1) 0 (Heap.swap sA.z l 0 (l.length - 1))).2 (by omega) (by omega)
 refine Ev.congr (Ev.bind (g := fun k p => (xQ.f k p.2).bind fun q => some (q.1, q.2)) hd (r := Heap.pop ltH sA.z l) ?_) fun k => ?_
 ·refine (Ev.pure _).congr fun k => ?_
  simp only [hp k, Option.bind_some, hlen]
  rfl
 ·have := hsw k
  simp only [AG.f, xH.f, Option.bind_some, e1]
  rw [show (0 : Int) = ((0 : Nat) : Int) from rfl, this]
  rfl
end Go.Proofs.YtobdpbnadjkhiaaGreat.Cr
namespace Go.Proofs.YtobdpbnadjkhiaaGreat.Cr
open Go.WG Go.Proofs.YtobdpbnadjkhiaaGreat
set_option linter.unusedSimpArgs false
set_option linter.unusedVariables false
abbrev AA (a0 : List Int) (a1 : List Bool) (a2 : Int) : List sA := Ae a0 a1 a2 a0.length 0
abbrev SS (a0 : List Int) (a1 : List Bool) (a2 : Int) : List sA := Heap.Gm ltH (AA a0 a1 a2)
def Aw (a0 : List Int) (a1 : List Bool) (a2 a3 : Int) : List Int × Int :=
 if BC a0 a1 = false ∨ a3 < 1 ∨ a2 < 0 then ([], 1)
 else if (AJ a1 a0.length 0 : Int) < a3 then ([], 180)
 else if ((AA a0 a1 a2).length : Int) < a3 then ([], 70)
 else (((SS a0 a1 a2).take a3.toNat).map (·.id), 0)
theorem IU (n : Nat) (S : List sA) (hn : n ≤ S.length) (hn63 : S.length ≤ 1000000000000) (hS : S.Pairwise fun a b => ltH b a = false) : ∀ (m i : Nat) (hp : List sA), n - i = m → i ≤ n → hp.Perm (S.drop i) → Heap.Ok ltH sA.z 0 hp.length none hp →
  Ev (fun k => wO.l1 k (n : Int) ((S.take i).map (·.id) ++ List.replicate (n - i) (0 : Int)) (i : Int) hp) ((S.take n).map (·.id)) := by
 intro m
 induction m with
 | zero =>
  intro i hp hm hi hperm hok
  have : i = n := by omega
  subst this
  refine Ev.succ ((Ev.pure _).congr fun k => ?_)
  have hno : ¬ (i : Int) < ((List.replicate ((i : Int)).toNat (0 : Int)).length : Int) := by rw [List.length_replicate, Int.toNat_natCast]; omega
  simp only [wO.l1, if_neg hno, Nat.sub_self, List.replicate_zero, List.append_nil]
 | succ m ih =>
  intro i hp hm hi hperm hok
  have hin : i < n := by omega
  have hiS : i < S.length := by omega
  have hlen : hp.length = S.length - i := by rw [hperm.length_eq, List.length_drop]
  have hpop := Km hp (by omega) (by omega)
  obtain ⟨h1, h2, h3, h4⟩ := Heap.Hz E7 (l := hp) (d := sA.z) (by intro e; rw [e] at hlen; simp at hlen; omega) hok
  rw [List.drop_eq_getElem_cons hiS] at hperm
  have hsub : (S[i] :: S.drop (i + 1)).Pairwise fun a b => ltH b a = false := by rw [← List.drop_eq_getElem_cons hiS]; exact hS.sublist (List.drop_sublist _ _)
  obtain ⟨h5, h6⟩ := Heap.FY JD I5 h2 h4 hperm hsub
  have h7 := ih (i + 1) (Heap.pop ltH sA.z hp).2 (by omega) (by omega) h6 h3
  refine Ev.succ ?_
  have hyes : (i : Int) < ((List.replicate ((n : Int)).toNat (0 : Int)).length : Int) := by rw [List.length_replicate, Int.toNat_natCast]; omega
  have hl0 : ((S.take i).map (·.id)).length = i := by rw [List.length_map, List.length_take]; omega
  have hb : 0 ≤ (i : Int) ∧ (i : Int) < ((((S.take i).map (·.id)) ++ List.replicate (n - i) (0 : Int)).length : Int) := by rw [List.length_append, hl0, List.length_replicate]; omega
  have hset : (((S.take i).map (·.id)) ++ List.replicate (n - i) (0 : Int)).set i (S[i].id) = ((S.take (i + 1)).map (·.id)) ++ List.replicate (n - (i + 1)) (0 : Int) := by
   rw [List.set_append_right _ _ (by omega), hl0, Nat.sub_self, show n - i = (n - (i + 1)) + 1 from by omega, List.replicate_succ, List.set_cons_zero, List.take_succ_eq_append_getElem hiS, List.map_append]
   simp
  refine Ev.congr (Ev.bind (g := fun k (p : sA × List sA) => if 0 ≤ (i : Int) ∧ (i : Int) < ((((S.take i).map (·.id)) ++ List.replicate (n - i) (0 : Int)).length : Int) then wO.l1 k (n : Int) ((((S.take i).map (·.id)) ++ List.replicate (n - i) (0 : Int)).set (i : Int).toNat p.1.id) (rB ((i : Int) + 1)) p.2 else none) hpop (Ev.rG hb ?_)) fun k => ?_
  ·rw [h5, Int.toNat_natCast, hset, Ak (by omega)]
   exact h7
  ·simp only [wO.l1, if_pos hyes]
theorem JQ (a0 : List Int) (a1 : List Bool) (a2 a3 : Int) (hb : a0.length < 9223372036854775807) : Ev (fun k => wO.f k a0 a1 a2 a3) (Aw a0 a1 a2 a3) := by
 have hr := CD a0 a1 hb
 unfold wO.f
 refine Ev.bind hr ?_
 unfold Aw
 by_cases hbad : BC a0 a1 = false ∨ a3 < 1 ∨ a2 < 0
 ·rw [if_pos hbad]
  refine Ev.rG ?_ (Ev.pure _)
  rcases hbad with h | h | h
  ·simp [h]
  ·simp [h]
  ·simp [h]
 ·rw [if_neg hbad]
  have hrt : BC a0 a1 = true := by cases h : BC a0 a1 with | true => rfl | false => exact absurd (.inl h) hbad
  have h3 : ¬ a3 < 1 := fun h => hbad (.inr (.inl h))
  have h2 : ¬ a2 < 0 := fun h => hbad (.inr (.inr h))
  obtain ⟨he, h8, _⟩ := FN hrt
  refine Ev.rZ (by simp [hrt, h3, h2]) ?_
  refine Ev.bind (Jz a0 a1 a2 he h8) ?_
  by_cases hf : (AJ a1 a0.length 0 : Int) < a3
  ·rw [if_pos hf]
   exact Ev.rG hf (Ev.pure _)
  ·rw [if_neg hf]
   refine Ev.rZ hf ?_
   by_cases hk : ((AA a0 a1 a2).length : Int) < a3
   ·rw [if_pos hk]
    exact Ev.rG hk (Ev.pure _)
   ·rw [if_neg hk]
    refine Ev.rZ hk ?_
    have hlen : (AA a0 a1 a2).length ≤ AJ a1 a0.length 0 ∧ AJ a1 a0.length 0 ≤ a0.length := GW a0 a1 a2 a0.length 0
    have hp := Heap.BZ (lt := ltH) (AA a0 a1 a2)
    obtain ⟨r, h1, h4, h5⟩ := JT (AA a0 a1 a2) (by omega)
    refine Ev.bind h1 ?_
    have hlim : 0 ≤ a3 ∧ a3 * 8 ≤ 140737488355328 := by omega
    refine Ev.rG hlim ?_
    have h6 := IU a3.toNat (SS a0 a1 a2) (by rw [hp.length_eq]; omega) (by rw [hp.length_eq]; omega) (Heap.E2 E7 _) _ 0 r rfl (Nat.zero_le _) (by rw [List.drop_zero]; exact h4.trans hp.symm) h5
    have e3 : ((a3.toNat : Nat) : Int) = a3 := by omega
    simp only [e3, List.take_zero, List.map_nil, List.nil_append, Nat.sub_zero] at h6
    exact Ev.bind h6 (Ev.pure _)
theorem Eg (a0 : List Int) (a1 : List Bool) (a2 : Int) : ∀ m j, ∀ h ∈ Ae a0 a1 a2 m j, h.used < a2 ∧ ∃ i : Nat, h.id = (i : Int) ∧ j ≤ i ∧ i < j + m ∧ a1.getD i false = false ∧ h.used = a0.getD i 0 := by
 intro m
 induction m with
 | zero => intro j h hh; simp [Ae] at hh
 | succ m ih =>
  intro j h hh
  simp only [Ae] at hh
  have go : h ∈ Ae a0 a1 a2 m (j + 1) → h.used < a2 ∧ ∃ i : Nat, h.id = (i : Int) ∧ j ≤ i ∧ i < j + (m + 1) ∧ a1.getD i false = false ∧ h.used = a0.getD i 0 := fun hh => by
   obtain ⟨h1, i, h2, h3, h4, h5⟩ := ih (j + 1) h hh
   exact ⟨h1, i, h2, by omega, by omega, h5⟩
  split at hh
  ·exact go hh
  ·rename_i hb
   split at hh
   ·rename_i hk
    rcases List.mem_cons.1 hh with rfl | hh
    ·exact ⟨hk, j, rfl, Nat.le_refl _, by omega, by simpa using hb, rfl⟩
    ·exact go hh
   ·exact go hh
theorem GU (a0 : List Int) (a1 : List Bool) (a2 : Int) : ∀ m j, (Ae a0 a1 a2 m j).Pairwise fun a b => a.id < b.id := by
 intro m
 induction m with
 | zero => intro j; exact .nil
 | succ m ih =>
  intro j
  simp only [Ae]
  split
  ·exact ih _
  ·split
   ·refine List.pairwise_cons.2 ⟨fun h hh => ?_, ih _⟩
    obtain ⟨_, i, h2, h3, _⟩ := Eg a0 a1 a2 m (j + 1) h hh
    rw [h2]
    show (j : Int) < (i : Int)
    omega
   ·exact ih _
theorem JO (a0 : List Int) (a1 : List Bool) (a2 : Int) : (SS a0 a1 a2).Pairwise fun a b => a.id ≠ b.id :=
 (((Heap.BZ (lt := ltH) (AA a0 a1 a2)).pairwise_iff (R := fun a b : sA => a.id ≠ b.id) (fun h => Ne.symm h)).2 ((GU a0 a1 a2 _ _).imp fun h => by omega))
end Go.Proofs.YtobdpbnadjkhiaaGreat.Cr
namespace Go.Proofs.YtobdpbnadjkhiaaGreat.Pure
open Go.WG Go.Proofs.YtobdpbnadjkhiaaGreat Go.Proofs.YtobdpbnadjkhiaaGreat.Ta
set_option linter.unusedSimpArgs false
set_option linter.unusedVariables false
theorem Ba : ∀ {l W : List Int}, l.Nodup → (∀ x ∈ l, x ∈ W) → l.length ≤ W.length
  | [], _, _, _ => Nat.zero_le _
  | a :: r, W, hn, hs => by
    rw [List.nodup_cons] at hn
    have ha := hs a (by simp)
    have := Ba (l := r) (W := W.erase a) hn.2 fun x hx => by
      have hne : x ≠ a := fun e => hn.1 (e ▸ hx)
      exact (List.mem_erase_of_ne hne).2 (hs x (List.mem_cons_of_mem _ hx))
    rw [List.length_erase_of_mem ha] at this
    have := List.length_pos_of_mem ha
    rw [List.length_cons]
    omega
theorem Bb {l : List rA} {W : List Int} (h : AQ l) (k : ∀ v ∈ l, v.Worker ∈ W) : l.length ≤ W.length := by
  have := Ba h fun x hx => by obtain ⟨v, hv, rfl⟩ := List.mem_map.1 hx; exact k v hv
  rwa [List.length_map] at this
theorem H7 {α : Type} (l : List α) (i : Nat) (d : α) : l.set i (l.getD i d) = l := by
  by_cases h : i < l.length
  · rw [List.getD_eq_getElem?_getD, List.getElem?_eq_getElem h, Option.getD_some, List.set_getElem_self]
  · rw [List.set_eq_of_length_le (by omega)]
theorem zB {α : Type} {l : List α} {i : Nat} (d x : α) (h : i < l.length) : (l.set i x).getD i d = x := by
  rw [List.getD_eq_getElem?_getD, List.getElem?_set_self h]; rfl
theorem Aa {α : Type} {l : List α} {i j : Nat} (d x : α) (h : i ≠ j) : (l.set i x).getD j d = l.getD j d := by
  rw [List.getD_eq_getElem?_getD, List.getElem?_set_ne h, List.getD_eq_getElem?_getD]
def Dt : List Bool → List Int → List Bool
  | b, [] => b
  | b, w :: r => Dt (b.set w.toNat true) r
theorem Cf : ∀ (ls : List Int) (b : List Bool), (Dt b ls).length = b.length
  | [], _ => rfl
  | w :: r, b => by rw [Dt, Cf r, List.length_set]
theorem Ey (w : Int) : ∀ (ls : List Int) (b : List Bool), Dt b (ls ++ [w]) = (Dt b ls).set w.toNat true
  | [], _ => rfl
  | x :: r, b => by rw [List.cons_append, Dt, Dt, Ey w r]
def DW (c : rK) (s : bF) (r : rD) : Int × bF :=
  if 1 ≤ r.Job ∧ r.Job ≤ (s.Jobs.length : Int) then
    (if (s.Jobs.getD (r.Job - 1).toNat bT.z).State = 1 then (212, s) else
     if r.By ∈ (s.Jobs.getD (r.Job - 1).toNat bT.z).Workers then
      (if (yT (s.Jobs.getD (r.Job - 1).toNat bT.z).rI ⟨r.By, r.Data⟩).2 = 0 then
        (if (yO (yT (s.Jobs.getD (r.Job - 1).toNat bT.z).rI ⟨r.By, r.Data⟩).1 c.Faulty).2 = true then
          (0, ⟨s.Eras, s.Jobs.set (r.Job - 1).toNat { s.Jobs.getD (r.Job - 1).toNat bT.z with rI := (yT (s.Jobs.getD (r.Job - 1).toNat bT.z).rI ⟨r.By, r.Data⟩).1, State := 3, Value := (yO (yT (s.Jobs.getD (r.Job - 1).toNat bT.z).rI ⟨r.By, r.Data⟩).1 c.Faulty).1 }, s.Used,
            Dt s.Barred (Gb (yT (s.Jobs.getD (r.Job - 1).toNat bT.z).rI ⟨r.By, r.Data⟩).1 (yO (yT (s.Jobs.getD (r.Job - 1).toNat bT.z).rI ⟨r.By, r.Data⟩).1 c.Faulty).1), s.Heads⟩)
         else (0, ⟨s.Eras, s.Jobs.set (r.Job - 1).toNat { s.Jobs.getD (r.Job - 1).toNat bT.z with rI := (yT (s.Jobs.getD (r.Job - 1).toNat bT.z).rI ⟨r.By, r.Data⟩).1 }, s.Used, s.Barred, s.Heads⟩))
       else ((yT (s.Jobs.getD (r.Job - 1).toNat bT.z).rI ⟨r.By, r.Data⟩).2, s))
     else (214, s))
  else (211, s)
theorem IE (c : rK) (E : List sD) (J : List bT) (U : List Int) (b : List Bool) (h : Int) (ls : List Int) (hl : ls.length ≤ 100) (hb : ∀ w ∈ ls, 0 ≤ w ∧ w < (b.length : Int)) :
    Ev (fun k => tN.l1 k ls 0 ⟨c, ⟨E, J, U, b, h⟩⟩) (⟨c, ⟨E, J, U, Dt b ls, h⟩⟩ : sF) := by
  refine Ev.loop (n := ls.length) (F := fun k i (x : sF) => tN.l1 k ls (i : Int) x) (fun i x => x = ⟨c, ⟨E, J, U, Dt b (ls.take i), h⟩⟩) (fun i x hi hI => ?_) (fun x hI => ?_) _ rfl
  · subst hI
    have hw := hb _ (uJ 0 hi)
    refine .inr ⟨_, rfl, fun k => ?_⟩
    rw [take_succ 0 hi, Ey] at k
    simp only [tN.l1, Int.toNat_natCast, tU (show i < 9223372036854775807 by omega)]
    exact Ev.rG (by omega) (Ev.rG (by omega) (Ev.rG (by rw [Cf]; exact hw) k))
  · subst hI
    simp only [tN.l1, List.take_length]
    exact Ev.rZ (by omega) (Ev.pure _)
theorem GQ {l : List rA} {c d : rA} (h : d ∈ (yT l c).1) : d ∈ l ∨ d = c := by
  unfold yT at h
  split at h
  · cases h
  · split at h
    · cases h
    · split at h
      · cases h
      · rcases List.mem_append.1 h with h | h
        · exact .inl h
        · exact .inr (List.mem_singleton.1 h)
theorem JE {c : rK} (hc : vT c) {s : bF} (hs : AB s) (hg : Good c s) {r : rD} (hr : Byt r.Data) : Ev (fun k => tN.f k ⟨c, s⟩ r) ((DW c s r).1, ⟨c, (DW c s r).2⟩) := by
  unfold tN.f DW
  simp only [Fu c hs, Option.bind_some]
  unfold HC
  by_cases g : 1 ≤ r.Job ∧ r.Job ≤ (s.Jobs.length : Int)
  · simp only [if_pos g]
    refine Ev.rG (by omega) (Ev.rG trivial ?_)
    have hi : (r.Job - 1).toNat < s.Jobs.length := by omega
    have hj := hs.each _ (uJ bT.z hi)
    have hsd := hg.jb _ hi
    generalize hi' : (r.Job - 1).toNat = i at hi hj hsd ⊢
    generalize hje : s.Jobs.getD i bT.z = j at hj hsd ⊢
    by_cases g1 : j.State = 1
    · simp only [if_pos g1]; exact Ev.pure _
    simp only [if_neg g1]
    have hb : E9 c s j := hsd.k.resolve_left fun k => g1 k.s
    have hlen : j.rI.length ≤ 8 := by
      have h1 := Bb hb.vt.once fun v hv => (hb.vt.each v hv).2.2
      have := hj.wk
      omega
    refine Ev.bind (Gv j r.By hj.wk) ?_
    by_cases g2 : r.By ∈ j.Workers
    · simp only [if_pos g2]
      refine Ev.rG (decide_eq_true g2) (Ev.bind (Ho hj.votes ⟨r.By, r.Data⟩) ?_)
      have hV : rI (yT j.rI ⟨r.By, r.Data⟩).1 := ED hj.votes (by omega) hr
      have hmem : ∀ d ∈ (yT j.rI ⟨r.By, r.Data⟩).1, d.Worker ∈ j.Workers := fun d hd => by
        rcases GQ hd with h | rfl
        · exact (hb.vt.each d h).2.2
        · exact g2
      generalize yT j.rI ⟨r.By, r.Data⟩ = cv at hV hmem ⊢
      by_cases g3 : cv.2 = 0
      · simp only [if_pos g3]
        refine Ev.bind (Fz hV c.Faulty) ?_
        by_cases g4 : (yO cv.1 c.Faulty).2 = true
        · simp only [if_pos g4]
          refine Ev.bind (I3 hV (Cq hV c.Faulty)) ?_
          have hl1 := IE c s.Eras (s.Jobs.set i { j with rI := cv.1, State := 3, Value := (yO cv.1 c.Faulty).1 }) s.Used s.Barred s.Heads (Gb cv.1 (yO cv.1 c.Faulty).1) (by have := Ih cv.1 (yO cv.1 c.Faulty).1; have := hV.1; omega) (fun w hw => by
            obtain ⟨d, hd, _, rfl⟩ := (HM _ _ _).1 hw
            have hm := hmem d hd
            obtain ⟨q, hq, he⟩ := List.mem_iff_getElem.1 hm
            have := hb.cr.w q hq
            rw [List.getD_eq_getElem?_getD, List.getElem?_eq_getElem hq, Option.getD_some, he] at this
            have := hg.b
            omega)
          have e1 : (s.Jobs.set i { j with rI := cv.1 }).getD i bT.z = { j with rI := cv.1 } := zB _ _ hi
          have e2 : (s.Jobs.set i { j with rI := cv.1, State := 3 }).getD i bT.z = { j with rI := cv.1, State := 3 } := zB _ _ hi
          simp only [e1, e2, List.set_set]
          exact Ev.bind hl1 (Ev.pure _)
        · simp only [if_neg g4]; exact Ev.pure _
      · simp only [if_neg g3]; exact Ev.pure _
    · simp only [if_neg g2]
      exact Ev.rZ (by simpa using g2) (Ev.pure _)
  · simp only [if_neg g]
    exact Ev.rZ (by omega) (Ev.rZ (by decide) (Ev.pure _))
def zA : List Int → List Int → List Int × List Int
  | u, [] => ([], u)
  | u, w :: r => (u.getD w.toNat 0 :: (zA (u.set w.toNat (u.getD w.toNat 0 + 1)) r).1, (zA (u.set w.toNat (u.getD w.toNat 0 + 1)) r).2)
theorem CF : ∀ (l : List Int) (u : List Int), (zA u l).1.length = l.length ∧ (zA u l).2.length = u.length
  | [], _ => ⟨rfl, rfl⟩
  | w :: r, u => by
    obtain ⟨h1, h2⟩ := CF r (u.set w.toNat (u.getD w.toNat 0 + 1))
    exact ⟨by rw [zA, List.length_cons, List.length_cons, h1], by rw [zA, h2, List.length_set]⟩
theorem Eh (w : Int) : ∀ (l u : List Int), zA u (l ++ [w]) = ((zA u l).1 ++ [(zA u l).2.getD w.toNat 0], (zA u l).2.set w.toNat ((zA u l).2.getD w.toNat 0 + 1))
  | [], _ => rfl
  | x :: r, u => by rw [List.cons_append, zA, zA, Eh w r]; rfl
theorem Gw : ∀ (l u : List Int) (q : Nat), (zA u l).2.getD q 0 ≤ u.getD q 0 + l.length ∧ u.getD q 0 ≤ (zA u l).2.getD q 0
  | [], _, _ => by simp [zA]
  | w :: r, u, q => by
    obtain ⟨h1, h2⟩ := Gw r (u.set w.toNat (u.getD w.toNat 0 + 1)) q
    have h3 : (u.set w.toNat (u.getD w.toNat 0 + 1)).getD q 0 ≤ u.getD q 0 + 1 ∧ u.getD q 0 ≤ (u.set w.toNat (u.getD w.toNat 0 + 1)).getD q 0 := by
      by_cases e : w.toNat = q
      · subst e
        by_cases hl : w.toNat < u.length
        · rw [zB _ _ hl]; omega
        · rw [List.set_eq_of_length_le (by omega)]; omega
      · rw [Aa _ _ e]; omega
    rw [zA, List.length_cons]
    refine ⟨?_, ?_⟩
    · show (zA (u.set w.toNat (u.getD w.toNat 0 + 1)) r).2.getD q 0 ≤ _
      omega
    · show _ ≤ (zA (u.set w.toNat (u.getD w.toNat 0 + 1)) r).2.getD q 0
      omega
def Bk (c : rK) (s : bF) (r : rD) : Int × bF :=
  if s.Eras.length = 0 then (210, s) else
  if 1 ≤ r.Job ∧ r.Job ≤ (s.Jobs.length : Int) then
    (if (s.Jobs.getD (r.Job - 1).toNat bT.z).State = 1 then
      (if r.Time = 0 then (213, s) else
       if (Cr.Aw s.Used s.Barred (xO c) (2 * c.Faulty + 1)).2 = 0 then
        (0, ⟨s.Eras, s.Jobs.set (r.Job - 1).toNat ⟨(s.Jobs.getD (r.Job - 1).toNat bT.z).Payload, 2, (s.Jobs.getD (r.Job - 1).toNat bT.z).Attempt + 1, BS s, r.Time, (Cr.Aw s.Used s.Barred (xO c) (2 * c.Faulty + 1)).1, (zA s.Used (Cr.Aw s.Used s.Barred (xO c) (2 * c.Faulty + 1)).1).1, (s.Jobs.getD (r.Job - 1).toNat bT.z).rI, (s.Jobs.getD (r.Job - 1).toNat bT.z).Value⟩,
          (zA s.Used (Cr.Aw s.Used s.Barred (xO c) (2 * c.Faulty + 1)).1).2, s.Barred, s.Heads⟩)
       else ((Cr.Aw s.Used s.Barred (xO c) (2 * c.Faulty + 1)).2, s))
     else (212, s))
  else (211, s)
end Go.Proofs.YtobdpbnadjkhiaaGreat.Pure
namespace Go.Proofs.YtobdpbnadjkhiaaGreat.Pure
open Go.WG Go.Proofs.YtobdpbnadjkhiaaGreat Go.Proofs.YtobdpbnadjkhiaaGreat.Ta
set_option linter.unusedSimpArgs false
set_option linter.unusedVariables false
theorem D2 {u : List Int} {b : List Bool} {k n : Int} (h : (Cr.Aw u b k n).2 = 0) : ((Cr.Aw u b k n).1.length : Int) = n ∧ (Cr.Aw u b k n).1.Nodup ∧ ∀ w ∈ (Cr.Aw u b k n).1, 0 ≤ w ∧ w < (u.length : Int) ∧ b.getD w.toNat false = false ∧ u.getD w.toNat 0 < k := by
 unfold Cr.Aw at h ⊢
 split at h
 ·cases h
 ·rename_i h1
  split at h
  ·cases h
  ·rename_i h2
   split at h
   ·cases h
   ·rename_i h3
    rw [if_neg h1, if_neg h2, if_neg h3]
    have hn : ¬ n < 1 := fun e => h1 (.inr (.inl e))
    have hp := Heap.BZ (lt := Cr.ltH) (Cr.AA u b k)
    refine ⟨?_, ?_, fun w hw => ?_⟩
    ·have := hp.length_eq
     rw [List.length_map, List.length_take, this]
     omega
    ·have := (Cr.JO u b k).sublist (List.take_sublist n.toNat _)
     exact List.pairwise_map.2 this
    ·obtain ⟨x, hx, rfl⟩ := List.mem_map.1 hw
     obtain ⟨g1, i, g2, g3, g4, g5, g6⟩ := Cr.Eg u b k _ _ x (hp.mem_iff.1 (List.mem_of_mem_take hx))
     rw [g2]
     refine ⟨by omega, by omega, by simpa using g5, ?_⟩
     rw [g6] at g1
     simpa using g1
theorem G4 (c : rK) (E : List sD) (J : List bT) (u : List Int) (b : List Bool) (h : Int) (j : bT) (l : List Int) (hl : l.length ≤ 8) (hw : ∀ w ∈ l, 0 ≤ w ∧ w < (u.length : Int)) (hu : ∀ q, 0 ≤ u.getD q 0 ∧ u.getD q 0 ≤ 64) :
  Ev (fun k => sY.l1 k l 0 ⟨c, ⟨E, J, u, b, h⟩⟩ { j with Indexes := [] }) ((⟨c, ⟨E, J, (zA u l).2, b, h⟩⟩ : sF), { j with Indexes := (zA u l).1 }) := by
 refine Ev.loop (n := l.length) (F := fun k i (x : sF × bT) => sY.l1 k l (i : Int) x.1 x.2) (fun i x => x = (⟨c, ⟨E, J, (zA u (l.take i)).2, b, h⟩⟩, { j with Indexes := (zA u (l.take i)).1 })) (fun i x hi hI => ?_) (fun x hI => ?_) (_, _) rfl
 ·subst hI
  have hwi := hw _ (uJ 0 hi)
  obtain ⟨h1, h2⟩ := CF (l.take i) u
  have h3 := Gw (l.take i) u (l.getD i 0).toNat
  have h4 := hu (l.getD i 0).toNat
  rw [List.length_take] at h1 h3
  refine .inr ⟨_, rfl, fun k => ?_⟩
  rw [take_succ 0 hi, Eh] at k
  simp only [sY.l1, Int.toNat_natCast, tU (show i < 9223372036854775807 by omega)]
  rw [tI (x := (zA u (l.take i)).2.getD (l.getD i 0).toNat 0 + 1) (by omega) (by omega)]
  exact Ev.rG (by omega) (Ev.rG (by omega) (Ev.rG (by rw [h2]; exact hwi) (Ev.rG (by rw [h1]; omega) k)))
 ·subst hI
  simp only [sY.l1, List.take_length]
  exact Ev.rZ (by omega) (Ev.pure _)
theorem GD {c : rK} (hc : vT c) {s : bF} (hg : Good c s) (q : Nat) : 0 ≤ s.Used.getD q 0 ∧ s.Used.getD q 0 ≤ 64 := by
 have hk := hc.keys
 by_cases h : q < s.Used.length
 ·have := hg.un q h; omega
 ·rw [List.getD_eq_getElem?_getD, List.getElem?_eq_none (by omega)]; simp
theorem HD {c : rK} (hc : vT c) {s : bF} (hs : AB s) (hg : Good c s) (r : rD) : Ev (fun k => sY.f k ⟨c, s⟩ r) ((Bk c s r).1, ⟨c, (Bk c s r).2⟩) := by
 unfold sY.f Bk
 simp only [Hq, Option.bind_some, Fu c hs, Gx hc]
 have hF := hc.f
 by_cases g0 : s.Eras.length = 0
 ·simp only [if_pos g0]; exact Ev.rZ (by decide) (Ev.pure _)
 simp only [if_neg g0]
 refine Ev.rG trivial ?_
 unfold HC
 by_cases g : 1 ≤ r.Job ∧ r.Job ≤ (s.Jobs.length : Int)
 ·simp only [if_pos g]
  refine Ev.rG (by omega) (Ev.rG trivial ?_)
  have hi : (r.Job - 1).toNat < s.Jobs.length := by omega
  have hsd := hg.jb _ hi
  simp only [H7]
  by_cases g1 : (s.Jobs.getD (r.Job - 1).toNat bT.z).State = 1
  ·simp only [if_pos g1]
   by_cases g2 : r.Time = 0
   ·simp only [if_pos g2]; exact Ev.pure _
   ·simp only [if_neg g2]
    have hp := Cr.JQ s.Used s.Barred (xO c) (2 * c.Faulty + 1) (by have := hs.used; omega)
    refine Ev.rG hc.h.1 (Ev.bind hp ?_)
    by_cases g3 : (Cr.Aw s.Used s.Barred (xO c) (2 * c.Faulty + 1)).2 = 0
    ·obtain ⟨m1, m2, m3⟩ := D2 g3
     simp only [if_pos g3]
     refine Ev.bind (Hs s hs.eras) ?_
     have ea : rB ((s.Jobs.getD (r.Job - 1).toNat bT.z).Attempt + 1) = (s.Jobs.getD (r.Job - 1).toNat bT.z).Attempt + 1 := by
      have := hsd.a
      exact tI (by omega) (by omega)
     rw [ea]
     have hl := G4 c s.Eras s.Jobs s.Used s.Barred s.Heads ⟨(s.Jobs.getD (r.Job - 1).toNat bT.z).Payload, 2, (s.Jobs.getD (r.Job - 1).toNat bT.z).Attempt + 1, BS s, r.Time, (Cr.Aw s.Used s.Barred (xO c) (2 * c.Faulty + 1)).1, [], (s.Jobs.getD (r.Job - 1).toNat bT.z).rI, (s.Jobs.getD (r.Job - 1).toNat bT.z).Value⟩ (Cr.Aw s.Used s.Barred (xO c) (2 * c.Faulty + 1)).1 (by omega) (fun w hw => ⟨(m3 w hw).1, (m3 w hw).2.1⟩) (GD hc hg)
     exact Ev.bind hl (Ev.pure _)
    ·simp only [if_neg g3]; exact Ev.pure _
  ·simp only [if_neg g1]; exact Ev.pure _
 ·simp only [if_neg g]
  exact Ev.rZ (by omega) (Ev.rZ (by decide) (Ev.pure _))
def CP (c : rK) (s : bF) (r : rD) : Int × bF :=
 if r.Kind = 1 then B3 s r else if r.Kind = 2 then Br c s r else if r.Kind = 3 then Bk c s r else if r.Kind = 4 then DW c s r else if r.Kind = 5 then Bj s r else DD c s
def none_ : bF := ⟨[], [], [], [], 0⟩
theorem Iu (c : rK) {s : bF} (hs : AB s) {r : rD} (hr : Byt r.Data) :
  ∃ t e, Ev (fun k => wT.f k c s r) (t, e) ∧ (e = 0 → vT c ∧ Good c s ∧ CP c s r = (0, t) ∧ Ev (fun k => tJ.f k r) true) := by
 unfold wT.f
 have hck := Cw c
 by_cases hc : vT c
 ·rw [if_pos hc] at hck
  have hrt := CD hc hs
  by_cases hg : Good c s
  ·rw [B_t hg] at hrt
   obtain ⟨m, hm⟩ := J7 r
   cases m with
   | false => exact ⟨none_, 1, Ev.bind (a := true) (Ev.bind hck (Ev.rG rfl (Ev.bind hrt (Ev.rG rfl (Ev.bind hm (Ev.pure _)))))) (Ev.rG rfl (Ev.pure _)), fun h => by cases h⟩
   | true =>
    have hrun : Ev (fun k => (yQ.f k r.Kind).bind fun r805 => if r805 = 64 then ((tB.f k (⟨c, s⟩ : sF) r).bind fun ⟨r810, r811⟩ => some (r810, r811)) else (if r805 = 65 then ((vV.f k (⟨c, s⟩ : sF) r).bind fun ⟨r842, r843⟩ => some (r842, r843)) else (if r805 = 66 then ((sY.f k (⟨c, s⟩ : sF) r).bind fun ⟨r874, r875⟩ => some (r874, r875)) else (if r805 = 67 then ((tN.f k (⟨c, s⟩ : sF) r).bind fun ⟨r906, r907⟩ => some (r906, r907)) else (if r805 = 68 then ((vX.f k (⟨c, s⟩ : sF) r).bind fun ⟨r938, r939⟩ => some (r938, r939)) else (if r805 = 69 then ((wL.f k (⟨c, s⟩ : sF) r).bind fun ⟨r970, r971⟩ => some (r970, r971)) else (if False then (none) else none))))))) ((CP c s r).1, (⟨c, (CP c s r).2⟩ : sF)) := by
     unfold yQ.f CP
     by_cases k1 : r.Kind = 1
     ·simp only [if_pos k1, Option.bind_some]; exact Ev.rG trivial (Ev.bind (Im c hs r) (Ev.pure _))
     simp only [if_neg k1]
     by_cases k2 : r.Kind = 2
     ·simp only [if_pos k2, Option.bind_some]; exact Ev.rZ (by decide) (Ev.rG trivial (Ev.bind (HA c hs hr.1) (Ev.pure _)))
     simp only [if_neg k2]
     by_cases k3 : r.Kind = 3
     ·simp only [if_pos k3, Option.bind_some]; exact Ev.rZ (by decide) (Ev.rZ (by decide) (Ev.rG trivial (Ev.bind (HD hc hs hg r) (Ev.pure _))))
     simp only [if_neg k3]
     by_cases k4 : r.Kind = 4
     ·simp only [if_pos k4, Option.bind_some]; exact Ev.rZ (by decide) (Ev.rZ (by decide) (Ev.rZ (by decide) (Ev.rG trivial (Ev.bind (JE hc hs hg hr) (Ev.pure _)))))
     simp only [if_neg k4]
     by_cases k5 : r.Kind = 5
     ·simp only [if_pos k5, Option.bind_some]; exact Ev.rZ (by decide) (Ev.rZ (by decide) (Ev.rZ (by decide) (Ev.rZ (by decide) (Ev.rG trivial (Ev.bind (Hn c hs r) (Ev.pure _))))))
     simp only [if_neg k5, Option.bind_some]
     exact Ev.rZ (by decide) (Ev.rZ (by decide) (Ev.rZ (by decide) (Ev.rZ (by decide) (Ev.rZ (by decide) (Ev.rG trivial (Ev.bind (JU hc hg.h r) (Ev.pure _)))))))
    by_cases he : (CP c s r).1 = 0
    ·exact ⟨(CP c s r).2, 0, Ev.bind (a := false) (Ev.bind hck (Ev.rG rfl (Ev.bind hrt (Ev.rG rfl (Ev.bind hm (Ev.pure _)))))) (Ev.rZ (by simp) (Ev.bind (GC hs) (Ev.bind hrun (Ev.rG he (Ev.pure _))))), fun _ => ⟨hc, hg, Prod.ext he rfl, hm⟩⟩
    ·exact ⟨none_, (CP c s r).1, Ev.bind (a := false) (Ev.bind hck (Ev.rG rfl (Ev.bind hrt (Ev.rG rfl (Ev.bind hm (Ev.pure _)))))) (Ev.rZ (by simp) (Ev.bind (GC hs) (Ev.bind hrun (Ev.rZ he (Ev.pure _))))), fun h => absurd h he⟩
  ·rw [B_f hg] at hrt
   exact ⟨none_, 1, Ev.bind (a := true) (Ev.bind hck (Ev.rG rfl (Ev.bind hrt (Ev.rZ (by simp) (Ev.pure _))))) (Ev.rG rfl (Ev.pure _)), fun h => by cases h⟩
 ·rw [if_neg hc] at hck
  exact ⟨none_, 1, Ev.bind (a := true) (Ev.bind hck (Ev.rZ (by decide) (Ev.pure _))) (Ev.rG rfl (Ev.pure _)), fun h => by cases h⟩
end Go.Proofs.YtobdpbnadjkhiaaGreat.Pure
namespace Go.Proofs.YtobdpbnadjkhiaaGreat.Ta
open Go.WG Go.Proofs.YtobdpbnadjkhiaaGreat
set_option linter.unusedSimpArgs false
set_option linter.unusedVariables false
theorem DR (a b : List Int) (hb : a.length ≤ 1000000000) : Ev (fun k => tE.f k a b) (decide (a = b)) := by
 unfold tE.f
 by_cases he : a.length = b.length
 ·refine Ev.rG (by omega) ?_
  have hloop : Ev (fun k => tE.l1 k a b 0) (if a = b then Sum.inl () else Sum.inr false) := by
   refine Ev.loop (n := a.length) (F := fun k j (_ : Unit) => tE.l1 k a b (j : Int)) (fun j _ => a.take j = b.take j) (fun j _ hj hI => ?_) (fun _ hI => ?_) () rfl
   ·simp only [tE.l1]
    by_cases h0 : a.getD j 0 = b.getD j 0
    ·refine .inr ⟨(), by rw [take_succ 0 hj, take_succ 0 (by omega), hI, h0], fun h => Ev.rG (by omega) (Ev.rG (by omega) (Ev.rG (by omega) ?_))⟩
     simp only [Int.toNat_natCast, if_pos h0, tU (show j < 9223372036854775807 by omega)]
     exact h
    ·refine .inl (Ev.rG (by omega) (Ev.rG (by omega) (Ev.rG (by omega) ?_)))
     rw [if_neg (fun e : a = b => h0 (by rw [e]))]
     simp only [Int.toNat_natCast, if_neg h0]
     exact Ev.pure _
   ·simp only [tE.l1]
    rw [List.take_length, List.take_of_length_le (by omega)] at hI
    rw [if_pos hI]
    exact Ev.rZ (by omega) (Ev.pure _)
  refine Ev.bind hloop ?_
  by_cases e : a = b
  ·simp only [if_pos e, decide_eq_true e, vS]; exact Ev.pure _
  ·simp only [if_neg e, decide_eq_false e, vS]; exact Ev.pure _
 ·rw [decide_eq_false (fun e => he (by rw [e]))]
  exact Ev.rZ (by omega) (Ev.pure _)
theorem Gr {l : List rA} (hl : rI l) {i : Nat} (hi : i < l.length) : Ev (fun k => tR.f k l (i : Int)) (!decide ((l.getD i rA.z).Worker ∈ who (l.take i) (l.getD i rA.z).Value)) := by
 unfold tR.f
 have hloop : Ev (fun k => tR.l1 k l (i : Int) 0) (if (l.getD i rA.z).Worker ∈ who (l.take i) (l.getD i rA.z).Value then Sum.inr false else Sum.inl ()) := by
  refine Ev.loop (n := i) (F := fun k j (_ : Unit) => tR.l1 k l (i : Int) (j : Int)) (fun j _ => ¬ (l.getD i rA.z).Worker ∈ who (l.take j) (l.getD i rA.z).Value) (fun j _ hj hI => ?_) (fun _ hI => ?_) () (by simp [who])
  ·simp only [tR.l1, Int.toNat_natCast, tU (show j < 9223372036854775807 by have := hl.1; omega)]
   have hv := (hl.at (show j < l.length by omega)).1
   by_cases h1 : (l.getD j rA.z).Worker = (l.getD i rA.z).Worker
   ·by_cases h2 : (l.getD j rA.z).Value = (l.getD i rA.z).Value
    ·rw [if_pos ((Gp _ _ _).2 ⟨l.getD j rA.z, (Ds rA.z (by omega)).2 ⟨j, hj, rfl⟩, h2, h1⟩)]
     left
     repeat' (first | assumption | exact Ev.pure _ | apply Ev.rG (by first | assumption | omega | exact trivial | exact Bool.false_ne_true | exact rfl | (simp only [decide_eq_true_eq]; assumption) | (simp only [decide_eq_true_eq]; omega)) | apply Ev.rZ (by first | assumption | omega | exact trivial | exact Bool.false_ne_true | exact rfl | (simp only [decide_eq_true_eq]; assumption) | (simp only [decide_eq_true_eq]; omega)) | (apply Ev.bind (zG _ _ (by omega)); try dsimp only; try simp only [Int.toNat_natCast]) | exact (zG _ _ (by omega)) | apply Ev.bind)
    ·refine .inr ⟨(), ?_, fun h => ?_⟩
     ·rw [take_succ rA.z (by omega), Bc, if_neg h2]; exact hI
     repeat' (first | assumption | exact Ev.pure _ | apply Ev.rG (by first | assumption | omega | exact trivial | exact Bool.false_ne_true | exact rfl | (simp only [decide_eq_true_eq]; assumption) | (simp only [decide_eq_true_eq]; omega)) | apply Ev.rZ (by first | assumption | omega | exact trivial | exact Bool.false_ne_true | exact rfl | (simp only [decide_eq_true_eq]; assumption) | (simp only [decide_eq_true_eq]; omega)) | (apply Ev.bind (zG _ _ (by omega)); try dsimp only; try simp only [Int.toNat_natCast]) | exact (zG _ _ (by omega)) | apply Ev.bind)
   ·refine .inr ⟨(), ?_, fun h => ?_⟩
    ·rw [take_succ rA.z (by omega), Bc]
     split
     ·rw [List.mem_append, List.mem_singleton]
      rintro (h | h)
      ·exact hI h
      ·exact h1 h.symm
     ·exact hI
    repeat' (first | assumption | exact Ev.pure _ | apply Ev.rG (by first | assumption | omega | exact trivial | exact Bool.false_ne_true | exact rfl | (simp only [decide_eq_true_eq]; assumption) | (simp only [decide_eq_true_eq]; omega)) | apply Ev.rZ (by first | assumption | omega | exact trivial | exact Bool.false_ne_true | exact rfl | (simp only [decide_eq_true_eq]; assumption) | (simp only [decide_eq_true_eq]; omega)) | apply Ev.bind)
  ·simp only [tR.l1]
   rw [if_neg hI]
   exact Ev.rZ (by omega) (Ev.pure _)
 refine Ev.bind hloop ?_
 by_cases h : (l.getD i rA.z).Worker ∈ who (l.take i) (l.getD i rA.z).Value
 ·rw [if_pos h, decide_eq_true h]; exact Ev.pure _
 ·rw [if_neg h, decide_eq_false h]; exact Ev.pure _
theorem Bt {l : List rA} (hl : rI l) {v : List Int} (hv : Byt v) : Ev (fun k => tO.f k l v) (cnt l v : Int) := by
 unfold tO.f
 have hloop : Ev (fun k => tO.l1 k l v 0 0) (cnt l v : Int) := by
  refine Ev.loop (n := l.length) (F := fun k j (s : Int) => tO.l1 k l v s (j : Int)) (fun j s => s = (cnt (l.take j) v : Int)) (fun j s hj hI => ?_) (fun s hI => ?_) 0 (by simp [cnt, who, ded])
  ·simp only [tO.l1, Int.toNat_natCast, tU (show j < 9223372036854775807 by have := hl.1; omega)]
   have hvj := (hl.at hj).1
   have hcl : cnt (l.take j) v ≤ 60 := by
    have h1 := EG (who (l.take j) v)
    have h2 : (who (l.take j) v).length ≤ (l.take j).length := by unfold who; rw [List.length_map]; exact List.length_filter_le _ _
    rw [List.length_take] at h2
    have := hl.1
    unfold cnt
    omega
   subst hI
   by_cases h1 : (l.getD j rA.z).Value = v
   ·by_cases h2 : (l.getD j rA.z).Worker ∈ who (l.take j) (l.getD j rA.z).Value
    ·have hf := Gr hl hj
     rw [decide_eq_true h2, Bool.not_true] at hf
     refine .inr ⟨(cnt (l.take j) v : Int), ?_, fun h => ?_⟩
     ·unfold cnt
      rw [take_succ rA.z hj, Bc, if_pos h1, AN, if_pos (by rw [Cc, ← h1]; exact h2)]
     have hs := zG (l.getD j rA.z).Value v (by omega)
     rw [decide_eq_true h1] at hs
     repeat' (first | assumption | exact Ev.pure _ | apply Ev.rG (by first | assumption | omega | exact trivial | exact Bool.false_ne_true | exact rfl | (simp only [decide_eq_true_eq]; assumption) | (simp only [decide_eq_true_eq]; omega)) | apply Ev.rZ (by first | assumption | omega | exact trivial | exact Bool.false_ne_true | exact rfl | (simp only [decide_eq_true_eq]; assumption) | (simp only [decide_eq_true_eq]; omega)) | (apply Ev.bind (hs); try dsimp only; try simp only [Int.toNat_natCast]) | (apply Ev.bind (hf); try dsimp only; try simp only [Int.toNat_natCast]) | exact (hs) | exact (hf) | apply Ev.bind)
    ·have hf := Gr hl hj
     rw [decide_eq_false h2, Bool.not_false] at hf
     refine .inr ⟨((cnt (l.take j) v + 1 : Nat) : Int), ?_, fun h => ?_⟩
     ·unfold cnt
      rw [take_succ rA.z hj, Bc, if_pos h1, AN, if_neg (by rw [Cc, ← h1]; exact h2), List.length_append]
      rfl
     have hs := zG (l.getD j rA.z).Value v (by omega)
     rw [decide_eq_true h1] at hs
     rw [← tU (show cnt (l.take j) v < 9223372036854775807 by omega)] at h
     repeat' (first | assumption | exact Ev.pure _ | apply Ev.rG (by first | assumption | omega | exact trivial | exact Bool.false_ne_true | exact rfl | (simp only [decide_eq_true_eq]; assumption) | (simp only [decide_eq_true_eq]; omega)) | apply Ev.rZ (by first | assumption | omega | exact trivial | exact Bool.false_ne_true | exact rfl | (simp only [decide_eq_true_eq]; assumption) | (simp only [decide_eq_true_eq]; omega)) | (apply Ev.bind (hs); try dsimp only; try simp only [Int.toNat_natCast]) | (apply Ev.bind (hf); try dsimp only; try simp only [Int.toNat_natCast]) | exact (hs) | exact (hf) | apply Ev.bind)
   ·refine .inr ⟨(cnt (l.take j) v : Int), ?_, fun h => ?_⟩
    ·unfold cnt
     rw [take_succ rA.z hj, Bc, if_neg h1]
    have hs := zG (l.getD j rA.z).Value v (by omega)
    rw [decide_eq_false h1] at hs
    repeat' (first | assumption | exact Ev.pure _ | apply Ev.rG (by first | assumption | omega | exact trivial | exact Bool.false_ne_true | exact rfl | (simp only [decide_eq_true_eq]; assumption) | (simp only [decide_eq_true_eq]; omega)) | apply Ev.rZ (by first | assumption | omega | exact trivial | exact Bool.false_ne_true | exact rfl | (simp only [decide_eq_true_eq]; assumption) | (simp only [decide_eq_true_eq]; omega)) | (apply Ev.bind (hs); try dsimp only; try simp only [Int.toNat_natCast]) | exact (hs) | apply Ev.bind)
  ·simp only [tO.l1]
   rw [List.take_length] at hI
   subst hI
   exact Ev.rZ (by omega) (Ev.pure _)
 repeat' (first | assumption | exact Ev.pure _ | apply Ev.rG (by first | assumption | omega | exact trivial | exact Bool.false_ne_true | exact rfl | (simp only [decide_eq_true_eq]; assumption) | (simp only [decide_eq_true_eq]; omega)) | apply Ev.rZ (by first | assumption | omega | exact trivial | exact Bool.false_ne_true | exact rfl | (simp only [decide_eq_true_eq]; assumption) | (simp only [decide_eq_true_eq]; omega)) | (apply Ev.bind (hloop); try dsimp only; try simp only [Int.toNat_natCast]) | exact (hloop) | apply Ev.bind)
theorem FI {l : List rA} (hl : rI l) (f : Int) : Ev (fun k => tA.f k l f) (yO l f) := by
 unfold tA.f yO
 by_cases hf : f < 0
 ·rw [if_pos hf]
  have hloop : Ev (fun k => tA.l1 k l f 0) (Sum.inl ()) := by
   refine Ev.succ ?_
   simp only [tA.l1]
   refine Ev.rZ ?_ (Ev.pure _)
   rw [decide_eq_false (show ¬ f ≥ 0 by omega), Bool.and_false]
   simp
  exact Ev.bind hloop (Ev.pure _)
 ·rw [if_neg hf]
  have hloop : Ev (fun k => tA.l1 k l f 0) (if (dec l f l).2 = true then Sum.inr (dec l f l) else Sum.inl ()) := by
   refine Ev.loop (n := l.length) (F := fun k j (_ : Unit) => tA.l1 k l f (j : Int)) (fun j _ => dec l f (l.drop j) = dec l f l) (fun j _ hj hI => ?_) (fun _ hI => ?_) () rfl
   ·simp only [tA.l1, Int.toNat_natCast, tU (show j < 9223372036854775807 by have := hl.1; omega), decide_eq_true (show (j : Int) < (l.length : Int) by omega), decide_eq_true (show f ≥ 0 by omega), Bool.true_and]
    rw [drop_cons rA.z hj, dec] at hI
    by_cases hc : (cnt l (l.getD j rA.z).Value : Int) > f
    ·rw [if_pos hc] at hI
     left
     rw [← hI]
     repeat' (first | assumption | exact Ev.pure _ | apply Ev.rG (by first | assumption | omega | exact trivial | exact Bool.false_ne_true | exact rfl | (simp only [decide_eq_true_eq]; assumption) | (simp only [decide_eq_true_eq]; omega)) | apply Ev.rZ (by first | assumption | omega | exact trivial | exact Bool.false_ne_true | exact rfl | (simp only [decide_eq_true_eq]; assumption) | (simp only [decide_eq_true_eq]; omega)) | (apply Ev.bind (Bt hl (hl.at hj)); try dsimp only; try simp only [Int.toNat_natCast]) | exact (Bt hl (hl.at hj)) | apply Ev.bind)
    ·rw [if_neg hc] at hI
     refine .inr ⟨(), hI, fun h => ?_⟩
     repeat' (first | assumption | exact Ev.pure _ | apply Ev.rG (by first | assumption | omega | exact trivial | exact Bool.false_ne_true | exact rfl | (simp only [decide_eq_true_eq]; assumption) | (simp only [decide_eq_true_eq]; omega)) | apply Ev.rZ (by first | assumption | omega | exact trivial | exact Bool.false_ne_true | exact rfl | (simp only [decide_eq_true_eq]; assumption) | (simp only [decide_eq_true_eq]; omega)) | (apply Ev.bind (Bt hl (hl.at hj)); try dsimp only; try simp only [Int.toNat_natCast]) | exact (Bt hl (hl.at hj)) | apply Ev.bind)
   ·simp only [tA.l1]
    rw [List.drop_length, dec] at hI
    rw [← hI]
    refine Ev.rZ ?_ (Ev.pure _)
    simp
  refine Ev.bind hloop ?_
  have hn : ∀ r : List rA, (dec l f r).2 ≠ true → dec l f r = ([], false) := fun r => by
   induction r with
   | nil => intro _; rfl
   | cons c r ih =>
    unfold dec
    split
    ·intro h; exact absurd rfl h
    ·exact ih
  by_cases h : (dec l f l).2 = true
  ·rw [if_pos h]; exact Ev.pure _
  ·rw [if_neg h, hn l h]; exact Ev.pure _
theorem HE {a : List rA} (ha : rI a) : Ev (fun k => tW.f k a a) true := by
 unfold tW.f
 have h60 := ha.1
 have hloop : Ev (fun k => tW.l1 k a a 0) (Sum.inl ()) := by
  refine Ev.loop (n := a.length) (F := fun k j (_ : Unit) => tW.l1 k a a (j : Int)) (fun j _ => True) (fun j _ hj hI => ?_) (fun _ hI => ?_) () trivial
  ·have hs := zG (a.getD j rA.z).Value (a.getD j rA.z).Value (by have := (ha.at hj).1; omega)
   rw [decide_eq_true rfl] at hs
   refine .inr ⟨(), trivial, fun h => ?_⟩
   simp only [tW.l1, Int.toNat_natCast, tU (show j < 9223372036854775807 by omega)]
   refine Ev.rG (by omega) (Ev.rG (by omega) (Ev.rG (by omega) (Ev.bind (a := false) (Ev.rG trivial (Ev.bind hs (Ev.pure _))) (Ev.rZ (by simp) h))))
  ·simp only [tW.l1]
   exact Ev.rZ (by omega) (Ev.pure _)
 exact Ev.rG rfl (Ev.bind hloop (Ev.pure _))
end Go.Proofs.YtobdpbnadjkhiaaGreat.Ta
