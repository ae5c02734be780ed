/- The closed run's words in those of the library: lists, tries, numbers, options. -/
import Derived.Test.YtnlpmnegjgjiiaaGreatDoorEa
import Derived.Test.YtnlpmnegjgjiiaaGreatDoorLn
namespace Go.CE
open Go
set_option linter.all false
section
universe u v
variable {α : Type u} {β : Type v}
theorem nth_eq (l : List α) : ∀ k, nth l k = l[k]? := by
  induction l with
  | nil => intro k; rfl
  | cons h t ih =>
    intro k
    cases k with
    | zero => rfl
    | succ k => exact ih k
theorem drp_eq (o : Nat) : ∀ l : List α, drp o l = l.drop o := by
  induction o with
  | zero => intro l; rfl
  | succ o ih =>
    intro l
    cases l with
    | nil => rfl
    | cons h t => exact ih t
theorem len_eq (l : List α) : len l = l.length := by
  induction l with
  | nil => rfl
  | cons h t ih => exact congrArg Nat.succ ih
theorem app_eq (a b : List α) : app a b = a ++ b := by
  induction a with
  | nil => rfl
  | cons h t ih => exact congrArg (List.cons h) ih
theorem mp_eq (f : α → β) (l : List α) : mp f l = l.map f := by
  induction l with
  | nil => rfl
  | cons h t ih => exact congrArg (List.cons (f h)) ih
theorem tk_some {n : Nat} : ∀ {l r : List α}, tk n l = some r → r = l.take n ∧ n ≤ l.length := by
  induction n with
  | zero =>
    intro l r h
    cases h
    exact ⟨rfl, Nat.zero_le _⟩
  | succ n ih =>
    intro l r h
    cases l with
    | nil => cases h
    | cons a t =>
      have h' : (Option.rec none (fun r => some (a :: r)) (tk n t) : Option (List α)) = some r := h
      cases hq : tk n t with
      | none => rw [hq] at h'; cases h'
      | some q =>
        rw [hq] at h'
        cases h'
        obtain ⟨rfl, h2⟩ := ih hq
        exact ⟨rfl, Nat.succ_le_succ h2⟩
theorem over_some {cs : List α} : ∀ {l r : List α}, over cs l = some r → cs.length ≤ l.length ∧ r = cs ++ l.drop cs.length := by
  induction cs with
  | nil =>
    intro l r h
    cases h
    exact ⟨Nat.zero_le _, rfl⟩
  | cons c cs ih =>
    intro l r h
    cases l with
    | nil => cases h
    | cons a t =>
      have h' : (Option.rec none (fun r => some (c :: r)) (over cs t) : Option (List α)) = some r := h
      cases hq : over cs t with
      | none => rw [hq] at h'; cases h'
      | some q =>
        rw [hq] at h'
        cases h'
        obtain ⟨h1, rfl⟩ := ih hq
        exact ⟨Nat.succ_le_succ h1, rfl⟩
theorem put_some {o : Nat} {cs : List α} : ∀ {l r : List α}, put o cs l = some r → o + cs.length ≤ l.length ∧ r = l.take o ++ cs ++ l.drop (o + cs.length) := by
  induction o with
  | zero =>
    intro l r h
    obtain ⟨h1, rfl⟩ := over_some (cs := cs) h
    simpa using h1
  | succ o ih =>
    intro l r h
    cases l with
    | nil => cases h
    | cons a t =>
      have h' : (Option.rec none (fun r => some (a :: r)) (put o cs t) : Option (List α)) = some r := h
      cases hq : put o cs t with
      | none => rw [hq] at h'; cases h'
      | some q =>
        rw [hq] at h'
        cases h'
        obtain ⟨h1, rfl⟩ := ih hq
        refine ⟨by simp only [List.length_cons]; omega, ?_⟩
        rw [show o + 1 + cs.length = (o + cs.length) + 1 by omega]
        simp
theorem put_none {o : Nat} {cs : List α} : ∀ {l : List α}, put o cs l = none → l.length < o + cs.length := by
  induction o with
  | zero =>
    induction cs with
    | nil => intro l h; cases h
    | cons c cs ih =>
      intro l h
      cases l with
      | nil => simp
      | cons a t =>
        have h' : (Option.rec none (fun r => some (c :: r)) (over cs t) : Option (List α)) = none := h
        cases hq : over cs t with
        | none =>
          have := ih (l := t) hq
          simp only [List.length_cons]; omega
        | some q => rw [hq] at h'; cases h'
  | succ o ih =>
    intro l h
    cases l with
    | nil => simp only [List.length_nil]; omega
    | cons a t =>
      have h' : (Option.rec none (fun r => some (a :: r)) (put o cs t) : Option (List α)) = none := h
      cases hq : put o cs t with
      | none =>
        have := ih hq
        simp only [List.length_cons]; omega
      | some q => rw [hq] at h'; cases h'
end
section
variable {α β : Type}
theorem look_cons {t : Nat} {p : Nat × α} {l : List (Nat × α)} : look (p :: l) t = if p.1 = t then some p.2 else look l t := by
  show cond (Nat.beq p.1 t) (some p.2) (look l t) = _
  by_cases h : p.1 = t
  · subst h; rw [Nat.beq_refl, if_pos rfl]; rfl
  · rw [if_neg h]
    have : Nat.beq p.1 t = false := by
      rw [Bool.eq_false_iff]; intro hb; exact h (Nat.eq_of_beq_eq_true hb)
    rw [this]; rfl
theorem look_rem {t s : Nat} {l : List (Nat × α)} (hs : t ≠ s) : look (rem t l) s = look l s := by
  induction l with
  | nil => rfl
  | cons p r ih =>
    show look (cond (Nat.beq p.1 t) r (p :: rem t r)) s = _
    by_cases h : p.1 = t
    · rw [h, Nat.beq_refl]
      show look r s = _
      rw [look_cons, if_neg (by rw [h]; exact hs)]
    · have hb : Nat.beq p.1 t = false := by
        rw [Bool.eq_false_iff]; intro hb; exact h (Nat.eq_of_beq_eq_true hb)
      rw [hb]
      show look (p :: rem t r) s = _
      rw [look_cons, look_cons, ih]
theorem look_upd {t s : Nat} {v : α} {l : List (Nat × α)} : look (upd t v l) s = if t = s then some v else look l s := by
  show look ((t, v) :: rem t l) s = _
  rw [look_cons]
  by_cases h : t = s
  · simp [h]
  · simp only [if_neg h]
    exact look_rem h
theorem look_mem {t : Nat} {l : List (Nat × α)} {v : α} (h : look l t = some v) : (t, v) ∈ l := by
  induction l with
  | nil => cases h
  | cons p r ih =>
    rw [look_cons] at h
    split at h
    · rename_i hp
      cases h
      subst hp
      exact List.mem_cons_self
    · exact List.mem_cons_of_mem _ (ih h)
theorem mem_rem {t : Nat} {l : List (Nat × α)} {p : Nat × α} (h : p ∈ rem t l) : p ∈ l := by
  induction l with
  | nil => cases h
  | cons q r ih =>
    have h' : p ∈ cond (Nat.beq q.1 t) r (q :: rem t r) := h
    cases hb : Nat.beq q.1 t with
    | true =>
      rw [hb] at h'
      exact List.mem_cons_of_mem _ h'
    | false =>
      rw [hb] at h'
      rcases List.mem_cons.1 h' with rfl | h'
      · exact List.mem_cons_self
      · exact List.mem_cons_of_mem _ (ih h')
theorem mem_upd {t : Nat} {v : α} {l : List (Nat × α)} {p : Nat × α} (h : p ∈ upd t v l) : p.1 = t ∨ p ∈ l := by
  rcases List.mem_cons.1 (show p ∈ (t, v) :: rem t l from h) with rfl | h'
  · exact .inl rfl
  · exact .inr (mem_rem h')
theorem ob_some {q : Option α} {f : α → Option β} {r : β} : ob q f = some r ↔ ∃ a, q = some a ∧ f a = some r := by
  cases q with
  | none => exact ⟨fun h => (by cases h), fun ⟨a, h, _⟩ => by cases h⟩
  | some a => exact ⟨fun h => ⟨a, rfl, h⟩, fun ⟨b, h1, h2⟩ => by cases h1; exact h2⟩
theorem cond_some {b : Bool} {x : Option α} {r : α} : (cond b x none) = some r ↔ b = true ∧ x = some r := by
  cases b with
  | true => exact ⟨fun h => ⟨rfl, h⟩, fun h => h.2⟩
  | false => exact ⟨fun h => (by cases h), fun h => by cases h.1⟩
theorem condn_some {b : Bool} {x : Option α} {r : α} : (cond b none x) = some r ↔ b = false ∧ x = some r := by
  cases b with
  | false => exact ⟨fun h => ⟨rfl, h⟩, fun h => h.2⟩
  | true => exact ⟨fun h => (by cases h), fun h => by cases h.1⟩
theorem cond_t {b : Bool} {x : Bool} : (cond b x false) = true ↔ b = true ∧ x = true := by cases b <;> simp
theorem oe_t {q : Option α} {f : α → Bool} : oe q false f = true ↔ ∃ a, q = some a ∧ f a = true := by
  cases q with
  | none => exact ⟨fun h => (by cases h), fun ⟨a, h, _⟩ => by cases h⟩
  | some a => exact ⟨fun h => ⟨a, rfl, h⟩, fun ⟨b, h1, h2⟩ => by cases h1; exact h2⟩
theorem or2_eq (a b : Bool) : or2 a b = (a || b) := by cases a <;> rfl
theorem mpo_some {f : α → Option β} : ∀ {l : List α} {r : List β}, mpo f l = some r → r.length = l.length ∧ ∀ (i : Nat) (x : α), l[i]? = some x → ∃ y, r[i]? = some y ∧ f x = some y := by
  intro l
  induction l with
  | nil =>
    intro r h
    cases h
    exact ⟨rfl, fun i x h => by simp at h⟩
  | cons a t ih =>
    intro r h
    have h' : ob (f a) (fun x => ob (mpo f t) fun r => some (x :: r)) = some r := h
    obtain ⟨x, hx, h'⟩ := ob_some.1 h'
    obtain ⟨q, hq, h'⟩ := ob_some.1 h'
    cases h'
    obtain ⟨h1, h2⟩ := ih hq
    refine ⟨by simp [h1], fun i y hy => ?_⟩
    cases i with
    | zero =>
      simp at hy
      subst hy
      exact ⟨x, rfl, hx⟩
    | succ i => exact h2 i y (by simpa using hy)
theorem rep_eq (n : Nat) (l : List V) : rep n l = (List.replicate n l).flatten := by
  induction n with
  | zero => rfl
  | succ n ih =>
    show app l (rep n l) = _
    rw [app_eq, ih]
    rfl
end
theorem nbeq {a b : Nat} : Nat.beq a b = true ↔ a = b := ⟨Nat.eq_of_beq_eq_true, fun h => by subst h; exact Nat.beq_refl _⟩
theorem nbeq_f {a b : Nat} : Nat.beq a b = false ↔ a ≠ b := by
  rw [← Bool.not_eq_true, nbeq]
/-! Tries. -/
namespace Tr
variable {α : Type}
theorem get_n (l r : Tr α) (w : Option α) (k : Nat) : (Tr.n l w r).get k = cond (Nat.beq k 0) w (cond (Nat.beq (Nat.land k 1) 1) (l.get (Nat.shiftRight k 1)) (r.get (Nat.pred (Nat.shiftRight k 1)))) := rfl
theorem get_e (k : Nat) : (Tr.e : Tr α).get k = none := rfl
theorem half (n : Nat) : Nat.shiftRight n 1 = n / 2 := by show n >>> 1 = _; rw [Nat.shiftRight_eq_div_pow]
theorem par (n : Nat) : Nat.land n 1 = n % 2 := by show n &&& 1 = _; exact Nat.and_one_is_mod n
theorem get_sng (f : Nat) : ∀ (k : Nat) (v : α) (j : Nat), k ≤ f → (sng f k v).get j = if k = j then some v else none := by
  induction f with
  | zero =>
    intro k v j hk
    obtain rfl : k = 0 := by omega
    show (Tr.n .e (some v) .e).get j = _
    rw [get_n]
    cases j with
    | zero => rfl
    | succ j => 
      rw [if_neg (by omega)]
      cases hb : Nat.beq (Nat.land (j + 1) 1) 1 <;> rfl
  | succ f ih =>
    intro k v j hk
    show (cond (Nat.beq k 0) (Tr.n .e (some v) .e) (cond (Nat.beq (Nat.land k 1) 1) (Tr.n (sng f (Nat.shiftRight k 1) v) none .e) (Tr.n .e none (sng f (Nat.pred (Nat.shiftRight k 1)) v)))).get j = _
    by_cases h0 : k = 0
    · subst h0
      show (Tr.n .e (some v) .e).get j = _
      rw [get_n]
      cases j with
      | zero => rfl
      | succ j =>
        rw [if_neg (by omega)]
        cases hb : Nat.beq (Nat.land (j + 1) 1) 1 <;> rfl
    · rw [nbeq_f.2 h0, cond_false]
      rw [half, par]
      by_cases h1 : k % 2 = 1
      · rw [nbeq.2 h1, cond_true, get_n]
        rw [half, par]
        cases j with
        | zero => rw [if_neg h0]; rfl
        | succ j =>
          rw [nbeq_f.2 (by omega), cond_false]
          by_cases h2 : (j + 1) % 2 = 1
          · rw [nbeq.2 h2, cond_true, ih _ _ _ (by omega)]
            by_cases h3 : k = j + 1
            · rw [if_pos h3, if_pos (by rw [h3])]
            · rw [if_neg h3, if_neg (by omega)]
          · rw [nbeq_f.2 h2, cond_false, if_neg (by omega)]
            rfl
      · rw [nbeq_f.2 h1, cond_false, get_n]
        rw [half, par]
        cases j with
        | zero => rw [if_neg h0]; rfl
        | succ j =>
          rw [nbeq_f.2 (by omega), cond_false]
          by_cases h2 : (j + 1) % 2 = 1
          · rw [nbeq.2 h2, cond_true, if_neg (by omega)]
            rfl
          · rw [nbeq_f.2 h2, cond_false, ih _ _ _ (by show k / 2 - 1 ≤ f; omega)]
            by_cases h3 : k = j + 1
            · rw [if_pos h3, if_pos (by rw [h3])]
            · rw [if_neg h3, if_neg (by show ¬ (k / 2 - 1 = (j + 1) / 2 - 1); omega)]
theorem get_set (t : Tr α) : ∀ (k : Nat) (v : α) (j : Nat), (t.set k v).get j = if k = j then some v else t.get j := by
  induction t with
  | e =>
    intro k v j
    show (sng k k v).get j = _
    rw [get_sng k k v j (Nat.le_refl _)]
    rfl
  | n l w r ihl ihr =>
    intro k v j
    show (cond (Nat.beq k 0) (Tr.n l (some v) r) (cond (Nat.beq (Nat.land k 1) 1) (Tr.n (l.set (Nat.shiftRight k 1) v) w r) (Tr.n l w (r.set (Nat.pred (Nat.shiftRight k 1)) v)))).get j = _
    by_cases h0 : k = 0
    · subst h0
      show (Tr.n l (some v) r).get j = _
      rw [get_n, get_n]
      cases j with
      | zero => rfl
      | succ j => rw [if_neg (by omega)]; rfl
    · rw [nbeq_f.2 h0, cond_false, half, par]
      by_cases h1 : k % 2 = 1
      · rw [nbeq.2 h1, cond_true, get_n, get_n, half, par]
        cases j with
        | zero => rw [if_neg h0]; rfl
        | succ j =>
          rw [nbeq_f.2 (by omega), cond_false, cond_false]
          by_cases h2 : (j + 1) % 2 = 1
          · rw [nbeq.2 h2, cond_true, cond_true, ihl]
            by_cases h3 : k = j + 1
            · rw [if_pos h3, if_pos (by rw [h3])]
            · rw [if_neg h3, if_neg (by omega)]
          · rw [nbeq_f.2 h2, cond_false, cond_false, if_neg (by omega)]
      · rw [nbeq_f.2 h1, cond_false, get_n, get_n, half, par]
        cases j with
        | zero => rw [if_neg h0]; rfl
        | succ j =>
          rw [nbeq_f.2 (by omega), cond_false, cond_false]
          by_cases h2 : (j + 1) % 2 = 1
          · rw [nbeq.2 h2, cond_true, cond_true, if_neg (by omega)]
          · rw [nbeq_f.2 h2, cond_false, cond_false, ihr]
            by_cases h3 : k = j + 1
            · rw [if_pos h3, if_pos (by rw [h3])]
            · rw [if_neg h3, if_neg (by show ¬ (k / 2 - 1 = (j + 1) / 2 - 1); omega)]
end Tr
/-! Numbers. -/
theorem mkI_eq (k : IntKind) (n : Int) : mkI k n = .i k n := by cases n <;> rfl
theorem knum_inj {k j : IntKind} (h : Nat.beq (knum k) (knum j) = true) : k = j := by
  have h := nbeq.1 h
  cases k <;> cases j <;> first | rfl | (exact absurd h (by decide))
theorem wrap_id {k : IntKind} {n : Int} (h0 : -(klow k : Int) ≤ n) (h1 : n < klim k) : k.wrap n = n := by
  cases k <;> simp only [klow, klim] at h0 h1 <;> simp [IntKind.wrap, IntKind.bits, IntKind.signed] <;> omega
theorem natK_eq (k : IntKind) (n : Nat) : natK k n = .i k (k.wrap (n : Int)) := by
  show cond (Nat.blt n (klim k)) (V.i k (n : Int)) (mkI k (k.wrap (n : Int))) = _
  cases h : Nat.blt n (klim k) with
  | true =>
    rw [Nat.blt_eq] at h
    rw [wrap_id (by omega) (by omega)]
    rfl
  | false => rw [mkI_eq]; rfl
theorem intK_eq (k : IntKind) (n : Int) : intK k n = .i k (k.wrap n) := by
  cases n with
  | ofNat m => exact natK_eq k m
  | negSucc m =>
    show cond (Nat.blt m (klow k)) (V.i k (.negSucc m)) (mkI k (k.wrap (.negSucc m))) = _
    cases h : Nat.blt m (klow k) with
    | true =>
      rw [Nat.blt_eq] at h
      rw [wrap_id (by omega) (by omega)]
      rfl
    | false => rw [mkI_eq]; rfl
theorem ltI_eq (x y : Int) : ltI x y = decide (x < y) := by
  cases x with
  | ofNat a =>
    cases y with
    | ofNat b =>
      show Nat.blt a b = _
      rw [Bool.eq_iff_iff, Nat.blt_eq, decide_eq_true_iff]
      exact Int.ofNat_lt.symm
    | negSucc b =>
      show false = _
      symm
      rw [decide_eq_false_iff_not]
      show ¬ ((a : Int) < Int.negSucc b)
      omega
  | negSucc a =>
    cases y with
    | ofNat b =>
      show true = _
      symm
      rw [decide_eq_true_iff]
      show Int.negSucc a < (b : Int)
      omega
    | negSucc b =>
      show Nat.blt b a = _
      rw [Bool.eq_iff_iff, Nat.blt_eq, decide_eq_true_iff]
      omega
theorem eqI_eq (x y : Int) : eqI x y = decide (x = y) := by
  cases x with
  | ofNat a =>
    cases y with
    | ofNat b =>
      show Nat.beq a b = _
      rw [Bool.eq_iff_iff, nbeq, decide_eq_true_iff]
      exact ⟨fun h => by rw [h], fun h => by injection h⟩
    | negSucc b => exact (decide_eq_false (by intro h; cases h)).symm
  | negSucc a =>
    cases y with
    | ofNat b => exact (decide_eq_false (by intro h; cases h)).symm
    | negSucc b =>
      show Nat.beq a b = _
      rw [Bool.eq_iff_iff, nbeq, decide_eq_true_iff]
      exact ⟨fun h => by rw [h], fun h => by injection h⟩
theorem eqB_eq (a b : Bool) : eqB a b = (a == b) := by cases a <;> cases b <;> rfl
theorem eqL_eq : ∀ a b : List Nat, eqL a b = decide (a = b) := by
  intro a
  induction a with
  | nil => intro b; cases b <;> rfl
  | cons h t ih =>
    intro b
    cases b with
    | nil => rfl
    | cons k r =>
      show cond (Nat.beq h k) (eqL t r) false = _
      rw [ih]
      by_cases e : h = k
      · subst e; rw [Nat.beq_refl, cond_true]; simp
      · rw [nbeq_f.2 e, cond_false]; simp [e]
theorem natI_some {n : Int} {m : Nat} : natI n = some m ↔ n = (m : Int) := by
  cases n with
  | ofNat a => exact ⟨fun h => by cases h; rfl, fun h => by rw [show a = m from Int.ofNat.inj h]; rfl⟩
  | negSucc a => constructor <;> (intro h; cases h)
/-! What a value is. -/
theorem intOf_some {v : V} {q : IntKind × Int} : intOf v = some q ↔ v = .i q.1 q.2 := by
  cases v <;> first | (constructor <;> intro h <;> cases h; done) | (obtain ⟨a, b⟩ := q; constructor <;> intro h <;> cases h <;> rfl)
theorem boolOf_some {v : V} {q : Bool} : boolOf v = some q ↔ v = .b q := by
  cases v <;> first | (constructor <;> intro h <;> cases h; done) | (constructor <;> intro h <;> cases h <;> rfl)
theorem strOf_some {v : V} {q : List Nat} : strOf v = some q ↔ v = .s q := by
  cases v <;> first | (constructor <;> intro h <;> cases h; done) | (constructor <;> intro h <;> cases h <;> rfl)
theorem ptrOf_some {v : V} {q : Nat × Nat} : ptrOf v = some q ↔ v = .p q.1 q.2 := by
  cases v <;> first | (constructor <;> intro h <;> cases h; done) | (obtain ⟨a, b⟩ := q; constructor <;> intro h <;> cases h <;> rfl)
theorem glbOf_some {v : V} {q : Nat × Nat} : glbOf v = some q ↔ v = .g q.1 q.2 := by
  cases v <;> first | (constructor <;> intro h <;> cases h; done) | (obtain ⟨a, b⟩ := q; constructor <;> intro h <;> cases h <;> rfl)
theorem aggOf_some {v : V} {q : List V} : aggOf v = some q ↔ v = .a q := by
  cases v <;> first | (constructor <;> intro h <;> cases h; done) | (constructor <;> intro h <;> cases h <;> rfl)
theorem tupOf_some {v : V} {q : List V} : tupOf v = some q ↔ v = .t q := by
  cases v <;> first | (constructor <;> intro h <;> cases h; done) | (constructor <;> intro h <;> cases h <;> rfl)
theorem mapOf_some {v : V} {q : Nat} : mapOf v = some q ↔ v = .m q := by
  cases v <;> first | (constructor <;> intro h <;> cases h; done) | (constructor <;> intro h <;> cases h <;> rfl)
theorem slcOf_some {v : V} {q : SlV} : slcOf v = some q ↔ v = .l q.r q.o q.n q.c q.z := by
  cases v <;> first | (constructor <;> intro h <;> cases h; done) | (obtain ⟨a, b, c, d, e⟩ := q; constructor <;> intro h <;> cases h <;> rfl)
theorem fncOf_some {v : V} {q : FnV} : fncOf v = some q ↔ v = .f q.f q.a q.c := by
  cases v <;> first | (constructor <;> intro h <;> cases h; done) | (obtain ⟨a, b, c⟩ := q; constructor <;> intro h <;> cases h <;> rfl)
theorem ifcOf_some {v : V} {q : Nat × V} : ifcOf v = some q ↔ v = .n q.1 q.2 := by
  cases v <;> first | (constructor <;> intro h <;> cases h; done) | (obtain ⟨a, b⟩ := q; constructor <;> intro h <;> cases h <;> rfl)
theorem isLn_t {v : V} : isLn v = true ↔ v = .ln := by cases v <;> (constructor <;> intro h <;> first | rfl | cases h)
theorem isMn_t {v : V} : isMn v = true ↔ v = .mn := by cases v <;> (constructor <;> intro h <;> first | rfl | cases h)
theorem isNn_t {v : V} : isNn v = true ↔ v = .nn := by cases v <;> (constructor <;> intro h <;> first | rfl | cases h)
theorem isU_t {v : V} : isU v = true ↔ v = .u := by cases v <;> (constructor <;> intro h <;> first | rfl | cases h)
theorem isZ_t {v : V} : isZ v = true ↔ v = .z := by cases v <;> (constructor <;> intro h <;> first | rfl | cases h)
theorem argOf_some {v : V} {q : Nat} : argOf v = some q ↔ v = .x q := by
  cases v <;> first | (constructor <;> intro h <;> cases h; done) | (constructor <;> intro h <;> cases h <;> rfl)
theorem kindQ_some {v : V} {k : IntKind} (h : kindQ v = some k) : v = .q k ∨ ∃ n, v = .i k n := by
  cases v <;> first | (cases h; done) | (cases h; exact .inl rfl) | (cases h; exact .inr ⟨_, rfl⟩)
theorem natOf_some {v : V} {n : Nat} (h : natOf v = some n) : ∃ k, v = .i k (n : Int) := by
  obtain ⟨q, h1, h2⟩ := ob_some.1 h
  exact ⟨q.1, by rw [intOf_some.1 h1, natI_some.1 h2]⟩
/-! Types. -/
theorem fieldsD_some {d : TypeDesc} {fs : List Field} (h : fieldsD d = some fs) : d = .struct fs.toArray := by
  cases d <;> first | (cases h; done) | (cases h; simp)
theorem arrD_some {d : TypeDesc} {q : Nat × Nat} (h : arrD d = some q) : d = .array q.1 q.2 := by cases d <;> cases h <;> rfl
theorem elemD_some {d : TypeDesc} {e : Nat} (h : elemD d = some e) : d = .slice e := by cases d <;> cases h <;> rfl
theorem ptrD_some {d : TypeDesc} {e : Nat} (h : ptrD d = some e) : d = .pointer e := by cases d <;> cases h <;> rfl
theorem mapD_some {d : TypeDesc} {q : Nat × Nat} (h : mapD d = some q) : d = .map q.1 q.2 := by cases d <;> cases h <;> rfl
theorem intD_some {d : TypeDesc} {k : IntKind} (h : intD d = some k) : d = .int k := by cases d <;> cases h <;> rfl
theorem strD_t {d : TypeDesc} (h : strD d = true) : d = .string := by cases d <;> first | rfl | cases h
theorem boolD_t {d : TypeDesc} (h : boolD d = true) : d = .bool := by cases d <;> first | rfl | cases h
theorem sz_some {P : Program} {t n : Nat} (h : sz P t = some n) : (P.info? t).map (·.size) = some n := by
  obtain ⟨i, h1, h2⟩ := ob_some.1 h
  rw [h1]
  simpa using h2
theorem elz_some {P : Program} {t : Nat} {q : Nat × Nat} (h : elz P t = some q) : P.underlying t = some (.slice q.1) ∧ (P.info? q.1).map (·.size) = some q.2 := by
  obtain ⟨e, h1, h2⟩ := ob_some.1 h
  obtain ⟨d, h3, h4⟩ := ob_some.1 h1
  obtain ⟨z, h5, h6⟩ := ob_some.1 h2
  cases h6
  exact ⟨by rw [h3, elemD_some h4], sz_some h5⟩
theorem arz_some {P : Program} {t : Nat} {q : Nat × Nat × Nat} (h : arz P t = some q) : P.underlying t = some (.array q.1 q.2.2) ∧ (P.info? q.2.2).map (·.size) = some q.2.1 := by
  obtain ⟨e, h1, h2⟩ := ob_some.1 h
  obtain ⟨d, h3, h4⟩ := ob_some.1 h1
  obtain ⟨z, h5, h6⟩ := ob_some.1 h2
  cases h6
  exact ⟨by rw [h3, arrD_some h4], sz_some h5⟩
/-! What an operation comes to. -/
theorem fin_lt {M M' : Mem} {q : Option V} {v : V} (h : fin M (lt q) = .ok v M') : q = some v ∧ M' = M := by
  cases q with
  | none => cases h
  | some x => cases h; exact ⟨rfl, rfl⟩
theorem fin_mkO {M M' : Mem} {q : Option (Ob × V)} {v : V} (h : fin M (mkO q) = .ok v M') : ∃ b x, q = some (b, x) ∧ v = ao M.nx x ∧ M' = ⟨M.T.set M.nx b, M.nx + 1⟩ := by
  cases q with
  | none => cases h
  | some p => obtain ⟨b, x⟩ := p; cases h; exact ⟨b, x, rfl, rfl, rfl⟩
theorem fin_okM {M M' : Mem} {q : Option Mem} {v x : V} (h : fin M (okM x q) = .ok v M') : v = x ∧ q = some M' := by
  cases q with
  | none => cases h
  | some p => cases h; exact ⟨rfl, rfl⟩
theorem fin_lc {M M' : Mem} {q : Option Cr} {v : V} (h : fin M (lc q) = .ok v M') : q = some (.ok v M') := by
  cases q with
  | none => cases h
  | some p => rw [show p = .ok v M' from h]
theorem fin_no {M M' : Mem} {v : V} (h : fin M no = .ok v M') : False := by cases h
end Go.CE
