/- What one operation comes to: numbers, strings, equality, conversions of numbers. -/
import Derived.Test.YtnlpmnegjgjiiaaGreatDoorEd
namespace Go.CE
open Go Go.RowKit
set_option linter.all false
theorem kbits_eq (k : IntKind) : kbits k = k.bits := by cases k <;> rfl
theorem kmod_eq (k : IntKind) : kmod k = 2 ^ k.bits := by cases k <;> rfl
theorem nat2_some {f : Nat → Nat → Option V} {x y : Int} {v : V} (h : nat2 f x y = some v) : ∃ a b : Nat, x = (a : Int) ∧ y = (b : Int) ∧ f a b = some v := by
  cases x with
  | ofNat a =>
    cases y with
    | ofNat b => exact ⟨a, b, rfl, rfl, h⟩
    | negSucc b => cases h
  | negSucc a => cases h
theorem ofInt_nat (n a : Nat) : BitVec.ofInt n (a : Int) = BitVec.ofNat n a := by
  apply BitVec.eq_of_toNat_eq
  simp [BitVec.toNat_ofInt]
section
variable {P : Program} {ρ : Rh} {X : Nat → Value} {w : World} {env : WG.Env} {ty t t' : TypeId} {x y : Operand} {k k' : IntKind} {m n : Int} {v : V} {op : BinOp}
theorem shift_t {op : BinOp} (h : isShift op = true) : op = .shl ∨ op = .shr := by cases op <;> first | (exact .inl rfl) | (exact .inr rfl) | cases h
theorem binI_R (hx : WG.ev env x = .int k m) (hy : WG.ev env y = .int k' n) (hk : isShift op = true ∨ k = k') (h : binI op k m n = some v) : ∃ u, WG.Yl P env (.binOp op t x y t') ty w u w ∧ Rv ρ X v u := by
  rcases hk with hk | rfl
  · rcases shift_t hk with rfl | rfl
    · obtain ⟨a, b, rfl, rfl, h1⟩ := nat2_some (show nat2 _ m n = some v from h)
      cases h1
      refine ⟨_, WG.Yl.shl hx hy (by omega) rfl, ?_⟩
      have e : WG.shlOp k a b = k.wrap ((Nat.mul a (Nat.pow 2 (Nat.min b (kbits k))) : Nat) : Int) := by
        unfold WG.shlOp
        rw [kbits_eq]
        congr 1
      rw [natK_eq, e]
      exact .i _ _
    · obtain ⟨a, b, rfl, rfl, h1⟩ := nat2_some (show nat2 _ m n = some v from h)
      cases h1
      refine ⟨_, WG.Yl.shr hx hy (by omega) rfl, ?_⟩
      have e : WG.shrOp k a b = ((Nat.shiftRight a (Nat.min b (kbits k)) : Nat) : Int) := by
        unfold WG.shrOp
        rw [kbits_eq]
        show _ = ((a >>> min b k.bits : Nat) : Int)
        rw [Nat.shiftRight_eq_div_pow, Int.fdiv_eq_ediv_of_nonneg _ (by exact Int.le_of_lt (Int.pow_pos (by decide)))]
        rw [Int.natCast_ediv, Int.natCast_pow]
        try rfl
      rw [e]
      exact .i _ _
  · cases op with
    | add =>
      cases m with
      | ofNat a =>
        cases n with
        | ofNat b => cases h; rw [natK_eq]; exact ⟨_, WG.Yl.add hx hy rfl, .i _ _⟩
        | negSucc b => cases h; rw [intK_eq]; exact ⟨_, WG.Yl.add hx hy rfl, .i _ _⟩
      | negSucc a => cases h; rw [intK_eq]; exact ⟨_, WG.Yl.add hx hy rfl, .i _ _⟩
    | sub =>
      cases m with
      | ofNat a =>
        cases n with
        | ofNat b =>
          have h' : cond (Nat.ble b a) (some (natK k (Nat.sub a b))) (some (intK k ((a : Int) - (b : Int)))) = some v := h
          cases hb : Nat.ble b a with
          | true =>
            rw [hb] at h'
            cases h'
            have := Nat.le_of_ble_eq_true hb
            rw [natK_eq]
            refine ⟨_, WG.Yl.sub hx hy rfl, ?_⟩
            rw [show Int.ofNat a - Int.ofNat b = ((Nat.sub a b : Nat) : Int) by show (a : Int) - (b : Int) = ((a - b : Nat) : Int); omega]
            exact .i _ _
          | false => rw [hb] at h'; cases h'; rw [intK_eq]; exact ⟨_, WG.Yl.sub hx hy rfl, .i _ _⟩
        | negSucc b => cases h; rw [intK_eq]; exact ⟨_, WG.Yl.sub hx hy rfl, .i _ _⟩
      | negSucc a => cases h; rw [intK_eq]; exact ⟨_, WG.Yl.sub hx hy rfl, .i _ _⟩
    | mul => cases h; rw [intK_eq]; exact ⟨_, WG.Yl.mul hx hy rfl, .i _ _⟩
    | quo =>
      obtain ⟨h1, h2⟩ := condn_some.1 (show cond (eqI n 0) none _ = some v from h)
      cases h2
      rw [eqI_eq, decide_eq_false_iff_not] at h1
      rw [intK_eq]
      exact ⟨_, WG.Yl.quo hx hy h1 rfl, .i _ _⟩
    | rem =>
      obtain ⟨h1, h2⟩ := condn_some.1 (show cond (eqI n 0) none _ = some v from h)
      cases h2
      rw [eqI_eq, decide_eq_false_iff_not] at h1
      rw [mkI_eq]
      exact ⟨_, WG.Yl.rem hx hy h1 rfl, .i _ _⟩
    | and =>
      obtain ⟨a, b, rfl, rfl, h1⟩ := nat2_some (show nat2 _ m n = some v from h)
      cases h1
      rw [intK_eq]
      refine ⟨_, WG.Yl.and hx hy rfl, ?_⟩
      have e : WG.bitsOp .and k a b = k.wrap (Int.ofNat (Nat.land (Nat.mod a (kmod k)) (Nat.mod b (kmod k)))) := by
        show k.wrap _ = _
        rw [ofInt_nat, ofInt_nat, BitVec.toNat_and, BitVec.toNat_ofNat, BitVec.toNat_ofNat, kmod_eq]
        rfl
      rw [e]
      exact .i _ _
    | or =>
      obtain ⟨a, b, rfl, rfl, h1⟩ := nat2_some (show nat2 _ m n = some v from h)
      cases h1
      rw [intK_eq]
      refine ⟨_, WG.Yl.or hx hy rfl, ?_⟩
      have e : WG.bitsOp .or k a b = k.wrap (Int.ofNat (Nat.lor (Nat.mod a (kmod k)) (Nat.mod b (kmod k)))) := by
        show k.wrap _ = _
        rw [ofInt_nat, ofInt_nat, BitVec.toNat_or, BitVec.toNat_ofNat, BitVec.toNat_ofNat, kmod_eq]
        rfl
      rw [e]
      exact .i _ _
    | xor =>
      obtain ⟨a, b, rfl, rfl, h1⟩ := nat2_some (show nat2 _ m n = some v from h)
      cases h1
      rw [intK_eq]
      refine ⟨_, WG.Yl.xor hx hy rfl, ?_⟩
      have e : WG.bitsOp .xor k a b = k.wrap (Int.ofNat (Nat.xor (Nat.mod a (kmod k)) (Nat.mod b (kmod k)))) := by
        show k.wrap _ = _
        rw [ofInt_nat, ofInt_nat, BitVec.toNat_xor, BitVec.toNat_ofNat, BitVec.toNat_ofNat, kmod_eq]
        rfl
      rw [e]
      exact .i _ _
    | shl =>
      obtain ⟨a, b, rfl, rfl, h1⟩ := nat2_some (show nat2 _ m n = some v from h)
      cases h1
      refine ⟨_, WG.Yl.shl hx hy (by omega) rfl, ?_⟩
      have e : WG.shlOp k a b = k.wrap ((Nat.mul a (Nat.pow 2 (Nat.min b (kbits k))) : Nat) : Int) := by
        unfold WG.shlOp
        rw [kbits_eq]
        congr 1
      rw [natK_eq, e]
      exact .i _ _
    | shr =>
      obtain ⟨a, b, rfl, rfl, h1⟩ := nat2_some (show nat2 _ m n = some v from h)
      cases h1
      refine ⟨_, WG.Yl.shr hx hy (by omega) rfl, ?_⟩
      have e : WG.shrOp k a b = ((Nat.shiftRight a (Nat.min b (kbits k)) : Nat) : Int) := by
        unfold WG.shrOp
        rw [kbits_eq]
        show _ = ((a >>> min b k.bits : Nat) : Int)
        rw [Nat.shiftRight_eq_div_pow, Int.fdiv_eq_ediv_of_nonneg _ (by exact Int.le_of_lt (Int.pow_pos (by decide)))]
        rw [Int.natCast_ediv, Int.natCast_pow]
        try rfl
      rw [e]
      exact .i _ _
    | andNot => cases h
    | eql => cases h; exact ⟨_, WG.Yl.eql hx hy (eqI_eq _ _).symm, .b _⟩
    | neq => cases h; exact ⟨_, WG.Yl.neq hx hy (by rw [eqI_eq]), .b _⟩
    | lss => cases h; exact ⟨_, WG.Yl.lss hx hy (ltI_eq _ _).symm, .b _⟩
    | leq => cases h; exact ⟨_, WG.Yl.leq hx hy (by rw [ltI_eq, Bool.eq_iff_iff]; simp), .b _⟩
    | gtr => cases h; exact ⟨_, WG.Yl.gtr hx hy (ltI_eq _ _).symm, .b _⟩
    | geq => cases h; exact ⟨_, WG.Yl.geq hx hy (by rw [ltI_eq, Bool.eq_iff_iff]; simp), .b _⟩
/-! Strings. -/
theorem bytesL_inj {a b : ByteArray} : bytesL a = bytesL b ↔ a = b := by
  constructor
  · intro h
    unfold bytesL at h
    have := List.map_inj_right (f := UInt8.toNat) (fun x y h => UInt8.toNat_inj.1 h) |>.1 h
    cases a; cases b
    simp only [ByteArray.mk.injEq]
    exact Array.ext' this
  · intro h; rw [h]
theorem eqS_R (a b : ByteArray) : eqL (bytesL a) (bytesL b) = decide (a = b) := by
  rw [eqL_eq, Bool.eq_iff_iff, decide_eq_true_iff, decide_eq_true_iff]
  exact bytesL_inj
theorem toList_L (a : ByteArray) : bytesL a = a.toList.map UInt8.toNat := by rw [ByteArray.toList_eq]; rfl
theorem ltL_R : ∀ a b : List UInt8, ltL (a.map UInt8.toNat) (b.map UInt8.toNat) = Op.bytesLess a b := by
  intro a
  induction a with
  | nil => intro b; cases b <;> rfl
  | cons h t ih =>
    intro b
    cases b with
    | nil => rfl
    | cons k r =>
      show cond (Nat.blt h.toNat k.toNat) true (cond (Nat.beq h.toNat k.toNat) (ltL (t.map UInt8.toNat) (r.map UInt8.toNat)) false) = (decide (h < k) || (h == k && Op.bytesLess t r))
      rw [ih]
      have e1 : Nat.blt h.toNat k.toNat = decide (h < k) := by
        rw [Bool.eq_iff_iff, Nat.blt_eq, decide_eq_true_iff]
        exact UInt8.lt_iff_toNat_lt.symm
      have e2 : Nat.beq h.toNat k.toNat = (h == k) := by
        rw [Bool.eq_iff_iff, nbeq, beq_iff_eq]
        exact UInt8.toNat_inj
      rw [e1, e2]
      cases decide (h < k) <;> cases (h == k) <;> rfl
theorem ltS_R (a b : ByteArray) : ltL (bytesL a) (bytesL b) = Op.bytesLess a.toList b.toList := by rw [toList_L, toList_L, ltL_R]
theorem bytesLess_irr (a : List UInt8) : Op.bytesLess a a = false := by
  induction a with
  | nil => rfl
  | cons h t ih => simp [Op.bytesLess, ih]
theorem bytesLess_tot : ∀ a b : List UInt8, (Op.bytesLess a b || a == b) = !Op.bytesLess b a := by
  intro a
  induction a with
  | nil => intro b; cases b <;> simp [Op.bytesLess]
  | cons h t ih =>
    intro b
    cases b with
    | nil => simp [Op.bytesLess]
    | cons k r =>
      have := ih r
      simp only [Op.bytesLess]
      by_cases h1 : h < k
      · have h2 : ¬ k < h := by rw [UInt8.lt_iff_toNat_lt] at *; omega
        have h3 : ¬ k = h := fun e => by subst e; exact h2 h1
        simp [h1, h2, h3]
      · by_cases h2 : k < h
        · have h3 : ¬ h = k := fun e => by subst e; exact h1 h2
          simp [h1, h2, h3]
        · have h3 : h = k := by
            apply UInt8.toNat_inj.1
            rw [UInt8.lt_iff_toNat_lt] at h1 h2
            omega
          subst h3
          simp only [h1, decide_false, beq_self_eq_true, Bool.true_and, Bool.false_or]
          rw [← this]
          simp
theorem bytesL_append (a b : ByteArray) : bytesL (a ++ b) = bytesL a ++ bytesL b := by
  unfold bytesL
  rw [ByteArray.data_append, Array.toList_append, List.map_append]
theorem binS_R {a b : ByteArray} (hx : WG.ev env x = .string a) (hy : WG.ev env y = .string b) (h : binS op (bytesL a) (bytesL b) = some v) : ∃ u, WG.Yl P env (.binOp op t x y t') ty w u w ∧ Rv ρ X v u := by
  have hg : (eqGuard op t x y (.string a) (.string b)).run P w = .ok () w := by cases op <;> rfl
  have key : ∀ u, (binOp op t (.string a) (.string b)).run P w = .ok u w → WG.Yl P env (.binOp op t x y t') ty w u w := fun u hu => by
    show (execOp (WG.ev env) _).run P w = _
    simp only [execOp, hx, hy, Sem.run_bind, hg, Result.andThen_ok, hu, Sem.run_pure]
  have hab : (a.toList == b.toList) = decide (a = b) := WG.ba_eq a b
  cases op with
  | add =>
    obtain ⟨h1, h2⟩ := cond_some.1 (show cond (Nat.ble (Nat.add (len (bytesL a)) (len (bytesL b))) 1099511627776) (some (V.s (app (bytesL a) (bytesL b)))) none = some v from h)
    cases h2
    have h3 := Nat.le_of_ble_eq_true h1
    rw [len_eq, len_eq, bytesL_len, bytesL_len] at h3
    rw [app_eq, ← bytesL_append]
    refine ⟨_, key (.string (a ++ b)) ?_, .s _⟩
    have h4 : a.size + b.size ≤ 1099511627776 := h3
    have h5 : ¬ (((a.size + b.size : Nat) : Int) > IntKind.i64.max) := by
      show ¬ ((9223372036854775807 : Int) < _)
      omega
    simp only [binOp, Op.stringOp]
    rw [if_neg h5]
    rfl
  | eql => cases h; rw [eqS_R, ← hab]; exact ⟨_, key _ (by simp [binOp, Op.stringOp]), .b _⟩
  | neq => cases h; rw [eqS_R, ← hab]; exact ⟨_, key _ (by simp [binOp, Op.stringOp]), .b _⟩
  | lss => cases h; rw [ltS_R]; exact ⟨_, key _ (by simp [binOp, Op.stringOp]), .b _⟩
  | leq => cases h; rw [ltS_R]; exact ⟨_, key _ (by simp only [binOp, Op.stringOp, bytesLess_tot]; rfl), .b _⟩
  | gtr => cases h; rw [ltS_R]; exact ⟨_, key _ (by simp only [binOp, Op.stringOp, bytesLess_tot, Bool.not_not]; rfl), .b _⟩
  | geq => cases h; rw [ltS_R]; exact ⟨_, key _ (by simp [binOp, Op.stringOp]), .b _⟩
  | _ => cases h
end
/-! Equality. -/
/-- Neither a number nor a string. -/
def odd : Value → Bool
  | .int _ _ => false
  | .float _ _ => false
  | .complex _ _ _ => false
  | .string _ => false
  | _ => true
theorem isP_t {v : V} (h : isP v = true) : (∃ r o, v = .p r o) ∨ ∃ r o, v = .g r o := by
  cases v <;> first | (exact .inl ⟨_, _, rfl⟩) | (exact .inr ⟨_, _, rfl⟩) | cases h
theorem isPn_t {v : V} (h : isPn v = true) : v = .pn := by cases v <;> first | rfl | cases h
theorem isFn_t {v : V} (h : isFn v = true) : v = .fn := by cases v <;> first | rfl | cases h
theorem isL_t {v : V} (h : isL v = true) : ∃ r o n c z, v = .l r o n c z := by cases v <;> first | (exact ⟨_, _, _, _, _, rfl⟩) | cases h
theorem isM_t {v : V} (h : isM v = true) : ∃ r, v = .m r := by cases v <;> first | (exact ⟨_, rfl⟩) | cases h
theorem isI_t {v : V} (h : isI v = true) : ∃ t u, v = .n t u := by cases v <;> first | (exact ⟨_, _, rfl⟩) | cases h
theorem isF_t {v : V} (h : isF v = true) : ∃ f a c, v = .f f a c := by cases v <;> first | (exact ⟨_, _, _, rfl⟩) | cases h
theorem eqNil_some {nil it : V → Bool} {a b : V} {r : Bool} (h : eqNil nil it a b = some r) : (nil a = true ∧ nil b = true ∧ r = true) ∨ (nil a = true ∧ it b = true ∧ r = false) ∨ (it a = true ∧ nil b = true ∧ r = false) := by
  unfold eqNil at h
  cases ha : nil a <;> cases hb : nil b <;> rw [ha, hb] at h
  · cases h
  · obtain ⟨h1, h2⟩ := cond_some.1 (show cond (it a) (some false) none = some r from h)
    cases h2
    exact .inr (.inr ⟨h1, rfl, rfl⟩)
  · obtain ⟨h1, h2⟩ := cond_some.1 (show cond (it b) (some false) none = some r from h)
    cases h2
    exact .inr (.inl ⟨rfl, h1, rfl⟩)
  · cases h
    exact .inl ⟨rfl, rfl, rfl⟩
section
variable {P : Program} {ρ : Rh} {X : Nat → Value}
/-- The model's equality answers r. -/
def EqR (P : Program) (n t : Nat) (_a : V) (x y : Value) (r : Bool) : Prop := WG.EqV P n t x y r ∧ True
theorem eqFs_R {g : EqT} {n : Nat} (ih : ∀ t a b r x y, g t a b = some r → Rv ρ X a x → Rv ρ X b y → EqR P n t a x y r) : ∀ (fs : List Field) (l m : List V) (xs ys : List Value) (r : Bool), Cs ρ X l xs → Cs ρ X m ys → eqFs P g fs l m = some r → WG.EqFs P n xs ys fs r := by
  intro fs
  induction fs with
  | nil =>
    intro l m xs ys r hx hy h
    cases h
    exact WG.EqFs.nil
  | cons f fs ihf =>
    intro l m xs ys r hx hy h
    obtain ⟨h1, h2⟩ := condn_some.1 (show cond (decide (f.name = "_")) none (ob (partV P f.type f.offset l) fun a => ob (partV P f.type f.offset m) fun b => ob (g f.type a b) fun t => cond t (eqFs P g fs l m) (some false)) = some r from h)
    obtain ⟨a, h3, h4⟩ := ob_some.1 h2
    obtain ⟨b, h5, h6⟩ := ob_some.1 h4
    obtain ⟨q, h7, h8⟩ := ob_some.1 h6
    obtain ⟨u, k1, k2⟩ := part_R h3 hx
    obtain ⟨u', k3, k4⟩ := part_R h5 hy
    have he := (ih _ _ _ _ _ _ h7 k1 k3).1
    have hn : f.name ≠ "_" := of_decide_eq_false h1
    intro d w
    simp only [Op.eqFields, if_pos hn, Sem.run_bind, k2 w, k4 w, he d w, Result.andThen_ok]
    cases q with
    | true => exact ihf l m xs ys r hx hy h8 d w
    | false => cases h8; rfl
theorem eqEs_R {g : EqT} {n : Nat} (ih : ∀ t a b r x y, g t a b = some r → Rv ρ X a x → Rv ρ X b y → EqR P n t a x y r) {e z : Nat} {l m : List V} {xs ys : List Value} (hx : Cs ρ X l xs) (hy : Cs ρ X m ys) : ∀ (k i : Nat) (r : Bool), eqEs P g e z l m k i = some r → ∀ (d : Nat) (w : World), (Op.eqItems (d + n) e z xs.toArray ys.toArray (List.range' i k)).run P w = .ok r w := by
  intro k
  induction k with
  | zero =>
    intro i r h d w
    cases h
    simp [Op.eqItems]
  | succ k ihk =>
    intro i r h d w
    obtain ⟨a, h3, h4⟩ := ob_some.1 (show (ob (partV P e (Nat.mul i z) l) fun a => ob (partV P e (Nat.mul i z) m) fun b => ob (g e a b) fun t => cond t (eqEs P g e z l m k (Nat.succ i)) (some false)) = some r from h)
    obtain ⟨b, h5, h6⟩ := ob_some.1 h4
    obtain ⟨q, h7, h8⟩ := ob_some.1 h6
    obtain ⟨u, k1, k2⟩ := part_R h3 hx
    obtain ⟨u', k3, k4⟩ := part_R h5 hy
    have he := (ih _ _ _ _ _ _ h7 k1 k3).1
    have k2' : (part e xs.toArray (i * z)).run P w = .ok u w := k2 w
    have k4' : (part e ys.toArray (i * z)).run P w = .ok u' w := k4 w
    simp only [List.range'_succ, Op.eqItems, Sem.run_bind, k2', k4', he d w, Result.andThen_ok]
    cases q with
    | true => exact ihk (i + 1) r h8 d w
    | false => cases h8; rfl
theorem eqT_R : ∀ (n t : Nat) (a b : V) (r : Bool) (x y : Value), eqT P n t a b = some r → Rv ρ X a x → Rv ρ X b y → EqR P n t a x y r := by
  intro n
  induction n with
  | zero => intro t a b r x y h; cases h
  | succ n ih =>
    intro t a b r x y h hx hy
    obtain ⟨d, hu, h1⟩ := ob_some.1 (show (ob (P.underlying t) fun d => eqD P (eqT P n) t d a b) = some r from h)
    unfold eqD at h1
    cases hb : boolD d with
    | true =>
      rw [hb] at h1
      rw [boolD_t hb] at hu
      obtain ⟨p, h2, h3⟩ := ob_some.1 (show eqB2 a b = some r from h1)
      obtain ⟨q, h4, h5⟩ := ob_some.1 h3
      cases h5
      rw [boolOf_some.1 h2] at hx ⊢
      rw [boolOf_some.1 h4] at hy
      rw [hx.bool, hy.bool, eqB_eq]
      refine ⟨WG.EqV.le (n := 1) ?_ (by omega), trivial⟩
      have := WG.EqV.bool (P := P) (t := t) (a := p) (b := q) hu
      rwa [show (p == q) = decide (p = q) by cases p <;> cases q <;> rfl]
    | false =>
      rw [hb, cond_false] at h1
      cases hs : strD d with
      | true =>
        rw [hs] at h1
        rw [strD_t hs] at hu
        obtain ⟨p, h2, h3⟩ := ob_some.1 (show eqS2 a b = some r from h1)
        obtain ⟨q, h4, h5⟩ := ob_some.1 h3
        cases h5
        rw [strOf_some.1 h2] at hx ⊢
        rw [strOf_some.1 h4] at hy
        obtain ⟨s, rfl, rfl⟩ := hx.str
        obtain ⟨s', rfl, rfl⟩ := hy.str
        rw [eqS_R]
        exact ⟨WG.EqV.le (n := 1) (WG.EqV.str hu) (by omega), trivial⟩
      | false =>
        rw [hs, cond_false] at h1
        cases hi : intD d with
        | some k =>
          rw [hi] at h1
          rw [intD_some hi] at hu
          obtain ⟨p, h2, h3⟩ := ob_some.1 (show eqI2 a b = some r from h1)
          obtain ⟨q, h4, h5⟩ := ob_some.1 h3
          obtain ⟨h6, h7⟩ := cond_some.1 h5
          cases h7
          rw [intOf_some.1 h2] at hx ⊢
          rw [intOf_some.1 h4] at hy
          rw [hx.int, hy.int, ← knum_inj h6, eqI_eq]
          refine ⟨WG.EqV.le (n := 1) (fun d w => ?_) (by omega), trivial⟩
          unfold Op.equalIn
          simp [run_underlying hu]
          rfl
        | none =>
          rw [hi] at h1
          cases hp : ptrD d with
          | some e =>
            rw [hp] at h1
            rw [ptrD_some hp] at hu
            have h2 : oe (eqNil isPn isP a b) (ob (sz P e) fun z => cond (Nat.beq z 0) none (ob (ptrOf a) fun p => ob (ptrOf b) fun q => cond (Nat.beq p.1 q.1) (some (Nat.beq p.2 q.2)) none)) some = some r := h1
            cases hn : eqNil isPn isP a b with
            | some q =>
              rw [hn] at h2
              cases h2
              rcases eqNil_some hn with ⟨k1, k2, rfl⟩ | ⟨k1, k2, rfl⟩ | ⟨k1, k2, rfl⟩
              · rw [isPn_t k1] at hx
                rw [isPn_t k2] at hy
                rw [hx.pnil, hy.pnil]
                exact ⟨WG.EqV.le (n := 1) (fun d w => WG.run_ptrEq (.inl rfl) hu) (by omega), trivial⟩
              · rw [isPn_t k1] at hx
                rw [hx.pnil]
                have hy' : ∃ ad, y = .pointer (some ad) := by
                  rcases isP_t k2 with ⟨r, o, rfl⟩ | ⟨r, o, rfl⟩
                  · obtain ⟨L, _, rfl⟩ := hy.ptr; exact ⟨_, rfl⟩
                  · exact ⟨_, hy.glb⟩
                obtain ⟨ad, rfl⟩ := hy'
                refine ⟨WG.EqV.le (n := 1) (fun d w => ?_) (by omega), trivial⟩
                rw [WG.run_ptrEq (.inl rfl) hu]
                rfl
              · rw [isPn_t k2] at hy
                rw [hy.pnil]
                have hx' : ∃ ad, x = .pointer (some ad) := by
                  rcases isP_t k1 with ⟨r, o, rfl⟩ | ⟨r, o, rfl⟩
                  · obtain ⟨L, _, rfl⟩ := hx.ptr; exact ⟨_, rfl⟩
                  · exact ⟨_, hx.glb⟩
                obtain ⟨ad, rfl⟩ := hx'
                refine ⟨WG.EqV.le (n := 1) (fun d w => ?_) (by omega), trivial⟩
                rw [WG.run_ptrEq (.inr rfl) hu]
                rfl
            | none =>
              rw [hn] at h2
              obtain ⟨z, h3, h4⟩ := ob_some.1 (show (ob (sz P e) _) = some r from h2)
              obtain ⟨h5, h6⟩ := condn_some.1 h4
              obtain ⟨p, h7, h8⟩ := ob_some.1 h6
              obtain ⟨q, h9, h10⟩ := ob_some.1 h8
              obtain ⟨h11, h12⟩ := cond_some.1 h10
              cases h12
              rw [ptrOf_some.1 h7] at hx ⊢
              rw [ptrOf_some.1 h9] at hy
              obtain ⟨L, hL, rfl⟩ := hx.ptr
              obtain ⟨L', hL', rfl⟩ := hy.ptr
              rw [← nbeq.1 h11, hL] at hL'
              cases hL'
              refine ⟨WG.EqV.le (n := 1) (fun d w => ?_) (by omega), trivial⟩
              obtain ⟨inf, hinf, hsz⟩ := Option.map_eq_some_iff.1 (sz_some h3)
              have hz := nbeq_f.1 h5
              unfold Op.equalIn
              have hne : ¬ inf.size = 0 := by rw [hsz]; exact hz
              have he : (decide (p.2 = q.2)) = Nat.beq p.2 q.2 := by rw [Bool.eq_iff_iff, decide_eq_true_iff, nbeq]
              simp [run_underlying hu, sizeOf, typeInfo, hinf, hne, sameAddr, ← he]
              rw [Bool.eq_iff_iff]
              simp
          | none =>
            rw [hp] at h1
            have h2 : (cond (ifcD d) (eqNil isNn isI a b) <| oe (elemD d) (oe (mapD d) (cond (funD d) (eqNil isFn isF a b) <| oe (fieldsD d) (oe (arrD d) none fun q => ob (sz P q.2) fun z => ob (aggOf a) fun x => ob (aggOf b) fun y => eqEs P (eqT P n) q.2 z x y q.1 0) fun fs => cond (P.stoodInHeld t) none (ob (aggOf a) fun x => ob (aggOf b) fun y => eqFs P (eqT P n) fs x y)) fun _ => eqNil isMn isM a b) fun _ => eqNil isLn isL a b) = some r := h1
            cases hf : ifcD d with
            | true =>
              rw [hf, cond_true] at h2
              obtain ⟨ms, rfl⟩ : ∃ ms, d = .interface ms := by cases d <;> first | (exact ⟨_, rfl⟩) | cases hf
              refine ⟨WG.EqV.le (n := 1) (fun d w => ?_) (by omega), trivial⟩
              · unfold Op.equalIn
                rcases eqNil_some h2 with ⟨k1, k2, rfl⟩ | ⟨k1, k2, rfl⟩ | ⟨k1, k2, rfl⟩
                · rw [isNn_t.1 k1] at hx; rw [isNn_t.1 k2] at hy
                  rw [hx.inil, hy.inil]; simp [run_underlying hu]
                · rw [isNn_t.1 k1] at hx; obtain ⟨t', u, rfl⟩ := isI_t k2
                  obtain ⟨y', rfl, _⟩ := hy.ifc
                  rw [hx.inil]; simp [run_underlying hu]
                · rw [isNn_t.1 k2] at hy; obtain ⟨t', u, rfl⟩ := isI_t k1
                  obtain ⟨x', rfl, _⟩ := hx.ifc
                  rw [hy.inil]; simp [run_underlying hu]
            | false =>
              rw [hf, cond_false] at h2
              cases hel : elemD d with
              | some e =>
                rw [hel] at h2
                rw [elemD_some hel] at hu
                have h3 : eqNil isLn isL a b = some r := h2
                refine ⟨WG.EqV.le (n := 1) (fun d w => ?_) (by omega), trivial⟩
                · unfold Op.equalIn
                  rcases eqNil_some h3 with ⟨k1, k2, rfl⟩ | ⟨k1, k2, rfl⟩ | ⟨k1, k2, rfl⟩
                  · rw [isLn_t.1 k1] at hx; rw [isLn_t.1 k2] at hy
                    rw [hx.lnil, hy.lnil]; simp [run_underlying hu]
                  · rw [isLn_t.1 k1] at hx; obtain ⟨_, _, _, _, _, rfl⟩ := isL_t k2
                    obtain ⟨L, ad, c, _, rfl, _⟩ := hy.slc
                    rw [hx.lnil]; simp [run_underlying hu]
                  · rw [isLn_t.1 k2] at hy; obtain ⟨_, _, _, _, _, rfl⟩ := isL_t k1
                    obtain ⟨L, ad, c, _, rfl, _⟩ := hx.slc
                    rw [hy.lnil]; simp [run_underlying hu]
              | none =>
                rw [hel] at h2
                cases hmp : mapD d with
                | some e =>
                  have h3 : oe (mapD d) (cond (funD d) (eqNil isFn isF a b) <| oe (fieldsD d) (oe (arrD d) none fun q => ob (sz P q.2) fun z => ob (aggOf a) fun x => ob (aggOf b) fun y => eqEs P (eqT P n) q.2 z x y q.1 0) fun fs => cond (P.stoodInHeld t) none (ob (aggOf a) fun x => ob (aggOf b) fun y => eqFs P (eqT P n) fs x y)) (fun _ => eqNil isMn isM a b) = some r := h2
                  rw [hmp] at h3
                  have h3 : eqNil isMn isM a b = some r := h3
                  rw [mapD_some hmp] at hu
                  refine ⟨WG.EqV.le (n := 1) (fun d w => ?_) (by omega), trivial⟩
                  · unfold Op.equalIn
                    rcases eqNil_some h3 with ⟨k1, k2, rfl⟩ | ⟨k1, k2, rfl⟩ | ⟨k1, k2, rfl⟩
                    · rw [isMn_t.1 k1] at hx; rw [isMn_t.1 k2] at hy
                      rw [hx.mnil, hy.mnil]; simp [run_underlying hu]
                    · rw [isMn_t.1 k1] at hx; obtain ⟨_, rfl⟩ := isM_t k2
                      obtain ⟨L, _, rfl⟩ := hy.map_
                      rw [hx.mnil]; simp [run_underlying hu]
                    · rw [isMn_t.1 k2] at hy; obtain ⟨_, rfl⟩ := isM_t k1
                      obtain ⟨L, _, rfl⟩ := hx.map_
                      rw [hy.mnil]; simp [run_underlying hu]
                | none =>
                  have h3 : oe (mapD d) (cond (funD d) (eqNil isFn isF a b) <| oe (fieldsD d) (oe (arrD d) none fun q => ob (sz P q.2) fun z => ob (aggOf a) fun x => ob (aggOf b) fun y => eqEs P (eqT P n) q.2 z x y q.1 0) fun fs => cond (P.stoodInHeld t) none (ob (aggOf a) fun x => ob (aggOf b) fun y => eqFs P (eqT P n) fs x y)) (fun _ => eqNil isMn isM a b) = some r := h2
                  rw [hmp] at h3
                  have h4 : (cond (funD d) (eqNil isFn isF a b) <| oe (fieldsD d) (oe (arrD d) none fun q => ob (sz P q.2) fun z => ob (aggOf a) fun x => ob (aggOf b) fun y => eqEs P (eqT P n) q.2 z x y q.1 0) fun fs => cond (P.stoodInHeld t) none (ob (aggOf a) fun x => ob (aggOf b) fun y => eqFs P (eqT P n) fs x y)) = some r := h3
                  cases hfn : funD d with
                  | true =>
                    rw [hfn, cond_true] at h4
                    obtain ⟨p1, p2, p3, rfl⟩ : ∃ p1 p2 p3, d = .func p1 p2 p3 := by cases d <;> first | (exact ⟨_, _, _, rfl⟩) | cases hfn
                    refine ⟨WG.EqV.le (n := 1) (fun d w => ?_) (by omega), trivial⟩
                    · unfold Op.equalIn
                      rcases eqNil_some h4 with ⟨k1, k2, rfl⟩ | ⟨k1, k2, rfl⟩ | ⟨k1, k2, rfl⟩
                      · rw [isFn_t k1] at hx; rw [isFn_t k2] at hy
                        rw [hx.fnil, hy.fnil]; simp [run_underlying hu]
                      · rw [isFn_t k1] at hx; obtain ⟨_, _, _, rfl⟩ := isF_t k2
                        obtain ⟨_, _, rfl, _⟩ := hy.fnc
                        rw [hx.fnil]; simp [run_underlying hu]
                      · rw [isFn_t k2] at hy; obtain ⟨_, _, _, rfl⟩ := isF_t k1
                        obtain ⟨_, _, rfl, _⟩ := hx.fnc
                        rw [hy.fnil]; simp [run_underlying hu]
                  | false =>
                    rw [hfn, cond_false] at h4
                    cases hfd : fieldsD d with
                    | some fs =>
                      rw [hfd] at h4
                      rw [fieldsD_some hfd] at hu
                      obtain ⟨h5, h6⟩ := condn_some.1 (show cond (P.stoodInHeld t) none _ = some r from h4)
                      obtain ⟨l, h7, h8⟩ := ob_some.1 h6
                      obtain ⟨m, h9, h10⟩ := ob_some.1 h8
                      rw [aggOf_some.1 h7] at hx ⊢
                      rw [aggOf_some.1 h9] at hy
                      obtain ⟨xs, rfl, kx⟩ := hx.agg
                      obtain ⟨ys, rfl, ky⟩ := hy.agg
                      exact ⟨WG.EqV.struct hu h5 (by simpa using eqFs_R (fun t a b r x y h1 h2 h3 => ih t a b r x y h1 h2 h3) fs l m xs ys r kx ky h10), trivial⟩
                    | none =>
                      rw [hfd] at h4
                      cases har : arrD d with
                      | none => have h5 : oe (arrD d) none _ = some r := h4; rw [har] at h5; cases h5
                      | some q =>
                        have h5 : oe (arrD d) none (fun q => ob (sz P q.2) fun z => ob (aggOf a) fun x => ob (aggOf b) fun y => eqEs P (eqT P n) q.2 z x y q.1 0) = some r := h4
                        rw [har] at h5
                        obtain ⟨z, h6, h7⟩ := ob_some.1 (show (ob (sz P q.2) fun z => ob (aggOf a) fun x => ob (aggOf b) fun y => eqEs P (eqT P n) q.2 z x y q.1 0) = some r from h5)
                        obtain ⟨l, h8, h9⟩ := ob_some.1 h7
                        obtain ⟨m, h10, h11⟩ := ob_some.1 h9
                        rw [arrD_some har] at hu
                        rw [aggOf_some.1 h8] at hx ⊢
                        rw [aggOf_some.1 h10] at hy
                        obtain ⟨xs, rfl, kx⟩ := hx.agg
                        obtain ⟨ys, rfl, ky⟩ := hy.agg
                        refine ⟨fun d w => ?_, trivial⟩
                        obtain ⟨inf, hinf, hsz⟩ := Option.map_eq_some_iff.1 (sz_some h6)
                        have hc : P.cellsOf q.2 = z := by simp [Program.cellsOf, hinf, hsz]
                        rw [← Nat.add_assoc, run_equalIn_array w (d + n) _ _ hu hinf, hc, List.range_eq_range']
                        exact eqEs_R (fun t a b r x y h1 h2 h3 => ih t a b r x y h1 h2 h3) kx ky q.1 0 r h11 d w
theorem eqNil_bad {nil it : V → Bool} {a b : V} (h1 : nil a = false) (h2 : it a = false) : eqNil nil it a b = none := by
  unfold eqNil
  rw [h1, h2]
  cases nil b <;> rfl
theorem eqT_kn {n t : Nat} {a b : V} {r : Bool} (h : eqT P n t a b = some r) : kn a = true := by
  cases n with
  | zero => cases h
  | succ n =>
    obtain ⟨d, hu, h1⟩ := ob_some.1 (show (ob (P.underlying t) fun d => eqD P (eqT P n) t d a b) = some r from h)
    cases hk : kn a with
    | true => rfl
    | false =>
      exfalso
      have e1 : intOf a = none := by cases a <;> first | rfl | cases hk
      have e2 : strOf a = none := by cases a <;> first | rfl | cases hk
      have e3 : boolOf a = none := by cases a <;> first | rfl | cases hk
      have e4 : aggOf a = none := by cases a <;> first | rfl | cases hk
      have e5 : ptrOf a = none := by cases a <;> first | rfl | cases hk
      have f1 : isPn a = false := by cases a <;> first | rfl | cases hk
      have f2 : isP a = false := by cases a <;> first | rfl | cases hk
      have f3 : isNn a = false := by cases a <;> first | rfl | cases hk
      have f4 : isI a = false := by cases a <;> first | rfl | cases hk
      have f5 : isLn a = false := by cases a <;> first | rfl | cases hk
      have f6 : isL a = false := by cases a <;> first | rfl | cases hk
      have f7 : isMn a = false := by cases a <;> first | rfl | cases hk
      have f8 : isM a = false := by cases a <;> first | rfl | cases hk
      have f9 : isFn a = false := by cases a <;> first | rfl | cases hk
      have f10 : isF a = false := by cases a <;> first | rfl | cases hk
      cases d with
      | bool => obtain ⟨p, h2, _⟩ := ob_some.1 (show eqB2 a b = some r from h1); rw [e3] at h2; cases h2
      | string => obtain ⟨p, h2, _⟩ := ob_some.1 (show eqS2 a b = some r from h1); rw [e2] at h2; cases h2
      | int k => obtain ⟨p, h2, _⟩ := ob_some.1 (show eqI2 a b = some r from h1); rw [e1] at h2; cases h2
      | pointer e =>
        have h2 : oe (eqNil isPn isP a b) (ob (sz P e) fun z => cond (Nat.beq z 0) none (ob (ptrOf a) fun p => ob (ptrOf b) fun q => cond (Nat.beq p.1 q.1) (some (Nat.beq p.2 q.2)) none)) some = some r := h1
        rw [eqNil_bad f1 f2] at h2
        obtain ⟨z, _, h4⟩ := ob_some.1 (show (ob (sz P e) _) = some r from h2)
        obtain ⟨_, h6⟩ := condn_some.1 h4
        obtain ⟨p, h7, _⟩ := ob_some.1 h6
        rw [e5] at h7; cases h7
      | interface ms => have h2 : eqNil isNn isI a b = some r := h1; rw [eqNil_bad f3 f4] at h2; cases h2
      | slice e => have h2 : eqNil isLn isL a b = some r := h1; rw [eqNil_bad f5 f6] at h2; cases h2
      | map k e => have h2 : eqNil isMn isM a b = some r := h1; rw [eqNil_bad f7 f8] at h2; cases h2
      | func p1 p2 p3 => have h2 : eqNil isFn isF a b = some r := h1; rw [eqNil_bad f9 f10] at h2; cases h2
      | struct fs =>
        obtain ⟨_, h2⟩ := condn_some.1 (show cond (P.stoodInHeld t) none (ob (aggOf a) fun x => ob (aggOf b) fun y => eqFs P (eqT P n) fs.toList x y) = some r from h1)
        obtain ⟨p, h3, _⟩ := ob_some.1 h2
        rw [e4] at h3; cases h3
      | array m e =>
        obtain ⟨z, _, h2⟩ := ob_some.1 (show (ob (sz P e) fun z => ob (aggOf a) fun x => ob (aggOf b) fun y => eqEs P (eqT P n) e z x y m 0) = some r from h1)
        obtain ⟨p, h3, _⟩ := ob_some.1 h2
        rw [e4] at h3; cases h3
      | _ => cases h1
theorem isC_t {x : Operand} (h : isC x = true) : ∃ v, x = .const v := by cases x <;> first | (exact ⟨_, rfl⟩) | cases h
theorem odd_bin {x y : Value} (h : odd x = true) (t : Nat) : (binOp .eql t x y = do pure (.bool (← Op.equal t x y))) ∧ (binOp .neq t x y = do pure (.bool (!(← Op.equal t x y)))) := by
  cases x <;> first | (cases h; done) | (cases y <;> exact ⟨rfl, rfl⟩)
/-- What the model asks of two values ahead of their equality. -/
theorem eqG_R {t : Nat} {a b : V} {x y : Value} {p q : Operand} {r : Bool} {op : BinOp} {w : World} (h : eqG P t (or2 (isC p) (isC q)) a b = some r) (hx : Rv ρ X a x) (hy : Rv ρ X b y) :
    (eqGuard op t p q x y).run P w = .ok () w ∧ (Op.equal t x y).run P w = .ok r w ∧ (intOf a = none → strOf a = none → odd x = true) := by
  obtain ⟨d, hd, h1⟩ := ob_some.1 h
  cases hi : ifcD d with
  | true =>
    rw [hi, cond_true] at h1
    obtain ⟨ms, rfl⟩ : ∃ ms, d = .interface ms := by cases d <;> first | (exact ⟨_, rfl⟩) | cases hi
    have eq1 : ∀ u v r, (∀ d, (Op.equalIn (d + 1) t u v).run P w = .ok r w) → (Op.equal t u v).run P w = .ok r w := fun u v r h => h 9999
    cases hna : isNn a with
    | true =>
      rw [hna] at h1
      rw [isNn_t.1 hna] at hx ⊢
      rw [hx.inil]
      cases hnb : isNn b with
      | true =>
        have h2 : cond (isNn b) (cond (or2 (isC p) (isC q)) (some true) none) (cond (isI b) (some false) none) = some r := h1
        rw [hnb] at h2
        obtain ⟨h3, h4⟩ := cond_some.1 (show cond (or2 (isC p) (isC q)) (some true) none = some r from h2)
        cases h4
        rw [isNn_t.1 hnb] at hy
        rw [hy.inil]
        refine ⟨?_, eq1 _ _ _ fun d => by unfold Op.equalIn; simp [run_underlying hd], fun _ _ => rfl⟩
        rw [or2_eq] at h3
        rcases Bool.or_eq_true _ _ ▸ h3 with h4 | h4
        · obtain ⟨v, rfl⟩ := isC_t h4
          cases op <;> rfl
        · obtain ⟨v, rfl⟩ := isC_t h4
          cases op <;> first | rfl | (cases p <;> rfl)
      | false =>
        have h2 : cond (isNn b) (cond (or2 (isC p) (isC q)) (some true) none) (cond (isI b) (some false) none) = some r := h1
        rw [hnb] at h2
        obtain ⟨h3, h4⟩ := cond_some.1 (show cond (isI b) (some false) none = some r from h2)
        cases h4
        obtain ⟨t', u, rfl⟩ := isI_t h3
        obtain ⟨y', rfl, _⟩ := hy.ifc
        exact ⟨by cases op <;> rfl, eq1 _ _ _ fun d => by unfold Op.equalIn; simp [run_underlying hd], fun _ _ => rfl⟩
    | false =>
      rw [hna] at h1
      have h2 : cond (isNn b) (cond (isI a) (some false) none) none = some r := h1
      obtain ⟨h3, h4⟩ := cond_some.1 h2
      obtain ⟨h5, h6⟩ := cond_some.1 h4
      cases h6
      obtain ⟨t', u, rfl⟩ := isI_t h5
      obtain ⟨x', rfl, _⟩ := hx.ifc
      rw [isNn_t.1 h3] at hy
      rw [hy.inil]
      exact ⟨by cases op <;> rfl, eq1 _ _ _ fun d => by unfold Op.equalIn; simp [run_underlying hd], fun _ _ => rfl⟩
  | false =>
    rw [hi, cond_false] at h1
    have fin : ∀ {r}, eqT P 9 t a b = some r → (Op.equal t x y).run P w = .ok r w := fun h => (eqT_R (ρ := ρ) (X := X) 9 t a b _ x y h hx hy).1 9991 w
    cases ha : aggD d with
    | true =>
      rw [ha] at h1
      obtain ⟨h2, h3⟩ := condn_some.1 (show cond (P.eqGuardType P.depth t) none _ = some r from h1)
      obtain ⟨l, h4, h5⟩ := ob_some.1 h3
      obtain ⟨m, h6, h7⟩ := ob_some.1 h5
      have hf := fin h7
      rw [aggOf_some.1 h4] at hx
      rw [aggOf_some.1 h6] at hy
      obtain ⟨xs, rfl, _⟩ := hx.agg
      obtain ⟨ys, rfl, _⟩ := hy.agg
      exact ⟨run_eqGuard_agg w op t p q _ _ h2, hf, fun _ _ => rfl⟩
    | false =>
      rw [ha] at h1
      obtain ⟨h2, h3⟩ := condn_some.1 (show cond (isNn a) none (cond (isA1 a) none (eqT P 9 t a b)) = some r from h1)
      obtain ⟨h4, h5⟩ := condn_some.1 h3
      have hk := eqT_kn h5
      refine ⟨?_, fin h5, fun hi hs => ?_⟩
      · have e : ∀ u, Rv ρ X a u → (eqGuard op t p q u y).run P w = .ok () w := fun u hu => by
          cases hu <;> first | (cases hk; done) | (cases h2; done) | (cases h4; done) | (cases op <;> rfl)
        exact e x hx
      · have e : ∀ u, Rv ρ X a u → odd u = true := fun u hu => by
          cases hu <;> first | (cases hk; done) | (cases hi; done) | (cases hs; done) | rfl
        exact e x hx
end
section
variable {C : Cfg} {cl : CallF} {X : Nat → Value} {B : Nat} {w0 w w' : World} {ρ : Rh} {M M' : Mem} {σ : Sl} {env : WG.Env} {ty : TypeId} {v : V}
/-- What is told of the law's arguments. -/
structure Args (C : Cfg) (X : Nat → Value) : Prop where
  kind : ∀ j k, C.K j = some k → ∃ n, X j = .int k n
  fact : ∀ c j y t, C.Fa c j y = some t → ∀ k n, X j = .int k n → (match c with | 0 => decide (n < y) | 1 => decide (n ≤ y) | 2 => decide (n > y) | 3 => decide (n ≥ y) | 4 => decide (n = y) | 5 => !decide (n = y) | _ => t) = t
theorem kindS_R (hA : Args C X) {a : V} {y : Value} {k : IntKind} (h : kindS C a = some k) (ha : Rv ρ X a y) : ∃ n, y = .int k n := by
  unfold kindS at h
  cases hj : argOf a with
  | some j =>
    rw [hj] at h
    rw [argOf_some.1 hj] at ha
    rw [ha.arg]
    exact hA.kind j k h
  | none =>
    rw [hj] at h
    rcases kindQ_some h with rfl | ⟨n, rfl⟩
    · exact ha.some_
    · exact ⟨n, ha.int⟩
theorem symV_R (hA : Args C X) {op : BinOp} {t t' : Nat} {x y : Operand} {a b : V} (h : symV C op a b = some v) (hx : Rv ρ X a (WG.ev env x)) (hy : Rv ρ X b (WG.ev env y)) : ∃ u, WG.Yl C.P env (.binOp op t x y t') ty w u w ∧ Rv ρ X v u := by
  obtain ⟨k, h1, g1⟩ := ob_some.1 h
  obtain ⟨k', h2, g2⟩ := ob_some.1 g1
  obtain ⟨h3, g3⟩ := cond_some.1 g2
  have hk := knum_inj h3
  clear h g1 g2 h3
  subst hk
  have h := g3
  clear g3
  obtain ⟨m, hm⟩ := kindS_R hA h1 hx
  obtain ⟨n, hn⟩ := kindS_R hA h2 hy
  cases hs : symA op (intOf b) with
  | true =>
    rw [hs] at h
    cases h
    have hd : ∀ q, intOf b = some q → (not (eqI q.2 0)) = true → n ≠ 0 := fun q hq h0 => by
      have := hy.int_of (intOf_some.1 hq)
      rw [hn] at this
      injection this with _ e
      rw [eqI_eq] at h0
      rw [e]
      intro e0
      rw [decide_eq_true e0] at h0
      cases h0
    cases op with
    | add => exact ⟨_, WG.Yl.add hm hn rfl, .q _ _⟩
    | sub => exact ⟨_, WG.Yl.sub hm hn rfl, .q _ _⟩
    | mul => exact ⟨_, WG.Yl.mul hm hn rfl, .q _ _⟩
    | quo =>
      obtain ⟨q, h4, h5⟩ := oe_t.1 (show oe (intOf b) false (fun y => not (eqI y.2 0)) = true from hs)
      exact ⟨_, WG.Yl.quo hm hn (hd q h4 h5) rfl, .q _ _⟩
    | rem =>
      obtain ⟨q, h4, h5⟩ := oe_t.1 (show oe (intOf b) false (fun y => not (eqI y.2 0)) = true from hs)
      exact ⟨_, WG.Yl.rem hm hn (hd q h4 h5) rfl, .q _ _⟩
    | _ => cases hs
  | false =>
    rw [hs] at h
    obtain ⟨hcm, h⟩ := cond_some.1 (show cond (Nat.ble (cmpN op) 5) (ob (argOf a) fun j => ob (intOf b) fun y => ob (C.Fa (cmpN op) j y.2) fun t => some (V.b t)) none = some v from h)
    obtain ⟨j, h4, h5⟩ := ob_some.1 h
    obtain ⟨q, h6, h7⟩ := ob_some.1 h5
    obtain ⟨r, h8, h9⟩ := ob_some.1 h7
    cases h9
    rw [argOf_some.1 h4] at hx
    have hX := hx.arg
    rw [hm] at hX
    have hq := hy.int_of (intOf_some.1 h6)
    rw [hn] at hq
    injection hq with _ hq
    have hf := hA.fact (cmpN op) j q.2 r h8 k m hX.symm
    rw [← hq] at hf
    cases op with
    | eql => exact ⟨_, WG.Yl.eql hm hn hf, .b _⟩
    | neq => exact ⟨_, WG.Yl.neq hm hn hf, .b _⟩
    | lss => exact ⟨_, WG.Yl.lss hm hn hf, .b _⟩
    | leq => exact ⟨_, WG.Yl.leq hm hn hf, .b _⟩
    | gtr => exact ⟨_, WG.Yl.gtr hm hn hf, .b _⟩
    | geq => exact ⟨_, WG.Yl.geq hm hn hf, .b _⟩
    | _ => exact absurd hcm (by decide)
theorem isEq_1 {op : BinOp} (h : Nat.beq (isEq op) 0 = false) : (op = .eql ∧ Nat.beq (isEq op) 1 = true) ∨ (op = .neq ∧ Nat.beq (isEq op) 1 = false) := by
  cases op <;> first | (exact .inl ⟨rfl, rfl⟩) | (exact .inr ⟨rfl, rfl⟩) | cases h
theorem s_binOp {op : BinOp} {t t' : Nat} {x y : Operand} (hA : Args C X) (hs : SE ρ X σ env) (hw : Wd X B w0 ρ M w) (h : fin M (x_binOp op t x y t' cl C σ M) = .ok v M') : StepR C.P env (.binOp op t x y t') ty w (Gl X B w0 ρ M v M') := by
  obtain ⟨h1, h2⟩ := fin_lt h
  have hx := rd_R hs x
  have hy := rd_R hs y
  unfold binV at h1
  cases hsy : or2 (isX (rd x σ)) (isX (rd y σ)) with
  | true =>
    rw [hsy] at h1
    obtain ⟨u, k1, k2⟩ := symV_R (ty := ty) (t := t) (t' := t') hA h1 hx hy
    exact pureS hw h2 k1 k2
  | false =>
  rw [hsy, cond_false] at h1
  cases hi : intOf (rd x σ) with
  | some a =>
    rw [hi] at h1
    obtain ⟨b, h3, h4⟩ := ob_some.1 (show (ob (intOf (rd y σ)) fun b => cond (or2 (isShift op) (Nat.beq (knum a.1) (knum b.1))) (binI op a.1 a.2 b.2) none) = some v from h1)
    obtain ⟨h5, h6⟩ := cond_some.1 h4
    have hx' := hx.int_of (intOf_some.1 hi)
    have hy' := hy.int_of (intOf_some.1 h3)
    rw [or2_eq] at h5
    obtain ⟨u, k1, k2⟩ := binI_R (P := C.P) (ρ := ρ) (X := X) (w := w) (ty := ty) (t := t) (t' := t') hx' hy' ((Bool.or_eq_true _ _ ▸ h5).imp id knum_inj) h6
    exact pureS hw h2 k1 k2
  | none =>
    rw [hi] at h1
    cases hs' : strOf (rd x σ) with
    | some a =>
      have h3 : oe (strOf (rd x σ)) _ (fun x => ob (strOf (rd y σ)) fun y => binS op x y) = some v := h1
      rw [hs'] at h3
      obtain ⟨b, h4, h5⟩ := ob_some.1 (show (ob (strOf (rd y σ)) fun y => binS op a y) = some v from h3)
      rw [strOf_some.1 hs'] at hx
      rw [strOf_some.1 h4] at hy
      obtain ⟨p, hx', rfl⟩ := hx.str
      obtain ⟨q, hy', rfl⟩ := hy.str
      obtain ⟨u, k1, k2⟩ := binS_R (P := C.P) (ρ := ρ) (X := X) (w := w) (ty := ty) (t := t) (t' := t') hx' hy' h5
      exact pureS hw h2 k1 k2
    | none =>
      have h3 : oe (strOf (rd x σ)) (cond (Nat.beq (isEq op) 0) none (ob (eqG C.P t (or2 (isC x) (isC y)) (rd x σ) (rd y σ)) fun r => some (V.b (cond (Nat.beq (isEq op) 1) r (not r))))) (fun x => ob (strOf (rd y σ)) fun y => binS op x y) = some v := h1
      rw [hs'] at h3
      obtain ⟨h4, h5⟩ := condn_some.1 (show cond (Nat.beq (isEq op) 0) none _ = some v from h3)
      obtain ⟨r, h6, h7⟩ := ob_some.1 h5
      cases h7
      obtain ⟨k1, k2, k3⟩ := eqG_R (op := op) (w := w) h6 hx hy
      obtain ⟨k4, k5⟩ := odd_bin (y := WG.ev env y) (k3 hi hs') t
      rcases isEq_1 h4 with ⟨rfl, e⟩ | ⟨rfl, e⟩
      · rw [e]
        refine pureS hw h2 (y := .bool r) ?_ (.b r)
        show (execOp (WG.ev env) _).run C.P w = _
        simp [execOp, k1, k4, k2]
      · rw [e]
        refine pureS hw h2 (y := .bool (!r)) ?_ (.b _)
        show (execOp (WG.ev env) _).run C.P w = _
        simp [execOp, k1, k5, k2]
end
end Go.CE
