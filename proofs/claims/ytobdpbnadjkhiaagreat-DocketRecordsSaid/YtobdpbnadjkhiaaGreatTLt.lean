/- Runs of operations that ask nothing of the heap, by evaluation; slots told anew; several pieces lent at once; short steps. -/
import Derived.Test.YtobdpbnadjkhiaaGreatTLs
namespace Go.WG
open Go.RowKit
/-- A value whose form is there. -/
def hdV : Value → Option Value
  | .bool b => some (.bool b)
  | .int k n => some (.int k n)
  | .string s => some (.string s)
  | .pointer a => some (.pointer a)
  | .slice a l c => some (.slice a l c)
  | .map r => some (.map r)
  | .func f a b => some (.func f a b)
  | .nilFunc => some .nilFunc
  | .iface t v => some (.iface t v)
  | .nilIface => some .nilIface
  | .agg cs => some (.agg cs)
  | .tuple vs => some (.tuple vs)
  | _ => none
theorem hdV_eq {v u : Value} (h : hdV v = some u) : v = u := by cases v <;> simp [hdV] at h <;> exact h
/-- Where a struct's fields lie: the type, the field, its place. -/
def placeOf : List (Nat × List Nat) → Nat → Nat → Option Nat
  | [], _, _ => none
  | (t, fs) :: r, s, i => cond (Nat.beq t s) fs[i]? (placeOf r s i)
def PlaceOk (P : Program) (tb : List (Nat × List Nat)) : Prop :=
  ∀ t i k, placeOf tb t i = some k → ∃ fs : Array Field, ∃ f sz, P.underlying t = some (.struct fs) ∧ fs[i]? = some f ∧ f.offset = k ∧ (P.info? f.type).map (·.size) = some (sz + 1)
def placeFine (P : Program) (t : Nat) (ks : List Nat) : Bool :=
  match P.underlying t with
  | some (.struct fs) => (List.range ks.length).all fun i => match fs[i]?, ks[i]? with
    | some f, some k => Nat.beq f.offset k && (match (P.info? f.type).map (·.size) with | some (_ + 1) => true | _ => false)
    | _, _ => false
  | _ => false
theorem PlaceOk.of {P : Program} : ∀ {tb : List (Nat × List Nat)}, (tb.all fun p => placeFine P p.1 p.2) = true → PlaceOk P tb
  | [], _ => fun _ _ _ h => by cases h
  | (t, ks) :: r, h => fun s i k hk => by
    rw [List.all_cons, Bool.and_eq_true] at h
    unfold placeOf at hk
    by_cases e : t = s
    · subst e
      rw [Nat.beq_refl, _root_.cond_true] at hk
      have h1 := h.1
      unfold placeFine at h1
      split at h1
      · rename_i fs hu
        have h2 := List.all_eq_true.1 h1 i (List.mem_range.2 (by
          by_cases hi : i < ks.length
          · exact hi
          · rw [List.getElem?_eq_none (by omega)] at hk; cases hk))
        rw [hk] at h2
        cases hf : fs[i]? with
        | none => rw [hf] at h2; cases h2
        | some f =>
          rw [hf] at h2
          simp only [Bool.and_eq_true] at h2
          obtain ⟨h3, h4⟩ := h2
          cases hs : (P.info? f.type).map (·.size) with
          | none => rw [hs] at h4; cases h4
          | some z =>
            cases z with
            | zero => rw [hs] at h4; cases h4
            | succ z => exact ⟨fs, f, z, hu, hf, Nat.eq_of_beq_eq_true h3, hs⟩
      · cases h1
    · have : Nat.beq t s = false := by
        rw [Bool.eq_false_iff]
        exact fun b => e (Nat.eq_of_beq_eq_true b)
      rw [this, _root_.cond_false] at hk
      exact PlaceOk.of h.2 s i k hk
def kEq : IntKind → IntKind → Bool
  | .i8, .i8 => true
  | .i16, .i16 => true
  | .i32, .i32 => true
  | .i64, .i64 => true
  | .u8, .u8 => true
  | .u16, .u16 => true
  | .u32, .u32 => true
  | .u64, .u64 => true
  | _, _ => false
theorem kEq_eq {a b : IntKind} (h : kEq a b = true) : a = b := by cases a <;> cases b <;> first | rfl | cases h
def wrapV : IntKind → Int → Option Value
  | .i8, x => some (.int .i8 (wi8 x))
  | .i16, x => some (.int .i16 (wi16 x))
  | .i32, x => some (.int .i32 (wi32 x))
  | .i64, x => some (.int .i64 (wi64 x))
  | .u8, x => some (.int .u8 (wu8 x))
  | .u16, x => some (.int .u16 (wu16 x))
  | .u32, x => some (.int .u32 (wu32 x))
  | .u64, x => some (.int .u64 (wu64 x))
theorem wrapV_eq {k : IntKind} {x : Int} {v : Value} (h : wrapV k x = some v) : v = .int k (k.wrap x) := by
  cases k <;> (injection h with h; exact h.symm)
def binV (op : BinOp) (k : IntKind) (m n : Int) : Option Value :=
  match op with
  | .add => wrapV k (m + n)
  | .sub => wrapV k (m - n)
  | .mul => wrapV k (m * n)
  | .lss => some (.bool (decide (m < n)))
  | .leq => some (.bool (decide (m ≤ n)))
  | .gtr => some (.bool (decide (m > n)))
  | .geq => some (.bool (decide (m ≥ n)))
  | .eql => some (.bool (decide (m = n)))
  | .neq => some (.bool (!decide (m = n)))
  | _ => none
/-- What an operation yields that asks nothing of the heap, as far as its form is there. -/
def pureV (tb : List (Nat × List Nat)) (ρ : Operand → Value) : Op → Option Value
  | .move x => hdV (ρ x)
  | .assign x => hdV (ρ x)
  | .pick c x y => match ρ c with
    | .bool true => hdV (ρ x)
    | .bool false => hdV (ρ y)
    | _ => none
  | .nilCheck x => match ρ x with
    | .pointer (some a) => some (.pointer (some a))
    | _ => none
  | .fieldAddr s x i => match ρ x with
    | .pointer (some ⟨g, o, none⟩) => match placeOf tb s i with
      | some k => some (.pointer (some ⟨g, o + k, none⟩))
      | none => none
    | _ => none
  | .extract x i => match ρ x with
    | .tuple vs => match vs[i]? with
      | some v => hdV v
      | none => none
    | _ => none
  | .unOp .not _ x => match ρ x with
    | .bool b => some (.bool (!b))
    | _ => none
  | .binOp op _ x y _ => match ρ x, ρ y with
    | .int k m, .int k' n => cond (kEq k k') (binV op k m n) none
    | _, _ => none
  | _ => none
section
variable {P : Program} {tb : List (Nat × List Nat)} {env : Env} {ty : TypeId} {w : World} {v : Value}
theorem pureV_ok (ht : PlaceOk P tb) {op : Op} (h : pureV tb (ev env) op = some v) : Yl P env op ty w v w := by
  unfold pureV at h
  split at h
  · exact Yl.move (hdV_eq h)
  · exact Yl.assign (hdV_eq h)
  · split at h
    · exact Yl.pickT (by assumption) (hdV_eq h)
    · exact Yl.pickF (by assumption) (hdV_eq h)
    · cases h
  · split at h
    · injection h with h; subst h; exact Yl.nilCheck (by assumption)
    · cases h
  · split at h
    · split at h
      · rename_i hk
        injection h with h; subst h
        obtain ⟨fs, f, sz, h1, h2, h3, h4⟩ := ht _ _ _ hk
        subst h3
        exact Yl.fieldAddr (by assumption) h1 h2 h4
      · cases h
    · cases h
  · split at h
    · split at h
      · rename_i hi
        exact Yl.extract (by assumption) (by rw [hi, hdV_eq h])
      · cases h
    · cases h
  · split at h
    · injection h with h; subst h; exact Yl.not (by assumption) rfl
    · cases h
  · split at h
    · rename_i hx hy
      rename_i op' _ _ _ _ _ _ k m k' n
      cases hk : kEq k k' with
      | false => rw [hk] at h; cases h
      | true =>
        rw [hk, _root_.cond_true] at h
        obtain rfl := kEq_eq hk
        unfold binV at h
        split at h <;> first | (have h' := wrapV_eq h; subst h') | (injection h with h; subst h) | cases h
        · exact Yl.add hx hy rfl
        · exact Yl.sub hx hy rfl
        · exact Yl.mul hx hy rfl
        · exact Yl.lss hx hy rfl
        · exact Yl.leq hx hy rfl
        · exact Yl.gtr hx hy rfl
        · exact Yl.geq hx hy rfl
        · exact Yl.eql hx hy rfl
        · exact Yl.neq hx hy rfl
    · cases h
  · cases h
end
/-- Such operations, one after the other; those behind guards that are there too. -/
def runP (tb : List (Nat × List Nat)) (ops : Array Oper) : Nat → List Oper → Env → Option (List Oper × Env)
  | 0, l, env => some (l, env)
  | n + 1, ⟨some d, op, _, _, _, none⟩ :: l, env => match pureV tb (ev env) op with
    | some v => runP tb ops n l (upd env d v)
    | none => none
  | n + 1, ⟨some d, op, _, _, _, some (j, b)⟩ :: l, env => match yieldedE ops env j with
    | some b' => match b, b' with
      | true, true | false, false => (match pureV tb (ev env) op with
        | some v => runP tb ops n l (upd env d v)
        | none => none)
      | _, _ => runP tb ops n l (upd env d undef)
    | none => none
  | _ + 1, _, _ => none
section
variable {P : Program} {ops : Array Oper} {tb : List (Nat × List Nat)} {Q : Exit → Env → World → Prop} {env env' : Env} {w : World} {l l' : List Oper} {v : Value} {d : Nat} {t : Nat}
theorem yieldedE_at {j : Nat} {b : Bool} (h : yieldedE ops env j = some b) : ∃ x, (ops[j]?).bind (·.dst) = some x ∧ env x = .bool b := by
  unfold yieldedE at h
  cases hj : (ops[j]?).bind (·.dst) with
  | none => rw [hj] at h; cases h
  | some x =>
    rw [hj] at h
    refine ⟨x, rfl, ?_⟩
    simp only at h
    cases hx : env x with
    | bool c => rw [hx] at h; simp only at h; injection h with h; rw [h]
    | _ => rw [hx] at h; cases h
theorem runP_step {n : Nat} (h : runP tb ops (n + 1) l env = some (l', env')) : ∃ d op ty pos aft g r v, l = ⟨some d, op, ty, pos, aft, g⟩ :: r ∧ runP tb ops n r (upd env d v) = some (l', env') ∧
    ((g = none ∧ pureV tb (ev env) op = some v) ∨ (∃ j b x, g = some (j, b) ∧ (ops[j]?).bind (·.dst) = some x ∧ ((env x = .bool b ∧ pureV tb (ev env) op = some v) ∨ (env x = .bool (!b) ∧ v = undef)))) := by
  cases l with
  | nil => simp [runP] at h
  | cons o r =>
    obtain ⟨dst, op, ty, pos, aft, g⟩ := o
    cases dst with
    | none => simp [runP] at h
    | some d =>
      cases g with
      | none =>
        unfold runP at h
        split at h
        · rename_i v hv; exact ⟨d, op, ty, pos, aft, none, r, v, rfl, h, .inl ⟨rfl, hv⟩⟩
        · cases h
      | some g =>
        obtain ⟨j, b⟩ := g
        unfold runP at h
        split at h
        · rename_i b' hb
          obtain ⟨x, hx, he⟩ := yieldedE_at hb
          cases b <;> cases b' <;> simp only at h
          · split at h
            · rename_i v hv; exact ⟨d, op, ty, pos, aft, _, r, v, rfl, h, .inr ⟨j, _, x, rfl, hx, .inl ⟨he, hv⟩⟩⟩
            · cases h
          · exact ⟨d, op, ty, pos, aft, _, r, undef, rfl, h, .inr ⟨j, _, x, rfl, hx, .inr ⟨he, rfl⟩⟩⟩
          · exact ⟨d, op, ty, pos, aft, _, r, undef, rfl, h, .inr ⟨j, _, x, rfl, hx, .inr ⟨he, rfl⟩⟩⟩
          · split at h
            · rename_i v hv; exact ⟨d, op, ty, pos, aft, _, r, v, rfl, h, .inr ⟨j, _, x, rfl, hx, .inl ⟨he, hv⟩⟩⟩
            · cases h
        · cases h
theorem WL.run (ht : PlaceOk P tb) (n : Nat) (h : runP tb ops n l env = some (l', env')) (k : WL P ops Q l' env' w) : WL P ops Q l env w := by
  induction n generalizing l env with
  | zero => unfold runP at h; injection h with h; injection h with h1 h2; subst h1 h2; exact k
  | succ n ih =>
    obtain ⟨d, op, ty, pos, aft, g, r, v, rfl, hr, hg⟩ := runP_step h
    rcases hg with ⟨rfl, hv⟩ | ⟨j, b, x, rfl, hx, hg⟩
    · exact WL.val (pureV_ok ht hv) (ih hr)
    · rcases hg with ⟨he, hv⟩ | ⟨he, rfl⟩
      · exact WL.valOn hx he (pureV_ok ht hv) (ih hr)
      · exact WL.off hx he (ih hr)
theorem WQ.run {C : World → Prop} {Q : Env → Prop} (ht : PlaceOk P tb) (n : Nat) (h : runP tb ops n l env = some (l', env')) (k : WQ P ops C Q l' env') : WQ P ops C Q l env := by
  induction n generalizing l env with
  | zero => unfold runP at h; injection h with h; injection h with h1 h2; subst h1 h2; exact k
  | succ n ih =>
    obtain ⟨d, op, ty, pos, aft, g, r, v, rfl, hr, hg⟩ := runP_step h
    rcases hg with ⟨rfl, hv⟩ | ⟨j, b, x, rfl, hx, hg⟩
    · exact WQ.val (fun w _ => pureV_ok ht hv) (ih hr)
    · rcases hg with ⟨he, hv⟩ | ⟨he, rfl⟩
      · exact WQ.on hx he (WQ.val (fun w _ => pureV_ok ht hv) (ih hr))
      · exact WQ.off hx he (ih hr)
/-- A slot, told as it is. -/
theorem upd_at (h : env t = v) : upd env t v = env := by
  funext u
  unfold upd
  by_cases e : u = t
  · subst e; rw [Nat.beq_refl, _root_.cond_true, h]
  · have : Nat.beq u t = false := by
      rw [Bool.eq_false_iff]
      exact fun b => e (Nat.eq_of_beq_eq_true b)
    rw [this, _root_.cond_false]
theorem WL.kn (t : Nat) {v : Value} (h : env t = v) (k : WL P ops Q l (upd env t v) w) : WL P ops Q l env w := by rw [upd_at h] at k; exact k
theorem WQ.kn {C : World → Prop} {Q : Env → Prop} (t : Nat) {v : Value} (h : env t = v) (k : WQ P ops C Q l (upd env t v)) : WQ P ops C Q l env := by rw [upd_at h] at k; exact k
/-- Slots that are told, written down. -/
def KN (env e : Env) : Prop := e = env
theorem KN.n : KN env env := rfl
theorem KN.c {e : Env} (h : env t = v) (r : KN env e) : KN env (upd e t v) := by
  unfold KN at r ⊢
  subst r
  exact upd_at h
theorem kn (env : Env) {R : Env → Prop} {e : Env} (h : KN env e) (k : R e) : R env := by
  unfold KN at h
  subst h
  exact k
theorem W.cT {N : Nat} {c : Operand} {x y : Code} {p : Prop} [Decidable p] (h : p) (hc : ev env c = .bool (decide p)) (k : W P N x Q env w) : W P N (.cond c x y) Q env w := W.condT (by rw [hc, decide_eq_true h]) k
theorem W.cF {N : Nat} {c : Operand} {x y : Code} {p : Prop} [Decidable p] (h : ¬ p) (hc : ev env c = .bool (decide p)) (k : W P N y Q env w) : W P N (.cond c x y) Q env w := W.condF (by rw [hc, decide_eq_false h]) k
end
end Go.WG
namespace Go.WG
open Go.RowKit
section
variable {a b c rest rest' us z : List Value} {v : Value} {m : Nat}
theorem len_map {α β : Type} {f : α → β} {l : List α} {n : Nat} (h : l.length = n) : (l.map f).length = n := by rw [List.length_map]; exact h
theorem len_app {n m : Nat} (h : a.length = n) (k : b.length = m) : (a ++ b).length = n + m := by rw [List.length_append, h, k]
theorem at_skip (n k : Nat) (h : a.length = n) (r : rest[k]? = some v) : (a ++ rest)[n + k]? = some v := by rw [List.getElem?_append_right (by omega), h, Nat.add_sub_cancel_left]; exact r
theorem mid_skip (n k : Nat) (h : a.length = n) (r : (rest.drop k).take m = us) : ((a ++ rest).drop (n + k)).take m = us := by
  rw [← h, ← List.drop_drop, List.drop_left]
  exact r
theorem mid_here (h : us.length = m) : ((us ++ rest).drop 0).take m = us := by rw [List.drop_zero, ← h, List.take_left]
theorem mid_all (h : us.length = m) : (us.drop 0).take m = us := by rw [List.drop_zero, ← h, List.take_length]
/-- Cells us stand at o behind. -/
def Put (cs : List Value) (o : Nat) (us cs' : List Value) : Prop := ∃ pre z post, cs = pre ++ (z ++ post) ∧ pre.length = o ∧ z.length = us.length ∧ cs' = pre ++ (us ++ post)
theorem Put.all (n : Nat) (h : z.length = n) (k : us.length = n) : Put z 0 us us := ⟨[], z, [], by simp, rfl, by rw [h, k], by simp⟩
theorem Put.here (n : Nat) (h : z.length = n) (k : us.length = n) : Put (z ++ rest) 0 us (us ++ rest) := ⟨[], z, rest, rfl, rfl, by rw [h, k], rfl⟩
theorem Put.skip (n k : Nat) (h : a.length = n) (r : Put rest k us rest') : Put (a ++ rest) (n + k) us (a ++ rest') := by
  obtain ⟨pre, z, post, rfl, h1, h2, rfl⟩ := r
  exact ⟨a ++ pre, z, post, by simp, by rw [List.length_append, h, h1], h2, by simp⟩
theorem Put.left {k : Nat} (r : Put a k us b) : Put (a ++ rest) k us (b ++ rest) := by
  obtain ⟨pre, z, post, rfl, h1, h2, rfl⟩ := r
  exact ⟨pre, z, post ++ rest, by simp, h1, h2, by simp⟩
theorem Put.lit (k : Nat) (h : Nat.ble (k + us.length) a.length = true) : Put a k us (a.take k ++ us ++ a.drop (k + us.length)) := by
  have hle := Nat.le_of_ble_eq_true h
  refine ⟨a.take k, (a.drop k).take us.length, a.drop (k + us.length), ?_, by rw [List.length_take]; omega, by rw [List.length_take, List.length_drop]; omega, by simp⟩
  rw [← List.drop_drop, List.take_append_drop, List.take_append_drop]
theorem Put.to {cs : List Value} {o : Nat} {cs' : List Value} (r : Put cs o us b) (e : b = cs') : Put cs o us cs' := e ▸ r
theorem ev_put {P : Program} {w0 w : World} {F0 F : CH} {D : Nat → Nat → Prop} {ps1 ps2 : List CH} {t : TypeId} {g off o : Nat} {cs cs' : List Value} (us : List Value) (v : Value) (C : Ctx w0 F0 D w F (ps1 ++ CH.row g off cs :: ps2)) (hp : Put cs o us cs') (hv : v.cells = us.toArray) (h1 : ∀ u ∈ us, u.oneCell' = true) (hs : (P.info? t).map (·.size) = some us.length) :
    ∃ w', (∀ (env : Env) (x y : Operand) (ty : TypeId), ev env x = .pointer (some ⟨g, off + o, none⟩) → ev env y = v → Yskip P env (.store t x y) ty w w') ∧ Ctx w0 F0 D w' F (ps1 ++ CH.row g off cs' :: ps2) := by
  obtain ⟨pre, z, post, h2, h3, h4, rfl⟩ := hp
  obtain ⟨w', hy, C'⟩ := ev_set cs pre z post us v C (by rw [h2, List.append_assoc]) h3 h4 hv h1 hs
  exact ⟨w', hy, by rw [List.append_assoc] at C'; exact C'⟩
theorem Fills.put {place : Nat → Option (Nat × Nat)} {i off n : Nat} {u : Value} {vs : List (Nat × Value)} (hv : u.cells = us.toArray) (hp : place i = some (off, n)) (hn : us.length = n) (r : Put a off us b) (h : Fills place vs b c) : Fills place ((i, u) :: vs) a c := by
  obtain ⟨pre, z, post, rfl, h3, h4, rfl⟩ := r
  exact Fills.seg hv hp hn rfl rfl h3 (by omega) h
end
section
variable {w0 w : World} {F0 F : CH} {D : Nat → Nat → Prop}
/-- Each of these is below. -/
def Lent (F' : CH) : List CH → Prop
  | [] => True
  | p :: r => CH.le p F' ∧ Lent F' r
theorem Lent.mono {F' F'' : CH} (h : CH.le F' F'') : ∀ {l : List CH}, Lent F' l → Lent F'' l
  | [], _ => trivial
  | _ :: _, k => ⟨CH.le_trans k.1 h, Lent.mono h k.2⟩
/-- All of these pieces are lent: the others stay. -/
theorem Ctx.lend : ∀ (qs : List CH) {F : CH} {ps : List CH}, Ctx w0 F0 D w F (qs ++ ps) → ∃ F', CH.le F F' ∧ Lent F' qs ∧ Ctx w0 F0 D w F' ps
  | [], F, ps, C => ⟨F, CH.le_refl _, trivial, C⟩
  | q :: qs, F, ps, C => by
    obtain ⟨F1, le1, lp, C1⟩ := Ctx.fzI 0 C rfl
    obtain ⟨F2, le2, l2, C2⟩ := Ctx.lend qs C1
    exact ⟨F2, CH.le_trans le1 le2, ⟨CH.le_trans lp le2, l2⟩, C2⟩
end
end Go.WG
namespace Go.WG
open Go.RowKit
/-- In a drawn region: operations by their places. -/
def runT (tb : List (Nat × List Nat)) (ops : Array Oper) : Nat → List (Nat × Option Nat) → Env → Option (List (Nat × Option Nat) × Env)
  | 0, l, env => some (l, env)
  | n + 1, (i, _) :: l, env => match ops[i]? with
    | some ⟨some d, op, _, _, _, none⟩ => (match pureV tb (ev env) op with
      | some v => runT tb ops n l (upd env d v)
      | none => none)
    | some ⟨some d, op, _, _, _, some (j, b)⟩ => (match yieldedE ops env j with
      | some b' => (match b, b' with
        | true, true | false, false => (match pureV tb (ev env) op with
          | some v => runT tb ops n l (upd env d v)
          | none => none)
        | _, _ => runT tb ops n l (upd env d undef))
      | none => none)
    | _ => none
  | _ + 1, _, _ => none
theorem WT.run {P : Program} {ops : Array Oper} {tb : List (Nat × List Nat)} {Ms : List (List Nat × CH)} {K : Env → Prop} {l l' : List (Nat × Option Nat)} {env env' : Env} (ht : PlaceOk P tb) (n : Nat) (h : runT tb ops n l env = some (l', env')) (k : WT P ops Ms K l' env') : WT P ops Ms K l env := by
  induction n generalizing l env with
  | zero => unfold runT at h; injection h with h; injection h with h1 h2; subst h1 h2; exact k
  | succ n ih =>
    cases l with
    | nil => simp [runT] at h
    | cons p l =>
      obtain ⟨i, q⟩ := p
      unfold runT at h
      split at h
      · rename_i d op ty pos aft ho
        split at h
        · rename_i v hv; exact WT.val ho (fun w _ => pureV_ok ht hv) (ih h)
        · cases h
      · rename_i d op ty pos aft j b ho
        have off : yieldedE ops env j = some (!b) → runT tb ops n l (upd env d undef) = some (l', env') → WT P ops Ms K ((i, q) :: l) env := fun hb h =>
          ⟨_, undef, ho, .inr ⟨by unfold Region.wanted; simp only [hb]; cases b <;> rfl, rfl⟩, ih h⟩
        have on : ∀ v, yieldedE ops env j = some b → pureV tb (ev env) op = some v → runT tb ops n l (upd env d v) = some (l', env') → WT P ops Ms K ((i, q) :: l) env := fun v hb hv h => by
          obtain ⟨x, hx, he⟩ := yieldedE_at hb
          exact WT.on ho hx he (fun w _ => pureV_ok ht hv) (ih h)
        split at h
        · rename_i b' hb
          cases b <;> cases b' <;> simp only at h
          · split at h
            · exact on _ hb (by assumption) h
            · cases h
          · exact off hb h
          · exact off hb h
          · split at h
            · exact on _ hb (by assumption) h
            · cases h
        · cases h
      · cases h
end Go.WG
namespace Go.WG
open Go.RowKit
section
variable {P : Program} {env : Env} {ty : TypeId} {w : World}
theorem Yl.mkFunc {f : FuncId} {x : Operand} {r : Value} (hx : Go.WG.ev env x = r) : Yl P env (.makeFunc (.func f) #[x] #[]) ty w (.func (.func f) #[r] #[]) w := by
  subst hx
  show (execOp (Go.WG.ev env) _).run P w = _
  simp [execOp, Instr.makeFunc]
theorem Yenter.fnB {x : Operand} {r : Value} {f : FuncId} {fn : Func} {xs : List Operand} {vs : List Value} {ts : Array TypeId} (hx : Go.WG.ev env x = .func (.func f) #[r] #[]) (hf : P.funcs[f]? = some fn) (hn : (fn.name == "runtime.NumGoroutine") = false) (hb : fn.body.isSome = true) (h : Evs env xs vs) :
    Yenter P env (.call { callee := .value x, args := xs.toArray, argTypes := ts }) ty w f (r :: vs).toArray := by
  show (execOp (Go.WG.ev env) _).run P w = _
  have hb' : ¬ fn.body = none := by cases h : fn.body <;> simp_all
  have hn' : ¬ fn.name = "runtime.NumGoroutine" := by simpa using hn
  have ha := argsE h
  simp [execOp, resolve, hx, Deferred.ofValue, invoke, callFunc, hf, hn', hb'] at ha ⊢
  rw [ha]
end
end Go.WG
namespace Go.WG
open Go.RowKit
/-- What is copied into an array. -/
def copyL (n : Nat) (a ys : List Int) : List Int := ys.take n ++ a.drop ys.length
theorem copyL_len {n : Nat} {a ys : List Int} (h : a.length = n) : (copyL n a ys).length = n := by
  unfold copyL
  rw [List.length_append, List.length_take, List.length_drop]; omega
theorem ev_copyArr {P : Program} {w0 w : World} {F0 F : CH} {D : Nat → Nat → Prop} {ps1 ps2 : List CH} {k : IntKind} {e te te2 : TypeId} {g off o n m : Nat} {A : Option Addr} {cs cs' : List Value} {a ys : List Int} {h : CH} (C : Ctx w0 F0 D w F (ps1 ++ CH.row g off cs :: ps2))
    (hput : Put cs o ((copyL n a ys).map (Value.int k)) cs') (hmid : (cs.drop o).take n = a.map (Value.int k)) (ha : a.length = n) (hm : m = ys.length) (hS : Sl (Kd.int k) F h A ys) (hs : Sub h w) (ht : P.underlying te = some (.slice e)) (hz : (P.info? e).map (·.size) = some 1) :
    ∃ w', (∀ (env : Env) (x y : Operand) (ty : TypeId) (c cy : Nat), Go.WG.ev env x = .slice (some ⟨g, off + o, none⟩) n c → Go.WG.ev env y = .slice A m cy → Yl P env (.call { callee := .builtin .copy, args := #[x, y], argTypes := #[te, te2] }) ty w (.int .i64 ((Nat.min ys.length n : Nat) : Int)) w') ∧ Ctx w0 F0 D w' F (ps1 ++ CH.row g off cs' :: ps2) := by
  obtain ⟨inf, hinf, hsz⟩ := Option.map_eq_some_iff.1 hz
  have hl := copyL_len (ys := ys) ha
  obtain ⟨pre, z, post, rfl, h1, h2, rfl⟩ := hput
  rw [List.length_map, hl] at h2
  have hz' : z = a.map (Value.int k) := by
    rw [← hmid, ← h1, List.drop_left, ← h2, List.take_left]
  subst hz'
  have hvl : ((ys.take n).map (Value.int k)).length = Nat.min ys.length n := by rw [List.length_map, List.length_take]; exact Nat.min_comm _ _
  have hle : Nat.min ys.length n ≤ n := Nat.min_le_right _ _
  obtain ⟨w', hst, C'⟩ := run_stores (P := P) g (off + o) ((ys.take n).map (Value.int k)) 0 w off o _ C (by omega) (by rw [hvl, List.length_append, List.length_append, List.length_map, ha]; omega) (fun u hu => by
    obtain ⟨q, _, rfl⟩ := List.mem_map.1 hu
    rfl)
  have hfc : ∀ cy, (Builtin.firstCells 1 (Nat.min ys.length n) (.slice A m cy)).run P w = .ok ((ys.take n).map (Value.int k)).toArray w := fun cy => by
    by_cases hp : 0 < ys.length
    · obtain ⟨b, off', rfl, hx⟩ := hS hp
      refine run_firstCells_some w 1 _ _ _ _ _ (by rw [hvl, Nat.mul_one]) fun j u hu => ?_
      rw [List.getElem?_map] at hu
      cases hq : (ys.take n)[j]? with
      | none => rw [hq] at hu; cases hu
      | some q =>
        rw [hq] at hu
        injection hu with hu
        subst hu
        rw [List.getElem?_take] at hq
        split at hq
        · obtain ⟨cs2, hr, hc⟩ := hx j q hq
          have hr' : cs2 = [.int k q] := hr
          subst hr'
          have := hs.cell (hc 0 _ rfl)
          rw [add_of]
          have e1 : (Kd.int k).sz = 1 := rfl
          rw [e1, Nat.mul_one, Nat.add_zero] at this
          exact this
        · cases hq
    · have h0 : ys = [] := List.eq_nil_of_length_eq_zero (by omega)
      subst h0
      have h0' : Nat.min ([] : List Int).length n = 0 := Nat.zero_min _
      rw [h0']
      cases A with
      | none => simp [Builtin.firstCells]
      | some b => simpa using run_firstCells_some w 1 0 b m cy [] (by simp) (by simp)
  refine ⟨w', fun env x y ty c cy hx hy => ?_, ?_⟩
  · show (execOp (Go.WG.ev env) _).run P w = _
    have := hfc cy
    subst hm
    generalize (ys.take n).map (Value.int k) = V at this hst
    simp [execOp, resolve, invoke, builtin, hx, hy, Builtin.copy_, run_underlying ht, sizeOf, typeInfo, hinf, hsz, Builtin.lenOf, this, hst, goInt]
  · have e1 : (pre ++ (a.map (Value.int k) ++ post)).take o = pre := by rw [← h1, List.take_left]
    have e2 : (pre ++ (a.map (Value.int k) ++ post)).drop (o + ((ys.take n).map (Value.int k)).length) = (a.drop ys.length).map (Value.int k) ++ post := by
      rw [← List.drop_drop, ← h1, List.drop_left, hvl]
      by_cases hc : ys.length ≤ n
      · have : Nat.min ys.length n = ys.length := Nat.min_eq_left hc
        rw [this, List.drop_append_of_le_length (by rw [List.length_map, ha]; exact hc), List.map_drop]
      · have : Nat.min ys.length n = n := Nat.min_eq_right (by omega)
        rw [this, List.drop_append_of_le_length (by rw [List.length_map, ha]; exact Nat.le_refl _), ← List.map_drop, List.drop_of_length_le (l := a) (by omega), List.drop_of_length_le (l := a) (by omega)]
    rw [e1, e2] at C'
    unfold copyL
    rw [List.map_append, List.append_assoc]
    rw [List.append_assoc] at C'
    exact C'
end Go.WG
