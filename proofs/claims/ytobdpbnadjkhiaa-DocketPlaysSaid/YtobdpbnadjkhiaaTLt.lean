/- Runs of operations that ask nothing of the heap, by evaluation; slots told anew; several pieces lent at once; short steps. -/
import Derived.Test.YtobdpbnadjkhiaaTLs
namespace Go.WG
open Go.RowKit
/-- A value whose form is there. -/
def hdV : Value → Option Value
 | .bool b => some (.bool b)
 | .int k n => some (.int k n)
 | .string s => some (.string s)
 | .pointer a => some (.pointer a)
 | .slice a l c => some (.slice a l c)
 | .map r => some (.map r)
 | .func f a b => some (.func f a b)
 | .nilFunc => some .nilFunc
 | .iface t v => some (.iface t v)
 | .nilIface => some .nilIface
 | .agg cs => some (.agg cs)
 | .tuple vs => some (.tuple vs)
 | _ => none
theorem hdV_eq {v u : Value} (h : hdV v = some u) : v = u := by cases v <;> simp [hdV] at h <;> exact h
/-- Where a struct's fields lie: the type, the field, its place. -/
def placeOf : List (Nat × List Nat) → Nat → Nat → Option Nat
 | [], _, _ => none
 | (t, fs) :: r, s, i => cond (Nat.beq t s) fs[i]? (placeOf r s i)
def PlaceOk (P : Program) (tb : List (Nat × List Nat)) : Prop :=
 ∀ t i k, placeOf tb t i = some k → ∃ fs : Array Field, ∃ f sz, P.underlying t = some (.struct fs) ∧ fs[i]? = some f ∧ f.offset = k ∧ (P.info? f.type).map (·.size) = some (sz + 1)
def placeFine (P : Program) (t : Nat) (ks : List Nat) : Bool :=
 match P.underlying t with
 | some (.struct fs) => (List.range ks.length).all fun i => match fs[i]?, ks[i]? with
  | some f, some k => Nat.beq f.offset k && (match (P.info? f.type).map (·.size) with | some (_ + 1) => true | _ => false)
  | _, _ => false
 | _ => false
theorem PlaceOk.of {P : Program} : ∀ {tb : List (Nat × List Nat)}, (tb.all fun p => placeFine P p.1 p.2) = true → PlaceOk P tb
 | [], _ => fun _ _ _ h => by cases h
 | (t, ks) :: r, h => fun s i k hk => by
  rw [List.all_cons, Bool.and_eq_true] at h
  unfold placeOf at hk
  by_cases e : t = s
  ·subst e
   rw [Nat.beq_refl, _root_.cond_true] at hk
   have h1 := h.1
   unfold placeFine at h1
   split at h1
   ·rename_i fs hu
    have h2 := List.all_eq_true.1 h1 i (List.mem_range.2 (by
     by_cases hi : i < ks.length
     ·exact hi
     ·rw [List.getElem?_eq_none (by omega)] at hk; cases hk))
    rw [hk] at h2
    cases hf : fs[i]? with
    | none => rw [hf] at h2; cases h2
    | some f =>
     rw [hf] at h2
     simp only [Bool.and_eq_true] at h2
     obtain ⟨h3, h4⟩ := h2
     cases hs : (P.info? f.type).map (·.size) with
     | none => rw [hs] at h4; cases h4
     | some z =>
      cases z with
      | zero => rw [hs] at h4; cases h4
      | succ z => exact ⟨fs, f, z, hu, hf, Nat.eq_of_beq_eq_true h3, hs⟩
   ·cases h1
  ·have : Nat.beq t s = false := by
    rw [Bool.eq_false_iff]
    exact fun b => e (Nat.eq_of_beq_eq_true b)
   rw [this, _root_.cond_false] at hk
   exact PlaceOk.of h.2 s i k hk
def kEq : IntKind → IntKind → Bool
 | .i8, .i8 => true
 | .i16, .i16 => true
 | .i32, .i32 => true
 | .i64, .i64 => true
 | .u8, .u8 => true
 | .u16, .u16 => true
 | .u32, .u32 => true
 | .u64, .u64 => true
 | _, _ => false
theorem kEq_eq {a b : IntKind} (h : kEq a b = true) : a = b := by cases a <;> cases b <;> first | rfl | cases h
def wrapV : IntKind → Int → Option Value
 | .i8, x => some (.int .i8 (wi8 x))
 | .i16, x => some (.int .i16 (wi16 x))
 | .i32, x => some (.int .i32 (wi32 x))
 | .i64, x => some (.int .i64 (wi64 x))
 | .u8, x => some (.int .u8 (wu8 x))
 | .u16, x => some (.int .u16 (wu16 x))
 | .u32, x => some (.int .u32 (wu32 x))
 | .u64, x => some (.int .u64 (wu64 x))
theorem wrapV_eq {k : IntKind} {x : Int} {v : Value} (h : wrapV k x = some v) : v = .int k (k.wrap x) := by
 cases k <;> (injection h with h; exact h.symm)
def binV (op : BinOp) (k : IntKind) (m n : Int) : Option Value :=
 match op with
 | .add => wrapV k (m + n)
 | .sub => wrapV k (m - n)
 | .mul => wrapV k (m * n)
 | .lss => some (.bool (decide (m < n)))
 | .leq => some (.bool (decide (m ≤ n)))
 | .gtr => some (.bool (decide (m > n)))
 | .geq => some (.bool (decide (m ≥ n)))
 | .eql => some (.bool (decide (m = n)))
 | .neq => some (.bool (!decide (m = n)))
 | _ => none
/-- What an operation yields that asks nothing of the heap, as far as its form is there. -/
def pureV (tb : List (Nat × List Nat)) (ρ : Operand → Value) : Op → Option Value
 | .move x => hdV (ρ x)
 | .assign x => hdV (ρ x)
 | .pick c x y => match ρ c with
  | .bool true => hdV (ρ x)
  | .bool false => hdV (ρ y)
  | _ => none
 | .nilCheck x => match ρ x with
  | .pointer (some a) => some (.pointer (some a))
  | _ => none
 | .fieldAddr s x i => match ρ x with
  | .pointer (some ⟨g, o, none⟩) => match placeOf tb s i with
   | some k => some (.pointer (some ⟨g, o + k, none⟩))
   | none => none
  | _ => none
 | .extract x i => match ρ x with
  | .tuple vs => match vs[i]? with
   | some v => hdV v
   | none => none
  | _ => none
 | .unOp .not _ x => match ρ x with
  | .bool b => some (.bool (!b))
  | _ => none
 | .binOp op _ x y _ => match ρ x, ρ y with
  | .int k m, .int k' n => cond (kEq k k') (binV op k m n) none
  | _, _ => none
 | _ => none
section
variable {P : Program} {tb : List (Nat × List Nat)} {env : Env} {ty : TypeId} {w : World} {v : Value}
theorem pureV_ok (ht : PlaceOk P tb) {op : Op} (h : pureV tb (ev env) op = some v) : Yl P env op ty w v w := by
 unfold pureV at h
 split at h
 ·exact Yl.move (hdV_eq h)
 ·exact Yl.assign (hdV_eq h)
 ·split at h
  ·exact Yl.pickT (by assumption) (hdV_eq h)
  ·exact Yl.pickF (by assumption) (hdV_eq h)
  ·cases h
 ·split at h
  ·injection h with h; subst h; exact Yl.nilCheck (by assumption)
  ·cases h
 ·split at h
  ·split at h
   ·rename_i hk
    injection h with h; subst h
    obtain ⟨fs, f, sz, h1, h2, h3, h4⟩ := ht _ _ _ hk
    subst h3
    exact Yl.fieldAddr (by assumption) h1 h2 h4
   ·cases h
  ·cases h
 ·split at h
  ·split at h
   ·rename_i hi
    exact Yl.extract (by assumption) (by rw [hi, hdV_eq h])
   ·cases h
  ·cases h
 ·split at h
  ·injection h with h; subst h; exact Yl.not (by assumption) rfl
  ·cases h
 ·split at h
  ·rename_i hx hy
   rename_i op' _ _ _ _ _ _ k m k' n
   cases hk : kEq k k' with
   | false => rw [hk] at h; cases h
   | true =>
    rw [hk, _root_.cond_true] at h
    obtain rfl := kEq_eq hk
    unfold binV at h
    split at h <;> first | (have h' := wrapV_eq h; subst h') | (injection h with h; subst h) | cases h
    ·exact Yl.add hx hy rfl
    ·exact Yl.sub hx hy rfl
    ·exact Yl.mul hx hy rfl
    ·exact Yl.lss hx hy rfl
    ·exact Yl.leq hx hy rfl
    ·exact Yl.gtr hx hy rfl
    ·exact Yl.geq hx hy rfl
    ·exact Yl.eql hx hy rfl
    ·exact Yl.neq hx hy rfl
  ·cases h
 ·cases h
end
/-- Such operations, one after the other; those behind guards that are there too. -/
def runP (tb : List (Nat × List Nat)) (ops : Array Oper) : Nat → List Oper → Env → Option (List Oper × Env)
 | 0, l, env => some (l, env)
 | n + 1, ⟨some d, op, _, _, _, none⟩ :: l, env => match pureV tb (ev env) op with
  | some v => runP tb ops n l (upd env d v)
  | none => none
 | n + 1, ⟨some d, op, _, _, _, some (j, b)⟩ :: l, env => match yieldedE ops env j with
  | some b' => match b, b' with
   | true, true | false, false => (match pureV tb (ev env) op with
    | some v => runP tb ops n l (upd env d v)
    | none => none)
   | _, _ => runP tb ops n l (upd env d undef)
  | none => none
 | _ + 1, _, _ => none
section
variable {P : Program} {ops : Array Oper} {tb : List (Nat × List Nat)} {Q : Exit → Env → World → Prop} {env env' : Env} {w : World} {l l' : List Oper} {v : Value} {d : Nat} {t : Nat}
theorem yieldedE_at {j : Nat} {b : Bool} (h : yieldedE ops env j = some b) : ∃ x, (ops[j]?).bind (·.dst) = some x ∧ env x = .bool b := by
 unfold yieldedE at h
 cases hj : (ops[j]?).bind (·.dst) with
 | none => rw [hj] at h; cases h
 | some x =>
  rw [hj] at h
  refine ⟨x, rfl, ?_⟩
  simp only at h
  cases hx : env x with
  | bool c => rw [hx] at h; simp only at h; injection h with h; rw [h]
  | _ => rw [hx] at h; cases h
theorem runP_step {n : Nat} (h : runP tb ops (n + 1) l env = some (l', env')) : ∃ d op ty pos aft g r v, l = ⟨some d, op, ty, pos, aft, g⟩ :: r ∧ runP tb ops n r (upd env d v) = some (l', env') ∧
  ((g = none ∧ pureV tb (ev env) op = some v) ∨ (∃ j b x, g = some (j, b) ∧ (ops[j]?).bind (·.dst) = some x ∧ ((env x = .bool b ∧ pureV tb (ev env) op = some v) ∨ (env x = .bool (!b) ∧ v = undef)))) := by
 cases l with
 | nil => simp [runP] at h
 | cons o r =>
  obtain ⟨dst, op, ty, pos, aft, g⟩ := o
  cases dst with
  | none => simp [runP] at h
  | some d =>
   cases g with
   | none =>
    unfold runP at h
    split at h
    ·rename_i v hv; exact ⟨d, op, ty, pos, aft, none, r, v, rfl, h, .inl ⟨rfl, hv⟩⟩
    ·cases h
   | some g =>
    obtain ⟨j, b⟩ := g
    unfold runP at h
    split at h
    ·rename_i b' hb
     obtain ⟨x, hx, he⟩ := yieldedE_at hb
     cases b <;> cases b' <;> simp only at h
     ·split at h
      ·rename_i v hv; exact ⟨d, op, ty, pos, aft, _, r, v, rfl, h, .inr ⟨j, _, x, rfl, hx, .inl ⟨he, hv⟩⟩⟩
      ·cases h
     ·exact ⟨d, op, ty, pos, aft, _, r, undef, rfl, h, .inr ⟨j, _, x, rfl, hx, .inr ⟨he, rfl⟩⟩⟩
     ·exact ⟨d, op, ty, pos, aft, _, r, undef, rfl, h, .inr ⟨j, _, x, rfl, hx, .inr ⟨he, rfl⟩⟩⟩
     ·split at h
      ·rename_i v hv; exact ⟨d, op, ty, pos, aft, _, r, v, rfl, h, .inr ⟨j, _, x, rfl, hx, .inl ⟨he, hv⟩⟩⟩
      ·cases h
    ·cases h
theorem WL.run (ht : PlaceOk P tb) (n : Nat) (h : runP tb ops n l env = some (l', env')) (k : WL P ops Q l' env' w) : WL P ops Q l env w := by
 induction n generalizing l env with
 | zero => unfold runP at h; injection h with h; injection h with h1 h2; subst h1 h2; exact k
 | succ n ih =>
  obtain ⟨d, op, ty, pos, aft, g, r, v, rfl, hr, hg⟩ := runP_step h
  rcases hg with ⟨rfl, hv⟩ | ⟨j, b, x, rfl, hx, hg⟩
  ·exact WL.val (pureV_ok ht hv) (ih hr)
  ·rcases hg with ⟨he, hv⟩ | ⟨he, rfl⟩
   ·exact WL.valOn hx he (pureV_ok ht hv) (ih hr)
   ·exact WL.off hx he (ih hr)
theorem WQ.run {C : World → Prop} {Q : Env → Prop} (ht : PlaceOk P tb) (n : Nat) (h : runP tb ops n l env = some (l', env')) (k : WQ P ops C Q l' env') : WQ P ops C Q l env := by
 induction n generalizing l env with
 | zero => unfold runP at h; injection h with h; injection h with h1 h2; subst h1 h2; exact k
 | succ n ih =>
  obtain ⟨d, op, ty, pos, aft, g, r, v, rfl, hr, hg⟩ := runP_step h
  rcases hg with ⟨rfl, hv⟩ | ⟨j, b, x, rfl, hx, hg⟩
  ·exact WQ.val (fun w _ => pureV_ok ht hv) (ih hr)
  ·rcases hg with ⟨he, hv⟩ | ⟨he, rfl⟩
   ·exact WQ.on hx he (WQ.val (fun w _ => pureV_ok ht hv) (ih hr))
   ·exact WQ.off hx he (ih hr)
/-- A slot, told as it is. -/
theorem upd_at (h : env t = v) : upd env t v = env := by
 funext u
 unfold upd
 by_cases e : u = t
 ·subst e; rw [Nat.beq_refl, _root_.cond_true, h]
 ·have : Nat.beq u t = false := by
   rw [Bool.eq_false_iff]
   exact fun b => e (Nat.eq_of_beq_eq_true b)
  rw [this, _root_.cond_false]
theorem WL.kn (t : Nat) {v : Value} (h : env t = v) (k : WL P ops Q l (upd env t v) w) : WL P ops Q l env w := by rw [upd_at h] at k; exact k
theorem WQ.kn {C : World → Prop} {Q : Env → Prop} (t : Nat) {v : Value} (h : env t = v) (k : WQ P ops C Q l (upd env t v)) : WQ P ops C Q l env := by rw [upd_at h] at k; exact k
/-- Slots that are told, written down. -/
def KN (env e : Env) : Prop := e = env
theorem KN.n : KN env env := rfl
theorem KN.c {e : Env} (h : env t = v) (r : KN env e) : KN env (upd e t v) := by
 unfold KN at r ⊢
 subst r
 exact upd_at h
theorem kn (env : Env) {R : Env → Prop} {e : Env} (h : KN env e) (k : R e) : R env := by
 unfold KN at h
 subst h
 exact k
/-- Slots that are told in one row. -/
def Kn (env : Env) (l : List (Nat × Value)) : Prop := l.map (fun p => env p.1) = l.map Prod.snd
theorem Kn.n : Kn env [] := rfl
theorem Kn.c {r : List (Nat × Value)} (h : env t = v) (k : Kn env r) : Kn env ((t, v) :: r) := by
 unfold Kn at k ⊢
 rw [List.map_cons, List.map_cons, k, h]
def upds (env : Env) : List (Nat × Value) → Env
 | [] => env
 | (t, v) :: r => upd (upds env r) t v
theorem Kn.upds {env : Env} : ∀ {l : List (Nat × Value)}, Kn env l → Go.WG.upds env l = env
 | [], _ => rfl
 | (t, v) :: r, h => by
  unfold Kn at h
  rw [List.map_cons, List.map_cons] at h
  injection h with h1 h2
  rw [Go.WG.upds, Kn.upds (l := r) h2]
  exact upd_at h1
theorem ks (env : Env) {R : Env → Prop} {l : List (Nat × Value)} (h : Kn env l) (k : R (upds env l)) : R env := by
 rw [h.upds] at k
 exact k
/-- Short forms. -/
theorem W.sr {N : Nat} {id : Nat} {y : Code} (hok : l.all (dstOk N) = true) (h : WL P l.toArray (thenE (W P N y Q) Q) l env w) : W P N (.seq (.region id l.toArray false) y) Q env w := W.seq (W.region hok h)
theorem W.cT {N : Nat} {c : Operand} {x y : Code} {p : Prop} [Decidable p] (h : p) (hc : ev env c = .bool (decide p)) (k : W P N x Q env w) : W P N (.cond c x y) Q env w := W.condT (by rw [hc, decide_eq_true h]) k
theorem W.cF {N : Nat} {c : Operand} {x y : Code} {p : Prop} [Decidable p] (h : ¬ p) (hc : ev env c = .bool (decide p)) (k : W P N y Q env w) : W P N (.cond c x y) Q env w := W.condF (by rw [hc, decide_eq_false h]) k
theorem W.nT {N : Nat} {c : Operand} {x y : Code} {p : Prop} [Decidable p] (h : ¬ p) (hc : ev env c = .bool (!decide p)) (k : W P N x Q env w) : W P N (.cond c x y) Q env w := W.condT (by rw [hc, decide_eq_false h]; rfl) k
theorem W.nF {N : Nat} {c : Operand} {x y : Code} {p : Prop} [Decidable p] (h : p) (hc : ev env c = .bool (!decide p)) (k : W P N y Q env w) : W P N (.cond c x y) Q env w := W.condF (by rw [hc, decide_eq_true h]; rfl) k
end
end Go.WG
namespace Go.WG
open Go.RowKit
section
variable {a b c rest rest' us z : List Value} {v : Value} {m : Nat}
theorem len_map {α β : Type} {f : α → β} {l : List α} {n : Nat} (h : l.length = n) : (l.map f).length = n := by rw [List.length_map]; exact h
theorem len_app {n m : Nat} (h : a.length = n) (k : b.length = m) : (a ++ b).length = n + m := by rw [List.length_append, h, k]
theorem at_skip (n k : Nat) (h : a.length = n) (r : rest[k]? = some v) : (a ++ rest)[n + k]? = some v := by rw [List.getElem?_append_right (by omega), h, Nat.add_sub_cancel_left]; exact r
theorem mid_skip (n k : Nat) (h : a.length = n) (r : (rest.drop k).take m = us) : ((a ++ rest).drop (n + k)).take m = us := by
 rw [← h, ← List.drop_drop, List.drop_left]
 exact r
theorem mid_here (h : us.length = m) : ((us ++ rest).drop 0).take m = us := by rw [List.drop_zero, ← h, List.take_left]
theorem mid_all (h : us.length = m) : (us.drop 0).take m = us := by rw [List.drop_zero, ← h, List.take_length]
/-- Cells us stand at o behind. -/
def Put (cs : List Value) (o : Nat) (us cs' : List Value) : Prop := ∃ pre z post, cs = pre ++ (z ++ post) ∧ pre.length = o ∧ z.length = us.length ∧ cs' = pre ++ (us ++ post)
theorem Put.all (n : Nat) (h : z.length = n) (k : us.length = n) : Put z 0 us us := ⟨[], z, [], by simp, rfl, by rw [h, k], by simp⟩
theorem Put.here (n : Nat) (h : z.length = n) (k : us.length = n) : Put (z ++ rest) 0 us (us ++ rest) := ⟨[], z, rest, rfl, rfl, by rw [h, k], rfl⟩
theorem Put.skip (n k : Nat) (h : a.length = n) (r : Put rest k us rest') : Put (a ++ rest) (n + k) us (a ++ rest') := by
 obtain ⟨pre, z, post, rfl, h1, h2, rfl⟩ := r
 exact ⟨a ++ pre, z, post, by simp, by rw [List.length_append, h, h1], h2, by simp⟩
theorem Put.left {k : Nat} (r : Put a k us b) : Put (a ++ rest) k us (b ++ rest) := by
 obtain ⟨pre, z, post, rfl, h1, h2, rfl⟩ := r
 exact ⟨pre, z, post ++ rest, by simp, h1, h2, by simp⟩
theorem Put.lit (k : Nat) (h : Nat.ble (k + us.length) a.length = true) : Put a k us (a.take k ++ us ++ a.drop (k + us.length)) := by
 have hle := Nat.le_of_ble_eq_true h
 refine ⟨a.take k, (a.drop k).take us.length, a.drop (k + us.length), ?_, by rw [List.length_take]; omega, by rw [List.length_take, List.length_drop]; omega, by simp⟩
 rw [← List.drop_drop, List.take_append_drop, List.take_append_drop]
theorem Put.to {cs : List Value} {o : Nat} {cs' : List Value} (r : Put cs o us b) (e : b = cs') : Put cs o us cs' := e ▸ r
theorem ev_put {P : Program} {w0 w : World} {F0 F : CH} {D : Nat → Nat → Prop} {ps1 ps2 : List CH} {t : TypeId} {g off o : Nat} {cs cs' : List Value} (us : List Value) (v : Value) (C : Ctx w0 F0 D w F (ps1 ++ CH.row g off cs :: ps2)) (hp : Put cs o us cs') (hv : v.cells = us.toArray) (h1 : ∀ u ∈ us, u.oneCell' = true) (hs : (P.info? t).map (·.size) = some us.length) :
  ∃ w', (∀ (env : Env) (x y : Operand) (ty : TypeId), ev env x = .pointer (some ⟨g, off + o, none⟩) → ev env y = v → Yskip P env (.store t x y) ty w w') ∧ Ctx w0 F0 D w' F (ps1 ++ CH.row g off cs' :: ps2) := by
 obtain ⟨pre, z, post, h2, h3, h4, rfl⟩ := hp
 obtain ⟨w', hy, C'⟩ := ev_set cs pre z post us v C (by rw [h2, List.append_assoc]) h3 h4 hv h1 hs
 exact ⟨w', hy, by rw [List.append_assoc] at C'; exact C'⟩
theorem Fills.put {place : Nat → Option (Nat × Nat)} {i off n : Nat} {u : Value} {vs : List (Nat × Value)} (hv : u.cells = us.toArray) (hp : place i = some (off, n)) (hn : us.length = n) (r : Put a off us b) (h : Fills place vs b c) : Fills place ((i, u) :: vs) a c := by
 obtain ⟨pre, z, post, rfl, h3, h4, rfl⟩ := r
 exact Fills.seg hv hp hn rfl rfl h3 (by omega) h
end
section
variable {w0 w : World} {F0 F : CH} {D : Nat → Nat → Prop}
/-- Each of these is below. -/
def Lent (F' : CH) : List CH → Prop
 | [] => True
 | p :: r => CH.le p F' ∧ Lent F' r
theorem Lent.mono {F' F'' : CH} (h : CH.le F' F'') : ∀ {l : List CH}, Lent F' l → Lent F'' l
 | [], _ => trivial
 | _ :: _, k => ⟨CH.le_trans k.1 h, Lent.mono h k.2⟩
/-- All of these pieces are lent: the others stay. -/
theorem Ctx.lend : ∀ (qs : List CH) {F : CH} {ps : List CH}, Ctx w0 F0 D w F (qs ++ ps) → ∃ F', CH.le F F' ∧ Lent F' qs ∧ Ctx w0 F0 D w F' ps
 | [], F, ps, C => ⟨F, CH.le_refl _, trivial, C⟩
 | q :: qs, F, ps, C => by
  obtain ⟨F1, le1, lp, C1⟩ := Ctx.fzI 0 C rfl
  obtain ⟨F2, le2, l2, C2⟩ := Ctx.lend qs C1
  exact ⟨F2, CH.le_trans le1 le2, ⟨CH.le_trans lp le2, l2⟩, C2⟩
end
end Go.WG
namespace Go.WG
open Go.RowKit
/-- In a drawn region: operations by their places. -/
def runT (tb : List (Nat × List Nat)) (ops : Array Oper) : Nat → List (Nat × Option Nat) → Env → Option (List (Nat × Option Nat) × Env)
 | 0, l, env => some (l, env)
 | n + 1, (i, _) :: l, env => match ops[i]? with
  | some ⟨some d, op, _, _, _, none⟩ => (match pureV tb (ev env) op with
   | some v => runT tb ops n l (upd env d v)
   | none => none)
  | some ⟨some d, op, _, _, _, some (j, b)⟩ => (match yieldedE ops env j with
   | some b' => (match b, b' with
    | true, true | false, false => (match pureV tb (ev env) op with
     | some v => runT tb ops n l (upd env d v)
     | none => none)
    | _, _ => runT tb ops n l (upd env d undef))
   | none => none)
  | _ => none
 | _ + 1, _, _ => none
theorem WT.run {P : Program} {ops : Array Oper} {tb : List (Nat × List Nat)} {Ms : List (List Nat × CH)} {K : Env → Prop} {l l' : List (Nat × Option Nat)} {env env' : Env} (ht : PlaceOk P tb) (n : Nat) (h : runT tb ops n l env = some (l', env')) (k : WT P ops Ms K l' env') : WT P ops Ms K l env := by
 induction n generalizing l env with
 | zero => unfold runT at h; injection h with h; injection h with h1 h2; subst h1 h2; exact k
 | succ n ih =>
  cases l with
  | nil => simp [runT] at h
  | cons p l =>
   obtain ⟨i, q⟩ := p
   unfold runT at h
   split at h
   ·rename_i d op ty pos aft ho
    split at h
    ·rename_i v hv; exact WT.val ho (fun w _ => pureV_ok ht hv) (ih h)
    ·cases h
   ·rename_i d op ty pos aft j b ho
    have off : yieldedE ops env j = some (!b) → runT tb ops n l (upd env d undef) = some (l', env') → WT P ops Ms K ((i, q) :: l) env := fun hb h =>
     ⟨_, undef, ho, .inr ⟨by unfold Region.wanted; simp only [hb]; cases b <;> rfl, rfl⟩, ih h⟩
    have on : ∀ v, yieldedE ops env j = some b → pureV tb (ev env) op = some v → runT tb ops n l (upd env d v) = some (l', env') → WT P ops Ms K ((i, q) :: l) env := fun v hb hv h => by
     obtain ⟨x, hx, he⟩ := yieldedE_at hb
     exact WT.on ho hx he (fun w _ => pureV_ok ht hv) (ih h)
    split at h
    ·rename_i b' hb
     cases b <;> cases b' <;> simp only at h
     ·split at h
      ·exact on _ hb (by assumption) h
      ·cases h
     ·exact off hb h
     ·exact off hb h
     ·split at h
      ·exact on _ hb (by assumption) h
      ·cases h
    ·cases h
   ·cases h
end Go.WG
namespace Go.WG
open Go.RowKit
section
variable {P : Program} {env : Env} {ty : TypeId} {w : World}
end
end Go.WG
namespace Go.WG
open Go.RowKit
end Go.WG
namespace Go.WG
open Go.RowKit
abbrev Cx {w0 : World} {F0 : CH} {D : Nat → Nat → Prop} {w : World} {F : CH} (ps : List CH) : Prop := Ctx w0 F0 D w F ps
section
variable {P : Program} {N : Nat} {ops : Array Oper} {tb : List (Nat × List Nat)} {Q : Exit → Env → World → Prop} {env env' : Env} {w : World} {l rest : List Oper} {v : Value} {w0 : World} {F0 F : CH} {D : Nat → Nat → Prop} {ps : List CH} {cs cs' : List Value} {g off d t : Nat} {ty : TypeId} {pos : String} {aft : Array Edge} {x y : Operand} {u : TypeDesc}
/-- A run to the region's end. -/
theorem WL.rd (ht : PlaceOk P tb) (n : Nat) (h : runP tb ops n l env = some ([], env')) (k : Q .normal env' w) : WL P ops Q l env w := WL.run ht n h (WL.done k)
/-- A cell of a variable is read. -/
theorem WL.lv (C : Ctx w0 F0 D w F ps) (i o : Nat) (hp : ps[i]? = some (CH.row g off cs)) (hx : ev env x = .pointer (some ⟨g, off + o, none⟩)) (hu : P.underlying t = some u) (hd : aggD u = false) (hc : cs[o]? = some v) (k : WL P ops Q rest (upd env d v) w) :
  WL P ops Q (⟨some d, .load t x, ty, pos, aft, none⟩ :: rest) env w := WL.val (Yl.loadV hx hu hd (Ctx.subI i C hp) hc) k
theorem WL.lvG {j z : Nat} {b : Bool} (C : Ctx w0 F0 D w F ps) (i o : Nat) (hj : (ops[j]?).bind (·.dst) = some z) (hb : env z = .bool b) (hp : ps[i]? = some (CH.row g off cs)) (hx : ev env x = .pointer (some ⟨g, off + o, none⟩)) (hu : P.underlying t = some u) (hd : aggD u = false) (hc : cs[o]? = some v) (k : WL P ops Q rest (upd env d v) w) :
  WL P ops Q (⟨some d, .load t x, ty, pos, aft, some (j, b)⟩ :: rest) env w := WL.valOn hj hb (Yl.loadV hx hu hd (Ctx.subI i C hp) hc) k
theorem WQ.lv {W : World} {Q : Env → Prop} (C : Ctx w0 F0 D W F ps) (i o : Nat) (hp : ps[i]? = some (CH.row g off cs)) (hx : ev env x = .pointer (some ⟨g, off + o, none⟩)) (hu : P.underlying t = some u) (hd : aggD u = false) (hc : cs[o]? = some v) (k : WQ P ops (fun w' => ∃ n, w' = W.drewN n) Q rest (upd env d v)) :
  WQ P ops (fun w' => ∃ n, w' = W.drewN n) Q (⟨some d, .load t x, ty, pos, aft, none⟩ :: rest) env := WQ.vl (fun n => Yl.loadV hx hu hd (Ctx.subI i (C.drewN n) hp) hc) k
theorem WQ.lvG {W : World} {Q : Env → Prop} {j z : Nat} {b : Bool} (C : Ctx w0 F0 D W F ps) (i o : Nat) (hj : (ops[j]?).bind (·.dst) = some z) (hb : env z = .bool b) (hp : ps[i]? = some (CH.row g off cs)) (hx : ev env x = .pointer (some ⟨g, off + o, none⟩)) (hu : P.underlying t = some u) (hd : aggD u = false) (hc : cs[o]? = some v) (k : WQ P ops (fun w' => ∃ n, w' = W.drewN n) Q rest (upd env d v)) :
  WQ P ops (fun w' => ∃ n, w' = W.drewN n) Q (⟨some d, .load t x, ty, pos, aft, some (j, b)⟩ :: rest) env := WQ.vOn hj hb (fun n => Yl.loadV hx hu hd (Ctx.subI i (C.drewN n) hp) hc) k
theorem WT.lv {Ms : List (List Nat × CH)} {K : Env → Prop} {r : List (Nat × Option Nat)} {i q : Nat} {S : List Nat} (o : Nat) (hi : ops[i]? = some ⟨some d, .load t x, ty, pos, aft, none⟩) (hq : Ms[q]? = some (S, CH.row g off cs)) (hx : ev env x = .pointer (some ⟨g, off + o, none⟩)) (hu : P.underlying t = some u) (hd : aggD u = false) (hc : cs[o]? = some v) (h : WT P ops Ms K r (upd env d v)) :
  WT P ops Ms K ((i, some q) :: r) env := WT.val hi (fun w hw => Yl.loadV hx hu hd (by unfold Cof at hw; simp only [hq] at hw; exact hw) hc) h
/-- A variable's cells are written. -/
theorem WL.st (C : Ctx w0 F0 D w F ps) (i o : Nat) (us : List Value) (hp : ps[i]? = some (CH.row g off cs)) (hx : ev env x = .pointer (some ⟨g, off + o, none⟩)) (hy : ev env y = v) (hv : v.cells = us.toArray) (put : Put cs o us cs') (h1 : ∀ u ∈ us, u.oneCell' = true) (hs : (P.info? t).map (·.size) = some us.length)
  (k : ∀ w', Ctx w0 F0 D w' F (ps.set i (CH.row g off cs')) → WL P ops Q rest env w') : WL P ops Q (⟨none, .store t x y, ty, pos, aft, none⟩ :: rest) env w := by
 obtain ⟨hi, he⟩ := List.getElem?_eq_some_iff.1 hp
 have e : ps = ps.take i ++ CH.row g off cs :: ps.drop (i + 1) := by rw [← he, ← List.drop_eq_getElem_cons hi, List.take_append_drop]
 rw [e] at C
 obtain ⟨w', hst, C'⟩ := ev_put (P := P) us v C put hv h1 hs
 refine WL.skip (hst env x y ty hx hy) (k w' ?_)
 rw [List.set_eq_take_append_cons_drop, if_pos hi]
 exact C'
end
section
variable {P : Program} {N : Nat} {ops : Array Oper} {tb : List (Nat × List Nat)} {Q : Exit → Env → World → Prop} {env env' : Env} {w : World} {l rest : List Oper} {v : Value} {w0 : World} {F0 F : CH} {D : Nat → Nat → Prop} {ps : List CH} {cs cs' : List Value} {g off t d : Nat} {dst : Option Nat} {ty : TypeId} {pos : String} {aft : Array Edge} {x y : Operand} {u : TypeDesc}
/-- Which functions have a body: told once. -/
def EntOk (P : Program) (fs : List Nat) : Prop := ∀ f, fs.contains f = true → ∃ fn, P.funcs[f]? = some fn ∧ (fn.name == "runtime.NumGoroutine") = false ∧ fn.body.isSome = true
def entFine (P : Program) (f : Nat) : Bool :=
 match P.funcs[f]? with
 | some fn => !(fn.name == "runtime.NumGoroutine") && fn.body.isSome
 | none => false
theorem EntOk.of {P : Program} : ∀ {fs : List Nat}, (fs.all (entFine P)) = true → EntOk P fs
 | [], _ => fun f h => by simp at h
 | g :: r, h => fun f hf => by
  rw [List.all_cons, Bool.and_eq_true] at h
  by_cases e : f = g
  ·subst e
   have h1 := h.1
   unfold entFine at h1
   split at h1
   next fn hfn =>
    rw [Bool.and_eq_true] at h1
    exact ⟨fn, hfn, by simpa using h1.1, h1.2⟩
   ·cases h1
  ·exact EntOk.of h.2 f (by simpa [e] using hf)
theorem EntOk.fn {fs : List Nat} {f : FuncId} {as : Array Operand} {ts : Array TypeId} {args : Array Value} (h : EntOk P fs) (hf : fs.contains f = true) (ha : as.map (Go.WG.ev env) = args) :
  Yenter P env (.call { callee := .value (.func f), args := as, argTypes := ts }) ty w f args := by
 obtain ⟨fn, h1, h2, h3⟩ := h f hf
 exact Yenter.fn h1 h2 h3 ha
theorem argsR {xs : List Operand} {vs : List Value} (h : xs.map (Go.WG.ev env) = vs) : xs.toArray.map (Go.WG.ev env) = vs.toArray := by
 rw [← h]; simp
theorem EntOk.fr {fs : List Nat} {f : FuncId} {xs : List Operand} {ts : Array TypeId} {vs : List Value} (h : EntOk P fs) (hf : fs.contains f = true) (ha : xs.map (Go.WG.ev env) = vs) :
  Yenter P env (.call { callee := .value (.func f), args := xs.toArray, argTypes := ts }) ty w f vs.toArray := h.fn hf (argsR ha)
/-- Calls that leave the variables as they are. -/
theorem WL.cq {op : Op} {f : FuncId} {args : Array Value} {v : Value} (C : Ctx w0 F0 D w F ps) (hc : Calls P f args w fun e w' => e = .returned v ∧ (∃ n, w' = w.drewN n)) (h : Yenter P env op ty w f args) (k : ∀ w', Ctx w0 F0 D w' F ps → WL P ops Q rest (putE env dst v) w') :
  WL P ops Q (⟨dst, op, ty, pos, aft, none⟩ :: rest) env w := WL.call h hc fun e w' ⟨he, n, hn⟩ => ⟨v, he, by rw [hn]; exact k _ (C.drewN n)⟩
theorem WL.c0 {op : Op} {f : FuncId} {args : Array Value} {v : Value} (C : Ctx w0 F0 D w F ps) (hc : Calls P f args w fun e w' => e = .returned v ∧ Ctx w F (domL []) w' F []) (h : Yenter P env op ty w f args) (k : ∀ w', Ctx w0 F0 D w' F ps → WL P ops Q rest (putE env dst v) w') :
  WL P ops Q (⟨dst, op, ty, pos, aft, none⟩ :: rest) env w := WL.call h hc fun e w' ⟨he, c⟩ => ⟨v, he, k _ (C.call0 c)⟩
/-- A whole variable is read. -/
theorem WL.la (C : Ctx w0 F0 D w F ps) (i : Nat) (hp : ps[i]? = some (CH.row g 0 cs)) (hx : ev env x = .pointer (some ⟨g, 0, none⟩)) (hu : P.underlying t = some u) (hd : aggD u = true) (sz : (P.info? t).map (·.size) = some cs.length) (k : WL P ops Q rest (upd env d (.agg cs.toArray)) w) :
  WL P ops Q (⟨some d, .load t x, ty, pos, aft, none⟩ :: rest) env w := WL.val (Yl.loadVA (o := 0) hx hu hd sz (Ctx.subI i C hp) (take_all _)) k
theorem WL.laG {j z : Nat} {b : Bool} (C : Ctx w0 F0 D w F ps) (i : Nat) (hj : (ops[j]?).bind (·.dst) = some z) (hb : env z = .bool b) (hp : ps[i]? = some (CH.row g 0 cs)) (hx : ev env x = .pointer (some ⟨g, 0, none⟩)) (hu : P.underlying t = some u) (hd : aggD u = true) (sz : (P.info? t).map (·.size) = some cs.length) (k : WL P ops Q rest (upd env d (.agg cs.toArray)) w) :
  WL P ops Q (⟨some d, .load t x, ty, pos, aft, some (j, b)⟩ :: rest) env w := WL.valOn hj hb (Yl.loadVA (o := 0) hx hu hd sz (Ctx.subI i C hp) (take_all _)) k
/-- A slice's length. -/
theorem WL.ln {A : Option Addr} {l q : Nat} {e : TypeId} (n : Int) (hx : ev env x = .slice A l q) (ht : P.underlying t = some (.slice e)) (hn : (l : Int) = n) (k : WL P ops Q rest (upd env d (.int .i64 n)) w) :
  WL P ops Q (⟨some d, .call { callee := .builtin .len, args := #[x], argTypes := #[t] }, ty, pos, aft, none⟩ :: rest) env w := WL.val (Yl.lenN hx ht hn) k
theorem WL.lnG {j z : Nat} {b : Bool} {A : Option Addr} {l q : Nat} {e : TypeId} (n : Int) (hj : (ops[j]?).bind (·.dst) = some z) (hb : env z = .bool b) (hx : ev env x = .slice A l q) (ht : P.underlying t = some (.slice e)) (hn : (l : Int) = n) (k : WL P ops Q rest (upd env d (.int .i64 n)) w) :
  WL P ops Q (⟨some d, .call { callee := .builtin .len, args := #[x], argTypes := #[t] }, ty, pos, aft, some (j, b)⟩ :: rest) env w := WL.valOn hj hb (Yl.lenN hx ht hn) k
end
end Go.WG
