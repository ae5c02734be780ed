/- Runs of operations that ask nothing of the heap, by evaluation; slots told anew; several pieces lent at once; short steps. -/
import Derived.Test.YtobdpbnadjkhiaaGreatTM2
import Derived.Test.YtobdpbnadjkhiaaGreatProg
import Derived.KernelRfl
import Derived.Laws.Cover3
import Derived.Ground.SlgmProg
import Derived.Shelf.SlGeneric
import Derived.Shelf.SortM.Plain
import Derived.Shelf.SortM.SortNone
namespace Go.WG
open Go.RowKit
def hdV : Value → Option Value
 | .bool b => some (.bool b)
 | .int k n => some (.int k n)
 | .string s => some (.string s)
 | .pointer a => some (.pointer a)
 | .slice a l c => some (.slice a l c)
 | .map r => some (.map r)
 | .func f a b => some (.func f a b)
 | .nilFunc => some .nilFunc
 | .iface t v => some (.iface t v)
 | .nilIface => some .nilIface
 | .agg cs => some (.agg cs)
 | .tuple vs => some (.tuple vs)
 | _ => none
theorem D5 {v u : Value} (h : hdV v = some u) : v = u := by cases v <;> simp [hdV] at h <;> exact h
def placeOf : List (Nat × List Nat) → Nat → Nat → Option Nat
 | [], _, _ => none
 | (t, fs) :: r, s, i => cond (Nat.beq t s) fs[i]? (placeOf r s i)
def Ap (P : Program) (tb : List (Nat × List Nat)) : Prop :=
 ∀ t i k, placeOf tb t i = some k → ∃ fs : Array Field, ∃ f sz, P.underlying t = some (.struct fs) ∧ fs[i]? = some f ∧ f.offset = k ∧ (P.info? f.type).map (·.size) = some (sz + 1)
def Et (P : Program) (t : Nat) (ks : List Nat) : Bool :=
 match P.underlying t with
 | some (.struct fs) => (List.range ks.length).all fun i => match fs[i]?, ks[i]? with
  | some f, some k => Nat.beq f.offset k && (match (P.info? f.type).map (·.size) with | some (_ + 1) => true | _ => false)
  | _, _ => false
 | _ => false
theorem Ap.of {P : Program} : ∀ {tb : List (Nat × List Nat)}, (tb.all fun p => Et P p.1 p.2) = true → Ap P tb
 | [], _ => fun _ _ _ h => by cases h
 | (t, ks) :: r, h => fun s i k hk => by
  rw [List.all_cons, Bool.and_eq_true] at h
  unfold placeOf at hk
  by_cases e : t = s
  ·subst e
   rw [Nat.beq_refl, _root_.cond_true] at hk
   have h1 := h.1
   unfold Et at h1
   split at h1
   ·rename_i fs hu
    have h2 := List.all_eq_true.1 h1 i (List.mem_range.2 (by
     by_cases hi : i < ks.length
     ·exact hi
     ·rw [List.getElem?_eq_none (by omega)] at hk; cases hk))
    rw [hk] at h2
    cases hf : fs[i]? with
    | none => rw [hf] at h2; cases h2
    | some f =>
     rw [hf] at h2
     simp only [Bool.and_eq_true] at h2
     obtain ⟨h3, h4⟩ := h2
     cases hs : (P.info? f.type).map (·.size) with
     | none => rw [hs] at h4; cases h4
     | some z =>
      cases z with
      | zero => rw [hs] at h4; cases h4
      | succ z => exact ⟨fs, f, z, hu, hf, Nat.eq_of_beq_eq_true h3, hs⟩
   ·cases h1
  ·have : Nat.beq t s = false := by
    rw [Bool.eq_false_iff]
    exact fun b => e (Nat.eq_of_beq_eq_true b)
   rw [this, _root_.cond_false] at hk
   exact Ap.of h.2 s i k hk
def kEq : IntKind → IntKind → Bool
 | .i8, .i8 => true
 | .i16, .i16 => true
 | .i32, .i32 => true
 | .i64, .i64 => true
 | .u8, .u8 => true
 | .u16, .u16 => true
 | .u32, .u32 => true
 | .u64, .u64 => true
 | _, _ => false
theorem Jm {a b : IntKind} (h : kEq a b = true) : a = b := by cases a <;> cases b <;> first | rfl | cases h
def GB : IntKind → Int → Option Value
 | .i8, x => some (.int .i8 (wi8 x))
 | .i16, x => some (.int .i16 (KZ x))
 | .i32, x => some (.int .i32 (K6 x))
 | .i64, x => some (.int .i64 (rB x))
 | .u8, x => some (.int .u8 (wu8 x))
 | .u16, x => some (.int .u16 (K9 x))
 | .u32, x => some (.int .u32 (KT x))
 | .u64, x => some (.int .u64 (wR x))
theorem Ie {k : IntKind} {x : Int} {v : Value} (h : GB k x = some v) : v = .int k (k.wrap x) := by
 cases k <;> (injection h with h; exact h.symm)
def Kz (op : BinOp) (k : IntKind) (m n : Int) : Option Value :=
 match op with
 | .add => GB k (m + n)
 | .sub => GB k (m - n)
 | .mul => GB k (m * n)
 | .lss => some (.bool (decide (m < n)))
 | .leq => some (.bool (decide (m ≤ n)))
 | .gtr => some (.bool (decide (m > n)))
 | .geq => some (.bool (decide (m ≥ n)))
 | .eql => some (.bool (decide (m = n)))
 | .neq => some (.bool (!decide (m = n)))
 | _ => none
def Cz (tb : List (Nat × List Nat)) (ρ : Operand → Value) : Op → Option Value
 | .move x => hdV (ρ x)
 | .assign x => hdV (ρ x)
 | .pick c x y => match ρ c with
  | .bool true => hdV (ρ x)
  | .bool false => hdV (ρ y)
  | _ => none
 | .nilCheck x => match ρ x with
  | .pointer (some a) => some (.pointer (some a))
  | _ => none
 | .fieldAddr s x i => match ρ x with
  | .pointer (some ⟨g, o, none⟩) => match placeOf tb s i with
   | some k => some (.pointer (some ⟨g, o + k, none⟩))
   | none => none
  | _ => none
 | .extract x i => match ρ x with
  | .tuple vs => match vs[i]? with
   | some v => hdV v
   | none => none
  | _ => none
 | .unOp .not _ x => match ρ x with
  | .bool b => some (.bool (!b))
  | _ => none
 | .binOp op _ x y _ => match ρ x, ρ y with
  | .int k m, .int k' n => cond (kEq k k') (Kz op k m n) none
  | _, _ => none
 | _ => none
section
variable {P : Program} {tb : List (Nat × List Nat)} {env : Env} {ty : TypeId} {w : World} {v : Value}
theorem AZ (ht : Ap P tb) {op : Op} (h : Cz tb (ev env) op = some v) : Yl P env op ty w v w := by
 unfold Cz at h
 split at h
 ·exact Yl.move (D5 h)
 ·exact Yl.assign (D5 h)
 ·split at h
  ·exact Yl.Jf (by assumption) (D5 h)
  ·exact Yl.Jh (by assumption) (D5 h)
  ·cases h
 ·split at h
  ·injection h with h; subst h; exact Yl.nilCheck (by assumption)
  ·cases h
 ·split at h
  ·split at h
   ·rename_i hk
    injection h with h; subst h
    obtain ⟨fs, f, sz, h1, h2, h3, h4⟩ := ht _ _ _ hk
    subst h3
    exact Yl.fieldAddr (by assumption) h1 h2 h4
   ·cases h
  ·cases h
 ·split at h
  ·split at h
   ·rename_i hi
    exact Yl.extract (by assumption) (by rw [hi, D5 h])
   ·cases h
  ·cases h
 ·split at h
  ·injection h with h; subst h; exact Yl.not (by assumption) rfl
  ·cases h
 ·split at h
  ·rename_i hx hy
   rename_i op' _ _ _ _ _ _ k m k' n
   cases hk : kEq k k' with
   | false => rw [hk] at h; cases h
   | true =>
    rw [hk, _root_.cond_true] at h
    obtain rfl := Jm hk
    unfold Kz at h
    split at h <;> first | (have h' := Ie h; subst h') | (injection h with h; subst h) | cases h
    ·exact Yl.add hx hy rfl
    ·exact Yl.sub hx hy rfl
    ·exact Yl.mul hx hy rfl
    ·exact Yl.lss hx hy rfl
    ·exact Yl.leq hx hy rfl
    ·exact Yl.gtr hx hy rfl
    ·exact Yl.geq hx hy rfl
    ·exact Yl.eql hx hy rfl
    ·exact Yl.neq hx hy rfl
  ·cases h
 ·cases h
end
def Ck (tb : List (Nat × List Nat)) (ops : Array Oper) : Nat → List Oper → Env → Option (List Oper × Env)
 | 0, l, env => some (l, env)
 | n + 1, ⟨some d, op, _, _, _, none⟩ :: l, env => match Cz tb (ev env) op with
  | some v => Ck tb ops n l (upd env d v)
  | none => none
 | n + 1, ⟨some d, op, _, _, _, some (j, b)⟩ :: l, env => match uE ops env j with
  | some b' => match b, b' with
   | true, true | false, false => (match Cz tb (ev env) op with
    | some v => Ck tb ops n l (upd env d v)
    | none => none)
   | _, _ => Ck tb ops n l (upd env d undef)
  | none => none
 | _ + 1, _, _ => none
section
variable {P : Program} {ops : Array Oper} {tb : List (Nat × List Nat)} {Q : Exit → Env → World → Prop} {env env' : Env} {w : World} {l l' : List Oper} {v : Value} {d : Nat} {t : Nat}
theorem Df {j : Nat} {b : Bool} (h : uE ops env j = some b) : ∃ x, (ops[j]?).bind (·.dst) = some x ∧ env x = .bool b := by
 unfold uE at h
 cases hj : (ops[j]?).bind (·.dst) with
 | none => rw [hj] at h; cases h
 | some x =>
  rw [hj] at h
  refine ⟨x, rfl, ?_⟩
  simp only at h
  cases hx : env x with
  | bool c => rw [hx] at h; simp only at h; injection h with h; rw [h]
  | _ => rw [hx] at h; cases h
theorem Em {n : Nat} (h : Ck tb ops (n + 1) l env = some (l', env')) : ∃ d op ty pos aft g r v, l = ⟨some d, op, ty, pos, aft, g⟩ :: r ∧ Ck tb ops n r (upd env d v) = some (l', env') ∧
  ((g = none ∧ Cz tb (ev env) op = some v) ∨ (∃ j b x, g = some (j, b) ∧ (ops[j]?).bind (·.dst) = some x ∧ ((env x = .bool b ∧ Cz tb (ev env) op = some v) ∨ (env x = .bool (!b) ∧ v = undef)))) := by
 cases l with
 | nil => simp [Ck] at h
 | cons o r =>
  obtain ⟨dst, op, ty, pos, aft, g⟩ := o
  cases dst with
  | none => simp [Ck] at h
  | some d =>
   cases g with
   | none =>
    unfold Ck at h
    split at h
    ·rename_i v hv; exact ⟨d, op, ty, pos, aft, none, r, v, rfl, h, .inl ⟨rfl, hv⟩⟩
    ·cases h
   | some g =>
    obtain ⟨j, b⟩ := g
    unfold Ck at h
    split at h
    ·rename_i b' hb
     obtain ⟨x, hx, he⟩ := Df hb
     cases b <;> cases b' <;> simp only at h
     ·split at h
      ·rename_i v hv; exact ⟨d, op, ty, pos, aft, _, r, v, rfl, h, .inr ⟨j, _, x, rfl, hx, .inl ⟨he, hv⟩⟩⟩
      ·cases h
     ·exact ⟨d, op, ty, pos, aft, _, r, undef, rfl, h, .inr ⟨j, _, x, rfl, hx, .inr ⟨he, rfl⟩⟩⟩
     ·exact ⟨d, op, ty, pos, aft, _, r, undef, rfl, h, .inr ⟨j, _, x, rfl, hx, .inr ⟨he, rfl⟩⟩⟩
     ·split at h
      ·rename_i v hv; exact ⟨d, op, ty, pos, aft, _, r, v, rfl, h, .inr ⟨j, _, x, rfl, hx, .inl ⟨he, hv⟩⟩⟩
      ·cases h
    ·cases h
theorem WL.run (ht : Ap P tb) (n : Nat) (h : Ck tb ops n l env = some (l', env')) (k : WL P ops Q l' env' w) : WL P ops Q l env w := by
 induction n generalizing l env with
 | zero => unfold Ck at h; injection h with h; injection h with h1 h2; subst h1 h2; exact k
 | succ n ih =>
  obtain ⟨d, op, ty, pos, aft, g, r, v, rfl, hr, hg⟩ := Em h
  rcases hg with ⟨rfl, hv⟩ | ⟨j, b, x, rfl, hx, hg⟩
  ·exact WL.val (AZ ht hv) (ih hr)
  ·rcases hg with ⟨he, hv⟩ | ⟨he, rfl⟩
   ·exact WL.xC hx he (AZ ht hv) (ih hr)
   ·exact WL.off hx he (ih hr)
theorem WQ.run {C : World → Prop} {Q : Env → Prop} (ht : Ap P tb) (n : Nat) (h : Ck tb ops n l env = some (l', env')) (k : WQ P ops C Q l' env') : WQ P ops C Q l env := by
 induction n generalizing l env with
 | zero => unfold Ck at h; injection h with h; injection h with h1 h2; subst h1 h2; exact k
 | succ n ih =>
  obtain ⟨d, op, ty, pos, aft, g, r, v, rfl, hr, hg⟩ := Em h
  rcases hg with ⟨rfl, hv⟩ | ⟨j, b, x, rfl, hx, hg⟩
  ·exact WQ.val (fun w _ => AZ ht hv) (ih hr)
  ·rcases hg with ⟨he, hv⟩ | ⟨he, rfl⟩
   ·exact WQ.on hx he (WQ.val (fun w _ => AZ ht hv) (ih hr))
   ·exact WQ.off hx he (ih hr)
theorem EO (h : env t = v) : upd env t v = env := by
 funext u
 unfold upd
 by_cases e : u = t
 ·subst e; rw [Nat.beq_refl, _root_.cond_true, h]
 ·have : Nat.beq u t = false := by
   rw [Bool.eq_false_iff]
   exact fun b => e (Nat.eq_of_beq_eq_true b)
  rw [this, _root_.cond_false]
theorem WL.kn (t : Nat) {v : Value} (h : env t = v) (k : WL P ops Q l (upd env t v) w) : WL P ops Q l env w := by rw [EO h] at k; exact k
theorem WQ.kn {C : World → Prop} {Q : Env → Prop} (t : Nat) {v : Value} (h : env t = v) (k : WQ P ops C Q l (upd env t v)) : WQ P ops C Q l env := by rw [EO h] at k; exact k
def KN (env e : Env) : Prop := e = env
theorem KN.n : KN env env := rfl
theorem KN.c {e : Env} (h : env t = v) (r : KN env e) : KN env (upd e t v) := by
 unfold KN at r ⊢
 subst r
 exact EO h
theorem kn (env : Env) {R : Env → Prop} {e : Env} (h : KN env e) (k : R e) : R env := by
 unfold KN at h
 subst h
 exact k
def Kn (env : Env) (l : List (Nat × Value)) : Prop := l.map (fun p => env p.1) = l.map Prod.snd
theorem Kn.n : Kn env [] := rfl
theorem Kn.c {r : List (Nat × Value)} (h : env t = v) (k : Kn env r) : Kn env ((t, v) :: r) := by
 unfold Kn at k ⊢
 rw [List.map_cons, List.map_cons, k, h]
def FL (env : Env) : List (Nat × Value) → Env
 | [] => env
 | (t, v) :: r => upd (FL env r) t v
theorem Kn.FL {env : Env} : ∀ {l : List (Nat × Value)}, Kn env l → Go.WG.FL env l = env
 | [], _ => rfl
 | (t, v) :: r, h => by
  unfold Kn at h
  rw [List.map_cons, List.map_cons] at h
  injection h with h1 h2
  rw [Go.WG.FL, Kn.FL (l := r) h2]
  exact EO h1
theorem ks (env : Env) {R : Env → Prop} {l : List (Nat × Value)} (h : Kn env l) (k : R (FL env l)) : R env := by
 rw [h.FL] at k
 exact k
theorem W.sr {N : Nat} {id : Nat} {y : Code} (hok : l.all (yP N) = true) (h : WL P l.toArray (C0 (W P N y Q) Q) l env w) : W P N (.seq (.region id l.toArray false) y) Q env w := W.seq (W.region hok h)
theorem W.cT {N : Nat} {c : Operand} {x y : Code} {p : Prop} [Decidable p] (h : p) (hc : ev env c = .bool (decide p)) (k : W P N x Q env w) : W P N (.cond c x y) Q env w := W.uI (by rw [hc, decide_eq_true h]) k
theorem W.cF {N : Nat} {c : Operand} {x y : Code} {p : Prop} [Decidable p] (h : ¬ p) (hc : ev env c = .bool (decide p)) (k : W P N y Q env w) : W P N (.cond c x y) Q env w := W.uD (by rw [hc, decide_eq_false h]) k
theorem W.nT {N : Nat} {c : Operand} {x y : Code} {p : Prop} [Decidable p] (h : ¬ p) (hc : ev env c = .bool (!decide p)) (k : W P N x Q env w) : W P N (.cond c x y) Q env w := W.uI (by rw [hc, decide_eq_false h]; rfl) k
theorem W.nF {N : Nat} {c : Operand} {x y : Code} {p : Prop} [Decidable p] (h : p) (hc : ev env c = .bool (!decide p)) (k : W P N y Q env w) : W P N (.cond c x y) Q env w := W.uD (by rw [hc, decide_eq_true h]; rfl) k
end
end Go.WG
namespace Go.WG
open Go.RowKit
section
variable {a b c rest rest' us z : List Value} {v : Value} {m : Nat}
theorem rL {α β : Type} {f : α → β} {l : List α} {n : Nat} (h : l.length = n) : (l.map f).length = n := by rw [List.length_map]; exact h
theorem tP {n m : Nat} (h : a.length = n) (k : b.length = m) : (a ++ b).length = n + m := by rw [List.length_append, h, k]
theorem tQ (n k : Nat) (h : a.length = n) (r : rest[k]? = some v) : (a ++ rest)[n + k]? = some v := by rw [List.getElem?_append_right (by omega), h, Nat.add_sub_cancel_left]; exact r
theorem zU (n k : Nat) (h : a.length = n) (r : (rest.drop k).take m = us) : ((a ++ rest).drop (n + k)).take m = us := by
 rw [← h, ← List.drop_drop, List.drop_left]
 exact r
theorem Ca (h : us.length = m) : ((us ++ rest).drop 0).take m = us := by rw [List.drop_zero, ← h, List.take_left]
theorem BO (h : us.length = m) : (us.drop 0).take m = us := by rw [List.drop_zero, ← h, List.take_length]
def Put (cs : List Value) (o : Nat) (us cs' : List Value) : Prop := ∃ pre z post, cs = pre ++ (z ++ post) ∧ pre.length = o ∧ z.length = us.length ∧ cs' = pre ++ (us ++ post)
theorem Put.all (n : Nat) (h : z.length = n) (k : us.length = n) : Put z 0 us us := ⟨[], z, [], by simp, rfl, by rw [h, k], by simp⟩
theorem Put.here (n : Nat) (h : z.length = n) (k : us.length = n) : Put (z ++ rest) 0 us (us ++ rest) := ⟨[], z, rest, rfl, rfl, by rw [h, k], rfl⟩
theorem Put.skip (n k : Nat) (h : a.length = n) (r : Put rest k us rest') : Put (a ++ rest) (n + k) us (a ++ rest') := by
 obtain ⟨pre, z, post, rfl, h1, h2, rfl⟩ := r
 exact ⟨a ++ pre, z, post, by simp, by rw [List.length_append, h, h1], h2, by simp⟩
theorem Put.left {k : Nat} (r : Put a k us b) : Put (a ++ rest) k us (b ++ rest) := by
 obtain ⟨pre, z, post, rfl, h1, h2, rfl⟩ := r
 exact ⟨pre, z, post ++ rest, by simp, h1, h2, by simp⟩
theorem Put.lit (k : Nat) (h : Nat.ble (k + us.length) a.length = true) : Put a k us (a.take k ++ us ++ a.drop (k + us.length)) := by
 have hle := Nat.le_of_ble_eq_true h
 refine ⟨a.take k, (a.drop k).take us.length, a.drop (k + us.length), ?_, by rw [List.length_take]; omega, by rw [List.length_take, List.length_drop]; omega, by simp⟩
 rw [← List.drop_drop, List.take_append_drop, List.take_append_drop]
theorem Put.to {cs : List Value} {o : Nat} {cs' : List Value} (r : Put cs o us b) (e : b = cs') : Put cs o us cs' := e ▸ r
theorem B6 {P : Program} {w0 w : World} {F0 F : CH} {D : Nat → Nat → Prop} {ps1 ps2 : List CH} {t : TypeId} {g off o : Nat} {cs cs' : List Value} (us : List Value) (v : Value) (C : Ctx w0 F0 D w F (ps1 ++ CH.row g off cs :: ps2)) (hp : Put cs o us cs') (hv : v.cells = us.toArray) (h1 : ∀ u ∈ us, u.oneCell' = true) (hs : (P.info? t).map (·.size) = some us.length) :
  ∃ w', (∀ (env : Env) (x y : Operand) (ty : TypeId), ev env x = .pointer (some ⟨g, off + o, none⟩) → ev env y = v → BR P env (.store t x y) ty w w') ∧ Ctx w0 F0 D w' F (ps1 ++ CH.row g off cs' :: ps2) := by
 obtain ⟨pre, z, post, h2, h3, h4, rfl⟩ := hp
 obtain ⟨w', hy, C'⟩ := ER cs pre z post us v C (by rw [h2, List.append_assoc]) h3 h4 hv h1 hs
 exact ⟨w', hy, by rw [List.append_assoc] at C'; exact C'⟩
theorem zF.put {place : Nat → Option (Nat × Nat)} {i off n : Nat} {u : Value} {vs : List (Nat × Value)} (hv : u.cells = us.toArray) (hp : place i = some (off, n)) (hn : us.length = n) (r : Put a off us b) (h : zF place vs b c) : zF place ((i, u) :: vs) a c := by
 obtain ⟨pre, z, post, rfl, h3, h4, rfl⟩ := r
 exact zF.seg hv hp hn rfl rfl h3 (by omega) h
end
section
variable {w0 w : World} {F0 F : CH} {D : Nat → Nat → Prop}
def G3 (F' : CH) : List CH → Prop
 | [] => True
 | p :: r => CH.le p F' ∧ G3 F' r
theorem G3.mono {F' F'' : CH} (h : CH.le F' F'') : ∀ {l : List CH}, G3 F' l → G3 F'' l
 | [], _ => trivial
 | _ :: _, k => ⟨CH.le_trans k.1 h, G3.mono h k.2⟩
theorem Ctx.B1 : ∀ (qs : List CH) {F : CH} {ps : List CH}, Ctx w0 F0 D w F (qs ++ ps) → ∃ F', CH.le F F' ∧ G3 F' qs ∧ Ctx w0 F0 D w F' ps
 | [], F, ps, C => ⟨F, CH.le_refl _, trivial, C⟩
 | q :: qs, F, ps, C => by
  obtain ⟨F1, le1, lp, C1⟩ := Ctx.fzI 0 C rfl
  obtain ⟨F2, le2, l2, C2⟩ := Ctx.B1 qs C1
  exact ⟨F2, CH.le_trans le1 le2, ⟨CH.le_trans lp le2, l2⟩, C2⟩
end
end Go.WG
namespace Go.WG
open Go.RowKit
def runT (tb : List (Nat × List Nat)) (ops : Array Oper) : Nat → List (Nat × Option Nat) → Env → Option (List (Nat × Option Nat) × Env)
 | 0, l, env => some (l, env)
 | n + 1, (i, _) :: l, env => match ops[i]? with
  | some ⟨some d, op, _, _, _, none⟩ => (match Cz tb (ev env) op with
   | some v => runT tb ops n l (upd env d v)
   | none => none)
  | some ⟨some d, op, _, _, _, some (j, b)⟩ => (match uE ops env j with
   | some b' => (match b, b' with
    | true, true | false, false => (match Cz tb (ev env) op with
     | some v => runT tb ops n l (upd env d v)
     | none => none)
    | _, _ => runT tb ops n l (upd env d undef))
   | none => none)
  | _ => none
 | _ + 1, _, _ => none
theorem WT.run {P : Program} {ops : Array Oper} {tb : List (Nat × List Nat)} {Ms : List (List Nat × CH)} {K : Env → Prop} {l l' : List (Nat × Option Nat)} {env env' : Env} (ht : Ap P tb) (n : Nat) (h : runT tb ops n l env = some (l', env')) (k : WT P ops Ms K l' env') : WT P ops Ms K l env := by
 induction n generalizing l env with
 | zero => unfold runT at h; injection h with h; injection h with h1 h2; subst h1 h2; exact k
 | succ n ih =>
  cases l with
  | nil => simp [runT] at h
  | cons p l =>
   obtain ⟨i, q⟩ := p
   unfold runT at h
   split at h
   ·rename_i d op ty pos aft ho
    split at h
    ·rename_i v hv; exact WT.val ho (fun w _ => AZ ht hv) (ih h)
    ·cases h
   ·rename_i d op ty pos aft j b ho
    have off : uE ops env j = some (!b) → runT tb ops n l (upd env d undef) = some (l', env') → WT P ops Ms K ((i, q) :: l) env := fun hb h =>
     ⟨_, undef, ho, .inr ⟨by unfold Region.wanted; simp only [hb]; cases b <;> rfl, rfl⟩, ih h⟩
    have on : ∀ v, uE ops env j = some b → Cz tb (ev env) op = some v → runT tb ops n l (upd env d v) = some (l', env') → WT P ops Ms K ((i, q) :: l) env := fun v hb hv h => by
     obtain ⟨x, hx, he⟩ := Df hb
     exact WT.on ho hx he (fun w _ => AZ ht hv) (ih h)
    split at h
    ·rename_i b' hb
     cases b <;> cases b' <;> simp only at h
     ·split at h
      ·exact on _ hb (by assumption) h
      ·cases h
     ·exact off hb h
     ·exact off hb h
     ·split at h
      ·exact on _ hb (by assumption) h
      ·cases h
    ·cases h
   ·cases h
end Go.WG
namespace Go.WG
open Go.RowKit
section
variable {P : Program} {env : Env} {ty : TypeId} {w : World}
theorem Yl.JC {f : FuncId} {x : Operand} {r : Value} (hx : Go.WG.ev env x = r) : Yl P env (.makeFunc (.func f) #[x] #[]) ty w (.func (.func f) #[r] #[]) w := by
 subst hx
 show (execOp (Go.WG.ev env) _).run P w = _
 simp [execOp, Instr.makeFunc]
theorem vD.fnB {x : Operand} {r : Value} {f : FuncId} {fn : Func} {xs : List Operand} {vs : List Value} {ts : Array TypeId} (hx : Go.WG.ev env x = .func (.func f) #[r] #[]) (hf : P.funcs[f]? = some fn) (hn : (fn.name == "runtime.NumGoroutine") = false) (hb : fn.body.isSome = true) (h : Evs env xs vs) :
  vD P env (.call { callee := .value x, args := xs.toArray, argTypes := ts }) ty w f (r :: vs).toArray := by
 show (execOp (Go.WG.ev env) _).run P w = _
 have hb' : ¬ fn.body = none := by cases h : fn.body <;> simp_all
 have hn' : ¬ fn.name = "runtime.NumGoroutine" := by simpa using hn
 have ha := Aq h
 simp [execOp, resolve, hx, Deferred.ofValue, invoke, callFunc, hf, hn', hb'] at ha ⊢
 rw [ha]
end
end Go.WG
namespace Go.WG
open Go.RowKit
def AR (n : Nat) (a ys : List Int) : List Int := ys.take n ++ a.drop ys.length
theorem CW {n : Nat} {a ys : List Int} (h : a.length = n) : (AR n a ys).length = n := by
 unfold AR
 rw [List.length_append, List.length_take, List.length_drop]; omega
theorem FM {P : Program} {w0 w : World} {F0 F : CH} {D : Nat → Nat → Prop} {ps1 ps2 : List CH} {k : IntKind} {e te te2 : TypeId} {g off o n m : Nat} {A : Option Addr} {cs cs' : List Value} {a ys : List Int} {h : CH} (C : Ctx w0 F0 D w F (ps1 ++ CH.row g off cs :: ps2))
  (hput : Put cs o ((AR n a ys).map (Value.int k)) cs') (hmid : (cs.drop o).take n = a.map (Value.int k)) (ha : a.length = n) (hm : m = ys.length) (hS : Sl (Kd.int k) F h A ys) (hs : Sub h w) (ht : P.underlying te = some (.slice e)) (hz : (P.info? e).map (·.size) = some 1) :
  ∃ w', (∀ (env : Env) (x y : Operand) (ty : TypeId) (c cy : Nat), Go.WG.ev env x = .slice (some ⟨g, off + o, none⟩) n c → Go.WG.ev env y = .slice A m cy → Yl P env (.call { callee := .builtin .copy, args := #[x, y], argTypes := #[te, te2] }) ty w (.int .i64 ((Nat.min ys.length n : Nat) : Int)) w') ∧ Ctx w0 F0 D w' F (ps1 ++ CH.row g off cs' :: ps2) := by
 obtain ⟨inf, hinf, hsz⟩ := Option.map_eq_some_iff.1 hz
 have hl := CW (ys := ys) ha
 obtain ⟨pre, z, post, rfl, h1, h2, rfl⟩ := hput
 rw [List.length_map, hl] at h2
 have hz' : z = a.map (Value.int k) := by
  rw [← hmid, ← h1, List.drop_left, ← h2, List.take_left]
 subst hz'
 have hvl : ((ys.take n).map (Value.int k)).length = Nat.min ys.length n := by rw [List.length_map, List.length_take]; exact Nat.min_comm _ _
 have hle : Nat.min ys.length n ≤ n := Nat.min_le_right _ _
 obtain ⟨w', hst, C'⟩ := AK (P := P) g (off + o) ((ys.take n).map (Value.int k)) 0 w off o _ C (by omega) (by rw [hvl, List.length_append, List.length_append, List.length_map, ha]; omega) (fun u hu => by
  obtain ⟨q, _, rfl⟩ := List.mem_map.1 hu
  rfl)
 have hfc : ∀ cy, (Builtin.firstCells 1 (Nat.min ys.length n) (.slice A m cy)).run P w = .ok ((ys.take n).map (Value.int k)).toArray w := fun cy => by
  by_cases hp : 0 < ys.length
  ·obtain ⟨b, Ga, rfl, hx⟩ := hS hp
   refine run_firstCells_some w 1 _ _ _ _ _ (by rw [hvl, Nat.mul_one]) fun j u hu => ?_
   rw [List.getElem?_map] at hu
   cases hq : (ys.take n)[j]? with
   | none => rw [hq] at hu; cases hu
   | some q =>
    rw [hq] at hu
    injection hu with hu
    subst hu
    rw [List.getElem?_take] at hq
    split at hq
    ·obtain ⟨cs2, hr, hc⟩ := hx j q hq
     have hr' : cs2 = [.int k q] := hr
     subst hr'
     have := hs.cell (hc 0 _ rfl)
     rw [vL]
     have e1 : (Kd.int k).sz = 1 := rfl
     rw [e1, Nat.mul_one, Nat.add_zero] at this
     exact this
    ·cases hq
  ·have h0 : ys = [] := List.eq_nil_of_length_eq_zero (by omega)
   subst h0
   have h0' : Nat.min ([] : List Int).length n = 0 := Nat.zero_min _
   rw [h0']
   cases A with
   | none => simp [Builtin.firstCells]
   | some b => simpa using run_firstCells_some w 1 0 b m cy [] (by simp) (by simp)
 refine ⟨w', fun env x y ty c cy hx hy => ?_, ?_⟩
 ·show (execOp (Go.WG.ev env) _).run P w = _
  have := hfc cy
  subst hm
  generalize (ys.take n).map (Value.int k) = V at this hst
  simp [execOp, resolve, invoke, builtin, hx, hy, Builtin.copy_, run_underlying ht, sizeOf, typeInfo, hinf, hsz, Builtin.lenOf, this, hst, goInt]
 ·have e1 : (pre ++ (a.map (Value.int k) ++ post)).take o = pre := by rw [← h1, List.take_left]
  have e2 : (pre ++ (a.map (Value.int k) ++ post)).drop (o + ((ys.take n).map (Value.int k)).length) = (a.drop ys.length).map (Value.int k) ++ post := by
   rw [← List.drop_drop, ← h1, List.drop_left, hvl]
   by_cases hc : ys.length ≤ n
   ·have : Nat.min ys.length n = ys.length := Nat.min_eq_left hc
    rw [this, List.drop_append_of_le_length (by rw [List.length_map, ha]; exact hc), List.map_drop]
   ·have : Nat.min ys.length n = n := Nat.min_eq_right (by omega)
    rw [this, List.drop_append_of_le_length (by rw [List.length_map, ha]; exact Nat.le_refl _), ← List.map_drop, List.drop_of_length_le (l := a) (by omega), List.drop_of_length_le (l := a) (by omega)]
  rw [e1, e2] at C'
  unfold AR
  rw [List.map_append, List.append_assoc]
  rw [List.append_assoc] at C'
  exact C'
end Go.WG
namespace Go.WG
open Go.RowKit
abbrev Cx {w0 : World} {F0 : CH} {D : Nat → Nat → Prop} {w : World} {F : CH} (ps : List CH) : Prop := Ctx w0 F0 D w F ps
section
variable {P : Program} {N : Nat} {ops : Array Oper} {tb : List (Nat × List Nat)} {Q : Exit → Env → World → Prop} {env env' : Env} {w : World} {l rest : List Oper} {v : Value} {w0 : World} {F0 F : CH} {D : Nat → Nat → Prop} {ps : List CH} {cs cs' : List Value} {g off d t : Nat} {ty : TypeId} {pos : String} {aft : Array Edge} {x y : Operand} {u : TypeDesc}
theorem WL.rd (ht : Ap P tb) (n : Nat) (h : Ck tb ops n l env = some ([], env')) (k : Q .normal env' w) : WL P ops Q l env w := WL.run ht n h (WL.done k)
theorem WL.lv (C : Ctx w0 F0 D w F ps) (i o : Nat) (hp : ps[i]? = some (CH.row g off cs)) (hx : ev env x = .pointer (some ⟨g, off + o, none⟩)) (hu : P.underlying t = some u) (hd : Ax u = false) (hc : cs[o]? = some v) (k : WL P ops Q rest (upd env d v) w) :
  WL P ops Q (⟨some d, .load t x, ty, pos, aft, none⟩ :: rest) env w := WL.val (Yl.Ad hx hu hd (Ctx.rO i C hp) hc) k
theorem WL.lvG {j z : Nat} {b : Bool} (C : Ctx w0 F0 D w F ps) (i o : Nat) (hj : (ops[j]?).bind (·.dst) = some z) (hb : env z = .bool b) (hp : ps[i]? = some (CH.row g off cs)) (hx : ev env x = .pointer (some ⟨g, off + o, none⟩)) (hu : P.underlying t = some u) (hd : Ax u = false) (hc : cs[o]? = some v) (k : WL P ops Q rest (upd env d v) w) :
  WL P ops Q (⟨some d, .load t x, ty, pos, aft, some (j, b)⟩ :: rest) env w := WL.xC hj hb (Yl.Ad hx hu hd (Ctx.rO i C hp) hc) k
theorem WQ.lv {W : World} {Q : Env → Prop} (C : Ctx w0 F0 D W F ps) (i o : Nat) (hp : ps[i]? = some (CH.row g off cs)) (hx : ev env x = .pointer (some ⟨g, off + o, none⟩)) (hu : P.underlying t = some u) (hd : Ax u = false) (hc : cs[o]? = some v) (k : WQ P ops (fun w' => ∃ n, w' = W.drewN n) Q rest (upd env d v)) :
  WQ P ops (fun w' => ∃ n, w' = W.drewN n) Q (⟨some d, .load t x, ty, pos, aft, none⟩ :: rest) env := WQ.vl (fun n => Yl.Ad hx hu hd (Ctx.rO i (C.drewN n) hp) hc) k
theorem WQ.lvG {W : World} {Q : Env → Prop} {j z : Nat} {b : Bool} (C : Ctx w0 F0 D W F ps) (i o : Nat) (hj : (ops[j]?).bind (·.dst) = some z) (hb : env z = .bool b) (hp : ps[i]? = some (CH.row g off cs)) (hx : ev env x = .pointer (some ⟨g, off + o, none⟩)) (hu : P.underlying t = some u) (hd : Ax u = false) (hc : cs[o]? = some v) (k : WQ P ops (fun w' => ∃ n, w' = W.drewN n) Q rest (upd env d v)) :
  WQ P ops (fun w' => ∃ n, w' = W.drewN n) Q (⟨some d, .load t x, ty, pos, aft, some (j, b)⟩ :: rest) env := WQ.vOn hj hb (fun n => Yl.Ad hx hu hd (Ctx.rO i (C.drewN n) hp) hc) k
theorem WT.lv {Ms : List (List Nat × CH)} {K : Env → Prop} {r : List (Nat × Option Nat)} {i q : Nat} {S : List Nat} (o : Nat) (hi : ops[i]? = some ⟨some d, .load t x, ty, pos, aft, none⟩) (hq : Ms[q]? = some (S, CH.row g off cs)) (hx : ev env x = .pointer (some ⟨g, off + o, none⟩)) (hu : P.underlying t = some u) (hd : Ax u = false) (hc : cs[o]? = some v) (h : WT P ops Ms K r (upd env d v)) :
  WT P ops Ms K ((i, some q) :: r) env := WT.val hi (fun w hw => Yl.Ad hx hu hd (by unfold Cof at hw; simp only [hq] at hw; exact hw) hc) h
theorem WL.st (C : Ctx w0 F0 D w F ps) (i o : Nat) (us : List Value) (hp : ps[i]? = some (CH.row g off cs)) (hx : ev env x = .pointer (some ⟨g, off + o, none⟩)) (hy : ev env y = v) (hv : v.cells = us.toArray) (put : Put cs o us cs') (h1 : ∀ u ∈ us, u.oneCell' = true) (hs : (P.info? t).map (·.size) = some us.length)
  (k : ∀ w', Ctx w0 F0 D w' F (ps.set i (CH.row g off cs')) → WL P ops Q rest env w') : WL P ops Q (⟨none, .store t x y, ty, pos, aft, none⟩ :: rest) env w := by
 obtain ⟨hi, he⟩ := List.getElem?_eq_some_iff.1 hp
 have e : ps = ps.take i ++ CH.row g off cs :: ps.drop (i + 1) := by rw [← he, ← List.drop_eq_getElem_cons hi, List.take_append_drop]
 rw [e] at C
 obtain ⟨w', hst, C'⟩ := B6 (P := P) us v C put hv h1 hs
 refine WL.skip (hst env x y ty hx hy) (k w' ?_)
 rw [List.set_eq_take_append_cons_drop, if_pos hi]
 exact C'
end
section
variable {P : Program} {N : Nat} {ops : Array Oper} {tb : List (Nat × List Nat)} {Q : Exit → Env → World → Prop} {env env' : Env} {w : World} {l rest : List Oper} {v : Value} {w0 : World} {F0 F : CH} {D : Nat → Nat → Prop} {ps : List CH} {cs cs' : List Value} {g off t d : Nat} {dst : Option Nat} {ty : TypeId} {pos : String} {aft : Array Edge} {x y : Operand} {u : TypeDesc}
def CC (P : Program) (fs : List Nat) : Prop := ∀ f, fs.contains f = true → ∃ fn, P.funcs[f]? = some fn ∧ (fn.name == "runtime.NumGoroutine") = false ∧ fn.body.isSome = true
def GG (P : Program) (f : Nat) : Bool :=
 match P.funcs[f]? with
 | some fn => !(fn.name == "runtime.NumGoroutine") && fn.body.isSome
 | none => false
theorem CC.of {P : Program} : ∀ {fs : List Nat}, (fs.all (GG P)) = true → CC P fs
 | [], _ => fun f h => by simp at h
 | g :: r, h => fun f hf => by
  rw [List.all_cons, Bool.and_eq_true] at h
  by_cases e : f = g
  ·subst e
   have h1 := h.1
   unfold GG at h1
   split at h1
   next fn hfn =>
    rw [Bool.and_eq_true] at h1
    exact ⟨fn, hfn, by simpa using h1.1, h1.2⟩
   ·cases h1
  ·exact CC.of h.2 f (by simpa [e] using hf)
theorem CC.fn {fs : List Nat} {f : FuncId} {ags : Array Operand} {ts : Array TypeId} {args : Array Value} (h : CC P fs) (hf : fs.contains f = true) (ha : ags.map (Go.WG.ev env) = args) :
  vD P env (.call { callee := .value (.func f), args := ags, argTypes := ts }) ty w f args := by
 obtain ⟨fn, h1, h2, h3⟩ := h f hf
 exact vD.fn h1 h2 h3 ha
theorem Kx {xs : List Operand} {vs : List Value} (h : xs.map (Go.WG.ev env) = vs) : xs.toArray.map (Go.WG.ev env) = vs.toArray := by
 rw [← h]; simp
theorem CC.fr {fs : List Nat} {f : FuncId} {xs : List Operand} {ts : Array TypeId} {vs : List Value} (h : CC P fs) (hf : fs.contains f = true) (ha : xs.map (Go.WG.ev env) = vs) :
  vD P env (.call { callee := .value (.func f), args := xs.toArray, argTypes := ts }) ty w f vs.toArray := h.fn hf (Kx ha)
theorem WL.cq {op : Op} {f : FuncId} {args : Array Value} {v : Value} (C : Ctx w0 F0 D w F ps) (hc : Calls P f args w fun e w' => e = .returned v ∧ (∃ n, w' = w.drewN n)) (h : vD P env op ty w f args) (k : ∀ w', Ctx w0 F0 D w' F ps → WL P ops Q rest (zW env dst v) w') :
  WL P ops Q (⟨dst, op, ty, pos, aft, none⟩ :: rest) env w := WL.call h hc fun e w' ⟨he, n, hn⟩ => ⟨v, he, by rw [hn]; exact k _ (C.drewN n)⟩
theorem WL.c0 {op : Op} {f : FuncId} {args : Array Value} {v : Value} (C : Ctx w0 F0 D w F ps) (hc : Calls P f args w fun e w' => e = .returned v ∧ Ctx w F (sR []) w' F []) (h : vD P env op ty w f args) (k : ∀ w', Ctx w0 F0 D w' F ps → WL P ops Q rest (zW env dst v) w') :
  WL P ops Q (⟨dst, op, ty, pos, aft, none⟩ :: rest) env w := WL.call h hc fun e w' ⟨he, c⟩ => ⟨v, he, k _ (C.wS c)⟩
theorem WL.la (C : Ctx w0 F0 D w F ps) (i : Nat) (hp : ps[i]? = some (CH.row g 0 cs)) (hx : ev env x = .pointer (some ⟨g, 0, none⟩)) (hu : P.underlying t = some u) (hd : Ax u = true) (sz : (P.info? t).map (·.size) = some cs.length) (k : WL P ops Q rest (upd env d (.agg cs.toArray)) w) :
  WL P ops Q (⟨some d, .load t x, ty, pos, aft, none⟩ :: rest) env w := WL.val (Yl.xD (o := 0) hx hu hd sz (Ctx.rO i C hp) (xX _)) k
theorem WL.laG {j z : Nat} {b : Bool} (C : Ctx w0 F0 D w F ps) (i : Nat) (hj : (ops[j]?).bind (·.dst) = some z) (hb : env z = .bool b) (hp : ps[i]? = some (CH.row g 0 cs)) (hx : ev env x = .pointer (some ⟨g, 0, none⟩)) (hu : P.underlying t = some u) (hd : Ax u = true) (sz : (P.info? t).map (·.size) = some cs.length) (k : WL P ops Q rest (upd env d (.agg cs.toArray)) w) :
  WL P ops Q (⟨some d, .load t x, ty, pos, aft, some (j, b)⟩ :: rest) env w := WL.xC hj hb (Yl.xD (o := 0) hx hu hd sz (Ctx.rO i C hp) (xX _)) k
theorem WL.ln {A : Option Addr} {l q : Nat} {e : TypeId} (n : Int) (hx : ev env x = .slice A l q) (ht : P.underlying t = some (.slice e)) (hn : (l : Int) = n) (k : WL P ops Q rest (upd env d (.int .i64 n)) w) :
  WL P ops Q (⟨some d, .call { callee := .builtin .len, args := #[x], argTypes := #[t] }, ty, pos, aft, none⟩ :: rest) env w := WL.val (Yl.Bw hx ht hn) k
theorem WL.lnG {j z : Nat} {b : Bool} {A : Option Addr} {l q : Nat} {e : TypeId} (n : Int) (hj : (ops[j]?).bind (·.dst) = some z) (hb : env z = .bool b) (hx : ev env x = .slice A l q) (ht : P.underlying t = some (.slice e)) (hn : (l : Int) = n) (k : WL P ops Q rest (upd env d (.int .i64 n)) w) :
  WL P ops Q (⟨some d, .call { callee := .builtin .len, args := #[x], argTypes := #[t] }, ty, pos, aft, some (j, b)⟩ :: rest) env w := WL.xC hj hb (Yl.Bw hx ht hn) k
end
abbrev oW {α : Type} (K : Kd α) (F p : CH) (A : Option Addr) (n c : Nat) (x : List α) (r : Prop) : Prop := n = x.length ∧ Row K F p (.slice A n c) x ∧ r
abbrev sW {α : Type} (K : Kd α) (F : CH) (A : Option Addr) (n c : Nat) (x : List α) (r : Prop) : Prop := n = x.length ∧ x.length ≤ c ∧ c ≤ maxLen ∧ Sl K F F A x ∧ r
abbrev LV := List Value
abbrev pt (g : Nat) : Value := .pointer (some ⟨g, 0, none⟩)
abbrev r0 (g : Nat) (cs : List Value) : CH := CH.row g 0 cs
abbrev KI : Kd Int := Kd.int .i64
abbrev KB : Kd Int := Kd.int .u8
abbrev z32 : List Int := List.replicate 32 0
theorem cb {a b : Bool} (h : a = b) : Value.bool a = Value.bool b := congrArg Value.bool h
theorem sp {α β : Type} {a c : α} {b d : β} (h : some (a, b) = some (c, d)) : a = c ∧ b = d := by cases h; exact ⟨rfl, rfl⟩
theorem sp3 {α β γ : Type} {a c : α} {b d : β} {x y : γ} (h : some (a, b, x) = some (c, d, y)) : a = c ∧ b = d ∧ x = y := by cases h; exact ⟨rfl, rfl, rfl⟩
section
variable {w0 w w' : World} {F0 F F' G G' : CH} {D : Nat → Nat → Prop} {ps qs' : List CH}
theorem Ctx.pq (h : Ctx w0 F0 D w F ps) (n : Nat) : Pre w F (ps.take n) := Ctx.pre (rest := ps.drop n) (by rw [List.take_append_drop]; exact h)
theorem Ctx.cn (n : Nat) (h : Ctx w0 F0 D w F ps) (k : Ctx w F (sR (ps.take n)) w' F' qs') : Ctx w0 F0 D w' F' (qs' ++ ps.drop n) := Ctx.call (qs := ps.take n) (by rw [List.take_append_drop]; exact h) k
theorem Ctx.cl (n : Nat) (h : Ctx w0 F0 D w F ps) (hl : CH.le F G) (k : Ctx w G (sR (ps.take n)) w' G' qs') : Ctx w0 F0 D w' F (qs' ++ ps.drop n) := Ctx.J8 (qs := ps.take n) (by rw [List.take_append_drop]; exact h) hl k
end
end Go.WG
namespace Go.Proofs.YtobdpbnadjkhiaaGreat
open Go.RowKit Go.WG
set_option linter.unusedVariables false
set_option linter.unusedSimpArgs false
set_option maxRecDepth 100000
set_option maxHeartbeats 4000000
theorem sz3 : (Tryz.prog.info? 3).map (·.size) = some 1 := by kernel_rfl
theorem sz4 : (Tryz.prog.info? 4).map (·.size) = some 1 := by kernel_rfl
theorem sz5 : (Tryz.prog.info? 5).map (·.size) = some 1 := by kernel_rfl
theorem yL : (Tryz.prog.info? 23).map (·.size) = some 32 := by kernel_rfl
theorem AP : (Tryz.prog.info? 24).map (·.size) = some 1 := by kernel_rfl
theorem BP : (Tryz.prog.info? 26).map (·.size) = some 38 := by kernel_rfl
theorem K3 : (Tryz.prog.info? 28).map (·.size) = some 1 := by kernel_rfl
theorem Ac : (Tryz.prog.info? 42).map (·.size) = some 7 := by kernel_rfl
theorem Jv : (Tryz.prog.info? 45).map (·.size) = some 1 := by kernel_rfl
theorem Ii : (Tryz.prog.info? 46).map (·.size) = some 1 := by kernel_rfl
theorem AX : (Tryz.prog.info? 47).map (·.size) = some 1 := by kernel_rfl
theorem J4 : (Tryz.prog.info? 48).map (·.size) = some 1 := by kernel_rfl
theorem wM : (Tryz.prog.info? 50).map (·.size) = some 5 := by kernel_rfl
theorem FW : (Tryz.prog.info? 61).map (·.size) = some 1 := by kernel_rfl
theorem yN : (Tryz.prog.info? 63).map (·.size) = some 9 := by kernel_rfl
theorem A6 : (Tryz.prog.info? 94).map (·.size) = some 33 := by kernel_rfl
theorem yM : (Tryz.prog.info? 96).map (·.size) = some 2 := by kernel_rfl
theorem H8 : (Tryz.prog.info? 114).map (·.size) = some 3 := by kernel_rfl
theorem Jl : (Tryz.prog.info? 143).map (·.size) = some 1 := by kernel_rfl
theorem zQ : (Tryz.prog.info? 149).map (·.size) = some 2 := by kernel_rfl
theorem ti3 : TI Tryz.prog 3 (.int .i64 0) 1 8 := (by kernel_rfl : (Tryz.prog.info? 3).map (fun i => (i.zero, i.size, i.bytes)) = some (some (.int .i64 0), 1, 8))
theorem zo3 : ∀ u ∈ (.int .i64 0 : Value).cells.toList, u.oneCell' = true := fun u hu => List.all_eq_true.1 (rfl : ((.int .i64 0 : Value).cells.toList).all (·.oneCell') = true) u hu
theorem ti4 : TI Tryz.prog 4 (.bool false) 1 1 := (by kernel_rfl : (Tryz.prog.info? 4).map (fun i => (i.zero, i.size, i.bytes)) = some (some (.bool false), 1, 1))
theorem zo4 : ∀ u ∈ (.bool false : Value).cells.toList, u.oneCell' = true := fun u hu => List.all_eq_true.1 (rfl : ((.bool false : Value).cells.toList).all (·.oneCell') = true) u hu
theorem ti5 : TI Tryz.prog 5 (.int .u8 0) 1 1 := (by kernel_rfl : (Tryz.prog.info? 5).map (fun i => (i.zero, i.size, i.bytes)) = some (some (.int .u8 0), 1, 1))
theorem zo5 : ∀ u ∈ (.int .u8 0 : Value).cells.toList, u.oneCell' = true := fun u hu => List.all_eq_true.1 (rfl : ((.int .u8 0 : Value).cells.toList).all (·.oneCell') = true) u hu
theorem K5 : TI Tryz.prog 26 (.agg #[.int .i64 0, .int .i64 0, .int .u8 0, .int .u8 0, .int .u8 0, .int .u8 0, .int .u8 0, .int .u8 0, .int .u8 0, .int .u8 0, .int .u8 0, .int .u8 0, .int .u8 0, .int .u8 0, .int .u8 0, .int .u8 0, .int .u8 0, .int .u8 0, .int .u8 0, .int .u8 0, .int .u8 0, .int .u8 0, .int .u8 0, .int .u8 0, .int .u8 0, .int .u8 0, .int .u8 0, .int .u8 0, .int .u8 0, .int .u8 0, .int .u8 0, .int .u8 0, .int .u8 0, .int .u8 0, .slice none 0 0, .int .i64 0, .int .i64 0, .int .i64 0]) 38 96 := (by kernel_rfl : (Tryz.prog.info? 26).map (fun i => (i.zero, i.size, i.bytes)) = some (some (.agg #[.int .i64 0, .int .i64 0, .int .u8 0, .int .u8 0, .int .u8 0, .int .u8 0, .int .u8 0, .int .u8 0, .int .u8 0, .int .u8 0, .int .u8 0, .int .u8 0, .int .u8 0, .int .u8 0, .int .u8 0, .int .u8 0, .int .u8 0, .int .u8 0, .int .u8 0, .int .u8 0, .int .u8 0, .int .u8 0, .int .u8 0, .int .u8 0, .int .u8 0, .int .u8 0, .int .u8 0, .int .u8 0, .int .u8 0, .int .u8 0, .int .u8 0, .int .u8 0, .int .u8 0, .int .u8 0, .slice none 0 0, .int .i64 0, .int .i64 0, .int .i64 0]), 38, 96))
theorem FF : TI Tryz.prog 63 (.agg #[.slice none 0 0, .int .i64 0, .int .i64 0, .int .i64 0, .int .i64 0, .slice none 0 0, .slice none 0 0, .slice none 0 0, .slice none 0 0]) 9 152 := (by kernel_rfl : (Tryz.prog.info? 63).map (fun i => (i.zero, i.size, i.bytes)) = some (some (.agg #[.slice none 0 0, .int .i64 0, .int .i64 0, .int .i64 0, .int .i64 0, .slice none 0 0, .slice none 0 0, .slice none 0 0, .slice none 0 0]), 9, 152))
theorem I9 : ∀ u ∈ (.agg #[.slice none 0 0, .int .i64 0, .int .i64 0, .int .i64 0, .int .i64 0, .slice none 0 0, .slice none 0 0, .slice none 0 0, .slice none 0 0] : Value).cells.toList, u.oneCell' = true := fun u hu => List.all_eq_true.1 (rfl : ((.agg #[.slice none 0 0, .int .i64 0, .int .i64 0, .int .i64 0, .int .i64 0, .slice none 0 0, .slice none 0 0, .slice none 0 0, .slice none 0 0] : Value).cells.toList).all (·.oneCell') = true) u hu
theorem Fj : TI Tryz.prog 94 (.agg #[.int .i64 0, .int .u8 0, .int .u8 0, .int .u8 0, .int .u8 0, .int .u8 0, .int .u8 0, .int .u8 0, .int .u8 0, .int .u8 0, .int .u8 0, .int .u8 0, .int .u8 0, .int .u8 0, .int .u8 0, .int .u8 0, .int .u8 0, .int .u8 0, .int .u8 0, .int .u8 0, .int .u8 0, .int .u8 0, .int .u8 0, .int .u8 0, .int .u8 0, .int .u8 0, .int .u8 0, .int .u8 0, .int .u8 0, .int .u8 0, .int .u8 0, .int .u8 0, .int .u8 0]) 33 40 := (by kernel_rfl : (Tryz.prog.info? 94).map (fun i => (i.zero, i.size, i.bytes)) = some (some (.agg #[.int .i64 0, .int .u8 0, .int .u8 0, .int .u8 0, .int .u8 0, .int .u8 0, .int .u8 0, .int .u8 0, .int .u8 0, .int .u8 0, .int .u8 0, .int .u8 0, .int .u8 0, .int .u8 0, .int .u8 0, .int .u8 0, .int .u8 0, .int .u8 0, .int .u8 0, .int .u8 0, .int .u8 0, .int .u8 0, .int .u8 0, .int .u8 0, .int .u8 0, .int .u8 0, .int .u8 0, .int .u8 0, .int .u8 0, .int .u8 0, .int .u8 0, .int .u8 0, .int .u8 0]), 33, 40))
theorem I8 : ∀ u ∈ (.agg #[.int .i64 0, .int .u8 0, .int .u8 0, .int .u8 0, .int .u8 0, .int .u8 0, .int .u8 0, .int .u8 0, .int .u8 0, .int .u8 0, .int .u8 0, .int .u8 0, .int .u8 0, .int .u8 0, .int .u8 0, .int .u8 0, .int .u8 0, .int .u8 0, .int .u8 0, .int .u8 0, .int .u8 0, .int .u8 0, .int .u8 0, .int .u8 0, .int .u8 0, .int .u8 0, .int .u8 0, .int .u8 0, .int .u8 0, .int .u8 0, .int .u8 0, .int .u8 0, .int .u8 0] : Value).cells.toList, u.oneCell' = true := fun u hu => List.all_eq_true.1 (rfl : ((.agg #[.int .i64 0, .int .u8 0, .int .u8 0, .int .u8 0, .int .u8 0, .int .u8 0, .int .u8 0, .int .u8 0, .int .u8 0, .int .u8 0, .int .u8 0, .int .u8 0, .int .u8 0, .int .u8 0, .int .u8 0, .int .u8 0, .int .u8 0, .int .u8 0, .int .u8 0, .int .u8 0, .int .u8 0, .int .u8 0, .int .u8 0, .int .u8 0, .int .u8 0, .int .u8 0, .int .u8 0, .int .u8 0, .int .u8 0, .int .u8 0, .int .u8 0, .int .u8 0, .int .u8 0] : Value).cells.toList).all (·.oneCell') = true) u hu
theorem Ec : TI Tryz.prog 96 (.agg #[.int .i64 0, .slice none 0 0]) 2 32 := (by kernel_rfl : (Tryz.prog.info? 96).map (fun i => (i.zero, i.size, i.bytes)) = some (some (.agg #[.int .i64 0, .slice none 0 0]), 2, 32))
theorem Hi : ∀ u ∈ (.agg #[.int .i64 0, .slice none 0 0] : Value).cells.toList, u.oneCell' = true := fun u hu => List.all_eq_true.1 (rfl : ((.agg #[.int .i64 0, .slice none 0 0] : Value).cells.toList).all (·.oneCell') = true) u hu
theorem Jd : TI Tryz.prog 149 (.agg #[.int .i64 0, .int .i64 0]) 2 16 := (by kernel_rfl : (Tryz.prog.info? 149).map (fun i => (i.zero, i.size, i.bytes)) = some (some (.agg #[.int .i64 0, .int .i64 0]), 2, 16))
theorem KD : ∀ u ∈ (.agg #[.int .i64 0, .int .i64 0] : Value).cells.toList, u.oneCell' = true := fun u hu => List.all_eq_true.1 (rfl : ((.agg #[.int .i64 0, .int .i64 0] : Value).cells.toList).all (·.oneCell') = true) u hu
theorem zr3 : (Tryz.prog.info? 3).map (·.zero) = some (some (.int .i64 0)) := by kernel_rfl
theorem D9 : (Tryz.prog.info? 23).map (·.zero) = some (some (.agg #[.int .u8 0, .int .u8 0, .int .u8 0, .int .u8 0, .int .u8 0, .int .u8 0, .int .u8 0, .int .u8 0, .int .u8 0, .int .u8 0, .int .u8 0, .int .u8 0, .int .u8 0, .int .u8 0, .int .u8 0, .int .u8 0, .int .u8 0, .int .u8 0, .int .u8 0, .int .u8 0, .int .u8 0, .int .u8 0, .int .u8 0, .int .u8 0, .int .u8 0, .int .u8 0, .int .u8 0, .int .u8 0, .int .u8 0, .int .u8 0, .int .u8 0, .int .u8 0])) := by kernel_rfl
theorem Fy : (Tryz.prog.info? 26).map (·.zero) = some (some (.agg #[.int .i64 0, .int .i64 0, .int .u8 0, .int .u8 0, .int .u8 0, .int .u8 0, .int .u8 0, .int .u8 0, .int .u8 0, .int .u8 0, .int .u8 0, .int .u8 0, .int .u8 0, .int .u8 0, .int .u8 0, .int .u8 0, .int .u8 0, .int .u8 0, .int .u8 0, .int .u8 0, .int .u8 0, .int .u8 0, .int .u8 0, .int .u8 0, .int .u8 0, .int .u8 0, .int .u8 0, .int .u8 0, .int .u8 0, .int .u8 0, .int .u8 0, .int .u8 0, .int .u8 0, .int .u8 0, .slice none 0 0, .int .i64 0, .int .i64 0, .int .i64 0])) := by kernel_rfl
theorem KH : (Tryz.prog.info? 42).map (·.zero) = some (some (.agg #[.int .i64 0, .int .i64 0, .int .i64 0, .int .i64 0, .int .i64 0, .int .i64 0, .int .i64 0])) := by kernel_rfl
theorem zN : (Tryz.prog.info? 50).map (·.zero) = some (some (.agg #[.slice none 0 0, .slice none 0 0, .slice none 0 0, .slice none 0 0, .int .i64 0])) := by kernel_rfl
theorem Cv : (Tryz.prog.info? 63).map (·.zero) = some (some (.agg #[.slice none 0 0, .int .i64 0, .int .i64 0, .int .i64 0, .int .i64 0, .slice none 0 0, .slice none 0 0, .slice none 0 0, .slice none 0 0])) := by kernel_rfl
theorem KL : (Tryz.prog.info? 67).map (·.zero) = some (some (.agg #[.slice none 0 0])) := by kernel_rfl
theorem K0 : (Tryz.prog.info? 81).map (·.zero) = some (some (.agg #[.slice none 0 0, .int .i64 0])) := by kernel_rfl
theorem K8 : (Tryz.prog.info? 90).map (·.zero) = some (some (.agg #[.int .i64 0, .int .i64 0, .int .i64 0, .int .i64 0, .int .i64 0, .int .i64 0, .int .i64 0, .slice none 0 0, .slice none 0 0, .slice none 0 0, .slice none 0 0, .int .i64 0])) := by kernel_rfl
theorem GX : (Tryz.prog.info? 94).map (·.zero) = some (some (.agg #[.int .i64 0, .int .u8 0, .int .u8 0, .int .u8 0, .int .u8 0, .int .u8 0, .int .u8 0, .int .u8 0, .int .u8 0, .int .u8 0, .int .u8 0, .int .u8 0, .int .u8 0, .int .u8 0, .int .u8 0, .int .u8 0, .int .u8 0, .int .u8 0, .int .u8 0, .int .u8 0, .int .u8 0, .int .u8 0, .int .u8 0, .int .u8 0, .int .u8 0, .int .u8 0, .int .u8 0, .int .u8 0, .int .u8 0, .int .u8 0, .int .u8 0, .int .u8 0, .int .u8 0])) := by kernel_rfl
theorem CU : (Tryz.prog.info? 96).map (·.zero) = some (some (.agg #[.int .i64 0, .slice none 0 0])) := by kernel_rfl
theorem JZ : (Tryz.prog.info? 103).map (·.zero) = some (some (.agg #[.int .i64 0, .int .i64 0, .int .i64 0, .int .i64 0])) := by kernel_rfl
theorem J3 : (Tryz.prog.info? 107).map (·.zero) = some (some (.agg #[.slice none 0 0, .int .i64 0, .int .i64 0])) := by kernel_rfl
theorem De : (Tryz.prog.info? 114).map (·.zero) = some (some (.agg #[.int .i64 0, .int .i64 0, .int .i64 0])) := by kernel_rfl
theorem Kt : (Tryz.prog.info? 115).map (·.zero) = some (some (.agg #[.int .i64 0, .int .i64 0, .int .i64 0, .int .i64 0, .int .i64 0, .int .i64 0, .int .i64 0, .int .i64 0, .int .i64 0, .int .i64 0, .int .i64 0, .int .i64 0, .int .i64 0, .int .i64 0, .int .i64 0, .int .i64 0, .int .i64 0, .int .i64 0, .int .i64 0, .int .i64 0, .int .i64 0])) := by kernel_rfl
theorem HF : (Tryz.prog.info? 139).map (·.zero) = some (some (.map none)) := by kernel_rfl
theorem JY : (Tryz.prog.info? 143).map (·.zero) = some (some (.slice none 0 0)) := by kernel_rfl
theorem Jk : (Tryz.prog.info? 149).map (·.zero) = some (some (.agg #[.int .i64 0, .int .i64 0])) := by kernel_rfl
theorem H9 : ∀ fs, Tryz.prog.underlying 26 = some (.struct fs) → fs.toList.map (fun f => (Tryz.prog.info? f.type).map (fun i => (f.offset, i.size))) = [(0, 1), (1, 1), (2, 32), (34, 1), (35, 1), (36, 1), (37, 1)].map some := by
  intro fs h
  rw [Tryz.underlying26] at h
  cases h
  kernel_rfl
theorem KX : ∀ fs, Tryz.prog.underlying 42 = some (.struct fs) → fs.toList.map (fun f => (Tryz.prog.info? f.type).map (fun i => (f.offset, i.size))) = [(0, 1), (1, 1), (2, 1), (3, 1), (4, 1), (5, 1), (6, 1)].map some := by
  intro fs h
  rw [Tryz.underlying42] at h
  cases h
  kernel_rfl
theorem DB : ∀ fs, Tryz.prog.underlying 50 = some (.struct fs) → fs.toList.map (fun f => (Tryz.prog.info? f.type).map (fun i => (f.offset, i.size))) = [(0, 1), (1, 1), (2, 1), (3, 1), (4, 1)].map some := by
  intro fs h
  rw [Tryz.underlying50] at h
  cases h
  kernel_rfl
theorem IK : ∀ fs, Tryz.prog.underlying 63 = some (.struct fs) → fs.toList.map (fun f => (Tryz.prog.info? f.type).map (fun i => (f.offset, i.size))) = [(0, 1), (1, 1), (2, 1), (3, 1), (4, 1), (5, 1), (6, 1), (7, 1), (8, 1)].map some := by
  intro fs h
  rw [Tryz.underlying63] at h
  cases h
  kernel_rfl
theorem KV : ∀ fs, Tryz.prog.underlying 81 = some (.struct fs) → fs.toList.map (fun f => (Tryz.prog.info? f.type).map (fun i => (f.offset, i.size))) = [(0, 1), (1, 1)].map some := by
  intro fs h
  rw [Tryz.underlying81] at h
  cases h
  kernel_rfl
theorem KM : ∀ fs, Tryz.prog.underlying 90 = some (.struct fs) → fs.toList.map (fun f => (Tryz.prog.info? f.type).map (fun i => (f.offset, i.size))) = [(0, 7), (7, 5)].map some := by
  intro fs h
  rw [Tryz.underlying90] at h
  cases h
  kernel_rfl
theorem JW : ∀ fs, Tryz.prog.underlying 94 = some (.struct fs) → fs.toList.map (fun f => (Tryz.prog.info? f.type).map (fun i => (f.offset, i.size))) = [(0, 1), (1, 32)].map some := by
  intro fs h
  rw [Tryz.underlying94] at h
  cases h
  kernel_rfl
theorem G5 : ∀ fs, Tryz.prog.underlying 96 = some (.struct fs) → fs.toList.map (fun f => (Tryz.prog.info? f.type).map (fun i => (f.offset, i.size))) = [(0, 1), (1, 1)].map some := by
  intro fs h
  rw [Tryz.underlying96] at h
  cases h
  kernel_rfl
theorem KE : ∀ fs, Tryz.prog.underlying 107 = some (.struct fs) → fs.toList.map (fun f => (Tryz.prog.info? f.type).map (fun i => (f.offset, i.size))) = [(0, 1), (1, 1), (2, 1)].map some := by
  intro fs h
  rw [Tryz.underlying107] at h
  cases h
  kernel_rfl
theorem Ka : ∀ fs, Tryz.prog.underlying 149 = some (.struct fs) → fs.toList.map (fun f => (Tryz.prog.info? f.type).map (fun i => (f.offset, i.size))) = [(0, 1), (1, 1)].map some := by
  intro fs h
  rw [Tryz.underlying149] at h
  cases h
  kernel_rfl
def tbP : List (Nat × List Nat) := [(26, [0, 1, 2, 34, 35, 36, 37]), (42, [0, 1, 2, 3, 4, 5, 6]), (50, [0, 1, 2, 3, 4]), (63, [0, 1, 2, 3, 4, 5, 6, 7, 8]), (67, [0]), (81, [0, 1]), (90, [0, 7]), (94, [0, 1]), (96, [0, 1]), (107, [0, 1, 2]), (149, [0, 1])]
theorem to : Ap Tryz.prog tbP := Ap.of (by kernel_rfl)
theorem ne : CC Tryz.prog [5, 7, 11, 13, 14, 15, 16, 17, 18, 19, 20, 21, 22, 23, 24, 25, 30, 31, 32, 33, 34, 35, 36, 37, 38, 39, 40, 41, 42, 43, 44, 45, 46, 47, 48, 49, 50, 51, 52, 55, 56, 57, 58, 59, 60, 61, 62, 63, 70, 71, 73, 74, 75, 76, 77, 78, 79, 80, 81, 82, 83, 84, 85, 86, 87, 88, 89, 90, 91, 92, 93, 94, 95, 97, 98, 101] := CC.of (by kernel_rfl)
theorem Lc : Tryz.prog.eqGuardType Tryz.prog.depth 23 = false := by kernel_rfl
theorem KQ : Tryz.prog.eqGuardType Tryz.prog.depth 94 = false := by kernel_rfl
theorem Ld : Tryz.prog.stoodInHeld 94 = false := by kernel_rfl
structure rA where
  Worker : Int
  Value : List Int
def rA.z : rA := ⟨0, []⟩
def rA.K : Kd rA := Kd.iso (Kd.pair (Kd.int .i64) (Kd.slice (Kd.int .u8))) (fun x : rA => (x.Worker, x.Value))
theorem rA.open {F : CH} {x : rA} {cs : List Go.Value} (h : rA.K.rep F x cs) : ∃ (A1 : Option Addr) (c2 : Nat) (n3 : Nat), cs = [.int .i64 x.Worker, .slice A1 n3 c2] ∧ n3 = x.Value.length ∧ x.Value.length ≤ c2 ∧ c2 ≤ maxLen ∧ Sl (Kd.int .u8) F F A1 x.Value := by
  obtain ⟨_, _, rfl, u8, t9⟩ := h
  obtain rfl := u8
  obtain ⟨A10, c11, rfl, q12, q13, q14⟩ := t9
  exact ⟨A10, c11, _, rfl, rfl, q12, q13, q14⟩
theorem rA.mk' (F : CH) (x : rA) (A1 : Option Addr) (c2 : Nat) (n3 : Nat) (hn4 : n3 = x.Value.length) (hl5 : x.Value.length ≤ c2) (hm6 : c2 ≤ maxLen) (hS7 : Sl (Kd.int .u8) F F A1 x.Value) : rA.K.rep F x ([.int .i64 x.Worker, .slice A1 n3 c2]) := ⟨_, _, rfl, rfl, (wU A1 c2 n3 hn4 hl5 hm6 hS7)⟩
structure sA where
  used : Int
  id : Int
def sA.z : sA := ⟨0, 0⟩
def sA.K : Kd sA := Kd.iso (Kd.pair (Kd.int .i64) (Kd.int .i64)) (fun x : sA => (x.used, x.id))
theorem sA.open {F : CH} {x : sA} {cs : List Go.Value} (h : sA.K.rep F x cs) : cs = [.int .i64 x.used, .int .i64 x.id] := by
  obtain ⟨_, _, rfl, u1, t2⟩ := h
  obtain rfl := u1
  obtain rfl := t2
  exact rfl
theorem sA.mk' (F : CH) (x : sA)   : sA.K.rep F x ([.int .i64 x.used, .int .i64 x.id]) := ⟨_, _, rfl, rfl, rfl⟩
structure rK where
  Faulty : Int
  Workers : Int
  Height : Int
  Bits : Int
  Jobs : Int
  Term : Int
  Heads : Int
def rK.K : Kd rK := Kd.iso (Kd.pair (Kd.int .i64) (Kd.pair (Kd.int .i64) (Kd.pair (Kd.int .i64) (Kd.pair (Kd.int .i64) (Kd.pair (Kd.int .i64) (Kd.pair (Kd.int .i64) (Kd.int .i64))))))) (fun x : rK => (x.Faulty, (x.Workers, (x.Height, (x.Bits, (x.Jobs, (x.Term, x.Heads)))))))
theorem rK.open {F : CH} {x : rK} {cs : List Go.Value} (h : rK.K.rep F x cs) : cs = [.int .i64 x.Faulty, .int .i64 x.Workers, .int .i64 x.Height, .int .i64 x.Bits, .int .i64 x.Jobs, .int .i64 x.Term, .int .i64 x.Heads] := by
  obtain ⟨_, _, rfl, u1, t2⟩ := h
  obtain rfl := u1
  obtain ⟨_, _, rfl, u3, t4⟩ := t2
  obtain rfl := u3
  obtain ⟨_, _, rfl, u5, t6⟩ := t4
  obtain rfl := u5
  obtain ⟨_, _, rfl, u7, t8⟩ := t6
  obtain rfl := u7
  obtain ⟨_, _, rfl, u9, t10⟩ := t8
  obtain rfl := u9
  obtain ⟨_, _, rfl, u11, t12⟩ := t10
  obtain rfl := u11
  obtain rfl := t12
  exact rfl
theorem rK.mk' (F : CH) (x : rK)   : rK.K.rep F x ([.int .i64 x.Faulty, .int .i64 x.Workers, .int .i64 x.Height, .int .i64 x.Bits, .int .i64 x.Jobs, .int .i64 x.Term, .int .i64 x.Heads]) := ⟨_, _, rfl, rfl, ⟨_, _, rfl, rfl, ⟨_, _, rfl, rfl, ⟨_, _, rfl, rfl, ⟨_, _, rfl, rfl, ⟨_, _, rfl, rfl, rfl⟩⟩⟩⟩⟩⟩
structure sD where
  Epoch : Int
  Nonce : List Int
def sD.z : sD := ⟨0, List.replicate 32 0⟩
def sD.K : Kd sD := Kd.iso (Kd.pair (Kd.int .i64) (Kd.Eb 32 .u8)) (fun x : sD => (x.Epoch, x.Nonce))
theorem sD.open {F : CH} {x : sD} {cs : List Go.Value} (h : sD.K.rep F x cs) : cs = [.int .i64 x.Epoch] ++ (x.Nonce.map (Value.int .u8)) ∧ x.Nonce.length = 32 := by
  obtain ⟨_, _, rfl, u2, t3⟩ := h
  obtain rfl := u2
  obtain ⟨rfl, q4⟩ := t3
  exact ⟨rfl, q4⟩
theorem sD.mk' (F : CH) (x : sD)  (ha1 : x.Nonce.length = 32) : sD.K.rep F x ([.int .i64 x.Epoch] ++ (x.Nonce.map (Value.int .u8))) := ⟨[.int .i64 x.Epoch], (x.Nonce.map (Value.int .u8)), rfl, rfl, ⟨rfl, ha1⟩⟩
structure bT where
  Payload : List Int
  State : Int
  Attempt : Int
  Epoch : Int
  Until : Int
  Workers : List Int
  Indexes : List Int
  rI : List rA
  Value : List Int
def bT.z : bT := ⟨[], 0, 0, 0, 0, [], [], [], []⟩
def bT.K : Kd bT := Kd.iso (Kd.pair (Kd.slice (Kd.int .u8)) (Kd.pair (Kd.int .i64) (Kd.pair (Kd.int .i64) (Kd.pair (Kd.int .i64) (Kd.pair (Kd.int .i64) (Kd.pair (Kd.slice (Kd.int .i64)) (Kd.pair (Kd.slice (Kd.int .i64)) (Kd.pair (Kd.slice rA.K) (Kd.slice (Kd.int .u8)))))))))) (fun x : bT => (x.Payload, (x.State, (x.Attempt, (x.Epoch, (x.Until, (x.Workers, (x.Indexes, (x.rI, x.Value)))))))))
theorem bT.open {F : CH} {x : bT} {cs : List Go.Value} (h : bT.K.rep F x cs) : ∃ (A1 : Option Addr) (c2 : Nat) (n3 : Nat) (A8 : Option Addr) (c9 : Nat) (n10 : Nat) (A15 : Option Addr) (c16 : Nat) (n17 : Nat) (A22 : Option Addr) (c23 : Nat) (n24 : Nat) (A29 : Option Addr) (c30 : Nat) (n31 : Nat), cs = [.slice A1 n3 c2, .int .i64 x.State, .int .i64 x.Attempt, .int .i64 x.Epoch, .int .i64 x.Until, .slice A8 n10 c9, .slice A15 n17 c16, .slice A22 n24 c23, .slice A29 n31 c30] ∧ n3 = x.Payload.length ∧ x.Payload.length ≤ c2 ∧ c2 ≤ maxLen ∧ Sl (Kd.int .u8) F F A1 x.Payload ∧ n10 = x.Workers.length ∧ x.Workers.length ≤ c9 ∧ c9 ≤ maxLen ∧ Sl (Kd.int .i64) F F A8 x.Workers ∧ n17 = x.Indexes.length ∧ x.Indexes.length ≤ c16 ∧ c16 ≤ maxLen ∧ Sl (Kd.int .i64) F F A15 x.Indexes ∧ n24 = x.rI.length ∧ x.rI.length ≤ c23 ∧ c23 ≤ maxLen ∧ Sl rA.K F F A22 x.rI ∧ n31 = x.Value.length ∧ x.Value.length ≤ c30 ∧ c30 ≤ maxLen ∧ Sl (Kd.int .u8) F F A29 x.Value := by
  obtain ⟨_, _, rfl, u36, t37⟩ := h
  obtain ⟨A38, c39, rfl, q40, q41, q42⟩ := u36
  obtain ⟨_, _, rfl, u43, t44⟩ := t37
  obtain rfl := u43
  obtain ⟨_, _, rfl, u45, t46⟩ := t44
  obtain rfl := u45
  obtain ⟨_, _, rfl, u47, t48⟩ := t46
  obtain rfl := u47
  obtain ⟨_, _, rfl, u49, t50⟩ := t48
  obtain rfl := u49
  obtain ⟨_, _, rfl, u51, t52⟩ := t50
  obtain ⟨A53, c54, rfl, q55, q56, q57⟩ := u51
  obtain ⟨_, _, rfl, u58, t59⟩ := t52
  obtain ⟨A60, c61, rfl, q62, q63, q64⟩ := u58
  obtain ⟨_, _, rfl, u65, t66⟩ := t59
  obtain ⟨A67, c68, rfl, q69, q70, q71⟩ := u65
  obtain ⟨A72, c73, rfl, q74, q75, q76⟩ := t66
  exact ⟨A38, c39, _, A53, c54, _, A60, c61, _, A67, c68, _, A72, c73, _, rfl, rfl, q40, q41, q42, rfl, q55, q56, q57, rfl, q62, q63, q64, rfl, q69, q70, q71, rfl, q74, q75, q76⟩
theorem bT.mk' (F : CH) (x : bT) (A1 : Option Addr) (c2 : Nat) (n3 : Nat) (A8 : Option Addr) (c9 : Nat) (n10 : Nat) (A15 : Option Addr) (c16 : Nat) (n17 : Nat) (A22 : Option Addr) (c23 : Nat) (n24 : Nat) (A29 : Option Addr) (c30 : Nat) (n31 : Nat) (hn4 : n3 = x.Payload.length) (hl5 : x.Payload.length ≤ c2) (hm6 : c2 ≤ maxLen) (hS7 : Sl (Kd.int .u8) F F A1 x.Payload) (hn11 : n10 = x.Workers.length) (hl12 : x.Workers.length ≤ c9) (hm13 : c9 ≤ maxLen) (hS14 : Sl (Kd.int .i64) F F A8 x.Workers) (hn18 : n17 = x.Indexes.length) (hl19 : x.Indexes.length ≤ c16) (hm20 : c16 ≤ maxLen) (hS21 : Sl (Kd.int .i64) F F A15 x.Indexes) (hn25 : n24 = x.rI.length) (hl26 : x.rI.length ≤ c23) (hm27 : c23 ≤ maxLen) (hS28 : Sl rA.K F F A22 x.rI) (hn32 : n31 = x.Value.length) (hl33 : x.Value.length ≤ c30) (hm34 : c30 ≤ maxLen) (hS35 : Sl (Kd.int .u8) F F A29 x.Value) : bT.K.rep F x ([.slice A1 n3 c2, .int .i64 x.State, .int .i64 x.Attempt, .int .i64 x.Epoch, .int .i64 x.Until, .slice A8 n10 c9, .slice A15 n17 c16, .slice A22 n24 c23, .slice A29 n31 c30]) := ⟨_, _, rfl, (wU A1 c2 n3 hn4 hl5 hm6 hS7), ⟨_, _, rfl, rfl, ⟨_, _, rfl, rfl, ⟨_, _, rfl, rfl, ⟨_, _, rfl, rfl, ⟨_, _, rfl, (wU A8 c9 n10 hn11 hl12 hm13 hS14), ⟨_, _, rfl, (wU A15 c16 n17 hn18 hl19 hm20 hS21), ⟨_, _, rfl, (wU A22 c23 n24 hn25 hl26 hm27 hS28), (wU A29 c30 n31 hn32 hl33 hm34 hS35)⟩⟩⟩⟩⟩⟩⟩⟩
structure bF where
  Eras : List sD
  Jobs : List bT
  Used : List Int
  Barred : List Bool
  Heads : Int
def bF.K : Kd bF := Kd.iso (Kd.pair (Kd.slice sD.K) (Kd.pair (Kd.slice bT.K) (Kd.pair (Kd.slice (Kd.int .i64)) (Kd.pair (Kd.slice Kd.bool) (Kd.int .i64))))) (fun x : bF => (x.Eras, (x.Jobs, (x.Used, (x.Barred, x.Heads)))))
theorem bF.open {F : CH} {x : bF} {cs : List Go.Value} (h : bF.K.rep F x cs) : ∃ (A1 : Option Addr) (c2 : Nat) (n3 : Nat) (A8 : Option Addr) (c9 : Nat) (n10 : Nat) (A15 : Option Addr) (c16 : Nat) (n17 : Nat) (A22 : Option Addr) (c23 : Nat) (n24 : Nat), cs = [.slice A1 n3 c2, .slice A8 n10 c9, .slice A15 n17 c16, .slice A22 n24 c23, .int .i64 x.Heads] ∧ n3 = x.Eras.length ∧ x.Eras.length ≤ c2 ∧ c2 ≤ maxLen ∧ Sl sD.K F F A1 x.Eras ∧ n10 = x.Jobs.length ∧ x.Jobs.length ≤ c9 ∧ c9 ≤ maxLen ∧ Sl bT.K F F A8 x.Jobs ∧ n17 = x.Used.length ∧ x.Used.length ≤ c16 ∧ c16 ≤ maxLen ∧ Sl (Kd.int .i64) F F A15 x.Used ∧ n24 = x.Barred.length ∧ x.Barred.length ≤ c23 ∧ c23 ≤ maxLen ∧ Sl Kd.bool F F A22 x.Barred := by
  obtain ⟨_, _, rfl, u29, t30⟩ := h
  obtain ⟨A31, c32, rfl, q33, q34, q35⟩ := u29
  obtain ⟨_, _, rfl, u36, t37⟩ := t30
  obtain ⟨A38, c39, rfl, q40, q41, q42⟩ := u36
  obtain ⟨_, _, rfl, u43, t44⟩ := t37
  obtain ⟨A45, c46, rfl, q47, q48, q49⟩ := u43
  obtain ⟨_, _, rfl, u50, t51⟩ := t44
  obtain ⟨A52, c53, rfl, q54, q55, q56⟩ := u50
  obtain rfl := t51
  exact ⟨A31, c32, _, A38, c39, _, A45, c46, _, A52, c53, _, rfl, rfl, q33, q34, q35, rfl, q40, q41, q42, rfl, q47, q48, q49, rfl, q54, q55, q56⟩
theorem bF.mk' (F : CH) (x : bF) (A1 : Option Addr) (c2 : Nat) (n3 : Nat) (A8 : Option Addr) (c9 : Nat) (n10 : Nat) (A15 : Option Addr) (c16 : Nat) (n17 : Nat) (A22 : Option Addr) (c23 : Nat) (n24 : Nat) (hn4 : n3 = x.Eras.length) (hl5 : x.Eras.length ≤ c2) (hm6 : c2 ≤ maxLen) (hS7 : Sl sD.K F F A1 x.Eras) (hn11 : n10 = x.Jobs.length) (hl12 : x.Jobs.length ≤ c9) (hm13 : c9 ≤ maxLen) (hS14 : Sl bT.K F F A8 x.Jobs) (hn18 : n17 = x.Used.length) (hl19 : x.Used.length ≤ c16) (hm20 : c16 ≤ maxLen) (hS21 : Sl (Kd.int .i64) F F A15 x.Used) (hn25 : n24 = x.Barred.length) (hl26 : x.Barred.length ≤ c23) (hm27 : c23 ≤ maxLen) (hS28 : Sl Kd.bool F F A22 x.Barred) : bF.K.rep F x ([.slice A1 n3 c2, .slice A8 n10 c9, .slice A15 n17 c16, .slice A22 n24 c23, .int .i64 x.Heads]) := ⟨_, _, rfl, (wU A1 c2 n3 hn4 hl5 hm6 hS7), ⟨_, _, rfl, (wU A8 c9 n10 hn11 hl12 hm13 hS14), ⟨_, _, rfl, (wU A15 c16 n17 hn18 hl19 hm20 hS21), ⟨_, _, rfl, (wU A22 c23 n24 hn25 hl26 hm27 hS28), rfl⟩⟩⟩⟩
structure rD where
  Kind : Int
  Epoch : Int
  Nonce : List Int
  Data : List Int
  Job : Int
  Time : Int
  By : Int
def rD.z : rD := ⟨0, 0, List.replicate 32 0, [], 0, 0, 0⟩
def rD.K : Kd rD := Kd.iso (Kd.pair (Kd.int .i64) (Kd.pair (Kd.int .i64) (Kd.pair (Kd.Eb 32 .u8) (Kd.pair (Kd.slice (Kd.int .u8)) (Kd.pair (Kd.int .i64) (Kd.pair (Kd.int .i64) (Kd.int .i64))))))) (fun x : rD => (x.Kind, (x.Epoch, (x.Nonce, (x.Data, (x.Job, (x.Time, x.By)))))))
theorem rD.open {F : CH} {x : rD} {cs : List Go.Value} (h : rD.K.rep F x cs) : ∃ (A2 : Option Addr) (c3 : Nat) (n4 : Nat), cs = [.int .i64 x.Kind, .int .i64 x.Epoch] ++ (x.Nonce.map (Value.int .u8) ++ [.slice A2 n4 c3, .int .i64 x.Job, .int .i64 x.Time, .int .i64 x.By]) ∧ x.Nonce.length = 32 ∧ n4 = x.Data.length ∧ x.Data.length ≤ c3 ∧ c3 ≤ maxLen ∧ Sl (Kd.int .u8) F F A2 x.Data := by
  obtain ⟨_, _, rfl, u9, t10⟩ := h
  obtain rfl := u9
  obtain ⟨_, _, rfl, u11, t12⟩ := t10
  obtain rfl := u11
  obtain ⟨_, _, rfl, u13, t14⟩ := t12
  obtain ⟨rfl, q15⟩ := u13
  obtain ⟨_, _, rfl, u16, t17⟩ := t14
  obtain ⟨A18, c19, rfl, q20, q21, q22⟩ := u16
  obtain ⟨_, _, rfl, u23, t24⟩ := t17
  obtain rfl := u23
  obtain ⟨_, _, rfl, u25, t26⟩ := t24
  obtain rfl := u25
  obtain rfl := t26
  exact ⟨A18, c19, _, rfl, q15, rfl, q20, q21, q22⟩
theorem rD.mk' (F : CH) (x : rD) (A2 : Option Addr) (c3 : Nat) (n4 : Nat) (ha1 : x.Nonce.length = 32) (hn5 : n4 = x.Data.length) (hl6 : x.Data.length ≤ c3) (hm7 : c3 ≤ maxLen) (hS8 : Sl (Kd.int .u8) F F A2 x.Data) : rD.K.rep F x ([.int .i64 x.Kind, .int .i64 x.Epoch] ++ (x.Nonce.map (Value.int .u8) ++ [.slice A2 n4 c3, .int .i64 x.Job, .int .i64 x.Time, .int .i64 x.By])) := ⟨[.int .i64 x.Kind], ([.int .i64 x.Epoch] ++ (x.Nonce.map (Value.int .u8) ++ [.slice A2 n4 c3, .int .i64 x.Job, .int .i64 x.Time, .int .i64 x.By])), rfl, rfl, ⟨[.int .i64 x.Epoch], (x.Nonce.map (Value.int .u8) ++ [.slice A2 n4 c3, .int .i64 x.Job, .int .i64 x.Time, .int .i64 x.By]), rfl, rfl, ⟨(x.Nonce.map (Value.int .u8)), [.slice A2 n4 c3, .int .i64 x.Job, .int .i64 x.Time, .int .i64 x.By], rfl, ⟨rfl, ha1⟩, ⟨[.slice A2 n4 c3], [.int .i64 x.Job, .int .i64 x.Time, .int .i64 x.By], rfl, (wU A2 c3 n4 hn5 hl6 hm7 hS8), ⟨[.int .i64 x.Job], [.int .i64 x.Time, .int .i64 x.By], rfl, rfl, ⟨[.int .i64 x.Time], [.int .i64 x.By], rfl, rfl, rfl⟩⟩⟩⟩⟩⟩
structure sF where
  c : rK
  State : bF
def sF.K : Kd sF := Kd.iso (Kd.pair rK.K bF.K) (fun x : sF => (x.c, x.State))
theorem sF.open {F : CH} {x : sF} {cs : List Go.Value} (h : sF.K.rep F x cs) : ∃ (A1 : Option Addr) (c2 : Nat) (n3 : Nat) (A8 : Option Addr) (c9 : Nat) (n10 : Nat) (A15 : Option Addr) (c16 : Nat) (n17 : Nat) (A22 : Option Addr) (c23 : Nat) (n24 : Nat), cs = [.int .i64 x.c.Faulty, .int .i64 x.c.Workers, .int .i64 x.c.Height, .int .i64 x.c.Bits, .int .i64 x.c.Jobs, .int .i64 x.c.Term, .int .i64 x.c.Heads, .slice A1 n3 c2, .slice A8 n10 c9, .slice A15 n17 c16, .slice A22 n24 c23, .int .i64 x.State.Heads] ∧ n3 = x.State.Eras.length ∧ x.State.Eras.length ≤ c2 ∧ c2 ≤ maxLen ∧ Sl sD.K F F A1 x.State.Eras ∧ n10 = x.State.Jobs.length ∧ x.State.Jobs.length ≤ c9 ∧ c9 ≤ maxLen ∧ Sl bT.K F F A8 x.State.Jobs ∧ n17 = x.State.Used.length ∧ x.State.Used.length ≤ c16 ∧ c16 ≤ maxLen ∧ Sl (Kd.int .i64) F F A15 x.State.Used ∧ n24 = x.State.Barred.length ∧ x.State.Barred.length ≤ c23 ∧ c23 ≤ maxLen ∧ Sl Kd.bool F F A22 x.State.Barred := by
  obtain ⟨_, _, rfl, u29, t30⟩ := h
  obtain ⟨rfl⟩ := rK.open u29
  obtain ⟨A59, A60, A61, A62, A63, A64, A65, A66, A67, A68, A69, A70, rfl, q71, q72, q73, q74, q75, q76, q77, q78, q79, q80, q81, q82, q83, q84, q85, q86⟩ := bF.open t30
  exact ⟨A59, A60, A61, A62, A63, A64, A65, A66, A67, A68, A69, A70, rfl, q71, q72, q73, q74, q75, q76, q77, q78, q79, q80, q81, q82, q83, q84, q85, q86⟩
theorem sF.mk' (F : CH) (x : sF) (A1 : Option Addr) (c2 : Nat) (n3 : Nat) (A8 : Option Addr) (c9 : Nat) (n10 : Nat) (A15 : Option Addr) (c16 : Nat) (n17 : Nat) (A22 : Option Addr) (c23 : Nat) (n24 : Nat) (hn4 : n3 = x.State.Eras.length) (hl5 : x.State.Eras.length ≤ c2) (hm6 : c2 ≤ maxLen) (hS7 : Sl sD.K F F A1 x.State.Eras) (hn11 : n10 = x.State.Jobs.length) (hl12 : x.State.Jobs.length ≤ c9) (hm13 : c9 ≤ maxLen) (hS14 : Sl bT.K F F A8 x.State.Jobs) (hn18 : n17 = x.State.Used.length) (hl19 : x.State.Used.length ≤ c16) (hm20 : c16 ≤ maxLen) (hS21 : Sl (Kd.int .i64) F F A15 x.State.Used) (hn25 : n24 = x.State.Barred.length) (hl26 : x.State.Barred.length ≤ c23) (hm27 : c23 ≤ maxLen) (hS28 : Sl Kd.bool F F A22 x.State.Barred) : sF.K.rep F x ([.int .i64 x.c.Faulty, .int .i64 x.c.Workers, .int .i64 x.c.Height, .int .i64 x.c.Bits, .int .i64 x.c.Jobs, .int .i64 x.c.Term, .int .i64 x.c.Heads, .slice A1 n3 c2, .slice A8 n10 c9, .slice A15 n17 c16, .slice A22 n24 c23, .int .i64 x.State.Heads]) := ⟨_, _, rfl, (rK.mk' F _  ), (bF.mk' F _ A1 c2 n3 A8 c9 n10 A15 c16 n17 A22 c23 n24 hn4 hl5 hm6 hS7 hn11 hl12 hm13 hS14 hn18 hl19 hm20 hS21 hn25 hl26 hm27 hS28)⟩
structure rC where
  b : List Int
  at_ : Int
  e : Int
def rC.K : Kd rC := Kd.iso (Kd.pair (Kd.slice (Kd.int .u8)) (Kd.pair (Kd.int .i64) (Kd.int .i64))) (fun x : rC => (x.b, (x.at_, x.e)))
theorem rC.open {F : CH} {x : rC} {cs : List Go.Value} (h : rC.K.rep F x cs) : ∃ (A1 : Option Addr) (c2 : Nat) (n3 : Nat), cs = [.slice A1 n3 c2, .int .i64 x.at_, .int .i64 x.e] ∧ n3 = x.b.length ∧ x.b.length ≤ c2 ∧ c2 ≤ maxLen ∧ Sl (Kd.int .u8) F F A1 x.b := by
  obtain ⟨_, _, rfl, u8, t9⟩ := h
  obtain ⟨A10, c11, rfl, q12, q13, q14⟩ := u8
  obtain ⟨_, _, rfl, u15, t16⟩ := t9
  obtain rfl := u15
  obtain rfl := t16
  exact ⟨A10, c11, _, rfl, rfl, q12, q13, q14⟩
theorem rC.mk' (F : CH) (x : rC) (A1 : Option Addr) (c2 : Nat) (n3 : Nat) (hn4 : n3 = x.b.length) (hl5 : x.b.length ≤ c2) (hm6 : c2 ≤ maxLen) (hS7 : Sl (Kd.int .u8) F F A1 x.b) : rC.K.rep F x ([.slice A1 n3 c2, .int .i64 x.at_, .int .i64 x.e]) := ⟨_, _, rfl, (wU A1 c2 n3 hn4 hl5 hm6 hS7), ⟨_, _, rfl, rfl, rfl⟩⟩
structure sX where
  b : List Int
def sX.K : Kd sX := Kd.iso (Kd.slice (Kd.int .u8)) (fun x : sX => x.b)
theorem sX.open {F : CH} {x : sX} {cs : List Go.Value} (h : sX.K.rep F x cs) : ∃ (A1 : Option Addr) (c2 : Nat) (n3 : Nat), cs = [.slice A1 n3 c2] ∧ n3 = x.b.length ∧ x.b.length ≤ c2 ∧ c2 ≤ maxLen ∧ Sl (Kd.int .u8) F F A1 x.b := by
  obtain ⟨A8, c9, rfl, q10, q11, q12⟩ := h
  exact ⟨A8, c9, _, rfl, rfl, q10, q11, q12⟩
theorem sX.mk' (F : CH) (x : sX) (A1 : Option Addr) (c2 : Nat) (n3 : Nat) (hn4 : n3 = x.b.length) (hl5 : x.b.length ≤ c2) (hm6 : c2 ≤ maxLen) (hS7 : Sl (Kd.int .u8) F F A1 x.b) : sX.K.rep F x ([.slice A1 n3 c2]) := (wU A1 c2 n3 hn4 hl5 hm6 hS7)
structure sG where
  B : List Int
  E : Int
def sG.K : Kd sG := Kd.iso (Kd.pair (Kd.slice (Kd.int .u8)) (Kd.int .i64)) (fun x : sG => (x.B, x.E))
theorem sG.open {F : CH} {x : sG} {cs : List Go.Value} (h : sG.K.rep F x cs) : ∃ (A1 : Option Addr) (c2 : Nat) (n3 : Nat), cs = [.slice A1 n3 c2, .int .i64 x.E] ∧ n3 = x.B.length ∧ x.B.length ≤ c2 ∧ c2 ≤ maxLen ∧ Sl (Kd.int .u8) F F A1 x.B := by
  obtain ⟨_, _, rfl, u8, t9⟩ := h
  obtain ⟨A10, c11, rfl, q12, q13, q14⟩ := u8
  obtain rfl := t9
  exact ⟨A10, c11, _, rfl, rfl, q12, q13, q14⟩
theorem sG.mk' (F : CH) (x : sG) (A1 : Option Addr) (c2 : Nat) (n3 : Nat) (hn4 : n3 = x.B.length) (hl5 : x.B.length ≤ c2) (hm6 : c2 ≤ maxLen) (hS7 : Sl (Kd.int .u8) F F A1 x.B) : sG.K.rep F x ([.slice A1 n3 c2, .int .i64 x.E]) := ⟨_, _, rfl, (wU A1 c2 n3 hn4 hl5 hm6 hS7), rfl⟩
abbrev iv (x : Int) : Value := .int .i64 x
abbrev rK.q (x : rK) : List Go.Value := [.int .i64 x.Faulty, .int .i64 x.Workers, .int .i64 x.Height, .int .i64 x.Bits, .int .i64 x.Jobs, .int .i64 x.Term, .int .i64 x.Heads]
abbrev bT.q (x : bT) (A1 : Option Addr) (n3 c2 : Nat) (A8 : Option Addr) (n10 c9 : Nat) (A15 : Option Addr) (n17 c16 : Nat) (A22 : Option Addr) (n24 c23 : Nat) (A29 : Option Addr) (n31 c30 : Nat) : List Go.Value := [.slice A1 n3 c2, .int .i64 x.State, .int .i64 x.Attempt, .int .i64 x.Epoch, .int .i64 x.Until, .slice A8 n10 c9, .slice A15 n17 c16, .slice A22 n24 c23, .slice A29 n31 c30]
abbrev bF.q (x : bF) (A1 : Option Addr) (n3 c2 : Nat) (A8 : Option Addr) (n10 c9 : Nat) (A15 : Option Addr) (n17 c16 : Nat) (A22 : Option Addr) (n24 c23 : Nat) : List Go.Value := [.slice A1 n3 c2, .slice A8 n10 c9, .slice A15 n17 c16, .slice A22 n24 c23, .int .i64 x.Heads]
abbrev rD.q (x : rD) (A2 : Option Addr) (n4 c3 : Nat) : List Go.Value := [.int .i64 x.Kind, .int .i64 x.Epoch] ++ (x.Nonce.map (Go.Value.int .u8) ++ [.slice A2 n4 c3, .int .i64 x.Job, .int .i64 x.Time, .int .i64 x.By])
abbrev sF.q (x : sF) (A1 : Option Addr) (n3 c2 : Nat) (A8 : Option Addr) (n10 c9 : Nat) (A15 : Option Addr) (n17 c16 : Nat) (A22 : Option Addr) (n24 c23 : Nat) : List Go.Value := [.int .i64 x.c.Faulty, .int .i64 x.c.Workers, .int .i64 x.c.Height, .int .i64 x.c.Bits, .int .i64 x.c.Jobs, .int .i64 x.c.Term, .int .i64 x.c.Heads, .slice A1 n3 c2, .slice A8 n10 c9, .slice A15 n17 c16, .slice A22 n24 c23, .int .i64 x.State.Heads]
abbrev rC.q (x : rC) (A1 : Option Addr) (n3 c2 : Nat) : List Go.Value := [.slice A1 n3 c2, .int .i64 x.at_, .int .i64 x.e]
abbrev bT.oS (F : CH) (x : bT) (A0 : Option Addr) (n0 c0 : Nat) (p0 : CH) (A1 : Option Addr) (n1 c1 : Nat) (p1 : CH) (A2 : Option Addr) (n2 c2 : Nat) (p2 : CH) (A3 : Option Addr) (n3 c3 : Nat) (p3 : CH) (A4 : Option Addr) (n4 c4 : Nat) (p4 : CH) (r : Prop) : Prop := oW (Kd.int .u8) F p0 A0 n0 c0 x.Payload (oW (Kd.int .i64) F p1 A1 n1 c1 x.Workers (oW (Kd.int .i64) F p2 A2 n2 c2 x.Indexes (oW rA.K F p3 A3 n3 c3 x.rI (oW (Kd.int .u8) F p4 A4 n4 c4 x.Value r))))
abbrev bF.oS (F : CH) (x : bF) (A0 : Option Addr) (n0 c0 : Nat) (p0 : CH) (A1 : Option Addr) (n1 c1 : Nat) (p1 : CH) (A2 : Option Addr) (n2 c2 : Nat) (p2 : CH) (A3 : Option Addr) (n3 c3 : Nat) (p3 : CH) (r : Prop) : Prop := oW sD.K F p0 A0 n0 c0 x.Eras (oW bT.K F p1 A1 n1 c1 x.Jobs (oW (Kd.int .i64) F p2 A2 n2 c2 x.Used (oW Kd.bool F p3 A3 n3 c3 x.Barred r)))
abbrev bF.sS (F : CH) (x : bF) (A0 : Option Addr) (n0 c0 : Nat) (A1 : Option Addr) (n1 c1 : Nat) (A2 : Option Addr) (n2 c2 : Nat) (A3 : Option Addr) (n3 c3 : Nat) (r : Prop) : Prop := sW sD.K F A0 n0 c0 x.Eras (sW bT.K F A1 n1 c1 x.Jobs (sW (Kd.int .i64) F A2 n2 c2 x.Used (sW Kd.bool F A3 n3 c3 x.Barred r)))
abbrev u_3 := @Tryz.underlying3
abbrev u_4 := @Tryz.underlying4
abbrev u_5 := @Tryz.underlying5
abbrev u_9 := @Tryz.underlying9
abbrev zC := @Tryz.underlying23
abbrev tG := @Tryz.underlying24
abbrev Bg := @Tryz.underlying26
abbrev JB := @Tryz.underlying28
abbrev zZ := @Tryz.underlying42
abbrev Fo := @Tryz.underlying43
abbrev wG := @Tryz.underlying45
abbrev wY := @Tryz.underlying46
abbrev tM := @Tryz.underlying47
abbrev zH := @Tryz.underlying48
abbrev wJ := @Tryz.underlying50
abbrev wD := @Tryz.underlying61
abbrev xG := @Tryz.underlying63
abbrev JF := @Tryz.underlying74
abbrev J9 := @Tryz.underlying81
abbrev Ab := @Tryz.underlying82
abbrev J1 := @Tryz.underlying90
abbrev Dh := @Tryz.underlying94
abbrev Bq := @Tryz.underlying96
abbrev Ji := @Tryz.underlying103
abbrev Je := @Tryz.underlying107
abbrev BM := @Tryz.underlying114
abbrev Ja := @Tryz.underlying115
abbrev FG := @Tryz.underlying139
abbrev yH := @Tryz.underlying143
abbrev Cb := @Tryz.underlying147
abbrev CA := @Tryz.underlying149
abbrev KA := @Tryz.underlying151
end Go.Proofs.YtobdpbnadjkhiaaGreat
namespace Go.Proofs.YtobdpbnadjkhiaaGreat
open Go.RowKit Go.WG
set_option linter.unusedVariables false
set_option linter.unusedSimpArgs false
def vE.l1 : Nat → List rA → List (ByteArray × List (Int × Int)) → Int → Option (List (ByteArray × List (Int × Int)))
 | 0, _, _, _ => none
 | k + 1, a0, x, i => if i < (a0.length : Int) then (if 0 ≤ i ∧ i < (a0.length : Int) then (vE.l1 k a0 (yY x (strOfNums (a0.getD i.toNat rA.z).Value) (yY ((xN x (strOfNums (a0.getD i.toNat rA.z).Value)).getD []) (a0.getD i.toNat rA.z).Worker i)) (rB (i + 1))) else none) else some x
def vE.f (k : Nat) (a0 : List rA) : Option (List (ByteArray × List (Int × Int))) := vE.l1 k a0 [] 0
section
variable {α β : Type} [DecidableEq α]
theorem IP {l1 l2 : List (α × β)} {k : α} {v0 v : β} (h : ((l1 ++ (k, v0) :: l2).map (·.1)).Nodup) : yY (l1 ++ (k, v0) :: l2) k v = l1 ++ (k, v) :: l2 ∧ xN (l1 ++ (k, v0) :: l2) k = some v0 := by
 rw [List.map_append, List.map_cons, List.nodup_append] at h
 obtain ⟨h1, h2, h3⟩ := h
 obtain ⟨h4, h5⟩ := List.nodup_cons.1 h2
 have n1 : ∀ q ∈ l1, q.1 ≠ k := fun q hq => h3 _ (List.mem_map.2 ⟨q, hq, rfl⟩) _ (by simp)
 have n2 : ∀ q ∈ l2, q.1 ≠ k := fun q hq e => h4 (e ▸ List.mem_map.2 ⟨q, hq, rfl⟩)
 have hg : xN (l1 ++ (k, v0) :: l2) k = some v0 := by
  unfold xN
  rw [List.find?_append, List.find?_eq_none.2 (fun q hq => by simpa using n1 q hq)]
  simp
 refine ⟨?_, hg⟩
 unfold yY
 rw [hg, Option.isSome_some, if_pos rfl, List.map_append, List.map_cons, if_pos rfl]
 congr 1
 ·exact (List.map_congr_left fun q hq => if_neg (n1 q hq)).trans (List.map_id _)
 ·congr 1
  exact (List.map_congr_left fun q hq => if_neg (n2 q hq)).trans (List.map_id _)
theorem Fs {l : List (α × β)} {k : α} {v : β} (h : xN l k = none) : yY l k v = l ++ [(k, v)] := by unfold yY; rw [h]; rfl
end
inductive Fa2 {γ δ : Type} (R : γ → δ → Prop) : List γ → List δ → Prop
 | nil : Fa2 R [] []
 | cons {x : γ} {y : δ} {xs : List γ} {ys : List δ} (h : R x y) (t : Fa2 R xs ys) : Fa2 R (x :: xs) (y :: ys)
def VM (pm : CH) (ps : List CH) (g : Nat) (T : List (ByteArray × Nat × List (Int × Int))) : Prop :=
 Cl Value.string (fun g => Value.map (some g)) pm g (T.map fun t => (t.1, t.2.1)) ∧ Fa2 (fun q (t : ByteArray × Nat × List (Int × Int)) => Cl (Value.int .i64) (Value.int .i64) q t.2.1 t.2.2) ps T
def vmL (T : List (ByteArray × Nat × List (Int × Int))) : List (ByteArray × List (Int × Int)) := T.map fun t => (t.1, t.2.2)
theorem BQ {γ δ : Type} {R : γ → δ → Prop} : ∀ {xs : List γ} {y1 y2 : List δ} {y : δ}, Fa2 R xs (y1 ++ y :: y2) → ∃ x1 x x2, xs = x1 ++ x :: x2 ∧ Fa2 R x1 y1 ∧ R x y ∧ Fa2 R x2 y2
 | _, [], _, _, h => by cases h with | cons h t => exact ⟨[], _, _, rfl, .nil, h, t⟩
 | _, z :: y1, _, _, h => by
  cases h with
  | cons h t =>
   obtain ⟨x1, x, x2, rfl, h1, h2, h3⟩ := BQ t
   exact ⟨_ :: x1, x, x2, rfl, .cons h h1, h2, h3⟩
theorem BG {γ δ : Type} {R : γ → δ → Prop} : ∀ {x1 x2 : List γ} {y1 y2 : List δ}, Fa2 R x1 y1 → Fa2 R x2 y2 → Fa2 R (x1 ++ x2) (y1 ++ y2)
 | _, _, _, _, .nil, h => h
 | _, _, _, _, .cons h t, k => .cons h (BG t k)
theorem Yl.HL {P : Program} {env : Env} {w : World} {ty t t' kt et : TypeId} {x : Operand} {p : Option Nat} (hx : Go.WG.ev env x = .map p) (hu : P.underlying t = some (.map kt et)) : Yl P env (.binOp .eql t x (.const (.map none)) t') ty w (.bool p.isNone) w := by
 show (execOp (Go.WG.ev env) _).run P w = _
 have hy : Go.WG.ev env (.const (.map none)) = .map none := rfl
 have h1 := run_equal_map_nil (P := P) (w := w) t kt et p hu
 have h2 : (eqGuard .eql t x (.const (.map none)) (.map p) (.map none)).run P w = .ok () w := rfl
 simp [execOp, hx, hy, h2, binOp, h1]
set_option maxRecDepth 100000 in
set_option maxHeartbeats 4000000 in
theorem vE.calls (k : Nat) (w : World) (F : CH) (A1 : Option Addr) (c2 : Nat) (n3 : Nat) (a0 : List rA) (hp : Pre w F []) (hn4 : n3 = a0.length) (hl5 : a0.length ≤ c2) (hm6 : c2 ≤ maxLen) (hS7 : Sl rA.K F F A1 a0) (r0_ : List (ByteArray × List (Int × Int))) (H : vE.f k a0 = some r0_) :
  Calls Tryz.prog 95 #[.slice A1 n3 c2] w fun e w' => ∃ (g : Nat) (p : CH), e = .returned (.map (some g)) ∧ Ctx w F (sR []) w' F [p] ∧ IX Value.string (Value.int .i64) (Value.int .i64) p g r0_ := by
 have C := Ctx.start hp
 generalize hD : sR [] = D at C ⊢
 unfold vE.f at H
 refine Calls.ofW Tryz.func95 rfl (by simp [Tryz.ntmps95]) ?_
 refine W.seq ?_
 refine W.region rfl ?_
 refine WL.val (Yl.assign (v := .map none) rfl) ?_
 refine WL.done ?_
 refine W.seq ?_
 refine W.region rfl ?_
 obtain ⟨g, pm, w1, hy1, C1, hM⟩ := Bp (P := Tryz.prog) (α := ByteArray) (β := Nat) (t := 151) Value.string (fun g => Value.map (some g)) C
 refine WL.val (hy1 _ _) ?_
 refine WL.val (Yl.assign (v := .map (some g)) rfl) ?_
 refine WL.done ?_
 refine W.seq ?_
 refine W.seq ?_
 refine W.region rfl ?_
 refine WL.val (Yl.move (v := .slice A1 n3 c2) rfl) ?_
 refine WL.val (Yl.Bw (A := A1) (l := n3) (q := c2) (n := (a0.length : Int)) rfl Tryz.underlying61 (by omega)) ?_
 refine WL.val (Yl.move (v := .int .i64 0) rfl) ?_
 refine WL.done ?_
 refine W.vG (fun env_ w_ => ∃ (pm : CH) (ps : List CH) (T : List (ByteArray × Nat × List (Int × Int))), env_ 3 = .map (some g) ∧ Ctx w F D w_ F (pm :: ps) ∧ VM pm ps g T ∧ vmL T = r0_) ?_ ?_
 ·skip
  refine W.block ?_
  refine W.loop (fun g_ env_ w_ => ∃ (i : Int) (pm : CH) (ps : List CH) (T : List (ByteArray × Nat × List (Int × Int))), env_ 3 = .map (some g) ∧ env_ 8 = .slice A1 n3 c2 ∧ env_ 9 = .int .i64 (a0.length : Int) ∧ env_ 10 = .int .i64 i ∧ Ctx w F D w_ F (pm :: ps) ∧ VM pm ps g T ∧ vE.l1 g_ a0 (vmL T) i = some r0_) k ⟨0, pm, [], [], rfl, rfl, rfl, rfl, C1, ⟨hM, .nil⟩, H⟩ ?_
  clear H
  rintro g_ env_ w_ ⟨i, pm, ps, T, h3, h8, h9, h10, C, hV, H⟩
  rcases g_ with _ | k'
  ·exact absurd H (by simp [vE.l1])
  rw [vE.l1] at H
  refine W.seq ?_
  refine W.region rfl ?_
  refine WL.val (Yl.lss (m := i) (n := (a0.length : Int)) (q := decide (i < (a0.length : Int))) h10 h9 rfl) ?_
  refine WL.done ?_
  refine W.seq ?_
  rcases rT H with ⟨hc, H⟩ | ⟨hc, H⟩
  ·skip
   refine W.uI (congrArg Value.bool (decide_eq_true hc)) ?_
   refine W.skip ?_
   refine W.seq ?_
   refine W.block ?_
   refine W.seq ?_
   refine W.region rfl ?_
   refine WL.val (Yl.move (v := .int .i64 i) h10) ?_
   obtain ⟨hb, H⟩ := rV H
   obtain ⟨b, of, hA, he⟩ := hS7 (by omega)
   refine WL.val (Yl.rW (i := i) h8 h10 hA Tryz.underlying61 yM (by omega)) ?_
   obtain ⟨cs, hr, hx⟩ := he i.toNat _ (getD_some (d := rA.z) (by omega))
   generalize a0.getD i.toNat rA.z = q at H hr hx
   obtain ⟨Av, cv, nv, rfl, hnv, hlv, hmv, hSv⟩ := rA.open hr
   refine WL.val (Yl.wC (cs := [.int .i64 q.Worker, .slice Av nv cv]) rfl Tryz.underlying96 rfl yM (fun j u hu => by rw [vL]; exact ((C.fro)).cell (hx _ _ hu))) ?_
   obtain ⟨ga, w2, hy2, C2⟩ := sU (P := Tryz.prog) (e := 96) [.int .i64 0, .slice none 0 0] C CU rfl
   refine WL.val (hy2 _ _) ?_
   refine WL.val (Yl.assign (v := .int .i64 i) rfl) ?_
   obtain ⟨w3, hy3, C3⟩ := ER (P := Tryz.prog) (ps1 := []) (ps2 := pm :: ps) (t := 96) (o := 0) [.int .i64 0, .slice none 0 0] [] [.int .i64 0, .slice none 0 0] [] [.int .i64 q.Worker, .slice Av nv cv] (.agg (List.toArray [.int .i64 q.Worker, .slice Av nv cv])) C2 rfl rfl rfl rfl (by simp [Value.oneCell']) yM
   refine WL.skip (hy3 _ _ _ _ rfl rfl) ?_
   refine WL.done ?_
   have C4 : Ctx _ _ _ _ F (CH.row ga 0 [.int .i64 q.Worker, .slice Av nv cv] :: pm :: ps) := C3
   refine W.seq ?_
   refine W.region rfl ?_
   refine WL.val (Yl.move (v := .map (some g)) h3) ?_
   refine WL.val (Yl.fieldAddr (i := 1) rfl Tryz.underlying96 rfl AP) ?_
   refine WL.val (Yl.Ad (g := ga) (off := 0) (o := 1) (cs := [.int .i64 q.Worker, .slice Av nv cv]) (v := .slice Av nv cv) rfl Tryz.underlying24 rfl (C4.AS (by simp)) rfl) ?_
   refine WL.val (Yl.DI (xs := q.Value) rfl hnv hSv C4.fro Tryz.underlying24 Tryz.underlying5 Tryz.underlying9) ?_
   have e1 := Cd (fun t : ByteArray × Nat × List (Int × Int) => t.2.1) (fun t => t.1) T (strOfNums q.Value)
   have e2 := Cd (fun t : ByteArray × Nat × List (Int × Int) => t.2.2) (fun t => t.1) T (strOfNums q.Value)
   cases hf : T.find? (fun t => decide (t.1 = strOfNums q.Value)) with
   | none =>
    rw [hf, Option.map_none] at e1 e2
    refine WL.val (Yl.lookup (v := .map none) hV.1 (C4.AS (by simp)) Tryz.underlying151 Tryz.underlying9 rfl EY HF (strOfNums q.Value) rfl rfl (by rw [e1]; rfl)) ?_
    refine WL.val (Yl.assign (v := .map none) rfl) ?_
    refine WL.done ?_
    refine W.seq ?_
    refine W.seq ?_
    refine W.region rfl ?_
    refine WL.val (Yl.move (v := .map none) rfl) ?_
    refine WL.val (Yl.HL (p := none) rfl Tryz.underlying139) ?_
    refine WL.done ?_
    refine W.uI rfl ?_
    refine W.seq ?_
    refine W.region rfl ?_
    obtain ⟨g2, p2, w4, hy4, C5, hM2⟩ := Bp (P := Tryz.prog) (α := Int) (β := Int) (t := 139) (Value.int .i64) (Value.int .i64) C4
    refine WL.val (hy4 _ _) ?_
    refine WL.val (Yl.assign (v := .map (some g2)) rfl) ?_
    refine WL.done ?_
    refine W.region rfl ?_
    refine WL.val (Yl.move (v := .map (some g)) h3) ?_
    refine WL.val (Yl.fieldAddr (i := 1) rfl Tryz.underlying96 rfl AP) ?_
    refine WL.val (Yl.Ad (g := ga) (off := 0) (o := 1) (cs := [.int .i64 q.Worker, .slice Av nv cv]) (v := .slice Av nv cv) rfl Tryz.underlying24 rfl (C5.AS (by simp)) rfl) ?_
    refine WL.val (Yl.DI (xs := q.Value) rfl hnv hSv C5.fro Tryz.underlying24 Tryz.underlying5 Tryz.underlying9) ?_
    refine WL.val (Yl.move (v := .map (some g2)) rfl) ?_
    obtain ⟨pm', w5, hy5, C6, hM'⟩ := zR (P := Tryz.prog) (ps1 := [p2, (CH.row ga 0 [.int .i64 q.Worker, .slice Av nv cv])]) (ps2 := ps) (strOfNums q.Value) g2 C5 hV.1 Tryz.underlying151 Tryz.underlying9 rfl EY
    refine WL.skip (hy5 _ _ _ _ _ rfl rfl rfl) ?_
    refine WL.done ?_
    refine W.region rfl ?_
    refine WL.val (Yl.move (v := .map (some g2)) rfl) ?_
    refine WL.val (Yl.fieldAddr (i := 0) rfl Tryz.underlying96 rfl sz3) ?_
    refine WL.val (Yl.Ad (g := ga) (off := 0) (o := 0) (cs := [.int .i64 q.Worker, .slice Av nv cv]) (v := .int .i64 q.Worker) rfl Tryz.underlying3 rfl (C6.AS (by simp)) rfl) ?_
    refine WL.val (Yl.move (v := .int .i64 i) rfl) ?_
    obtain ⟨p3, w6, hy6, C7, hM3⟩ := zR (P := Tryz.prog) (ps1 := []) (ps2 := (CH.row ga 0 [.int .i64 q.Worker, .slice Av nv cv]) :: pm' :: ps) q.Worker i C6 hM2 Tryz.underlying139 Tryz.underlying3 rfl (D4 .i64)
    refine WL.skip (hy6 _ _ _ _ _ rfl rfl rfl) ?_
    refine WL.done ?_
    refine tH ?_
    refine W.region rfl ?_
    refine WL.val (Yl.add (m := i) (n := 1) (r := rB (i + 1)) h10 rfl rfl) ?_
    refine WL.val (Yl.move (v := .int .i64 (rB (i + 1))) rfl) ?_
    refine WL.done ?_
    have C8 : Ctx _ _ _ _ F (p3 :: pm' :: ps) := Ctx.drop [p3] (pm' :: ps) C7
    have C9 : Ctx _ _ _ _ F (pm' :: (ps ++ [p3])) := C8.perm ((List.Perm.swap _ _ _).trans (List.Perm.cons _ (List.perm_append_singleton _ _).symm))
    refine rF ⟨k', Nat.lt_succ_self _, rB (i + 1), pm', ps ++ [p3], T ++ [(strOfNums q.Value, g2, yY [] q.Worker i)], h3, h8, h9, rfl, C9, ⟨?_, BG hV.2 (.cons hM3 .nil)⟩, ?_⟩
    ·rw [Fs e1] at hM'
     rw [List.map_append]
     exact hM'
    ·have e3 : vmL (T ++ [(strOfNums q.Value, g2, yY [] q.Worker i)]) = yY (vmL T) (strOfNums q.Value) (yY ((xN (vmL T) (strOfNums q.Value)).getD []) q.Worker i) := by
      have e2' : xN (vmL T) (strOfNums q.Value) = none := e2
      rw [Fs e2', e2']
      unfold vmL
      rw [List.map_append]
      rfl
     rw [e3]
     exact H
   | some t =>
    rw [hf, Option.map_some] at e1 e2
    have hk : t.1 = strOfNums q.Value := by simpa using List.find?_some hf
    obtain ⟨T1, T2, hT⟩ := List.append_of_mem (List.mem_of_find?_eq_some hf)
    obtain ⟨tk, gi, m⟩ := t
    obtain rfl : tk = strOfNums q.Value := hk
    subst hT
    obtain ⟨hR, hF2⟩ := hV
    obtain ⟨ps1, qi, ps2, rfl, hf1, hRi, hf2⟩ := BQ hF2
    refine WL.val (Yl.lookup (v := .map (some gi)) hR (C4.AS (by simp)) Tryz.underlying151 Tryz.underlying9 rfl EY HF (strOfNums q.Value) rfl rfl (by rw [e1]; rfl)) ?_
    refine WL.val (Yl.assign (v := .map (some gi)) rfl) ?_
    refine WL.done ?_
    refine W.seq ?_
    refine W.seq ?_
    refine W.region rfl ?_
    refine WL.val (Yl.move (v := .map (some gi)) rfl) ?_
    refine WL.val (Yl.HL (p := some gi) rfl Tryz.underlying139) ?_
    refine WL.done ?_
    refine W.uD rfl ?_
    refine W.skip ?_
    refine W.region rfl ?_
    refine WL.val (Yl.move (v := .map (some gi)) rfl) ?_
    refine WL.val (Yl.fieldAddr (i := 0) rfl Tryz.underlying96 rfl sz3) ?_
    refine WL.val (Yl.Ad (g := ga) (off := 0) (o := 0) (cs := [.int .i64 q.Worker, .slice Av nv cv]) (v := .int .i64 q.Worker) rfl Tryz.underlying3 rfl (C4.AS (by simp)) rfl) ?_
    refine WL.val (Yl.move (v := .int .i64 i) rfl) ?_
    obtain ⟨p3, w6, hy6, C7, hM3⟩ := zR (P := Tryz.prog) (ps1 := (CH.row ga 0 [.int .i64 q.Worker, .slice Av nv cv]) :: pm :: ps1) (ps2 := ps2) q.Worker i C4 hRi Tryz.underlying139 Tryz.underlying3 rfl (D4 .i64)
    refine WL.skip (hy6 _ _ _ _ _ rfl rfl rfl) ?_
    refine WL.done ?_
    refine tH ?_
    refine W.region rfl ?_
    refine WL.val (Yl.add (m := i) (n := 1) (r := rB (i + 1)) h10 rfl rfl) ?_
    refine WL.val (Yl.move (v := .int .i64 (rB (i + 1))) rfl) ?_
    refine WL.done ?_
    have C8 : Ctx _ _ _ _ F (pm :: (ps1 ++ p3 :: ps2)) := Ctx.drop [] (pm :: (ps1 ++ p3 :: ps2)) C7
    refine rF ⟨k', Nat.lt_succ_self _, rB (i + 1), pm, ps1 ++ p3 :: ps2, T1 ++ (strOfNums q.Value, gi, yY m q.Worker i) :: T2, h3, h8, h9, rfl, C8, ⟨?_, BG hf1 (.cons hM3 hf2)⟩, ?_⟩
    ·simpa using hR
    ·have hnd : ((vmL (T1 ++ (strOfNums q.Value, gi, m) :: T2)).map (·.1)).Nodup := by
      obtain ⟨es, cl, _, hE⟩ := hR
      have := hE.keys
      unfold vmL
      rw [List.map_map] at this ⊢
      exact this
     have e3 : vmL (T1 ++ (strOfNums q.Value, gi, yY m q.Worker i) :: T2) = yY (vmL (T1 ++ (strOfNums q.Value, gi, m) :: T2)) (strOfNums q.Value) (yY ((xN (vmL (T1 ++ (strOfNums q.Value, gi, m) :: T2)) (strOfNums q.Value)).getD []) q.Worker i) := by
      unfold vmL at hnd ⊢
      rw [List.map_append, List.map_cons] at hnd ⊢
      rw [List.map_append, List.map_cons]
      have := IP (v := yY m q.Worker i) hnd
      rw [this.2, Option.getD_some, this.1]
     rw [e3]
     exact H
  ·skip
   refine W.uD (congrArg Value.bool (decide_eq_false hc)) ?_
   refine W.exit ?_
   refine rM ?_
   refine rM ?_
   refine sL ?_
   injection H with H
   exact rF ⟨pm, ps, T, h3, C, hV, H⟩
 ·skip
  rintro env_ w_ ⟨pm, ps, T, h3, C, hV, rfl⟩
  refine W.seq ?_
  refine W.region rfl ?_
  refine WL.val (Yl.move (v := .map (some g)) h3) ?_
  refine WL.val (Yl.assign (v := .map (some g)) rfl) ?_
  refine WL.done ?_
  refine W.ret ?_
  obtain ⟨p, Cp, hle⟩ := Ctx.Gq (pm :: ps) [] [] (by simpa using C)
  refine rH (sE rfl rfl) ⟨g, p, rfl, by subst hD; exact Cp, ?_⟩
  have hex : ∀ (ps' : List CH) (T' : List (ByteArray × Nat × List (Int × Int))), Fa2 (fun q (t : ByteArray × Nat × List (Int × Int)) => Cl (Value.int .i64) (Value.int .i64) q t.2.1 t.2.2) ps' T' → (∀ q ∈ ps', CH.le q p) → ∃ U : List (ByteArray × Nat × CH × List (Int × Int)), (U.map fun t => (t.1, t.2.1, t.2.2.2)) = T' ∧ ∀ t ∈ U, CH.le t.2.2.1 p ∧ Cl (Value.int .i64) (Value.int .i64) t.2.2.1 t.2.1 t.2.2.2 := by
   intro ps' T' h
   induction h with
   | nil => exact fun _ => ⟨[], rfl, fun t ht => by cases ht⟩
   | cons h t ih =>
    intro hq
    obtain ⟨U, hU, hUt⟩ := ih fun q hm => hq q (List.mem_cons_of_mem _ hm)
    rename_i x y xs ys
    refine ⟨(y.1, y.2.1, x, y.2.2) :: U, by rw [List.map_cons, hU], fun t ht => ?_⟩
    rcases List.mem_cons.1 ht with rfl | ht
    ·exact ⟨hq x (by simp), h⟩
    ·exact hUt t ht
  obtain ⟨U, hU, hUt⟩ := hex ps T hV.2 fun q hm => hle q (List.mem_cons_of_mem _ hm)
  subst hU
  refine ⟨U, pm, hle pm (by simp), ?_, hUt, ?_⟩
  ·have := hV.1
   rw [List.map_map] at this
   exact this
  ·unfold vmL
   rw [List.map_map]
   rfl
end Go.Proofs.YtobdpbnadjkhiaaGreat
namespace Go.Proofs.YtobdpbnadjkhiaaGreat
open Go.Shelf
def E6 : Go.Shelf.Ren := ⟨fun | 5 => 96 | 8 => 100 | 7 => 99 | 19 => 111 | 20 => 112 | 10 => 102 | 11 => 103 | 12 => 104 | 13 => 105 | 14 => 106 | 15 => 107 | 16 => 108 | 17 => 109 | 18 => 110 | 30 => 113 | 31 => 114 | 32 => 115 | 33 => 116 | 34 => 117 | 35 => 118 | 40 => 119 | n => n, fun | 23 => 47 | 25 => 3 | 3 => 3 | 32 => 138 | 22 => 47 | 0 => 0 | 44 => 172 | 46 => 82 | 4 => 4 | 36 => 166 | 35 => 165 | 41 => 140 | 5 => 5 | 9 => 9 | 53 => 174 | 57 => 178 | 63 => 181 | 64 => 182 | n => n, fun | n => n⟩
theorem FE : Go.Proofs.SlLaysM.n5 Tryz.prog E6 := {
 mixed := by kernel_rfl
 f5 := ⟨Tryz.f96.name, by decide, Tryz.func96.trans (congrArg some (by kernel_rfl))⟩
 f7 := ⟨Tryz.f99.name, by decide, Tryz.func99.trans (congrArg some (by kernel_rfl))⟩
 f8 := Tryz.func100.trans (congrArg some (by kernel_rfl))
 f10 := ⟨Tryz.f102.name, by decide, Tryz.func102.trans (congrArg some (by kernel_rfl))⟩
 f11 := ⟨Tryz.f103.name, by decide, Tryz.func103.trans (congrArg some (by kernel_rfl))⟩
 f12 := ⟨Tryz.f104.name, by decide, Tryz.func104.trans (congrArg some (by kernel_rfl))⟩
 f13 := ⟨Tryz.f105.name, by decide, Tryz.func105.trans (congrArg some (by kernel_rfl))⟩
 f14 := ⟨Tryz.f106.name, by decide, Tryz.func106.trans (congrArg some (by kernel_rfl))⟩
 f15 := ⟨Tryz.f107.name, by decide, Tryz.func107.trans (congrArg some (by kernel_rfl))⟩
 f16 := ⟨Tryz.f108.name, by decide, Tryz.func108.trans (congrArg some (by kernel_rfl))⟩
 f17 := ⟨Tryz.f109.name, by decide, Tryz.func109.trans (congrArg some (by kernel_rfl))⟩
 f18 := ⟨Tryz.f110.name, by decide, Tryz.func110.trans (congrArg some (by kernel_rfl))⟩
 f19 := Tryz.func111.trans (congrArg some (by kernel_rfl))
 f20 := Tryz.func112.trans (congrArg some (by kernel_rfl))
 f30 := ⟨Tryz.f113.name, by decide, Tryz.func113.trans (congrArg some (by kernel_rfl))⟩
 f31 := Tryz.func114.trans (congrArg some (by kernel_rfl))
 f32 := Tryz.func115.trans (congrArg some (by kernel_rfl))
 f33 := ⟨Tryz.f116.name, by decide, Tryz.func116.trans (congrArg some (by kernel_rfl))⟩
 f34 := ⟨Tryz.f117.name, by decide, Tryz.func117.trans (congrArg some (by kernel_rfl))⟩
 f35 := ⟨Tryz.f118.name, by decide, Tryz.func118.trans (congrArg some (by kernel_rfl))⟩
 f40 := ⟨Tryz.f119.name, by decide, Tryz.func119.trans (congrArg some (by kernel_rfl))⟩
 t0 := Tryz.underlying0
 a0 := Tryz.isAgg0
 z0 := Tryz.sizeOf0
 v0 := Tryz.zeroValue0
 t3 := Tryz.underlying3
 a3 := Tryz.isAgg3
 z3 := Tryz.sizeOf3
 v3 := Tryz.zeroValue3
 t4 := Tryz.underlying4
 a4 := Tryz.isAgg4
 z4 := Tryz.sizeOf4
 v4 := Tryz.zeroValue4
 t5 := Tryz.underlying5
 a5 := Tryz.isAgg5
 z5 := Tryz.sizeOf5
 v5 := Tryz.zeroValue5
 t9 := Tryz.underlying9
 a9 := Tryz.isAgg9
 z9 := Tryz.sizeOf9
 v9 := Tryz.zeroValue9
 t22 := Tryz.underlying47
 a22 := Tryz.isAgg47
 z22 := Tryz.sizeOf47
 v22 := Tryz.zeroValue47
 t23 := Tryz.underlying47
 a23 := Tryz.isAgg47
 z23 := Tryz.sizeOf47
 v23 := Tryz.zeroValue47
 t25 := Tryz.underlying3
 a25 := Tryz.isAgg3
 z25 := Tryz.sizeOf3
 v25 := Tryz.zeroValue3
 t32 := Tryz.underlying138
 a32 := Tryz.isAgg138
 z32 := Tryz.sizeOf138
 v32 := Tryz.zeroValue138
 t35 := Tryz.underlying165
 a35 := Tryz.isAgg165
 z35 := Tryz.sizeOf165
 v35 := Tryz.zeroValue165
 t36 := Tryz.underlying166
 a36 := Tryz.isAgg166
 z36 := Tryz.sizeOf166
 v36 := Tryz.zeroValue166
 t41 := Tryz.underlying140
 a41 := Tryz.isAgg140
 z41 := Tryz.sizeOf140
 v41 := Tryz.zeroValue140
 t44 := Tryz.underlying172
 a44 := Tryz.isAgg172
 z44 := Tryz.sizeOf172
 v44 := Tryz.zeroValue172
 t46 := Tryz.underlying82
 a46 := Tryz.isAgg82
 z46 := Tryz.sizeOf82
 v46 := Tryz.zeroValue82
 t53 := Tryz.underlying174
 a53 := Tryz.isAgg174
 z53 := Tryz.sizeOf174
 v53 := Tryz.zeroValue174
 t57 := Tryz.underlying178
 a57 := Tryz.isAgg178
 z57 := Tryz.sizeOf178
 v57 := Tryz.zeroValue178
 t63 := Tryz.underlying181
 a63 := Tryz.isAgg181
 z63 := Tryz.sizeOf181
 v63 := Tryz.zeroValue181
 t64 := Tryz.underlying182
 a64 := Tryz.isAgg182
 z64 := Tryz.sizeOf182
 v64 := Tryz.zeroValue182 }
end Go.Proofs.YtobdpbnadjkhiaaGreat
namespace Go.Proofs.YtobdpbnadjkhiaaGreat
open Go.RowKit Go.WG Go.Sort
set_option linter.unusedVariables false
set_option linter.unusedSimpArgs false
def Bf (xs : List Int) : List Int := xs.mergeSort fun x y => decide (x ≤ y)
def zI.f (k : Nat) (xs : List Int) : Option (List Int) := if xs.length * 8 ≤ 140737488355328 then some (Bf xs) else none
theorem yW (xs : List Int) : (Bf xs).length = xs.length := List.length_mergeSort xs
theorem Ge {xs ys : List Int} (h : xs.Perm ys) : Bf xs = Bf ys := by
 have tr : ∀ a b c : Int, decide (a ≤ b) = true → decide (b ≤ c) = true → decide (a ≤ c) = true := fun a b c h1 h2 => decide_eq_true (Int.le_trans (of_decide_eq_true h1) (of_decide_eq_true h2))
 have to : ∀ a b : Int, (decide (a ≤ b) || decide (b ≤ a)) = true := fun a b => by rcases Int.le_total a b with h | h <;> simp [h]
 refine List.Perm.eq_of_pairwise (le := fun a b => decide (a ≤ b) = true) (fun a b _ _ h1 h2 => Int.le_antisymm (of_decide_eq_true h1) (of_decide_eq_true h2)) (List.pairwise_mergeSort tr to xs) (List.pairwise_mergeSort tr to ys) ?_
 exact (List.mergeSort_perm xs _).trans (h.trans (List.mergeSort_perm ys _).symm)
theorem Pre.put {w : World} {F : CH} {g off n : Nat} {cur : List Value} {d0 d : List Int} {os : Array Obj} (hp : Pre w F [CH.row g off cur]) (hH : Holds (Value.int .i64) w g off d0.toArray) (hd : d.length = d0.length) (hl : d.length ≤ cur.length) (hg : g < w.heap.size) :
  Ctx w F (sR [CH.row g off cur]) (grow (putRow (Value.int .i64) (Go.Sort.ahead w n) g off d.toArray) os) F [CH.row g off (d.map (Value.int .i64) ++ cur.drop d.length)] := by
 generalize hw' : grow (putRow (Value.int .i64) (Go.Sort.ahead w n) g off d.toArray) os = w'
 have hsz : (putRow (Value.int .i64) (Go.Sort.ahead w n) g off d.toArray).heap.size = w.heap.size := by rw [size_putRow, heap_ahead]
 have hold : ∀ b, b < w.heap.size → w'.heap[b]? = (putRow (Value.int .i64) (Go.Sort.ahead w n) g off d.toArray).heap[b]? := fun b hb => by
  subst hw'
  exact heap_grow_old _ os (by rw [hsz]; exact hb)
 have hother : ∀ b, b < w.heap.size → b ≠ g → w'.heap[b]? = w.heap[b]? := fun b hb hne => by
  rw [hold b hb]
  show (w.heap.modify g _)[b]? = _
  rw [Array.getElem?_modify, if_neg (Ne.symm hne)]
 have hcell : ∀ o, w'.cell? ⟨g, o, none⟩ = (putRow (Value.int .i64) (Go.Sort.ahead w n) g off d.toArray).cell? ⟨g, o, none⟩ := fun o => by
  subst hw'
  exact cell?_grow _ os _ (by rw [hsz]; exact hg)
 have hfro : ∀ b o, b < w.heap.size → w'.frozen? ⟨b, o, none⟩ = w.frozen? ⟨b, o, none⟩ := fun b o hb => by
  subst hw'
  rw [frozen?_grow _ os _ (by rw [hsz]; exact hb), frozen?_putRow]
  rfl
 have hin : ∀ j (hj : j < d.length), Go.WG.look w' g (off + j) = some (.v (.int .i64 d[j])) := fun j hj => by
  refine Bx.2 ?_
  rw [hcell, cell?_putRow (Value.int .i64) (Go.Sort.ahead w n) g off d0.toArray d.toArray (holds_ahead _ _ _ _ _ _ hH) (by simpa using hd) j (by simpa using hj)]
  rw [getElem!_pos d.toArray j (by simpa using hj)]
  simp
 have hobj : ∃ c e fr, w.heap[g]? = some (.cells c e fr) ∨ d.length = 0 := by
  rcases Nat.eq_zero_or_pos d.length with h | h
  ·exact ⟨#[], 0, (0, 0), .inr h⟩
  ·obtain ⟨c, e, fr, h1, _⟩ := cells_of_cell? (hH 0 (by simpa [hd] using h)).1
   exact ⟨c, e, fr, .inl h1⟩
 have hout : ∀ o, ¬ (off ≤ o ∧ o < off + d.length) → Go.WG.look w' g o = Go.WG.look w g o := fun o ho => by
  obtain ⟨c, e, fr, hc | hz⟩ := hobj
  ·have hc' : w'.heap[g]? = some (.cells (putCells (Value.int .i64) off d.toArray c) e fr) := by
    rw [hold g hg]
    show (w.heap.modify g _)[g]? = _
    rw [Array.getElem?_modify, if_pos rfl, hc]
    rfl
   unfold Go.WG.look
   rw [hc, hc']
   simp only
   congr 1
   unfold putCells
   rw [Array.getElem?_mapIdx]
   cases c[o]? with
   | none => rfl
   | some y =>
    rw [Option.map_some, if_neg]
    simpa using ho
  ·have hd0 : d = [] := List.eq_nil_of_length_eq_zero hz
   subst hd0
   have hid : ∀ c : Array Value, putCells (Value.int .i64) off (#[] : Array Int) c = c := fun c => by
    apply Array.ext_getElem?
    intro k
    unfold putCells
    rw [Array.getElem?_mapIdx]
    cases c[k]? with
    | none => rfl
    | some y => rw [Option.map_some, if_neg (fun h => by have h2 := h.2; rw [List.size_toArray] at h2; simp at h2; omega)]
   have hw : w'.heap[g]? = w.heap[g]? := by
    rw [hold g hg]
    show (w.heap.modify g _)[g]? = _
    rw [Array.getElem?_modify, if_pos rfl]
    cases w.heap[g]? with
    | none => rfl
    | some y =>
     cases y <;> simp [onCells, hid]
   exact Ai hw o
 have hrow : ∀ b o c, CH.row g off cur b o = some c → Go.WG.look w b o = some c ∧ w.frozen? ⟨b, o, none⟩ = false := fun b o c h => (hp.own _ (by simp)).1 b o c h
 have hnew : ∀ b o c, CH.row g off (d.map (Value.int .i64) ++ cur.drop d.length) b o = some c → Go.WG.look w' b o = some c ∧ w'.frozen? ⟨b, o, none⟩ = false ∧ CH.row g off cur b o ≠ none := fun b o c h => by
  obtain ⟨rfl, j, v, rfl, hj, rfl⟩ := CH.Ch h
  have hjl : j < cur.length := by
   have := (List.getElem?_eq_some_iff.1 hj).1
   rw [List.length_append, List.length_map, List.length_drop] at this
   omega
  have hcur : CH.row b off cur b (off + j) = some (.v cur[j]) := CH.yU (List.getElem?_eq_getElem hjl)
  have h2 := hrow b (off + j) _ hcur
  refine ⟨?_, by rw [hfro b _ hg]; exact h2.2, by rw [hcur]; simp⟩
  by_cases hjd : j < d.length
  ·rw [hin j hjd]
   rw [List.getElem?_append_left (by simpa using hjd), List.getElem?_map, List.getElem?_eq_getElem hjd] at hj
   injection hj with hj
   rw [hj]
  ·rw [hout _ (by omega), h2.1]
   rw [List.getElem?_append_right (by simpa using hjd), List.length_map, List.getElem?_drop] at hj
   rw [show d.length + (j - d.length) = j from by omega, List.getElem?_eq_getElem hjl] at hj
   injection hj with hj
   rw [hj]
 have hmod : Mod (sR [CH.row g off cur]) w w' := by
  refine ⟨by subst hw'; rfl, by subst hw'; rfl, by subst hw'; rfl, by subst hw'; rw [size_grow, hsz]; omega, fun b hb hn => ?_, fun b o hb hn => ?_, fun b o hb => hfro b o hb⟩
  ·by_cases hbg : b = g
   ·subst hbg
    have hd0 : d.length = 0 := by
     rcases Nat.eq_zero_or_pos d.length with h | h
     ·exact h
     ·refine absurd ⟨CH.row b off cur, by simp, ?_⟩ (hn off)
      have : CH.row b off cur b (off + 0) = some (.v cur[0]) := CH.yU (List.getElem?_eq_getElem (by omega))
      rw [Nat.add_zero] at this
      rw [this]; simp
    have hd1 : d = [] := List.eq_nil_of_length_eq_zero hd0
    subst hd1
    rw [hold b hb]
    show (w.heap.modify b _)[b]? = _
    rw [Array.getElem?_modify, if_pos rfl]
    cases w.heap[b]? with
    | none => rfl
    | some y =>
     cases y with
     | cells c e fr =>
      have : putCells (Value.int .i64) off (#[] : Array Int) c = c := by
       apply Array.ext_getElem?
       intro k
       unfold putCells
       rw [Array.getElem?_mapIdx]
       cases c[k]? with
       | none => rfl
       | some y => rw [Option.map_some, if_neg (fun h => absurd h.1 (by have := h.2; simp at this; omega))]
      simp [onCells, this]
     | _ => rfl
   ·exact hother b hb hbg
  ·by_cases hbg : b = g
   ·subst hbg
    refine hout o fun ho => hn ⟨CH.row b off cur, by simp, ?_⟩
    have : CH.row b off cur b (off + (o - off)) = some (.v cur[o - off]) := CH.yU (List.getElem?_eq_getElem (by omega))
    rw [show off + (o - off) = o from by omega] at this
    rw [this]; simp
   ·exact Ai (hother b hb hbg) o
 have hdis := (hp.own _ (List.mem_singleton.2 rfl)).2
 have hsub : ∀ b o, CH.row g off (d.map (Value.int .i64) ++ cur.drop d.length) b o ≠ none → CH.row g off cur b o ≠ none := fun b o h => by
  cases hv : CH.row g off (d.map (Value.int .i64) ++ cur.drop d.length) b o with
  | none => exact absurd hv h
  | some c => exact (hnew b o c hv).2.2
 refine ⟨hmod, CH.le_refl _, hp.fro.mod hmod fun b o hF ⟨q, hq, hn⟩ => ?_, fun b o hn => .inl hn, fun q hq => ?_, List.pairwise_singleton _ _⟩
 ·obtain rfl := List.mem_singleton.1 hq
  rcases hdis b o with h | h
  ·exact hF h
  ·exact hn h
 ·obtain rfl := List.mem_singleton.1 hq
  refine ⟨fun b o c h => ⟨(hnew b o c h).1, (hnew b o c h).2.1⟩, fun b o => ?_, fun b o hn => .inl ⟨_, List.mem_singleton.2 rfl, hsub b o hn⟩⟩
  rcases hdis b o with h | h
  ·exact .inl h
  ·right
   cases hv : CH.row g off (d.map (Value.int .i64) ++ cur.drop d.length) b o with
   | none => rfl
   | some c => exact absurd h (hnew b o c hv).2.2
theorem zI.calls (k : Nat) (w : World) (F : CH) (A : Option Addr) (c n : Nat) (p : CH) (xs : List Int) (hp : Pre w F [p]) (hn : n = xs.length) (hR : Row (Kd.int .i64) F p (.slice A n c) xs) (r : List Int) (H : zI.f k xs = some r) :
  Calls Tryz.prog 96 #[.slice A n c] w fun e w' => ∃ p', e = .returned (.tuple #[]) ∧ Ctx w F (sR [p]) w' F [p'] ∧ n = r.length ∧ Row (Kd.int .i64) F p' (.slice A n c) r := by
 unfold zI.f at H
 obtain ⟨hb, H⟩ := rV H
 injection H with H
 subst H
 by_cases h0 : xs.length = 0
 ·have hx : xs = [] := List.eq_nil_of_length_eq_zero h0
  subst hx; subst hn
  refine (Go.Proofs.AnyM.slices_Sort_int_none FE A c w).mono fun e w' ⟨he, hw⟩ => ⟨p, he, ?_, (by simp [Bf]), ?_⟩
  ·subst hw; exact Ctx.start hp
  ·simpa [Bf] using hR
 ·rcases hR with ⟨_, hx, _⟩ | ⟨g, off, cap, cur, hv, hle, hmx, rfl, hcl, hone, hel⟩
  ·exact absurd (by rw [hx]; rfl) h0
  ·injection hv with h1 h2 h3
   subst h1; subst h2; subst h3
   have hcl' : cur.length = c := by rw [hcl]; show c * 1 = c; omega
   have hown := (hp.own _ (List.mem_singleton.2 rfl)).1
   have hat : ∀ j (hj : j < xs.length), cur[j]? = some (.int .i64 xs[j]) := fun j hj => by
    have h := hel.2 j _ (List.getElem?_eq_getElem hj)
    have h' : (cur.drop (j * 1)).take 1 = [Value.int .i64 xs[j]] := h
    have := congrArg (fun l => l[0]?) h'
    simpa [List.getElem?_take, List.getElem?_drop] using this
   have hH : Holds (Value.int .i64) w g off xs.toArray := fun j hj => by
    have hj' : j < xs.length := by simpa using hj
    have := hown g (off + j) _ (CH.yU (hat j hj'))
    rw [getElem!_pos xs.toArray j hj]
    exact ⟨by simpa using Bx.1 this.1, this.2⟩
   have hg : g < w.heap.size := E5 (hown g (off + 0) _ (CH.yU (hat 0 (by omega)))).1
   refine (Go.Proofs.AnyM.slices_Sort_int FE g off c xs w hH hg (by omega)).mono fun e w' ⟨he, m, os, hw⟩ => ⟨CH.row g off ((Bf xs).map (Value.int .i64) ++ cur.drop (Bf xs).length), he, ?_, (yW xs).symm, ?_⟩
   ·rw [hw]
    exact Pre.put (d0 := xs) hp hH (yW xs) (by rw [List.length_mergeSort]; omega) hg
   ·refine .inr ⟨g, off, c, _, by rw [yW], by rw [yW]; exact hle, hmx, rfl, ?_, fun u hu => ?_, ?_, fun j x hj => ?_⟩
    ·rw [List.length_append, List.length_map, List.length_drop, yW]; show _ = c * 1; omega
    ·rcases List.mem_append.1 hu with h | h
     ·obtain ⟨z, _, rfl⟩ := List.mem_map.1 h; rfl
     ·exact hone u (List.mem_of_mem_drop h)
    ·rw [List.length_append, List.length_map, List.length_drop]; show (Bf xs).length * 1 ≤ _; omega
    ·have hjl := (List.getElem?_eq_some_iff.1 hj).1
     show (List.drop (j * 1) _).take 1 = [Value.int .i64 x]
     rw [Nat.mul_one]
     apply List.ext_getElem?
     intro i
     rw [List.getElem?_take]
     split
     ·rename_i hi
      have : i = 0 := by omega
      subst this
      rw [List.getElem?_drop, Nat.add_zero, List.getElem?_append_left (by simpa using hjl), List.getElem?_map, hj]
      rfl
     ·rename_i hi
      rw [List.getElem?_eq_none (by simp; omega)]
end Go.Proofs.YtobdpbnadjkhiaaGreat
namespace Go.Proofs.YtobdpbnadjkhiaaGreat
open Go.RowKit Go.WG
set_option linter.unusedVariables false
set_option linter.unusedSimpArgs false
set_option maxRecDepth 100000
set_option maxHeartbeats 4000000
def yE.f (k : Nat) (a : List Int) : Option (List Int) := if (a.length + a.length / 4 + 192) * 1 ≤ 281474976710656 then (some a) else none
theorem yE.calls (k w F v i L) (h : List Int) (hp : Pre w F []) (I : L = h.length) (N : h.length ≤ i) (O : i ≤ maxLen) (G : Sl KB F F v h) (g : List Int) (H : yE.f k h = some g) :
    Calls Tryz.prog 94 #[.slice v L i] w fun e w' => ∃ j m d p, e = .returned (.slice j d m) ∧ Ctx w F (sR []) w' F [p] ∧ d = g.length ∧ Row KB F p (.slice j d m) g := by
 have C := Ctx.start hp
 generalize hD : sR [] = D at C ⊢
 unfold yE.f at H
 refine Calls.ofW Tryz.func94 rfl (by simp [Tryz.ntmps94]) <| W.sr rfl <| WL.rd to 1 rfl <| W.sr rfl ?_
 obtain ⟨U, V, Q, R, S, M, t, l, r⟩ := yC (P := Tryz.prog) 5 KB C tG ti5
 refine WL.val (t _ _) <| WL.run to 1 rfl ?_
 obtain ⟨s, H⟩ := rV H
 obtain ⟨x, B, J, o, T, b, u, y, a⟩ := sP (P := Tryz.prog) (cb := i) 5 KB [] [] l r I G l.fro tG ti5 rfl zo5 (by decide) (by decide) (by simpa using s)
 have A : Cx [o] := y
 rw [List.nil_append] at b a
 refine WL.val (u _ _ _ _ rfl rfl) <| WL.rd to 1 rfl <| W.ret ?_
 have E := Option.some.inj H
 subst E
 exact rH (sE rfl rfl) ⟨x, B, J, o, rfl, A, b, a⟩
def uW.l1 : Nat → List rA → rA → List rA → Int → Option (Sum (List rA) ((List rA) × Int))
  | 0, _, _, _, _ => none
  | k + 1, d, g, b, a => if a < (d.length : Int) then (if 0 ≤ a ∧ a < (d.length : Int) then (if ((d.getD a.toNat rA.z).Worker) = g.Worker then (some (Sum.inr (([] : List rA), 190))) else ((yE.f k ((d.getD a.toNat rA.z).Value)).bind fun e => if (b.length + 1 + (b.length + 1) / 4 + 192) * 32 ≤ 281474976710656 then (uW.l1 k d g (b ++ [(⟨(d.getD a.toNat rA.z).Worker, e⟩ : rA)]) (rB (a + 1))) else none)) else none) else (some (Sum.inl b))
def uW.f (k : Nat) (e : List rA) (b : rA) : Option ((List rA) × Int) := if b.Worker < 0 then (some (([] : List rA), 1)) else (if (b.Value.length : Int) > 32 then (some (([] : List rA), 42)) else ((uW.l1 k e b ([] : List rA) 0).bind fun g => vS g (fun a => (yE.f k b.Value).bind fun d => if (a.length + 1 + (a.length + 1) / 4 + 192) * 32 ≤ 281474976710656 then (some (a ++ [(⟨b.Worker, d⟩ : rA)], 0)) else none) (fun h => some h)))
theorem uW.calls (k w F bt aK b1) (r : List rA) (ao af A) (l : rA) (hp : Pre w F []) (cA : b1 = r.length) (cy : r.length ≤ aK) (cz : aK ≤ maxLen) (cd : Sl rA.K F F bt r) (bZ : A = l.Value.length) (bX : l.Value.length ≤ af) (bY : af ≤ maxLen) (bW : Sl KB F F ao l.Value) (aJ : List rA) (bs : Int) (H : uW.f k r l = some (aJ, bs)) :
    Calls Tryz.prog 83 #[.slice bt b1 aK, .agg (List.toArray [iv l.Worker, .slice ao A af])] w fun e w' => ∃ F' ar aA aj aI, e = .returned (.tuple #[(.slice ar aj aA), (iv bs)]) ∧ CH.le F F' ∧ Ctx w F (sR []) w' F' [aI] ∧ aj = aJ.length ∧ Row rA.K F' aI (.slice ar aj aA) aJ := by
 have C := Ctx.start hp
 generalize hD : sR [] = D at C ⊢
 unfold uW.f at H
 refine Calls.ofW Tryz.func83 rfl (by simp [Tryz.ntmps83]) <| W.sr rfl ?_
 obtain ⟨aB, cB, b0, S⟩ := uR (P := Tryz.prog) 96 (.agg (List.toArray [iv l.Worker, .slice ao A af])) [iv l.Worker, .slice ao A af] C rfl
 refine WL.val (b0 _ _ _ rfl) <| WL.rd to 2 rfl <| W.seq <| W.block <| W.sr rfl <| WL.run to 1 rfl <| WL.lv S 0 0 rfl rfl u_3 rfl rfl <| WL.rd to 2 rfl ?_
 rcases rT H with ⟨ag, H⟩ | ⟨ag, H⟩
 ·refine W.cT ag rfl <| W.sr rfl <| WL.rd to 2 rfl <| W.ret <| uX <| rS ?_
  have b6 : Cx [CH.emp] := S.pick [1] rfl
  obtain ⟨b8, b9⟩ := sp H
  subst b8 b9
  exact rH (yI rfl rfl rfl) ⟨F, none, 0, 0, CH.emp, rfl, (CH.le_refl _), b6, rfl, (Row.nil _ _)⟩
 refine W.cF ag rfl <| W.sr rfl <| WL.run to 1 rfl <| WL.lv S 0 1 rfl rfl tG rfl rfl <| WL.ln (l.Value.length : Int) rfl tG (by omega) <| WL.rd to 2 rfl ?_
 rcases rT H with ⟨ah, H⟩ | ⟨ah, H⟩
 ·refine W.cT ah rfl <| W.sr rfl <| WL.rd to 2 rfl <| W.ret <| uX <| rS ?_
  have b7 : Cx [CH.emp] := S.pick [1] rfl
  obtain ⟨ca, cc⟩ := sp H
  subst ca cc
  exact rH (yI rfl rfl rfl) ⟨F, none, 0, 0, CH.emp, rfl, (CH.le_refl _), b7, rfl, (Row.nil _ _)⟩
 refine W.cF ah rfl <| W.skip <| tH <| W.sr rfl <| WL.rd to 1 rfl <| W.seq <| W.sr rfl <| WL.run to 1 rfl <| WL.ln (r.length : Int) rfl wD (by omega) ?_
 refine WL.rd to 1 rfl ?_
 obtain ⟨aF, a, H⟩ := rE H
 let p : CH := r0 aB [iv l.Worker, .slice ao A af]
 refine W.vG (fun m U => ∃ (R : List rA), ∃ v V ad O y, Kn m [(3, pt aB), (6, .slice V O ad)] ∧ Ctx w F D U v [y, p] ∧ CH.le F v ∧ oW rA.K v y V O ad R (aF = Sum.inl R)) ?_ ?_
 ·refine W.block ?_
  have bx : Cx [CH.emp, p] := S.pick [1, 0] rfl
  refine W.loop (fun bV m U => ∃ (t : List rA) (b : Int), ∃ h B G x o, Kn m [(3, pt aB), (6, .slice B x G), (18, .slice bt b1 aK), (19, iv (r.length : Int)), (20, iv b)] ∧ Ctx w F D U h [o, p] ∧ CH.le F h ∧ oW rA.K h o B x G t (uW.l1 bV r l t b = some aF)) k ⟨([] : List rA), 0, F, none, 0, 0, CH.emp, rfl, bx, (CH.le_refl _), rfl, (Row.nil _ _), a⟩ ?_
  clear a
  rintro bV m U ⟨t, b, h, B, G, x, o, bi, Y, g, a9, an, a⟩
  rcases bV with _ | aC
  · exact absurd a (by simp [uW.l1])
  rw [uW.l1] at a
  apply ks m bi
  refine W.sr rfl <| WL.rd to 1 rfl <| W.seq ?_
  rcases rT a with ⟨I, a⟩ | ⟨I, a⟩
  ·refine W.cT I rfl <| W.skip <| W.seq <| W.block <| W.sr rfl ?_
   obtain ⟨cg, a⟩ := rV a
   obtain ⟨cm, ci, aL, a0⟩ := cd (by omega)
   refine WL.val (Yl.rW (i := b) rfl rfl aL wD yM (by omega)) ?_
   obtain ⟨cf, bj, bk⟩ := a0 b.toNat _ (getD_some (d := rA.z) (by omega))
   obtain ⟨ap, ay, aD, rfl, ba, a3, a6, aV⟩ := rA.open bj
   let T : LV := [iv ((r.getD b.toNat rA.z).Worker), .slice ap aD ay]
   refine WL.val (Yl.wC (cs := T) rfl Bq rfl yM (fun j u hu => by rw [vL]; exact ((Y.fro.mono g)).cell (bk _ _ hu))) ?_
   obtain ⟨s, ct, bl, bz⟩ := sU (P := Tryz.prog) (e := 96) [iv 0, .slice none 0 0] Y CU rfl
   refine WL.val (bl _ _) <| WL.st bz 0 0 T rfl rfl rfl rfl (Put.lit 0 rfl) (rR rfl) yM fun U (E : Cx [r0 s T, o, p]) => ?_
   refine WL.done <| W.seq <| W.sr rfl <| WL.run to 1 rfl <| WL.lv E 0 0 rfl rfl u_3 rfl rfl <| WL.run to 1 rfl <| WL.lv E 2 0 rfl rfl u_3 rfl rfl <| WL.rd to 1 rfl ?_
   rcases rT a with ⟨J, a⟩ | ⟨J, a⟩
   ·refine W.cT J rfl <| W.sr rfl <| WL.rd to 2 rfl <| W.ret ?_
    iterate 7 first | refine uX ?_ | refine rS ?_
    cases a
    replace H := wB H
    have bA : Cx [CH.emp] := E.pick [3] rfl
    obtain ⟨bQ, bR⟩ := sp H
    subst bQ bR
    exact rH (yI rfl rfl rfl) ⟨h, none, 0, 0, CH.emp, rfl, g, bA, rfl, (Row.nil _ _)⟩
   refine W.cF J rfl <| W.skip <| W.uF [([7, 8], r0 s T)] (by kernel_rfl) ?_
   have Z := Ctx.drewN E 1
   refine WA.sZ [(0, none), (1, none), (2, some 0), (3, none), (4, some 0)] ⟨(Ctx.rO 0 Z rfl), trivial⟩ (by kernel_rfl) <| WT.run to 2 rfl <| WT.lv 0 rfl rfl rfl u_3 rfl rfl <| WT.run to 1 rfl <| WT.lv 1 rfl rfl rfl tG rfl rfl <| WT.done ?_
   obtain ⟨Q, a1, a⟩ := rE a
   refine WA.up1 5 (by kernel_rfl) (Up.sI rfl (by kernel_rfl) rfl (yE.calls aC _ h ap ay aD ((r.getD b.toNat rA.z).Value) Z.tX ba a3 a6 (Sl.mono aV g g) Q a1) (ne.fr rfl rfl) ?_)
   rintro co U ⟨aq, az, aE, b4, rfl, bB, bb, aN⟩
   have aa : Cx [b4, r0 s T, o, p] := Ctx.wS Z bB
   refine ⟨_, rfl, ⟨(Ctx.rO 1 aa rfl), trivial⟩, ?_⟩
   refine WA.sZ [(6, none)] ⟨(Ctx.rO 1 aa rfl), trivial⟩ (by kernel_rfl) ?_
   let ce : LV := [iv ((r.getD b.toNat rA.z).Worker), .slice aq aE az]
   refine WT.val rfl (fun _ hC_ => Yl.build (places := [(0, 1), (1, 1)]) (cs := List.toArray ce) Bq CU (G5 _ Bq) (uV (.cons rfl (.cons rfl .nil))) rfl) ?_
   refine WT.done ?_
   obtain ⟨bK, M, bq, (bC : Cx [r0 s T, o, p])⟩ := Ctx.fzI 0 aa rfl
   obtain ⟨a4, a7, aW⟩ := Row.fz aN M bq
   have aO := Row.mono an M
   obtain ⟨cj, bM, cp, aG, cu, bc, bm, au, aP⟩ := uO (P := Tryz.prog) 96 rA.K bC wD Ec ⟨by decide, by decide⟩ (⟨(r.getD b.toNat rA.z).Worker, Q⟩ : rA) (.agg (List.toArray ce)) (rA.mk' _ (⟨(r.getD b.toNat rA.z).Worker, Q⟩ : rA) aq az aE bb a4 a7 aW)
   refine WA.up1 7 (by kernel_rfl) (Up.val rfl rfl rfl (bm _ _ _ rfl) ⟨trivial, trivial⟩ ?_)
   obtain ⟨aY, a⟩ := rV a
   obtain ⟨bu, bN, b2, ak, cv, bd, bn, bD, aQ⟩ := sP (P := Tryz.prog) (cb := bM) 96 rA.K [aG, r0 s T] [p] au aO bc (Row.sl aP) (Ctx.rO 0 au rfl) wD Ec rfl Hi (by decide) (by decide) (by simpa using aY)
   have av : Cx [aG, r0 s T, ak, p] := bD
   refine WA.up1 8 (by kernel_rfl) (Up.val rfl rfl rfl (bn _ _ _ _ rfl rfl) ⟨trivial, trivial⟩ ?_)
   refine WA.sZ [(9, none)] ⟨(Ctx.rO 1 av rfl), trivial⟩ (by kernel_rfl) <| WT.run to 1 rfl <| WT.done <| WA.done (by kernel_rfl) <| tH <| W.region rfl ?_
   refine WL.rd to 2 rfl ?_
   have bE : Cx [ak, p] := av.pick [2, 3] rfl
   exact rF ⟨aC, Nat.lt_succ_self _, t ++ [(⟨(r.getD b.toNat rA.z).Worker, Q⟩ : rA)], rB (b + 1), bK, bu, bN, b2, ak, rfl, bE, (CH.le_trans g M), bd, aQ, a⟩
  refine W.cF I rfl <| W.exit <| rM <| rM <| sL ?_
  cases a
  refine rF ?_
  exact ⟨t, h, B, G, x, o, rfl, Y, g, a9, an, rfl⟩
 ·rintro m U ⟨R, v, V, ad, O, y, bh, bw, L, ch, aM, rfl⟩
  replace H := wI H
  apply ks m bh
  refine W.seq <| W.uF [([7, 8], p)] (by kernel_rfl) ?_
  have ab := Ctx.drewN bw 1
  refine WA.sZ [(0, none), (1, none), (2, some 0), (3, none), (4, some 0)] ⟨(Ctx.rO 1 ab rfl), trivial⟩ (by kernel_rfl) <| WT.run to 2 rfl <| WT.lv 0 rfl rfl rfl u_3 rfl rfl <| WT.run to 1 rfl <| WT.lv 1 rfl rfl rfl tG rfl rfl <| WT.done ?_
  obtain ⟨am, a2, H⟩ := rE H
  refine WA.up1 5 (by kernel_rfl) (Up.sI rfl (by kernel_rfl) rfl (yE.calls k _ v ao af A l.Value ab.tX bZ bX bY (Sl.mono bW L L) am a2) (ne.fr rfl rfl) ?_)
  rintro co U ⟨X, ae, ai, b5, rfl, bG, be, aR⟩
  have ac : Cx [b5, y, p] := Ctx.wS ab bG
  refine ⟨_, rfl, ⟨(Ctx.rO 2 ac rfl), trivial⟩, ?_⟩
  refine WA.sZ [(6, none)] ⟨(Ctx.rO 2 ac rfl), trivial⟩ (by kernel_rfl) <| WT.val rfl (fun _ hC_ => Yl.build (places := [(0, 1), (1, 1)]) (cs := List.toArray [iv l.Worker, .slice X ai ae]) Bq CU (G5 _ Bq) (uV (.cons rfl (.cons rfl .nil))) rfl) ?_
  refine WT.done ?_
  obtain ⟨bL, N, br, (bH : Cx [y, p])⟩ := Ctx.fzI 0 ac rfl
  obtain ⟨a5, a8, aX⟩ := Row.fz aR N br
  have aS := Row.mono aM N
  obtain ⟨ck, bO, cr, aH, cw, bf, bo, aw, aT⟩ := uO (P := Tryz.prog) 96 rA.K bH wD Ec ⟨by decide, by decide⟩ (⟨l.Worker, am⟩ : rA) (.agg (List.toArray [iv l.Worker, .slice X ai ae])) (rA.mk' _ (⟨l.Worker, am⟩ : rA) X ae ai be a5 a8 aX)
  refine WA.up1 7 (by kernel_rfl) (Up.val rfl rfl rfl (bo _ _ _ rfl) ⟨trivial, trivial⟩ ?_)
  obtain ⟨aZ, H⟩ := rV H
  obtain ⟨bv, bP, b3, al, cx, bg, bp, bI, aU⟩ := sP (P := Tryz.prog) (cb := bO) 96 rA.K [aH] [p] aw aS bf (Row.sl aT) (Ctx.rO 0 aw rfl) wD Ec rfl Hi (by decide) (by decide) (by simpa using aZ)
  have ax : Cx [aH, al, p] := bI
  refine WA.up1 8 (by kernel_rfl) (Up.val rfl rfl rfl (bp _ _ _ _ rfl rfl) ⟨trivial, trivial⟩ ?_)
  refine WA.sZ [(9, none), (10, none)] ⟨(Ctx.rO 2 ax rfl), trivial⟩ (by kernel_rfl) <| WT.run to 2 rfl <| WT.done <| WA.done (by kernel_rfl) <| W.ret ?_
  have bJ : Cx [al] := ax.pick [1] rfl
  obtain ⟨bS, bU⟩ := sp H
  subst bS bU
  exact rH (yI rfl rfl rfl) ⟨bL, bv, bP, b3, al, rfl, (CH.le_trans L N), bJ, bg, aU⟩
def xV.f (k : Nat) (a : List Int) (b : List Int) : Option Bool := some (decide ((strOfNums a) = (strOfNums b)))
theorem xV.calls (k w F o h v) (a : List Int) (r i d) (b : List Int) (hp : Pre w F []) (u : v = a.length) (B : a.length ≤ h) (E : h ≤ maxLen) (t : Sl KB F F o a) (l : d = b.length) (y : b.length ≤ i) (A : i ≤ maxLen) (j : Sl KB F F r b) (g : Bool) (H : xV.f k a b = some g) :
    Calls Tryz.prog 89 #[.slice o v h, .slice r d i] w fun e w' => e = .returned (.bool g) ∧ (∃ m, w' = w.drewN m) := by
 have C := Ctx.start hp
 generalize sR [] = D at C
 have x : ∃ m, w = w.drewN m := ⟨0, rfl⟩
 unfold xV.f at H
 refine Calls.ofW Tryz.func89 rfl (by simp [Tryz.ntmps89]) <| W.sr rfl <| WL.rd to 1 rfl <| W.sr rfl <| WL.run to 1 rfl <| WL.val (Yl.DI (xs := a) rfl u t (C.fro) tG u_5 u_9) <| WL.run to 1 rfl <| WL.val (Yl.DI (xs := b) rfl l j (C.fro) tG u_5 u_9) <| WL.val (Yl.KK (p := strOfNums a) (q := strOfNums b) rfl rfl) ?_
 refine WL.rd to 1 rfl <| W.ret ?_
 have s := Option.some.inj H
 subst s
 exact rH (sE rfl rfl) ⟨rfl, x⟩
def uL.l1 : Nat → List rA → Int → List (ByteArray × List (Int × Int)) → Int → Option (Sum Unit ((List Int) × Bool))
  | 0, _, _, _, _ => none
  | k + 1, b, g, d, a => if a < (b.length : Int) then (if 0 ≤ a ∧ a < (b.length : Int) then (if (((xN d (strOfNums ((b.getD a.toNat rA.z).Value))).getD []).length : Int) > g then ((yE.f k ((b.getD a.toNat rA.z).Value)).bind fun e => some (Sum.inr (e, true))) else (uL.l1 k b g d (rB (a + 1)))) else none) else (some (Sum.inl ()))
def uL.f (k : Nat) (a : List rA) (b : Int) : Option ((List Int) × Bool) := if b < 0 then (some (([] : List Int), false)) else ((vE.f k a).bind fun d => (uL.l1 k a b d 0).bind fun e => vS e (fun _ => some (([] : List Int), false)) (fun g => some g))
theorem uL.calls (k w F S I ai) (h : List rA) (T : Int) (hp : Pre w F []) (aO : ai = h.length) (aM : h.length ≤ I) (aN : I ≤ maxLen) (ak : Sl rA.K F F S h) (R : List Int) (am : Bool) (H : uL.f k h T = some (R, am)) :
    Calls Tryz.prog 84 #[.slice S ai I, iv T] w fun e w' => ∃ B G t Q, e = .returned (.tuple #[(.slice B t G), (.bool am)]) ∧ Ctx w F (sR []) w' F [Q] ∧ t = R.length ∧ Row KB F Q (.slice B t G) R := by
 have C := Ctx.start hp
 generalize hD : sR [] = D at C ⊢
 unfold uL.f at H
 refine Calls.ofW Tryz.func84 rfl (by simp [Tryz.ntmps84]) <| W.sr rfl <| WL.rd to 2 rfl <| W.seq <| W.sr rfl <| WL.rd to 2 rfl ?_
 rcases rT H with ⟨L, H⟩ | ⟨L, H⟩
 ·refine W.cT L rfl <| W.sr rfl <| WL.rd to 2 rfl <| W.ret <| rS ?_
  have aS : Cx [CH.emp] := C.pick [0] rfl
  obtain ⟨aJ, aK⟩ := sp H
  subst aJ aK
  exact rH (yI rfl rfl rfl) ⟨none, 0, 0, CH.emp, rfl, aS, rfl, (Row.nil _ _)⟩
 refine W.cF L rfl <| W.skip <| W.sr rfl <| WL.run to 1 rfl ?_
 obtain ⟨al, aE, H⟩ := rE H
 refine WL.sI (vE.calls k _ F S I ai h C.tX aO aM aN ak al aE) (ne.fr rfl rfl) ?_
 rintro aU r ⟨aL, m, rfl, aH, aD⟩
 refine ⟨_, rfl, ?_⟩
 have aI : Cx [m] := Ctx.wS C aH
 refine WL.rd to 1 rfl <| W.seq <| W.sr rfl <| WL.run to 1 rfl <| WL.ln (h.length : Int) rfl wD (by omega) <| WL.rd to 1 rfl ?_
 obtain ⟨O, a, H⟩ := rE H
 refine W.vG (fun l r => Ctx w F D r F [m] ∧ O = Sum.inl ()) ?_ ?_
 ·refine W.block <| W.loop (fun aC l r => ∃ (b : Int), Kn l [(1, iv T), (6, .map (some aL)), (13, .slice S ai I), (14, iv (h.length : Int)), (15, iv b)] ∧ Ctx w F D r F [m] ∧ uL.l1 aC h T al b = some O) k ⟨0, rfl, aI, a⟩ ?_
  clear a
  rintro aC l r ⟨b, ad, s, a⟩
  rcases aC with _ | M
  · exact absurd a (by simp [uL.l1])
  rw [uL.l1] at a
  apply ks l ad
  refine W.sr rfl <| WL.rd to 1 rfl <| W.seq ?_
  rcases rT a with ⟨o, a⟩ | ⟨o, a⟩
  ·refine W.cT o rfl <| W.skip <| W.seq <| W.block <| W.sr rfl ?_
   obtain ⟨aQ, a⟩ := rV a
   obtain ⟨aT, aR, U, Y⟩ := ak (by omega)
   refine WL.val (Yl.rW (i := b) rfl rfl U wD yM (by omega)) ?_
   obtain ⟨aP, ae, af⟩ := Y b.toNat _ (getD_some (d := rA.z) (by omega))
   obtain ⟨A, E, N, rfl, y, aa, ab, x⟩ := rA.open ae
   let aj : LV := [iv ((h.getD b.toNat rA.z).Worker), .slice A N E]
   refine WL.val (Yl.wC (cs := aj) rfl Bq rfl yM (fun j u hu => by rw [vL]; exact ((s.fro)).cell (af _ _ hu))) ?_
   obtain ⟨J, aW, ag, ap⟩ := sU (P := Tryz.prog) (e := 96) [iv 0, .slice none 0 0] s CU rfl
   refine WL.val (ag _ _) <| WL.st ap 0 0 aj rfl rfl rfl rfl (Put.lit 0 rfl) (rR rfl) yM fun r (g : Cx [r0 J aj, m]) => ?_
   refine WL.done <| W.sr rfl <| WL.run to 2 rfl <| WL.lv g 0 1 rfl rfl tG rfl rfl <| WL.val (Yl.DI (xs := (h.getD b.toNat rA.z).Value) rfl y x (g.fro) tG u_5 u_9) ?_
   obtain ⟨aV, X, ah⟩ := IX.get aD KA u_9 rfl (EY) HF (strOfNums ((h.getD b.toNat rA.z).Value))
   refine WL.val (ah _ (Ctx.rO 1 g rfl) _ _ _ _ rfl rfl) <| WL.val (Yl.Ku X (Ctx.rO 1 g rfl) rfl FG) <| WL.rd to 2 rfl ?_
   rcases rT a with ⟨p, a⟩ | ⟨p, a⟩
   ·refine W.cT p rfl <| W.sr rfl <| WL.run to 1 rfl <| WL.lv g 0 1 rfl rfl tG rfl rfl ?_
    obtain ⟨aG, Z, a⟩ := rE a
    refine WL.sI (yE.calls M _ F A E N ((h.getD b.toNat rA.z).Value) g.tX y aa ab x aG Z) (ne.fr rfl rfl) ?_
    rintro aU r ⟨an, ax, aF, v, rfl, aq, ac, V⟩
    refine ⟨_, rfl, ?_⟩
    have ar : Cx [v, r0 J aj, m] := Ctx.wS g aq
    refine WL.rd to 2 rfl <| W.ret ?_
    iterate 6 first | refine uX ?_ | refine rS ?_
    cases a
    replace H := wB H
    have au : Cx [v] := ar.pick [0] rfl
    obtain ⟨ay, az⟩ := sp H
    subst ay az
    exact rH (yI rfl rfl rfl) ⟨an, ax, aF, v, rfl, au, ac, V⟩
   refine W.cF p rfl <| W.skip <| tH <| W.region rfl ?_
   refine WL.rd to 2 rfl ?_
   have av : Cx [m] := g.pick [1] rfl
   exact rF ⟨M, Nat.lt_succ_self _, rB (b + 1), rfl, av, a⟩
  refine W.cF o rfl <| W.exit <| rM <| rM <| sL ?_
  cases a
  refine rF ?_
  exact ⟨s, rfl⟩
 ·rintro l r ⟨ao, rfl⟩
  replace H := wI H
  refine W.sr rfl <| WL.rd to 2 rfl <| W.ret ?_
  have aw : Cx [CH.emp] := ao.pick [1] rfl
  obtain ⟨aA, aB⟩ := sp H
  subst aA aB
  exact rH (yI rfl rfl rfl) ⟨none, 0, 0, CH.emp, rfl, aw, rfl, (Row.nil _ _)⟩
def vC.l1 : Nat → List rA → List Int → List (Int × Int) → Int → Option (List (Int × Int))
  | 0, _, _, _, _ => none
  | k + 1, d, e, b, a => if a < (d.length : Int) then (if 0 ≤ a ∧ a < (d.length : Int) then ((xV.f k ((d.getD a.toNat rA.z).Value) e).bind fun g => if g = true then (vC.l1 k d e b (rB (a + 1))) else (vC.l1 k d e (yY b ((d.getD a.toNat rA.z).Worker) a) (rB (a + 1)))) else none) else (some b)
def vC.f (k : Nat) (b : List rA) (d : List Int) : Option (List Int) := (vC.l1 k b d ([] : List (Int × Int)) 0).bind fun a => if a.length * 8 ≤ 140737488355328 then (some (Bf (a.map (·.1)))) else none
theorem vC.calls (k w F a4 ay bt) (y : List rA) (ax ao ad) (af : List Int) (hp : Pre w F []) (bS : bt = y.length) (bQ : y.length ≤ ay) (bR : ay ≤ maxLen) (bC : Sl rA.K F F a4 y) (bn : ad = af.length) (bl : af.length ≤ ao) (bm : ao ≤ maxLen) (bk : Sl KB F F ax af) (av : List Int) (H : vC.f k y af = some av) :
    Calls Tryz.prog 85 #[.slice a4 bt ay, .slice ax ad ao] w fun e w' => ∃ ai an U aq, e = .returned (.slice ai U an) ∧ Ctx w F (sR []) w' F [aq] ∧ U = av.length ∧ Row KI F aq (.slice ai U an) av := by
 have C := Ctx.start hp
 generalize hD : sR [] = D at C ⊢
 unfold vC.f at H
 refine Calls.ofW Tryz.func85 rfl (by simp [Tryz.ntmps85]) <| W.sr rfl <| WL.rd to 1 rfl <| W.sr rfl ?_
 obtain ⟨bB, bD, bV, bq, bv, bh⟩ := Bp (P := Tryz.prog) (α := Int) (β := Int) (t := 139) (Value.int .i64) (Value.int .i64) C
 refine WL.val (bq _ _) <| WL.rd to 1 rfl <| W.seq <| W.sr rfl <| WL.run to 1 rfl <| WL.ln (y.length : Int) rfl wD (by omega) <| WL.rd to 1 rfl ?_
 obtain ⟨s, a, H⟩ := rE H
 refine W.vG (fun g o => ∃ B b, g 5 = .map (some B) ∧ Ctx w F D o F [b] ∧ Cl (Value.int .i64) (Value.int .i64) b B s) ?_ ?_
 ·refine W.block <| W.loop (fun ag g o => ∃ (G : List (Int × Int)) (h : Int), ∃ r m, Kn g [(1, .slice ax ad ao), (5, .map (some r)), (11, .slice a4 bt ay), (12, iv (y.length : Int)), (13, iv h)] ∧ Ctx w F D o F [m] ∧ Cl (Value.int .i64) (Value.int .i64) m r G ∧ vC.l1 ag y af G h = some s) k ⟨([] : List (Int × Int)), 0, bB, bD, rfl, bv, bh, a⟩ ?_
  clear a
  rintro ag g o ⟨G, h, r, m, aR, O, J, a⟩
  rcases ag with _ | T
  · exact absurd a (by simp [vC.l1])
  rw [vC.l1] at a
  apply ks g aR
  refine W.sr rfl <| WL.rd to 1 rfl <| W.seq ?_
  rcases rT a with ⟨L, a⟩ | ⟨L, a⟩
  ·refine W.cT L rfl <| W.skip <| W.seq <| W.block <| W.sr rfl <| WL.run to 1 rfl ?_
   obtain ⟨bH, a⟩ := rV a
   obtain ⟨bJ, bI, aB, aI⟩ := bC (by omega)
   refine WL.val (Yl.rW (i := h) rfl rfl aB wD yM (by omega)) ?_
   obtain ⟨bG, aS, aU⟩ := aI h.toNat _ (getD_some (d := rA.z) (by omega))
   obtain ⟨ah, am, ap, rfl, aN, aK, aM, aH⟩ := rA.open aS
   let au : LV := [iv ((y.getD h.toNat rA.z).Worker), .slice ah ap am]
   refine WL.val (Yl.wC (cs := au) rfl Bq rfl yM (fun j u hu => by rw [vL]; exact ((O.fro)).cell (aU _ _ hu))) ?_
   obtain ⟨S, bM, aV, a6⟩ := sU (P := Tryz.prog) (e := 96) [iv 0, .slice none 0 0] O CU rfl
   refine WL.val (aV _ _) <| WL.run to 1 rfl <| WL.st a6 0 0 au rfl rfl rfl rfl (Put.lit 0 rfl) (rR rfl) yM fun o (Q : Cx [r0 S au, m]) => ?_
   refine WL.done <| W.sr rfl <| WL.run to 1 rfl <| WL.lv Q 0 1 rfl rfl tG rfl rfl <| WL.run to 1 rfl ?_
   obtain ⟨bu, aJ, a⟩ := rE a
   refine WL.cq Q (xV.calls T _ F ah am ap ((y.getD h.toNat rA.z).Value) ax ao ad af Q.tX aN aK aM aH bn bl bm bk bu aJ) (ne.fr rfl rfl) fun o R => ?_
   refine WL.rd to 1 rfl ?_
   rcases rT a with ⟨M, a⟩ | ⟨M, a⟩
   ·refine W.uD (cb (zP M)) <| W.skip <| tH <| W.region rfl ?_
    refine WL.rd to 2 rfl ?_
    have a7 : Cx [m] := R.pick [1] rfl
    exact rF ⟨T, Nat.lt_succ_self _, G, rB (h + 1), r, m, rfl, a7, J, a⟩
   refine W.uI (cb (zO M)) <| W.region rfl ?_
   refine WL.run to 2 rfl <| WL.lv R 0 0 rfl rfl u_3 rfl rfl <| WL.run to 1 rfl ?_
   obtain ⟨V, bN, aW, a8, aE⟩ := zR (P := Tryz.prog) (ps1 := [r0 S au]) (ps2 := []) ((y.getD h.toNat rA.z).Worker) h R J FG u_3 rfl (D4 .i64)
   have a9 : Cx [r0 S au, V] := a8
   refine WL.skip (aW _ _ _ _ _ rfl rfl rfl) <| WL.done <| tH <| W.region rfl ?_
   refine WL.rd to 2 rfl ?_
   have ba : Cx [V] := a9.pick [1] rfl
   exact rF ⟨T, Nat.lt_succ_self _, yY G ((y.getD h.toNat rA.z).Worker) h, rB (h + 1), r, V, rfl, ba, aE, a⟩
  refine W.cF L rfl <| W.exit <| rM <| rM <| sL ?_
  cases a
  refine rF ?_
  exact ⟨r, m, rfl, O, J⟩
 ·rintro g o ⟨B, b, aQ, a5, aD⟩
  apply kn g (.c aQ .n)
  refine W.sr rfl <| WL.rd to 1 rfl ?_
  obtain ⟨aa, H⟩ := rV H
  obtain ⟨aA, az, ab, aC⟩ := aD
  have aj : Ctx _ _ _ _ F [CH.emp, b] := Ctx.emp a5
  refine W.seq <| W.vG (fun g o => ∃ (A_ : Option Addr) (c_ I : Nat) (N : CH) (xs_ : List Int), g 8 = .slice A_ I c_ ∧ Ctx w F D o F [N, b] ∧ oW KI F N A_ I c_ xs_ (xs_.Perm (s.map (·.1)))) ?_ ?_
  ·refine W.sr rfl <| WL.val (Yl.move (v := .map (some B)) rfl) ?_
   obtain ⟨aw, bO, aX, bb, aT, bf⟩ := Il (P := Tryz.prog) (ek := (Value.int .i64)) (ev' := (Value.int .i64)) (l := s) aj (Sub.mono (Ctx.AS (p := b) aj (by simp)) (by rw [ab]; exact CH.le_refl _)) FG
   refine WL.val (aX _ _ _ rfl) <| WL.done <| W.block <| W.loop (fun ag g o => ∃ (A_ : Option Addr) (c_ I : Nat) (N : CH) (xs_ : List Int), g 29 = pt aw ∧ g 8 = .slice A_ I c_ ∧ Ctx w F D o F [N, b] ∧ oW KI F N A_ I c_ xs_ (Iter (Value.int .i64) (Value.int .i64) o aw B aA az xs_ ag)) _ ⟨none, 0, 0, CH.emp, [], rfl, rfl, bb, rfl, Row.nil _ _, bf⟩ ?_
   rintro ag g o ⟨A_, c_, I, N, xs_, hi_, a2, C_, hn_, hR_, I_⟩
   refine W.sr rfl ?_
   rcases Iter.next (P := Tryz.prog) (fun v => match v with | .int _ n => n | _ => 0) (fun _ => rfl) I_ C_ (Sub.mono (Ctx.AS (p := b) C_ (by simp)) (by rw [ab]; exact CH.le_refl _)) aT aC with ⟨hperm_, hy_⟩ | ⟨k_, v_, bW, left_, hl_, hlen_, hy_, al, bw, he_⟩
   ·refine WL.val (hy_ _ _ _ hi_) <| WL.val (Yl.extract (v := .bool false) rfl rfl) <| WL.done <| rF <| W.seq <| W.uD rfl <| W.exit <| rM <| rM ?_
    exact sL <| rF ⟨A_, c_, I, N, xs_, a2, C_, hn_, hR_, hperm_⟩
   ·refine WL.val (hy_ _ _ _ hi_) <| WL.val (Yl.extract (v := .bool true) rfl rfl) <| WL.done <| rF <| W.seq <| W.uI rfl <| W.skip <| rF <| W.block ?_
    refine W.sr rfl <| WL.val (he_ _ _ _ hi_) <| WL.val (Yl.extract (v := iv k_) rfl rfl) <| WL.val (Yl.assign (v := iv k_) rfl) <| WL.done <| rF <| W.region rfl ?_
    refine WL.val (Yl.move (v := .slice A_ I c_) a2) <| WL.val (Yl.move (v := iv k_) rfl) ?_
    have bx := Ctx.start al.Lf
    obtain ⟨bP, bA, bU, bE, bX, bo, br, aZ, bi⟩ := uO (P := Tryz.prog) 3 KI bx tM ti3 ⟨by decide, by decide⟩ k_ (iv k_) rfl
    refine WL.val (br _ _ _ rfl) ?_
    obtain ⟨aY, a1, a3, ar, bY, bp, bs, bz, bj⟩ := sP (P := Tryz.prog) (cb := bA) 3 KI [bE] [b] aZ hR_ bo (Row.sl bi) (Ctx.EZ [] [N, b] aZ) tM ti3 rfl zo3 (by decide) (by decide) (by have bK : xs_.length + 1 ≤ s.length := hlen_; have bL := aa; simp only [List.length_cons, List.length_nil]; omega)
    have a0 : Ctx _ _ _ _ F [ar, b] := Ctx.drop [] [ar, b] bz
    exact WL.val (bs _ _ _ _ rfl rfl) <| WL.val (Yl.assign (v := .slice aY a3 a1) rfl) <| WL.done <| tH <| rF ⟨left_, hl_, aY, a1, a3, ar, xs_ ++ [k_], hi_, rfl, al.Kf a0, bp, bj, Iter.K4 bw al a0⟩
  ·rintro g o ⟨x, A, E, X, ae, Z, ak, aO, aF, ac⟩
   have aL : zI.f 0 ae = some (Bf (s.map (·.1))) := by unfold zI.f; rw [if_pos (by rw [ac.length_eq, List.length_map]; exact aa), Ge ac]
   refine W.sr rfl <| WL.val (Yl.move (v := .slice x E A) Z) <| WL.call (args := #[.slice x E A]) (vD.fn Tryz.func96 (by kernel_rfl) rfl (Aq (.cons rfl .nil))) (zI.calls 0 _ F x A E X ae (ak.pq 1) aO aF _ aL) ?_
   rintro bZ o ⟨Y, rfl, bc, aP, aG⟩
   refine ⟨_, rfl, ?_⟩
   refine WL.done ?_
   have bd : Cx [Y, b] := Ctx.cn 1 ak bc
   refine rF <| W.sr rfl <| WL.val (Yl.move (v := .slice x E A) Z) <| WL.rd to 1 rfl <| W.ret ?_
   have be : Cx [Y] := bd.pick [0] rfl
   have bg := Option.some.inj H
   subst bg
   exact rH (sE rfl rfl) ⟨x, A, E, Y, rfl, be, aP, aG⟩
end Go.Proofs.YtobdpbnadjkhiaaGreat
