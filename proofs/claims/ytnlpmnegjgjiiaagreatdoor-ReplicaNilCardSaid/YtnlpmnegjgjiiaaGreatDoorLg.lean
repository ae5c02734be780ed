/- Variables in memory, interface values, results handed on, slices cut. -/
import Derived.Test.YtnlpmnegjgjiiaaGreatDoorLf
namespace Go.WG
open Go.RowKit
theorem CH.dis_le {a b c : CH} (h : CH.dis b c) (hl : CH.le a b) : CH.dis a c := fun g o => by
  rcases h g o with h0 | h0
  · left
    cases hv : a g o with
    | none => rfl
    | some v => rw [hl g o v hv] at h0; cases h0
  · exact .inr h0
section
variable {w0 w w' : World} {F0 F G G' : CH} {D D' : Nat → Nat → Prop} {ps qs qs' rest : List CH}
/-- Told over less. -/
theorem Ctx.weak (k : Ctx w G D w' G' qs) (hl : CH.le F G) : Ctx w F D w' F qs :=
  ⟨k.mod, CH.le_refl _, k.fro.mono (CH.le_trans hl k.le), fun _ _ hn => .inl hn, fun p hp => ⟨(k.own p hp).1, CH.dis_le (k.own p hp).2.1 (CH.le_trans hl k.le), (k.own p hp).2.2⟩, k.pair⟩
/-- What is frozen beyond F is let go. -/
theorem Ctx.lower (h : Ctx w0 F0 D w F ps) (h0 : CH.le F0 G) (hl : CH.le G F) : Ctx w0 F0 D w G ps :=
  ⟨h.mod, h0, h.fro.mono hl, fun g o hn => h.dom g o (fun h1 => by
    cases hv : G g o with
    | none => exact hn hv
    | some v => rw [hl g o v hv] at h1; cases h1), fun p hp => ⟨(h.own p hp).1, CH.dis_le (h.own p hp).2.1 hl, (h.own p hp).2.2⟩, h.pair⟩
/-- A call that was lent more than what is frozen here. -/
theorem Ctx.callL (h : Ctx w0 F0 D w F (qs ++ rest)) (hl : CH.le F G) (k : Ctx w G (domL qs) w' G' qs') : Ctx w0 F0 D w' F (qs' ++ rest) := h.call (k.weak hl)
end
section
variable {P : Program} {w0 w : World} {F0 F : CH} {D : Nat → Nat → Prop} {ps ps1 ps2 : List CH}
theorem ev_alloc {e : TypeId} {z : Value} (cs : List Value) (C : Ctx w0 F0 D w F ps) (hz : (P.info? e).map (·.zero) = some (some z)) (hc : z.cells = cs.toArray) :
    ∃ g w', (∀ (env : Env) (ty : TypeId), Yl P env (.alloc e) ty w (.pointer (some ⟨g, 0, none⟩)) w') ∧ Ctx w0 F0 D w' F (CH.row g 0 cs :: ps) := by
  obtain ⟨inf, hi, hz'⟩ := Option.map_eq_some_iff.1 hz
  refine ⟨w.heap.size, w.alloc (.cells cs.toArray e), fun env ty => ?_, by simpa using C.alloc cs.toArray e⟩
  show (execOp (ev env) _).run P w = _
  simp [execOp, Instr.alloc, zeroValue, typeInfo, hi, hz', newVar, newRow, hc]
/-- A store into a variable: cells us become vs. -/
theorem ev_set {t : TypeId} {g off o : Nat} (cs a us b vs : List Value) (v : Value) (C : Ctx w0 F0 D w F (ps1 ++ CH.row g off cs :: ps2)) (hcs : cs = a ++ us ++ b) (ho : a.length = o) (hl : us.length = vs.length) (hv : v.cells = vs.toArray) (h1 : ∀ u ∈ vs, u.oneCell' = true) (hs : (P.info? t).map (·.size) = some vs.length) :
    ∃ w', (∀ (env : Env) (x y : Operand) (ty : TypeId), ev env x = .pointer (some ⟨g, off + o, none⟩) → ev env y = v → Yskip P env (.store t x y) ty w w') ∧ Ctx w0 F0 D w' F (ps1 ++ CH.row g off (a ++ vs ++ b) :: ps2) := by
  obtain ⟨inf, hinf, hsz⟩ := Option.map_eq_some_iff.1 hs
  subst hcs
  obtain ⟨w', hst, C'⟩ := run_stores (P := P) g (off + o) vs 0 w off o (a ++ us ++ b) C (by omega) (by simp only [List.length_append]; omega) h1
  refine ⟨w', fun env x y ty hx hy => ?_, ?_⟩
  · show (execOp (ev env) _).run P w = _
    simp [execOp, hx, hy, Instr.storeAt, Instr.sureAddr, storeVar, hv, sizeOf, typeInfo, hinf, hsz, hst]
  · have h1 : (a ++ us ++ b).take o = a := by rw [List.append_assoc, ← ho, List.take_left]
    have h2 : (a ++ us ++ b).drop (o + vs.length) = b := by
      have : o + vs.length = (a ++ us).length := by rw [List.length_append]; omega
      rw [this, List.drop_left]
    rw [h1, h2] at C'
    exact C'
end
section
variable {P : Program} {env : Env} {w w' : World} {ty t u : TypeId} {x y : Operand} {v : Value}
theorem Yl.lenN {A : Option Addr} {l q : Nat} {e : TypeId} {n : Int} (hx : ev env x = .slice A l q) (ht : P.underlying t = some (.slice e)) (hn : (l : Int) = n) : Yl P env (.call { callee := .builtin .len, args := #[x], argTypes := #[t] }) ty w (.int .i64 n) w := hn ▸ Yl.len hx ht
theorem Yl.capN {A : Option Addr} {l q : Nat} {e : TypeId} (hx : ev env x = .slice A l q) (ht : P.underlying t = some (.slice e)) : Yl P env (.call { callee := .builtin .cap, args := #[x], argTypes := #[t] }) ty w (.int .i64 (q : Int)) w := by
  show (execOp (ev env) _).run P w = _
  simp [execOp, resolve, invoke, builtin, Builtin.cap_, hx, run_underlying ht, goInt]
/-- A variable's cell, or its cells. -/
theorem Yl.loadV {d : TypeDesc} {g off o : Nat} {cs : List Value} (hx : ev env x = .pointer (some ⟨g, off + o, none⟩)) (hu : P.underlying t = some d) (hd : aggD d = false) (hs : Sub (CH.row g off cs) w) (hc : cs[o]? = some v) : Yl P env (.load t x) ty w v w :=
  Yl.load hx hu hd (hs.cell (CH.row_get hc))
theorem Yl.loadVA {d : TypeDesc} {g off o : Nat} {cs us : List Value} (hx : ev env x = .pointer (some ⟨g, off + o, none⟩)) (hu : P.underlying t = some d) (hd : aggD d = true) (hsz : (P.info? t).map (·.size) = some us.length) (hs : Sub (CH.row g off cs) w) (hc : (cs.drop o).take us.length = us) : Yl P env (.load t x) ty w (.agg us.toArray) w :=
  Yl.loadAgg hx hu hd hsz fun j v hj => by
    rw [add_of, Nat.add_assoc]
    refine hs.cell (CH.row_get ?_)
    rw [← hc, List.getElem?_take] at hj
    split at hj
    · rwa [List.getElem?_drop] at hj
    · cases hj
theorem Yl.mkIface {d : TypeDesc} (hx : ev env x = v) (hu : P.underlying t = some d) (hd : (match d with | .interface _ => true | _ => false) = false) : Yl P env (.makeInterface t x) ty w (.iface t v) w := by
  show (execOp (ev env) _).run P w = _
  cases d <;> simp at hd <;> simp [execOp, hx, Instr.makeInterface, run_underlying hu]
theorem Yl.assertV {d : TypeDesc} {xt : TypeId} (hx : ev env x = .iface t v) (hu : P.underlying t = some d) (hd : (match d with | .interface _ => true | _ => false) = false) : Yl P env (.typeAssert x xt t false) ty w v w := by
  show (execOp (ev env) _).run P w = _
  cases d <;> simp at hd <;> simp [execOp, hx, Instr.typeAssert, run_underlying hu]
theorem Yl.assertOk {d : TypeDesc} {xt : TypeId} (hx : ev env x = .iface t v) (hu : P.underlying t = some d) (hd : (match d with | .interface _ => true | _ => false) = false) : Yl P env (.typeAssert x xt t true) ty w (.tuple #[v, .bool true]) w := by
  show (execOp (ev env) _).run P w = _
  cases d <;> simp at hd <;> simp [execOp, hx, Instr.typeAssert, run_underlying hu]
theorem run_wrapnil {ts : Array TypeId} {a : Addr} {s m : ByteArray} : (Builtin.ssaWrapNilChk_ ts ty #[.pointer (some a), .string s, .string m]).run P w = .ok (.pointer (some a)) w := rfl
theorem run_inv {name : String} {f : FuncId} {fn : Func} {as : Array Operand} {ts : Array TypeId} {recv : Value} (hx : ev env x = .iface t v) (hmeth : (method (P.types.size + Made.depth) t v name).run P w = .ok (f, recv) w)
    (hf : P.funcs[f]? = some fn) (hn : ¬ fn.name = "runtime.NumGoroutine") (hb : ¬ fn.body = none) :
    (execOp (ev env) ⟨none, .call { callee := .invoke x name, args := as, argTypes := ts }, ty, "", #[], none⟩).run P w = .ok (.enter f (#[recv] ++ as.map (ev env))) w := by
  have h0 : (#[Value.iface t v] ++ as.map (ev env))[0]? = some (.iface t v) := by
    rw [Array.getElem?_append_left (by simp)]
    rfl
  have h1 : (#[Value.iface t v] ++ as.map (ev env)).extract 1 (#[Value.iface t v] ++ as.map (ev env)).size = as.map (ev env) := by simp
  have h2 : (callMethod (.iface t v) name (as.map (ev env))).run P w = .ok (.enter f (#[recv] ++ as.map (ev env))) w := by
    simp [callMethod, hmeth, callFunc, hf, hn, hb]
  have h3 : (invoke (.fn (.method name) #[]) (#[Value.iface t v] ++ as.map (ev env))).run P w = .ok (.enter f (#[recv] ++ as.map (ev env))) w := by
    unfold invoke
    simp only [h0, h1, h2]
  simp only [execOp, resolve, hx]
  exact h3
/-- A method called through an interface: of a pointer. -/
theorem Yenter.inv {name : String} {f : FuncId} {fn : Func} {as : Array Operand} {ts : Array TypeId} {args : Array Value} (hx : ev env x = .iface t v)
    (hm : ((P.info? t).bind (fun i => i.methods.find? (·.name == name))).map (fun m => (m.path, m.func)) = some (#[], some (f, true))) (ht : P.underlying t = some (.pointer u))
    (hf : P.funcs[f]? = some fn) (hn : (fn.name == "runtime.NumGoroutine") = false) (hb : fn.body.isSome = true) (ha : as.map (ev env) = args) :
    Yenter P env (.call { callee := .invoke x name, args := as, argTypes := ts }) ty w f (#[v] ++ args) := by
  subst ha
  obtain ⟨m, hm1, hm2⟩ := Option.map_eq_some_iff.1 hm
  obtain ⟨i, hi, hm1⟩ := Option.bind_eq_some_iff.1 hm1
  injection hm2 with hp hfn
  show (execOp (ev env) _).run P w = _
  have hb' : ¬ fn.body = none := by cases h : fn.body <;> simp_all
  have hn' : ¬ fn.name = "runtime.NumGoroutine" := by simpa using hn
  have hmeth : ∀ k, (method (k + 1) t v name).run P w = .ok (f, v) w := fun k => by
    simp [method, typeInfo, hi, hm1, hp, hfn, follow, receiverAt, run_underlying ht, Place.get]
  exact run_inv hx (hmeth _) hf hn' hb'
/-- Of what a pointer leads to. -/
theorem Yenter.invV {name : String} {f : FuncId} {fn : Func} {as : Array Operand} {ts : Array TypeId} {args : Array Value} {ad : Addr} (hx : ev env x = .iface t (.pointer (some ad)))
    (hm : ((P.info? t).bind (fun i => i.methods.find? (·.name == name))).map (fun m => (m.path, m.func)) = some (#[], some (f, false))) (ht : P.underlying t = some (.pointer u)) (hl : (loadVar u ad).run P w = .ok v w)
    (hf : P.funcs[f]? = some fn) (hn : (fn.name == "runtime.NumGoroutine") = false) (hb : fn.body.isSome = true) (ha : as.map (ev env) = args) :
    Yenter P env (.call { callee := .invoke x name, args := as, argTypes := ts }) ty w f (#[v] ++ args) := by
  subst ha
  obtain ⟨m, hm1, hm2⟩ := Option.map_eq_some_iff.1 hm
  obtain ⟨i, hi, hm1⟩ := Option.bind_eq_some_iff.1 hm1
  injection hm2 with hp hfn
  show (execOp (ev env) _).run P w = _
  have hb' : ¬ fn.body = none := by cases h : fn.body <;> simp_all
  have hn' : ¬ fn.name = "runtime.NumGoroutine" := by simpa using hn
  have hmeth : ∀ k, (method (k + 1) t (.pointer (some ad)) name).run P w = .ok (f, v) w := fun k => by
    simp [method, typeInfo, hi, hm1, hp, hfn, follow, receiverAt, run_underlying ht, Place.get, run_wrapnil, strVal, asAddr, hl]
  exact run_inv hx (hmeth _) hf hn' hb'
theorem run_loadV1 {d : TypeDesc} {g off o : Nat} {cs : List Value} (hu : P.underlying t = some d) (hd : aggD d = false) (hs : Sub (CH.row g off cs) w) (hc : cs[o]? = some v) : (loadVar t ⟨g, off + o, none⟩).run P w = .ok v w :=
  run_loadVar_one hu hd _ (hs.cell (CH.row_get hc))
def OB (env : Env) (o : Option Operand) (d i : Nat) : Prop :=
  match o with
  | some z => ∃ k, ev env z = .int k (i : Int)
  | none => i = d
theorem run_bound {k : IntKind} {i y : Nat} {code : BoundsCode} (h : i ≤ y) : (Instr.sliceBound (.int k (i : Int)) y code).run P w = .ok i w := by
  simp [Instr.sliceBound, asIntOf, h]
theorem run_bounds {b : Bool} {n c lo hi mx : Nat} {l h m : Option Operand} (hm : OB env m c mx) (hh : OB env h n hi) (hl : OB env l 0 lo) (h0 : m.isSome = true → h.isSome = true) (h1 : lo ≤ hi) (h2 : hi ≤ mx) (h3 : mx ≤ c) :
    (Instr.sliceBounds b n c (l.map (ev env)) (h.map (ev env)) (m.map (ev env))).run P w = .ok (lo, hi, mx) w := by
  cases m with
  | none =>
    have hm' : mx = c := hm
    subst hm'
    cases h with
    | none =>
      have hh' : hi = n := hh
      subst hh'
      cases l with
      | none =>
        have hl' : lo = 0 := hl
        subst hl'
        simp [Instr.sliceBounds]
      | some z =>
        obtain ⟨k, hk⟩ := hl
        simp [Instr.sliceBounds, hk, run_bound h1]
    | some y =>
      obtain ⟨k2, hk2⟩ := hh
      cases l with
      | none =>
        have hl' : lo = 0 := hl
        subst hl'
        simp [Instr.sliceBounds, hk2, run_bound h2]
      | some z =>
        obtain ⟨k, hk⟩ := hl
        simp [Instr.sliceBounds, hk, hk2, run_bound h1, run_bound h2]
  | some x =>
    obtain ⟨k3, hk3⟩ := hm
    cases h with
    | none => simp at h0
    | some y =>
      obtain ⟨k2, hk2⟩ := hh
      cases l with
      | none =>
        have hl' : lo = 0 := hl
        subst hl'
        simp [Instr.sliceBounds, hk2, hk3, run_bound h2, run_bound h3]
      | some z =>
        obtain ⟨k, hk⟩ := hl
        simp [Instr.sliceBounds, hk, hk2, hk3, run_bound h1, run_bound h2, run_bound h3]
theorem Yl.slice {A : Option Addr} {n c sz : Nat} {e : TypeId} {l h m : Option Operand} (lo hi mx : Nat) (hx : ev env x = .slice A n c) (ht : P.underlying t = some (.slice e)) (hs : (P.info? e).map (·.size) = some sz)
    (hm : OB env m c mx) (hh : OB env h n hi) (hl : OB env l 0 lo) (h0 : m.isSome = true → h.isSome = true) (h1 : lo ≤ hi) (h2 : hi ≤ mx) (h3 : mx ≤ c) (hv : Value.slice (if mx = lo then A else A.map (·.add (lo * sz))) (hi - lo) (mx - lo) = v) : Yl P env (.slice t x l h m) ty w v w := by
  obtain ⟨inf, hi', rfl⟩ := Option.map_eq_some_iff.1 hs
  subst hv
  show (execOp (ev env) _).run P w = _
  have hb := run_bounds (P := P) (w := w) (b := true) hm hh hl h0 h1 h2 h3
  simp [execOp, hx, run_underlying ht, Instr.sliceAt, Instr.slice, hb, sizeOf, typeInfo, hi']
/-- An array's cells as a slice. -/
theorem Yl.sliceArr {b off n sz : Nat} {e : TypeId} {l h m : Option Operand} (lo hi mx : Nat) (hx : ev env x = .pointer (some ⟨b, off, none⟩)) (ht : P.underlying t = some (.array n e)) (hs : (P.info? e).map (·.size) = some sz)
    (hm : OB env m n mx) (hh : OB env h n hi) (hl : OB env l 0 lo) (h0 : m.isSome = true → h.isSome = true) (h1 : lo ≤ hi) (h2 : hi ≤ mx) (h3 : mx ≤ n) (hv : Value.slice (some (if mx = lo then ⟨b, off, none⟩ else ⟨b, off + lo * sz, none⟩)) (hi - lo) (mx - lo) = v) : Yl P env (.slice t x l h m) ty w v w := by
  obtain ⟨inf, hi', rfl⟩ := Option.map_eq_some_iff.1 hs
  subst hv
  show (execOp (ev env) _).run P w = _
  have hb := run_bounds (P := P) (w := w) (b := false) hm hh hl h0 h1 h2 h3
  simp [execOp, hx, run_underlying ht, Instr.sliceAt, Instr.sureAddr, hb, sizeOf, typeInfo, hi', add_of]
end
/-! wrappers whose slices carry a name for their length -/
section
variable {P : Program} {w0 w : World} {F0 F : CH} {D : Nat → Nat → Prop} {ps ps1 ps2 : List CH}
theorem ev_lit1' (e : TypeId) {α : Type} (K : Kd α) {t : TypeId} {z : Value} {by_ : Nat} (C : Ctx w0 F0 D w F ps) (ht : P.underlying t = some (.slice e)) (hi : TI P e z K.sz by_) (hs : 0 < K.sz ∧ K.sz ≤ 16777216) (y : α) (v : Value) (hy : K.rep F y v.cells.toList) :
    ∃ A c n p w', n = [y].length ∧ (∀ (env : Env) (x : Operand) (ty : TypeId), ev env x = v → Yl P env (.buildSlice t 1 #[(0, x)]) ty w (.slice A n c) w') ∧ Ctx w0 F0 D w' F (p :: ps) ∧ Row K F p (.slice A n c) [y] := by
  obtain ⟨A, c, p, w', h1, h2, h3⟩ := ev_lit1 (P := P) e K C ht hi hs y v hy
  exact ⟨A, c, _, p, w', rfl, h1, h2, h3⟩
theorem ev_lit' (e : TypeId) {α : Type} (K : Kd α) {t : TypeId} {z : Value} {by_ : Nat} (C : Ctx w0 F0 D w F ps) (ht : P.underlying t = some (.slice e)) (hi : TI P e z K.sz by_) (hs : 0 < K.sz) (ys : List α) (vs : List Value) (hy : Reps K F ys vs) (n : Nat) (hn : n = vs.length) (hpos : 0 < n) (hsm : n * K.sz ≤ 16777216) :
    ∃ A c m p w', m = ys.length ∧ (∀ (env : Env) (xs : List Operand) (ty : TypeId), Evs env xs vs → Yl P env (.buildSlice t n (mkParts 0 xs).toArray) ty w (.slice A m c) w') ∧ Ctx w0 F0 D w' F (p :: ps) ∧ Row K F p (.slice A m c) ys := by
  obtain ⟨A, c, p, w', h1, h2, h3⟩ := ev_lit (P := P) e K C ht hi hs ys vs hy n hn hpos hsm
  exact ⟨A, c, _, p, w', rfl, h1, h2, h3⟩
theorem ev_make' (e : TypeId) {α : Type} (K : Kd α) {t : TypeId} {z : Value} {by_ : Nat} (C : Ctx w0 F0 D w F ps) (ht : P.underlying t = some (.slice e)) (hi : TI P e z K.sz by_) (d : α) (hz : K.rep F d z.cells.toList) (hby : 0 < by_) (n : Int) (hn : 0 ≤ n ∧ n * by_ ≤ 140737488355328) :
    ∃ A c m p w', m = (List.replicate n.toNat d).length ∧ (∀ (env : Env) (x y : Operand) (k k' : IntKind) (ty : TypeId), ev env x = .int k n → ev env y = .int k' n → Yl P env (.makeSlice t x y) ty w (.slice A m c) w') ∧ Ctx w0 F0 D w' F (p :: ps) ∧ Row K F p (.slice A m c) (List.replicate n.toNat d) := by
  obtain ⟨A, c, p, w', h1, h2, h3⟩ := ev_make (P := P) e K C ht hi d hz hby n hn
  exact ⟨A, c, _, p, w', rfl, h1, h2, h3⟩
theorem ev_append' (e : TypeId) {α : Type} (K : Kd α) {p h : CH} {A B : Option Addr} {c cb n m : Nat} {xs ys : List α} {t : TypeId} {z : Value} {by_ : Nat} (ps1 ps2 : List CH) (C : Ctx w0 F0 D w F (ps1 ++ p :: ps2)) (hR : Row K F p (.slice A n c) xs)
    (hm : m = ys.length) (hS : Sl K F h B ys) (hsub : Sub h w) (ht : P.underlying t = some (.slice e)) (hi : TI P e z K.sz by_) (hz : z.cells.size = K.sz) (hz1 : ∀ u ∈ z.cells.toList, u.oneCell' = true) (hs : 0 < K.sz) (hby : 0 < by_) (hlim : (xs.length + ys.length + (xs.length + ys.length) / 4 + 192) * by_ ≤ 281474976710656) :
    ∃ A' c' n' p' w', n' = (xs ++ ys).length ∧ (∀ (env : Env) (s x : Operand) (ty : TypeId), ev env s = .slice A n c → ev env x = .slice B m cb → Yl P env (.call { callee := .builtin .append, args := #[s, x], argTypes := #[t, t] }) ty w (.slice A' n' c') w') ∧
      Ctx w0 F0 D w' F (ps1 ++ p' :: ps2) ∧ Row K F p' (.slice A' n' c') (xs ++ ys) := by
  obtain ⟨_, _, hn⟩ := hR.len_le
  subst hn; subst hm
  obtain ⟨A', c', p', w', h1, h2, h3⟩ := ev_append (P := P) (cb := cb) e K ps1 ps2 C hR hS hsub ht hi hz hz1 hs hby hlim
  exact ⟨A', c', _, p', w', rfl, h1, h2, h3⟩
end
section
variable {α : Type} {K : Kd α} {F p : CH} {A : Option Addr} {n c : Nat} {xs : List α}
theorem Row.nil' (K : Kd α) (F : CH) : Row K F CH.emp (.slice none 0 0) [] := Row.nil K F
/-- The first m of a row of one's own. -/
theorem Row.take (h : Row K F p (.slice A n c) xs) (m : Nat) (hm : m ≤ n) : m = (xs.take m).length ∧ Row K F p (.slice A m c) (xs.take m) := by
  obtain ⟨_, _, hn⟩ := h.len_le
  subst hn
  have hl : m = (xs.take m).length := by rw [List.length_take]; omega
  refine ⟨hl, ?_⟩
  rcases h with ⟨h1, rfl, rfl⟩ | ⟨g, off, cap, cur, h1, h2, h3, h4, h5, h6, h7⟩
  · have h0 : m = 0 := by simpa using hm
    subst h0
    injection h1 with h1 _ h3
    subst h1; subst h3
    exact .inl ⟨rfl, by simp, rfl⟩
  · injection h1 with e1 e2 e3
    subst e1; subst e3
    exact .inr ⟨g, off, c, cur, by rw [← hl], by rw [← hl]; omega, h3, h4, h5, h6, h7.take m⟩
/-- Frozen, told with the name of its length. -/
theorem Row.freeze' (h : Row K F p (.slice A n c) xs) (hd : CH.dis F p) : xs.length ≤ c ∧ c ≤ maxLen ∧ Sl K (CH.join F p) (CH.join F p) A xs := by
  obtain ⟨h1, h2, h3⟩ := h.len_le
  exact ⟨h1, h2, h.sl.mono (CH.le_joinL _ _) (CH.le_joinR hd)⟩
end
end Go.WG
