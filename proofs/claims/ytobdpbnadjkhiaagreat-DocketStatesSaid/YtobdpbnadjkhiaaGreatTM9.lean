/- Functions of the program: each as a plain function of numbers and lists, and the proof that the program's own comes to it. Nothing is assumed but what each theorem says. -/
import Derived.Test.YtobdpbnadjkhiaaGreatTM8
namespace Go.Proofs.YtobdpbnadjkhiaaGreat
open Go.RowKit Go.WG
set_option linter.unusedVariables false
set_option linter.unusedSimpArgs false
set_option maxRecDepth 100000
set_option maxHeartbeats 4000000
def sQ.f (k : Nat) (a : Int) (b : Int) (d : Int) : Option Bool := some ((decide (a ≥ b)) && (decide (a ≤ d)))
theorem sQ.calls (k w F) (a : Int) (g : Int) (h : Int) (hp : Pre w F [])  (j : Bool) (H : sQ.f k a g h = some j) :
    Calls Tryz.prog 49 #[iv a, iv g, iv h] w fun e w' => e = .returned (.bool j) ∧ (∃ i, w' = w.drewN i) := by
 have C := Ctx.start hp
 generalize sR [] = D at C
 have m : ∃ i, w = w.drewN i := ⟨0, rfl⟩
 unfold sQ.f at H
 refine Calls.ofW Tryz.func49 rfl (by simp [Tryz.ntmps49]) <| W.sr rfl <| WL.rd to 1 rfl <| W.sr rfl <| WL.run to 4 rfl <| WL.cut (fun d l => d 6 = .bool ((decide (a ≥ g)) && (decide (a ≤ h))) ∧ Ctx w F D l F [] ∧ (∃ i, l = w.drewN i)) ?_ ?_
 ·rcases Bool.eq_false_or_eq_true (decide (a ≥ g)) with b | b
  ·exact WL.kn 10 (cb b) <| WL.run to 5 rfl <| WL.done ⟨(cb (show (decide (a ≤ h)) = ((decide (a ≥ g)) && (decide (a ≤ h))) from by simp [b])), C, m⟩
  ·exact WL.kn 10 (cb b) <| WL.sN 3 10 true rfl rfl <| WL.run to 2 rfl <| WL.done ⟨(cb (show false = ((decide (a ≥ g)) && (decide (a ≤ h))) from by simp [b])), C, m⟩
 ·rintro d l ⟨p, s, o⟩
  apply kn d (.c p .n)
  refine W.ret ?_
  have r := Option.some.inj H
  subst r
  exact rH (sE rfl rfl) ⟨rfl, o⟩
def vQ.f (k : Nat) (a : rK) : Option Bool := (sQ.f k a.Faulty 0 2).bind fun d => (if d = true then ((sQ.f k a.Workers (rB ((rB (2 * a.Faulty)) + 1)) 8).bind fun e => if e = true then ((sQ.f k a.Height 0 6).bind fun g => if g = true then ((sQ.f k a.Heads 0 6).bind fun h => if h = true then ((sQ.f k a.Bits 1 256).bind fun i => if i = true then ((sQ.f k a.Jobs 1 64).bind fun j => if j = true then ((sQ.f k a.Term 1 10000).bind fun l => some (l)) else (some (false))) else (some (false))) else (some (false))) else (some (false))) else (some (false))) else (some (false))).bind fun b => some b
theorem vQ.calls (k w F) (b : rK) (hp : Pre w F [])  (x : Bool) (H : vQ.f k b = some x) :
    Calls Tryz.prog 20 #[.agg (List.toArray (rK.q b))] w fun e w' => e = .returned (.bool x) ∧ Ctx w F (sR []) w' F [] := by
 have C := Ctx.start hp
 generalize hD : sR [] = D at C ⊢
 unfold vQ.f at H
 refine Calls.ofW Tryz.func20 rfl (by simp [Tryz.ntmps20]) <| W.sr rfl ?_
 let M : LV := rK.q b
 obtain ⟨ad, ae, U, y⟩ := uR (P := Tryz.prog) 42 (.agg (List.toArray M)) M C rfl
 refine WL.val (U _ _ _ rfl) <| WL.rd to 1 rfl <| W.sr rfl <| WL.run to 1 rfl <| WL.lv y 0 0 rfl rfl u_3 rfl rfl ?_
 obtain ⟨V, T, H⟩ := rE H
 refine WL.cq y (sQ.calls k _ F b.Faulty 0 2 y.tX  V T) (ne.fr rfl rfl) fun d g => ?_
 refine WL.run to 1 rfl ?_
 obtain ⟨S, a, H⟩ := rE H
 refine WL.cut (fun h d => h 2 = .bool S ∧ Ctx w F D d F [r0 ad M]) ?_ ?_
 ·rcases rT a with ⟨i, a⟩ | ⟨i, a⟩
  ·refine WL.kn 6 (cb i) <| WL.run to 1 rfl <| WL.lvG g 0 1 rfl rfl rfl rfl u_3 rfl rfl <| WL.run to 1 rfl <| WL.lvG g 0 0 rfl rfl rfl rfl u_3 rfl rfl <| WL.run to 2 rfl <| WL.on rfl rfl ?_
   obtain ⟨X, A, a⟩ := rE a
   refine WL.cq g (sQ.calls k _ F b.Workers (rB ((rB (2 * b.Faulty)) + 1)) 8 g.tX  X A) (ne.fr rfl rfl) fun d r => ?_
   refine WL.run to 2 rfl ?_
   rcases rT a with ⟨j, a⟩ | ⟨j, a⟩
   ·refine WL.kn 15 (cb j) <| WL.run to 1 rfl <| WL.lvG r 0 2 rfl rfl rfl rfl u_3 rfl rfl <| WL.on rfl rfl ?_
    obtain ⟨Y, B, a⟩ := rE a
    refine WL.cq r (sQ.calls k _ F b.Height 0 6 r.tX  Y B) (ne.fr rfl rfl) fun d s => ?_
    refine WL.run to 2 rfl ?_
    rcases rT a with ⟨l, a⟩ | ⟨l, a⟩
    ·refine WL.kn 20 (cb l) <| WL.run to 1 rfl <| WL.lvG s 0 6 rfl rfl rfl rfl u_3 rfl rfl <| WL.on rfl rfl ?_
     obtain ⟨Z, E, a⟩ := rE a
     refine WL.cq s (sQ.calls k _ F b.Heads 0 6 s.tX  Z E) (ne.fr rfl rfl) fun d t => ?_
     refine WL.run to 2 rfl ?_
     rcases rT a with ⟨m, a⟩ | ⟨m, a⟩
     ·refine WL.kn 25 (cb m) <| WL.run to 1 rfl <| WL.lvG t 0 3 rfl rfl rfl rfl u_3 rfl rfl <| WL.on rfl rfl ?_
      obtain ⟨aa, G, a⟩ := rE a
      refine WL.cq t (sQ.calls k _ F b.Bits 1 256 t.tX  aa G) (ne.fr rfl rfl) fun d u => ?_
      refine WL.run to 2 rfl ?_
      rcases rT a with ⟨o, a⟩ | ⟨o, a⟩
      ·refine WL.kn 30 (cb o) <| WL.run to 1 rfl <| WL.lvG u 0 4 rfl rfl rfl rfl u_3 rfl rfl <| WL.on rfl rfl ?_
       obtain ⟨ab, I, a⟩ := rE a
       refine WL.cq u (sQ.calls k _ F b.Jobs 1 64 u.tX  ab I) (ne.fr rfl rfl) fun d v => ?_
       refine WL.run to 2 rfl ?_
       rcases rT a with ⟨p, a⟩ | ⟨p, a⟩
       ·refine WL.kn 35 (cb p) <| WL.run to 1 rfl <| WL.lvG v 0 5 rfl rfl rfl rfl u_3 rfl rfl <| WL.on rfl rfl ?_
        obtain ⟨ac, J, a⟩ := rE a
        refine WL.cq v (sQ.calls k _ F b.Term 1 10000 v.tX  ac J) (ne.fr rfl rfl) fun d N => ?_
        refine WL.run to 2 rfl ?_
        cases a
        exact WL.done ⟨rfl, N⟩
       refine WL.kn 35 (cb (Bool.eq_false_iff.2 p)) <| WL.sN 3 35 true rfl rfl <| WL.run to 2 rfl ?_
       cases a
       exact WL.done ⟨rfl, v⟩
      refine WL.kn 30 (cb (Bool.eq_false_iff.2 o)) <| WL.sN 3 30 true rfl rfl <| WL.run to 2 rfl <| WL.sN 3 35 true rfl rfl <| WL.run to 2 rfl ?_
      cases a
      exact WL.done ⟨rfl, u⟩
     refine WL.kn 25 (cb (Bool.eq_false_iff.2 m)) <| WL.sN 3 25 true rfl rfl <| WL.run to 2 rfl <| WL.sN 3 30 true rfl rfl <| WL.run to 2 rfl <| WL.sN 3 35 true rfl rfl <| WL.run to 2 rfl ?_
     cases a
     exact WL.done ⟨rfl, t⟩
    refine WL.kn 20 (cb (Bool.eq_false_iff.2 l)) <| WL.sN 3 20 true rfl rfl <| WL.run to 2 rfl <| WL.sN 3 25 true rfl rfl <| WL.run to 2 rfl <| WL.sN 3 30 true rfl rfl <| WL.run to 2 rfl <| WL.sN 3 35 true rfl rfl <| WL.run to 2 rfl ?_
    cases a
    exact WL.done ⟨rfl, s⟩
   refine WL.kn 15 (cb (Bool.eq_false_iff.2 j)) <| WL.sN 3 15 true rfl rfl <| WL.run to 2 rfl <| WL.sN 3 20 true rfl rfl <| WL.run to 2 rfl <| WL.sN 3 25 true rfl rfl <| WL.run to 2 rfl <| WL.sN 3 30 true rfl rfl <| WL.run to 2 rfl ?_
   refine WL.sN 3 35 true rfl rfl <| WL.run to 2 rfl ?_
   cases a
   exact WL.done ⟨rfl, r⟩
  refine WL.kn 6 (cb (Bool.eq_false_iff.2 i)) <| WL.sN 7 6 true rfl rfl <| WL.run to 2 rfl <| WL.sN 3 15 true rfl rfl <| WL.run to 2 rfl <| WL.sN 3 20 true rfl rfl <| WL.run to 2 rfl <| WL.sN 3 25 true rfl rfl <| WL.run to 2 rfl ?_
  refine WL.sN 3 30 true rfl rfl <| WL.run to 2 rfl <| WL.sN 3 35 true rfl rfl <| WL.run to 2 rfl ?_
  cases a
  exact WL.done ⟨rfl, g⟩
 ·rintro h d ⟨L, O⟩
  apply kn h (.c L .n)
  refine W.ret ?_
  have Q : Cx [] := O.pick [] rfl
  have R := Option.some.inj H
  subst R
  exact rH (sE rfl rfl) ⟨rfl, Q⟩
def uC.l1 : Nat → bF → Int → Int → Option (Sum Unit ((List Int) × Bool))
  | 0, _, _, _ => none
  | k + 1, b, d, a => if a < (b.Eras.length : Int) then (if 0 ≤ a ∧ a < (b.Eras.length : Int) then (if ((b.Eras.getD a.toNat sD.z).Epoch) = d then (some (Sum.inr ((b.Eras.getD a.toNat sD.z).Nonce, true))) else (uC.l1 k b d (rB (a + 1)))) else none) else (some (Sum.inl ()))
def uC.f (k : Nat) (a : bF) (b : Int) : Option ((List Int) × Bool) := (uC.l1 k a b 0).bind fun d => vS d (fun _ => some ((List.replicate 32 (0 : Int)), false)) (fun e => some e)
theorem uC.calls (k w F ab U ao ac V O J A Q L B R) (b : bF) (T : Int) (hp : Pre w F []) (aO : ao = b.Eras.length) (aM : b.Eras.length ≤ U) (aN : U ≤ maxLen) (au : Sl sD.K F F ab b.Eras) (aI : O = b.Jobs.length) (aC : b.Jobs.length ≤ V) (aF : V ≤ maxLen) (ay : Sl bT.K F F ac b.Jobs) (aJ : Q = b.Used.length) (aD : b.Used.length ≤ A) (aG : A ≤ maxLen) (az : Sl KI F F J b.Used) (aK : R = b.Barred.length) (aE : b.Barred.length ≤ B) (aH : B ≤ maxLen) (aA : Sl Kd.bool F F L b.Barred) (S : List Int) (aa : Bool) (H : uC.f k b T = some (S, aa)) :
    Calls Tryz.prog 86 #[.agg (List.toArray (bF.q b ab ao U ac O V J Q A L R B)), iv T] w fun e w' => e = .returned (.tuple #[(.agg (List.toArray (S.map (Value.int .u8)))), (.bool aa)]) ∧ Ctx w F (sR []) w' F [] ∧ S.length = 32 := by
 have C := Ctx.start hp
 generalize hD : sR [] = D at C ⊢
 unfold uC.f at H
 refine Calls.ofW Tryz.func86 rfl (by simp [Tryz.ntmps86]) <| W.sr rfl ?_
 let I : LV := bF.q b ab ao U ac O V J Q A L R B
 obtain ⟨t, aP, am, ap⟩ := uR (P := Tryz.prog) 50 (.agg (List.toArray I)) I C rfl
 refine WL.val (am _ _ _ rfl) ?_
 obtain ⟨r, aQ, an, aq⟩ := sU (P := Tryz.prog) (e := 23) ((List.replicate 32 (0 : Int)).map (Value.int .u8)) ap D9 rfl
 refine WL.val (an _ _) <| WL.rd to 1 rfl <| W.seq <| W.sr rfl <| WL.rd to 1 rfl ?_
 obtain ⟨Z, a, H⟩ := rE H
 refine W.vG (fun l y => l 4 = pt r ∧ Ctx w F D y F [r0 r ((List.replicate 32 (0 : Int)).map (Value.int .u8)), r0 t I] ∧ Z = Sum.inl ()) ?_ ?_
 ·refine W.block <| W.loop (fun aj l y => ∃ (h : Int), Kn l [(1, iv T), (2, pt t), (4, pt r), (6, iv h)] ∧ Ctx w F D y F [r0 r ((List.replicate 32 (0 : Int)).map (Value.int .u8)), r0 t I] ∧ uC.l1 aj b T h = some Z) k ⟨0, rfl, aq, a⟩ ?_
  clear a
  rintro aj l y ⟨h, al, p, a⟩
  rcases aj with _ | av
  · exact absurd a (by simp [uC.l1])
  rw [uC.l1] at a
  apply ks l al
  refine W.seq <| W.sr rfl <| WL.run to 2 rfl <| WL.lv p 1 0 rfl rfl wG rfl rfl <| WL.ln (b.Eras.length : Int) rfl wG (by omega) <| WL.rd to 1 rfl ?_
  rcases rT a with ⟨x, a⟩ | ⟨x, a⟩
  ·refine W.cT x rfl <| W.skip <| W.seq <| W.block <| W.sr rfl <| WL.run to 1 rfl <| WL.lv p 1 0 rfl rfl wG rfl rfl <| WL.run to 1 rfl ?_
   obtain ⟨aB, a⟩ := rV a
   obtain ⟨aL, ax, E, X⟩ := au (by omega)
   refine WL.val (Yl.rW (i := h) rfl rfl E wG A6 (by omega)) <| WL.run to 1 rfl ?_
   obtain ⟨aw, Y, G⟩ := X h.toNat _ (getD_some (d := sD.z) (by omega))
   obtain ⟨rfl, m⟩ := sD.open Y
   refine WL.val (Yl.load (v := iv ((b.Eras.getD h.toNat sD.z).Epoch)) rfl u_3 rfl (((p.fro)).cell (G 0 _ rfl))) <| WL.rd to 2 rfl ?_
   rcases rT a with ⟨s, a⟩ | ⟨s, a⟩
   ·refine W.cT s rfl <| W.sr rfl <| WL.run to 1 rfl <| WL.lv p 1 0 rfl rfl wG rfl rfl <| WL.run to 1 rfl <| WL.val (Yl.rW (i := h) rfl rfl E wG A6 (by omega)) <| WL.run to 1 rfl <| WL.val (Yl.wC (cs := ((b.Eras.getD h.toNat sD.z).Nonce).map (Value.int .u8)) rfl zC rfl (uY yL (rL m)) (fun j u hu => by rw [vL, Nat.add_assoc]; exact ((p.fro)).cell (G (1 + j) _ (IL (zU 1 0 rfl (BO rfl)) hu)))) ?_
    refine WL.st p 0 0 (((b.Eras.getD h.toNat sD.z).Nonce).map (Value.int .u8)) rfl rfl rfl rfl (Put.all 32 (rL (List.length_replicate ..)) (rL m)) (wN _ _) (uY yL (rL m)) fun y (M : Cx [r0 r (((b.Eras.getD h.toNat sD.z).Nonce).map (Value.int .u8)), r0 t I]) => ?_
    refine WL.rd to 1 rfl <| W.ret ?_
    iterate 6 first | refine uX ?_ | refine rS ?_
    cases a
    replace H := wB H
    have ad : Cx [] := M.pick [] rfl
    obtain ⟨af, ag⟩ := sp H
    subst af ag
    exact rH (Au rfl ((.cell rfl (tS (g := r) (off := 0) (o := 0) (cs := ((b.Eras.getD h.toNat sD.z).Nonce).map (Value.int .u8)) (us := ((b.Eras.getD h.toNat sD.z).Nonce).map (Value.int .u8)) zC rfl (uY yL (rL m)) (Ctx.rO 0 M rfl) (xX _)) (.tmp rfl .nil))) rfl) ⟨rfl, ad, m⟩
   refine W.cF s rfl <| W.skip <| tH <| W.region rfl ?_
   exact WL.rd to 3 rfl <| rF ⟨av, Nat.lt_succ_self _, rB (h + 1), rfl, p, a⟩
  refine W.cF x rfl <| W.exit <| rM <| rM <| sL ?_
  cases a
  refine rF ?_
  exact ⟨rfl, p, rfl⟩
 ·rintro l y ⟨ak, ar, rfl⟩
  replace H := wI H
  apply kn l (.c ak .n)
  refine W.sr rfl <| WL.val (Yl.yS (cs := List.toArray ((List.replicate 32 (0 : Int)).map (Value.int .u8))) zC sz5 D9 (uV .nil) rfl) <| WL.st ar 0 0 ((List.replicate 32 (0 : Int)).map (Value.int .u8)) rfl rfl rfl rfl (Put.all 32 (rL (List.length_replicate ..)) (rL (List.length_replicate ..))) (wN _ _) (uY yL (rL (List.length_replicate ..))) fun y (N : Cx [r0 r ((List.replicate 32 (0 : Int)).map (Value.int .u8)), r0 t I]) => ?_
  refine WL.rd to 1 rfl <| W.ret ?_
  have ae : Cx [] := N.pick [] rfl
  obtain ⟨ah, ai⟩ := sp H
  subst ah ai
  exact rH (Au rfl ((.cell rfl (tS (g := r) (off := 0) (o := 0) (cs := (List.replicate 32 (0 : Int)).map (Value.int .u8)) (us := (List.replicate 32 (0 : Int)).map (Value.int .u8)) zC rfl (uY yL (rL (List.length_replicate ..))) (Ctx.rO 0 N rfl) (xX _)) (.tmp rfl .nil))) rfl) ⟨rfl, ae, (List.length_replicate ..)⟩
def tC.l1 : Nat → List Int → Int → Int → Option (Sum Unit Int)
  | 0, _, _, _ => none
  | k + 1, b, d, a => if a < (b.length : Int) then (if 0 ≤ a ∧ a < (b.length : Int) then (if (b.getD a.toNat 0) = d then (some (Sum.inr a)) else (tC.l1 k b d (rB (a + 1)))) else none) else (some (Sum.inl ()))
def tC.f (k : Nat) (a : List Int) (b : Int) : Option Int := (tC.l1 k a b 0).bind fun d => vS d (fun _ => some (-1)) (fun e => some e)
theorem tC.calls (k w F y t M) (j : List Int) (s : Int) (hp : Pre w F []) (aa : M = j.length) (Y : j.length ≤ t) (Z : t ≤ maxLen) (P : Sl KI F F y j) (x : Int) (H : tC.f k j s = some x) :
    Calls Tryz.prog 87 #[.slice y M t, iv s] w fun e w' => e = .returned (iv x) ∧ (∃ o, w' = w.drewN o) := by
 have C := Ctx.start hp
 generalize sR [] = D at C
 have R : ∃ o, w = w.drewN o := ⟨0, rfl⟩
 unfold tC.f at H
 refine Calls.ofW Tryz.func87 rfl (by simp [Tryz.ntmps87]) <| W.sr rfl <| WL.rd to 1 rfl <| W.seq <| W.sr rfl <| WL.rd to 1 rfl ?_
 obtain ⟨u, a, H⟩ := rE H
 refine W.vG (fun b p => Ctx w F D p F [] ∧ (∃ o, p = w.drewN o) ∧ u = Sum.inl ()) ?_ ?_
 ·refine W.block <| W.loop (fun B b p => ∃ (g : Int), Kn b [(0, .slice y M t), (1, iv s), (5, iv g)] ∧ Ctx w F D p F [] ∧ (∃ o, p = w.drewN o) ∧ tC.l1 B j s g = some u) k ⟨0, rfl, C, R, a⟩ ?_
  clear a
  rintro B b p ⟨g, I, r, h, a⟩
  rcases B with _ | Q
  · exact absurd a (by simp [tC.l1])
  rw [tC.l1] at a
  apply ks b I
  refine W.seq <| W.sr rfl <| WL.run to 2 rfl <| WL.ln (j.length : Int) rfl tM (by omega) <| WL.rd to 1 rfl ?_
  rcases rT a with ⟨l, a⟩ | ⟨l, a⟩
  ·refine W.cT l rfl <| W.skip <| W.seq <| W.block <| W.sr rfl <| WL.run to 2 rfl ?_
   obtain ⟨T, a⟩ := rV a
   obtain ⟨X, U, E, G⟩ := P (by omega)
   refine WL.val (Yl.rW (i := g) rfl rfl E tM sz3 (by omega)) ?_
   obtain ⟨S, J, L⟩ := G g.toNat _ (getD_some (d := 0) (by omega))
   obtain rfl := J
   refine WL.val (Yl.load (v := iv (j.getD g.toNat 0)) rfl u_3 rfl (((r.fro)).cell (L 0 _ rfl))) <| WL.rd to 2 rfl ?_
   rcases rT a with ⟨m, a⟩ | ⟨m, a⟩
   ·refine W.cT m rfl <| W.sr rfl <| WL.rd to 2 rfl <| W.ret ?_
    iterate 6 first | refine uX ?_ | refine rS ?_
    cases a
    replace H := wB H
    have N := Option.some.inj H
    subst N
    exact rH (sE rfl rfl) ⟨rfl, h⟩
   refine W.cF m rfl <| W.skip <| tH <| W.region rfl ?_
   exact WL.rd to 3 rfl <| rF ⟨Q, Nat.lt_succ_self _, rB (g + 1), rfl, r, h, a⟩
  refine W.cF l rfl <| W.exit <| rM <| rM <| sL ?_
  cases a
  refine rF ?_
  exact ⟨r, h, rfl⟩
 ·rintro b p ⟨V, A, rfl⟩
  replace H := wI H
  refine W.sr rfl <| WL.rd to 1 rfl <| W.ret ?_
  have O := Option.some.inj H
  subst O
  exact rH (sE rfl rfl) ⟨rfl, A⟩
def rY.l1 : Nat → rK → bT → Int → Option (Sum Unit Bool)
  | 0, _, _, _ => none
  | k + 1, d, b, a => if a < (rB ((rB (2 * d.Faulty)) + 1)) then (if 0 ≤ a ∧ a < (b.Workers.length : Int) then ((sQ.f k (b.Workers.getD a.toNat 0) 0 (rB (d.Workers - 1))).bind fun g => (if g = true then ((tC.f k b.Workers (b.Workers.getD a.toNat 0)).bind fun h => if h = a then (if 0 ≤ a ∧ a < (b.Indexes.length : Int) then (if 0 ≤ d.Height then ((sQ.f k (b.Indexes.getD a.toNat 0) 0 (rB ((vP .i64 1 d.Height) - 1))).bind fun i => some (!i)) else none) else none) else (some (true))) else (some (true))).bind fun e => if e = true then (some (Sum.inr false)) else (rY.l1 k d b (rB (a + 1)))) else none) else (some (Sum.inl ()))
def rY.l3 : Nat → bT → Int → Int → Option (Sum Unit Bool)
  | 0, _, _, _ => none
  | k + 1, d, b, a => if a < b then (if 0 ≤ a ∧ a < (d.rI.length : Int) then (if ((d.rI.getD a.toNat rA.z).Worker) = ((d.rI.getD b.toNat rA.z).Worker) then (some (Sum.inr false)) else (rY.l3 k d b (rB (a + 1)))) else none) else (some (Sum.inl ()))
def rY.l2 : Nat → bT → Int → Option (Sum Unit Bool)
  | 0, _, _ => none
  | k + 1, b, a => if a < (b.rI.length : Int) then (if 0 ≤ a ∧ a < (b.rI.length : Int) then ((tC.f k b.Workers ((b.rI.getD a.toNat rA.z).Worker)).bind fun e => (if e < 0 then (some (true)) else (some (decide ((((b.rI.getD a.toNat rA.z).Value).length : Int) > 32)))).bind fun d => if d = true then (some (Sum.inr false)) else ((rY.l3 k b a 0).bind fun g => vS g (fun _ => rY.l2 k b (rB (a + 1))) (fun h => some (Sum.inr h)))) else none) else (some (Sum.inl ()))
def rY.f (k : Nat) (b : rK) (v : bF) (a : bT) : Option Bool := (if (a.Payload.length : Int) > 64 then (some (true)) else ((sQ.f k a.Attempt 0 1099511627776).bind fun u => some (!u))).bind fun s => if s = true then (some false) else (if a.State = 1 then ((if a.Epoch = 0 then (if a.Until = 0 then (some (decide ((rB ((rB ((rB ((a.Workers.length : Int) + (a.Indexes.length : Int))) + (a.rI.length : Int))) + (a.Value.length : Int))) = 0))) else (some (false))) else (some (false))).bind fun t => some t) else ((if a.State = 2 then (some (false)) else (some (!decide (a.State = 3)))).bind fun e => if e = true then (some false) else ((uC.f k v a.Epoch).bind fun ⟨w, m⟩ => (if a.Attempt < 1 then (some (true)) else (if m = true then ((sQ.f k a.Until 1 1099511627776).bind fun o => if o = true then (if (a.Workers.length : Int) = (rB ((rB (2 * b.Faulty)) + 1)) then (if (a.Indexes.length : Int) = (rB ((rB (2 * b.Faulty)) + 1)) then (some (decide ((a.rI.length : Int) > (rB ((rB (2 * b.Faulty)) + 1))))) else (some (true))) else (some (true))) else (some (true))) else (some (true)))).bind fun g => if g = true then (some false) else ((rY.l1 k b a 0).bind fun j => vS j (fun _ => (rY.l2 k a 0).bind fun j => vS j (fun _ => (tA.f k a.rI b.Faulty).bind fun ⟨p, d⟩ => if a.State = 2 then ((if d = true then (some (false)) else (some (decide ((a.Value.length : Int) = 0)))).bind fun h => some h) else ((if d = true then ((sK.f k p a.Value).bind fun r => some (r)) else (some (false))).bind fun i => some i)) (fun l => some l)) (fun l => some l)))))
theorem rY.calls (k w F) (ab : rK) (bB bi cv bC bk a6 aW aL a7 aX aM a8) (Q : bF) (bb a0 bp ah af aj bc a1 bq aY aN a9 aZ aO ba) (h : bT) (hp : Pre w F []) (dW : cv = Q.Eras.length) (dU : Q.Eras.length ≤ bi) (dV : bi ≤ maxLen) (dT : Sl sD.K F F bB Q.Eras) (dp : a6 = Q.Jobs.length) (dd : Q.Jobs.length ≤ bk) (di : bk ≤ maxLen) (c7 : Sl bT.K F F bC Q.Jobs) (dq : a7 = Q.Used.length) (de : Q.Used.length ≤ aL) (dj : aL ≤ maxLen) (c8 : Sl KI F F aW Q.Used) (dr : a8 = Q.Barred.length) (df : Q.Barred.length ≤ aM) (dk : aM ≤ maxLen) (c9 : Sl Kd.bool F F aX Q.Barred) (es : bp = h.Payload.length) (eo : h.Payload.length ≤ a0) (eq : a0 ≤ maxLen) (en : Sl KB F F bb h.Payload) (bo : aj = h.Workers.length) (bm : h.Workers.length ≤ af) (bn : af ≤ maxLen) (aP : Sl KI F F ah h.Workers) (et : bq = h.Indexes.length) (ep : h.Indexes.length ≤ a1) (er : a1 ≤ maxLen) (da : Sl KI F F bc h.Indexes) (ds : a9 = h.rI.length) (dg : h.rI.length ≤ aN) (dl : aN ≤ maxLen) (bl : Sl rA.K F F aY h.rI) (dt : ba = h.Value.length) (dh : h.Value.length ≤ aO) (dm : aO ≤ maxLen) (db : Sl KB F F aZ h.Value) (cz : Bool) (H : rY.f k ab Q h = some cz) :
    Calls Tryz.prog 70 #[.agg (List.toArray (rK.q ab)), .agg (List.toArray (bF.q Q bB cv bi bC a6 bk aW a7 aL aX a8 aM)), .agg (List.toArray (bT.q h bb bp a0 ah aj af bc bq a1 aY a9 aN aZ ba aO))] w fun e w' => e = .returned (.bool cz) ∧ Ctx w F (sR []) w' F [] := by
 have C := Ctx.start hp
 generalize hD : sR [] = D at C ⊢
 unfold rY.f at H
 refine Calls.ofW Tryz.func70 rfl (by simp [Tryz.ntmps70]) <| W.sr rfl ?_
 let R : LV := rK.q ab
 obtain ⟨u, ex, dz, dJ⟩ := uR (P := Tryz.prog) 42 (.agg (List.toArray R)) R C rfl
 refine WL.val (dz _ _ _ rfl) ?_
 let S : LV := bF.q Q bB cv bi bC a6 bk aW a7 aL aX a8 aM
 obtain ⟨G, ey, dA, dK⟩ := uR (P := Tryz.prog) 50 (.agg (List.toArray S)) S dJ rfl
 refine WL.val (dA _ _ _ rfl) ?_
 let T : LV := bT.q h bb bp a0 ah aj af bc bq a1 aY a9 aN aZ ba aO
 obtain ⟨x, ez, dB, aK⟩ := uR (P := Tryz.prog) 63 (.agg (List.toArray T)) T dK rfl
 refine WL.val (dB _ _ _ rfl) <| WL.rd to 1 rfl <| W.seq <| W.sr rfl <| WL.run to 1 rfl <| WL.lv aK 0 0 rfl rfl tG rfl rfl <| WL.ln (h.Payload.length : Int) rfl tG (by omega) <| WL.run to 2 rfl ?_
 obtain ⟨dR, V, H⟩ := rE H
 refine WL.cut (fun a s => a 24 = .bool dR ∧ a 3 = pt u ∧ a 4 = pt G ∧ a 5 = pt x ∧ Ctx w F D s F [r0 x T, r0 G S, r0 u R]) ?_ ?_
 ·rcases rT V with ⟨aQ, V⟩ | ⟨aQ, V⟩
  ·refine WL.kn 19 (cb (decide_eq_true aQ)) <| WL.sN 4 19 false rfl rfl <| WL.run to 1 rfl ?_
   cases V
   exact WL.done ⟨rfl, rfl, rfl, rfl, aK⟩
  refine WL.kn 19 (cb (decide_eq_false aQ)) <| WL.run to 1 rfl <| WL.lvG aK 0 2 rfl rfl rfl rfl u_3 rfl rfl <| WL.on rfl rfl ?_
  obtain ⟨dX, dc, V⟩ := rE V
  refine WL.cq aK (sQ.calls k _ F h.Attempt 0 1099511627776 aK.tX  dX dc) (ne.fr rfl rfl) fun s dL => ?_
  refine WL.run to 2 rfl ?_
  cases V
  exact WL.done ⟨rfl, rfl, rfl, rfl, dL⟩
 ·rintro a s ⟨du, dv, dw, dx, I⟩
  apply kn a (.c du (.c dv (.c dw (.c dx .n))))
  rcases rT H with ⟨aR, H⟩ | ⟨aR, H⟩
  ·refine W.uI (cb aR) <| W.sr rfl <| WL.rd to 1 rfl <| W.ret <| rS ?_
   have dM : Cx [] := I.pick [] rfl
   have dP := Option.some.inj H
   subst dP
   exact rH (sE rfl rfl) ⟨rfl, dM⟩
  refine W.uD (cb (Bool.eq_false_iff.2 aR)) <| W.skip <| W.seq <| W.sr rfl <| WL.run to 1 rfl <| WL.lv I 0 1 rfl rfl u_3 rfl rfl <| WL.rd to 1 rfl ?_
  rcases rT H with ⟨aS, H⟩ | ⟨aS, H⟩
  ·refine W.cT aS rfl <| W.sr rfl <| WL.run to 1 rfl <| WL.lv I 0 3 rfl rfl u_3 rfl rfl <| WL.run to 2 rfl ?_
   obtain ⟨dS, N, H⟩ := rE H
   refine WL.cut (fun a s => a 6 = .bool dS ∧ Ctx w F D s F [r0 x T, r0 G S, r0 u R]) ?_ ?_
   ·rcases rT N with ⟨aT, N⟩ | ⟨aT, N⟩
    ·refine WL.kn 31 (cb (decide_eq_true aT)) <| WL.run to 1 rfl <| WL.lvG I 0 4 rfl rfl rfl rfl u_3 rfl rfl <| WL.run to 3 rfl ?_
     rcases rT N with ⟨aU, N⟩ | ⟨aU, N⟩
     ·refine WL.kn 36 (cb (decide_eq_true aU)) <| WL.run to 1 rfl <| WL.lvG I 0 5 rfl rfl rfl rfl tM rfl rfl <| WL.lnG (h.Workers.length : Int) rfl rfl rfl tM (by omega) <| WL.run to 1 rfl <| WL.lvG I 0 6 rfl rfl rfl rfl tM rfl rfl <| WL.lnG (h.Indexes.length : Int) rfl rfl rfl tM (by omega) <| WL.run to 2 rfl <| WL.lvG I 0 7 rfl rfl rfl rfl wD rfl rfl ?_
      refine WL.lnG (h.rI.length : Int) rfl rfl rfl wD (by omega) <| WL.run to 2 rfl <| WL.lvG I 0 8 rfl rfl rfl rfl tG rfl rfl <| WL.lnG (h.Value.length : Int) rfl rfl rfl tG (by omega) <| WL.run to 4 rfl ?_
      cases N
      exact WL.done ⟨rfl, I⟩
     refine WL.kn 36 (cb (decide_eq_false aU)) <| WL.sN 16 36 true rfl rfl <| WL.run to 2 rfl ?_
     cases N
     exact WL.done ⟨rfl, I⟩
    refine WL.kn 31 (cb (decide_eq_false aT)) <| WL.sN 3 31 true rfl rfl <| WL.run to 2 rfl <| WL.sN 16 36 true rfl rfl <| WL.run to 2 rfl ?_
    cases N
    exact WL.done ⟨rfl, I⟩
   ·rintro a s ⟨dy, dN⟩
    apply kn a (.c dy .n)
    refine W.ret <| rS ?_
    have dO : Cx [] := dN.pick [] rfl
    have dQ := Option.some.inj H
    subst dQ
    exact rH (sE rfl rfl) ⟨rfl, dO⟩
  refine W.cF aS rfl <| W.skip <| W.seq <| W.sr rfl <| WL.run to 1 rfl <| WL.lv I 0 1 rfl rfl u_3 rfl rfl <| WL.run to 2 rfl ?_
  obtain ⟨c1, Y, H⟩ := rE H
  refine WL.cut (fun a s => a 61 = .bool c1 ∧ a 3 = pt u ∧ a 4 = pt G ∧ a 5 = pt x ∧ Ctx w F D s F [r0 x T, r0 G S, r0 u R]) ?_ ?_
  ·rcases rT Y with ⟨am, Y⟩ | ⟨am, Y⟩
   ·refine WL.kn 57 (cb (wP am)) <| WL.sN 3 57 true rfl rfl <| WL.run to 1 rfl ?_
    cases Y
    exact WL.done ⟨rfl, rfl, rfl, rfl, I⟩
   refine WL.kn 57 (cb (wQ am)) <| WL.run to 1 rfl <| WL.lvG I 0 1 rfl rfl rfl rfl u_3 rfl rfl <| WL.run to 2 rfl ?_
   cases Y
   exact WL.done ⟨rfl, rfl, rfl, rfl, I⟩
  ·rintro a s ⟨bV, bW, bX, bY, ac⟩
   apply kn a (.c bV (.c bW (.c bX (.c bY .n))))
   rcases rT H with ⟨an, H⟩ | ⟨an, H⟩
   ·refine W.uI (cb an) <| W.sr rfl <| WL.rd to 1 rfl <| W.ret <| rS ?_
    have cB : Cx [] := ac.pick [] rfl
    have cS := Option.some.inj H
    subst cS
    exact rH (sE rfl rfl) ⟨rfl, cB⟩
   refine W.uD (cb (Bool.eq_false_iff.2 an)) <| W.skip <| W.sr rfl <| WL.run to 1 rfl <| WL.lv ac 2 0 rfl rfl u_3 rfl rfl <| WL.rd to 3 rfl <| W.sr rfl <| WL.la ac 1 rfl rfl wJ rfl wM <| WL.run to 1 rfl ?_
   refine WL.lv ac 0 3 rfl rfl u_3 rfl rfl ?_
   obtain ⟨⟨E, dF⟩, bJ, H⟩ := rE H
   refine WL.sI (uC.calls k _ F bB bi cv bC bk a6 aW aL a7 aX aM a8 Q h.Epoch ac.tX dW dU dV dT dp dd di c7 dq de dj c8 dr df dk c9 E dF bJ) (ne.fr rfl rfl) ?_
   rintro em s ⟨rfl, cC, a3⟩
   refine ⟨_, rfl, ?_⟩
   have cD : Cx [r0 x T, r0 G S, r0 u R] := Ctx.wS ac cC
   refine WL.run to 3 rfl ?_
   obtain ⟨J, ew, cu, cE⟩ := sU (P := Tryz.prog) (e := 23) ((List.replicate 32 (0 : Int)).map (Value.int .u8)) cD D9 rfl
   refine WL.val (cu _ _) <| WL.st cE 0 0 (E.map (Value.int .u8)) rfl rfl rfl rfl (Put.all 32 (rL (List.length_replicate ..)) (rL a3)) (wN _ _) (uY yL (rL a3)) fun s (ad : Cx [r0 J (E.map (Value.int .u8)), r0 x T, r0 G S, r0 u R]) => ?_
   refine WL.rd to 1 rfl <| W.seq <| W.sr rfl <| WL.run to 1 rfl <| WL.lv ad 1 2 rfl rfl u_3 rfl rfl <| WL.run to 2 rfl ?_
   obtain ⟨c2, g, H⟩ := rE H
   refine WL.cut (fun a s => a 106 = .bool c2 ∧ a 3 = pt u ∧ a 5 = pt x ∧ a 7 = iv (rB ((rB (2 * ab.Faulty)) + 1)) ∧ Ctx w F D s F [r0 J (E.map (Value.int .u8)), r0 x T, r0 G S, r0 u R]) ?_ ?_
   ·rcases rT g with ⟨ao, g⟩ | ⟨ao, g⟩
    ·refine WL.kn 76 (cb (decide_eq_true ao)) <| WL.sN 2 76 false rfl rfl <| WL.run to 2 rfl <| WL.sN 4 80 false rfl rfl <| WL.run to 2 rfl <| WL.sN 5 86 false rfl rfl <| WL.run to 2 rfl <| WL.sN 5 93 false rfl rfl <| WL.run to 2 rfl ?_
     refine WL.sN 5 100 false rfl rfl <| WL.run to 1 rfl ?_
     cases g
     exact WL.done ⟨rfl, rfl, rfl, rfl, ad⟩
    refine WL.kn 76 (cb (decide_eq_false ao)) <| WL.run to 4 rfl ?_
    rcases rT g with ⟨ap, g⟩ | ⟨ap, g⟩
    ·refine WL.kn 80 (cb (zP ap)) <| WL.run to 1 rfl <| WL.lvG ad 1 4 rfl rfl rfl rfl u_3 rfl rfl <| WL.on rfl rfl ?_
     obtain ⟨dG, bK, g⟩ := rE g
     refine WL.cq ad (sQ.calls k _ F h.Until 1 1099511627776 ad.tX  dG bK) (ne.fr rfl rfl) fun s U => ?_
     refine WL.run to 3 rfl ?_
     rcases rT g with ⟨aq, g⟩ | ⟨aq, g⟩
     ·refine WL.kn 86 (cb (zP aq)) <| WL.run to 1 rfl <| WL.lvG U 1 5 rfl rfl rfl rfl tM rfl rfl <| WL.lnG (h.Workers.length : Int) rfl rfl rfl tM (by omega) <| WL.run to 4 rfl ?_
      rcases rT g with ⟨ar, g⟩ | ⟨ar, g⟩
      ·refine WL.kn 93 (cb (wP ar)) <| WL.run to 1 rfl <| WL.lvG U 1 6 rfl rfl rfl rfl tM rfl rfl <| WL.lnG (h.Indexes.length : Int) rfl rfl rfl tM (by omega) <| WL.run to 4 rfl ?_
       rcases rT g with ⟨au, g⟩ | ⟨au, g⟩
       ·refine WL.kn 100 (cb (wP au)) <| WL.run to 1 rfl <| WL.lvG U 1 7 rfl rfl rfl rfl wD rfl rfl <| WL.lnG (h.rI.length : Int) rfl rfl rfl wD (by omega) <| WL.run to 3 rfl ?_
        cases g
        exact WL.done ⟨rfl, rfl, rfl, rfl, U⟩
       refine WL.kn 100 (cb (wQ au)) <| WL.sN 5 100 false rfl rfl <| WL.run to 1 rfl ?_
       cases g
       exact WL.done ⟨rfl, rfl, rfl, rfl, U⟩
      refine WL.kn 93 (cb (wQ ar)) <| WL.sN 5 93 false rfl rfl <| WL.run to 2 rfl <| WL.sN 5 100 false rfl rfl <| WL.run to 1 rfl ?_
      cases g
      exact WL.done ⟨rfl, rfl, rfl, rfl, U⟩
     refine WL.kn 86 (cb (zO aq)) <| WL.sN 5 86 false rfl rfl <| WL.run to 2 rfl <| WL.sN 5 93 false rfl rfl <| WL.run to 2 rfl <| WL.sN 5 100 false rfl rfl <| WL.run to 1 rfl ?_
     cases g
     exact WL.done ⟨rfl, rfl, rfl, rfl, U⟩
    refine WL.kn 80 (cb (zO ap)) <| WL.sN 4 80 false rfl rfl <| WL.run to 2 rfl <| WL.sN 5 86 false rfl rfl <| WL.run to 2 rfl <| WL.sN 5 93 false rfl rfl <| WL.run to 2 rfl <| WL.sN 5 100 false rfl rfl <| WL.run to 1 rfl ?_
    cases g
    exact WL.done ⟨rfl, rfl, rfl, rfl, ad⟩
   ·rintro a s ⟨bZ, b0, b1, b2, be⟩
    apply kn a (.c bZ (.c b0 (.c b1 (.c b2 .n))))
    rcases rT H with ⟨av, H⟩ | ⟨av, H⟩
    ·refine W.uI (cb av) <| W.sr rfl <| WL.rd to 1 rfl <| W.ret <| rS ?_
     have cG : Cx [] := be.pick [] rfl
     have cU := Option.some.inj H
     subst cU
     exact rH (sE rfl rfl) ⟨rfl, cG⟩
    refine W.uD (cb (Bool.eq_false_iff.2 av)) <| W.skip <| W.seq <| W.sr rfl <| WL.rd to 1 rfl ?_
    obtain ⟨bs, j, H⟩ := rE H
    refine W.vG (fun a s => Kn a [(3, pt u), (5, pt x)] ∧ Ctx w F D s F [r0 J (E.map (Value.int .u8)), r0 x T, r0 G S, r0 u R] ∧ bs = Sum.inl ()) ?_ ?_
    ·refine W.block <| W.loop (fun ai a s => ∃ (t : Int), Kn a [(3, pt u), (5, pt x), (7, iv (rB ((rB (2 * ab.Faulty)) + 1))), (10, iv t)] ∧ Ctx w F D s F [r0 J (E.map (Value.int .u8)), r0 x T, r0 G S, r0 u R] ∧ rY.l1 ai ab h t = some bs) k ⟨0, rfl, be, j⟩ ?_
     clear j
     rintro ai a s ⟨t, b4, B, j⟩
     rcases ai with _ | aJ
     · exact absurd j (by simp [rY.l1])
     rw [rY.l1] at j
     apply ks a b4
     refine W.seq <| W.sr rfl <| WL.rd to 3 rfl ?_
     rcases rT j with ⟨aw, j⟩ | ⟨aw, j⟩
     ·refine W.cT aw rfl <| W.skip <| W.seq <| W.block <| W.seq <| W.tY (by kernel_rfl) (by kernel_rfl) rfl ?_
      refine WQ.run to 1 rfl <| WQ.lv B 1 5 rfl rfl tM rfl rfl <| WQ.run to 1 rfl ?_
      obtain ⟨d4, j⟩ := rV j
      obtain ⟨ei, ee, a2, bH⟩ := aP (by omega)
      refine WQ.vl (fun _ => Yl.rW (i := t) rfl rfl a2 tM sz3 (by omega)) ?_
      obtain ⟨dY, cm, a5⟩ := bH t.toNat _ (getD_some (d := 0) (by omega))
      obtain rfl := cm
      refine WQ.vl (fun _ => Yl.load (v := iv (h.Workers.getD t.toNat 0)) rfl u_3 rfl ((((B.drewN _).fro)).cell (a5 0 _ rfl))) ?_
      refine WQ.run to 1 rfl <| WQ.lv B 3 1 rfl rfl u_3 rfl rfl <| WQ.run to 1 rfl ?_
      obtain ⟨bv, bL, j⟩ := rE j
      refine WQ.call (v := .bool bv) (f := 49) (args := #[iv (h.Workers.getD t.toNat 0), iv 0, iv (rB (ab.Workers - 1))]) (fun _ hw => by obtain ⟨_, rfl⟩ := hw; exact (ne.fr rfl rfl)) (fun _ hw => by obtain ⟨ak, rfl⟩ := hw; exact (sQ.calls aJ _ F (h.Workers.getD t.toNat 0) 0 (rB (ab.Workers - 1)) (B.drewN ak).tX  bv bL).mono (fun _ _ ⟨he, m_, hm_⟩ => ⟨he, ak + m_, by rw [hm_, World.drewN_drewN]⟩)) ?_
      refine WQ.run to 2 rfl ?_
      obtain ⟨c3, o, j⟩ := rE j
      refine WQ.cut (fun a => a 146 = .bool c3 ∧ a 3 = pt u ∧ a 5 = pt x ∧ a 7 = iv (rB ((rB (2 * ab.Faulty)) + 1)) ∧ a 10 = iv t) ?_ ?_
      ·rcases rT o with ⟨ax, o⟩ | ⟨ax, o⟩
       ·refine WQ.kn 122 (cb (zP ax)) <| WQ.run to 1 rfl <| WQ.lvG B 1 5 rfl rfl rfl rfl tM rfl rfl <| WQ.run to 1 rfl <| WQ.lvG B 1 5 rfl rfl rfl rfl tM rfl rfl <| WQ.run to 1 rfl <| WQ.vOn rfl rfl (fun _ => Yl.rW (i := t) rfl rfl a2 tM sz3 (by omega)) ?_
        refine WQ.vOn rfl rfl (fun _ => Yl.load (v := iv (h.Workers.getD t.toNat 0)) rfl u_3 rfl ((((B.drewN _).fro)).cell (a5 0 _ rfl))) ?_
        refine WQ.on rfl rfl ?_
        obtain ⟨bw, bM, o⟩ := rE o
        refine WQ.call (v := iv bw) (f := 87) (args := #[.slice ah aj af, iv (h.Workers.getD t.toNat 0)]) (fun _ hw => by obtain ⟨_, rfl⟩ := hw; exact (ne.fr rfl rfl)) (fun _ hw => by obtain ⟨ak, rfl⟩ := hw; exact (tC.calls aJ _ F ah af aj h.Workers (h.Workers.getD t.toNat 0) (B.drewN ak).tX bo bm bn aP bw bM).mono (fun _ _ ⟨he, m_, hm_⟩ => ⟨he, ak + m_, by rw [hm_, World.drewN_drewN]⟩)) ?_
        refine WQ.run to 4 rfl ?_
        rcases rT o with ⟨ay, o⟩ | ⟨ay, o⟩
        ·refine WQ.kn 134 (cb (wP ay)) <| WQ.run to 1 rfl <| WQ.lvG B 1 6 rfl rfl rfl rfl tM rfl rfl <| WQ.run to 1 rfl ?_
         obtain ⟨d5, o⟩ := rV o
         obtain ⟨ej, ef, bD, bI⟩ := da (by omega)
         refine WQ.vOn rfl rfl (fun _ => Yl.rW (i := t) rfl rfl bD tM sz3 (by omega)) ?_
         obtain ⟨dZ, co, cs⟩ := bI t.toNat _ (getD_some (d := 0) (by omega))
         obtain rfl := co
         refine WQ.vOn rfl rfl (fun _ => Yl.load (v := iv (h.Indexes.getD t.toNat 0)) rfl u_3 rfl ((((B.drewN _).fro)).cell (cs 0 _ rfl))) ?_
         refine WQ.run to 1 rfl <| WQ.lvG B 3 2 rfl rfl rfl rfl u_3 rfl rfl ?_
         obtain ⟨bG, o⟩ := rV o
         refine WQ.vOn rfl rfl (fun _ => Yl.shl (m := 1) (n := ab.Height) (r := vP .i64 1 ab.Height) rfl rfl bG rfl) ?_
         refine WQ.run to 1 rfl <| WQ.on rfl rfl ?_
         obtain ⟨bx, bN, o⟩ := rE o
         refine WQ.call (v := .bool bx) (f := 49) (args := #[iv (h.Indexes.getD t.toNat 0), iv 0, iv (rB ((vP .i64 1 ab.Height) - 1))]) (fun _ hw => by obtain ⟨_, rfl⟩ := hw; exact (ne.fr rfl rfl)) (fun _ hw => by obtain ⟨ak, rfl⟩ := hw; exact (sQ.calls aJ _ F (h.Indexes.getD t.toNat 0) 0 (rB ((vP .i64 1 ab.Height) - 1)) (B.drewN ak).tX  bx bN).mono (fun _ _ ⟨he, m_, hm_⟩ => ⟨he, ak + m_, by rw [hm_, World.drewN_drewN]⟩)) ?_
         refine WQ.run to 2 rfl ?_
         cases o
         exact WQ.done ⟨rfl, rfl, rfl, rfl, rfl⟩
        refine WQ.kn 134 (cb (wQ ay)) <| WQ.sN 11 134 false rfl rfl <| WQ.run to 1 rfl ?_
        cases o
        exact WQ.done ⟨rfl, rfl, rfl, rfl, rfl⟩
       refine WQ.kn 122 (cb (zO ax)) <| WQ.sN 10 122 false rfl rfl <| WQ.run to 2 rfl <| WQ.sN 11 134 false rfl rfl <| WQ.run to 1 rfl ?_
       cases o
       exact WQ.done ⟨rfl, rfl, rfl, rfl, rfl⟩
      ·rintro a ⟨b5, b6, b7, b8, b9⟩
       intro cw
       have bf := Ctx.drewN B cw
       apply kn a (.c b5 (.c b6 (.c b7 (.c b8 (.c b9 .n)))))
       rcases rT j with ⟨az, j⟩ | ⟨az, j⟩
       ·refine W.uI (cb az) <| W.sr rfl <| WL.rd to 1 rfl <| W.ret ?_
        iterate 6 first | refine uX ?_ | refine rS ?_
        cases j
        replace H := wB H
        have cI : Cx [] := bf.pick [] rfl
        have cV := Option.some.inj H
        subst cV
        exact rH (sE rfl rfl) ⟨rfl, cI⟩
       refine W.uD (cb (Bool.eq_false_iff.2 az)) <| W.skip <| tH <| W.region rfl ?_
       exact WL.rd to 3 rfl <| rF ⟨aJ, Nat.lt_succ_self _, rB (t + 1), rfl, bf, j⟩
     refine W.cF aw rfl <| W.exit <| rM <| rM <| sL ?_
     cases j
     refine rF ?_
     exact ⟨rfl, B, rfl⟩
    ·rintro a s ⟨b3, cH, rfl⟩
     replace H := wI H
     apply ks a b3
     refine W.seq <| W.sr rfl <| WL.rd to 1 rfl ?_
     obtain ⟨bt, b, H⟩ := rE H
     refine W.vG (fun a s => Kn a [(3, pt u), (5, pt x)] ∧ Ctx w F D s F [r0 J (E.map (Value.int .u8)), r0 x T, r0 G S, r0 u R] ∧ bt = Sum.inl ()) ?_ ?_
     ·refine W.block <| W.loop (fun ai a s => ∃ (y : Int), Kn a [(3, pt u), (5, pt x), (11, iv y)] ∧ Ctx w F D s F [r0 J (E.map (Value.int .u8)), r0 x T, r0 G S, r0 u R] ∧ rY.l2 ai h y = some bt) k ⟨0, rfl, cH, b⟩ ?_
      clear b
      rintro ai a s ⟨y, cc, L, b⟩
      rcases ai with _ | aV
      · exact absurd b (by simp [rY.l2])
      rw [rY.l2] at b
      apply ks a cc
      refine W.seq <| W.sr rfl <| WL.run to 2 rfl <| WL.lv L 1 7 rfl rfl wD rfl rfl <| WL.ln (h.rI.length : Int) rfl wD (by omega) <| WL.rd to 1 rfl ?_
      rcases rT b with ⟨aA, b⟩ | ⟨aA, b⟩
      ·refine W.cT aA rfl <| W.skip <| W.seq <| W.block <| W.seq <| W.seq <| W.tY (by kernel_rfl) (by kernel_rfl) rfl ?_
       refine WQ.run to 1 rfl <| WQ.lv L 1 5 rfl rfl tM rfl rfl <| WQ.run to 1 rfl <| WQ.lv L 1 7 rfl rfl wD rfl rfl <| WQ.run to 1 rfl ?_
       obtain ⟨d6, b⟩ := rV b
       obtain ⟨ek, eg, ag, a4⟩ := bl (by omega)
       refine WQ.vl (fun _ => Yl.rW (i := y) rfl rfl ag wD yM (by omega)) ?_
       refine WQ.run to 1 rfl ?_
       obtain ⟨d0, cp, aI⟩ := a4 y.toNat _ (getD_some (d := rA.z) (by omega))
       obtain ⟨bd, bj, br, rfl, ec, d8, ea, d2⟩ := rA.open cp
       refine WQ.vl (fun _ => Yl.load (v := iv ((h.rI.getD y.toNat rA.z).Worker)) rfl u_3 rfl ((((L.drewN _).fro)).cell (aI 0 _ rfl))) ?_
       obtain ⟨bz, bO, b⟩ := rE b
       refine WQ.call (v := iv bz) (f := 87) (args := #[.slice ah aj af, iv ((h.rI.getD y.toNat rA.z).Worker)]) (fun _ hw => by obtain ⟨_, rfl⟩ := hw; exact (ne.fr rfl rfl)) (fun _ hw => by obtain ⟨ak, rfl⟩ := hw; exact (tC.calls aV _ F ah af aj h.Workers ((h.rI.getD y.toNat rA.z).Worker) (L.drewN ak).tX bo bm bn aP bz bO).mono (fun _ _ ⟨he, m_, hm_⟩ => ⟨he, ak + m_, by rw [hm_, World.drewN_drewN]⟩)) ?_
       refine WQ.run to 2 rfl ?_
       obtain ⟨c4, Z, b⟩ := rE b
       refine WQ.cut (fun a => a 173 = .bool c4 ∧ a 3 = pt u ∧ a 5 = pt x ∧ a 11 = iv y) ?_ ?_
       ·rcases rT Z with ⟨aB, Z⟩ | ⟨aB, Z⟩
        ·refine WQ.kn 164 (cb (decide_eq_true aB)) <| WQ.sN 8 164 false rfl rfl <| WQ.run to 1 rfl ?_
         cases Z
         exact WQ.done ⟨rfl, rfl, rfl, rfl⟩
        refine WQ.kn 164 (cb (decide_eq_false aB)) <| WQ.run to 1 rfl <| WQ.lvG L 1 7 rfl rfl rfl rfl wD rfl rfl <| WQ.run to 1 rfl <| WQ.vOn rfl rfl (fun _ => Yl.rW (i := y) rfl rfl ag wD yM (by omega)) ?_
        refine WQ.run to 1 rfl <| WQ.vOn rfl rfl (fun _ => Yl.load (v := .slice bd br bj) rfl tG rfl ((((L.drewN _).fro)).cell (aI 1 _ rfl))) ?_
        refine WQ.vOn rfl rfl (fun _ => Yl.Bw (A := bd) (l := br) (q := bj) (n := (((h.rI.getD y.toNat rA.z).Value).length : Int)) rfl tG (by omega)) ?_
        refine WQ.run to 2 rfl ?_
        cases Z
        exact WQ.done ⟨rfl, rfl, rfl, rfl⟩
       ·rintro a ⟨cd, ce, cf, cg⟩
        intro cx
        have bg := Ctx.drewN L cx
        apply kn a (.c cd (.c ce (.c cf (.c cg .n))))
        rcases rT b with ⟨aC, b⟩ | ⟨aC, b⟩
        ·refine W.uI (cb aC) <| W.sr rfl <| WL.rd to 1 rfl <| W.ret ?_
         iterate 7 first | refine uX ?_ | refine rS ?_
         cases b
         replace H := wB H
         have cJ : Cx [] := bg.pick [] rfl
         have cW := Option.some.inj H
         subst cW
         exact rH (sE rfl rfl) ⟨rfl, cJ⟩
        refine W.uD (cb (Bool.eq_false_iff.2 aC)) <| W.skip <| W.sr rfl <| WL.rd to 1 rfl ?_
        obtain ⟨bu, p, b⟩ := rE b
        refine W.vG (fun a s => Kn a [(3, pt u), (5, pt x), (11, iv y)] ∧ Ctx w F D s F [r0 J (E.map (Value.int .u8)), r0 x T, r0 G S, r0 u R] ∧ bu = Sum.inl ()) ?_ ?_
        ·refine W.block <| W.loop (fun ai a s => ∃ (X : Int), Kn a [(3, pt u), (5, pt x), (11, iv y), (12, iv X)] ∧ Ctx w F D s F [r0 J (E.map (Value.int .u8)), r0 x T, r0 G S, r0 u R] ∧ rY.l3 ai h y X = some bu) aV ⟨0, rfl, bg, p⟩ ?_
         clear p
         rintro ai a s ⟨X, ci, ae, p⟩
         rcases ai with _ | dC
         · exact absurd p (by simp [rY.l3])
         rw [rY.l3] at p
         apply ks a ci
         refine W.seq <| W.sr rfl <| WL.rd to 3 rfl ?_
         rcases rT p with ⟨aD, p⟩ | ⟨aD, p⟩
         ·refine W.cT aD rfl <| W.skip <| W.seq <| W.block <| W.seq <| W.tY (by kernel_rfl) (by kernel_rfl) rfl ?_
          refine WQ.run to 1 rfl <| WQ.lv ae 1 7 rfl rfl wD rfl rfl <| WQ.run to 1 rfl ?_
          obtain ⟨d7, p⟩ := rV p
          refine WQ.vl (fun _ => Yl.rW (i := X) rfl rfl ag wD yM (by omega)) ?_
          refine WQ.run to 1 rfl ?_
          obtain ⟨d1, cr, ct⟩ := a4 X.toNat _ (getD_some (d := rA.z) (by omega))
          obtain ⟨eh, el, eu, rfl, ed, d9, eb, d3⟩ := rA.open cr
          refine WQ.vl (fun _ => Yl.load (v := iv ((h.rI.getD X.toNat rA.z).Worker)) rfl u_3 rfl ((((ae.drewN _).fro)).cell (ct 0 _ rfl))) ?_
          refine WQ.run to 1 rfl <| WQ.lv ae 1 7 rfl rfl wD rfl rfl <| WQ.run to 1 rfl <| WQ.vl (fun _ => Yl.rW (i := y) rfl rfl ag wD yM (by omega)) ?_
          refine WQ.run to 1 rfl <| WQ.vl (fun _ => Yl.load (v := iv ((h.rI.getD y.toNat rA.z).Worker)) rfl u_3 rfl ((((ae.drewN _).fro)).cell (aI 0 _ rfl))) ?_
          refine WQ.run to 1 rfl <| WQ.done (fun cy => ?_)
          have bh := Ctx.drewN ae cy
          rcases rT p with ⟨aE, p⟩ | ⟨aE, p⟩
          ·refine W.cT aE rfl <| W.sr rfl <| WL.rd to 1 rfl <| W.ret ?_
           iterate 11 first | refine uX ?_ | refine rS ?_
           cases p
           replace b := wB b
           cases b
           replace H := wB H
           have cL : Cx [] := bh.pick [] rfl
           have cX := Option.some.inj H
           subst cX
           exact rH (sE rfl rfl) ⟨rfl, cL⟩
          refine W.cF aE rfl <| W.skip <| tH <| W.region rfl ?_
          exact WL.rd to 3 rfl <| rF ⟨dC, Nat.lt_succ_self _, rB (X + 1), rfl, bh, p⟩
         refine W.cF aD rfl <| W.exit <| rM <| rM <| sL ?_
         cases p
         refine rF ?_
         exact ⟨rfl, ae, rfl⟩
        ·rintro a s ⟨ch, cK, rfl⟩
         replace b := wI b
         apply ks a ch
         refine tH <| W.region rfl ?_
         exact WL.rd to 3 rfl <| rF ⟨aV, Nat.lt_succ_self _, rB (y + 1), rfl, cK, b⟩
      refine W.cF aA rfl <| W.exit <| rM <| rM <| sL ?_
      cases b
      refine rF ?_
      exact ⟨rfl, L, rfl⟩
     ·rintro a s ⟨ca, al, rfl⟩
      replace H := wI H
      apply ks a ca
      refine W.sr rfl <| WL.run to 1 rfl <| WL.lv al 1 7 rfl rfl wD rfl rfl <| WL.run to 1 rfl <| WL.lv al 3 0 rfl rfl u_3 rfl rfl ?_
      obtain ⟨⟨bA, dH⟩, bP, H⟩ := rE H
      refine WL.sI (tA.calls k _ F aY aN a9 h.rI ab.Faulty al.tX ds dg dl bl bA dH bP) (ne.fr rfl rfl) ?_
      rintro em s ⟨cA, cR, dE, rfl, ⟨dD, rfl⟩, bU, bR, bS, bE⟩
      refine ⟨_, rfl, ?_⟩
      have O := Ctx.drewN al dD
      refine WL.rd to 5 rfl <| W.seq <| W.sr rfl <| WL.run to 1 rfl <| WL.lv O 1 1 rfl rfl u_3 rfl rfl <| WL.rd to 1 rfl ?_
      rcases rT H with ⟨aF, H⟩ | ⟨aF, H⟩
      ·refine W.cT aF rfl <| W.sr rfl <| WL.run to 3 rfl ?_
       obtain ⟨c5, aa, H⟩ := rE H
       refine WL.cut (fun a s => a 6 = .bool c5 ∧ Ctx w F D s F [r0 J (E.map (Value.int .u8)), r0 x T, r0 G S, r0 u R]) ?_ ?_
       ·rcases rT aa with ⟨aG, aa⟩ | ⟨aG, aa⟩
        ·refine WL.kn 205 (cb (zP aG)) <| WL.sN 4 205 true rfl rfl <| WL.run to 2 rfl ?_
         cases aa
         exact WL.done ⟨rfl, O⟩
        refine WL.kn 205 (cb (zO aG)) <| WL.run to 1 rfl <| WL.lvG O 1 8 rfl rfl rfl rfl tG rfl rfl <| WL.lnG (h.Value.length : Int) rfl rfl rfl tG (by omega) <| WL.run to 3 rfl ?_
        cases aa
        exact WL.done ⟨rfl, O⟩
       ·rintro a s ⟨cj, cM⟩
        apply kn a (.c cj .n)
        refine W.ret <| rS ?_
        have cN : Cx [] := cM.pick [] rfl
        have cY := Option.some.inj H
        subst cY
        exact rH (sE rfl rfl) ⟨rfl, cN⟩
      refine W.cF aF rfl <| W.skip <| W.sr rfl <| WL.run to 2 rfl ?_
      obtain ⟨c6, M, H⟩ := rE H
      refine WL.cut (fun a s => a 6 = .bool c6 ∧ Ctx w F D s F [r0 J (E.map (Value.int .u8)), r0 x T, r0 G S, r0 u R]) ?_ ?_
      ·rcases rT M with ⟨aH, M⟩ | ⟨aH, M⟩
       ·refine WL.kn 212 (cb aH) <| WL.run to 2 rfl <| WL.lvG O 1 8 rfl rfl rfl rfl tG rfl rfl <| WL.on rfl rfl ?_
        obtain ⟨dI, bQ, M⟩ := rE M
        refine WL.cq O (sK.calls k _ F cA cR dE bA aZ aO ba h.Value O.tX bU bR bS bE dt dh dm db dI bQ) (ne.fr rfl rfl) fun s cO => ?_
        refine WL.run to 2 rfl ?_
        cases M
        exact WL.done ⟨rfl, cO⟩
       refine WL.kn 212 (cb (Bool.eq_false_iff.2 aH)) <| WL.sN 4 212 true rfl rfl <| WL.run to 2 rfl ?_
       cases M
       exact WL.done ⟨rfl, O⟩
      ·rintro a s ⟨ck, cP⟩
       apply kn a (.c ck .n)
       refine W.ret ?_
       have cQ : Cx [] := cP.pick [] rfl
       have cZ := Option.some.inj H
       subst cZ
       exact rH (sE rfl rfl) ⟨rfl, cQ⟩
def rN.l1 : Nat → rK → bF → Int → Option (Sum Unit Bool)
  | 0, _, _, _ => none
  | k + 1, d, b, a => if a < (b.Used.length : Int) then (if 0 ≤ a ∧ a < (b.Used.length : Int) then (if 0 ≤ d.Height then ((sQ.f k (b.Used.getD a.toNat 0) 0 (vP .i64 1 d.Height)).bind fun e => if e = true then (rN.l1 k d b (rB (a + 1))) else (some (Sum.inr false))) else none) else none) else (some (Sum.inl ()))
def rN.l2 : Nat → bF → Int → Int → Option (Sum Unit Bool)
  | 0, _, _, _ => none
  | k + 1, b, e, a => if a < (b.Eras.length : Int) then (if 0 ≤ a ∧ a < (b.Eras.length : Int) then ((if ((b.Eras.getD a.toNat sD.z).Epoch) ≤ e then (some (true)) else (some (decide (((b.Eras.getD a.toNat sD.z).Epoch) > 1099511627776)))).bind fun d => if d = true then (some (Sum.inr false)) else (rN.l2 k b ((b.Eras.getD a.toNat sD.z).Epoch) (rB (a + 1)))) else none) else (some (Sum.inl ()))
def rN.l3 : Nat → rK → bF → Int → Option (Sum Unit Bool)
  | 0, _, _, _ => none
  | k + 1, e, b, a => if a < (b.Jobs.length : Int) then (if 0 ≤ a ∧ a < (b.Jobs.length : Int) then ((rY.f k e b (b.Jobs.getD a.toNat bT.z)).bind fun d => if d = true then (rN.l3 k e b (rB (a + 1))) else (some (Sum.inr false))) else none) else (some (Sum.inl ()))
def rN.f (k : Nat) (b : rK) (a : bF) : Option Bool := (if (a.Used.length : Int) = b.Workers then (if (a.Barred.length : Int) = b.Workers then (if 0 ≤ b.Heads then ((sQ.f k a.Heads 0 (vP .i64 1 b.Heads)).bind fun h => if h = true then (if (a.Eras.length : Int) > 256 then (some (true)) else (some (decide ((a.Jobs.length : Int) > b.Jobs)))) else (some (true))) else none) else (some (true))) else (some (true))).bind fun g => if g = true then (some false) else ((rN.l1 k b a 0).bind fun d => vS d (fun _ => (rN.l2 k a 0 0).bind fun d => vS d (fun _ => (rN.l3 k b a 0).bind fun d => vS d (fun _ => some true) (fun e => some e)) (fun e => some e)) (fun e => some e))
theorem rN.calls (k w F) (M : rK) (ay aw aP aA ax ak ai V al aj X am) (t : bF) (hp : Pre w F []) (cw : aP = t.Eras.length) (cu : t.Eras.length ≤ aw) (cv : aw ≤ maxLen) (bH : Sl sD.K F F ay t.Eras) (b7 : ak = t.Jobs.length) (b1 : t.Jobs.length ≤ ax) (b4 : ax ≤ maxLen) (aL : Sl bT.K F F aA t.Jobs) (b8 : al = t.Used.length) (b2 : t.Used.length ≤ V) (b5 : V ≤ maxLen) (aM : Sl KI F F ai t.Used) (b9 : am = t.Barred.length) (b3 : t.Barred.length ≤ X) (b6 : X ≤ maxLen) (bY : Sl Kd.bool F F aj t.Barred) (bJ : Bool) (H : rN.f k M t = some bJ) :
    Calls Tryz.prog 48 #[.agg (List.toArray (rK.q M)), .agg (List.toArray (bF.q t ay aP aw aA ak ax ai al V aj am X))] w fun e w' => e = .returned (.bool bJ) ∧ Ctx w F (sR []) w' F [] := by
 have C := Ctx.start hp
 generalize hD : sR [] = D at C ⊢
 unfold rN.f at H
 refine Calls.ofW Tryz.func48 rfl (by simp [Tryz.ntmps48]) <| W.sr rfl ?_
 let N : LV := rK.q M
 obtain ⟨x, cM, cg, cm⟩ := uR (P := Tryz.prog) 42 (.agg (List.toArray N)) N C rfl
 refine WL.val (cg _ _ _ rfl) ?_
 let O : LV := bF.q t ay aP aw aA ak ax ai al V aj am X
 obtain ⟨y, cN, ch, I⟩ := uR (P := Tryz.prog) 50 (.agg (List.toArray O)) O cm rfl
 refine WL.val (ch _ _ _ rfl) <| WL.rd to 1 rfl <| W.seq <| W.seq <| W.tY (by kernel_rfl) (by kernel_rfl) rfl ?_
 refine WQ.run to 1 rfl <| WQ.lv I 0 2 rfl rfl tM rfl rfl <| WQ.vl (fun _ => Yl.Bw (A := ai) (l := al) (q := V) (n := (t.Used.length : Int)) rfl tM (by omega)) ?_
 refine WQ.run to 1 rfl <| WQ.lv I 1 1 rfl rfl u_3 rfl rfl <| WQ.run to 2 rfl ?_
 obtain ⟨ct, p, H⟩ := rE H
 refine WQ.cut (fun a => a 45 = .bool ct ∧ a 2 = pt x ∧ a 3 = pt y) ?_ ?_
 ·rcases rT p with ⟨ao, p⟩ | ⟨ao, p⟩
  ·refine WQ.kn 15 (cb (wP ao)) <| WQ.run to 1 rfl <| WQ.lvG I 0 3 rfl rfl rfl rfl zH rfl rfl <| WQ.vOn rfl rfl (fun _ => Yl.Bw (A := aj) (l := am) (q := X) (n := (t.Barred.length : Int)) rfl zH (by omega)) ?_
   refine WQ.run to 1 rfl <| WQ.lvG I 1 1 rfl rfl rfl rfl u_3 rfl rfl <| WQ.run to 3 rfl ?_
   rcases rT p with ⟨ap, p⟩ | ⟨ap, p⟩
   ·refine WQ.kn 23 (cb (wP ap)) <| WQ.run to 1 rfl <| WQ.lvG I 0 4 rfl rfl rfl rfl u_3 rfl rfl <| WQ.run to 1 rfl <| WQ.lvG I 1 6 rfl rfl rfl rfl u_3 rfl rfl ?_
    obtain ⟨bZ, p⟩ := rV p
    refine WQ.vOn rfl rfl (fun _ => Yl.shl (m := 1) (n := M.Heads) (r := vP .i64 1 M.Heads) rfl rfl bZ rfl) ?_
    refine WQ.on rfl rfl ?_
    obtain ⟨bK, b0, p⟩ := rE p
    refine WQ.call (v := .bool bK) (f := 49) (args := #[iv t.Heads, iv 0, iv (vP .i64 1 M.Heads)]) (fun _ hw => by obtain ⟨_, rfl⟩ := hw; exact (ne.fr rfl rfl)) (fun _ hw => by obtain ⟨aV, rfl⟩ := hw; exact (sQ.calls k _ F t.Heads 0 (vP .i64 1 M.Heads) (I.drewN aV).tX  bK b0).mono (fun _ _ ⟨he, m_, hm_⟩ => ⟨he, aV + m_, by rw [hm_, World.drewN_drewN]⟩)) ?_
    refine WQ.run to 3 rfl ?_
    rcases rT p with ⟨aq, p⟩ | ⟨aq, p⟩
    ·refine WQ.kn 32 (cb (zP aq)) <| WQ.run to 1 rfl <| WQ.lvG I 0 0 rfl rfl rfl rfl wG rfl rfl <| WQ.vOn rfl rfl (fun _ => Yl.Bw (A := ay) (l := aP) (q := aw) (n := (t.Eras.length : Int)) rfl wG (by omega)) ?_
     refine WQ.run to 3 rfl ?_
     rcases rT p with ⟨ar, p⟩ | ⟨ar, p⟩
     ·refine WQ.kn 38 (cb (decide_eq_true ar)) <| WQ.sN 6 38 false rfl rfl <| WQ.run to 1 rfl ?_
      cases p
      exact WQ.done ⟨rfl, rfl, rfl⟩
     refine WQ.kn 38 (cb (decide_eq_false ar)) <| WQ.run to 1 rfl <| WQ.lvG I 0 1 rfl rfl rfl rfl wY rfl rfl <| WQ.vOn rfl rfl (fun _ => Yl.Bw (A := aA) (l := ak) (q := ax) (n := (t.Jobs.length : Int)) rfl wY (by omega)) ?_
     refine WQ.run to 1 rfl <| WQ.lvG I 1 4 rfl rfl rfl rfl u_3 rfl rfl <| WQ.run to 2 rfl ?_
     cases p
     exact WQ.done ⟨rfl, rfl, rfl⟩
    refine WQ.kn 32 (cb (zO aq)) <| WQ.sN 4 32 false rfl rfl <| WQ.run to 2 rfl <| WQ.sN 6 38 false rfl rfl <| WQ.run to 1 rfl ?_
    cases p
    exact WQ.done ⟨rfl, rfl, rfl⟩
   refine WQ.kn 23 (cb (wQ ap)) <| WQ.sN 7 23 false rfl rfl <| WQ.run to 2 rfl <| WQ.sN 4 32 false rfl rfl <| WQ.run to 2 rfl <| WQ.sN 6 38 false rfl rfl <| WQ.run to 1 rfl ?_
   cases p
   exact WQ.done ⟨rfl, rfl, rfl⟩
  refine WQ.kn 15 (cb (wQ ao)) <| WQ.sN 6 15 false rfl rfl <| WQ.run to 2 rfl <| WQ.sN 7 23 false rfl rfl <| WQ.run to 2 rfl <| WQ.sN 4 32 false rfl rfl <| WQ.run to 2 rfl <| WQ.sN 6 38 false rfl rfl <| WQ.run to 1 rfl ?_
  cases p
  exact WQ.done ⟨rfl, rfl, rfl⟩
 ·rintro a ⟨ca, cc, cd⟩
  intro cj
  have bG := Ctx.drewN I cj
  apply kn a (.c ca (.c cc (.c cd .n)))
  rcases rT H with ⟨au, H⟩ | ⟨au, H⟩
  ·refine W.uI (cb au) <| W.sr rfl <| WL.rd to 1 rfl <| W.ret <| rS ?_
   have co : Cx [] := bG.pick [] rfl
   have cr := Option.some.inj H
   subst cr
   exact rH (sE rfl rfl) ⟨rfl, co⟩
  refine W.uD (cb (Bool.eq_false_iff.2 au)) <| W.skip <| W.seq <| W.sr rfl <| WL.rd to 1 rfl ?_
  obtain ⟨bI, s, H⟩ := rE H
  refine W.vG (fun a E => Kn a [(2, pt x), (3, pt y)] ∧ Ctx w F D E F [r0 y O, r0 x N] ∧ bI = Sum.inl ()) ?_ ?_
  ·refine W.block <| W.loop (fun U a E => ∃ (Q : Int), Kn a [(2, pt x), (3, pt y), (5, iv Q)] ∧ Ctx w F D E F [r0 y O, r0 x N] ∧ rN.l1 U M t Q = some bI) k ⟨0, rfl, bG, s⟩ ?_
   clear s
   rintro U a E ⟨Q, cf, T, s⟩
   rcases U with _ | aN
   · exact absurd s (by simp [rN.l1])
   rw [rN.l1] at s
   apply ks a cf
   refine W.seq <| W.sr rfl <| WL.run to 2 rfl <| WL.lv T 0 2 rfl rfl tM rfl rfl <| WL.ln (t.Used.length : Int) rfl tM (by omega) <| WL.rd to 1 rfl ?_
   rcases rT s with ⟨aa, s⟩ | ⟨aa, s⟩
   ·refine W.cT aa rfl <| W.skip <| W.seq <| W.block <| W.seq <| W.tY (by kernel_rfl) (by kernel_rfl) rfl ?_
    refine WQ.run to 1 rfl <| WQ.lv T 0 2 rfl rfl tM rfl rfl <| WQ.run to 1 rfl ?_
    obtain ⟨cB, s⟩ := rV s
    obtain ⟨cI, cE, aZ, a7⟩ := aM (by omega)
    refine WQ.vl (fun _ => Yl.rW (i := Q) rfl rfl aZ tM sz3 (by omega)) ?_
    obtain ⟨cx, bz, bC⟩ := a7 Q.toNat _ (getD_some (d := 0) (by omega))
    obtain rfl := bz
    refine WQ.vl (fun _ => Yl.load (v := iv (t.Used.getD Q.toNat 0)) rfl u_3 rfl ((((T.drewN _).fro)).cell (bC 0 _ rfl))) ?_
    refine WQ.run to 1 rfl <| WQ.lv T 1 2 rfl rfl u_3 rfl rfl ?_
    obtain ⟨a6, s⟩ := rV s
    refine WQ.vl (fun _ => Yl.shl (m := 1) (n := M.Height) (r := vP .i64 1 M.Height) rfl rfl a6 rfl) ?_
    obtain ⟨aY, ba, s⟩ := rE s
    refine WQ.call (v := .bool aY) (f := 49) (args := #[iv (t.Used.getD Q.toNat 0), iv 0, iv (vP .i64 1 M.Height)]) (fun _ hw => by obtain ⟨_, rfl⟩ := hw; exact (ne.fr rfl rfl)) (fun _ hw => by obtain ⟨aV, rfl⟩ := hw; exact (sQ.calls aN _ F (t.Used.getD Q.toNat 0) 0 (vP .i64 1 M.Height) (T.drewN aV).tX  aY ba).mono (fun _ _ ⟨he, m_, hm_⟩ => ⟨he, aV + m_, by rw [hm_, World.drewN_drewN]⟩)) ?_
    refine WQ.run to 1 rfl <| WQ.done (fun bE => ?_)
    have aF := Ctx.drewN T bE
    rcases rT s with ⟨ab, s⟩ | ⟨ab, s⟩
    ·refine W.uD (cb (zP ab)) <| W.skip <| tH <| W.region rfl ?_
     exact WL.rd to 3 rfl <| rF ⟨aN, Nat.lt_succ_self _, rB (Q + 1), rfl, aF, s⟩
    refine W.uI (cb (zO ab)) <| W.sr rfl <| WL.rd to 1 rfl <| W.ret ?_
    iterate 6 first | refine uX ?_ | refine rS ?_
    cases s
    replace H := wB H
    have bL : Cx [] := aF.pick [] rfl
    have bS := Option.some.inj H
    subst bS
    exact rH (sE rfl rfl) ⟨rfl, bL⟩
   refine W.cF aa rfl <| W.exit <| rM <| rM <| sL ?_
   cases s
   refine rF ?_
   exact ⟨rfl, T, rfl⟩
  ·rintro a E ⟨ce, cp, rfl⟩
   replace H := wI H
   apply ks a ce
   refine W.sr rfl <| WL.rd to 1 rfl <| W.seq <| W.sr rfl <| WL.rd to 1 rfl ?_
   obtain ⟨aW, b, H⟩ := rE H
   refine W.vG (fun a E => Kn a [(2, pt x), (3, pt y)] ∧ Ctx w F D E F [r0 y O, r0 x N] ∧ aW = Sum.inl ()) ?_ ?_
   ·refine W.block <| W.loop (fun U a E => ∃ (av : Int) (B : Int), Kn a [(2, pt x), (3, pt y), (6, iv av), (7, iv B)] ∧ Ctx w F D E F [r0 y O, r0 x N] ∧ rN.l2 U t av B = some aW) k ⟨0, 0, rfl, cp, b⟩ ?_
    clear b
    rintro U a E ⟨av, B, bs, G, b⟩
    rcases U with _ | ci
    · exact absurd b (by simp [rN.l2])
    rw [rN.l2] at b
    apply ks a bs
    refine W.seq <| W.sr rfl <| WL.run to 2 rfl <| WL.lv G 0 0 rfl rfl wG rfl rfl <| WL.ln (t.Eras.length : Int) rfl wG (by omega) <| WL.rd to 1 rfl ?_
    rcases rT b with ⟨ac, b⟩ | ⟨ac, b⟩
    ·refine W.cT ac rfl <| W.skip <| W.seq <| W.block <| W.seq <| W.sr rfl <| WL.run to 1 rfl <| WL.lv G 0 0 rfl rfl wG rfl rfl <| WL.run to 1 rfl ?_
     obtain ⟨cC, b⟩ := rV b
     obtain ⟨cJ, cG, Z, a8⟩ := bH (by omega)
     refine WL.val (Yl.rW (i := B) rfl rfl Z wG A6 (by omega)) <| WL.run to 1 rfl ?_
     obtain ⟨cy, bA, ah⟩ := a8 B.toNat _ (getD_some (d := sD.z) (by omega))
     obtain ⟨rfl, cA⟩ := sD.open bA
     refine WL.val (Yl.load (v := iv ((t.Eras.getD B.toNat sD.z).Epoch)) rfl u_3 rfl (((G.fro)).cell (ah 0 _ rfl))) <| WL.run to 3 rfl ?_
     obtain ⟨bX, L, b⟩ := rE b
     refine WL.cut (fun a E => a 86 = .bool bX ∧ a 2 = pt x ∧ a 3 = pt y ∧ a 7 = iv B ∧ Ctx w F D E F [r0 y O, r0 x N]) ?_ ?_
     ·rcases rT L with ⟨ad, L⟩ | ⟨ad, L⟩
      ·refine WL.kn 78 (cb (decide_eq_true ad)) <| WL.sN 7 78 false rfl rfl <| WL.run to 1 rfl ?_
       cases L
       exact WL.done ⟨rfl, rfl, rfl, rfl, G⟩
      refine WL.kn 78 (cb (decide_eq_false ad)) <| WL.run to 1 rfl <| WL.lvG G 0 0 rfl rfl rfl rfl wG rfl rfl <| WL.run to 1 rfl <| WL.xC rfl rfl (Yl.rW (i := B) rfl rfl Z wG A6 (by omega)) <| WL.run to 1 rfl <| WL.xC rfl rfl (Yl.load (v := iv ((t.Eras.getD B.toNat sD.z).Epoch)) rfl u_3 rfl (((G.fro)).cell (ah 0 _ rfl))) <| WL.run to 2 rfl ?_
      cases L
      exact WL.done ⟨rfl, rfl, rfl, rfl, G⟩
     ·rintro a E ⟨bt, bu, bv, bw, Y⟩
      apply kn a (.c bt (.c bu (.c bv (.c bw .n))))
      rcases rT b with ⟨ae, b⟩ | ⟨ae, b⟩
      ·refine W.uI (cb ae) <| W.sr rfl <| WL.rd to 1 rfl <| W.ret ?_
       iterate 7 first | refine uX ?_ | refine rS ?_
       cases b
       replace H := wB H
       have bN : Cx [] := Y.pick [] rfl
       have bU := Option.some.inj H
       subst bU
       exact rH (sE rfl rfl) ⟨rfl, bN⟩
      refine W.uD (cb (Bool.eq_false_iff.2 ae)) <| W.skip <| W.region rfl ?_
      refine WL.run to 1 rfl <| WL.lv Y 0 0 rfl rfl wG rfl rfl <| WL.run to 1 rfl <| WL.val (Yl.rW (i := B) rfl rfl Z wG A6 (by omega)) <| WL.run to 1 rfl <| WL.val (Yl.load (v := iv ((t.Eras.getD B.toNat sD.z).Epoch)) rfl u_3 rfl (((Y.fro)).cell (ah 0 _ rfl))) <| WL.rd to 1 rfl <| tH <| W.region rfl ?_
      exact WL.rd to 3 rfl <| rF ⟨ci, Nat.lt_succ_self _, (t.Eras.getD B.toNat sD.z).Epoch, rB (B + 1), rfl, Y, b⟩
    refine W.cF ac rfl <| W.exit <| rM <| rM <| sL ?_
    cases b
    refine rF ?_
    exact ⟨rfl, G, rfl⟩
   ·rintro a E ⟨br, bM, rfl⟩
    replace H := wI H
    apply ks a br
    refine W.seq <| W.sr rfl <| WL.rd to 1 rfl ?_
    obtain ⟨aX, h, H⟩ := rE H
    refine W.vG (fun a E => Ctx w F D E F [r0 y O, r0 x N] ∧ aX = Sum.inl ()) ?_ ?_
    ·refine W.block <| W.loop (fun U a E => ∃ (J : Int), Kn a [(2, pt x), (3, pt y), (8, iv J)] ∧ Ctx w F D E F [r0 y O, r0 x N] ∧ rN.l3 U M t J = some aX) k ⟨0, rfl, bM, h⟩ ?_
     clear h
     rintro U a E ⟨J, bx, an, h⟩
     rcases U with _ | aO
     · exact absurd h (by simp [rN.l3])
     rw [rN.l3] at h
     apply ks a bx
     refine W.seq <| W.sr rfl <| WL.run to 2 rfl <| WL.lv an 0 1 rfl rfl wY rfl rfl <| WL.ln (t.Jobs.length : Int) rfl wY (by omega) <| WL.rd to 1 rfl ?_
     rcases rT h with ⟨af, h⟩ | ⟨af, h⟩
     ·refine W.cT af rfl <| W.skip <| W.seq <| W.block <| W.seq <| W.uF [([7], r0 x N), ([7], r0 y O), ([7], F)] (by kernel_rfl) ?_
      have R := Ctx.drewN an 1
      refine WA.sZ [(0, some 0), (1, some 1), (2, none), (3, some 1), (4, none), (5, none), (6, some 2)] ⟨(Ctx.rO 1 R rfl), (Ctx.rO 0 R rfl), (R.fro), trivial⟩ (by kernel_rfl) <| WT.val rfl (fun _ hC_ => Yl.xD (g := x) (off := 0) (o := 0) (cs := N) (us := N) rfl zZ rfl Ac (show Sub (r0 x N) _ from hC_) rfl) ?_
      refine WT.val rfl (fun _ hC_ => Yl.xD (g := y) (off := 0) (o := 0) (cs := O) (us := O) rfl wJ rfl wM (show Sub (r0 y O) _ from hC_) rfl) ?_
      refine WT.run to 1 rfl <| WT.lv 1 rfl rfl rfl wY rfl rfl <| WT.run to 1 rfl ?_
      obtain ⟨cD, h⟩ := rV h
      obtain ⟨cK, cH, a0, a9⟩ := aL (by omega)
      refine WT.val rfl (fun _ hC_ => Yl.rW (i := J) rfl rfl a0 wY yN (by omega)) ?_
      obtain ⟨cz, bB, bD⟩ := a9 J.toNat _ (getD_some (d := bT.z) (by omega))
      obtain ⟨az, aG, aQ, aB, aH, aR, aC, aI, aS, aD, aJ, aT, aE, aK, aU, rfl, bm, bc, bh, a1, bn, bd, bi, a2, bo, be, bj, a3, bp, bf, bk, a4, bq, bg, bl, a5⟩ := bT.open bB
      let cL : LV := (bT.q (t.Jobs.getD J.toNat bT.z) az aQ aG aB aR aH aC aS aI aD aT aJ aE aU aK)
      refine WT.val rfl (fun _ hC_ => Yl.wC (cs := cL) rfl xG rfl yN (fun j u hu => by rw [vL]; exact ((Sub.mono (show Sub F _ from hC_) (CH.le_refl _))).cell (bD _ _ hu))) ?_
      refine WT.done ?_
      obtain ⟨ck, bb, h⟩ := rE h
      refine WA.up1 7 (by kernel_rfl) (Up.sI rfl (by kernel_rfl) rfl (rY.calls aO _ F M ay aw aP aA ax ak ai V al aj X am t az aG aQ aB aH aR aC aI aS aD aJ aT aE aK aU (t.Jobs.getD J.toNat bT.z) R.tX cw cu cv bH b7 b1 b4 aL b8 b2 b5 aM b9 b3 b6 bY bm bc bh a1 bn bd bi a2 bo be bj a3 bp bf bk a4 bq bg bl a5 ck bb) (ne.fr rfl rfl) ?_)
      rintro cO E ⟨rfl, bP⟩
      have S : Cx [r0 y O, r0 x N] := Ctx.wS R bP
      refine ⟨_, rfl, ⟨trivial, trivial, trivial, trivial⟩, ?_⟩
      refine WA.sZ [(8, none)] ⟨(Ctx.rO 1 S rfl), (Ctx.rO 0 S rfl), (S.fro), trivial⟩ (by kernel_rfl) <| WT.run to 1 rfl <| WT.done <| WA.done (by kernel_rfl) ?_
      rcases rT h with ⟨ag, h⟩ | ⟨ag, h⟩
      ·refine W.uD (cb (zP ag)) <| W.skip <| tH <| W.region rfl ?_
       exact WL.rd to 3 rfl <| rF ⟨aO, Nat.lt_succ_self _, rB (J + 1), rfl, S, h⟩
      refine W.uI (cb (zO ag)) <| W.sr rfl <| WL.rd to 1 rfl <| W.ret ?_
      iterate 6 first | refine uX ?_ | refine rS ?_
      cases h
      replace H := wB H
      have bQ : Cx [] := S.pick [] rfl
      have bV := Option.some.inj H
      subst bV
      exact rH (sE rfl rfl) ⟨rfl, bQ⟩
     refine W.cF af rfl <| W.exit <| rM <| rM <| sL ?_
     cases h
     refine rF ?_
     exact ⟨an, rfl⟩
    ·rintro a E ⟨bO, rfl⟩
     replace H := wI H
     refine W.sr rfl <| WL.rd to 1 rfl <| W.ret ?_
     have bR : Cx [] := bO.pick [] rfl
     have bW := Option.some.inj H
     subst bW
     exact rH (sE rfl rfl) ⟨rfl, bR⟩
def sB.l1 : Nat → bF → bF → Int → Option (Sum Unit Bool)
  | 0, _, _, _ => none
  | k + 1, b, d, a => if a < (b.Barred.length : Int) then (if 0 ≤ a ∧ a < (b.Barred.length : Int) then (if 0 ≤ a ∧ a < (d.Barred.length : Int) then (if (b.Barred.getD a.toNat false) = (d.Barred.getD a.toNat false) then (sB.l1 k b d (rB (a + 1))) else (some (Sum.inr false))) else none) else none) else (some (Sum.inl ()))
def sB.l2 : Nat → bF → bF → Int → Option (Sum Unit Bool)
  | 0, _, _, _ => none
  | k + 1, b, d, a => if a < (b.Eras.length : Int) then (if 0 ≤ a ∧ a < (b.Eras.length : Int) then (if 0 ≤ a ∧ a < (d.Eras.length : Int) then (if ((b.Eras.getD a.toNat sD.z).Epoch) = ((d.Eras.getD a.toNat sD.z).Epoch) ∧ ((b.Eras.getD a.toNat sD.z).Nonce) = ((d.Eras.getD a.toNat sD.z).Nonce) then (sB.l2 k b d (rB (a + 1))) else (some (Sum.inr false))) else none) else none) else (some (Sum.inl ()))
def sB.l3 : Nat → bF → bF → Int → Option (Sum Unit Bool)
  | 0, _, _, _ => none
  | k + 1, b, d, a => if a < (b.Jobs.length : Int) then (if 0 ≤ a ∧ a < (b.Jobs.length : Int) then (if 0 ≤ a ∧ a < (d.Jobs.length : Int) then ((if ((b.Jobs.getD a.toNat bT.z).State) = ((d.Jobs.getD a.toNat bT.z).State) then (if ((b.Jobs.getD a.toNat bT.z).Attempt) = ((d.Jobs.getD a.toNat bT.z).Attempt) then (if ((b.Jobs.getD a.toNat bT.z).Epoch) = ((d.Jobs.getD a.toNat bT.z).Epoch) then (if ((b.Jobs.getD a.toNat bT.z).Until) = ((d.Jobs.getD a.toNat bT.z).Until) then ((sK.f k ((b.Jobs.getD a.toNat bT.z).Payload) ((d.Jobs.getD a.toNat bT.z).Payload)).bind fun g => if g = true then ((sK.f k ((b.Jobs.getD a.toNat bT.z).Value) ((d.Jobs.getD a.toNat bT.z).Value)).bind fun h => if h = true then ((tE.f k ((b.Jobs.getD a.toNat bT.z).Workers) ((d.Jobs.getD a.toNat bT.z).Workers)).bind fun i => if i = true then ((tE.f k ((b.Jobs.getD a.toNat bT.z).Indexes) ((d.Jobs.getD a.toNat bT.z).Indexes)).bind fun j => if j = true then ((tW.f k ((b.Jobs.getD a.toNat bT.z).rI) ((d.Jobs.getD a.toNat bT.z).rI)).bind fun l => some (!l)) else (some (true))) else (some (true))) else (some (true))) else (some (true))) else (some (true))) else (some (true))) else (some (true))) else (some (true))).bind fun e => if e = true then (some (Sum.inr false)) else (sB.l3 k b d (rB (a + 1)))) else none) else none) else (some (Sum.inl ()))
def sB.f (k : Nat) (a : bF) (b : bF) : Option Bool := (if a.Heads = b.Heads then ((tE.f k a.Used b.Used).bind fun h => if h = true then (if (a.Barred.length : Int) = (b.Barred.length : Int) then (if (a.Eras.length : Int) = (b.Eras.length : Int) then (some (!decide ((a.Jobs.length : Int) = (b.Jobs.length : Int)))) else (some (true))) else (some (true))) else (some (true))) else (some (true))).bind fun g => if g = true then (some false) else ((sB.l1 k a b 0).bind fun d => vS d (fun _ => (sB.l2 k a b 0).bind fun d => vS d (fun _ => (sB.l3 k a b 0).bind fun d => vS d (fun _ => some true) (fun e => some e)) (fun e => some e)) (fun e => some e))
theorem sB.calls (k w F dV dl eo dW dm cZ aO aG bp bt bb c1) (y : bF) (bu bc c2 bv bd c3 aZ aH bq bw be c4) (B : bF) (hp : Pre w F []) (fl : eo = y.Eras.length) (fj : y.Eras.length ≤ dl) (fk : dl ≤ maxLen) (ew : Sl sD.K F F dV y.Eras) (fe : cZ = y.Jobs.length) (e4 : y.Jobs.length ≤ dm) (e9 : dm ≤ maxLen) (d3 : Sl bT.K F F dW y.Jobs) (ef : bp = y.Used.length) (eb : y.Used.length ≤ aG) (ed : aG ≤ maxLen) (d4 : Sl KI F F aO y.Used) (ff : c1 = y.Barred.length) (e5 : y.Barred.length ≤ bb) (fa : bb ≤ maxLen) (d5 : Sl Kd.bool F F bt y.Barred) (fg : c2 = B.Eras.length) (e6 : B.Eras.length ≤ bc) (fb : bc ≤ maxLen) (d6 : Sl sD.K F F bu B.Eras) (fh : c3 = B.Jobs.length) (e7 : B.Jobs.length ≤ bd) (fc : bd ≤ maxLen) (d7 : Sl bT.K F F bv B.Jobs) (eg : bq = B.Used.length) (ec : B.Used.length ≤ aH) (ee : aH ≤ maxLen) (d8 : Sl KI F F aZ B.Used) (fi : c4 = B.Barred.length) (e8 : B.Barred.length ≤ be) (fd : be ≤ maxLen) (d9 : Sl Kd.bool F F bw B.Barred) (dU : Bool) (H : sB.f k y B = some dU) :
    Calls Tryz.prog 18 #[.agg (List.toArray (bF.q y dV eo dl dW cZ dm aO bp aG bt c1 bb)), .agg (List.toArray (bF.q B bu c2 bc bv c3 bd aZ bq aH bw c4 be))] w fun e w' => e = .returned (.bool dU) ∧ Ctx w F (sR []) w' F [] := by
 have C := Ctx.start hp
 generalize hD : sR [] = D at C ⊢
 unfold sB.f at H
 refine Calls.ofW Tryz.func18 rfl (by simp [Tryz.ntmps18]) <| W.sr rfl ?_
 let T : LV := bF.q y dV eo dl dW cZ dm aO bp aG bt c1 bb
 obtain ⟨s, fm, ek, ep⟩ := uR (P := Tryz.prog) 50 (.agg (List.toArray T)) T C rfl
 refine WL.val (ek _ _ _ rfl) ?_
 let U : LV := bF.q B bu c2 bc bv c3 bd aZ bq aH bw c4 be
 obtain ⟨x, fo, el, ah⟩ := uR (P := Tryz.prog) 50 (.agg (List.toArray U)) U ep rfl
 refine WL.val (el _ _ _ rfl) <| WL.rd to 1 rfl <| W.seq <| W.sr rfl <| WL.run to 1 rfl <| WL.lv ah 1 4 rfl rfl u_3 rfl rfl <| WL.run to 1 rfl <| WL.lv ah 0 4 rfl rfl u_3 rfl rfl <| WL.run to 2 rfl ?_
 obtain ⟨eu, r, H⟩ := rE H
 refine WL.cut (fun b A => b 49 = .bool eu ∧ b 2 = pt s ∧ b 3 = pt x ∧ Ctx w F D A F [r0 x U, r0 s T]) ?_ ?_
 ·rcases rT r with ⟨aJ, r⟩ | ⟨aJ, r⟩
  ·refine WL.kn 15 (cb (wP aJ)) <| WL.run to 1 rfl <| WL.lvG ah 1 2 rfl rfl rfl rfl tM rfl rfl <| WL.run to 1 rfl <| WL.lvG ah 0 2 rfl rfl rfl rfl tM rfl rfl <| WL.on rfl rfl ?_
   obtain ⟨eF, ea, r⟩ := rE r
   refine WL.cq ah (tE.calls k _ F aO aG bp y.Used aZ aH bq B.Used ah.tX ef eb ed d4 eg ec ee d8 eF ea) (ne.fr rfl rfl) fun A X => ?_
   refine WL.run to 3 rfl ?_
   rcases rT r with ⟨aK, r⟩ | ⟨aK, r⟩
   ·refine WL.kn 23 (cb (zP aK)) <| WL.run to 1 rfl <| WL.lvG X 1 3 rfl rfl rfl rfl zH rfl rfl <| WL.lnG (y.Barred.length : Int) rfl rfl rfl zH (by omega) <| WL.run to 1 rfl <| WL.lvG X 0 3 rfl rfl rfl rfl zH rfl rfl <| WL.lnG (B.Barred.length : Int) rfl rfl rfl zH (by omega) <| WL.run to 3 rfl ?_
    rcases rT r with ⟨aL, r⟩ | ⟨aL, r⟩
    ·refine WL.kn 32 (cb (wP aL)) <| WL.run to 1 rfl <| WL.lvG X 1 0 rfl rfl rfl rfl wG rfl rfl <| WL.lnG (y.Eras.length : Int) rfl rfl rfl wG (by omega) <| WL.run to 1 rfl <| WL.lvG X 0 0 rfl rfl rfl rfl wG rfl rfl <| WL.lnG (B.Eras.length : Int) rfl rfl rfl wG (by omega) <| WL.run to 3 rfl ?_
     rcases rT r with ⟨aM, r⟩ | ⟨aM, r⟩
     ·refine WL.kn 41 (cb (wP aM)) <| WL.run to 1 rfl <| WL.lvG X 1 1 rfl rfl rfl rfl wY rfl rfl <| WL.lnG (y.Jobs.length : Int) rfl rfl rfl wY (by omega) <| WL.run to 1 rfl <| WL.lvG X 0 1 rfl rfl rfl rfl wY rfl rfl <| WL.lnG (B.Jobs.length : Int) rfl rfl rfl wY (by omega) <| WL.run to 2 rfl ?_
      cases r
      exact WL.done ⟨rfl, rfl, rfl, X⟩
     refine WL.kn 41 (cb (wQ aM)) <| WL.sN 7 41 false rfl rfl <| WL.run to 1 rfl ?_
     cases r
     exact WL.done ⟨rfl, rfl, rfl, X⟩
    refine WL.kn 32 (cb (wQ aL)) <| WL.sN 7 32 false rfl rfl <| WL.run to 2 rfl <| WL.sN 7 41 false rfl rfl <| WL.run to 1 rfl ?_
    cases r
    exact WL.done ⟨rfl, rfl, rfl, X⟩
   refine WL.kn 23 (cb (zO aK)) <| WL.sN 7 23 false rfl rfl <| WL.run to 2 rfl <| WL.sN 7 32 false rfl rfl <| WL.run to 2 rfl <| WL.sN 7 41 false rfl rfl <| WL.run to 1 rfl ?_
   cases r
   exact WL.done ⟨rfl, rfl, rfl, X⟩
  refine WL.kn 15 (cb (wQ aJ)) <| WL.sN 6 15 false rfl rfl <| WL.run to 2 rfl <| WL.sN 7 23 false rfl rfl <| WL.run to 2 rfl <| WL.sN 7 32 false rfl rfl <| WL.run to 2 rfl <| WL.sN 7 41 false rfl rfl <| WL.run to 1 rfl ?_
  cases r
  exact WL.done ⟨rfl, rfl, rfl, ah⟩
 ·rintro b A ⟨eh, ei, ej, dT⟩
  apply kn b (.c eh (.c ei (.c ej .n)))
  rcases rT H with ⟨aN, H⟩ | ⟨aN, H⟩
  ·refine W.uI (cb aN) <| W.sr rfl <| WL.rd to 1 rfl <| W.ret <| rS ?_
   have eq : Cx [] := dT.pick [] rfl
   have et := Option.some.inj H
   subst et
   exact rH (sE rfl rfl) ⟨rfl, eq⟩
  refine W.uD (cb (Bool.eq_false_iff.2 aN)) <| W.skip <| W.seq <| W.sr rfl <| WL.rd to 1 rfl ?_
  obtain ⟨c5, l, H⟩ := rE H
  refine W.vG (fun b A => Kn b [(2, pt s), (3, pt x)] ∧ Ctx w F D A F [r0 x U, r0 s T] ∧ c5 = Sum.inl ()) ?_ ?_
  ·refine W.block <| W.loop (fun ai b A => ∃ (Q : Int), Kn b [(2, pt s), (3, pt x), (5, iv Q)] ∧ Ctx w F D A F [r0 x U, r0 s T] ∧ sB.l1 ai y B Q = some c5) k ⟨0, rfl, dT, l⟩ ?_
   clear l
   rintro ai b A ⟨Q, dB, Y, l⟩
   rcases ai with _ | em
   · exact absurd l (by simp [sB.l1])
   rw [sB.l1] at l
   apply ks b dB
   refine W.seq <| W.sr rfl <| WL.run to 2 rfl <| WL.lv Y 1 3 rfl rfl zH rfl rfl <| WL.ln (y.Barred.length : Int) rfl zH (by omega) <| WL.rd to 1 rfl ?_
   rcases rT l with ⟨aC, l⟩ | ⟨aC, l⟩
   ·refine W.cT aC rfl <| W.skip <| W.seq <| W.block <| W.seq <| W.tY (by kernel_rfl) (by kernel_rfl) rfl ?_
    refine WQ.run to 1 rfl <| WQ.lv Y 1 3 rfl rfl zH rfl rfl <| WQ.run to 1 rfl ?_
    obtain ⟨eM, l⟩ := rV l
    obtain ⟨e0, eS, ds, dw⟩ := d5 (by omega)
    refine WQ.vl (fun _ => Yl.rW (i := Q) rfl rfl ds zH sz4 (by omega)) ?_
    obtain ⟨eI, dE, dI⟩ := dw Q.toNat _ (getD_some (d := false) (by omega))
    obtain rfl := dE
    refine WQ.vl (fun _ => Yl.load (v := .bool (y.Barred.getD Q.toNat false)) rfl u_4 rfl ((((Y.drewN _).fro)).cell (dI 0 _ rfl))) ?_
    refine WQ.run to 1 rfl <| WQ.lv Y 0 3 rfl rfl zH rfl rfl <| WQ.run to 1 rfl ?_
    obtain ⟨eN, l⟩ := rV l
    obtain ⟨e1, eT, dt, dx⟩ := d9 (by omega)
    refine WQ.vl (fun _ => Yl.rW (i := Q) rfl rfl dt zH sz4 (by omega)) ?_
    obtain ⟨eJ, dF, dJ⟩ := dx Q.toNat _ (getD_some (d := false) (by omega))
    obtain rfl := dF
    refine WQ.vl (fun _ => Yl.load (v := .bool (B.Barred.getD Q.toNat false)) rfl u_4 rfl ((((Y.drewN _).fro)).cell (dJ 0 _ rfl))) ?_
    refine WQ.vl (fun _ => Yl.KF (p := y.Barred.getD Q.toNat false) (q := B.Barred.getD Q.toNat false) rfl rfl u_4) ?_
    refine WQ.done (fun dM => ?_)
    have bx := Ctx.drewN Y dM
    rcases rT l with ⟨aD, l⟩ | ⟨aD, l⟩
    ·refine W.nF aD rfl <| W.skip <| tH <| W.region rfl ?_
     exact WL.rd to 3 rfl <| rF ⟨em, Nat.lt_succ_self _, rB (Q + 1), rfl, bx, l⟩
    refine W.nT aD rfl <| W.sr rfl <| WL.rd to 1 rfl <| W.ret ?_
    iterate 6 first | refine uX ?_ | refine rS ?_
    cases l
    replace H := wB H
    have dY : Cx [] := bx.pick [] rfl
    have d1 := Option.some.inj H
    subst d1
    exact rH (sE rfl rfl) ⟨rfl, dY⟩
   refine W.cF aC rfl <| W.exit <| rM <| rM <| sL ?_
   cases l
   refine rF ?_
   exact ⟨rfl, Y, rfl⟩
  ·rintro b A ⟨dA, dX, rfl⟩
   replace H := wI H
   apply ks b dA
   refine W.seq <| W.sr rfl <| WL.rd to 1 rfl ?_
   obtain ⟨c6, m, H⟩ := rE H
   refine W.vG (fun b A => Kn b [(2, pt s), (3, pt x)] ∧ Ctx w F D A F [r0 x U, r0 s T] ∧ c6 = Sum.inl ()) ?_ ?_
   ·refine W.block <| W.loop (fun ai b A => ∃ (J : Int), Kn b [(2, pt s), (3, pt x), (6, iv J)] ∧ Ctx w F D A F [r0 x U, r0 s T] ∧ sB.l2 ai y B J = some c6) k ⟨0, rfl, dX, m⟩ ?_
    clear m
    rintro ai b A ⟨J, dD, Z, m⟩
    rcases ai with _ | en
    · exact absurd m (by simp [sB.l2])
    rw [sB.l2] at m
    apply ks b dD
    refine W.seq <| W.sr rfl <| WL.run to 2 rfl <| WL.lv Z 1 0 rfl rfl wG rfl rfl <| WL.ln (y.Eras.length : Int) rfl wG (by omega) <| WL.rd to 1 rfl ?_
    rcases rT m with ⟨aE, m⟩ | ⟨aE, m⟩
    ·refine W.cT aE rfl <| W.skip <| W.seq <| W.block <| W.seq <| W.tY (by kernel_rfl) (by kernel_rfl) rfl ?_
     refine WQ.run to 1 rfl <| WQ.lv Z 1 0 rfl rfl wG rfl rfl <| WQ.run to 1 rfl ?_
     obtain ⟨eO, m⟩ := rV m
     obtain ⟨e2, eU, du, dy⟩ := ew (by omega)
     refine WQ.vl (fun _ => Yl.rW (i := J) rfl rfl du wG A6 (by omega)) ?_
     obtain ⟨eK, dG, dK⟩ := dy J.toNat _ (getD_some (d := sD.z) (by omega))
     obtain ⟨rfl, aA⟩ := sD.open dG
     let eD : LV := [iv ((y.Eras.getD J.toNat sD.z).Epoch)] ++ (((y.Eras.getD J.toNat sD.z).Nonce).map (Value.int .u8))
     refine WQ.vl (fun _ => Yl.wC (cs := eD) rfl Dh rfl (uY A6 (tP rfl (rL aA))) (fun j u hu => by rw [vL]; exact (((Z.drewN _).fro)).cell (dK _ _ hu))) ?_
     refine WQ.run to 1 rfl <| WQ.lv Z 0 0 rfl rfl wG rfl rfl <| WQ.run to 1 rfl ?_
     obtain ⟨eP, m⟩ := rV m
     obtain ⟨e3, eV, dv, dz⟩ := d6 (by omega)
     refine WQ.vl (fun _ => Yl.rW (i := J) rfl rfl dv wG A6 (by omega)) ?_
     obtain ⟨eL, dH, dL⟩ := dz J.toNat _ (getD_some (d := sD.z) (by omega))
     obtain ⟨rfl, aB⟩ := sD.open dH
     let eE : LV := [iv ((B.Eras.getD J.toNat sD.z).Epoch)] ++ (((B.Eras.getD J.toNat sD.z).Nonce).map (Value.int .u8))
     refine WQ.vl (fun _ => Yl.wC (cs := eE) rfl Dh rfl (uY A6 (tP rfl (rL aB))) (fun j u hu => by rw [vL]; exact (((Z.drewN _).fro)).cell (dL _ _ hu))) ?_
     refine WQ.vl (fun _ => Yl.KR (n := 3) (xs := eD) (ys := eE) rfl rfl KQ (EqV.struct (n := 2) Dh Ld (Dk.cons (by decide) (zL.one (v := iv ((y.Eras.getD J.toNat sD.z).Epoch)) u_3 rfl rfl) (zL.one (v := iv ((B.Eras.getD J.toNat sD.z).Epoch)) u_3 rfl rfl) (EqV.le (EqV.int u_3) (by decide)) (Dk.one (by decide) (zL.agg zC rfl (uY yL (rL aA)) (zU 1 0 rfl (BO rfl))) (zL.agg zC rfl (uY yL (rL aB)) (zU 1 0 rfl (BO rfl))) (EqV.Eb zC u_5 sz5 aA aB)))) (by decide) rfl) ?_
     refine WQ.done (fun dN => ?_)
     have bz := Ctx.drewN Z dN
     rcases rT m with ⟨aF, m⟩ | ⟨aF, m⟩
     ·refine W.nF aF rfl <| W.skip <| tH <| W.region rfl ?_
      exact WL.rd to 3 rfl <| rF ⟨en, Nat.lt_succ_self _, rB (J + 1), rfl, bz, m⟩
     refine W.nT aF rfl <| W.sr rfl <| WL.rd to 1 rfl <| W.ret ?_
     iterate 6 first | refine uX ?_ | refine rS ?_
     cases m
     replace H := wB H
     have d0 : Cx [] := bz.pick [] rfl
     have d2 := Option.some.inj H
     subst d2
     exact rH (sE rfl rfl) ⟨rfl, d0⟩
    refine W.cF aE rfl <| W.exit <| rM <| rM <| sL ?_
    cases m
    refine rF ?_
    exact ⟨rfl, Z, rfl⟩
   ·rintro b A ⟨dC, dZ, rfl⟩
    replace H := wI H
    apply ks b dC
    refine W.seq <| W.sr rfl <| WL.rd to 1 rfl ?_
    obtain ⟨br, g, H⟩ := rE H
    refine W.vG (fun b A => Ctx w F D A F [r0 x U, r0 s T] ∧ br = Sum.inl ()) ?_ ?_
    ·refine W.block <| W.loop (fun ai b A => ∃ (h : Int), Kn b [(2, pt s), (3, pt x), (7, iv h)] ∧ Ctx w F D A F [r0 x U, r0 s T] ∧ sB.l3 ai y B h = some br) k ⟨0, rfl, dZ, g⟩ ?_
     clear g
     rintro ai b A ⟨h, cy, aw, g⟩
     rcases ai with _ | V
     · exact absurd g (by simp [sB.l3])
     rw [sB.l3] at g
     apply ks b cy
     refine W.seq <| W.sr rfl <| WL.run to 2 rfl <| WL.lv aw 1 1 rfl rfl wY rfl rfl <| WL.ln (y.Jobs.length : Int) rfl wY (by omega) <| WL.rd to 1 rfl ?_
     rcases rT g with ⟨aj, g⟩ | ⟨aj, g⟩
     ·refine W.cT aj rfl <| W.skip <| W.seq <| W.block <| W.seq <| W.uF [([12, 13], r0 s T), ([13], F), ([13], r0 x U)] (by kernel_rfl) ?_
      have ae := Ctx.drewN aw 1
      refine WA.sZ [(0, none), (1, some 0), (2, none), (3, none), (4, some 1), (5, none), (6, some 2), (7, none), (8, none), (9, some 1)] ⟨(Ctx.rO 1 ae rfl), (ae.fro), (Ctx.rO 0 ae rfl), trivial⟩ (by kernel_rfl) <| WT.run to 1 rfl <| WT.lv 1 rfl rfl rfl wY rfl rfl <| WT.run to 1 rfl ?_
      obtain ⟨ez, g⟩ := rV g
      obtain ⟨eG, eB, bA, bR⟩ := d3 (by omega)
      refine WT.val rfl (fun _ hC_ => Yl.rW (i := h) rfl rfl bA wY yN (by omega)) ?_
      obtain ⟨er, cQ, cS⟩ := bR h.toNat _ (getD_some (d := bT.z) (by omega))
      obtain ⟨aP, a1, bf, aQ, a2, bg, aR, a3, bh, aS, a4, bi, aT, a5, bj, rfl, ck, bZ, b9, bC, cm, b0, ca, bD, co, b1, cc, bE, cp, b2, cd, bG, cr, b3, ce, bH⟩ := bT.open cQ
      let aI : LV := (bT.q (y.Jobs.getD h.toNat bT.z) aP bf a1 aQ bg a2 aR bh a3 aS bi a4 aT bj a5)
      refine WT.val rfl (fun _ hC_ => Yl.wC (cs := aI) rfl xG rfl yN (fun j u hu => by rw [vL]; exact ((Sub.mono (show Sub F _ from hC_) (CH.le_refl _))).cell (cS _ _ hu))) ?_
      refine WT.run to 1 rfl <| WT.lv 1 rfl rfl rfl wY rfl rfl <| WT.run to 1 rfl ?_
      obtain ⟨eA, g⟩ := rV g
      obtain ⟨eH, eC, bB, bS⟩ := d7 (by omega)
      refine WT.val rfl (fun _ hC_ => Yl.rW (i := h) rfl rfl bB wY yN (by omega)) ?_
      obtain ⟨es, cR, cU⟩ := bS h.toNat _ (getD_some (d := bT.z) (by omega))
      obtain ⟨aU, a6, bk, aV, a7, bl, aW, a8, bm, aX, a9, bn, aY, ba, bo, rfl, ct, b4, cf, bI, cu, b5, cg, bJ, cv, b6, ch, bK, cw, b7, ci, bL, cx, b8, cj, bM⟩ := bT.open cR
      let bs : LV := (bT.q (B.Jobs.getD h.toNat bT.z) aU bk a6 aV bl a7 aW bm a8 aX bn a9 aY bo ba)
      refine WT.val rfl (fun _ hC_ => Yl.wC (cs := bs) rfl xG rfl yN (fun j u hu => by rw [vL]; exact ((Sub.mono (show Sub F _ from hC_) (CH.le_refl _))).cell (cU _ _ hu))) ?_
      refine WT.done ?_
      let av : LV := [.slice none 0 0, iv 0, iv 0, iv 0, iv 0, .slice none 0 0, .slice none 0 0, .slice none 0 0, .slice none 0 0]
      refine WA.par (fun L_ b A => ∃ N R O S, Ctx w F D A F [R, S, r0 x U, r0 s T] ∧ b 2 = pt s ∧ b 3 = pt x ∧ b 7 = iv h ∧ b 97 = .agg (List.toArray aI) ∧ b 102 = .agg (List.toArray bs) ∧ cond (L_ 10) (b 8 = pt N ∧ R = r0 N av) (True) ∧ cond (L_ 11) (b 9 = pt O ∧ S = r0 O av) (True)) [(10, [], []), (11, [], [])] [0, 1, 2, 3, 4, 5, 6, 7, 8, 9] [0, 1, 2, 3, 4, 5, 6, 7, 8, 9, 10, 11] #[true, true, true, true, true, true, true, true, true, true, true, true, false, false] 2 2 (by kernel_rfl) ?_ (.cons ?_ (.cons ?_ .nil)) ?_
      ·have c8 := Ctx.emp ae
       have c9 := Ctx.emp c8
       exact ⟨0, CH.emp, 0, CH.emp, c9, rfl, rfl, rfl, rfl, rfl, (iF rfl trivial), (iF rfl trivial)⟩
      ·intro L_ b A hk_ hI_
       obtain ⟨eQ, _⟩ := hk_
       obtain ⟨N, R, O, S, da, cz, cA, cB, cC, cD, ex, bN⟩ := hI_
       obtain ⟨ay, eW, cV, af⟩ := sU (P := Tryz.prog) (e := 63) av da Cv rfl
       refine UpI.val rfl rfl (cV _ _) ⟨(Ctx.rO 4 af rfl), (af.fro), (Ctx.rO 3 af rfl), trivial⟩ ?_
       have db : Cx [r0 ay av, S, r0 x U, r0 s T] := af.pick [0, 2, 3, 4] rfl
       exact ⟨ay, (r0 ay av), O, S, db, cz, cA, cB, cC, cD, (iT rfl ⟨rfl, rfl⟩), bN⟩
      ·intro L_ b A hk_ hI_
       obtain ⟨eR, _⟩ := hk_
       obtain ⟨N, R, O, S, dc, cE, cG, cH, cI, cJ, bO, ey⟩ := hI_
       obtain ⟨az, eX, cW, ag⟩ := sU (P := Tryz.prog) (e := 63) av dc Cv rfl
       refine UpI.val rfl rfl (cW _ _) ⟨(Ctx.rO 4 ag rfl), (ag.fro), (Ctx.rO 3 ag rfl), trivial⟩ ?_
       have dd : Cx [R, r0 az av, r0 x U, r0 s T] := ag.pick [1, 0, 3, 4] rfl
       exact ⟨N, R, az, (r0 az av), dd, cE, cG, cH, cI, cJ, bO, (iT rfl ⟨rfl, rfl⟩)⟩
      ·rintro b A ⟨N, R, O, S, de, E, G, I, cK, cL, bP, bQ⟩
       obtain ⟨L, rfl⟩ := cT rfl bP
       obtain ⟨M, rfl⟩ := cT rfl bQ
       obtain ⟨eY, cX, df⟩ := vH (P := Tryz.prog) (ps1 := []) (ps2 := [r0 O av, r0 x U, r0 s T]) (t := 63) 0 aI (.agg (List.toArray aI)) de rfl rfl (rR rfl) yN
       have ax : Cx [r0 N aI, r0 O av, r0 x U, r0 s T] := df
       refine WA.up1 12 (by kernel_rfl) (Up.skip rfl rfl (cX _ _ _ _ L cK) ⟨trivial, (ax.fro), (Ctx.rO 2 ax rfl), trivial⟩ ?_)
       obtain ⟨eZ, cY, dg⟩ := vH (P := Tryz.prog) (ps1 := [r0 N aI]) (ps2 := [r0 x U, r0 s T]) (t := 63) 0 bs (.agg (List.toArray bs)) ax rfl rfl (rR rfl) yN
       have o : Cx [r0 N aI, r0 O bs, r0 x U, r0 s T] := dg
       refine WA.up1 13 (by kernel_rfl) (Up.skip rfl rfl (cY _ _ _ _ M cL) ⟨trivial, trivial, trivial, trivial⟩ ?_)
       refine WA.done (by kernel_rfl) <| W.sr rfl <| WL.val (Yl.fieldAddr (i := 1) L xG rfl sz3) <| WL.lv o 0 1 rfl rfl u_3 rfl rfl <| WL.val (Yl.fieldAddr (i := 1) M xG rfl sz3) <| WL.lv o 1 1 rfl rfl u_3 rfl rfl <| WL.run to 2 rfl ?_
       obtain ⟨dr, a, g⟩ := rE g
       refine WL.cut (fun b A => b 168 = .bool dr ∧ b 2 = pt s ∧ b 3 = pt x ∧ b 7 = iv h ∧ Ctx w F D A F [r0 N aI, r0 O bs, r0 x U, r0 s T]) ?_ ?_
       ·rcases rT a with ⟨ak, a⟩ | ⟨ak, a⟩
        ·refine WL.kn 108 (cb (wP ak)) <| WL.xC rfl rfl (Yl.fieldAddr (i := 2) L xG rfl sz3) <| WL.lvG o 0 2 rfl rfl rfl rfl u_3 rfl rfl <| WL.xC rfl rfl (Yl.fieldAddr (i := 2) M xG rfl sz3) <| WL.lvG o 1 2 rfl rfl rfl rfl u_3 rfl rfl <| WL.run to 3 rfl ?_
         rcases rT a with ⟨al, a⟩ | ⟨al, a⟩
         ·refine WL.kn 115 (cb (wP al)) <| WL.xC rfl rfl (Yl.fieldAddr (i := 3) L xG rfl sz3) <| WL.lvG o 0 3 rfl rfl rfl rfl u_3 rfl rfl <| WL.xC rfl rfl (Yl.fieldAddr (i := 3) M xG rfl sz3) <| WL.lvG o 1 3 rfl rfl rfl rfl u_3 rfl rfl <| WL.run to 3 rfl ?_
          rcases rT a with ⟨am, a⟩ | ⟨am, a⟩
          ·refine WL.kn 122 (cb (wP am)) <| WL.xC rfl rfl (Yl.fieldAddr (i := 4) L xG rfl sz3) <| WL.lvG o 0 4 rfl rfl rfl rfl u_3 rfl rfl <| WL.xC rfl rfl (Yl.fieldAddr (i := 4) M xG rfl sz3) <| WL.lvG o 1 4 rfl rfl rfl rfl u_3 rfl rfl <| WL.run to 3 rfl ?_
           rcases rT a with ⟨an, a⟩ | ⟨an, a⟩
           ·refine WL.kn 129 (cb (wP an)) <| WL.xC rfl rfl (Yl.fieldAddr (i := 0) L xG rfl AP) <| WL.lvG o 0 0 rfl rfl rfl rfl tG rfl rfl <| WL.xC rfl rfl (Yl.fieldAddr (i := 0) M xG rfl AP) <| WL.lvG o 1 0 rfl rfl rfl rfl tG rfl rfl <| WL.on rfl rfl ?_
            obtain ⟨dO, bU, a⟩ := rE a
            refine WL.cq o (sK.calls V _ F aP a1 bf ((y.Jobs.getD h.toNat bT.z).Payload) aU a6 bk ((B.Jobs.getD h.toNat bT.z).Payload) o.tX ck bZ b9 bC ct b4 cf bI dO bU) (ne.fr rfl rfl) fun A aa => ?_
            refine WL.run to 3 rfl ?_
            rcases rT a with ⟨ao, a⟩ | ⟨ao, a⟩
            ·refine WL.kn 137 (cb (zP ao)) <| WL.xC rfl rfl (Yl.fieldAddr (i := 8) L xG rfl AP) <| WL.lvG aa 0 8 rfl rfl rfl rfl tG rfl rfl <| WL.xC rfl rfl (Yl.fieldAddr (i := 8) M xG rfl AP) <| WL.lvG aa 1 8 rfl rfl rfl rfl tG rfl rfl <| WL.on rfl rfl ?_
             obtain ⟨dP, bV, a⟩ := rE a
             refine WL.cq aa (sK.calls V _ F aT a5 bj ((y.Jobs.getD h.toNat bT.z).Value) aY ba bo ((B.Jobs.getD h.toNat bT.z).Value) aa.tX cr b3 ce bH cx b8 cj bM dP bV) (ne.fr rfl rfl) fun A ab => ?_
             refine WL.run to 3 rfl ?_
             rcases rT a with ⟨ap, a⟩ | ⟨ap, a⟩
             ·refine WL.kn 145 (cb (zP ap)) <| WL.xC rfl rfl (Yl.fieldAddr (i := 5) L xG rfl AX) <| WL.lvG ab 0 5 rfl rfl rfl rfl tM rfl rfl <| WL.xC rfl rfl (Yl.fieldAddr (i := 5) M xG rfl AX) <| WL.lvG ab 1 5 rfl rfl rfl rfl tM rfl rfl <| WL.on rfl rfl ?_
              obtain ⟨dQ, bW, a⟩ := rE a
              refine WL.cq ab (tE.calls V _ F aQ a2 bg ((y.Jobs.getD h.toNat bT.z).Workers) aV a7 bl ((B.Jobs.getD h.toNat bT.z).Workers) ab.tX cm b0 ca bD cu b5 cg bJ dQ bW) (ne.fr rfl rfl) fun A ac => ?_
              refine WL.run to 3 rfl ?_
              rcases rT a with ⟨aq, a⟩ | ⟨aq, a⟩
              ·refine WL.kn 153 (cb (zP aq)) <| WL.xC rfl rfl (Yl.fieldAddr (i := 6) L xG rfl AX) <| WL.lvG ac 0 6 rfl rfl rfl rfl tM rfl rfl <| WL.xC rfl rfl (Yl.fieldAddr (i := 6) M xG rfl AX) <| WL.lvG ac 1 6 rfl rfl rfl rfl tM rfl rfl <| WL.on rfl rfl ?_
               obtain ⟨dR, bX, a⟩ := rE a
               refine WL.cq ac (tE.calls V _ F aR a3 bh ((y.Jobs.getD h.toNat bT.z).Indexes) aW a8 bm ((B.Jobs.getD h.toNat bT.z).Indexes) ac.tX co b1 cc bE cv b6 ch bK dR bX) (ne.fr rfl rfl) fun A ad => ?_
               refine WL.run to 3 rfl ?_
               rcases rT a with ⟨ar, a⟩ | ⟨ar, a⟩
               ·refine WL.kn 161 (cb (zP ar)) <| WL.xC rfl rfl (Yl.fieldAddr (i := 7) L xG rfl FW) <| WL.lvG ad 0 7 rfl rfl rfl rfl wD rfl rfl <| WL.xC rfl rfl (Yl.fieldAddr (i := 7) M xG rfl FW) <| WL.lvG ad 1 7 rfl rfl rfl rfl wD rfl rfl <| WL.on rfl rfl ?_
                obtain ⟨dS, bY, a⟩ := rE a
                refine WL.cq ad (tW.calls V _ F aS a4 bi ((y.Jobs.getD h.toNat bT.z).rI) aX a9 bn ((B.Jobs.getD h.toNat bT.z).rI) ad.tX cp b2 cd bG cw b7 ci bL dS bY) (ne.fr rfl rfl) fun A dh => ?_
                refine WL.run to 2 rfl ?_
                cases a
                exact WL.done ⟨rfl, E, G, I, dh⟩
               refine WL.kn 161 (cb (zO ar)) <| WL.sN 6 161 false rfl rfl <| WL.run to 1 rfl ?_
               cases a
               exact WL.done ⟨rfl, E, G, I, ad⟩
              refine WL.kn 153 (cb (zO aq)) <| WL.sN 6 153 false rfl rfl <| WL.run to 2 rfl <| WL.sN 6 161 false rfl rfl <| WL.run to 1 rfl ?_
              cases a
              exact WL.done ⟨rfl, E, G, I, ac⟩
             refine WL.kn 145 (cb (zO ap)) <| WL.sN 6 145 false rfl rfl <| WL.run to 2 rfl <| WL.sN 6 153 false rfl rfl <| WL.run to 2 rfl <| WL.sN 6 161 false rfl rfl <| WL.run to 1 rfl ?_
             cases a
             exact WL.done ⟨rfl, E, G, I, ab⟩
            refine WL.kn 137 (cb (zO ao)) <| WL.sN 6 137 false rfl rfl <| WL.run to 2 rfl <| WL.sN 6 145 false rfl rfl <| WL.run to 2 rfl <| WL.sN 6 153 false rfl rfl <| WL.run to 2 rfl <| WL.sN 6 161 false rfl rfl <| WL.run to 1 rfl ?_
            cases a
            exact WL.done ⟨rfl, E, G, I, aa⟩
           refine WL.kn 129 (cb (wQ an)) <| WL.sN 6 129 false rfl rfl <| WL.run to 2 rfl <| WL.sN 6 137 false rfl rfl <| WL.run to 2 rfl <| WL.sN 6 145 false rfl rfl <| WL.run to 2 rfl <| WL.sN 6 153 false rfl rfl <| WL.run to 2 rfl ?_
           refine WL.sN 6 161 false rfl rfl <| WL.run to 1 rfl ?_
           cases a
           exact WL.done ⟨rfl, E, G, I, o⟩
          refine WL.kn 122 (cb (wQ am)) <| WL.sN 5 122 false rfl rfl <| WL.run to 2 rfl <| WL.sN 6 129 false rfl rfl <| WL.run to 2 rfl <| WL.sN 6 137 false rfl rfl <| WL.run to 2 rfl <| WL.sN 6 145 false rfl rfl <| WL.run to 2 rfl ?_
          refine WL.sN 6 153 false rfl rfl <| WL.run to 2 rfl <| WL.sN 6 161 false rfl rfl <| WL.run to 1 rfl ?_
          cases a
          exact WL.done ⟨rfl, E, G, I, o⟩
         refine WL.kn 115 (cb (wQ al)) <| WL.sN 5 115 false rfl rfl <| WL.run to 2 rfl <| WL.sN 5 122 false rfl rfl <| WL.run to 2 rfl <| WL.sN 6 129 false rfl rfl <| WL.run to 2 rfl <| WL.sN 6 137 false rfl rfl <| WL.run to 2 rfl ?_
         refine WL.sN 6 145 false rfl rfl <| WL.run to 2 rfl <| WL.sN 6 153 false rfl rfl <| WL.run to 2 rfl <| WL.sN 6 161 false rfl rfl <| WL.run to 1 rfl ?_
         cases a
         exact WL.done ⟨rfl, E, G, I, o⟩
        refine WL.kn 108 (cb (wQ ak)) <| WL.sN 5 108 false rfl rfl <| WL.run to 2 rfl <| WL.sN 5 115 false rfl rfl <| WL.run to 2 rfl <| WL.sN 5 122 false rfl rfl <| WL.run to 2 rfl <| WL.sN 6 129 false rfl rfl <| WL.run to 2 rfl ?_
        refine WL.sN 6 137 false rfl rfl <| WL.run to 2 rfl <| WL.sN 6 145 false rfl rfl <| WL.run to 2 rfl <| WL.sN 6 153 false rfl rfl <| WL.run to 2 rfl <| WL.sN 6 161 false rfl rfl <| WL.run to 1 rfl ?_
        cases a
        exact WL.done ⟨rfl, E, G, I, o⟩
       ·rintro b A ⟨cM, cN, cO, cP, a0⟩
        apply kn b (.c cM (.c cN (.c cO (.c cP .n))))
        rcases rT g with ⟨au, g⟩ | ⟨au, g⟩
        ·refine W.uI (cb au) <| W.sr rfl <| WL.rd to 1 rfl <| W.ret ?_
         iterate 6 first | refine uX ?_ | refine rS ?_
         cases g
         replace H := wB H
         have di : Cx [] := a0.pick [] rfl
         have dp := Option.some.inj H
         subst dp
         exact rH (sE rfl rfl) ⟨rfl, di⟩
        refine W.uD (cb (Bool.eq_false_iff.2 au)) <| W.skip <| tH <| W.region rfl ?_
        refine WL.rd to 3 rfl ?_
        have dj : Cx [r0 x U, r0 s T] := a0.pick [2, 3] rfl
        exact rF ⟨V, Nat.lt_succ_self _, rB (h + 1), rfl, dj, g⟩
     refine W.cF aj rfl <| W.exit <| rM <| rM <| sL ?_
     cases g
     refine rF ?_
     exact ⟨aw, rfl⟩
    ·rintro b A ⟨c7, rfl⟩
     replace H := wI H
     refine W.sr rfl <| WL.rd to 1 rfl <| W.ret ?_
     have dk : Cx [] := c7.pick [] rfl
     have dq := Option.some.inj H
     subst dq
     exact rH (sE rfl rfl) ⟨rfl, dk⟩
end Go.Proofs.YtobdpbnadjkhiaaGreat
