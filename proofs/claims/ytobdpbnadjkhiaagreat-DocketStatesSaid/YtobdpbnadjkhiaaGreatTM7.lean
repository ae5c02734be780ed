/- Functions of the program: each as a plain function of numbers and lists, and the proof that the program's own comes to it. Nothing is assumed but what each theorem says. -/
import Derived.Test.YtobdpbnadjkhiaaGreatTM4
namespace Go.Proofs.YtobdpbnadjkhiaaGreat
open Go.RowKit Go.WG
set_option linter.unusedVariables false
set_option linter.unusedSimpArgs false
set_option maxRecDepth 100000
set_option maxHeartbeats 4000000
def vU.l1 : Nat → Int → Int → List Int → Int → Option (List Int)
  | 0, _, _, _, _ => none
  | k + 1, e, d, b, a => if a < d then (if 0 ≤ (rB (8 * a)) then (if 0 ≤ (rB ((rB (d - 1)) - a)) ∧ (rB ((rB (d - 1)) - a)) < (b.length : Int) then (vU.l1 k e d (b.set (rB ((rB (d - 1)) - a)).toNat (wu8 (AH .u64 e (rB (8 * a))))) (rB (a + 1))) else none) else none) else (some b)
def vU.f (k : Nat) (d : Int) (a : Int) : Option ((List Int) × Int) := if ((decide (a < 0)) || (decide (a > 8))) = true then (some (([] : List Int), 1)) else (if 0 ≤ a ∧ a * 1 ≤ 140737488355328 then ((vU.l1 k d a (List.replicate a.toNat (0 : Int)) 0).bind fun b => some (b, 0)) else none)
theorem vU.calls (k w F) (l : Int) (g : Int) (hp : Pre w F [])  (S : List Int) (ad : Int) (H : vU.f k l g = some (S, ad)) :
    Calls Tryz.prog 71 #[.int .u64 l, iv g] w fun e w' => ∃ L N B R, e = .returned (.tuple #[(.slice L B N), (iv ad)]) ∧ Ctx w F (sR []) w' F [R] ∧ B = S.length ∧ Row KB F R (.slice L B N) S := by
 have C := Ctx.start hp
 generalize hD : sR [] = D at C ⊢
 unfold vU.f at H
 refine Calls.ofW Tryz.func71 rfl (by simp [Tryz.ntmps71]) <| W.sr rfl <| WL.rd to 2 rfl <| W.seq <| W.sr rfl <| WL.run to 3 rfl <| WL.cut (fun d A => d 13 = .bool ((decide (g < 0)) || (decide (g > 8))) ∧ d 0 = .int .u64 l ∧ d 1 = iv g ∧ Ctx w F D A F []) ?_ ?_
 ·rcases Bool.eq_false_or_eq_true (decide (g < 0)) with x | x
  ·exact WL.kn 10 (cb x) <| WL.sN 2 10 false rfl rfl <| WL.run to 1 rfl <| WL.done ⟨(cb (show true = ((decide (g < 0)) || (decide (g > 8))) from by simp [x])), rfl, rfl, C⟩
  ·exact WL.kn 10 (cb x) <| WL.run to 3 rfl <| WL.done ⟨(cb (show (decide (g > 8)) = ((decide (g < 0)) || (decide (g > 8))) from by simp [x])), rfl, rfl, C⟩
 ·rintro d A ⟨az, aA, aB, aw⟩
  apply kn d (.c az (.c aA (.c aB .n)))
  rcases rT H with ⟨O, H⟩ | ⟨O, H⟩
  ·refine W.uI (cb O) <| W.sr rfl <| WL.rd to 2 rfl <| W.ret <| rS ?_
   have aG : Cx [CH.emp] := aw.pick [0] rfl
   obtain ⟨aH, aI⟩ := sp H
   subst aH aI
   exact rH (yI rfl rfl rfl) ⟨none, 0, 0, CH.emp, rfl, aG, rfl, (Row.nil _ _)⟩
  refine W.uD (cb (Bool.eq_false_iff.2 O)) <| W.skip <| W.sr rfl <| WL.run to 1 rfl ?_
  obtain ⟨am, H⟩ := rV H
  obtain ⟨au, ay, aC, aD, aL, an, aq, av, ak⟩ := Cn (P := Tryz.prog) 5 KB aw tG ti5 0 rfl (by decide) g am
  refine WL.val (aq _ _ _ _ _ _ rfl rfl) <| WL.rd to 1 rfl <| W.seq <| W.sr rfl <| WL.rd to 2 rfl ?_
  obtain ⟨T, b, H⟩ := rE H
  refine W.vG (fun d A => ∃ E G y J, d 6 = .slice E y G ∧ Ctx w F D A F [J] ∧ y = T.length ∧ Row KB F J (.slice E y G) T) ?_ ?_
  ·refine W.block <| W.loop (fun aj d A => ∃ (j : List Int) (a : Int), ∃ o p h v, Kn d [(0, .int .u64 l), (1, iv g), (6, .slice o h p), (16, iv g), (17, iv a)] ∧ Ctx w F D A F [v] ∧ oW KB F v o h p j (vU.l1 aj l g j a = some T)) k ⟨(List.replicate g.toNat (0 : Int)), 0, au, ay, aC, aD, rfl, av, an, ak, b⟩ ?_
   clear b
   rintro aj d A ⟨j, a, o, p, h, v, aa, M, Y, s, b⟩
   rcases aj with _ | ar
   · exact absurd b (by simp [vU.l1])
   rw [vU.l1] at b
   apply ks d aa
   refine W.sr rfl <| WL.rd to 1 rfl <| W.seq ?_
   rcases rT b with ⟨u, b⟩ | ⟨u, b⟩
   ·refine W.cT u rfl <| W.skip <| W.seq <| W.block <| W.sr rfl <| WL.rd to 2 rfl <| W.region rfl ?_
    refine WL.run to 8 rfl ?_
    obtain ⟨V, b⟩ := rV b
    refine WL.val (Yl.shr (m := l) (n := rB (8 * a)) (r := AH .u64 l (rB (8 * a))) rfl rfl V rfl) <| WL.val (Yl.conv (m := AH .u64 l (rB (8 * a))) (r := wu8 (AH .u64 l (rB (8 * a)))) rfl Ab u_5 rfl) ?_
    obtain ⟨aE, b⟩ := rV b
    obtain ⟨ag, ac, I, aF⟩ := (Row.sl s) (by omega)
    refine WL.val (Yl.rW (i := rB ((rB (g - 1)) - a)) rfl rfl I tG sz5 (by omega)) ?_
    have X : (rB ((rB (g - 1)) - a)).toNat < j.length := by first | omega | (simp only [List.length_set, List.length_replicate] at *; omega)
    let aJ : LV := [.int .u8 (wu8 (AH .u64 l (rB (8 * a))))]
    obtain ⟨Q, aK, ab, ae, U⟩ := zD (P := Tryz.prog) (t := 5) KB [] [] M s I (rB ((rB (g - 1)) - a)).toNat 0 X 0 (.int .u8 (wu8 (AH .u64 l (rB (8 * a))))) (aJ) rfl (rR rfl) (Nat.le_of_ble_eq_true rfl) sz5 (wu8 (AH .u64 l (rB (8 * a)))) (fun _ h_ => Ah h_ rfl) ⟨ag, ac + (rB ((rB (g - 1)) - a)).toNat * 1, none⟩ rfl
    have Z : h = (j.set (rB ((rB (g - 1)) - a)).toNat (wu8 (AH .u64 l (rB (8 * a))))).length := by rw [List.length_set]; omega
    have af : Cx [Q] := ae
    refine WL.skip (ab _ _ _ _ rfl rfl) <| WL.done <| tH <| W.region rfl ?_
    exact WL.rd to 2 rfl <| rF ⟨ar, Nat.lt_succ_self _, j.set (rB ((rB (g - 1)) - a)).toNat (wu8 (AH .u64 l (rB (8 * a)))), rB (a + 1), o, p, h, Q, rfl, af, Z, U, b⟩
   refine W.cF u rfl <| W.exit <| rM <| rM <| sL ?_
   cases b
   refine rF ?_
   exact ⟨o, p, h, v, rfl, M, Y, s⟩
  ·rintro d A ⟨E, G, y, J, ap, ax, ao, al⟩
   apply kn d (.c ap .n)
   refine W.sr rfl <| WL.rd to 3 rfl <| W.ret ?_
   obtain ⟨ah, ai⟩ := sp H
   subst ah ai
   exact rH (yI rfl rfl rfl) ⟨E, G, y, J, rfl, ax, ao, al⟩
def vI.l1 : Nat → List Int → Int → Int → Option Int
  | 0, _, _, _ => none
  | k + 1, b, d, a => if a < (b.length : Int) then (if 0 ≤ a ∧ a < (b.length : Int) then (vI.l1 k b (AL .or .u64 (vP .u64 d 8) (wR (b.getD a.toNat 0))) (rB (a + 1))) else none) else (some d)
def vI.f (k : Nat) (a : List Int) : Option (Int × Int) := if (a.length : Int) > 8 then (some (0, 1)) else ((vI.l1 k a 0 0).bind fun b => some (b, 0))
theorem vI.calls (k w F E x Q) (h : List Int) (hp : Pre w F []) (ag : Q = h.length) (ae : h.length ≤ x) (af : x ≤ maxLen) (V : Sl KB F F E h) (y : Int) (A : Int) (H : vI.f k h = some (y, A)) :
    Calls Tryz.prog 73 #[.slice E Q x] w fun e w' => e = .returned (.tuple #[(.int .u64 y), (iv A)]) ∧ (∃ o, w' = w.drewN o) := by
 have C := Ctx.start hp
 generalize sR [] = D at C
 have R : ∃ o, w = w.drewN o := ⟨0, rfl⟩
 unfold vI.f at H
 refine Calls.ofW Tryz.func73 rfl (by simp [Tryz.ntmps73]) <| W.sr rfl <| WL.rd to 2 rfl <| W.seq <| W.sr rfl <| WL.run to 1 rfl <| WL.ln (h.length : Int) rfl tG (by omega) <| WL.rd to 1 rfl ?_
 rcases rT H with ⟨u, H⟩ | ⟨u, H⟩
 ·refine W.cT u rfl <| W.sr rfl <| WL.rd to 2 rfl <| W.ret <| rS ?_
  obtain ⟨Z, S⟩ := sp H
  subst Z S
  exact rH (yI rfl rfl rfl) ⟨rfl, R⟩
 refine W.cF u rfl <| W.skip <| W.sr rfl <| WL.rd to 1 rfl <| W.seq <| W.sr rfl <| WL.run to 1 rfl <| WL.ln (h.length : Int) rfl tG (by omega) <| WL.rd to 1 rfl ?_
 obtain ⟨B, a, H⟩ := rE H
 refine W.vG (fun g p => g 4 = .int .u64 B ∧ Ctx w F D p F [] ∧ (∃ o, p = w.drewN o)) ?_ ?_
 ·refine W.block <| W.loop (fun I g p => ∃ (j : Int) (b : Int), Kn g [(4, .int .u64 j), (10, .slice E Q x), (11, iv (h.length : Int)), (12, iv b)] ∧ Ctx w F D p F [] ∧ (∃ o, p = w.drewN o) ∧ vI.l1 I h j b = some B) k ⟨0, 0, rfl, C, R, a⟩ ?_
  clear a
  rintro I g p ⟨j, b, N, s, t, a⟩
  rcases I with _ | X
  · exact absurd a (by simp [vI.l1])
  rw [vI.l1] at a
  apply ks g N
  refine W.sr rfl <| WL.rd to 1 rfl <| W.seq ?_
  rcases rT a with ⟨l, a⟩ | ⟨l, a⟩
  ·refine W.cT l rfl <| W.skip <| W.seq <| W.block <| W.sr rfl ?_
   obtain ⟨aa, a⟩ := rV a
   obtain ⟨ad, ab, J, L⟩ := V (by omega)
   refine WL.val (Yl.rW (i := b) rfl rfl J tG sz5 (by omega)) ?_
   obtain ⟨Y, O, P⟩ := L b.toNat _ (getD_some (d := 0) (by omega))
   obtain rfl := O
   refine WL.val (Yl.load (v := .int .u8 (h.getD b.toNat 0)) rfl u_5 rfl (((s.fro)).cell (P 0 _ rfl))) <| WL.rd to 1 rfl <| W.region rfl ?_
   refine WL.run to 1 rfl <| WL.val (Yl.shl (m := j) (n := 8) (r := vP .u64 j 8) rfl rfl (by decide) rfl) <| WL.run to 1 rfl <| WL.val (Yl.conv (m := h.getD b.toNat 0) (r := wR (h.getD b.toNat 0)) rfl u_5 Ab rfl) <| WL.val (Yl.or (m := vP .u64 j 8) (n := wR (h.getD b.toNat 0)) (r := AL .or .u64 (vP .u64 j 8) (wR (h.getD b.toNat 0))) rfl rfl rfl) <| WL.rd to 1 rfl <| tH <| W.region rfl ?_
   exact WL.rd to 2 rfl <| rF ⟨X, Nat.lt_succ_self _, AL .or .u64 (vP .u64 j 8) (wR (h.getD b.toNat 0)), rB (b + 1), rfl, s, t, a⟩
  refine W.cF l rfl <| W.exit <| rM <| rM <| sL ?_
  cases a
  refine rF ?_
  exact ⟨rfl, s, t⟩
 ·rintro g p ⟨M, ac, G⟩
  apply kn g (.c M .n)
  refine W.sr rfl <| WL.rd to 3 rfl <| W.ret ?_
  obtain ⟨T, U⟩ := sp H
  subst T U
  exact rH (yI rfl rfl rfl) ⟨rfl, G⟩
def xB.l1 : Nat → Int → Int → Option Int
  | 0, _, _ => none
  | k + 1, b, a => if a > 0 then (if 0 ≤ (rB (8 * (rB (a - 1)))) then (if (AH .u64 b (rB (8 * (rB (a - 1))))) = 0 then (xB.l1 k b (rB (a - 1))) else (some a)) else none) else (some a)
def xB.f (k : Nat) (d : Int) : Option (List Int) := (xB.l1 k d 8).bind fun a => (vU.f k d a).bind fun ⟨b, e⟩ => if ([wu8 a].length + b.length + ([wu8 a].length + b.length) / 4 + 192) * 1 ≤ 281474976710656 then (some ([wu8 a] ++ b)) else none
theorem xB.calls (k w F) (h : Int) (hp : Pre w F [])  (u : List Int) (H : xB.f k h = some u) :
    Calls Tryz.prog 51 #[.int .u64 h] w fun e w' => ∃ v A p B, e = .returned (.slice v p A) ∧ Ctx w F (sR []) w' F [B] ∧ p = u.length ∧ Row KB F B (.slice v p A) u := by
 have C := Ctx.start hp
 generalize hD : sR [] = D at C ⊢
 unfold xB.f at H
 refine Calls.ofW Tryz.func51 rfl (by simp [Tryz.ntmps51]) <| W.sr rfl <| WL.rd to 1 rfl <| W.scope <| W.sr rfl <| WL.rd to 1 rfl <| W.seq <| W.label <| W.seq ?_
 obtain ⟨d, a, H⟩ := rE H
 refine W.vG (fun b l => Kn b [(0, .int .u64 h), (3, iv d)] ∧ Ctx w F D l F []) ?_ ?_
 ·refine W.block <| W.loop (fun E b l => ∃ (g : Int), Kn b [(0, .int .u64 h), (3, iv g)] ∧ Ctx w F D l F [] ∧ xB.l1 E h g = some d) k ⟨8, rfl, C, a⟩ ?_
  clear a
  rintro E b l ⟨g, S, o, a⟩
  rcases E with _ | af
  · exact absurd a (by simp [xB.l1])
  rw [xB.l1] at a
  apply ks b S
  refine W.seq <| W.sr rfl <| WL.rd to 2 rfl ?_
  rcases rT a with ⟨i, a⟩ | ⟨i, a⟩
  ·refine W.cT i rfl <| W.skip <| W.block <| W.seq <| W.sr rfl <| WL.run to 4 rfl ?_
   obtain ⟨L, a⟩ := rV a
   refine WL.val (Yl.shr (m := h) (n := rB (8 * (rB (g - 1)))) (r := AH .u64 h (rB (8 * (rB (g - 1))))) rfl rfl L rfl) <| WL.rd to 1 rfl ?_
   rcases rT a with ⟨j, a⟩ | ⟨j, a⟩
   ·refine W.nF j rfl <| W.skip <| W.region rfl ?_
    exact WL.rd to 3 rfl <| tH <| rF ⟨af, Nat.lt_succ_self _, rB (g - 1), rfl, o, a⟩
   refine W.nT j rfl <| W.exit <| rM <| H5 rfl <| rM <| sL ?_
   cases a
   refine rF ?_
   exact ⟨rfl, o⟩
  refine W.cF i rfl <| W.exit <| rM <| rM <| sL ?_
  cases a
  refine rF ?_
  exact ⟨rfl, o⟩
 ·rintro b l ⟨R, x⟩
  apply ks b R
  refine W.sr rfl <| WL.run to 2 rfl ?_
  obtain ⟨⟨ah, ai⟩, N, H⟩ := rE H
  refine WL.sI (vU.calls k _ F h d x.tX  ah ai N) (ne.fr rfl rfl) ?_
  rintro au l ⟨ak, ac, an, s, rfl, X, O, G⟩
  refine ⟨_, rfl, ?_⟩
  have Y : Cx [s] := Ctx.wS x X
  refine WL.rd to 5 rfl <| W.sr rfl <| WL.run to 1 rfl <| WL.val (Yl.conv (m := d) (r := wu8 d) rfl u_3 u_5 rfl) ?_
  obtain ⟨al, am, ao, ap, aq, aj, T, y, I⟩ := uO (P := Tryz.prog) 5 KB Y tG ti5 ⟨by decide, by decide⟩ (wu8 d) (.int .u8 (wu8 d)) rfl
  refine WL.val (T _ _ _ rfl) <| WL.run to 1 rfl ?_
  obtain ⟨M, H⟩ := rV H
  obtain ⟨V, ad, ag, t, ar, Q, U, Z, J⟩ := sP (P := Tryz.prog) (cb := ac) 5 KB [] [s] y I O (Row.sl G) (Ctx.rO 1 y rfl) tG ti5 rfl zo5 (by decide) (by decide) (by simpa using M)
  have aa : Cx [t, s] := Z
  refine WL.val (U _ _ _ _ rfl rfl) <| WL.rd to 1 rfl <| W.ret <| Kq ?_
  have ab : Cx [t] := aa.pick [0] rfl
  have ae := Option.some.inj H
  subst ae
  exact rH (sE rfl rfl) ⟨V, ad, ag, t, rfl, ab, Q, J⟩
def Al.f (k : Nat) (a : List Int) : Option (List Int) := (xB.f k (wR (a.length : Int))).bind fun b => if (b.length + a.length + (b.length + a.length) / 4 + 192) * 1 ≤ 281474976710656 then (some (b ++ a)) else none
theorem Al.calls (k w F x g O) (a : List Int) (hp : Pre w F []) (M : O = a.length) (V : a.length ≤ g) (X : g ≤ maxLen) (J : Sl KB F F x a) (d : List Int) (H : Al.f k a = some d) :
    Calls Tryz.prog 52 #[.slice x O g] w fun e w' => ∃ h j b o, e = .returned (.slice h b j) ∧ Ctx w F (sR []) w' F [o] ∧ b = d.length ∧ Row KB F o (.slice h b j) d := by
 have C := Ctx.start hp
 generalize hD : sR [] = D at C ⊢
 unfold Al.f at H
 refine Calls.ofW Tryz.func52 rfl (by simp [Tryz.ntmps52]) <| W.sr rfl <| WL.rd to 1 rfl <| W.sr rfl <| WL.run to 1 rfl <| WL.ln (a.length : Int) rfl tG (by omega) <| WL.val (Yl.conv (m := (a.length : Int)) (r := wR (a.length : Int)) rfl u_3 Ab rfl) ?_
 obtain ⟨S, L, H⟩ := rE H
 refine WL.sI (xB.calls k _ F (wR (a.length : Int)) C.tX  S L) (ne.fr rfl rfl) ?_
 rintro aa ab ⟨T, U, Y, Q, rfl, A, R, p⟩
 refine ⟨_, rfl, ?_⟩
 have i : Cx [Q] := Ctx.wS C A
 refine WL.run to 1 rfl ?_
 obtain ⟨t, H⟩ := rV H
 obtain ⟨y, G, N, l, Z, u, v, B, s⟩ := sP (P := Tryz.prog) (cb := g) 5 KB [] [] i p M J i.fro tG ti5 rfl zo5 (by decide) (by decide) (by simpa using t)
 have E : Cx [l] := B
 refine WL.val (v _ _ _ _ rfl rfl) <| WL.rd to 1 rfl <| W.ret ?_
 have I := Option.some.inj H
 subst I
 exact rH (sE rfl rfl) ⟨y, G, N, l, rfl, E, u, s⟩
def AE.f (k : Nat) (a : List Int) : Option rC := if (a.length + a.length / 4 + 192) * 1 ≤ 281474976710656 then (some (⟨a, 0, 0⟩ : rC)) else none
theorem AE.calls (k w F O l Z) (j : List Int) (hp : Pre w F []) (Y : Z = j.length) (ac : j.length ≤ l) (ad : l ≤ maxLen) (X : Sl KB F F O j) (a : rC) (H : AE.f k j = some a) :
    Calls Tryz.prog 30 #[.slice O Z l] w fun e w' => ∃ F' u y p d x, e = .returned (.pointer (some ⟨u, y, none⟩)) ∧ CH.le F F' ∧ Ctx w F (sR []) w' F' [CH.row u y (rC.q a p x d)] ∧ x = a.b.length ∧ a.b.length ≤ d ∧ d ≤ maxLen ∧ Sl KB F' F' p a.b := by
 have C := Ctx.start hp
 generalize hD : sR [] = D at C ⊢
 unfold AE.f at H
 refine Calls.ofW Tryz.func30 rfl (by simp [Tryz.ntmps30]) <| W.sr rfl <| WL.rd to 1 rfl <| W.sr rfl ?_
 obtain ⟨aj, ak, ae, af, ag, ab, J, r, A⟩ := yC (P := Tryz.prog) 5 KB C tG ti5
 refine WL.val (J _ _) <| WL.run to 1 rfl ?_
 obtain ⟨E, H⟩ := rV H
 obtain ⟨o, s, v, aa, ah, h, L, Q, g⟩ := sP (P := Tryz.prog) (cb := l) 5 KB [] [] r A Y X r.fro tG ti5 rfl zo5 (by decide) (by decide) (by simpa using E)
 have R : Cx [aa] := Q
 rw [List.nil_append] at h g
 refine WL.val (L _ _ _ _ rfl rfl) ?_
 let m : LV := [.slice o v s, iv 0, iv 0]
 refine WL.val (Yl.build (places := [(0, 1), (1, 1), (2, 1)]) (cs := List.toArray m) Je J3 (KE _ Je) (uV (.cons rfl .nil)) rfl) ?_
 obtain ⟨t, ai, M, S⟩ := uR (P := Tryz.prog) 107 (.agg (List.toArray m)) m R rfl
 refine WL.val (M _ _ _ rfl) <| WL.rd to 1 rfl <| W.ret ?_
 obtain ⟨U, i, N, (T : Cx [r0 t m])⟩ := Ctx.fzI 1 S rfl
 obtain ⟨G, I, B⟩ := Row.fz g i N
 have V := Option.some.inj H
 subst V
 exact rH (sE rfl rfl) ⟨U, t, 0, o, s, v, rfl, i, T, h, G, I, B⟩
def uS.f (k : Nat) (a : rC) : Option Bool := some (!decide (a.e = 0))
theorem uS.calls (k w F j r i d m) (a : rC) (hp : Pre w F []) (B : m = a.b.length) (y : a.b.length ≤ d) (A : d ≤ maxLen) (x : Sl KB F F i a.b) (l : CH.le (CH.row j r (rC.q a i m d)) F) (h : Bool) (H : uS.f k a = some h) :
    Calls Tryz.prog 56 #[.pointer (some ⟨j, r, none⟩)] w fun e w' => e = .returned (.bool h) ∧ (∃ p, w' = w.drewN p) := by
 have C := Ctx.start hp
 generalize sR [] = D at C
 have t : ∃ p, w = w.drewN p := ⟨0, rfl⟩
 unfold uS.f at H
 refine Calls.ofW Tryz.func56 rfl (by simp [Tryz.ntmps56]) <| W.sr rfl <| WL.rd to 1 rfl <| W.sr rfl <| WL.run to 1 rfl <| WL.val (Yl.ET rfl rfl JF) <| WL.run to 4 rfl ?_
 let u : LV := rC.q a i m d
 refine WL.xC rfl rfl (Yl.Ad (g := j) (off := r) (o := 2) (cs := u) (v := iv a.e) rfl JB rfl (Sub.mono (C.fro) l) rfl) <| WL.rd to 3 rfl <| W.ret ?_
 have s := Option.some.inj H
 subst s
 exact rH (sE rfl rfl) ⟨rfl, t⟩
def sT.f (k : Nat) (a : rC) (d : Int) (e : Int) : Option rC := some (⟨a.b, e, d⟩ : rC)
theorem sT.calls (k w F i l h d j) (a : rC) (m : Int) (p : Int) (hp : Pre w F [CH.row i l (rC.q a h j d)]) (B : j = a.b.length) (y : a.b.length ≤ d) (A : d ≤ maxLen) (x : Sl KB F F h a.b) (g : rC) (H : sT.f k a m p = some g) :
    Calls Tryz.prog 58 #[.pointer (some ⟨i, l, none⟩), iv m, iv p] w fun e w' => ∃ r o s, e = .returned (.tuple #[]) ∧ Ctx w F (sR [CH.row i l (rC.q a h j d)]) w' F [CH.row i l (rC.q g r s o)] ∧ s = g.b.length ∧ g.b.length ≤ o ∧ o ≤ maxLen ∧ Sl KB F F r g.b := by
 have C := Ctx.start hp
 generalize hD : sR [CH.row i l (rC.q a h j d)] = D at C ⊢
 unfold sT.f at H
 refine Calls.ofW Tryz.func58 rfl (by simp [Tryz.ntmps58]) <| W.region rfl ?_
 refine WL.run to 6 rfl ?_
 let E : LV := [.slice h j d, iv a.at_, iv m]
 refine WL.st C 0 2 [iv m] rfl rfl rfl rfl (Put.lit 2 rfl) (rR rfl) K3 fun I (t : Cx [CH.row i l E]) => ?_
 refine WL.run to 2 rfl ?_
 let G : CH := CH.row i l [.slice h j d, iv p, iv m]
 refine WL.st t 0 1 [iv p] rfl rfl rfl rfl (Put.lit 1 rfl) (rR rfl) sz3 fun I (u : Cx [G]) => ?_
 refine WL.done ?_
 have v := Option.some.inj H
 subst v
 exact B2 (DU rfl ) ⟨h, d, j, rfl, u, B, y, A, x⟩
def uQ.f (k : Nat) (a : rC) (d : Int) : Option ((List Int) × Bool × rC) := if d > (wR (rB ((a.b.length : Int) - a.at_))) then (some (([] : List Int), false, a)) else (if 0 ≤ a.at_ ∧ a.at_ ≤ (rB (a.at_ + (rB d))) ∧ (rB (a.at_ + (rB d))) ≤ (a.b.length : Int) then (some ((a.b.take ((rB (a.at_ + (rB d))).toNat)).drop a.at_.toNat, true, (⟨a.b, rB (a.at_ + (rB d)), a.e⟩ : rC))) else none)
theorem uQ.calls (k w F t u g d i) (a : rC) (h : Int) (hp : Pre w F [CH.row t u (rC.q a g i d)]) (L : i = a.b.length) (E : a.b.length ≤ d) (G : d ≤ maxLen) (B : Sl KB F F g a.b) (s : List Int) (O : Bool) (j : rC) (H : uQ.f k a h = some (s, O, j)) :
    Calls Tryz.prog 57 #[.pointer (some ⟨t, u, none⟩), .int .u64 h] w fun e w' => ∃ I x M J y N, e = .returned (.tuple #[(.slice I M x), (.bool O)]) ∧ Ctx w F (sR [CH.row t u (rC.q a g i d)]) w' F [CH.row t u (rC.q j J N y)] ∧ M = s.length ∧ s.length ≤ x ∧ x ≤ maxLen ∧ Sl KB F F I s ∧ N = j.b.length ∧ j.b.length ≤ y ∧ y ≤ maxLen ∧ Sl KB F F J j.b := by
 have C := Ctx.start hp
 generalize hD : sR [CH.row t u (rC.q a g i d)] = D at C ⊢
 unfold uQ.f at H
 refine Calls.ofW Tryz.func57 rfl (by simp [Tryz.ntmps57]) <| W.sr rfl <| WL.rd to 2 rfl <| W.seq <| W.seq <| W.tY (by kernel_rfl) (by kernel_rfl) rfl ?_
 refine WQ.run to 4 rfl <| WQ.lv C 0 0 rfl rfl tG rfl rfl <| WQ.vl (fun _ => Yl.Bw (A := g) (l := i) (q := d) (n := (a.b.length : Int)) rfl tG (by omega)) ?_
 refine WQ.run to 3 rfl <| WQ.lv C 0 1 rfl rfl u_3 rfl rfl <| WQ.run to 1 rfl <| WQ.vl (fun _ => Yl.conv (m := rB ((a.b.length : Int) - a.at_)) (r := wR (rB ((a.b.length : Int) - a.at_))) rfl u_3 Ab rfl) ?_
 refine WQ.run to 1 rfl <| WQ.done (fun V => ?_)
 have p := Ctx.drewN C V
 rcases rT H with ⟨o, H⟩ | ⟨o, H⟩
 ·refine W.cT o rfl <| W.sr rfl <| WL.rd to 2 rfl <| W.ret <| rS ?_
  obtain ⟨ab, ac, ad⟩ := sp3 H
  subst ab ac ad
  exact rH (yI rfl rfl rfl) ⟨none, 0, 0, g, d, i, rfl, p, rfl, (Nat.le_refl _), (Nat.zero_le _), (Sl.nil _ _ _ _), L, E, G, B⟩
 refine W.cF o rfl <| W.skip <| W.sr rfl <| WL.run to 3 rfl <| WL.lv p 0 1 rfl rfl u_3 rfl rfl <| WL.rd to 1 rfl <| W.sr rfl <| WL.run to 3 rfl <| WL.lv p 0 1 rfl rfl u_3 rfl rfl ?_
 refine WL.run to 1 rfl <| WL.val (Yl.conv (m := h) (r := rB h) rfl Ab u_3 rfl) <| WL.run to 3 rfl ?_
 let aj : LV := [.slice g i d, iv (rB (a.at_ + (rB h))), iv a.e]
 refine WL.st p 0 1 [iv (rB (a.at_ + (rB h)))] rfl rfl rfl rfl (Put.lit 1 rfl) (rR rfl) sz3 fun ak (v : Cx [CH.row t u aj]) => ?_
 refine WL.done <| W.seq <| W.tY (by kernel_rfl) (by kernel_rfl) rfl ?_
 refine WQ.run to 3 rfl <| WQ.lv v 0 0 rfl rfl tG rfl rfl <| WQ.run to 4 rfl <| WQ.lv v 0 1 rfl rfl u_3 rfl rfl ?_
 obtain ⟨ai, H⟩ := rV H
 have R : a.b.length ≤ d ∧ d ≤ maxLen := ⟨E, G⟩
 obtain ⟨Y, aa, ah, U, T, Q, S, P⟩ := Sl.cut B (c := d) R.2 a.at_.toNat ((rB (a.at_ + (rB h))).toNat) d (by omega) (by omega) (by omega) (by omega)
 refine WQ.vl (fun _ => Yl.slice a.at_.toNat ((rB (a.at_ + (rB h))).toNat) d rfl tG sz5 rfl (OB.mk rfl (by omega)) (OB.mk rfl (by omega)) (by simp) (by omega) (by omega) (by omega) U) ?_
 refine WQ.run to 2 rfl <| WQ.done (fun X => ?_)
 have Z := Ctx.drewN v X
 refine W.ret ?_
 obtain ⟨ae, af, ag⟩ := sp3 H
 subst ae af ag
 exact rH (yI rfl rfl rfl) ⟨Y, aa, ah, g, d, i, rfl, Z, T, Q, S, P, L, E, G, B⟩
def vM.f (k : Nat) (a : rC) (u : Int) : Option (Int × rC) := (uS.f k a).bind fun p => if p = true then (some (0, a)) else ((uQ.f k a 1).bind fun ⟨e, r, g⟩ => if r = true then (if 0 ≤ (0 : Int) ∧ (0 : Int) < (e.length : Int) then (if (e.getD (0 : Int).toNat 0) > 8 then ((sT.f k g 41 a.at_).bind fun s => some (0, s)) else ((uQ.f k g (wR (e.getD (0 : Int).toNat 0))).bind fun ⟨b, t, d⟩ => (vI.f k b).bind fun ⟨h, v⟩ => if t = true then ((if (b.length : Int) > 0 then (if 0 ≤ (0 : Int) ∧ (0 : Int) < (b.length : Int) then (some (decide ((b.getD (0 : Int).toNat 0) = 0))) else none) else (some (false))).bind fun o => if o = true then ((sT.f k d 41 a.at_).bind fun i => some (0, i)) else (if h > u then ((sT.f k d 42 a.at_).bind fun j => some (0, j)) else (some (h, d)))) else ((sT.f k d 40 a.at_).bind fun l => some (0, l)))) else none) else ((sT.f k g 40 a.at_).bind fun m => some (0, m)))
theorem vM.calls (k w F a g I u N) (h : rC) (bs : Int) (hp : Pre w F [CH.row a g (rC.q h I N u)]) (aB : N = h.b.length) (az : h.b.length ≤ u) (aA : u ≤ maxLen) (ay : Sl KB F F I h.b) (bh : Int) (Q : rC) (H : vM.f k h bs = some (bh, Q)) :
    Calls Tryz.prog 55 #[.pointer (some ⟨a, g, none⟩), .int .u64 bs] w fun e w' => ∃ ap T aI, e = .returned (.int .u64 bh) ∧ Ctx w F (sR [CH.row a g (rC.q h I N u)]) w' F [CH.row a g (rC.q Q ap aI T)] ∧ aI = Q.b.length ∧ Q.b.length ≤ T ∧ T ≤ maxLen ∧ Sl KB F F ap Q.b := by
 have C := Ctx.start hp
 generalize hD : sR [CH.row a g (rC.q h I N u)] = D at C ⊢
 unfold vM.f at H
 refine Calls.ofW Tryz.func55 rfl (by simp [Tryz.ntmps55]) <| W.sr rfl <| WL.rd to 1 rfl <| W.seq <| W.sr rfl <| WL.run to 1 rfl ?_
 obtain ⟨b5, aD, bY, (b0 : Cx [])⟩ := Ctx.fzI 0 C rfl
 obtain ⟨cf, bK, H⟩ := rE H
 refine WL.cq C (uS.calls k _ b5 a g I u N h b0.tX aB az aA (Sl.mono ay aD aD) bY cf bK) (ne.fr rfl rfl) fun s ag => ?_
 refine WL.done ?_
 rcases rT H with ⟨V, H⟩ | ⟨V, H⟩
 ·refine W.uI (cb V) <| W.sr rfl <| WL.rd to 1 rfl <| W.ret <| rS ?_
  obtain ⟨b7, b8⟩ := sp H
  subst b7 b8
  exact rH (sE rfl rfl) ⟨I, u, N, rfl, ag, aB, az, aA, ay⟩
 refine W.uD (cb (Bool.eq_false_iff.2 V)) <| W.skip <| W.sr rfl <| WL.run to 3 rfl <| WL.lv ag 0 1 rfl rfl u_3 rfl rfl <| WL.run to 1 rfl <| WL.val (Yl.JC (r := .pointer (some ⟨a, g, none⟩)) rfl) <| WL.rd to 2 rfl <| W.sr rfl ?_
 refine WL.run to 1 rfl ?_
 obtain ⟨⟨t, cg, R⟩, bL, H⟩ := rE H
 let ce : LV := rC.q h I N u
 refine WL.sI (uQ.calls k _ F a g I u N h 1 (ag.pq 1) aB az aA ay t cg R bL) (ne.fr rfl rfl) ?_
 rintro ak s ⟨cA, cD, cE, af, ah, ai, rfl, b1, cs, cp, cr, bG, ad, ab, ac, U⟩
 refine ⟨_, rfl, ?_⟩
 let ae : LV := rC.q R af ai ah
 have o : Cx [CH.row a g ae] := Ctx.cn 1 ag b1
 refine WL.rd to 5 rfl <| W.seq <| W.sr rfl <| WL.rd to 2 rfl ?_
 rcases rT H with ⟨X, H⟩ | ⟨X, H⟩
 ·refine W.uD (cb (zP X)) <| W.skip <| W.seq <| W.sr rfl <| WL.run to 1 rfl ?_
  obtain ⟨cm, H⟩ := rV H
  obtain ⟨cB, ct, aw, bI⟩ := bG (by omega)
  refine WL.val (Yl.rW (i := 0) rfl rfl aw tG sz5 (by omega)) ?_
  obtain ⟨cj, bW, aC⟩ := bI (0 : Int).toNat _ (getD_some (d := 0) (by omega))
  obtain rfl := bW
  refine WL.val (Yl.load (v := .int .u8 (t.getD (0 : Int).toNat 0)) rfl u_5 rfl (((o.fro)).cell (aC 0 _ rfl))) <| WL.rd to 1 rfl ?_
  rcases rT H with ⟨Y, H⟩ | ⟨Y, H⟩
  ·refine W.cT Y rfl <| W.sr rfl <| WL.run to 2 rfl ?_
   obtain ⟨bi, bM, H⟩ := rE H
   refine WL.sI (sT.calls k _ F a g af ah ai R 41 h.at_ (o.pq 1) ad ab ac U bi bM) (vD.fnB rfl Tryz.func58 (by kernel_rfl) rfl (.cons rfl (.cons rfl .nil))) ?_
   rintro ak s ⟨bd, bf, bg, rfl, b2, bU, bP, bR, bH⟩
   refine ⟨_, rfl, ?_⟩
   let cv : LV := rC.q bi bd bg bf
   have b3 : Cx [CH.row a g cv] := Ctx.cn 1 o b2
   refine WL.done <| W.sr rfl <| WL.rd to 1 rfl <| W.ret <| rS ?_
   obtain ⟨b9, ca⟩ := sp H
   subst b9 ca
   exact rH (sE rfl rfl) ⟨bd, bf, bg, rfl, b3, bU, bP, bR, bH⟩
  refine W.cF Y rfl <| W.skip <| W.sr rfl <| WL.run to 2 rfl <| WL.val (Yl.rW (i := 0) rfl rfl aw tG sz5 (by omega)) <| WL.val (Yl.load (v := .int .u8 (t.getD (0 : Int).toNat 0)) rfl u_5 rfl (((o.fro)).cell (aC 0 _ rfl))) <| WL.val (Yl.conv (m := t.getD (0 : Int).toNat 0) (r := wR (t.getD (0 : Int).toNat 0)) rfl u_5 Ab rfl) ?_
  obtain ⟨⟨aj, ch, S⟩, bN, H⟩ := rE H
  refine WL.sI (uQ.calls k _ F a g af ah ai R (wR (t.getD (0 : Int).toNat 0)) (o.pq 1) ad ab ac U aj ch S bN) (ne.fr rfl rfl) ?_
  rintro ak s ⟨bZ, b6, cd, J, M, O, rfl, b4, bV, bQ, bS, ax, G, B, E, x⟩
  refine ⟨_, rfl, ?_⟩
  let P : LV := rC.q S J O M
  have be : Cx [CH.row a g P] := Ctx.cn 1 o b4
  refine WL.rd to 5 rfl <| W.sr rfl <| WL.run to 1 rfl ?_
  obtain ⟨⟨bj, ci⟩, bO, H⟩ := rE H
  refine WL.cq be (vI.calls k _ F bZ b6 cd aj be.tX bV bQ bS ax bj ci bO) (ne.fr rfl rfl) fun s L => ?_
  refine WL.rd to 5 rfl <| W.seq <| W.block <| W.sr rfl <| WL.rd to 3 rfl ?_
  rcases rT H with ⟨Z, H⟩ | ⟨Z, H⟩
  ·refine W.uD (cb (zP Z)) <| W.sr rfl <| WL.run to 1 rfl <| WL.ln (aj.length : Int) rfl tG (by omega) <| WL.run to 2 rfl ?_
   obtain ⟨cc, j, H⟩ := rE H
   refine WL.cut (fun l s => l 58 = .bool cc ∧ l 1 = .int .u64 bs ∧ l 5 = iv h.at_ ∧ l 6 = .func (.func 58) #[.pointer (some ⟨a, g, none⟩)] #[] ∧ l 10 = .int .u64 bj ∧ Ctx w F D s F [CH.row a g P]) ?_ ?_
   ·rcases rT j with ⟨aa, j⟩ | ⟨aa, j⟩
    ·refine WL.kn 62 (cb (decide_eq_true aa)) <| WL.run to 1 rfl ?_
     obtain ⟨co, j⟩ := rV j
     obtain ⟨cC, cu, bE, bJ⟩ := ax (by omega)
     refine WL.xC rfl rfl (Yl.rW (i := 0) rfl rfl bE tG sz5 (by omega)) ?_
     obtain ⟨ck, bX, bc⟩ := bJ (0 : Int).toNat _ (getD_some (d := 0) (by omega))
     obtain rfl := bX
     refine WL.xC rfl rfl (Yl.load (v := .int .u8 (aj.getD (0 : Int).toNat 0)) rfl u_5 rfl (((L.fro)).cell (bc 0 _ rfl))) <| WL.run to 3 rfl ?_
     cases j
     exact WL.done ⟨rfl, rfl, rfl, rfl, rfl, L⟩
    refine WL.kn 62 (cb (decide_eq_false aa)) <| WL.sN 4 62 true rfl rfl <| WL.run to 2 rfl ?_
    cases j
    exact WL.done ⟨rfl, rfl, rfl, rfl, rfl, L⟩
   ·rintro l s ⟨a7, a8, a9, ba, bb, p⟩
    apply kn l (.c a7 (.c a8 (.c a9 (.c ba (.c bb .n)))))
    rcases rT H with ⟨y, H⟩ | ⟨y, H⟩
    ·refine W.uI (cb y) <| W.region rfl ?_
     refine WL.run to 2 rfl ?_
     obtain ⟨aJ, aR, H⟩ := rE H
     refine WL.sI (sT.calls k _ F a g J M O S 41 h.at_ (p.pq 1) G B E x aJ aR) (vD.fnB rfl Tryz.func58 (by kernel_rfl) rfl (.cons rfl (.cons rfl .nil))) ?_
     rintro ak s ⟨al, aq, aE, rfl, bk, a3, aV, aZ, aN⟩
     refine ⟨_, rfl, ?_⟩
     let cw : LV := rC.q aJ al aE aq
     have bl : Cx [CH.row a g cw] := Ctx.cn 1 p bk
     refine WL.done <| tH <| W.sr rfl <| WL.rd to 1 rfl <| W.ret ?_
     obtain ⟨bt, bu⟩ := sp H
     subst bt bu
     exact rH (sE rfl rfl) ⟨al, aq, aE, rfl, bl, a3, aV, aZ, aN⟩
    refine W.uD (cb (Bool.eq_false_iff.2 y)) <| W.sr rfl <| WL.rd to 4 rfl ?_
    rcases rT H with ⟨A, H⟩ | ⟨A, H⟩
    ·refine W.cT A rfl <| W.region rfl ?_
     refine WL.run to 2 rfl ?_
     obtain ⟨aK, aS, H⟩ := rE H
     refine WL.sI (sT.calls k _ F a g J M O S 42 h.at_ (p.pq 1) G B E x aK aS) (vD.fnB rfl Tryz.func58 (by kernel_rfl) rfl (.cons rfl (.cons rfl .nil))) ?_
     rintro ak s ⟨am, ar, aF, rfl, bm, a4, aW, a0, aO⟩
     refine ⟨_, rfl, ?_⟩
     let cx : LV := rC.q aK am aF ar
     have bn : Cx [CH.row a g cx] := Ctx.cn 1 p bm
     refine WL.done <| tH <| W.sr rfl <| WL.rd to 1 rfl <| W.ret ?_
     obtain ⟨bv, bw⟩ := sp H
     subst bv bw
     exact rH (sE rfl rfl) ⟨am, ar, aF, rfl, bn, a4, aW, a0, aO⟩
    refine W.cF A rfl <| W.sr rfl <| WL.rd to 2 rfl <| W.ret <| uX <| rS ?_
    obtain ⟨bx, bz⟩ := sp H
    subst bx bz
    exact rH (sE rfl rfl) ⟨J, M, O, rfl, p, G, B, E, x⟩
  refine W.uI (cb (zO Z)) <| W.region rfl ?_
  refine WL.run to 2 rfl ?_
  obtain ⟨aL, aT, H⟩ := rE H
  refine WL.sI (sT.calls k _ F a g J M O S 40 h.at_ (L.pq 1) G B E x aL aT) (vD.fnB rfl Tryz.func58 (by kernel_rfl) rfl (.cons rfl (.cons rfl .nil))) ?_
  rintro ak s ⟨an, au, aG, rfl, bo, a5, aX, a1, aP⟩
  refine ⟨_, rfl, ?_⟩
  let cy : LV := rC.q aL an aG au
  have bp : Cx [CH.row a g cy] := Ctx.cn 1 L bo
  refine WL.done <| tH <| W.sr rfl <| WL.rd to 1 rfl <| W.ret ?_
  obtain ⟨bA, bB⟩ := sp H
  subst bA bB
  exact rH (sE rfl rfl) ⟨an, au, aG, rfl, bp, a5, aX, a1, aP⟩
 refine W.uI (cb (zO X)) <| W.sr rfl <| WL.run to 2 rfl ?_
 obtain ⟨aM, aU, H⟩ := rE H
 refine WL.sI (sT.calls k _ F a g af ah ai R 40 h.at_ (o.pq 1) ad ab ac U aM aU) (vD.fnB rfl Tryz.func58 (by kernel_rfl) rfl (.cons rfl (.cons rfl .nil))) ?_
 rintro ak s ⟨ao, av, aH, rfl, bq, a6, aY, a2, aQ⟩
 refine ⟨_, rfl, ?_⟩
 let cz : LV := rC.q aM ao aH av
 have br : Cx [CH.row a g cz] := Ctx.cn 1 o bq
 refine WL.done <| W.sr rfl <| WL.rd to 1 rfl <| W.ret <| rS ?_
 obtain ⟨bC, bD⟩ := sp H
 subst bC bD
 exact rH (sE rfl rfl) ⟨ao, av, aH, rfl, br, a6, aY, a2, aQ⟩
def xL.f (k : Nat) (h : rC) (d : Int) (i : Int) : Option (Int × rC) := (vM.f k h 18446744073709551615).bind fun ⟨a, b⟩ => if ((decide (b.e = 0)) && ((decide (d < 0)) || (decide (a > (wR d))))) = true then ((sT.f k b 42 i).bind fun g => some (a, g)) else (some (a, b))
theorem xL.calls (k w F a d x t y) (p : rC) (g : Int) (O : Int) (hp : Pre w F [CH.row a d (rC.q p x y t)]) (av : y = p.b.length) (ar : p.b.length ≤ t) (au : t ≤ maxLen) (aq : Sl KB F F x p.b) (X : Int) (s : rC) (H : xL.f k p g O = some (X, s)) :
    Calls Tryz.prog 59 #[.pointer (some ⟨a, d, none⟩), iv g, iv O] w fun e w' => ∃ S G V, e = .returned (.int .u64 X) ∧ Ctx w F (sR [CH.row a d (rC.q p x y t)]) w' F [CH.row a d (rC.q s S V G)] ∧ V = s.b.length ∧ s.b.length ≤ G ∧ G ≤ maxLen ∧ Sl KB F F S s.b := by
 have C := Ctx.start hp
 generalize hD : sR [CH.row a d (rC.q p x y t)] = D at C ⊢
 unfold xL.f at H
 refine Calls.ofW Tryz.func59 rfl (by simp [Tryz.ntmps59]) <| W.sr rfl <| WL.rd to 1 rfl <| W.sr rfl <| WL.run to 1 rfl ?_
 obtain ⟨⟨o, j⟩, aa, H⟩ := rE H
 let aw : LV := rC.q p x y t
 refine WL.sI (vM.calls k _ F a d x t y p 18446744073709551615 (C.pq 1) av ar au aq o j aa) (ne.fr rfl rfl) ?_
 rintro ax Q ⟨A, E, N, rfl, aj, M, J, L, I⟩
 refine ⟨_, rfl, ?_⟩
 let P : LV := rC.q j A N E
 have v : Cx [CH.row a d P] := Ctx.cn 1 C aj
 refine WL.rd to 1 rfl <| W.seq <| W.sr rfl <| WL.run to 3 rfl <| WL.lv v 0 2 rfl rfl JB rfl rfl <| WL.run to 2 rfl <| WL.cut (fun h Q => h 24 = .bool ((decide (j.e = 0)) && ((decide (g < 0)) || (decide (o > (wR g))))) ∧ h 0 = .pointer (some ⟨a, d, none⟩) ∧ h 2 = iv O ∧ h 7 = .int .u64 o ∧ Ctx w F D Q F [CH.row a d P]) ?_ ?_
 ·rcases Bool.eq_false_or_eq_true (decide (j.e = 0)) with i | i
  ·refine WL.kn 15 (cb i) <| WL.run to 3 rfl ?_
   rcases Bool.eq_false_or_eq_true (decide (g < 0)) with l | l
   ·exact WL.kn 18 (cb l) <| WL.sN 4 18 false rfl rfl <| WL.run to 2 rfl <| WL.done ⟨(cb (show true = ((decide (j.e = 0)) && ((decide (g < 0)) || (decide (o > (wR g))))) from by simp [i, l])), rfl, rfl, rfl, v⟩
   ·exact WL.kn 18 (cb l) <| WL.run to 2 rfl <| WL.xC rfl rfl (Yl.conv (m := g) (r := wR g) rfl u_3 Ab rfl) <| WL.run to 3 rfl <| WL.done ⟨(cb (show (decide (o > (wR g))) = ((decide (j.e = 0)) && ((decide (g < 0)) || (decide (o > (wR g))))) from by simp [i, l])), rfl, rfl, rfl, v⟩
  ·exact WL.kn 15 (cb i) <| WL.sN 3 15 true rfl rfl <| WL.HX 4 18 false rfl rfl <| WL.sN 1 15 true rfl rfl <| WL.run to 1 rfl <| WL.done ⟨(cb (show false = ((decide (j.e = 0)) && ((decide (g < 0)) || (decide (o > (wR g))))) from by simp [i])), rfl, rfl, rfl, v⟩
 ·rintro h Q ⟨af, ag, ah, ai, B⟩
  apply kn h (.c af (.c ag (.c ah (.c ai .n))))
  rcases rT H with ⟨u, H⟩ | ⟨u, H⟩
  ·refine W.uI (cb u) <| W.region rfl ?_
   refine WL.run to 2 rfl ?_
   obtain ⟨Y, ab, H⟩ := rE H
   refine WL.sI (sT.calls k _ F a d A E N j 42 O (B.pq 1) M J L I Y ab) (ne.fr rfl rfl) ?_
   rintro ax Q ⟨R, T, U, rfl, ak, ae, ac, ad, Z⟩
   refine ⟨_, rfl, ?_⟩
   let ay : LV := rC.q Y R U T
   have al : Cx [CH.row a d ay] := Ctx.cn 1 B ak
   refine WL.done <| W.sr rfl <| WL.rd to 2 rfl <| W.ret ?_
   obtain ⟨am, an⟩ := sp H
   subst am an
   exact rH (sE rfl rfl) ⟨R, T, U, rfl, al, ae, ac, ad, Z⟩
  refine W.uD (cb (Bool.eq_false_iff.2 u)) <| W.skip <| W.sr rfl <| WL.rd to 2 rfl <| W.ret ?_
  obtain ⟨ao, ap⟩ := sp H
  subst ao ap
  exact rH (sE rfl rfl) ⟨A, E, N, rfl, B, M, J, L, I⟩
def vF.f (k : Nat) (a : rC) (m : Int) : Option ((List Int) × rC) := (uS.f k a).bind fun g => if g = true then (some (([] : List Int), a)) else ((xL.f k a m a.at_).bind fun ⟨h, b⟩ => (uS.f k b).bind fun i => if i = true then (some (([] : List Int), b)) else ((uQ.f k b h).bind fun ⟨d, j, e⟩ => if j = true then (if (d.length + d.length / 4 + 192) * 1 ≤ 281474976710656 then (some (d, e)) else none) else ((sT.f k e 40 a.at_).bind fun l => some (([] : List Int), l))))
theorem vF.calls (k w F a d i h j) (g : rC) (ay : Int) (hp : Pre w F [CH.row a d (rC.q g i j h)]) (aa : j = g.b.length) (X : g.b.length ≤ h) (Z : h ≤ maxLen) (U : Sl KB F F i g.b) (aj : List Int) (l : rC) (H : vF.f k g ay = some (aj, l)) :
    Calls Tryz.prog 33 #[.pointer (some ⟨a, d, none⟩), iv ay] w fun e w' => ∃ J Q x ah L m af, e = .returned (.slice J x Q) ∧ Ctx w F (sR [CH.row a d (rC.q g i j h)]) w' F [CH.row a d (rC.q l L af m), ah] ∧ x = aj.length ∧ Row KB F ah (.slice J x Q) aj ∧ af = l.b.length ∧ l.b.length ≤ m ∧ m ≤ maxLen ∧ Sl KB F F L l.b := by
 have C := Ctx.start hp
 generalize hD : sR [CH.row a d (rC.q g i j h)] = D at C ⊢
 unfold vF.f at H
 refine Calls.ofW Tryz.func33 rfl (by simp [Tryz.ntmps33]) <| W.sr rfl <| WL.rd to 1 rfl <| W.seq <| W.sr rfl <| WL.run to 1 rfl ?_
 obtain ⟨a3, ad, aQ, (aT : Cx [])⟩ := Ctx.fzI 0 C rfl
 obtain ⟨bh, aF, H⟩ := rE H
 refine WL.cq C (uS.calls k _ a3 a d i h j g aT.tX aa X Z (Sl.mono U ad ad) aQ bh aF) (ne.fr rfl rfl) fun am A => ?_
 refine WL.done ?_
 rcases rT H with ⟨p, H⟩ | ⟨p, H⟩
 ·refine W.uI (cb p) <| W.sr rfl <| WL.rd to 1 rfl <| W.ret <| rS ?_
  let bo : LV := rC.q g i j h
  have aU : Cx [CH.row a d bo, CH.emp] := A.pick [0, 1] rfl
  obtain ⟨a7, a8⟩ := sp H
  subst a7 a8
  exact rH (sE rfl rfl) ⟨none, 0, 0, CH.emp, i, h, j, rfl, aU, rfl, (Row.nil _ _), aa, X, Z, U⟩
 refine W.uD (cb (Bool.eq_false_iff.2 p)) <| W.skip <| W.sr rfl <| WL.run to 3 rfl <| WL.lv A 0 1 rfl rfl u_3 rfl rfl <| WL.rd to 1 rfl <| W.sr rfl <| WL.run to 3 rfl ?_
 obtain ⟨⟨au, G⟩, aG, H⟩ := rE H
 let bf : LV := rC.q g i j h
 refine WL.sI (xL.calls k _ F a d i h j g ay g.at_ (A.pq 1) aa X Z U au G aG) (ne.fr rfl rfl) ?_
 rintro bd am ⟨y, B, E, rfl, aV, v, t, u, o⟩
 refine ⟨_, rfl, ?_⟩
 let al : LV := rC.q G y E B
 have ao : Cx [CH.row a d al] := Ctx.cn 1 A aV
 refine WL.rd to 1 rfl <| W.seq <| W.sr rfl <| WL.run to 1 rfl ?_
 obtain ⟨a4, ae, aR, (aW : Cx [])⟩ := Ctx.fzI 0 ao rfl
 obtain ⟨bi, aH, H⟩ := rE H
 refine WL.cq ao (uS.calls k _ a4 a d y B E G aW.tX v t u (Sl.mono o ae ae) aR bi aH) (ne.fr rfl rfl) fun am N => ?_
 refine WL.done ?_
 rcases rT H with ⟨r, H⟩ | ⟨r, H⟩
 ·refine W.uI (cb r) <| W.sr rfl <| WL.rd to 1 rfl <| W.ret <| rS ?_
  have aX : Cx [CH.row a d al, CH.emp] := N.pick [0, 1] rfl
  obtain ⟨a9, ba⟩ := sp H
  subst a9 ba
  exact rH (sE rfl rfl) ⟨none, 0, 0, CH.emp, y, B, E, rfl, aX, rfl, (Row.nil _ _), v, t, u, o⟩
 refine W.uD (cb (Bool.eq_false_iff.2 r)) <| W.skip <| W.sr rfl <| WL.run to 2 rfl ?_
 obtain ⟨⟨bj, bk, ak⟩, aI, H⟩ := rE H
 refine WL.sI (uQ.calls k _ F a d y B E G au (N.pq 1) v t u o bj bk ak aI) (ne.fr rfl rfl) ?_
 rintro bd am ⟨bp, a5, bs, M, R, ag, rfl, aY, aM, bl, bm, aC, ab, V, Y, T⟩
 refine ⟨_, rfl, ?_⟩
 let I : LV := rC.q ak M ag R
 have O : Cx [CH.row a d I] := Ctx.cn 1 N aY
 refine WL.rd to 5 rfl <| W.seq <| W.sr rfl <| WL.rd to 2 rfl ?_
 rcases rT H with ⟨s, H⟩ | ⟨s, H⟩
 ·refine W.uD (cb (zP s)) <| W.skip <| W.sr rfl ?_
  obtain ⟨bq, br, bt, bu, bv, bn, aO, ap, aB⟩ := yC (P := Tryz.prog) 5 KB O tG ti5
  refine WL.val (aO _ _) <| WL.run to 1 rfl ?_
  obtain ⟨aE, H⟩ := rV H
  obtain ⟨aS, a6, be, ai, bw, ac, aP, aZ, S⟩ := sP (P := Tryz.prog) (cb := a5) 5 KB [] [CH.row a d I] ap aB aM aC ap.fro tG ti5 rfl zo5 (by decide) (by decide) (by simpa using aE)
  have a0 : Cx [ai, CH.row a d I] := aZ
  rw [List.nil_append] at ac S
  refine WL.val (aP _ _ _ _ rfl rfl) <| WL.rd to 1 rfl <| W.ret ?_
  have a1 : Cx [CH.row a d I, ai] := a0.pick [1, 0] rfl
  obtain ⟨bb, bc⟩ := sp H
  subst bb bc
  exact rH (sE rfl rfl) ⟨aS, a6, be, ai, M, R, ag, rfl, a1, ac, S, ab, V, Y, T⟩
 refine W.uI (cb (zO s)) <| W.sr rfl <| WL.run to 2 rfl ?_
 obtain ⟨av, aJ, H⟩ := rE H
 refine WL.sI (sT.calls k _ F a d M R ag ak 40 g.at_ (O.pq 1) ab V Y T av aJ) (ne.fr rfl rfl) ?_
 rintro bd am ⟨an, aq, ar, rfl, a2, aN, aK, aL, aD⟩
 refine ⟨_, rfl, ?_⟩
 let bg : LV := rC.q av an ar aq
 have aw : Cx [CH.row a d bg] := Ctx.cn 1 O a2
 refine WL.done <| W.sr rfl <| WL.rd to 1 rfl <| W.ret <| rS ?_
 have ax : Cx [CH.row a d bg, CH.emp] := aw.pick [0, 1] rfl
 obtain ⟨az, aA⟩ := sp H
 subst az aA
 exact rH (sE rfl rfl) ⟨none, 0, 0, CH.emp, an, aq, ar, rfl, ax, rfl, (Row.nil _ _), aN, aK, aL, aD⟩
def wH.f (k : Nat) (b : rC) : Option ((List Int) × rC) := (uS.f k b).bind fun d => if d = true then (some ((List.replicate 32 (0 : Int)), b)) else ((uQ.f k b 32).bind fun ⟨e, g, a⟩ => if g = true then (some (AR 32 (List.replicate 32 (0 : Int)) e, a)) else ((sT.f k a 40 a.at_).bind fun h => some ((List.replicate 32 (0 : Int)), h)))
theorem wH.calls (k w F h i s r t) (m : rC) (hp : Pre w F [CH.row h i (rC.q m s t r)]) (T : t = m.b.length) (O : m.b.length ≤ r) (R : r ≤ maxLen) (M : Sl KB F F s m.b) (X : List Int) (v : rC) (H : wH.f k m = some (X, v)) :
    Calls Tryz.prog 32 #[.pointer (some ⟨h, i, none⟩)] w fun e w' => ∃ aa J ak, e = .returned (.agg (List.toArray (X.map (Value.int .u8)))) ∧ Ctx w F (sR [CH.row h i (rC.q m s t r)]) w' F [CH.row h i (rC.q v aa ak J)] ∧ X.length = 32 ∧ ak = v.b.length ∧ v.b.length ≤ J ∧ J ≤ maxLen ∧ Sl KB F F aa v.b := by
 have C := Ctx.start hp
 generalize hD : sR [CH.row h i (rC.q m s t r)] = D at C ⊢
 unfold wH.f at H
 refine Calls.ofW Tryz.func32 rfl (by simp [Tryz.ntmps32]) <| W.sr rfl ?_
 obtain ⟨d, a1, ax, aD⟩ := sU (P := Tryz.prog) (e := 23) ((List.replicate 32 (0 : Int)).map (Value.int .u8)) C D9 rfl
 refine WL.val (ax _ _) <| WL.done <| W.sr rfl ?_
 obtain ⟨j, a2, ay, ab⟩ := sU (P := Tryz.prog) (e := 23) ((List.replicate 32 (0 : Int)).map (Value.int .u8)) aD D9 rfl
 refine WL.val (ay _ _) <| WL.done <| W.seq <| W.sr rfl <| WL.run to 1 rfl ?_
 obtain ⟨aL, U, aA, (aE : Cx [r0 j ((List.replicate 32 (0 : Int)).map (Value.int .u8)), r0 d ((List.replicate 32 (0 : Int)).map (Value.int .u8))])⟩ := Ctx.fzI 2 ab rfl
 obtain ⟨aT, ao, H⟩ := rE H
 refine WL.cq ab (uS.calls k _ aL h i s r t m aE.tX T O R (Sl.mono M U U) aA aT ao) (ne.fr rfl rfl) fun Y G => ?_
 refine WL.done ?_
 rcases rT H with ⟨x, H⟩ | ⟨x, H⟩
 ·refine W.uI (cb x) <| W.sr rfl <| WL.la G 0 rfl rfl zC rfl (uY yL (rL (List.length_replicate ..))) ?_
  let aS : LV := rC.q m s t r
  refine WL.st G 1 0 ((List.replicate 32 (0 : Int)).map (Value.int .u8)) rfl rfl rfl rfl (Put.all 32 (rL (List.length_replicate ..)) (rL (List.length_replicate ..))) (wN _ _) (uY yL (rL (List.length_replicate ..))) fun Y (ac : Cx [r0 j ((List.replicate 32 (0 : Int)).map (Value.int .u8)), r0 d ((List.replicate 32 (0 : Int)).map (Value.int .u8)), CH.row h i aS]) => ?_
  refine WL.done <| W.ret <| rS ?_
  have aF : Cx [CH.row h i aS] := ac.pick [2] rfl
  obtain ⟨aM, aN⟩ := sp H
  subst aM aN
  exact rH (BU rfl ((.cell rfl (tS (g := d) (off := 0) (o := 0) (cs := (List.replicate 32 (0 : Int)).map (Value.int .u8)) (us := (List.replicate 32 (0 : Int)).map (Value.int .u8)) zC rfl (uY yL (rL (List.length_replicate ..))) (Ctx.rO 1 ac rfl) (xX _)) .nil))) ⟨s, r, t, rfl, aF, (List.length_replicate ..), T, O, R, M⟩
 refine W.uD (cb (Bool.eq_false_iff.2 x)) <| W.skip <| W.sr rfl <| WL.run to 1 rfl ?_
 let aB : LV := rC.q m s t r
 have ad : Cx [CH.row h i aB, r0 j ((List.replicate 32 (0 : Int)).map (Value.int .u8)), r0 d ((List.replicate 32 (0 : Int)).map (Value.int .u8))] := G.pick [2, 0, 1] rfl
 obtain ⟨⟨l, aU, B⟩, ap, H⟩ := rE H
 refine WL.sI (uQ.calls k _ F h i s r t m 32 (ad.pq 1) T O R M l aU B ap) (ne.fr rfl rfl) ?_
 rintro aV Y ⟨aY, aZ, a0, E, I, V, rfl, aG, av, aW, aX, am, S, N, Q, L⟩
 refine ⟨_, rfl, ?_⟩
 let A : LV := rC.q B E V I
 have u : Cx [CH.row h i A, r0 j ((List.replicate 32 (0 : Int)).map (Value.int .u8)), r0 d ((List.replicate 32 (0 : Int)).map (Value.int .u8))] := Ctx.cn 1 ad aG
 refine WL.rd to 5 rfl <| W.seq <| W.sr rfl <| WL.rd to 2 rfl ?_
 rcases rT H with ⟨y, H⟩ | ⟨y, H⟩
 ·refine W.uD (cb (zP y)) <| W.skip <| W.sr rfl <| WL.val (Yl.FA 0 32 32 rfl zC sz5 rfl rfl rfl (by simp) (by decide) (by decide) (by decide) rfl) <| WL.run to 1 rfl ?_
  obtain ⟨a3, az, aH⟩ := FM (P := Tryz.prog) (ps1 := [CH.row h i A]) (ps2 := [r0 d ((List.replicate 32 (0 : Int)).map (Value.int .u8))]) (te2 := 24) (a := (List.replicate 32 (0 : Int))) u (Put.all 32 (rL (List.length_replicate ..)) (rL (CW (List.length_replicate ..)))) (BO (rL (List.length_replicate ..))) (List.length_replicate ..) av am (u.fro) tG sz5
  have p : (AR 32 (List.replicate 32 (0 : Int)) l).length = 32 := CW (List.length_replicate ..)
  have ae : Cx [CH.row h i A, r0 j ((AR 32 (List.replicate 32 (0 : Int)) l).map (Value.int .u8)), r0 d ((List.replicate 32 (0 : Int)).map (Value.int .u8))] := aH
  refine WL.val (az _ _ _ _ _ _ rfl rfl) <| WL.done <| W.sr rfl <| WL.la ae 1 rfl rfl zC rfl (uY yL (rL p)) <| WL.st ae 2 0 ((AR 32 (List.replicate 32 (0 : Int)) l).map (Value.int .u8)) rfl rfl rfl rfl (Put.all 32 (rL (List.length_replicate ..)) (rL p)) (wN _ _) (uY yL (rL p)) fun Y (af : Cx [CH.row h i A, r0 j ((AR 32 (List.replicate 32 (0 : Int)) l).map (Value.int .u8)), r0 d ((AR 32 (List.replicate 32 (0 : Int)) l).map (Value.int .u8))]) => ?_
  refine WL.done <| W.ret ?_
  have aI : Cx [CH.row h i A] := af.pick [0] rfl
  obtain ⟨aO, aP⟩ := sp H
  subst aO aP
  exact rH (BU rfl ((.cell rfl (tS (g := d) (off := 0) (o := 0) (cs := (AR 32 (List.replicate 32 (0 : Int)) l).map (Value.int .u8)) (us := (AR 32 (List.replicate 32 (0 : Int)) l).map (Value.int .u8)) zC rfl (uY yL (rL p)) (Ctx.rO 2 af rfl) (xX _)) .nil))) ⟨E, I, V, rfl, aI, p, S, N, Q, L⟩
 refine W.uI (cb (zO y)) <| W.sr rfl <| WL.run to 4 rfl <| WL.lv u 0 1 rfl rfl u_3 rfl rfl ?_
 obtain ⟨al, aq, H⟩ := rE H
 refine WL.sI (sT.calls k _ F h i E I V B 40 B.at_ (u.pq 1) S N Q L al aq) (ne.fr rfl rfl) ?_
 rintro aV Y ⟨Z, ai, aj, rfl, aJ, aw, ar, au, an⟩
 refine ⟨_, rfl, ?_⟩
 let aC : LV := rC.q al Z aj ai
 have ag : Cx [CH.row h i aC, r0 j ((List.replicate 32 (0 : Int)).map (Value.int .u8)), r0 d ((List.replicate 32 (0 : Int)).map (Value.int .u8))] := Ctx.cn 1 u aJ
 refine WL.done <| W.sr rfl <| WL.la ag 1 rfl rfl zC rfl (uY yL (rL (List.length_replicate ..))) <| WL.st ag 2 0 ((List.replicate 32 (0 : Int)).map (Value.int .u8)) rfl rfl rfl rfl (Put.all 32 (rL (List.length_replicate ..)) (rL (List.length_replicate ..))) (wN _ _) (uY yL (rL (List.length_replicate ..))) fun Y (ah : Cx [CH.row h i aC, r0 j ((List.replicate 32 (0 : Int)).map (Value.int .u8)), r0 d ((List.replicate 32 (0 : Int)).map (Value.int .u8))]) => ?_
 refine WL.done <| W.ret <| rS ?_
 have aK : Cx [CH.row h i aC] := ah.pick [0] rfl
 obtain ⟨aQ, aR⟩ := sp H
 subst aQ aR
 exact rH (BU rfl ((.cell rfl (tS (g := d) (off := 0) (o := 0) (cs := (List.replicate 32 (0 : Int)).map (Value.int .u8)) (us := (List.replicate 32 (0 : Int)).map (Value.int .u8)) zC rfl (uY yL (rL (List.length_replicate ..))) (Ctx.rO 2 ah rfl) (xX _)) .nil))) ⟨Z, ai, aj, rfl, aK, (List.length_replicate ..), aw, ar, au, an⟩
def xS.f (k : Nat) (a : rC) : Option Int := some (rB ((a.b.length : Int) - a.at_))
theorem xS.calls (k w F p r h d j) (a : rC) (hp : Pre w F []) (L : j = a.b.length) (I : a.b.length ≤ d) (J : d ≤ maxLen) (G : Sl KB F F h a.b) (i : CH.le (CH.row p r (rC.q a h j d)) F) (s : Int) (H : xS.f k a = some s) :
    Calls Tryz.prog 60 #[.pointer (some ⟨p, r, none⟩)] w fun e w' => e = .returned (iv s) ∧ (∃ u, w' = w.drewN u) := by
 have C := Ctx.start hp
 generalize sR [] = D at C
 have B : ∃ u, w = w.drewN u := ⟨0, rfl⟩
 unfold xS.f at H
 refine Calls.ofW Tryz.func60 rfl (by simp [Tryz.ntmps60]) <| W.sr rfl <| WL.rd to 1 rfl <| W.seq <| W.sr rfl <| WL.run to 1 rfl <| WL.val (Yl.ET rfl rfl JF) <| WL.done <| W.uD rfl ?_
 refine W.skip <| W.seq <| W.tY (by kernel_rfl) (by kernel_rfl) rfl ?_
 refine WQ.run to 3 rfl ?_
 let y : LV := rC.q a h j d
 refine WQ.vl (fun _ => Yl.Ad (g := p) (off := r) (o := 0) (cs := y) (v := .slice h j d) rfl tG rfl (Sub.mono ((C.drewN _).fro) i) rfl) ?_
 refine WQ.vl (fun _ => Yl.Bw (A := h) (l := j) (q := d) (n := (a.b.length : Int)) rfl tG (by omega)) ?_
 refine WQ.run to 3 rfl <| WQ.vl (fun _ => Yl.Ad (g := p) (off := r) (o := 1) (cs := y) (v := iv a.at_) rfl u_3 rfl (Sub.mono ((C.drewN _).fro) i) rfl) ?_
 refine WQ.run to 2 rfl <| WQ.done (fun m => ?_)
 have E := Ctx.drewN C m
 have t := yX B m
 refine W.ret ?_
 have x := Option.some.inj H
 subst x
 exact rH (sE rfl rfl) ⟨rfl, t⟩
def wX.f (k : Nat) (a : rC) : Option Int := some a.e
theorem wX.calls (k w F j r i d m) (a : rC) (hp : Pre w F []) (B : m = a.b.length) (y : a.b.length ≤ d) (A : d ≤ maxLen) (x : Sl KB F F i a.b) (l : CH.le (CH.row j r (rC.q a i m d)) F) (h : Int) (H : wX.f k a = some h) :
    Calls Tryz.prog 61 #[.pointer (some ⟨j, r, none⟩)] w fun e w' => e = .returned (iv h) ∧ (∃ p, w' = w.drewN p) := by
 have C := Ctx.start hp
 generalize sR [] = D at C
 have t : ∃ p, w = w.drewN p := ⟨0, rfl⟩
 unfold wX.f at H
 refine Calls.ofW Tryz.func61 rfl (by simp [Tryz.ntmps61]) <| W.sr rfl <| WL.rd to 1 rfl <| W.seq <| W.sr rfl <| WL.run to 1 rfl <| WL.val (Yl.ET rfl rfl JF) <| WL.done <| W.uD rfl ?_
 refine W.skip <| W.sr rfl <| WL.run to 3 rfl ?_
 let u : LV := rC.q a i m d
 refine WL.val (Yl.Ad (g := j) (off := r) (o := 2) (cs := u) (v := iv a.e) rfl JB rfl (Sub.mono (C.fro) l) rfl) <| WL.rd to 1 rfl <| W.ret ?_
 have s := Option.some.inj H
 subst s
 exact rH (sE rfl rfl) ⟨rfl, t⟩
def xM.f (k : Nat) (a : rC) : Option (Int × rC) := (uS.f k a).bind fun e => (if e = true then (some (false)) else ((xS.f k a).bind fun g => some (decide (g > 0)))).bind fun d => if d = true then ((sT.f k a 43 a.at_).bind fun b => (wX.f k b).bind fun h => some (h, b)) else ((wX.f k a).bind fun i => some (i, a))
theorem xM.calls (k w F d g j i l) (h : rC) (hp : Pre w F [CH.row d g (rC.q h j l i)]) (t : l = h.b.length) (r : h.b.length ≤ i) (s : i ≤ maxLen) (p : Sl KB F F j h.b) (X : Int) (u : rC) (H : xM.f k h = some (X, u)) :
    Calls Tryz.prog 34 #[.pointer (some ⟨d, g, none⟩)] w fun e w' => ∃ T G V, e = .returned (iv X) ∧ Ctx w F (sR [CH.row d g (rC.q h j l i)]) w' F [CH.row d g (rC.q u T V G)] ∧ V = u.b.length ∧ u.b.length ≤ G ∧ G ≤ maxLen ∧ Sl KB F F T u.b := by
 have C := Ctx.start hp
 generalize hD : sR [CH.row d g (rC.q h j l i)] = D at C ⊢
 unfold xM.f at H
 refine Calls.ofW Tryz.func34 rfl (by simp [Tryz.ntmps34]) <| W.sr rfl <| WL.rd to 1 rfl <| W.seq <| W.sr rfl <| WL.run to 1 rfl ?_
 obtain ⟨au, N, af, (ak : Cx [])⟩ := Ctx.fzI 0 C rfl
 obtain ⟨aD, Y, H⟩ := rE H
 refine WL.cq C (uS.calls k _ au d g j i l h ak.tX t r s (Sl.mono p N N) af aD Y) (ne.fr rfl rfl) fun y B => ?_
 refine WL.run to 2 rfl ?_
 obtain ⟨aC, a, H⟩ := rE H
 let aj : LV := rC.q h j l i
 refine WL.cut (fun m y => m 10 = .bool aC ∧ m 0 = .pointer (some ⟨d, g, none⟩) ∧ Ctx w F D y F [CH.row d g aj]) ?_ ?_
 ·rcases rT a with ⟨v, a⟩ | ⟨v, a⟩
  ·refine WL.kn 6 (cb (zP v)) <| WL.sN 3 6 true rfl rfl <| WL.run to 1 rfl ?_
   cases a
   exact WL.done ⟨rfl, rfl, B⟩
  refine WL.kn 6 (cb (zO v)) <| WL.run to 1 rfl <| WL.on rfl rfl ?_
  obtain ⟨av, O, ag, (al : Cx [])⟩ := Ctx.fzI 0 B rfl
  obtain ⟨aE, Z, a⟩ := rE a
  refine WL.cq B (xS.calls k _ av d g j i l h al.tX t r s (Sl.mono p O O) ag aE Z) (ne.fr rfl rfl) fun y am => ?_
  refine WL.run to 2 rfl ?_
  cases a
  exact WL.done ⟨rfl, rfl, am⟩
 ·rintro m y ⟨ad, ae, o⟩
  apply kn m (.c ad (.c ae .n))
  rcases rT H with ⟨x, H⟩ | ⟨x, H⟩
  ·refine W.uI (cb x) <| W.region rfl ?_
   refine WL.run to 4 rfl <| WL.lv o 0 1 rfl rfl u_3 rfl rfl ?_
   obtain ⟨S, aa, H⟩ := rE H
   refine WL.sI (sT.calls k _ F d g j i l h 43 h.at_ (o.pq 1) t r s p S aa) (ne.fr rfl rfl) ?_
   rintro aI y ⟨A, E, R, rfl, an, M, J, L, I⟩
   refine ⟨_, rfl, ?_⟩
   let aH : LV := rC.q S A R E
   have U : Cx [CH.row d g aH] := Ctx.cn 1 o an
   refine WL.done <| W.sr rfl <| WL.run to 1 rfl ?_
   obtain ⟨aw, P, ah, (ao : Cx [])⟩ := Ctx.fzI 0 U rfl
   obtain ⟨aF, ab, H⟩ := rE H
   refine WL.cq U (wX.calls k _ aw d g A E R S ao.tX M J L (Sl.mono I P P) ah aF ab) (ne.fr rfl rfl) fun y ap => ?_
   refine WL.rd to 1 rfl <| W.ret ?_
   obtain ⟨ay, az⟩ := sp H
   subst ay az
   exact rH (sE rfl rfl) ⟨A, E, R, rfl, ap, M, J, L, I⟩
  refine W.uD (cb (Bool.eq_false_iff.2 x)) <| W.skip <| W.sr rfl <| WL.run to 1 rfl ?_
  obtain ⟨ax, Q, ai, (aq : Cx [])⟩ := Ctx.fzI 0 o rfl
  obtain ⟨aG, ac, H⟩ := rE H
  refine WL.cq o (wX.calls k _ ax d g j i l h aq.tX t r s (Sl.mono p Q Q) ai aG ac) (ne.fr rfl rfl) fun y ar => ?_
  refine WL.rd to 1 rfl <| W.ret ?_
  obtain ⟨aA, aB⟩ := sp H
  subst aA aB
  exact rH (sE rfl rfl) ⟨j, i, l, rfl, ar, t, r, s, p⟩
def rQ.l1 : Nat → List Int → Int → sX → Option sX
  | 0, _, _, _ => none
  | k + 1, g, a, d => if a < (g.length : Int) then (if 0 ≤ a ∧ a < (g.length : Int) then ((xB.f k (wR (g.getD a.toNat 0))).bind fun e => if (d.b.length + e.length + (d.b.length + e.length) / 4 + 192) * 1 ≤ 281474976710656 then (rQ.l1 k g (rB (a + 1)) (⟨d.b ++ e⟩ : sX)) else none) else none) else (some d)
def rQ.f (k : Nat) (b : sX) (d : List Int) : Option sX := (rQ.l1 k d 0 b).bind fun a => some a
theorem rQ.calls (k w F B E aa ad Y ai) (al : sX) (aF V ag) (l : List Int) (hp : Pre w F [CH.row B E [.slice aa Y ad], ai]) (aR : Y = al.b.length) (aQ : Row KB F ai (.slice aa Y ad) al.b) (a0 : ag = l.length) (aY : l.length ≤ V) (aZ : V ≤ maxLen) (aP : Sl KI F F aF l) (aj : sX) (H : rQ.f k al l = some aj) :
    Calls Tryz.prog 23 #[.pointer (some ⟨B, E, none⟩), .slice aF ag V] w fun e w' => ∃ ab ae T ah, e = .returned (.tuple #[]) ∧ Ctx w F (sR [CH.row B E [.slice aa Y ad], ai]) w' F [CH.row B E [.slice ab T ae], ah] ∧ T = aj.b.length ∧ Row KB F ah (.slice ab T ae) aj.b := by
 have C := Ctx.start hp
 generalize hD : sR [CH.row B E [.slice aa Y ad], ai] = D at C ⊢
 unfold rQ.f at H
 refine Calls.ofW Tryz.func23 rfl (by simp [Tryz.ntmps23]) <| W.sr rfl <| WL.run to 1 rfl <| WL.ln (l.length : Int) rfl tM (by omega) <| WL.rd to 1 rfl ?_
 obtain ⟨U, a, H⟩ := rE H
 refine W.vG (fun p Z => ∃ G J s O, Ctx w F D Z F [CH.row B E [.slice G s J], O] ∧ s = U.b.length ∧ Row KB F O (.slice G s J) U.b) ?_ ?_
 ·refine W.block <| W.loop (fun aO p Z => ∃ (g : Int) (A : sX), ∃ j o h u, Kn p [(0, .pointer (some ⟨B, E, none⟩)), (6, .slice aF ag V), (7, iv (l.length : Int)), (8, iv g)] ∧ Ctx w F D Z F [CH.row B E [.slice j h o], u] ∧ oW KB F u j h o A.b (rQ.l1 aO l g A = some U)) k ⟨0, al, aa, ad, Y, ai, rfl, C, aR, aQ, a⟩ ?_
  clear a
  rintro aO p Z ⟨g, A, j, o, h, u, az, Q, aw, X, a⟩
  rcases aO with _ | af
  · exact absurd a (by simp [rQ.l1])
  rw [rQ.l1] at a
  apply ks p az
  refine W.sr rfl <| WL.rd to 1 rfl <| W.seq ?_
  rcases rT a with ⟨M, a⟩ | ⟨M, a⟩
  ·refine W.cT M rfl <| W.skip <| W.seq <| W.block <| W.sr rfl ?_
   obtain ⟨aU, a⟩ := rV a
   obtain ⟨aX, aV, am, ar⟩ := aP (by omega)
   refine WL.val (Yl.rW (i := g) rfl rfl am tM sz3 (by omega)) ?_
   obtain ⟨aT, aA, aB⟩ := ar g.toNat _ (getD_some (d := 0) (by omega))
   obtain rfl := aA
   refine WL.val (Yl.load (v := iv (l.getD g.toNat 0)) rfl u_3 rfl (((Q.fro)).cell (aB 0 _ rfl))) <| WL.rd to 1 rfl ?_
   let aE : CH := CH.row B E [.slice j h o]
   refine W.uF [([8, 11], aE)] (by kernel_rfl) ?_
   have R := Ctx.drewN Q 1
   refine WA.sZ [(0, none), (1, none), (2, none), (3, none), (4, some 0), (5, none), (6, none)] ⟨(Ctx.rO 0 R rfl), trivial⟩ (by kernel_rfl) <| WT.run to 4 rfl <| WT.lv 0 rfl rfl rfl tG rfl rfl <| WT.run to 1 rfl <| WT.val rfl (fun _ hC_ => Yl.conv (m := l.getD g.toNat 0) (r := wR (l.getD g.toNat 0)) rfl u_3 Ab rfl) ?_
   refine WT.done ?_
   obtain ⟨ak, au, a⟩ := rE a
   refine WA.up1 7 (by kernel_rfl) (Up.sI rfl (by kernel_rfl) rfl (xB.calls af _ F (wR (l.getD g.toNat 0)) R.tX  ak au) (ne.fr rfl rfl) ?_)
   rintro a4 Z ⟨aW, aM, a1, x, rfl, aH, ax, ao⟩
   have S : Cx [x, aE, u] := Ctx.wS R aH
   refine ⟨_, rfl, ⟨(Ctx.rO 1 S rfl), trivial⟩, ?_⟩
   obtain ⟨aq, a⟩ := rV a
   obtain ⟨I, L, N, y, a2, ay, aC, aI, ap⟩ := sP (P := Tryz.prog) (cb := aM) 5 KB [x, aE] [] S X ax (Row.sl ao) (Ctx.rO 0 S rfl) tG ti5 rfl zo5 (by decide) (by decide) (by simpa using aq)
   have ac : Cx [x, aE, y] := aI
   refine WA.up1 8 (by kernel_rfl) (Up.val rfl rfl rfl (aC _ _ _ _ rfl rfl) ⟨trivial, trivial⟩ ?_)
   refine WA.sZ [(9, none), (10, none)] ⟨(Ctx.rO 1 ac rfl), trivial⟩ (by kernel_rfl) <| WT.run to 2 rfl <| WT.done ?_
   obtain ⟨a3, aD, aJ⟩ := vH (P := Tryz.prog) (ps1 := [x]) (ps2 := [y]) (t := 24) 0 [.slice I N L] (.slice I N L) ac rfl rfl (rR rfl) AP
   let aS : CH := CH.row B E [.slice I N L]
   have aK : Cx [x, aS, y] := aJ
   refine WA.up1 11 (by kernel_rfl) (Up.skip rfl rfl (aD _ _ _ _ rfl rfl) ⟨trivial, trivial⟩ ?_)
   refine WA.done (by kernel_rfl) <| tH <| W.region rfl ?_
   refine WL.rd to 2 rfl ?_
   have aL : Cx [aS, y] := aK.pick [1, 2] rfl
   exact rF ⟨af, Nat.lt_succ_self _, rB (g + 1), (⟨A.b ++ ak⟩ : sX), I, L, N, y, rfl, aL, ay, ap, a⟩
  refine W.cF M rfl <| W.exit <| rM <| rM <| sL ?_
  cases a
  refine rF ?_
  exact ⟨j, o, h, u, Q, aw, X⟩
 ·rintro p Z ⟨G, J, s, O, aG, av, an⟩
  have aN := Option.some.inj H
  subst aN
  exact B2 (DU rfl ) ⟨G, J, s, O, rfl, aG, av, an⟩
def uT.f (k : Nat) (d : sX) (e : List Int) : Option sX := (Al.f k e).bind fun a => if (d.b.length + a.length + (d.b.length + a.length) / 4 + 192) * 1 ≤ 281474976710656 then (some (⟨d.b ++ a⟩ : sX)) else none
theorem uT.calls (k w F g h p v o A) (N : sX) (M j x) (u : List Int) (hp : Pre w F [CH.row g h [.slice p o v], A]) (an : o = N.b.length) (aj : Row KB F A (.slice p o v) N.b) (X : x = u.length) (U : u.length ≤ j) (V : j ≤ maxLen) (R : Sl KB F F M u) (B : sX) (H : uT.f k N u = some B) :
    Calls Tryz.prog 25 #[.pointer (some ⟨g, h, none⟩), .slice M x j] w fun e w' => ∃ G J y L, e = .returned (.tuple #[]) ∧ Ctx w F (sR [CH.row g h [.slice p o v], A]) w' F [CH.row g h [.slice G y J], L] ∧ y = B.b.length ∧ Row KB F L (.slice G y J) B.b := by
 have C := Ctx.start hp
 generalize hD : sR [CH.row g h [.slice p o v], A] = D at C ⊢
 unfold uT.f at H
 refine Calls.ofW Tryz.func25 rfl (by simp [Tryz.ntmps25]) ?_
 let E : CH := CH.row g h [.slice p o v]
 refine W.uF [([7, 10], E)] (by kernel_rfl) ?_
 have r := Ctx.drewN C 1
 refine WA.sZ [(0, none), (1, none), (2, none), (3, none), (4, some 0), (5, none)] ⟨(Ctx.rO 0 r rfl), trivial⟩ (by kernel_rfl) <| WT.run to 4 rfl <| WT.lv 0 rfl rfl rfl tG rfl rfl <| WT.run to 1 rfl <| WT.done ?_
 obtain ⟨ak, T, H⟩ := rE H
 refine WA.up1 6 (by kernel_rfl) (Up.sI rfl (by kernel_rfl) rfl (Al.calls k _ F M j x u r.tX X U V R ak T) (ne.fr rfl rfl) ?_)
 rintro ar au ⟨am, ah, ao, a, rfl, ac, Y, O⟩
 have s : Cx [a, E, A] := Ctx.wS r ac
 refine ⟨_, rfl, ⟨(Ctx.rO 1 s rfl), trivial⟩, ?_⟩
 obtain ⟨S, H⟩ := rV H
 obtain ⟨i, l, m, d, ap, Z, aa, ad, Q⟩ := sP (P := Tryz.prog) (cb := ah) 5 KB [a, E] [] s aj Y (Row.sl O) (Ctx.rO 0 s rfl) tG ti5 rfl zo5 (by decide) (by decide) (by simpa using S)
 have I : Cx [a, E, d] := ad
 refine WA.up1 7 (by kernel_rfl) (Up.val rfl rfl rfl (aa _ _ _ _ rfl rfl) ⟨trivial, trivial⟩ ?_)
 refine WA.sZ [(8, none), (9, none)] ⟨(Ctx.rO 1 I rfl), trivial⟩ (by kernel_rfl) <| WT.run to 2 rfl <| WT.done ?_
 obtain ⟨aq, ab, ae⟩ := vH (P := Tryz.prog) (ps1 := [a]) (ps2 := [d]) (t := 24) 0 [.slice i m l] (.slice i m l) I rfl rfl (rR rfl) AP
 let al : CH := CH.row g h [.slice i m l]
 have af : Cx [a, al, d] := ae
 refine WA.up1 10 (by kernel_rfl) (Up.skip rfl rfl (ab _ _ _ _ rfl rfl) ⟨trivial, trivial⟩ ?_)
 refine WA.done (by kernel_rfl) ?_
 have ag : Cx [al, d] := af.pick [1, 2] rfl
 have ai := Option.some.inj H
 subst ai
 exact B2 (DU rfl ) ⟨i, l, m, d, rfl, ag, Z, Q⟩
def vW.f (k : Nat) (a : sX) (d : List Int) : Option sX := if (a.b.length + d.length + (a.b.length + d.length) / 4 + 192) * 1 ≤ 281474976710656 then (some (⟨a.b ++ d⟩ : sX)) else none
theorem vW.calls (k w F g h p s o v) (J : sX) (d : List Int) (hp : Pre w F [CH.row g h [.slice p o s], v]) (ag : o = J.b.length) (ae : Row KB F v (.slice p o s) J.b) (a : d.length = 32) (x : sX) (H : vW.f k J d = some x) :
    Calls Tryz.prog 24 #[.pointer (some ⟨g, h, none⟩), .agg (List.toArray (d.map (Value.int .u8)))] w fun e w' => ∃ A G u I, e = .returned (.tuple #[]) ∧ Ctx w F (sR [CH.row g h [.slice p o s], v]) w' F [CH.row g h [.slice A u G], I] ∧ u = x.b.length ∧ Row KB F I (.slice A u G) x.b := by
 have C := Ctx.start hp
 generalize hD : sR [CH.row g h [.slice p o s], v] = D at C ⊢
 unfold vW.f at H
 refine Calls.ofW Tryz.func24 rfl (by simp [Tryz.ntmps24]) <| W.sr rfl ?_
 obtain ⟨ad, ah, R, X⟩ := uR (P := Tryz.prog) 23 (.agg (List.toArray (d.map (Value.int .u8)))) (d.map (Value.int .u8)) C rfl
 refine WL.val (R _ _ _ rfl) <| WL.done ?_
 let y : CH := CH.row g h [.slice p o s]
 obtain ⟨E, U, V, (Y : Cx [y, v])⟩ := Ctx.fzI 0 X rfl
 have L := Row.mono ae U
 refine W.uF [([6, 9], y)] (by kernel_rfl) ?_
 have r := Ctx.drewN Y 1
 refine WA.sZ [(0, none), (1, none), (2, none), (3, none), (4, some 0), (5, none)] ⟨(Ctx.rO 0 r rfl), trivial⟩ (by kernel_rfl) <| WT.run to 4 rfl <| WT.lv 0 rfl rfl rfl tG rfl rfl ?_
 have N : Sl KB E E (some ⟨ad, 0 + 0, none⟩) d := Sl.Kj (cs := d.map (Value.int .u8)) (pre := []) (post := []) V (by first | (simp only [List.length_append, List.length_map, List.length_cons, List.length_nil, a]; done) | simp [a]) (by first | (simp only [List.length_append, List.length_map, List.length_cons, List.length_nil, a]; done) | simp [a])
 refine WT.val rfl (fun _ hC_ => Yl.FA 0 32 32 rfl zC sz5 rfl rfl rfl (by simp) (by decide) (by decide) (by decide) rfl) ?_
 refine WT.done ?_
 obtain ⟨O, H⟩ := rV H
 obtain ⟨i, j, l, m, ai, Q, S, Z, M⟩ := sP (P := Tryz.prog) (cb := 32) 5 KB [y] [] r L (a).symm N r.fro tG ti5 rfl zo5 (by decide) (by decide) (by simpa using O)
 have B : Cx [y, m] := Z
 refine WA.up1 6 (by kernel_rfl) (Up.val rfl rfl rfl (S _ _ _ _ rfl rfl) ⟨trivial, trivial⟩ ?_)
 refine WA.sZ [(7, none), (8, none)] ⟨(Ctx.rO 0 B rfl), trivial⟩ (by kernel_rfl) <| WT.run to 2 rfl <| WT.done ?_
 obtain ⟨aj, T, aa⟩ := vH (P := Tryz.prog) (ps1 := []) (ps2 := [m]) (t := 24) 0 [.slice i l j] (.slice i l j) B rfl rfl (rR rfl) AP
 let af : CH := CH.row g h [.slice i l j]
 have ab : Cx [af, m] := aa
 refine WA.up1 9 (by kernel_rfl) (Up.skip rfl rfl (T _ _ _ _ rfl rfl) ⟨trivial, trivial⟩ ?_)
 refine WA.done (by kernel_rfl) ?_
 have ac := Option.some.inj H
 subst ac
 exact B2 (DU rfl ) ⟨i, j, l, m, rfl, (Ctx.Ea ab (CH.le_refl _)), Q, M⟩
def tZ.f (k : Nat) (d : rC) : Option (Int × rC) := (vM.f k d 1099511627776).bind fun ⟨a, b⟩ => some (rB a, b)
theorem tZ.calls (k w F d g j i l) (a : rC) (hp : Pre w F [CH.row d g (rC.q a j l i)]) (S : l = a.b.length) (Q : a.b.length ≤ i) (R : i ≤ maxLen) (P : Sl KB F F j a.b) (y : Int) (h : rC) (H : tZ.f k a = some (y, h)) :
    Calls Tryz.prog 31 #[.pointer (some ⟨d, g, none⟩)] w fun e w' => ∃ t o x, e = .returned (iv y) ∧ Ctx w F (sR [CH.row d g (rC.q a j l i)]) w' F [CH.row d g (rC.q h t x o)] ∧ x = h.b.length ∧ h.b.length ≤ o ∧ o ≤ maxLen ∧ Sl KB F F t h.b := by
 have C := Ctx.start hp
 generalize hD : sR [CH.row d g (rC.q a j l i)] = D at C ⊢
 unfold tZ.f at H
 refine Calls.ofW Tryz.func31 rfl (by simp [Tryz.ntmps31]) <| W.sr rfl <| WL.rd to 1 rfl <| W.sr rfl <| WL.run to 1 rfl ?_
 obtain ⟨⟨p, A⟩, E, H⟩ := rE H
 let T : LV := rC.q a j l i
 refine WL.sI (vM.calls k _ F d g j i l a 1099511627776 (C.pq 1) S Q R P p A E) (ne.fr rfl rfl) ?_
 rintro V X ⟨s, u, v, rfl, L, J, G, I, B⟩
 refine ⟨_, rfl, ?_⟩
 let U : LV := rC.q A s v u
 have M : Cx [CH.row d g U] := Ctx.cn 1 C L
 refine WL.val (Yl.conv (m := p) (r := rB p) rfl Ab u_3 rfl) <| WL.rd to 1 rfl <| W.ret ?_
 obtain ⟨N, O⟩ := sp H
 subst N O
 exact rH (sE rfl rfl) ⟨s, u, v, rfl, M, J, G, I, B⟩
def vK.f (k : Nat) (d : rC) (e : Int) : Option (Int × rC) := (vM.f k d (wR e)).bind fun ⟨a, b⟩ => some (rB a, b)
theorem vK.calls (k w F d g j i l) (a : rC) (o : Int) (hp : Pre w F [CH.row d g (rC.q a j l i)]) (T : l = a.b.length) (R : a.b.length ≤ i) (S : i ≤ maxLen) (Q : Sl KB F F j a.b) (A : Int) (h : rC) (H : vK.f k a o = some (A, h)) :
    Calls Tryz.prog 43 #[.pointer (some ⟨d, g, none⟩), iv o] w fun e w' => ∃ u p y, e = .returned (iv A) ∧ Ctx w F (sR [CH.row d g (rC.q a j l i)]) w' F [CH.row d g (rC.q h u y p)] ∧ y = h.b.length ∧ h.b.length ≤ p ∧ p ≤ maxLen ∧ Sl KB F F u h.b := by
 have C := Ctx.start hp
 generalize hD : sR [CH.row d g (rC.q a j l i)] = D at C ⊢
 unfold vK.f at H
 refine Calls.ofW Tryz.func43 rfl (by simp [Tryz.ntmps43]) <| W.sr rfl <| WL.rd to 1 rfl <| W.sr rfl <| WL.run to 2 rfl <| WL.val (Yl.conv (m := o) (r := wR o) rfl u_3 Ab rfl) ?_
 obtain ⟨⟨s, B⟩, G, H⟩ := rE H
 let U : LV := rC.q a j l i
 refine WL.sI (vM.calls k _ F d g j i l a (wR o) (C.pq 1) T R S Q s B G) (ne.fr rfl rfl) ?_
 rintro X Y ⟨t, v, x, rfl, M, L, I, J, E⟩
 refine ⟨_, rfl, ?_⟩
 let V : LV := rC.q B t x v
 have N : Cx [CH.row d g V] := Ctx.cn 1 C M
 refine WL.val (Yl.conv (m := s) (r := rB s) rfl Ab u_3 rfl) <| WL.rd to 1 rfl <| W.ret ?_
 obtain ⟨O, P⟩ := sp H
 subst O P
 exact rH (sE rfl rfl) ⟨t, v, x, rfl, N, L, I, J, E⟩
def uB.l1 : Nat → Int → Int → rC → bT → Option (rC × bT)
  | 0, _, _, _, _ => none
  | k + 1, j, b, d, a => if b < j then ((tZ.f k d).bind fun ⟨e, g⟩ => if (a.Workers.length + 1 + (a.Workers.length + 1) / 4 + 192) * 8 ≤ 281474976710656 then ((tZ.f k g).bind fun ⟨h, i⟩ => if (a.Indexes.length + 1 + (a.Indexes.length + 1) / 4 + 192) * 8 ≤ 281474976710656 then (uB.l1 k j (rB (b + 1)) i (⟨a.Payload, a.State, a.Attempt, a.Epoch, a.Until, a.Workers ++ [e], a.Indexes ++ [h], a.rI, a.Value⟩ : bT)) else none) else none) else (some (d, a))
def uB.l2 : Nat → Int → Int → rC → bT → Option (rC × bT)
  | 0, _, _, _, _ => none
  | k + 1, b, d, e, a => if d < b then ((tZ.f k e).bind fun ⟨g, h⟩ => (vF.f k h 32).bind fun ⟨i, j⟩ => if (a.rI.length + 1 + (a.rI.length + 1) / 4 + 192) * 32 ≤ 281474976710656 then (uB.l2 k b (rB (d + 1)) j (⟨a.Payload, a.State, a.Attempt, a.Epoch, a.Until, a.Workers, a.Indexes, a.rI ++ [(⟨g, i⟩ : rA)], a.Value⟩ : bT)) else none) else (some (e, a))
def uB.f (k : Nat) (A : rC) : Option (bT × rC) := (vF.f k A 64).bind fun ⟨l, m⟩ => (tZ.f k m).bind fun ⟨o, p⟩ => (tZ.f k p).bind fun ⟨r, s⟩ => (tZ.f k s).bind fun ⟨t, u⟩ => (tZ.f k u).bind fun ⟨v, w⟩ => (vK.f k w 8).bind fun ⟨x, y⟩ => (uB.l1 k x 0 y (⟨l, o, r, t, v, ([] : List Int), ([] : List Int), ([] : List rA), ([] : List Int)⟩ : bT)).bind fun ⟨i, j⟩ => (vK.f k i 8).bind fun ⟨b, d⟩ => (uB.l2 k b 0 d j).bind fun ⟨h, a⟩ => (vF.f k h 32).bind fun ⟨e, g⟩ => some ((⟨a.Payload, a.State, a.Attempt, a.Epoch, a.Until, a.Workers, a.Indexes, a.rI, e⟩ : bT), g)
theorem uB.calls (k w F d h dW cR dX) (cc : rC) (hp : Pre w F [CH.row d h (rC.q cc dW dX cR)]) (hT : dX = cc.b.length) (hQ : cc.b.length ≤ cR) (hR : cR ≤ maxLen) (hP : Sl KB F F dW cc.b) (ay : bT) (cQ : rC) (H : uB.f k cc = some (ay, cQ)) :
    Calls Tryz.prog 44 #[.pointer (some ⟨d, h, none⟩)] w fun e w' => ∃ F' c2 dr ck dP c3 ds cm dQ c4 dt co dR c5 du cp dS c6 dv cr dT c7 cf dO, e = .returned (.agg (List.toArray (bT.q ay c2 ck dr c3 cm ds c4 co dt c5 cp du c6 cr dv))) ∧ CH.le F F' ∧ Ctx w F (sR [CH.row d h (rC.q cc dW dX cR)]) w' F' [CH.row d h (rC.q cQ c7 dO cf), dP, dQ, dR, dS, dT] ∧ ck = ay.Payload.length ∧ Row KB F' dP (.slice c2 ck dr) ay.Payload ∧ cm = ay.Workers.length ∧ Row KI F' dQ (.slice c3 cm ds) ay.Workers ∧ co = ay.Indexes.length ∧ Row KI F' dR (.slice c4 co dt) ay.Indexes ∧ cp = ay.rI.length ∧ Row rA.K F' dS (.slice c5 cp du) ay.rI ∧ cr = ay.Value.length ∧ Row KB F' dT (.slice c6 cr dv) ay.Value ∧ dO = cQ.b.length ∧ cQ.b.length ≤ cf ∧ cf ≤ maxLen ∧ Sl KB F' F' c7 cQ.b := by
 have C := Ctx.start hp
 generalize hD : sR [CH.row d h (rC.q cc dW dX cR)] = D at C ⊢
 unfold uB.f at H
 refine Calls.ofW Tryz.func44 rfl (by simp [Tryz.ntmps44]) <| W.sr rfl ?_
 let j : LV := [.slice none 0 0, iv 0, iv 0, iv 0, iv 0, .slice none 0 0, .slice none 0 0, .slice none 0 0, .slice none 0 0]
 obtain ⟨a, ib, hw, hE⟩ := sU (P := Tryz.prog) (e := 63) j C Cv rfl
 refine WL.val (hw _ _) <| WL.done <| W.sr rfl <| WL.run to 1 rfl ?_
 let hy : LV := rC.q cc dW dX cR
 have gw : Cx [CH.row d h hy, r0 a j] := hE.pick [1, 0] rfl
 obtain ⟨⟨gW, fs⟩, g6, H⟩ := rE H
 refine WL.sI (vF.calls k _ F d h dW cR dX cc 64 (gw.pq 1) hT hQ hR hP gW fs g6) (ne.fr rfl rfl) ?_
 rintro bV Y ⟨gp, gC, gJ, O, gq, gD, gK, rfl, hF, ho, gZ, hq, hc, hi, g0⟩
 refine ⟨_, rfl, ?_⟩
 let hz : LV := rC.q fs gq gK gD
 have gx : Cx [CH.row d h hz, O, r0 a j] := Ctx.cn 1 gw hF
 refine WL.run to 1 rfl ?_
 obtain ⟨⟨ft, fu⟩, g7, H⟩ := rE H
 refine WL.sI (tZ.calls k _ F d h gq gD gK fs (gx.pq 1) hq hc hi g0 ft fu g7) (ne.fr rfl rfl) ?_
 rintro bV Y ⟨gr, gE, gL, rfl, hG, hr, hd, hj, g1⟩
 refine ⟨_, rfl, ?_⟩
 let hA : LV := rC.q fu gr gL gE
 have gy : Cx [CH.row d h hA, O, r0 a j] := Ctx.cn 1 gx hG
 refine WL.run to 1 rfl ?_
 obtain ⟨⟨fv, fw⟩, g8, H⟩ := rE H
 refine WL.sI (tZ.calls k _ F d h gr gE gL fu (gy.pq 1) hr hd hj g1 fv fw g8) (ne.fr rfl rfl) ?_
 rintro bV Y ⟨gs, gF, gM, rfl, hH, hs, he, hk, g2⟩
 refine ⟨_, rfl, ?_⟩
 let hB : LV := rC.q fw gs gM gF
 have gz : Cx [CH.row d h hB, O, r0 a j] := Ctx.cn 1 gy hH
 refine WL.run to 1 rfl ?_
 obtain ⟨⟨fx, fy⟩, g9, H⟩ := rE H
 refine WL.sI (tZ.calls k _ F d h gs gF gM fw (gz.pq 1) hs he hk g2 fx fy g9) (ne.fr rfl rfl) ?_
 rintro bV Y ⟨gt, gG, gN, rfl, hI, ht, hf, hl, g3⟩
 refine ⟨_, rfl, ?_⟩
 let hC : LV := rC.q fy gt gN gG
 have gA : Cx [CH.row d h hC, O, r0 a j] := Ctx.cn 1 gz hI
 refine WL.run to 1 rfl ?_
 obtain ⟨⟨fA, fB⟩, ha, H⟩ := rE H
 refine WL.sI (tZ.calls k _ F d h gt gG gN fy (gA.pq 1) ht hf hl g3 fA fB ha) (ne.fr rfl rfl) ?_
 rintro bV Y ⟨gu, gH, gO, rfl, hJ, hu, hg, hm, g4⟩
 refine ⟨_, rfl, ?_⟩
 let fq : LV := rC.q fB gu gO gH
 have hK : Cx [CH.row d h fq, O, r0 a j] := Ctx.cn 1 gA hJ
 let cP : LV := [.slice gp gJ gC, iv ft, iv fv, iv fx, iv fA, .slice none 0 0, .slice none 0 0, .slice none 0 0, .slice none 0 0]
 refine WL.val (Yl.build (places := [(0, 1), (1, 1), (2, 1), (3, 1), (4, 1), (5, 1), (6, 1), (7, 1), (8, 1)]) (cs := List.toArray cP) xG Cv (IK _ xG) (uV (.cons rfl (.cons rfl (.cons rfl (.cons rfl (.cons rfl .nil)))))) rfl) ?_
 obtain ⟨i, ic, hx, hL⟩ := sU (P := Tryz.prog) (e := 63) j hK Cv rfl
 refine WL.val (hx _ _) <| WL.st hL 0 0 cP rfl rfl rfl rfl (Put.lit 0 rfl) (rR rfl) yN fun Y (hM : Cx [r0 i cP, CH.row d h fq, O, r0 a j]) => ?_
 refine WL.done <| W.seq <| W.sr rfl <| WL.run to 1 rfl ?_
 have gB : Cx [CH.row d h fq, r0 i cP, O, r0 a j] := hM.pick [1, 0, 2, 3] rfl
 obtain ⟨⟨fC, fD⟩, hb, H⟩ := rE H
 refine WL.sI (vK.calls k _ F d h gu gH gO fB 8 (gB.pq 1) hu hg hm g4 fC fD hb) (ne.fr rfl rfl) ?_
 rintro bV Y ⟨gv, gI, gP, rfl, hN, hv, hh, hn, g5⟩
 refine ⟨_, rfl, ?_⟩
 let hV : LV := rC.q fD gv gP gI
 have gX : Cx [CH.row d h hV, r0 i cP, O, r0 a j] := Ctx.cn 1 gB hN
 refine WL.rd to 1 rfl ?_
 obtain ⟨⟨a2, S⟩, r, H⟩ := rE H
 refine W.vG (fun M Y => ∃ bH bg bX bI bO bi aW bJ bP bj aX bK bQ bk aY bL bR bl aZ bM bS bm a0, Kn M [(0, .pointer (some ⟨d, h, none⟩)), (2, pt a), (3, pt i)] ∧ Ctx w F D Y F [CH.row d h (rC.q a2 bH bX bg), r0 i (bT.q S bI bi bO bJ bj bP bK bk bQ bL bl bR bM bm bS), aW, aX, aY, aZ, a0, r0 a j] ∧ sW KB F bH bX bg a2.b (oW KB F aW bI bi bO S.Payload (oW KI F aX bJ bj bP S.Workers (oW KI F aY bK bk bQ S.Indexes (oW rA.K F aZ bL bl bR S.rI (bm = S.Value.length ∧ Row KB F a0 (.slice bM bm bS) S.Value)))))) ?_ ?_
 ·refine W.block ?_
  have gY : Cx [CH.row d h hV, r0 i cP, O, CH.emp, CH.emp, CH.emp, CH.emp, r0 a j] := gX.pick [0, 1, 2, 4, 4, 4, 4, 3] rfl
  refine W.loop (fun cS M Y => ∃ (cz : Int) (aF : rC) (m : bT), ∃ be aU bn az aC au y bN bU bo a1 bf bh aV N aA aD av A aB aE aw B, Kn M [(0, .pointer (some ⟨d, h, none⟩)), (2, pt a), (3, pt i), (16, iv fC), (17, iv cz)] ∧ Ctx w F D Y F [CH.row d h (rC.q aF be bn aU), r0 i (bT.q m az au aC bN bo bU bf aV bh aA av aD aB aw aE), y, a1, N, A, B, r0 a j] ∧ sW KB F be bn aU aF.b (bT.oS F m az au aC y bN bo bU a1 bf aV bh N aA av aD A aB aw aE B (uB.l1 cS fC cz aF m = some (a2, S)))) k ⟨0, fD, (⟨gW, ft, fv, fx, fA, ([] : List Int), ([] : List Int), ([] : List rA), ([] : List Int)⟩ : bT), gv, gI, gP, gp, gC, gJ, O, none, 0, 0, CH.emp, none, 0, 0, CH.emp, none, 0, 0, CH.emp, none, 0, 0, CH.emp, rfl, gY, hv, hh, hn, g5, ho, gZ, rfl, (Row.nil _ _), rfl, (Row.nil _ _), rfl, (Row.nil _ _), rfl, (Row.nil _ _), r⟩ ?_
  clear r
  rintro cS M Y ⟨cz, aF, m, be, aU, bn, az, aC, au, y, bN, bU, bo, a1, bf, bh, aV, N, aA, aD, av, A, aB, aE, aw, B, gm, dZ, dE, dC, dD, dB, dF, dw, gj, dx, gk, dy, dG, dz, dH, dA, r⟩
  rcases cS with _ | cU
  · exact absurd r (by simp [uB.l1])
  rw [uB.l1] at r
  apply ks M gm
  refine W.sr rfl <| WL.rd to 1 rfl <| W.seq ?_
  rcases rT r with ⟨cg, r⟩ | ⟨cg, r⟩
  ·refine W.cT cg rfl <| W.skip <| W.seq <| W.block <| W.seq ?_
   let bZ : LV := bT.q m az au aC bN bo bU bf aV bh aA av aD aB aw aE
   refine W.uF [([5, 7], r0 i bZ)] (by kernel_rfl) ?_
   have b4 := Ctx.drewN dZ 1
   refine WA.sZ [(0, none), (1, some 0), (2, none)] ⟨(Ctx.rO 1 b4 rfl), trivial⟩ (by kernel_rfl) <| WT.run to 1 rfl <| WT.lv 5 rfl rfl rfl tM rfl rfl <| WT.run to 1 rfl <| WT.done ?_
   obtain ⟨⟨bC, ct⟩, es, r⟩ := rE r
   let gQ : LV := rC.q aF be bn aU
   refine WA.up1 3 (by kernel_rfl) (Up.sI rfl (by kernel_rfl) rfl (tZ.calls cU _ F d h be aU bn aF (b4.pq 1) dE dC dD dB bC ct es) (ne.fr rfl rfl) ?_)
   rintro bV Y ⟨cV, dj, dI, rfl, fE, eP, ez, eH, eh⟩
   let bp : LV := rC.q ct cV dI dj
   have c8 : Cx [CH.row d h bp, r0 i bZ, y, a1, N, A, B, r0 a j] := Ctx.cn 1 b4 fE
   refine ⟨_, rfl, ⟨(Ctx.rO 1 c8 rfl), trivial⟩, ?_⟩
   obtain ⟨hW, f0, hZ, L, h2, eQ, fb, b5, d0⟩ := uO (P := Tryz.prog) 3 KI c8 tM ti3 ⟨by decide, by decide⟩ bC (iv bC) rfl
   refine WA.up1 4 (by kernel_rfl) (Up.val rfl rfl rfl (fb _ _ _ rfl) ⟨(Ctx.rO 2 b5 rfl), trivial⟩ ?_)
   obtain ⟨ep, r⟩ := rV r
   obtain ⟨a3, a6, a8, I, h3, eR, fc, fF, d1⟩ := sP (P := Tryz.prog) (cb := f0) 3 KI [L, CH.row d h bp, r0 i bZ, y] [N, A, B, r0 a j] b5 dx eQ (Row.sl d0) (Ctx.rO 0 b5 rfl) tM ti3 rfl zo3 (by decide) (by decide) (by simpa using ep)
   have c9 : Cx [L, CH.row d h bp, r0 i bZ, y, I, N, A, B, r0 a j] := fF
   refine WA.up1 5 (by kernel_rfl) (Up.val rfl rfl rfl (fc _ _ _ _ rfl rfl) ⟨trivial, trivial⟩ ?_)
   refine WA.sZ [(6, none)] ⟨(Ctx.rO 2 c9 rfl), trivial⟩ (by kernel_rfl) <| WT.run to 1 rfl <| WT.done ?_
   obtain ⟨h4, fd, fG⟩ := vH (P := Tryz.prog) (ps1 := [L, CH.row d h bp]) (ps2 := [y, I, N, A, B, r0 a j]) (t := 47) 5 [.slice a3 a8 a6] (.slice a3 a8 a6) c9 rfl rfl (rR rfl) AX
   let bq : LV := bT.q m az au aC a3 a8 a6 bf aV bh aA av aD aB aw aE
   have fH : Cx [L, CH.row d h bp, r0 i bq, y, I, N, A, B, r0 a j] := fG
   refine WA.up1 7 (by kernel_rfl) (Up.skip rfl rfl (fd _ _ _ _ rfl rfl) ⟨trivial, trivial⟩ ?_)
   refine WA.done (by kernel_rfl) <| W.uF [([5, 7], r0 i bq)] (by kernel_rfl) ?_
   have da := Ctx.drewN fH 1
   refine WA.sZ [(0, none), (1, some 0), (2, none)] ⟨(Ctx.rO 2 da rfl), trivial⟩ (by kernel_rfl) <| WT.run to 1 rfl <| WT.lv 6 rfl rfl rfl tM rfl rfl <| WT.run to 1 rfl <| WT.done ?_
   have db : Cx [CH.row d h bp, L, r0 i bq, y, I, N, A, B, r0 a j] := da.pick [1, 0, 2, 3, 4, 5, 6, 7, 8] rfl
   obtain ⟨⟨bD, cu⟩, et, r⟩ := rE r
   refine WA.up1 3 (by kernel_rfl) (Up.sI rfl (by kernel_rfl) rfl (tZ.calls cU _ F d h cV dj dI ct (db.pq 1) eP ez eH eh bD cu et) (ne.fr rfl rfl) ?_)
   rintro bV Y ⟨cW, dk, dJ, rfl, fI, eS, eA, eI, ei⟩
   let b0 : LV := rC.q cu cW dJ dk
   have dc : Cx [CH.row d h b0, L, r0 i bq, y, I, N, A, B, r0 a j] := Ctx.cn 1 db fI
   refine ⟨_, rfl, ⟨(Ctx.rO 2 dc rfl), trivial⟩, ?_⟩
   obtain ⟨hX, f1, h0, bA, h5, eT, fe, b6, d2⟩ := uO (P := Tryz.prog) 3 KI dc tM ti3 ⟨by decide, by decide⟩ bD (iv bD) rfl
   refine WA.up1 4 (by kernel_rfl) (Up.val rfl rfl rfl (fe _ _ _ rfl) ⟨(Ctx.rO 3 b6 rfl), trivial⟩ ?_)
   obtain ⟨eq, r⟩ := rV r
   obtain ⟨br, bu, bx, bb, h6, eU, ff, fJ, d3⟩ := sP (P := Tryz.prog) (cb := f1) 3 KI [bA, CH.row d h b0, L, r0 i bq, y, I] [A, B, r0 a j] b6 dy eT (Row.sl d2) (Ctx.rO 0 b6 rfl) tM ti3 rfl zo3 (by decide) (by decide) (by simpa using eq)
   have dd : Cx [bA, CH.row d h b0, L, r0 i bq, y, I, bb, A, B, r0 a j] := fJ
   refine WA.up1 5 (by kernel_rfl) (Up.val rfl rfl rfl (ff _ _ _ _ rfl rfl) ⟨trivial, trivial⟩ ?_)
   refine WA.sZ [(6, none)] ⟨(Ctx.rO 3 dd rfl), trivial⟩ (by kernel_rfl) <| WT.run to 1 rfl <| WT.done ?_
   obtain ⟨h7, fg, fK⟩ := vH (P := Tryz.prog) (ps1 := [bA, CH.row d h b0, L]) (ps2 := [y, I, bb, A, B, r0 a j]) (t := 47) 6 [.slice br bx bu] (.slice br bx bu) dd rfl rfl (rR rfl) AX
   let gR : LV := bT.q m az au aC a3 a8 a6 br bx bu aA av aD aB aw aE
   have fL : Cx [bA, CH.row d h b0, L, r0 i gR, y, I, bb, A, B, r0 a j] := fK
   refine WA.up1 7 (by kernel_rfl) (Up.skip rfl rfl (fg _ _ _ _ rfl rfl) ⟨trivial, trivial⟩ ?_)
   refine WA.done (by kernel_rfl) <| tH <| W.region rfl ?_
   refine WL.rd to 2 rfl ?_
   have fM : Cx [CH.row d h b0, r0 i gR, y, I, bb, A, B, r0 a j] := fL.pick [1, 3, 4, 5, 6, 7, 8, 9] rfl
   exact rF ⟨cU, Nat.lt_succ_self _, rB (cz + 1), cu, (⟨m.Payload, m.State, m.Attempt, m.Epoch, m.Until, m.Workers ++ [bC], m.Indexes ++ [bD], m.rI, m.Value⟩ : bT), cW, dk, dJ, az, aC, au, y, a3, a6, a8, I, br, bu, bx, bb, aA, aD, av, A, aB, aE, aw, B, rfl, fM, eS, eA, eI, ei, dF, dw, eR, d1, eU, d3, dG, dz, dH, dA, r⟩
  refine W.cF cg rfl <| W.exit <| rM <| rM <| sL ?_
  cases r
  refine rF ?_
  exact ⟨be, aU, bn, az, aC, au, y, bN, bU, bo, a1, bf, bh, aV, N, aA, aD, av, A, aB, aE, aw, B, rfl, dZ, dE, dC, dD, dB, dF, dw, gj, dx, gk, dy, dG, dz, dH, dA⟩
 ·rintro M Y ⟨bH, bg, bX, bI, bO, bi, aW, bJ, bP, bj, aX, bK, bQ, bk, aY, bL, bR, bl, aZ, bM, bS, bm, a0, gl, dY, gd, gb, gc, ga, ge, f5, gf, f6, gg, f7, gh, f8, gi, f9⟩
  apply ks M gl
  refine W.seq <| W.sr rfl <| WL.run to 1 rfl ?_
  obtain ⟨⟨cv, cw⟩, eu, H⟩ := rE H
  let gS : LV := rC.q a2 bH bX bg
  let fm : LV := bT.q S bI bi bO bJ bj bP bK bk bQ bL bl bR bM bm bS
  refine WL.sI (vK.calls k _ F d h bH bg bX a2 8 (dY.pq 1) gd gb gc ga cv cw eu) (ne.fr rfl rfl) ?_
  rintro bV Y ⟨cX, dl, dK, rfl, fN, eV, eB, eJ, ej⟩
  refine ⟨_, rfl, ?_⟩
  let hU : LV := rC.q cw cX dK dl
  have fO : Cx [CH.row d h hU, r0 i fm, aW, aX, aY, aZ, a0, r0 a j] := Ctx.cn 1 dY fN
  refine WL.rd to 1 rfl ?_
  obtain ⟨⟨ax, E⟩, p, H⟩ := rE H
  refine W.vG (fun M Y => ∃ J a4 aL a9 aG aM ao T aH aN ap U aI aO aq V aJ aP ar X bs bv ba ad, Kn M [(0, .pointer (some ⟨d, h, none⟩)), (2, pt a), (3, pt i)] ∧ Ctx w F D Y J [CH.row d h (rC.q ax a4 a9 aL), r0 i (bT.q E aG ao aM aH ap aN aI aq aO aJ ar aP bs ba bv), T, U, V, X, ad, r0 a j] ∧ CH.le F J ∧ sW KB J a4 a9 aL ax.b (oW KB J T aG ao aM E.Payload (oW KI J U aH ap aN E.Workers (oW KI J V aI aq aO E.Indexes (oW rA.K J X aJ ar aP E.rI (ba = E.Value.length ∧ Row KB J ad (.slice bs ba bv) E.Value)))))) ?_ ?_
  ·refine W.block <| W.loop (fun cS M Y => ∃ (bG : Int) (ae : rC) (l : bT), ∃ G aK aj aQ af ak Z s ag al aa u ah am ab v a5 a7 aR R ai an ac x, Kn M [(0, .pointer (some ⟨d, h, none⟩)), (2, pt a), (3, pt i), (35, iv cv), (36, iv bG)] ∧ Ctx w F D Y G [CH.row d h (rC.q ae aK aQ aj), r0 i (bT.q l af Z ak ag aa al ah ab am a5 aR a7 ai ac an), s, u, v, R, x, r0 a j] ∧ CH.le F G ∧ sW KB G aK aQ aj ae.b (bT.oS G l af Z ak s ag aa al u ah ab am v a5 aR a7 R ai ac an x (uB.l2 cS cv bG ae l = some (ax, E)))) k ⟨0, cw, S, F, cX, dl, dK, bI, bO, bi, aW, bJ, bP, bj, aX, bK, bQ, bk, aY, bL, bR, bl, aZ, bM, bS, bm, a0, rfl, fO, (CH.le_refl _), eV, eB, eJ, ej, ge, f5, gf, f6, gg, f7, gh, f8, gi, f9, p⟩ ?_
   clear p
   rintro cS M Y ⟨bG, ae, l, G, aK, aj, aQ, af, ak, Z, s, ag, al, aa, u, ah, am, ab, v, a5, a7, aR, R, ai, an, ac, x, fa, df, cO, cJ, cH, cI, cG, cK, cA, cL, cB, cM, cC, e1, cD, cN, cE, p⟩
   rcases cS with _ | ch
   · exact absurd p (by simp [uB.l2])
   rw [uB.l2] at p
   apply ks M fa
   refine W.sr rfl <| WL.rd to 1 rfl <| W.seq ?_
   rcases rT p with ⟨bW, p⟩ | ⟨bW, p⟩
   ·refine W.cT bW rfl <| W.skip <| W.seq <| W.block ?_
    let aT : LV := bT.q l af Z ak ag aa al ah ab am a5 aR a7 ai ac an
    refine W.uF [([8, 10], r0 i aT)] (by kernel_rfl) ?_
    have b7 := Ctx.drewN df 1
    refine WA.sZ [(0, none), (1, some 0), (2, none), (4, none)] ⟨(Ctx.rO 1 b7 rfl), trivial⟩ (by kernel_rfl) <| WT.run to 1 rfl <| WT.lv 7 rfl rfl rfl wD rfl rfl <| WT.run to 2 rfl <| WT.done ?_
    obtain ⟨⟨aS, cx⟩, ew, p⟩ := rE p
    let gT : LV := rC.q ae aK aQ aj
    refine WA.up1 3 (by kernel_rfl) (Up.sI rfl (by kernel_rfl) rfl (tZ.calls ch _ G d h aK aj aQ ae (b7.pq 1) cJ cH cI cG aS cx ew) (ne.fr rfl rfl) ?_)
    rintro bV Y ⟨cY, dm, dL, rfl, fP, e2, eD, eL, el⟩
    let fo : LV := rC.q cx cY dL dm
    have b8 : Cx [CH.row d h fo, r0 i aT, s, u, v, R, x, r0 a j] := Ctx.cn 1 b7 fP
    refine ⟨_, rfl, ⟨(Ctx.rO 1 b8 rfl), trivial⟩, ?_⟩
    obtain ⟨⟨bE, cy⟩, ex, p⟩ := rE p
    refine WA.up1 5 (by kernel_rfl) (Up.sI rfl (by kernel_rfl) rfl (vF.calls ch _ G d h cY dm dL cx 32 (b8.pq 1) e2 eD eL el bE cy ex) (ne.fr rfl rfl) ?_)
    rintro bV Y ⟨b2, cd, ci, gn, cZ, dp, dM, rfl, fQ, e3, d8, e4, eE, eM, em⟩
    let bY : LV := rC.q cy cZ dM dp
    have b9 : Cx [CH.row d h bY, gn, r0 i aT, s, u, v, R, x, r0 a j] := Ctx.cn 1 b8 fQ
    refine ⟨_, rfl, ⟨(Ctx.rO 2 b9 rfl), trivial⟩, ?_⟩
    refine WA.sZ [(6, none)] ⟨(Ctx.rO 2 b9 rfl), trivial⟩ (by kernel_rfl) <| WT.val rfl (fun _ hC_ => Yl.build (places := [(0, 1), (1, 1)]) (cs := List.toArray [iv aS, .slice b2 ci cd]) Bq CU (G5 _ Bq) (uV (.cons rfl (.cons rfl .nil))) rfl) ?_
    refine WT.done ?_
    obtain ⟨fZ, Q, fl, (fR : Cx [CH.row d h bY, r0 i aT, s, u, v, R, x, r0 a j])⟩ := Ctx.fzI 1 b9 rfl
    obtain ⟨eF, eN, en⟩ := Row.fz d8 Q fl
    have d9 := Row.mono cD Q
    have ea := Row.mono cA Q
    have eb := Row.mono cB Q
    have ec := Row.mono cC Q
    have ed := Row.mono cE Q
    obtain ⟨hY, f2, h1, bB, h8, e5, fh, ca, ee⟩ := uO (P := Tryz.prog) 96 rA.K fR wD Ec ⟨by decide, by decide⟩ (⟨aS, bE⟩ : rA) (.agg (List.toArray [iv aS, .slice b2 ci cd])) (rA.mk' _ (⟨aS, bE⟩ : rA) b2 cd ci e3 eF eN en)
    refine WA.up1 7 (by kernel_rfl) (Up.val rfl rfl rfl (fh _ _ _ rfl) ⟨(Ctx.rO 2 ca rfl), trivial⟩ ?_)
    obtain ⟨er, p⟩ := rV p
    obtain ⟨bt, bw, bz, bc, h9, e6, fi, fS, ef⟩ := sP (P := Tryz.prog) (cb := f2) 96 rA.K [bB, CH.row d h bY, r0 i aT, s, u, v] [x, r0 a j] ca d9 e5 (Row.sl ee) (Ctx.rO 0 ca rfl) wD Ec rfl Hi (by decide) (by decide) (by simpa using er)
    have dg : Cx [bB, CH.row d h bY, r0 i aT, s, u, v, bc, x, r0 a j] := fS
    refine WA.up1 8 (by kernel_rfl) (Up.val rfl rfl rfl (fi _ _ _ _ rfl rfl) ⟨trivial, trivial⟩ ?_)
    refine WA.sZ [(9, none)] ⟨(Ctx.rO 2 dg rfl), trivial⟩ (by kernel_rfl) <| WT.run to 1 rfl <| WT.done ?_
    obtain ⟨ia, fj, fT⟩ := vH (P := Tryz.prog) (ps1 := [bB, CH.row d h bY]) (ps2 := [s, u, v, bc, x, r0 a j]) (t := 61) 7 [.slice bt bz bw] (.slice bt bz bw) dg rfl rfl (rR rfl) FW
    let gU : LV := bT.q l af Z ak ag aa al ah ab am bt bz bw ai ac an
    have fU : Cx [bB, CH.row d h bY, r0 i gU, s, u, v, bc, x, r0 a j] := fT
    refine WA.up1 10 (by kernel_rfl) (Up.skip rfl rfl (fj _ _ _ _ rfl rfl) ⟨trivial, trivial⟩ ?_)
    refine WA.done (by kernel_rfl) <| tH <| W.region rfl ?_
    refine WL.rd to 2 rfl ?_
    have fV : Cx [CH.row d h bY, r0 i gU, s, u, v, bc, x, r0 a j] := fU.pick [1, 2, 3, 4, 5, 6, 7, 8] rfl
    exact rF ⟨ch, Nat.lt_succ_self _, rB (bG + 1), cy, (⟨l.Payload, l.State, l.Attempt, l.Epoch, l.Until, l.Workers, l.Indexes, l.rI ++ [(⟨aS, bE⟩ : rA)], l.Value⟩ : bT), fZ, cZ, dp, dM, af, ak, Z, s, ag, al, aa, u, ah, am, ab, v, bt, bw, bz, bc, ai, an, ac, x, rfl, fV, (CH.le_trans cO Q), e4, eE, eM, (Sl.mono em Q Q), cK, ea, cL, eb, cM, ec, e6, ef, cN, ed, p⟩
   refine W.cF bW rfl <| W.exit <| rM <| rM <| sL ?_
   cases p
   refine rF ?_
   exact ⟨G, aK, aj, aQ, af, ak, Z, s, ag, al, aa, u, ah, am, ab, v, a5, a7, aR, R, ai, an, ac, x, rfl, df, cO, cJ, cH, cI, cG, cK, cA, cL, cB, cM, cC, e1, cD, cN, cE⟩
  ·rintro M Y ⟨J, a4, aL, a9, aG, aM, ao, T, aH, aN, ap, U, aI, aO, aq, V, aJ, aP, ar, X, bs, bv, ba, ad, e9, de, fk, eW, eC, eK, ek, eX, d4, eY, d5, eZ, d6, e0, d7, hS, hO⟩
   apply ks M e9
   refine W.sr rfl <| WL.run to 1 rfl ?_
   obtain ⟨⟨go, dV⟩, ey, H⟩ := rE H
   let gV : LV := rC.q ax a4 a9 aL
   let fp : LV := bT.q E aG ao aM aH ap aN aI aq aO aJ ar aP bs ba bv
   refine WL.sI (vF.calls k _ J d h a4 aL a9 ax 32 (de.pq 1) eW eC eK ek go dV ey) (ne.fr rfl rfl) ?_
   rintro bV Y ⟨b3, ce, cj, bd, c1, dq, dN, rfl, fW, e7, eg, e8, eG, eO, eo⟩
   refine ⟨_, rfl, ?_⟩
   let dU : LV := rC.q dV c1 dN dq
   have fX : Cx [CH.row d h dU, bd, r0 i fp, T, U, V, X, ad, r0 a j] := Ctx.cn 1 de fW
   refine WL.run to 1 rfl ?_
   let b1 : LV := bT.q E aG ao aM aH ap aN aI aq aO aJ ar aP b3 cj ce
   refine WL.st fX 2 8 [.slice b3 cj ce] rfl rfl rfl rfl (Put.lit 8 rfl) (rR rfl) AP fun Y (dh : Cx [CH.row d h dU, bd, r0 i b1, T, U, V, X, ad, r0 a j]) => ?_
   refine WL.done <| W.sr rfl <| WL.la dh 2 rfl rfl xG rfl yN <| WL.st dh 8 0 b1 rfl rfl rfl rfl (Put.lit 0 rfl) (rR rfl) yN fun Y (di : Cx [CH.row d h dU, bd, r0 i b1, T, U, V, X, ad, r0 a b1]) => ?_
   refine WL.done <| W.ret ?_
   have fY : Cx [CH.row d h dU, T, U, V, X, bd] := di.pick [0, 3, 4, 5, 6, 1] rfl
   obtain ⟨f3, f4⟩ := sp H
   subst f3 f4
   exact rH (BU rfl ((.cell rfl (tS (g := a) (off := 0) (o := 0) (cs := b1) (us := b1) xG rfl yN (Ctx.rO 8 di rfl) rfl) .nil))) ⟨J, aG, aM, ao, T, aH, aN, ap, U, aI, aO, aq, V, aJ, aP, ar, X, b3, ce, cj, bd, c1, dq, dN, rfl, fk, fY, eX, d4, eY, d5, eZ, d6, e0, d7, e7, eg, e8, eG, eO, eo⟩
def rX.l1 : Nat → bF → Int → sX → Option sX
  | 0, _, _, _ => none
  | k + 1, b, a, d => if a < (b.Eras.length : Int) then (if 0 ≤ a ∧ a < (b.Eras.length : Int) then ((rQ.f k d [(b.Eras.getD a.toNat sD.z).Epoch]).bind fun e => (vW.f k e ((b.Eras.getD a.toNat sD.z).Nonce)).bind fun g => rX.l1 k b (rB (a + 1)) g) else none) else (some d)
def rX.l3 : Nat → bF → Int → Int → sX → Option sX
  | 0, _, _, _, _ => none
  | k + 1, e, b, a, d => if a < (((e.Jobs.getD b.toNat bT.z).Workers).length : Int) then (if 0 ≤ a ∧ a < (((e.Jobs.getD b.toNat bT.z).Workers).length : Int) then (if 0 ≤ a ∧ a < (((e.Jobs.getD b.toNat bT.z).Indexes).length : Int) then ((rQ.f k d [((e.Jobs.getD b.toNat bT.z).Workers).getD a.toNat 0, ((e.Jobs.getD b.toNat bT.z).Indexes).getD a.toNat 0]).bind fun g => rX.l3 k e b (rB (a + 1)) g) else none) else none) else (some d)
def rX.l4 : Nat → bF → Int → Int → sX → Option sX
  | 0, _, _, _, _ => none
  | k + 1, e, b, a, d => if a < (((e.Jobs.getD b.toNat bT.z).rI).length : Int) then (if 0 ≤ a ∧ a < (((e.Jobs.getD b.toNat bT.z).rI).length : Int) then ((rQ.f k d [(((e.Jobs.getD b.toNat bT.z).rI).getD a.toNat rA.z).Worker]).bind fun g => (uT.f k g ((((e.Jobs.getD b.toNat bT.z).rI).getD a.toNat rA.z).Value)).bind fun h => rX.l4 k e b (rB (a + 1)) h) else none) else (some d)
def rX.l2 : Nat → bF → Int → sX → Option sX
  | 0, _, _, _ => none
  | k + 1, b, a, d => if a < (b.Jobs.length : Int) then (if 0 ≤ a ∧ a < (b.Jobs.length : Int) then ((uT.f k d ((b.Jobs.getD a.toNat bT.z).Payload)).bind fun e => (rQ.f k e [(b.Jobs.getD a.toNat bT.z).State, (b.Jobs.getD a.toNat bT.z).Attempt, (b.Jobs.getD a.toNat bT.z).Epoch, (b.Jobs.getD a.toNat bT.z).Until, (((b.Jobs.getD a.toNat bT.z).Workers).length : Int)]).bind fun g => (rX.l3 k b a 0 g).bind fun j => (rQ.f k j [(((b.Jobs.getD a.toNat bT.z).rI).length : Int)]).bind fun h => (rX.l4 k b a 0 h).bind fun l => (uT.f k l ((b.Jobs.getD a.toNat bT.z).Value)).bind fun i => rX.l2 k b (rB (a + 1)) i) else none) else (some d)
def rX.l5 : Nat → bF → Int → sX → Option sX
  | 0, _, _, _ => none
  | k + 1, d, a, b => if a < (d.Used.length : Int) then (if 0 ≤ a ∧ a < (d.Used.length : Int) then (if 0 ≤ a ∧ a < (d.Barred.length : Int) then (if (d.Barred.getD a.toNat false) = true then ((rQ.f k b [d.Used.getD a.toNat 0, 1]).bind fun e => rX.l5 k d (rB (a + 1)) e) else ((rQ.f k b [d.Used.getD a.toNat 0, 0]).bind fun g => rX.l5 k d (rB (a + 1)) g)) else none) else none) else (some b)
def rX.f (k : Nat) (l : rK) (a : bF) : Option ((List Int) × Int) := ((tL.f k l).bind fun m => if m = 0 then ((sJ.f k l a).bind fun o => some (!o)) else (some true)).bind fun r => if r = true then (some (([] : List Int), 1)) else ((rQ.f k (⟨([] : List Int)⟩ : sX) [(a.Eras.length : Int)]).bind fun p => (rX.l1 k a 0 p).bind fun j => (rQ.f k j [(a.Jobs.length : Int)]).bind fun i => (rX.l2 k a 0 i).bind fun g => (rQ.f k g [(a.Used.length : Int)]).bind fun d => (rX.l5 k a 0 d).bind fun h => (rQ.f k h [a.Heads]).bind fun e => some (e.b, 0))
theorem rX.calls (k w F) (eo : rK) (ef ee gx bJ bx aV cw bz cO da cy dS) (s : bF) (hp : Pre w F []) (jQ : gx = s.Eras.length) (jL : s.Eras.length ≤ ee) (jP : ee ≤ maxLen) (ix : Sl sD.K F F ef s.Eras) (i7 : aV = s.Jobs.length) (i1 : s.Jobs.length ≤ bx) (i4 : bx ≤ maxLen) (eV : Sl bT.K F F bJ s.Jobs) (i8 : cO = s.Used.length) (i2 : s.Used.length ≤ bz) (i5 : bz ≤ maxLen) (eW : Sl KI F F cw s.Used) (i9 : dS = s.Barred.length) (i3 : s.Barred.length ≤ cy) (i6 : cy ≤ maxLen) (eX : Sl Kd.bool F F da s.Barred) (gB : List Int) (iy : Int) (H : rX.f k eo s = some (gB, iy)) :
    Calls Tryz.prog 16 #[.agg (List.toArray (rK.q eo)), .agg (List.toArray (bF.q s ef gx ee bJ aV bx cw cO bz da dS cy))] w fun e w' => ∃ dj dM b9 d1, e = .returned (.tuple #[(.slice dj b9 dM), (iv iy)]) ∧ Ctx w F (sR []) w' F [d1] ∧ b9 = gB.length ∧ Row KB F d1 (.slice dj b9 dM) gB := by
 have C := Ctx.start hp
 generalize hD : sR [] = D at C ⊢
 unfold rX.f at H
 refine Calls.ofW Tryz.func16 rfl (by simp [Tryz.ntmps16]) <| W.sr rfl ?_
 let x : LV := rK.q eo
 obtain ⟨l, kG, jd, jm⟩ := uR (P := Tryz.prog) 42 (.agg (List.toArray x)) x C rfl
 refine WL.val (jd _ _ _ rfl) ?_
 let y : LV := bF.q s ef gx ee bJ aV bx cw cO bz da dS cy
 obtain ⟨a, kH, je, ej⟩ := uR (P := Tryz.prog) 50 (.agg (List.toArray y)) y jm rfl
 refine WL.val (je _ _ _ rfl) <| WL.rd to 2 rfl <| W.seq <| W.seq ?_
 obtain ⟨ke, ak, H⟩ := rE H
 refine W.vG (fun A L => Kn A [(3, pt a), (26, .bool ke)] ∧ Ctx w F D L F [r0 a y, r0 l x]) ?_ ?_
 ·refine W.region rfl ?_
  refine WL.la ej 1 rfl rfl zZ rfl Ac ?_
  obtain ⟨j6, iY, ak⟩ := rE ak
  refine WL.c0 ej (tL.calls k _ F eo ej.tX  j6 iY) (ne.fr rfl rfl) fun L cx => ?_
  refine WL.run to 2 rfl ?_
  rcases rT ak with ⟨c1, ak⟩ | ⟨c1, ak⟩
  ·refine WL.kn 21 (cb (wP c1)) <| WL.laG cx 1 rfl rfl rfl rfl zZ rfl Ac <| WL.laG cx 0 rfl rfl rfl rfl wJ rfl wM <| WL.on rfl rfl ?_
   obtain ⟨j7, iZ, ak⟩ := rE ak
   refine WL.c0 cx (sJ.calls k _ F eo ef ee gx bJ bx aV cw bz cO da cy dS s cx.tX jQ jL jP ix i7 i1 i4 eV i8 i2 i5 eW i9 i3 i6 eX j7 iZ) (ne.fr rfl rfl) fun L jn => ?_
   refine WL.rd to 2 rfl ?_
   cases ak
   refine rF ?_
   exact ⟨rfl, jn⟩
  refine WL.kn 21 (cb (wQ c1)) <| WL.sN 4 21 false rfl rfl <| WL.rd to 1 rfl ?_
  cases ak
  refine rF ?_
  exact ⟨rfl, cx⟩
 ·rintro A L ⟨jc, ir⟩
  apply ks A jc
  rcases rT H with ⟨c2, H⟩ | ⟨c2, H⟩
  ·refine W.uI (cb c2) <| W.sr rfl <| WL.rd to 2 rfl <| W.ret <| rS ?_
   have jo : Cx [CH.emp] := ir.pick [2] rfl
   obtain ⟨jA, jB⟩ := sp H
   subst jA jB
   exact rH (yI rfl rfl rfl) ⟨none, 0, 0, CH.emp, rfl, jo, rfl, (Row.nil _ _)⟩
  refine W.uD (cb (Bool.eq_false_iff.2 c2)) <| W.skip <| W.sr rfl ?_
  obtain ⟨t, kI, jf, it⟩ := sU (P := Tryz.prog) (e := 67) [.slice none 0 0] ir KL rfl
  refine WL.val (jf _ _) <| WL.done <| W.sr rfl <| WL.run to 1 rfl <| WL.lv it 1 0 rfl rfl wG rfl rfl <| WL.ln (s.Eras.length : Int) rfl wG (by omega) ?_
  obtain ⟨jl, jt, jU, p, kJ, ja, jg, jp, cZ⟩ := uO (P := Tryz.prog) 3 KI it tM ti3 ⟨by decide, by decide⟩ (s.Eras.length : Int) (iv (s.Eras.length : Int)) rfl
  refine WL.val (jg _ _ _ rfl) ?_
  let iq : CH := r0 t [.slice none 0 0]
  have iu : Cx [iq, CH.emp, p, r0 a y, r0 l x] := jp.pick [1, 4, 0, 2, 3] rfl
  obtain ⟨js, go, jh, (jq : Cx [iq, CH.emp, r0 a y, r0 l x])⟩ := Ctx.fzI 2 iu rfl
  obtain ⟨gD, i0, H⟩ := rE H
  refine WL.sI (rQ.calls k _ js t 0 none 0 0 CH.emp (⟨([] : List Int)⟩ : sX) jl jt jU [(s.Eras.length : Int)] (jq.pq 2) rfl (Row.nil _ _) ja (Row.rP cZ).1 (Row.rP cZ).2.1 (Sl.mono (Row.sl cZ) go jh) gD i0) (ne.fr rfl rfl) ?_
  rintro aT L ⟨eh, eq, gz, gA, rfl, jr, jb, iW⟩
  refine ⟨_, rfl, ?_⟩
  have iX : Row KB F gA (.slice eh gz eq) gD.b := iW
  let kC : CH := r0 t [.slice eh gz eq]
  have iw : Cx [kC, gA, p, r0 a y, r0 l x] := Ctx.cl 2 iu go jr
  refine WL.done <| W.seq <| W.sr rfl <| WL.run to 1 rfl <| WL.lv iw 3 0 rfl rfl wG rfl rfl <| WL.ln (s.Eras.length : Int) rfl wG (by omega) <| WL.rd to 1 rfl ?_
  obtain ⟨cv, R, H⟩ := rE H
  refine W.vG (fun A L => ∃ be bf a2 ap, Kn A [(3, pt a), (6, pt t)] ∧ Ctx w F D L F [r0 t [.slice be a2 bf], ap, p, r0 a y, r0 l x] ∧ a2 = cv.b.length ∧ Row KB F ap (.slice be a2 bf) cv.b) ?_ ?_
  ·refine W.block <| W.loop (fun aj A L => ∃ (V : Int) (bw : sX), ∃ a0 a1 aJ ai, Kn A [(3, pt a), (6, pt t), (33, .slice ef gx ee), (34, iv (s.Eras.length : Int)), (35, iv V)] ∧ Ctx w F D L F [r0 t [.slice a0 aJ a1], ai, p, r0 a y, r0 l x] ∧ oW KB F ai a0 aJ a1 bw.b (rX.l1 aj s V bw = some cv)) k ⟨0, gD, eh, eq, gz, gA, rfl, iw, jb, iX, R⟩ ?_
   clear R
   rintro aj A L ⟨V, bw, a0, a1, aJ, ai, h7, cU, dO, dN, R⟩
   rcases aj with _ | c3
   · exact absurd R (by simp [rX.l1])
   rw [rX.l1] at R
   apply ks A h7
   refine W.sr rfl <| WL.rd to 1 rfl <| W.seq ?_
   rcases rT R with ⟨bZ, R⟩ | ⟨bZ, R⟩
   ·refine W.cT bZ rfl <| W.skip <| W.seq <| W.block <| W.sr rfl ?_
    obtain ⟨km, R⟩ := rV R
    obtain ⟨kA, ko, hP, hW⟩ := ix (by omega)
    refine WL.val (Yl.rW (i := V) rfl rfl hP wG A6 (by omega)) ?_
    obtain ⟨kl, h8, h9⟩ := hW V.toNat _ (getD_some (d := sD.z) (by omega))
    obtain ⟨rfl, aU⟩ := sD.open h8
    let a4 : LV := [iv ((s.Eras.getD V.toNat sD.z).Epoch)] ++ (((s.Eras.getD V.toNat sD.z).Nonce).map (Value.int .u8))
    refine WL.val (Yl.wC (cs := a4) rfl Dh rfl (uY A6 (tP rfl (rL aU))) (fun j u hu => by rw [vL]; exact ((cU.fro)).cell (h9 _ _ hu))) ?_
    let kB : LV := [iv 0] ++ ((List.replicate 32 (0 : Int)).map (Value.int .u8))
    obtain ⟨ah, kD, ia, iI⟩ := sU (P := Tryz.prog) (e := 94) kB cU GX rfl
    refine WL.val (ia _ _) ?_
    let gF : CH := r0 t [.slice a0 aJ a1]
    refine WL.st iI 0 0 a4 rfl rfl rfl rfl (Put.all 33 (tP rfl (rL (List.length_replicate ..))) (tP rfl (rL aU))) (yB (rR rfl) (wN _ _)) (uY A6 (tP rfl (rL aU))) fun L (ek : Cx [r0 ah a4, gF, ai, p, r0 a y, r0 l x]) => ?_
    refine WL.done <| W.sr rfl <| WL.run to 1 rfl <| WL.lv ek 0 0 rfl rfl u_3 rfl rfl ?_
    obtain ⟨iG, iU, ji, a3, kE, h1, ib, iJ, bX⟩ := uO (P := Tryz.prog) 3 KI ek tM ti3 ⟨by decide, by decide⟩ ((s.Eras.getD V.toNat sD.z).Epoch) (iv ((s.Eras.getD V.toNat sD.z).Epoch)) rfl
    refine WL.val (ib _ _ _ rfl) ?_
    have el : Cx [gF, ai, a3, r0 ah a4, p, r0 a y, r0 l x] := iJ.pick [2, 3, 0, 1, 4, 5, 6] rfl
    obtain ⟨iR, dQ, id, cV⟩ := Ctx.fzI 2 el rfl
    replace cV : Cx [gF, ai, r0 ah a4, p, r0 a y, r0 l x] := cV
    obtain ⟨c8, hX, R⟩ := rE R
    refine WL.sI (rQ.calls c3 _ iR t 0 a0 a1 aJ ai bw iG iU ji [(s.Eras.getD V.toNat sD.z).Epoch] (cV.pq 2) dO dN h1 (Row.rP bX).1 (Row.rP bX).2.1 (Sl.mono (Row.sl bX) dQ id) c8 hX) (ne.fr rfl rfl) ?_
    rintro aT L ⟨cR, cX, c4, bv, rfl, iK, h2, hR⟩
    refine ⟨_, rfl, ?_⟩
    have hS : Row KB F bv (.slice cR c4 cX) c8.b := hR
    let jk : CH := r0 t [.slice cR c4 cX]
    have cW : Cx [jk, bv, a3, r0 ah a4, p, r0 a y, r0 l x] := Ctx.cl 2 el dQ iK
    refine WL.done <| W.region rfl ?_
    refine WL.run to 1 rfl <| WL.val (Yl.xD (g := ah) (off := 0) (o := 1) (cs := a4) (us := ((s.Eras.getD V.toNat sD.z).Nonce).map (Value.int .u8)) rfl zC rfl (uY yL (rL aU)) (Ctx.rO 3 cW rfl) (zU 1 0 rfl (BO rfl))) ?_
    obtain ⟨gC, hY, R⟩ := rE R
    refine WL.sI (vW.calls c3 _ F t 0 cR cX c4 bv c8 ((s.Eras.getD V.toNat sD.z).Nonce) (cW.pq 2) h2 hS aU gC hY) (ne.fr rfl rfl) ?_
    rintro aT L ⟨eg, ep, gy, c6, rfl, iL, h3, hT⟩
    refine ⟨_, rfl, ?_⟩
    let kd : CH := r0 t [.slice eg gy ep]
    have iM : Cx [kd, c6, a3, r0 ah a4, p, r0 a y, r0 l x] := Ctx.cn 2 cW iL
    refine WL.done <| tH <| W.region rfl ?_
    refine WL.rd to 2 rfl ?_
    have iN : Cx [kd, c6, p, r0 a y, r0 l x] := iM.pick [0, 1, 4, 5, 6] rfl
    exact rF ⟨c3, Nat.lt_succ_self _, rB (V + 1), gC, eg, ep, gy, c6, rfl, iN, h3, hT, R⟩
   refine W.cF bZ rfl <| W.exit <| rM <| rM <| sL ?_
   cases R
   refine rF ?_
   exact ⟨a0, a1, aJ, ai, rfl, cU, dO, dN⟩
  ·rintro A L ⟨be, bf, a2, ap, h6, ei, h0, hQ⟩
   apply ks A h6
   refine W.sr rfl <| WL.run to 1 rfl <| WL.lv ei 3 1 rfl rfl wY rfl rfl <| WL.ln (s.Jobs.length : Int) rfl wY (by omega) ?_
   obtain ⟨iH, iV, jj, h, kF, h4, ic, iO, bY⟩ := uO (P := Tryz.prog) 3 KI ei tM ti3 ⟨by decide, by decide⟩ (s.Jobs.length : Int) (iv (s.Jobs.length : Int)) rfl
   refine WL.val (ic _ _ _ rfl) ?_
   let d6 : CH := r0 t [.slice be a2 bf]
   have em : Cx [d6, ap, h, p, r0 a y, r0 l x] := iO.pick [1, 2, 0, 3, 4, 5] rfl
   obtain ⟨iS, dR, ie, (iP : Cx [d6, ap, p, r0 a y, r0 l x])⟩ := Ctx.fzI 2 em rfl
   obtain ⟨c9, hZ, H⟩ := rE H
   refine WL.sI (rQ.calls k _ iS t 0 be bf a2 ap cv iH iV jj [(s.Jobs.length : Int)] (iP.pq 2) h0 hQ h4 (Row.rP bY).1 (Row.rP bY).2.1 (Sl.mono (Row.sl bY) dR ie) c9 hZ) (ne.fr rfl rfl) ?_
   rintro aT L ⟨cS, cY, c5, c7, rfl, iQ, h5, hU⟩
   refine ⟨_, rfl, ?_⟩
   have hV : Row KB F c7 (.slice cS c5 cY) c9.b := hU
   let j8 : CH := r0 t [.slice cS c5 cY]
   have en : Cx [j8, c7, h, p, r0 a y, r0 l x] := Ctx.cl 2 em dR iQ
   refine WL.done <| W.seq <| W.sr rfl <| WL.run to 1 rfl <| WL.lv en 4 1 rfl rfl wY rfl rfl <| WL.ln (s.Jobs.length : Int) rfl wY (by omega) <| WL.rd to 1 rfl ?_
   obtain ⟨ba, E, H⟩ := rE H
   refine W.vG (fun A L => ∃ aK aP aB ae, Kn A [(3, pt a), (6, pt t)] ∧ Ctx w F D L F [r0 t [.slice aK aB aP], ae, h, p, r0 a y, r0 l x] ∧ aB = ba.b.length ∧ Row KB F ae (.slice aK aB aP) ba.b) ?_ ?_
   ·refine W.block <| W.loop (fun aj A L => ∃ (m : Int) (aX : sX), ∃ ar ay am aa, Kn A [(3, pt a), (6, pt t), (53, .slice bJ aV bx), (54, iv (s.Jobs.length : Int)), (55, iv m)] ∧ Ctx w F D L F [r0 t [.slice ar am ay], aa, h, p, r0 a y, r0 l x] ∧ oW KB F aa ar am ay aX.b (rX.l2 aj s m aX = some ba)) k ⟨0, c9, cS, cY, c5, c7, rfl, en, h5, hV, E⟩ ?_
    clear E
    rintro aj A L ⟨m, aX, ar, ay, am, aa, fV, bK, cC, cz, E⟩
    rcases aj with _ | al
    · exact absurd E (by simp [rX.l2])
    rw [rX.l2] at E
    apply ks A fV
    refine W.sr rfl <| WL.rd to 1 rfl <| W.seq ?_
    rcases rT E with ⟨bp, E⟩ | ⟨bp, E⟩
    ·refine W.cT bp rfl <| W.skip <| W.seq <| W.block <| W.sr rfl ?_
     obtain ⟨jC, E⟩ := rV E
     obtain ⟨kf, jV, er, e4⟩ := eV (by omega)
     refine WL.val (Yl.rW (i := m) rfl rfl er wY yN (by omega)) ?_
     obtain ⟨ju, f2, f8⟩ := e4 m.toNat _ (getD_some (d := bT.z) (by omega))
     obtain ⟨db, dE, dT, dc, dF, dU, gG, hE, ig, dd, dG, dV, de, dH, dW, rfl, fu, fl, fp, eY, jR, jI, jM, eZ, jS, jJ, jN, e0, jT, jK, jO, e1, fv, fm, fq, e2⟩ := bT.open f2
     let I : LV := (bT.q (s.Jobs.getD m.toNat bT.z) db dT dE dc dU dF gG ig hE dd dV dG de dW dH)
     refine WL.val (Yl.wC (cs := I) rfl xG rfl yN (fun j u hu => by rw [vL]; exact ((bK.fro)).cell (f8 _ _ hu))) ?_
     let j1 : LV := [.slice none 0 0, iv 0, iv 0, iv 0, iv 0, .slice none 0 0, .slice none 0 0, .slice none 0 0, .slice none 0 0]
     obtain ⟨r, kp, ge, gP⟩ := sU (P := Tryz.prog) (e := 63) j1 bK Cv rfl
     refine WL.val (ge _ _) ?_
     let d7 : CH := r0 t [.slice ar am ay]
     refine WL.st gP 0 0 I rfl rfl rfl rfl (Put.lit 0 rfl) (rR rfl) yN fun L (dl : Cx [r0 r I, d7, aa, h, p, r0 a y, r0 l x]) => ?_
     refine WL.done <| W.sr rfl <| WL.run to 1 rfl <| WL.lv dl 0 0 rfl rfl tG rfl rfl ?_
     have dm : Cx [d7, aa, r0 r I, h, p, r0 a y, r0 l x] := dl.pick [1, 2, 0, 3, 4, 5, 6] rfl
     obtain ⟨d2, fa, E⟩ := rE E
     refine WL.sI (uT.calls al _ F t 0 ar ay am aa aX db dE dT ((s.Jobs.getD m.toNat bT.z).Payload) (dm.pq 2) cC cz fu fl fp eY d2 fa) (ne.fr rfl rfl) ?_
     rintro aT L ⟨df, dI, dX, aF, rfl, gQ, fw, ez⟩
     refine ⟨_, rfl, ?_⟩
     let cP : CH := r0 t [.slice df dX dI]
     have aw : Cx [cP, aF, r0 r I, h, p, r0 a y, r0 l x] := Ctx.cn 2 dm gQ
     refine WL.done <| W.sr rfl <| WL.run to 1 rfl <| WL.lv aw 2 1 rfl rfl u_3 rfl rfl <| WL.run to 1 rfl <| WL.lv aw 2 2 rfl rfl u_3 rfl rfl <| WL.run to 1 rfl <| WL.lv aw 2 3 rfl rfl u_3 rfl rfl <| WL.run to 1 rfl ?_
     refine WL.lv aw 2 4 rfl rfl u_3 rfl rfl <| WL.run to 1 rfl <| WL.lv aw 2 5 rfl rfl tM rfl rfl <| WL.ln (((s.Jobs.getD m.toNat bT.z).Workers).length : Int) rfl tM (by omega) ?_
     let j2 : LV := [iv ((s.Jobs.getD m.toNat bT.z).State), iv ((s.Jobs.getD m.toNat bT.z).Attempt), iv ((s.Jobs.getD m.toNat bT.z).Epoch), iv ((s.Jobs.getD m.toNat bT.z).Until), iv (((s.Jobs.getD m.toNat bT.z).Workers).length : Int)]
     obtain ⟨gH, hF, ih, B, kq, fx, gf, gR, bg⟩ := Cs (P := Tryz.prog) 3 KI aw tM ti3 (by decide) [(s.Jobs.getD m.toNat bT.z).State, (s.Jobs.getD m.toNat bT.z).Attempt, (s.Jobs.getD m.toNat bT.z).Epoch, (s.Jobs.getD m.toNat bT.z).Until, (((s.Jobs.getD m.toNat bT.z).Workers).length : Int)] j2 (.cons rfl (.cons rfl (.cons rfl (.cons rfl (.cons rfl .nil))))) 5 rfl (by decide) (by decide)
     refine WL.val (gf _ [(.tmp 63), (.tmp 65), (.tmp 67), (.tmp 69), (.tmp 72)] _ (.cons rfl (.cons rfl (.cons rfl (.cons rfl (.cons rfl .nil)))))) ?_
     have dp : Cx [cP, aF, B, r0 r I, h, p, r0 a y, r0 l x] := gR.pick [1, 2, 0, 3, 4, 5, 6, 7] rfl
     obtain ⟨hv, cG, gp, (gS : Cx [cP, aF, r0 r I, h, p, r0 a y, r0 l x])⟩ := Ctx.fzI 2 dp rfl
     obtain ⟨ck, fb, E⟩ := rE E
     refine WL.sI (rQ.calls al _ hv t 0 df dI dX aF d2 gH hF ih [(s.Jobs.getD m.toNat bT.z).State, (s.Jobs.getD m.toNat bT.z).Attempt, (s.Jobs.getD m.toNat bT.z).Epoch, (s.Jobs.getD m.toNat bT.z).Until, (((s.Jobs.getD m.toNat bT.z).Workers).length : Int)] (gS.pq 2) fw ez fx (Row.rP bg).1 (Row.rP bg).2.1 (Sl.mono (Row.sl bg) cG gp) ck fb) (ne.fr rfl rfl) ?_
     rintro aT L ⟨bA, bO, b1, ca, rfl, gT, fy, eA⟩
     refine ⟨_, rfl, ?_⟩
     have eB : Row KB F ca (.slice bA b1 bO) ck.b := eA
     let j9 : CH := r0 t [.slice bA b1 bO]
     have dq : Cx [j9, ca, B, r0 r I, h, p, r0 a y, r0 l x] := Ctx.cl 2 dp cG gT
     refine WL.done <| W.seq <| W.sr rfl <| WL.run to 1 rfl <| WL.lv dq 3 5 rfl rfl tM rfl rfl <| WL.ln (((s.Jobs.getD m.toNat bT.z).Workers).length : Int) rfl tM (by omega) <| WL.rd to 1 rfl ?_
     obtain ⟨bb, M, E⟩ := rE E
     refine W.vG (fun A L => ∃ aL aQ aC af, Kn A [(3, pt a), (6, pt t), (10, pt r), (53, .slice bJ aV bx), (54, iv (s.Jobs.length : Int)), (55, iv m)] ∧ Ctx w F D L F [r0 t [.slice aL aC aQ], af, B, r0 r I, h, p, r0 a y, r0 l x] ∧ aC = bb.b.length ∧ Row KB F af (.slice aL aC aQ) bb.b) ?_ ?_
     ·refine W.block <| W.loop (fun aj A L => ∃ (S : Int) (aY : sX), ∃ au az an ab, Kn A [(3, pt a), (6, pt t), (10, pt r), (53, .slice bJ aV bx), (54, iv (s.Jobs.length : Int)), (55, iv m), (76, .slice dc dU dF), (77, iv (((s.Jobs.getD m.toNat bT.z).Workers).length : Int)), (78, iv S)] ∧ Ctx w F D L F [r0 t [.slice au an az], ab, B, r0 r I, h, p, r0 a y, r0 l x] ∧ oW KB F ab au an az aY.b (rX.l3 aj s m S aY = some bb)) al ⟨0, ck, bA, bO, b1, ca, rfl, dq, fy, eB, M⟩ ?_
      clear M
      rintro aj A L ⟨S, aY, au, az, an, ab, fX, aO, cD, cA, M⟩
      rcases aj with _ | dP
      · exact absurd M (by simp [rX.l3])
      rw [rX.l3] at M
      apply ks A fX
      refine W.sr rfl <| WL.rd to 1 rfl <| W.seq ?_
      rcases rT M with ⟨bq, M⟩ | ⟨bq, M⟩
      ·refine W.cT bq rfl <| W.skip <| W.seq <| W.block <| W.sr rfl <| WL.run to 1 rfl ?_
       obtain ⟨jD, M⟩ := rV M
       obtain ⟨kg, jW, es, e5⟩ := eZ (by omega)
       refine WL.val (Yl.rW (i := S) rfl rfl es tM sz3 (by omega)) ?_
       obtain ⟨jv, f3, f9⟩ := e5 S.toNat _ (getD_some (d := 0) (by omega))
       obtain rfl := f3
       refine WL.val (Yl.load (v := iv (((s.Jobs.getD m.toNat bT.z).Workers).getD S.toNat 0)) rfl u_3 rfl (((aO.fro)).cell (f9 0 _ rfl))) <| WL.rd to 2 rfl <| W.region rfl ?_
       refine WL.run to 2 rfl <| WL.lv aO 3 6 rfl rfl tM rfl rfl <| WL.run to 1 rfl ?_
       obtain ⟨jE, M⟩ := rV M
       obtain ⟨kh, jX, et, e6⟩ := e0 (by omega)
       refine WL.val (Yl.rW (i := S) rfl rfl et tM sz3 (by omega)) ?_
       obtain ⟨jw, f4, ga⟩ := e6 S.toNat _ (getD_some (d := 0) (by omega))
       obtain rfl := f4
       refine WL.val (Yl.load (v := iv (((s.Jobs.getD m.toNat bT.z).Indexes).getD S.toNat 0)) rfl u_3 rfl (((aO.fro)).cell (ga 0 _ rfl))) ?_
       let j3 : LV := [iv (((s.Jobs.getD m.toNat bT.z).Workers).getD S.toNat 0), iv (((s.Jobs.getD m.toNat bT.z).Indexes).getD S.toNat 0)]
       obtain ⟨gI, hG, ii, cc, kr, fB, gg, gU, bh⟩ := Cs (P := Tryz.prog) 3 KI aO tM ti3 (by decide) [((s.Jobs.getD m.toNat bT.z).Workers).getD S.toNat 0, ((s.Jobs.getD m.toNat bT.z).Indexes).getD S.toNat 0] j3 (.cons rfl (.cons rfl .nil)) 2 rfl (by decide) (by decide)
       refine WL.val (gg _ [(.tmp 83), (.tmp 88)] _ (.cons rfl (.cons rfl .nil))) ?_
       let d8 : CH := r0 t [.slice au an az]
       have ds : Cx [d8, ab, cc, B, r0 r I, h, p, r0 a y, r0 l x] := gU.pick [1, 2, 0, 3, 4, 5, 6, 7, 8] rfl
       obtain ⟨hw, cH, gq, (gV : Cx [d8, ab, B, r0 r I, h, p, r0 a y, r0 l x])⟩ := Ctx.fzI 2 ds rfl
       obtain ⟨cm, fc, M⟩ := rE M
       refine WL.sI (rQ.calls dP _ hw t 0 au az an ab aY gI hG ii [((s.Jobs.getD m.toNat bT.z).Workers).getD S.toNat 0, ((s.Jobs.getD m.toNat bT.z).Indexes).getD S.toNat 0] (gV.pq 2) cD cA fB (Row.rP bh).1 (Row.rP bh).2.1 (Sl.mono (Row.sl bh) cH gq) cm fc) (ne.fr rfl rfl) ?_
       rintro aT L ⟨bB, bP, b2, a6, rfl, gW, fC, eD⟩
       refine ⟨_, rfl, ?_⟩
       have eE : Row KB F a6 (.slice bB b2 bP) cm.b := eD
       let iz : CH := r0 t [.slice bB b2 bP]
       have gX : Cx [iz, a6, cc, B, r0 r I, h, p, r0 a y, r0 l x] := Ctx.cl 2 ds cH gW
       refine WL.done <| tH <| W.region rfl ?_
       refine WL.rd to 2 rfl ?_
       have gY : Cx [iz, a6, B, r0 r I, h, p, r0 a y, r0 l x] := gX.pick [0, 1, 3, 4, 5, 6, 7, 8] rfl
       exact rF ⟨dP, Nat.lt_succ_self _, rB (S + 1), cm, bB, bP, b2, a6, rfl, gY, fC, eE, M⟩
      refine W.cF bq rfl <| W.exit <| rM <| rM <| sL ?_
      cases M
      refine rF ?_
      exact ⟨au, az, an, ab, rfl, aO, cD, cA⟩
     ·rintro A L ⟨aL, aQ, aC, af, fW, dr, fA, eC⟩
      apply ks A fW
      refine W.sr rfl <| WL.run to 1 rfl <| WL.lv dr 3 7 rfl rfl wD rfl rfl <| WL.ln (((s.Jobs.getD m.toNat bT.z).rI).length : Int) rfl wD (by omega) ?_
      obtain ⟨gJ, hH, ij, O, kt, fD, gh, gZ, bi⟩ := uO (P := Tryz.prog) 3 KI dr tM ti3 ⟨by decide, by decide⟩ (((s.Jobs.getD m.toNat bT.z).rI).length : Int) (iv (((s.Jobs.getD m.toNat bT.z).rI).length : Int)) rfl
      refine WL.val (gh _ _ _ rfl) ?_
      let d9 : CH := r0 t [.slice aL aC aQ]
      have dt : Cx [d9, af, O, B, r0 r I, h, p, r0 a y, r0 l x] := gZ.pick [1, 2, 0, 3, 4, 5, 6, 7, 8] rfl
      obtain ⟨hx, cI, gr, (g0 : Cx [d9, af, B, r0 r I, h, p, r0 a y, r0 l x])⟩ := Ctx.fzI 2 dt rfl
      obtain ⟨co, fd, E⟩ := rE E
      refine WL.sI (rQ.calls al _ hx t 0 aL aQ aC af bb gJ hH ij [(((s.Jobs.getD m.toNat bT.z).rI).length : Int)] (g0.pq 2) fA eC fD (Row.rP bi).1 (Row.rP bi).2.1 (Sl.mono (Row.sl bi) cI gr) co fd) (ne.fr rfl rfl) ?_
      rintro aT L ⟨bC, bQ, b3, cd, rfl, g1, fE, eF⟩
      refine ⟨_, rfl, ?_⟩
      have eG : Row KB F cd (.slice bC b3 bQ) co.b := eF
      let ka : CH := r0 t [.slice bC b3 bQ]
      have du : Cx [ka, cd, O, B, r0 r I, h, p, r0 a y, r0 l x] := Ctx.cl 2 dt cI g1
      refine WL.done <| W.seq <| W.sr rfl <| WL.run to 1 rfl <| WL.lv du 4 7 rfl rfl wD rfl rfl <| WL.ln (((s.Jobs.getD m.toNat bT.z).rI).length : Int) rfl wD (by omega) <| WL.rd to 1 rfl ?_
      obtain ⟨bc, N, E⟩ := rE E
      refine W.vG (fun A L => ∃ aM aR aD aG, Kn A [(3, pt a), (6, pt t), (10, pt r), (53, .slice bJ aV bx), (54, iv (s.Jobs.length : Int)), (55, iv m)] ∧ Ctx w F D L F [r0 t [.slice aM aD aR], aG, O, B, r0 r I, h, p, r0 a y, r0 l x] ∧ aD = bc.b.length ∧ Row KB F aG (.slice aM aD aR) bc.b) ?_ ?_
      ·refine W.block <| W.loop (fun aj A L => ∃ (U : Int) (aZ : sX), ∃ av aA ao X, Kn A [(3, pt a), (6, pt t), (10, pt r), (53, .slice bJ aV bx), (54, iv (s.Jobs.length : Int)), (55, iv m), (98, .slice dd dV dG), (99, iv (((s.Jobs.getD m.toNat bT.z).rI).length : Int)), (100, iv U)] ∧ Ctx w F D L F [r0 t [.slice av ao aA], X, O, B, r0 r I, h, p, r0 a y, r0 l x] ∧ oW KB F X av ao aA aZ.b (rX.l4 aj s m U aZ = some bc)) al ⟨0, co, bC, bQ, b3, cd, rfl, du, fE, eG, N⟩ ?_
       clear N
       rintro aj A L ⟨U, aZ, av, aA, ao, X, fZ, bM, cE, cB, N⟩
       rcases aj with _ | b0
       · exact absurd N (by simp [rX.l4])
       rw [rX.l4] at N
       apply ks A fZ
       refine W.sr rfl <| WL.rd to 1 rfl <| W.seq ?_
       rcases rT N with ⟨br, N⟩ | ⟨br, N⟩
       ·refine W.cT br rfl <| W.skip <| W.seq <| W.block <| W.sr rfl ?_
        obtain ⟨jF, N⟩ := rV N
        obtain ⟨ki, jY, eu, e7⟩ := e1 (by omega)
        refine WL.val (Yl.rW (i := U) rfl rfl eu wD yM (by omega)) ?_
        obtain ⟨jx, f5, gb⟩ := e7 U.toNat _ (getD_some (d := rA.z) (by omega))
        obtain ⟨dg, dJ, dY, rfl, fG, fo, fs, e3⟩ := rA.open f5
        let aq : LV := [iv ((((s.Jobs.getD m.toNat bT.z).rI).getD U.toNat rA.z).Worker), .slice dg dY dJ]
        refine WL.val (Yl.wC (cs := aq) rfl Bq rfl yM (fun j u hu => by rw [vL]; exact ((bM.fro)).cell (gb _ _ hu))) ?_
        obtain ⟨Y, ku, gi, g2⟩ := sU (P := Tryz.prog) (e := 96) [iv 0, .slice none 0 0] bM CU rfl
        refine WL.val (gi _ _) ?_
        let cQ : CH := r0 t [.slice av ao aA]
        refine WL.st g2 0 0 aq rfl rfl rfl rfl (Put.lit 0 rfl) (rR rfl) yM fun L (dv : Cx [r0 Y aq, cQ, X, O, B, r0 r I, h, p, r0 a y, r0 l x]) => ?_
        refine WL.done <| W.sr rfl <| WL.run to 1 rfl <| WL.lv dv 0 0 rfl rfl u_3 rfl rfl ?_
        obtain ⟨gK, hI, ik, aH, kv, fH, gj, g3, bj⟩ := uO (P := Tryz.prog) 3 KI dv tM ti3 ⟨by decide, by decide⟩ ((((s.Jobs.getD m.toNat bT.z).rI).getD U.toNat rA.z).Worker) (iv ((((s.Jobs.getD m.toNat bT.z).rI).getD U.toNat rA.z).Worker)) rfl
        refine WL.val (gj _ _ _ rfl) ?_
        have dw : Cx [cQ, X, aH, r0 Y aq, O, B, r0 r I, h, p, r0 a y, r0 l x] := g3.pick [2, 3, 0, 1, 4, 5, 6, 7, 8, 9, 10] rfl
        obtain ⟨hy, cJ, gs, (g4 : Cx [cQ, X, r0 Y aq, O, B, r0 r I, h, p, r0 a y, r0 l x])⟩ := Ctx.fzI 2 dw rfl
        obtain ⟨cp, fe, N⟩ := rE N
        refine WL.sI (rQ.calls b0 _ hy t 0 av aA ao X aZ gK hI ik [(((s.Jobs.getD m.toNat bT.z).rI).getD U.toNat rA.z).Worker] (g4.pq 2) cE cB fH (Row.rP bj).1 (Row.rP bj).2.1 (Sl.mono (Row.sl bj) cJ gs) cp fe) (ne.fr rfl rfl) ?_
        rintro aT L ⟨bD, bR, b4, aW, rfl, g5, fI, eI⟩
        refine ⟨_, rfl, ?_⟩
        have eJ : Row KB F aW (.slice bD b4 bR) cp.b := eI
        let gE : CH := r0 t [.slice bD b4 bR]
        have bN : Cx [gE, aW, aH, r0 Y aq, O, B, r0 r I, h, p, r0 a y, r0 l x] := Ctx.cl 2 dw cJ g5
        refine WL.done <| W.region rfl ?_
        refine WL.run to 1 rfl <| WL.lv bN 3 1 rfl rfl tG rfl rfl ?_
        obtain ⟨d3, ff, N⟩ := rE N
        refine WL.sI (uT.calls b0 _ F t 0 bD bR b4 aW cp dg dJ dY ((((s.Jobs.getD m.toNat bT.z).rI).getD U.toNat rA.z).Value) (bN.pq 2) fI eJ fG fo fs e3 d3 ff) (ne.fr rfl rfl) ?_
        rintro aT L ⟨dh, dK, dZ, ce, rfl, g6, fJ, eK⟩
        refine ⟨_, rfl, ?_⟩
        let iA : CH := r0 t [.slice dh dZ dK]
        have g7 : Cx [iA, ce, aH, r0 Y aq, O, B, r0 r I, h, p, r0 a y, r0 l x] := Ctx.cn 2 bN g6
        refine WL.done <| tH <| W.region rfl ?_
        refine WL.rd to 2 rfl ?_
        have g8 : Cx [iA, ce, O, B, r0 r I, h, p, r0 a y, r0 l x] := g7.pick [0, 1, 4, 5, 6, 7, 8, 9, 10] rfl
        exact rF ⟨b0, Nat.lt_succ_self _, rB (U + 1), d3, dh, dK, dZ, ce, rfl, g8, fJ, eK, N⟩
       refine W.cF br rfl <| W.exit <| rM <| rM <| sL ?_
       cases N
       refine rF ?_
       exact ⟨av, aA, ao, X, rfl, bM, cE, cB⟩
      ·rintro A L ⟨aM, aR, aD, aG, fY, bL, fF, eH⟩
       apply ks A fY
       refine W.region rfl ?_
       refine WL.run to 1 rfl <| WL.lv bL 4 8 rfl rfl tG rfl rfl ?_
       obtain ⟨d4, fg, E⟩ := rE E
       let iB : CH := r0 t [.slice aM aD aR]
       refine WL.sI (uT.calls al _ F t 0 aM aR aD aG bc de dH dW ((s.Jobs.getD m.toNat bT.z).Value) (bL.pq 2) fF eH fv fm fq e2 d4 fg) (ne.fr rfl rfl) ?_
       rintro aT L ⟨di, dL, d0, cf, rfl, g9, fK, eL⟩
       refine ⟨_, rfl, ?_⟩
       let iC : CH := r0 t [.slice di d0 dL]
       have ha : Cx [iC, cf, O, B, r0 r I, h, p, r0 a y, r0 l x] := Ctx.cn 2 bL g9
       refine WL.done <| tH <| W.region rfl ?_
       refine WL.rd to 2 rfl ?_
       have hb : Cx [iC, cf, h, p, r0 a y, r0 l x] := ha.pick [0, 1, 5, 6, 7, 8] rfl
       exact rF ⟨al, Nat.lt_succ_self _, rB (m + 1), d4, di, dL, d0, cf, rfl, hb, fK, eL, E⟩
    refine W.cF bp rfl <| W.exit <| rM <| rM <| sL ?_
    cases E
    refine rF ?_
    exact ⟨ar, ay, am, aa, rfl, bK, cC, cz⟩
   ·rintro A L ⟨aK, aP, aB, ae, fU, dk, ft, ey⟩
    apply ks A fU
    refine W.sr rfl <| WL.run to 1 rfl <| WL.lv dk 4 2 rfl rfl tM rfl rfl <| WL.ln (s.Used.length : Int) rfl tM (by omega) ?_
    obtain ⟨gL, hJ, il, J, kw, fL, gk, hc, bk⟩ := uO (P := Tryz.prog) 3 KI dk tM ti3 ⟨by decide, by decide⟩ (s.Used.length : Int) (iv (s.Used.length : Int)) rfl
    refine WL.val (gk _ _ _ rfl) ?_
    let ea : CH := r0 t [.slice aK aB aP]
    have dx : Cx [ea, ae, J, h, p, r0 a y, r0 l x] := hc.pick [1, 2, 0, 3, 4, 5, 6] rfl
    obtain ⟨hz, cK, gt, (hd : Cx [ea, ae, h, p, r0 a y, r0 l x])⟩ := Ctx.fzI 2 dx rfl
    obtain ⟨cr, fh, H⟩ := rE H
    refine WL.sI (rQ.calls k _ hz t 0 aK aP aB ae ba gL hJ il [(s.Used.length : Int)] (hd.pq 2) ft ey fL (Row.rP bk).1 (Row.rP bk).2.1 (Sl.mono (Row.sl bk) cK gt) cr fh) (ne.fr rfl rfl) ?_
    rintro aT L ⟨bE, bS, b5, cg, rfl, he, fM, eM⟩
    refine ⟨_, rfl, ?_⟩
    have eN : Row KB F cg (.slice bE b5 bS) cr.b := eM
    let kb : CH := r0 t [.slice bE b5 bS]
    have dy : Cx [kb, cg, J, h, p, r0 a y, r0 l x] := Ctx.cl 2 dx cK he
    refine WL.done <| W.seq <| W.sr rfl <| WL.run to 1 rfl <| WL.lv dy 5 2 rfl rfl tM rfl rfl <| WL.ln (s.Used.length : Int) rfl tM (by omega) <| WL.rd to 1 rfl ?_
    obtain ⟨bd, G, H⟩ := rE H
    refine W.vG (fun A L => ∃ aN aS aE ag, Kn A [(3, pt a), (6, pt t)] ∧ Ctx w F D L F [r0 t [.slice aN aE aS], ag, J, h, p, r0 a y, r0 l x] ∧ aE = bd.b.length ∧ Row KB F ag (.slice aN aE aS) bd.b) ?_ ?_
    ·refine W.block <| W.loop (fun aj A L => ∃ (Q : Int) (aI : sX), ∃ ac ad Z T, Kn A [(3, pt a), (6, pt t), (122, .slice cw cO bz), (123, iv (s.Used.length : Int)), (124, iv Q)] ∧ Ctx w F D L F [r0 t [.slice ac Z ad], T, J, h, p, r0 a y, r0 l x] ∧ oW KB F T ac Z ad aI.b (rX.l5 aj s Q aI = some bd)) k ⟨0, cr, bE, bS, b5, cg, rfl, dy, fM, eN, G⟩ ?_
     clear G
     rintro aj A L ⟨Q, aI, ac, ad, Z, T, f1, ax, bu, bl, G⟩
     rcases aj with _ | a5
     · exact absurd G (by simp [rX.l5])
     rw [rX.l5] at G
     apply ks A f1
     refine W.sr rfl <| WL.rd to 1 rfl <| W.seq ?_
     rcases rT G with ⟨bs, G⟩ | ⟨bs, G⟩
     ·refine W.cT bs rfl <| W.skip <| W.seq <| W.block <| W.sr rfl <| WL.run to 1 rfl ?_
      obtain ⟨jG, G⟩ := rV G
      obtain ⟨kj, jZ, ew, e8⟩ := eW (by omega)
      refine WL.val (Yl.rW (i := Q) rfl rfl ew tM sz3 (by omega)) ?_
      obtain ⟨jy, f6, gc⟩ := e8 Q.toNat _ (getD_some (d := 0) (by omega))
      obtain rfl := f6
      refine WL.val (Yl.load (v := iv (s.Used.getD Q.toNat 0)) rfl u_3 rfl (((ax.fro)).cell (gc 0 _ rfl))) <| WL.rd to 2 rfl <| W.sr rfl <| WL.rd to 1 rfl <| W.seq <| W.sr rfl <| WL.run to 1 rfl <| WL.lv ax 5 3 rfl rfl zH rfl rfl <| WL.run to 1 rfl ?_
      obtain ⟨jH, G⟩ := rV G
      obtain ⟨kk, j0, ex, e9⟩ := eX (by omega)
      refine WL.val (Yl.rW (i := Q) rfl rfl ex zH sz4 (by omega)) ?_
      obtain ⟨jz, f7, gd⟩ := e9 Q.toNat _ (getD_some (d := false) (by omega))
      obtain rfl := f7
      refine WL.val (Yl.load (v := .bool (s.Barred.getD Q.toNat false)) rfl u_4 rfl (((ax.fro)).cell (gd 0 _ rfl))) <| WL.done ?_
      rcases rT G with ⟨bt, G⟩ | ⟨bt, G⟩
      ·refine W.uI (cb bt) <| W.region rfl ?_
       refine WL.rd to 1 rfl <| W.region rfl ?_
       refine WL.run to 2 rfl ?_
       let j4 : LV := [iv (s.Used.getD Q.toNat 0), iv 1]
       obtain ⟨gM, hK, im, ch, kx, fO, gl, hf, bm⟩ := Cs (P := Tryz.prog) 3 KI ax tM ti3 (by decide) [s.Used.getD Q.toNat 0, 1] j4 (.cons rfl (.cons rfl .nil)) 2 rfl (by decide) (by decide)
       refine WL.val (gl _ [(.tmp 134), (.tmp 135)] _ (.cons rfl (.cons rfl .nil))) ?_
       let eb : CH := r0 t [.slice ac Z ad]
       have dA : Cx [eb, T, ch, J, h, p, r0 a y, r0 l x] := hf.pick [1, 2, 0, 3, 4, 5, 6, 7] rfl
       obtain ⟨hA, cL, gu, (hg : Cx [eb, T, J, h, p, r0 a y, r0 l x])⟩ := Ctx.fzI 2 dA rfl
       obtain ⟨ct, fi, G⟩ := rE G
       refine WL.sI (rQ.calls a5 _ hA t 0 ac ad Z T aI gM hK im [s.Used.getD Q.toNat 0, 1] (hg.pq 2) bu bl fO (Row.rP bm).1 (Row.rP bm).2.1 (Sl.mono (Row.sl bm) cL gu) ct fi) (ne.fr rfl rfl) ?_
       rintro aT L ⟨bG, bU, b6, a7, rfl, hh, fP, eP⟩
       refine ⟨_, rfl, ?_⟩
       have eQ : Row KB F a7 (.slice bG b6 bU) ct.b := eP
       let iD : CH := r0 t [.slice bG b6 bU]
       have hi : Cx [iD, a7, ch, J, h, p, r0 a y, r0 l x] := Ctx.cl 2 dA cL hh
       refine WL.done <| tH <| W.region rfl ?_
       refine WL.rd to 2 rfl ?_
       have hj : Cx [iD, a7, J, h, p, r0 a y, r0 l x] := hi.pick [0, 1, 3, 4, 5, 6, 7] rfl
       exact rF ⟨a5, Nat.lt_succ_self _, rB (Q + 1), ct, bG, bU, b6, a7, rfl, hj, fP, eQ, G⟩
      refine W.uD (cb (Bool.eq_false_iff.2 bt)) <| W.skip <| W.region rfl ?_
      refine WL.run to 2 rfl ?_
      let j5 : LV := [iv (s.Used.getD Q.toNat 0), iv 0]
      obtain ⟨gN, hL, io, ci, ky, fQ, gm, hk, bn⟩ := Cs (P := Tryz.prog) 3 KI ax tM ti3 (by decide) [s.Used.getD Q.toNat 0, 0] j5 (.cons rfl (.cons rfl .nil)) 2 rfl (by decide) (by decide)
      refine WL.val (gm _ [(.tmp 134), (.tmp 135)] _ (.cons rfl (.cons rfl .nil))) ?_
      let ec : CH := r0 t [.slice ac Z ad]
      have dB : Cx [ec, T, ci, J, h, p, r0 a y, r0 l x] := hk.pick [1, 2, 0, 3, 4, 5, 6, 7] rfl
      obtain ⟨hB, cM, gv, (hl : Cx [ec, T, J, h, p, r0 a y, r0 l x])⟩ := Ctx.fzI 2 dB rfl
      obtain ⟨cu, fj, G⟩ := rE G
      refine WL.sI (rQ.calls a5 _ hB t 0 ac ad Z T aI gN hL io [s.Used.getD Q.toNat 0, 0] (hl.pq 2) bu bl fQ (Row.rP bn).1 (Row.rP bn).2.1 (Sl.mono (Row.sl bn) cM gv) cu fj) (ne.fr rfl rfl) ?_
      rintro aT L ⟨bH, bV, b7, a8, rfl, hm, fR, eR⟩
      refine ⟨_, rfl, ?_⟩
      have eS : Row KB F a8 (.slice bH b7 bV) cu.b := eR
      let iE : CH := r0 t [.slice bH b7 bV]
      have hn : Cx [iE, a8, ci, J, h, p, r0 a y, r0 l x] := Ctx.cl 2 dB cM hm
      refine WL.done <| tH <| W.region rfl ?_
      refine WL.rd to 2 rfl ?_
      have ho : Cx [iE, a8, J, h, p, r0 a y, r0 l x] := hn.pick [0, 1, 3, 4, 5, 6, 7] rfl
      exact rF ⟨a5, Nat.lt_succ_self _, rB (Q + 1), cu, bH, bV, b7, a8, rfl, ho, fR, eS, G⟩
     refine W.cF bs rfl <| W.exit <| rM <| rM <| sL ?_
     cases G
     refine rF ?_
     exact ⟨ac, ad, Z, T, rfl, ax, bu, bl⟩
    ·rintro A L ⟨aN, aS, aE, ag, f0, dz, fN, eO⟩
     apply ks A f0
     refine W.sr rfl <| WL.run to 1 rfl <| WL.lv dz 5 4 rfl rfl u_3 rfl rfl ?_
     obtain ⟨gO, hM, ip, cj, kz, fS, gn, hq, bo⟩ := uO (P := Tryz.prog) 3 KI dz tM ti3 ⟨by decide, by decide⟩ s.Heads (iv s.Heads) rfl
     refine WL.val (gn _ _ _ rfl) ?_
     let ed : CH := r0 t [.slice aN aE aS]
     have dC : Cx [ed, ag, cj, J, h, p, r0 a y, r0 l x] := hq.pick [1, 2, 0, 3, 4, 5, 6, 7] rfl
     obtain ⟨hC, cN, gw, (hr : Cx [ed, ag, J, h, p, r0 a y, r0 l x])⟩ := Ctx.fzI 2 dC rfl
     obtain ⟨d5, fk, H⟩ := rE H
     refine WL.sI (rQ.calls k _ hC t 0 aN aS aE ag bd gO hM ip [s.Heads] (hr.pq 2) fN eO fS (Row.rP bo).1 (Row.rP bo).2.1 (Sl.mono (Row.sl bo) cN gw) d5 fk) (ne.fr rfl rfl) ?_
     rintro aT L ⟨bI, bW, b8, a9, rfl, hs, fT, eT⟩
     refine ⟨_, rfl, ?_⟩
     have eU : Row KB F a9 (.slice bI b8 bW) d5.b := eT
     let kc : CH := r0 t [.slice bI b8 bW]
     have dD : Cx [kc, a9, cj, J, h, p, r0 a y, r0 l x] := Ctx.cl 2 dC cN hs
     refine WL.done <| W.sr rfl <| WL.run to 1 rfl <| WL.lv dD 0 0 rfl rfl tG rfl rfl <| WL.rd to 2 rfl <| W.ret ?_
     have ht : Cx [a9] := dD.pick [1] rfl
     obtain ⟨hN, hO⟩ := sp H
     subst hN hO
     exact rH (yI rfl rfl rfl) ⟨bI, bW, b8, a9, rfl, ht, fT, eU⟩
def sC.l1 : Nat → Int → Int → bF → rC → Option (bF × rC)
  | 0, _, _, _, _ => none
  | k + 1, e, b, a, d => if b < e then ((tZ.f k d).bind fun ⟨g, h⟩ => (wH.f k h).bind fun ⟨i, j⟩ => if (a.Eras.length + 1 + (a.Eras.length + 1) / 4 + 192) * 40 ≤ 281474976710656 then (sC.l1 k e (rB (b + 1)) (⟨a.Eras ++ [(⟨g, i⟩ : sD)], a.Jobs, a.Used, a.Barred, a.Heads⟩ : bF) j) else none) else (some (a, d))
def sC.l2 : Nat → Int → Int → bF → rC → Option (bF × rC)
  | 0, _, _, _, _ => none
  | k + 1, e, b, a, d => if b < e then ((uB.f k d).bind fun ⟨g, h⟩ => if (a.Jobs.length + 1 + (a.Jobs.length + 1) / 4 + 192) * 152 ≤ 281474976710656 then (sC.l2 k e (rB (b + 1)) (⟨a.Eras, a.Jobs ++ [g], a.Used, a.Barred, a.Heads⟩ : bF) h) else none) else (some (a, d))
def sC.l3 : Nat → Int → Bool → Int → bF → rC → Option (Bool × bF × rC)
  | 0, _, _, _, _, _ => none
  | k + 1, b, e, g, a, h => if g < b then ((tZ.f k h).bind fun ⟨i, j⟩ => (tZ.f k j).bind fun ⟨d, l⟩ => if (a.Used.length + 1 + (a.Used.length + 1) / 4 + 192) * 8 ≤ 281474976710656 then (if (a.Barred.length + 1 + (a.Barred.length + 1) / 4 + 192) * 1 ≤ 281474976710656 then (sC.l3 k b (e || (decide (d > 1))) (rB (g + 1)) (⟨a.Eras, a.Jobs, a.Used ++ [i], a.Barred ++ [decide (d = 1)], a.Heads⟩ : bF) l) else none) else none) else (some (e, a, h))
def sC.f (k : Nat) (w : rK) (C : List Int) : Option (bF × Int) := (tL.f k w).bind fun r => if r = 0 then ((AE.f k C).bind fun x => (vK.f k x 256).bind fun ⟨y, A⟩ => (sC.l1 k y 0 (⟨([] : List sD), ([] : List bT), ([] : List Int), ([] : List Bool), 0⟩ : bF) A).bind fun ⟨u, v⟩ => (vK.f k v 64).bind fun ⟨s, t⟩ => (sC.l2 k s 0 u t).bind fun ⟨j, l⟩ => (vK.f k l 8).bind fun ⟨e, g⟩ => (sC.l3 k e false 0 j g).bind fun ⟨m, a, o⟩ => (tZ.f k o).bind fun ⟨b, h⟩ => (xM.f k h).bind fun ⟨d, B⟩ => if d = 0 then ((if m = true then (some true) else ((sJ.f k w (⟨a.Eras, a.Jobs, a.Used, a.Barred, b⟩ : bF)).bind fun i => some (!i))).bind fun p => if p = true then (some ((⟨([] : List sD), ([] : List bT), ([] : List Int), ([] : List Bool), 0⟩ : bF), 41)) else (some ((⟨a.Eras, a.Jobs, a.Used, a.Barred, b⟩ : bF), 0))) else (some ((⟨([] : List sD), ([] : List bT), ([] : List Int), ([] : List Bool), 0⟩ : bF), d))) else (some ((⟨([] : List sD), ([] : List bT), ([] : List Int), ([] : List Bool), 0⟩ : bF), r))
theorem sC.calls (k w F) (fw : rK) (j5 iX kx) (fx : List Int) (hp : Pre w F []) (kM : kx = fx.length) (kI : fx.length ≤ iX) (kK : iX ≤ maxLen) (kG : Sl KB F F j5 fx) (bw : bF) (j4 : Int) (H : sC.f k fw fx = some (bw, j4)) :
    Calls Tryz.prog 17 #[.agg (List.toArray (rK.q fw)), .slice j5 kx iX] w fun e w' => ∃ F' ec eL db fc ed eM dc fd ee eN dd fe ef eO de ff, e = .returned (.tuple #[(.agg (List.toArray (bF.q bw ec db eL ed dc eM ee dd eN ef de eO))), (iv j4)]) ∧ CH.le F F' ∧ Ctx w F (sR []) w' F' [fc, fd, fe, ff] ∧ db = bw.Eras.length ∧ Row sD.K F' fc (.slice ec db eL) bw.Eras ∧ dc = bw.Jobs.length ∧ Row bT.K F' fd (.slice ed dc eM) bw.Jobs ∧ dd = bw.Used.length ∧ Row KI F' fe (.slice ee dd eN) bw.Used ∧ de = bw.Barred.length ∧ Row Kd.bool F' ff (.slice ef de eO) bw.Barred := by
 have C := Ctx.start hp
 generalize hD : sR [] = D at C ⊢
 unfold sC.f at H
 refine Calls.ofW Tryz.func17 rfl (by simp [Tryz.ntmps17]) <| W.sr rfl ?_
 let r : LV := rK.q fw
 obtain ⟨m, li, ku, kB⟩ := uR (P := Tryz.prog) 42 (.agg (List.toArray r)) r C rfl
 refine WL.val (ku _ _ _ rfl) ?_
 let l : LV := [.slice none 0 0, .slice none 0 0, .slice none 0 0, .slice none 0 0, iv 0]
 obtain ⟨i, lg, kv, fp⟩ := sU (P := Tryz.prog) (e := 50) l kB zN rfl
 refine WL.val (kv _ _) <| WL.rd to 1 rfl <| W.seq <| W.sr rfl <| WL.la fp 1 rfl rfl zZ rfl Ac ?_
 obtain ⟨kQ, kj, H⟩ := rE H
 refine WL.c0 fp (tL.calls k _ F fw fp.tX  kQ kj) (ne.fr rfl rfl) fun S jT => ?_
 refine WL.rd to 1 rfl <| W.sr rfl <| WL.rd to 2 rfl ?_
 rcases rT H with ⟨dV, H⟩ | ⟨dV, H⟩
 ·refine W.nF dV rfl <| W.skip <| W.sr rfl ?_
  obtain ⟨j, lh, kw, jU⟩ := sU (P := Tryz.prog) (e := 50) l jT zN rfl
  refine WL.val (kw _ _) <| WL.done <| W.sr rfl <| WL.run to 1 rfl ?_
  obtain ⟨id, kk, H⟩ := rE H
  refine WL.sI (AE.calls k _ F j5 iX kx fx jU.tX kM kI kK kG id kk) (ne.fr rfl rfl) ?_
  rintro cO S ⟨ae, d, h, jR, jW, jY, rfl, dX, kC, kr, km, kp, kh⟩
  refine ⟨_, rfl, ?_⟩
  let ky : LV := rC.q id jR jY jW
  have jV : Cx [CH.row d h ky, r0 j l, r0 i l, r0 m r] := Ctx.wS jU kC
  refine WL.rd to 1 rfl <| W.seq <| W.sr rfl <| WL.run to 1 rfl ?_
  obtain ⟨⟨ie, ig⟩, kl, H⟩ := rE H
  refine WL.sI (vK.calls k _ ae d h jR jW jY id 256 (jV.pq 1) kr km kp kh ie ig kl) (ne.fr rfl rfl) ?_
  rintro cO S ⟨jS, jX, jZ, rfl, kD, kt, ko, kq, ki⟩
  refine ⟨_, rfl, ?_⟩
  let kO : LV := rC.q ig jS jZ jX
  have kE : Cx [CH.row d h kO, r0 j l, r0 i l, r0 m r] := Ctx.cn 1 jV kD
  refine WL.rd to 1 rfl ?_
  obtain ⟨⟨ai, bI⟩, T, H⟩ := rE H
  refine W.vG (fun s S => ∃ cC cJ cf a2 cD cK cg a3 cE cL ch a4 cG cM ci a5 cH ce cX, Kn s [(2, pt m), (4, pt i), (7, pt j), (8, .pointer (some ⟨d, h, none⟩))] ∧ Ctx w F D S ae [r0 j (bF.q ai cC cf cJ cD cg cK cE ch cL cG ci cM), a2, a3, a4, a5, CH.row d h (rC.q bI cH cX ce), r0 i l, r0 m r] ∧ bF.oS ae ai cC cf cJ a2 cD cg cK a3 cE ch cL a4 cG ci cM a5 (cX = bI.b.length ∧ bI.b.length ≤ ce ∧ ce ≤ maxLen ∧ Sl KB ae ae cH bI.b)) ?_ ?_
  ·refine W.block ?_
   have j7 : Cx [r0 j l, CH.emp, CH.emp, CH.emp, CH.emp, CH.row d h kO, r0 i l, r0 m r] := kE.pick [1, 4, 4, 4, 4, 0, 2, 3] rfl
   refine W.loop (fun cP s S => ∃ (dp : Int) (Y : bF) (bg : rC), ∃ cI cN cj au bx bB bc aa bz bC bd ab bA bD be ac cd bE ck, Kn s [(2, pt m), (4, pt i), (7, pt j), (8, .pointer (some ⟨d, h, none⟩)), (22, iv ie), (23, iv dp)] ∧ Ctx w F D S ae [r0 j (bF.q Y cI cj cN bx bc bB bz bd bC bA be bD), au, aa, ab, ac, CH.row d h (rC.q bg cd ck bE), r0 i l, r0 m r] ∧ bF.oS ae Y cI cj cN au bx bc bB aa bz bd bC ab bA be bD ac (sW KB ae cd ck bE bg.b (sC.l1 cP ie dp Y bg = some (ai, bI)))) k ⟨0, (⟨([] : List sD), ([] : List bT), ([] : List Int), ([] : List Bool), 0⟩ : bF), ig, none, 0, 0, CH.emp, none, 0, 0, CH.emp, none, 0, 0, CH.emp, none, 0, 0, CH.emp, jS, jX, jZ, rfl, j7, rfl, (Row.nil _ _), rfl, (Row.nil _ _), rfl, (Row.nil _ _), rfl, (Row.nil _ _), kt, ko, kq, ki, T⟩ ?_
   clear T
   rintro cP s S ⟨dp, Y, bg, cI, cN, cj, au, bx, bB, bc, aa, bz, bC, bd, ab, bA, bD, be, ac, cd, bE, ck, jI, fq, jB, eP, eW, eQ, eX, eR, eY, eS, eZ, eU, eV, eT, T⟩
   rcases cP with _ | dW
   · exact absurd T (by simp [sC.l1])
   rw [sC.l1] at T
   apply ks s jI
   refine W.sr rfl <| WL.rd to 1 rfl <| W.seq ?_
   rcases rT T with ⟨c8, T⟩ | ⟨c8, T⟩
   ·refine W.cT c8 rfl <| W.skip <| W.seq <| W.block ?_
    let cZ : LV := bF.q Y cI cj cN bx bc bB bz bd bC bA be bD
    refine W.uF [([8, 10], r0 j cZ)] (by kernel_rfl) ?_
    have fs := Ctx.drewN fq 1
    refine WA.sZ [(0, none), (1, some 0), (2, none), (4, none)] ⟨(Ctx.rO 0 fs rfl), trivial⟩ (by kernel_rfl) <| WT.run to 1 rfl <| WT.lv 0 rfl rfl rfl wG rfl rfl <| WT.run to 2 rfl <| WT.done ?_
    let kz : LV := rC.q bg cd ck bE
    have ft : Cx [CH.row d h kz, r0 j cZ, au, aa, ab, ac, r0 i l, r0 m r] := fs.pick [5, 0, 1, 2, 3, 4, 6, 7] rfl
    obtain ⟨⟨bG, dY⟩, jl, T⟩ := rE T
    refine WA.up1 3 (by kernel_rfl) (Up.sI rfl (by kernel_rfl) rfl (tZ.calls dW _ ae d h cd bE ck bg (ft.pq 1) eZ eU eV eT bG dY jl) (ne.fr rfl rfl) ?_)
    rintro cO S ⟨fl, fy, h2, rfl, j8, jC, jp, jt, jh⟩
    let kA : LV := rC.q dY fl h2 fy
    have dS : Cx [CH.row d h kA, r0 j cZ, au, aa, ab, ac, r0 i l, r0 m r] := Ctx.cn 1 ft j8
    refine ⟨_, rfl, ⟨(Ctx.rO 1 dS rfl), trivial⟩, ?_⟩
    obtain ⟨⟨bH, dZ⟩, jm, T⟩ := rE T
    refine WA.up1 5 (by kernel_rfl) (Up.sI rfl (by kernel_rfl) rfl (wH.calls dW _ ae d h fl fy h2 dY (dS.pq 1) jC jp jt jh bH dZ jm) (ne.fr rfl rfl) ?_)
    rintro cO S ⟨fm, fA, h3, rfl, j9, c7, jD, jq, ju, ji⟩
    let fk : LV := rC.q dZ fm h3 fA
    have dT : Cx [CH.row d h fk, r0 j cZ, au, aa, ab, ac, r0 i l, r0 m r] := Ctx.cn 1 dS j9
    refine ⟨_, rfl, ⟨(Ctx.rO 1 dT rfl), trivial⟩, ?_⟩
    refine WA.sZ [(6, none)] ⟨(Ctx.rO 1 dT rfl), trivial⟩ (by kernel_rfl) ?_
    let kP : LV := [iv bG] ++ (bH.map (Value.int .u8))
    refine WT.val rfl (fun _ hC_ => Yl.build (places := [(0, 1), (1, 32)]) (cs := List.toArray kP) Dh GX (JW _ Dh) (uV (.cons rfl (.cons rfl .nil))) (zF.run (a := [iv 0] ++ ((List.replicate 32 (0 : Int)).map (Value.int .u8))) (c := [iv bG] ++ (bH.map (Value.int .u8))) (.put (us := [iv bG]) rfl rfl rfl (Put.left (Put.lit 0 rfl)) (.put (us := bH.map (Value.int .u8)) rfl rfl (rL c7) (Put.skip 1 0 rfl (Put.all 32 (rL (List.length_replicate ..)) (rL c7))) .nil)))) ?_
    refine WT.done ?_
    obtain ⟨k9, kg, lb, dh, lc, jE, jJ, dU, je⟩ := uO (P := Tryz.prog) 94 sD.K dT wG Fj ⟨by decide, by decide⟩ (⟨bG, bH⟩ : sD) (.agg (List.toArray kP)) (sD.mk' _ (⟨bG, bH⟩ : sD)  c7)
    refine WA.up1 7 (by kernel_rfl) (Up.val rfl rfl rfl (jJ _ _ _ rfl) ⟨(Ctx.rO 2 dU rfl), trivial⟩ ?_)
    obtain ⟨jk, T⟩ := rV T
    obtain ⟨c2, c6, df, cY, ld, jF, jK, ka, jf⟩ := sP (P := Tryz.prog) (cb := kg) 94 sD.K [dh, CH.row d h fk, r0 j cZ] [aa, ab, ac, r0 i l, r0 m r] dU eP jE (Row.sl je) (Ctx.rO 0 dU rfl) wG Fj rfl I8 (by decide) (by decide) (by simpa using jk)
    have fu : Cx [dh, CH.row d h fk, r0 j cZ, cY, aa, ab, ac, r0 i l, r0 m r] := ka
    refine WA.up1 8 (by kernel_rfl) (Up.val rfl rfl rfl (jK _ _ _ _ rfl rfl) ⟨trivial, trivial⟩ ?_)
    refine WA.sZ [(9, none)] ⟨(Ctx.rO 2 fu rfl), trivial⟩ (by kernel_rfl) <| WT.run to 1 rfl <| WT.done ?_
    obtain ⟨lf, jL, kb⟩ := vH (P := Tryz.prog) (ps1 := [dh, CH.row d h fk]) (ps2 := [cY, aa, ab, ac, r0 i l, r0 m r]) (t := 45) 0 [.slice c2 df c6] (.slice c2 df c6) fu rfl rfl (rR rfl) Jv
    let j0 : LV := bF.q Y c2 df c6 bx bc bB bz bd bC bA be bD
    have kc : Cx [dh, CH.row d h fk, r0 j j0, cY, aa, ab, ac, r0 i l, r0 m r] := kb
    refine WA.up1 10 (by kernel_rfl) (Up.skip rfl rfl (jL _ _ _ _ rfl rfl) ⟨trivial, trivial⟩ ?_)
    refine WA.done (by kernel_rfl) <| tH <| W.region rfl ?_
    refine WL.rd to 2 rfl ?_
    have kd : Cx [r0 j j0, cY, aa, ab, ac, CH.row d h fk, r0 i l, r0 m r] := kc.pick [2, 3, 4, 5, 6, 1, 7, 8] rfl
    exact rF ⟨dW, Nat.lt_succ_self _, rB (dp + 1), (⟨Y.Eras ++ [(⟨bG, bH⟩ : sD)], Y.Jobs, Y.Used, Y.Barred, Y.Heads⟩ : bF), dZ, c2, c6, df, cY, bx, bB, bc, aa, bz, bC, bd, ab, bA, bD, be, ac, fm, fA, h3, rfl, kd, jF, jf, eW, eQ, eX, eR, eY, eS, jD, jq, ju, ji, T⟩
   refine W.cF c8 rfl <| W.exit <| rM <| rM <| sL ?_
   cases T
   refine rF ?_
   exact ⟨cI, cN, cj, au, bx, bB, bc, aa, bz, bC, bd, ab, bA, bD, be, ac, cd, bE, ck, rfl, fq, jB, eP, eW, eQ, eX, eR, eY, eS, eZ, eU, eV, eT⟩
  ·rintro s S ⟨cC, cJ, cf, a2, cD, cK, cg, a3, cE, cL, ch, a4, cG, cM, ci, a5, cH, ce, cX, jH, j6, jw, ja, jx, jb, jy, jc, jz, jd, jA, jo, js, jg⟩
   apply ks s jH
   refine W.seq <| W.sr rfl <| WL.run to 1 rfl ?_
   let h5 : LV := rC.q bI cH cX ce
   let dQ : LV := bF.q ai cC cf cJ cD cg cK cE ch cL cG ci cM
   have fv : Cx [CH.row d h h5, r0 j dQ, a2, a3, a4, a5, r0 i l, r0 m r] := j6.pick [5, 0, 1, 2, 3, 4, 6, 7] rfl
   obtain ⟨⟨d0, d1⟩, jn, H⟩ := rE H
   refine WL.sI (vK.calls k _ ae d h cH ce cX bI 64 (fv.pq 1) jA jo js jg d0 d1 jn) (ne.fr rfl rfl) ?_
   rintro cO S ⟨fo, fB, h4, rfl, ke, jG, jr, jv, jj⟩
   refine ⟨_, rfl, ?_⟩
   let j1 : LV := rC.q d1 fo h4 fB
   have kf : Cx [CH.row d h j1, r0 j dQ, a2, a3, a4, a5, r0 i l, r0 m r] := Ctx.cn 1 fv ke
   refine WL.rd to 1 rfl ?_
   obtain ⟨⟨af, a6⟩, Q, H⟩ := rE H
   refine W.vG (fun s S => ∃ p bJ bR bo am bK bS bp an bL bU bq ao bM bV br ap bN bl b2, Kn s [(2, pt m), (4, pt i), (7, pt j), (8, .pointer (some ⟨d, h, none⟩))] ∧ Ctx w F D S p [r0 j (bF.q af bJ bo bR bK bp bS bL bq bU bM br bV), am, an, ao, ap, CH.row d h (rC.q a6 bN b2 bl), r0 i l, r0 m r] ∧ CH.le ae p ∧ bF.oS p af bJ bo bR am bK bp bS an bL bq bU ao bM br bV ap (b2 = a6.b.length ∧ a6.b.length ≤ bl ∧ bl ≤ maxLen ∧ Sl KB p p bN a6.b)) ?_ ?_
   ·refine W.block ?_
    have ij : Cx [r0 j dQ, a2, a3, a4, a5, CH.row d h j1, r0 i l, r0 m r] := kf.pick [1, 2, 3, 4, 5, 0, 6, 7] rfl
    refine W.loop (fun cP s S => ∃ (cB : Int) (O : bF) (aH : rC), ∃ ag aK aR az I bO bW bs ad aL aS aA J aM aT aB L bh aU bt, Kn s [(2, pt m), (4, pt i), (7, pt j), (8, .pointer (some ⟨d, h, none⟩)), (37, iv d0), (38, iv cB)] ∧ Ctx w F D S ag [r0 j (bF.q O aK az aR bO bs bW aL aA aS aM aB aT), I, ad, J, L, CH.row d h (rC.q aH bh bt aU), r0 i l, r0 m r] ∧ CH.le ae ag ∧ bF.oS ag O aK az aR I bO bs bW ad aL aA aS J aM aB aT L (sW KB ag bh bt aU aH.b (sC.l2 cP d0 cB O aH = some (af, a6)))) k ⟨0, ai, d1, ae, cC, cJ, cf, a2, cD, cK, cg, a3, cE, cL, ch, a4, cG, cM, ci, a5, fo, fB, h4, rfl, ij, (CH.le_refl _), jw, ja, jx, jb, jy, jc, jz, jd, jG, jr, jv, jj, Q⟩ ?_
    clear Q
    rintro cP s S ⟨cB, O, aH, ag, aK, aR, az, I, bO, bW, bs, ad, aL, aS, aA, J, aM, aT, aB, L, bh, aU, bt, hA, eg, dP, dE, dq, he, dr, dF, ds, dG, dt, dH, dA, dC, dy, Q⟩
    rcases cP with _ | e0
    · exact absurd Q (by simp [sC.l2])
    rw [sC.l2] at Q
    apply ks s hA
    refine W.sr rfl <| WL.rd to 1 rfl <| W.seq ?_
    rcases rT Q with ⟨cQ, Q⟩ | ⟨cQ, Q⟩
    ·refine W.cT cQ rfl <| W.skip <| W.seq <| W.block ?_
     let a8 : LV := bF.q O aK az aR bO bs bW aL aA aS aM aB aT
     refine W.uF [([5, 7], r0 j a8)] (by kernel_rfl) ?_
     have eh := Ctx.drewN eg 1
     refine WA.sZ [(0, none), (1, some 0), (2, none)] ⟨(Ctx.rO 0 eh rfl), trivial⟩ (by kernel_rfl) <| WT.run to 1 rfl <| WT.lv 1 rfl rfl rfl wY rfl rfl <| WT.run to 1 rfl <| WT.done ?_
     let h6 : LV := rC.q aH bh bt aU
     have ei : Cx [CH.row d h h6, r0 j a8, I, ad, J, L, r0 i l, r0 m r] := eh.pick [5, 0, 1, 2, 3, 4, 6, 7] rfl
     obtain ⟨⟨ca, di⟩, gE, Q⟩ := rE Q
     refine WA.up1 3 (by kernel_rfl) (Up.sI rfl (by kernel_rfl) rfl (uB.calls e0 _ ag d h bh aU bt aH (ei.pq 1) dH dA dC dy ca di gE) (ne.fr rfl rfl) ?_)
     rintro cO S ⟨kU, d2, eB, e1, jN, d3, eC, e2, fb, d4, eD, e3, dg, d5, eE, e4, cv, d6, eF, e5, b4, d7, eG, e6, rfl, ba, ik, hf, fG, hg, fH, hh, fI, hi, fJ, hj, fK, hk, gM, gY, gq⟩
     let bf : LV := rC.q di d7 e6 eG
     have ej : Cx [CH.row d h bf, jN, fb, dg, cv, b4, r0 j a8, I, ad, J, L, r0 i l, r0 m r] := Ctx.cn 1 ei ik
     have fL := Row.mono dr ba
     have fM := Row.mono dq ba
     have fN := Row.mono ds ba
     have fO := Row.mono dt ba
     refine ⟨_, rfl, ⟨(Ctx.rO 6 ej rfl), trivial⟩, ?_⟩
     obtain ⟨kV, X, hT, (il : Cx [CH.row d h bf, fb, dg, cv, b4, r0 j a8, I, ad, J, L, r0 i l, r0 m r])⟩ := Ctx.fzI 1 ej rfl
     obtain ⟨gN, gZ, gr⟩ := Row.fz fG X hT
     have fP := Row.mono fL X
     have fQ := Row.mono fH X
     have fR := Row.mono fI X
     have fS := Row.mono fJ X
     have fT := Row.mono fK X
     have fU := Row.mono fM X
     have fV := Row.mono fN X
     have fW := Row.mono fO X
     obtain ⟨kW, U, hU, (im : Cx [CH.row d h bf, dg, cv, b4, r0 j a8, I, ad, J, L, r0 i l, r0 m r])⟩ := Ctx.fzI 1 il rfl
     obtain ⟨gO, g0, gs⟩ := Row.fz fQ U hU
     have fX := Row.mono fP U
     have fY := Row.mono fR U
     have fZ := Row.mono fS U
     have f0 := Row.mono fT U
     have f1 := Row.mono fU U
     have f2 := Row.mono fV U
     have f3 := Row.mono fW U
     obtain ⟨kX, R, hV, (io : Cx [CH.row d h bf, cv, b4, r0 j a8, I, ad, J, L, r0 i l, r0 m r])⟩ := Ctx.fzI 1 im rfl
     obtain ⟨gP, g1, gt⟩ := Row.fz fY R hV
     have f4 := Row.mono fX R
     have f5 := Row.mono fZ R
     have f6 := Row.mono f0 R
     have f7 := Row.mono f1 R
     have f8 := Row.mono f2 R
     have f9 := Row.mono f3 R
     obtain ⟨kY, N, hW, (ip : Cx [CH.row d h bf, b4, r0 j a8, I, ad, J, L, r0 i l, r0 m r])⟩ := Ctx.fzI 1 io rfl
     obtain ⟨gQ, g2, gu⟩ := Row.fz f5 N hW
     have ga := Row.mono f4 N
     have gb := Row.mono f6 N
     have gc := Row.mono f7 N
     have gd := Row.mono f8 N
     have ge := Row.mono f9 N
     obtain ⟨iV, G, hX, (iq : Cx [CH.row d h bf, r0 j a8, I, ad, J, L, r0 i l, r0 m r])⟩ := Ctx.fzI 1 ip rfl
     obtain ⟨gR, g3, gv⟩ := Row.fz gb G hX
     have gf := Row.mono ga G
     have gg := Row.mono gc G
     have gh := Row.mono gd G
     have gi := Row.mono ge G
     let kN : LV := bT.q ca d2 e1 eB d3 e2 eC d4 e3 eD d5 e4 eE d6 e5 eF
     obtain ⟨kR, iY, kZ, cw, k2, hl, hM, c3, gj⟩ := uO (P := Tryz.prog) 63 bT.K iq wY FF ⟨by decide, by decide⟩ ca (.agg (List.toArray kN)) (bT.mk' _ ca d2 eB e1 d3 eC e2 d4 eD e3 d5 eE e4 d6 eF e5 hf gN gZ (Sl.mono gr (CH.le_trans U (CH.le_trans R (CH.le_trans N G))) (CH.le_trans U (CH.le_trans R (CH.le_trans N G)))) hg gO g0 (Sl.mono gs (CH.le_trans R (CH.le_trans N G)) (CH.le_trans R (CH.le_trans N G))) hh gP g1 (Sl.mono gt (CH.le_trans N G) (CH.le_trans N G)) hi gQ g2 (Sl.mono gu G G) hj gR g3 gv)
     refine WA.up1 4 (by kernel_rfl) (Up.val rfl rfl rfl (hM _ _ _ rfl) ⟨(Ctx.rO 2 c3 rfl), trivial⟩ ?_)
     obtain ⟨gB, Q⟩ := rV Q
     obtain ⟨cm, cp, ct, b5, k3, hm, hN, ir, gk⟩ := sP (P := Tryz.prog) (cb := iY) 63 bT.K [cw, CH.row d h bf, r0 j a8, I] [J, L, r0 i l, r0 m r] c3 gf hl (Row.sl gj) (Ctx.rO 0 c3 rfl) wY FF rfl I9 (by decide) (by decide) (by simpa using gB)
     have ek : Cx [cw, CH.row d h bf, r0 j a8, I, b5, J, L, r0 i l, r0 m r] := ir
     refine WA.up1 5 (by kernel_rfl) (Up.val rfl rfl rfl (hN _ _ _ _ rfl rfl) ⟨trivial, trivial⟩ ?_)
     refine WA.sZ [(6, none)] ⟨(Ctx.rO 2 ek rfl), trivial⟩ (by kernel_rfl) <| WT.run to 1 rfl <| WT.done ?_
     obtain ⟨k4, hO, it⟩ := vH (P := Tryz.prog) (ps1 := [cw, CH.row d h bf]) (ps2 := [I, b5, J, L, r0 i l, r0 m r]) (t := 46) 1 [.slice cm ct cp] (.slice cm ct cp) ek rfl rfl (rR rfl) Ii
     let j2 : LV := bF.q O aK az aR cm ct cp aL aA aS aM aB aT
     have iu : Cx [cw, CH.row d h bf, r0 j j2, I, b5, J, L, r0 i l, r0 m r] := it
     refine WA.up1 7 (by kernel_rfl) (Up.skip rfl rfl (hO _ _ _ _ rfl rfl) ⟨trivial, trivial⟩ ?_)
     refine WA.done (by kernel_rfl) <| tH <| W.region rfl ?_
     refine WL.rd to 2 rfl ?_
     have iw : Cx [r0 j j2, I, b5, J, L, CH.row d h bf, r0 i l, r0 m r] := iu.pick [2, 3, 4, 5, 6, 1, 7, 8] rfl
     exact rF ⟨e0, Nat.lt_succ_self _, rB (cB + 1), (⟨O.Eras, O.Jobs ++ [ca], O.Used, O.Barred, O.Heads⟩ : bF), di, iV, aK, aR, az, I, cm, cp, ct, b5, aL, aS, aA, J, aM, aT, aB, L, d7, eG, e6, rfl, iw, (CH.le_trans dP (CH.le_trans ba (CH.le_trans X (CH.le_trans U (CH.le_trans R (CH.le_trans N G)))))), dE, gg, hm, gk, dF, gh, dG, gi, hk, gM, gY, (Sl.mono gq (CH.le_trans X (CH.le_trans U (CH.le_trans R (CH.le_trans N G)))) (CH.le_trans X (CH.le_trans U (CH.le_trans R (CH.le_trans N G))))), Q⟩
    refine W.cF cQ rfl <| W.exit <| rM <| rM <| sL ?_
    cases Q
    refine rF ?_
    exact ⟨ag, aK, aR, az, I, bO, bW, bs, ad, aL, aS, aA, J, aM, aT, aB, L, bh, aU, bt, rfl, eg, dP, dE, dq, he, dr, dF, ds, dG, dt, dH, dA, dC, dy⟩
   ·rintro s S ⟨p, bJ, bR, bo, am, bK, bS, bp, an, bL, bU, bq, ao, bM, bV, br, ap, bN, bl, b2, hz, ii, cW, g9, fC, ha, fD, hb, fE, hc, fF, hd, gL, gX, gp⟩
    apply ks s hz
    refine W.sr rfl <| WL.rd to 1 rfl <| W.seq <| W.sr rfl <| WL.run to 1 rfl ?_
    let h7 : LV := rC.q a6 bN b2 bl
    let dR : LV := bF.q af bJ bo bR bK bp bS bL bq bU bM br bV
    have el : Cx [CH.row d h h7, r0 j dR, am, an, ao, ap, r0 i l, r0 m r] := ii.pick [5, 0, 1, 2, 3, 4, 6, 7] rfl
    obtain ⟨⟨cy, dj⟩, gF, H⟩ := rE H
    refine WL.sI (vK.calls k _ p d h bN bl b2 a6 8 (el.pq 1) hd gL gX gp cy dj gF) (ne.fr rfl rfl) ?_
    rintro cO S ⟨d8, eH, e7, rfl, ix, hn, gS, g4, gw⟩
    refine ⟨_, rfl, ?_⟩
    let j3 : LV := rC.q dj d8 e7 eH
    have iy : Cx [CH.row d h j3, r0 j dR, am, an, ao, ap, r0 i l, r0 m r] := Ctx.cn 1 el ix
    refine WL.rd to 1 rfl ?_
    obtain ⟨⟨fj, V, a7⟩, u, H⟩ := rE H
    refine W.vG (fun s S => ∃ aN aV aC v aO aW aD x aP aX aE y aQ aY aF A bP bm b3, Kn s [(2, pt m), (4, pt i), (7, pt j), (8, .pointer (some ⟨d, h, none⟩)), (9, .bool fj)] ∧ Ctx w F D S p [r0 j (bF.q V aN aC aV aO aD aW aP aE aX aQ aF aY), v, x, y, A, CH.row d h (rC.q a7 bP b3 bm), r0 i l, r0 m r] ∧ bF.oS p V aN aC aV v aO aD aW x aP aE aX y aQ aF aY A (b3 = a7.b.length ∧ a7.b.length ≤ bm ∧ bm ≤ maxLen ∧ Sl KB p p bP a7.b)) ?_ ?_
    ·refine W.block ?_
     have iA : Cx [r0 j dR, am, an, ao, ap, CH.row d h j3, r0 i l, r0 m r] := iy.pick [1, 2, 3, 4, 5, 0, 6, 7] rfl
     refine W.loop (fun cP s S => ∃ (aI : Bool) (cc : Int) (M : bF) (aJ : rC), ∃ av ax ak B aw ay al E bQ bX bu ah bi bn a0 Z bj aZ bv, Kn s [(2, pt m), (4, pt i), (7, pt j), (8, .pointer (some ⟨d, h, none⟩)), (9, .bool aI), (49, iv cy), (50, iv cc)] ∧ Ctx w F D S p [r0 j (bF.q M av ak ax aw al ay bQ bu bX bi a0 bn), B, E, ah, Z, CH.row d h (rC.q aJ bj bv aZ), r0 i l, r0 m r] ∧ bF.oS p M av ak ax B aw al ay E bQ bu bX ah bi a0 bn Z (sW KB p bj bv aZ aJ.b (sC.l3 cP cy aI cc M aJ = some (fj, V, a7)))) k ⟨false, 0, af, dj, bJ, bR, bo, am, bK, bS, bp, an, bL, bU, bq, ao, bM, bV, br, ap, d8, eH, e7, rfl, iA, g9, fC, ha, fD, hb, fE, hc, fF, hn, gS, g4, gw, u⟩ ?_
     clear u
     rintro cP s S ⟨aI, cc, M, aJ, av, ax, ak, B, aw, ay, al, E, bQ, bX, bu, ah, bi, bn, a0, Z, bj, aZ, bv, hC, em, dM, du, dN, dv, hq, dw, hr, dx, dO, dB, dD, dz, u⟩
     rcases cP with _ | c9
     · exact absurd u (by simp [sC.l3])
     rw [sC.l3] at u
     apply ks s hC
     refine W.sr rfl <| WL.rd to 1 rfl <| W.seq ?_
     rcases rT u with ⟨cR, u⟩ | ⟨cR, u⟩
     ·refine W.cT cR rfl <| W.skip <| W.seq <| W.block <| W.sr rfl <| WL.run to 1 rfl ?_
      let h8 : LV := rC.q aJ bj bv aZ
      let b7 : LV := bF.q M av ak ax aw al ay bQ bu bX bi a0 bn
      have en : Cx [CH.row d h h8, r0 j b7, B, E, ah, Z, r0 i l, r0 m r] := em.pick [5, 0, 1, 2, 3, 4, 6, 7] rfl
      obtain ⟨⟨cz, dk⟩, gG, u⟩ := rE u
      refine WL.sI (tZ.calls c9 _ p d h bj aZ bv aJ (en.pq 1) dO dB dD dz cz dk gG) (ne.fr rfl rfl) ?_
      rintro cO S ⟨d9, eI, e8, rfl, iB, hs, gU, g6, gy⟩
      refine ⟨_, rfl, ?_⟩
      let h9 : LV := rC.q dk d9 e8 eI
      have eo : Cx [CH.row d h h9, r0 j b7, B, E, ah, Z, r0 i l, r0 m r] := Ctx.cn 1 en iB
      refine WL.run to 1 rfl ?_
      obtain ⟨⟨aq, dl⟩, gH, u⟩ := rE u
      refine WL.sI (tZ.calls c9 _ p d h d9 eI e8 dk (eo.pq 1) hs gU g6 gy aq dl gH) (ne.fr rfl rfl) ?_
      rintro cO S ⟨ea, eJ, e9, rfl, iC, ht, gV, g7, gz⟩
      refine ⟨_, rfl, ?_⟩
      let b8 : LV := rC.q dl ea e9 eJ
      have ep : Cx [CH.row d h b8, r0 j b7, B, E, ah, Z, r0 i l, r0 m r] := Ctx.cn 1 eo iC
      refine WL.rd to 2 rfl <| W.sr rfl <| WL.run to 1 rfl <| WL.lv ep 1 2 rfl rfl tM rfl rfl <| WL.run to 1 rfl ?_
      obtain ⟨kS, iZ, k0, a1, k5, hu, hP, eq, gl⟩ := uO (P := Tryz.prog) 3 KI ep tM ti3 ⟨by decide, by decide⟩ cz (iv cz) rfl
      refine WL.val (hP _ _ _ rfl) ?_
      obtain ⟨gC, u⟩ := rV u
      obtain ⟨co, cr, cu, aG, k6, hv, hQ, iD, gm⟩ := sP (P := Tryz.prog) (cb := iZ) 3 KI [a1, CH.row d h b8, r0 j b7, B, E] [Z, r0 i l, r0 m r] eq dw hu (Row.sl gl) (Ctx.rO 0 eq rfl) tM ti3 rfl zo3 (by decide) (by decide) (by simpa using gC)
      have iE : Cx [a1, CH.row d h b8, r0 j b7, B, E, aG, Z, r0 i l, r0 m r] := iD
      refine WL.val (hQ _ _ _ _ rfl rfl) <| WL.run to 1 rfl ?_
      let ia : LV := bF.q M av ak ax aw al ay co cu cr bi a0 bn
      refine WL.st iE 2 2 [.slice co cu cr] rfl rfl rfl rfl (Put.lit 2 rfl) (rR rfl) AX fun S (er : Cx [a1, CH.row d h b8, r0 j ia, B, E, aG, Z, r0 i l, r0 m r]) => ?_
      refine WL.done <| W.sr rfl <| WL.run to 1 rfl <| WL.lv er 2 3 rfl rfl zH rfl rfl <| WL.run to 2 rfl ?_
      obtain ⟨kT, i0, k1, cx, k7, hw, hR, es, gn⟩ := uO (P := Tryz.prog) 4 Kd.bool er zH ti4 ⟨by decide, by decide⟩ (decide (aq = 1)) (.bool (decide (aq = 1))) rfl
      refine WL.val (hR _ _ _ rfl) ?_
      obtain ⟨gD, u⟩ := rV u
      obtain ⟨c1, c5, da, b6, k8, hx, hS, iG, go⟩ := sP (P := Tryz.prog) (cb := i0) 4 Kd.bool [cx, a1, CH.row d h b8, r0 j ia, B, E, aG] [r0 i l, r0 m r] es dx hw (Row.sl gn) (Ctx.rO 0 es rfl) zH ti4 rfl zo4 (by decide) (by decide) (by simpa using gD)
      have iH : Cx [cx, a1, CH.row d h b8, r0 j ia, B, E, aG, b6, r0 i l, r0 m r] := iG
      refine WL.val (hS _ _ _ _ rfl rfl) <| WL.run to 1 rfl ?_
      let ib : LV := bF.q M av ak ax aw al ay co cu cr c1 da c5
      refine WL.st iH 3 3 [.slice c1 da c5] rfl rfl rfl rfl (Put.lit 3 rfl) (rR rfl) J4 fun S (et : Cx [cx, a1, CH.row d h b8, r0 j ib, B, E, aG, b6, r0 i l, r0 m r]) => ?_
      refine WL.done <| W.region rfl ?_
      refine WL.run to 2 rfl <| WL.cut (fun s S => s 9 = .bool (aI || (decide (aq > 1))) ∧ s 2 = pt m ∧ s 4 = pt i ∧ s 7 = pt j ∧ s 8 = .pointer (some ⟨d, h, none⟩) ∧ s 49 = iv cy ∧ s 50 = iv cc ∧ Ctx w F D S p [cx, a1, CH.row d h b8, r0 j ib, B, E, aG, b6, r0 i l, r0 m r]) ?_ ?_
      ·rcases Bool.eq_false_or_eq_true aI with a9 | a9
       ·exact WL.kn 70 (cb a9) <| WL.sN 2 70 false rfl rfl <| WL.run to 2 rfl <| WL.done ⟨(cb (show true = (aI || (decide (aq > 1))) from by simp [a9])), rfl, rfl, rfl, rfl, rfl, rfl, et⟩
       ·exact WL.kn 70 (cb a9) <| WL.run to 4 rfl <| WL.done ⟨(cb (show (decide (aq > 1)) = (aI || (decide (aq > 1))) from by simp [a9])), rfl, rfl, rfl, rfl, rfl, rfl, et⟩
      ·rintro s S ⟨hE, hF, hG, hH, hI, hJ, hK, iI⟩
       apply kn s (.c hE (.c hF (.c hG (.c hH (.c hI (.c hJ (.c hK .n)))))))
       refine tH <| W.region rfl ?_
       refine WL.rd to 2 rfl ?_
       have iJ : Cx [r0 j ib, B, E, aG, b6, CH.row d h b8, r0 i l, r0 m r] := iI.pick [3, 4, 5, 6, 7, 2, 8, 9] rfl
       exact rF ⟨c9, Nat.lt_succ_self _, aI || (decide (aq > 1)), rB (cc + 1), (⟨M.Eras, M.Jobs, M.Used ++ [cz], M.Barred ++ [decide (aq = 1)], M.Heads⟩ : bF), dl, av, ax, ak, B, aw, ay, al, E, co, cr, cu, aG, c1, c5, da, b6, ea, eJ, e9, rfl, iJ, dM, du, dN, dv, hv, gm, hx, go, ht, gV, g7, gz, u⟩
     refine W.cF cR rfl <| W.exit <| rM <| rM <| sL ?_
     cases u
     refine rF ?_
     exact ⟨av, ax, ak, B, aw, ay, al, E, bQ, bX, bu, ah, bi, bn, a0, Z, bj, aZ, bv, rfl, em, dM, du, dN, dv, hq, dw, hr, dx, dO, dB, dD, dz⟩
    ·rintro s S ⟨aN, aV, aC, v, aO, aW, aD, x, aP, aX, aE, y, aQ, aY, aF, A, bP, bm, b3, hB, iz, dI, bY, dJ, bZ, dK, b0, dL, b1, ho, gT, g5, gx⟩
     apply ks s hB
     refine W.sr rfl <| WL.run to 1 rfl ?_
     let ic : LV := rC.q a7 bP b3 bm
     let fg : LV := bF.q V aN aC aV aO aD aW aP aE aX aQ aF aY
     have eu : Cx [CH.row d h ic, r0 j fg, v, x, y, A, r0 i l, r0 m r] := iz.pick [5, 0, 1, 2, 3, 4, 6, 7] rfl
     obtain ⟨⟨cA, dm⟩, gI, H⟩ := rE H
     refine WL.sI (tZ.calls k _ p d h bP bm b3 a7 (eu.pq 1) ho gT g5 gx cA dm gI) (ne.fr rfl rfl) ?_
     rintro cO S ⟨eb, eK, fa, rfl, iK, hy, gW, g8, gA⟩
     refine ⟨_, rfl, ?_⟩
     let fh : LV := rC.q dm eb fa eK
     have iL : Cx [CH.row d h fh, r0 j fg, v, x, y, A, r0 i l, r0 m r] := Ctx.cn 1 eu iK
     refine WL.run to 1 rfl ?_
     let aj : LV := [.slice aN aC aV, .slice aO aD aW, .slice aP aE aX, .slice aQ aF aY, iv cA]
     refine WL.st iL 1 4 [iv cA] rfl rfl rfl rfl (Put.lit 4 rfl) (rR rfl) sz3 fun S (ew : Cx [CH.row d h fh, r0 j aj, v, x, y, A, r0 i l, r0 m r]) => ?_
     refine WL.done <| W.seq <| W.sr rfl <| WL.run to 1 rfl ?_
     obtain ⟨⟨jO, fi⟩, gJ, H⟩ := rE H
     refine WL.sI (xM.calls k _ p d h eb eK fa dm (ew.pq 1) hy gW g8 gA jO fi gJ) (ne.fr rfl rfl) ?_
     rintro cO S ⟨ih, i1, jM, rfl, iM, kL, kH, kJ, kF⟩
     refine ⟨_, rfl, ?_⟩
     let b9 : LV := rC.q fi ih jM i1
     have bk : Cx [CH.row d h b9, r0 j aj, v, x, y, A, r0 i l, r0 m r] := Ctx.cn 1 ew iM
     refine WL.rd to 1 rfl <| W.sr rfl <| WL.rd to 2 rfl ?_
     rcases rT H with ⟨cS, H⟩ | ⟨cS, H⟩
     ·refine W.nF cS rfl <| W.skip <| W.seq <| W.seq ?_
      obtain ⟨jQ, ar, H⟩ := rE H
      refine W.vG (fun s S => Kn s [(4, pt i), (7, pt j), (90, .bool jQ)] ∧ Ctx w F D S p [CH.row d h b9, r0 j aj, v, x, y, A, r0 i l, r0 m r]) ?_ ?_
      ·refine W.region rfl ?_
       refine WL.run to 2 rfl ?_
       rcases rT ar with ⟨cU, ar⟩ | ⟨cU, ar⟩
       ·refine WL.kn 85 (cb cU) <| WL.sN 4 85 false rfl rfl <| WL.rd to 1 rfl ?_
        cases ar
        refine rF ?_
        exact ⟨rfl, bk⟩
       refine WL.kn 85 (cb (Bool.eq_false_iff.2 cU)) <| WL.laG bk 7 rfl rfl rfl rfl zZ rfl Ac <| WL.laG bk 1 rfl rfl rfl rfl wJ rfl wM <| WL.on rfl rfl ?_
       obtain ⟨iW, bb, ⟨hY, hZ, h0, h1, _⟩, iN⟩ := Ctx.B1 [v, x, y, A] (ps := [CH.row d h b9, r0 j aj, r0 i l, r0 m r]) (Ctx.pick [2, 3, 4, 5, 0, 1, 6, 7] bk rfl)
       obtain ⟨jP, gK, ar⟩ := rE ar
       refine WL.sI (sJ.calls k _ iW fw aN aV aC aO aW aD aP aX aE aQ aY aF (⟨V.Eras, V.Jobs, V.Used, V.Barred, cA⟩ : bF) (iN.pq 0) dI (Row.rP bY).1 (Row.rP bY).2.1 (Sl.mono (Row.sl bY) bb hY) dJ (Row.rP bZ).1 (Row.rP bZ).2.1 (Sl.mono (Row.sl bZ) bb hZ) dK (Row.rP b0).1 (Row.rP b0).2.1 (Sl.mono (Row.sl b0) bb h0) dL (Row.rP b1).1 (Row.rP b1).2.1 (Sl.mono (Row.sl b1) bb h1) jP gK) (ne.fr rfl rfl) ?_
       rintro cO S ⟨rfl, iO⟩
       refine ⟨_, rfl, ?_⟩
       have iP : Cx [CH.row d h b9, r0 j aj, v, x, y, A, r0 i l, r0 m r] := Ctx.cl 0 bk bb iO
       refine WL.rd to 2 rfl ?_
       cases ar
       refine rF ?_
       exact ⟨rfl, iP⟩
      ·rintro s S ⟨hL, c4⟩
       apply ks s hL
       rcases rT H with ⟨cV, H⟩ | ⟨cV, H⟩
       ·refine W.uI (cb cV) <| W.sr rfl <| WL.val (Yl.build (places := [(0, 1), (1, 1), (2, 1), (3, 1), (4, 1)]) (cs := List.toArray l) wJ zN (DB _ wJ) (uV .nil) rfl) <| WL.st c4 6 0 l rfl rfl rfl rfl (Put.lit 0 rfl) (rR rfl) wM fun S (ex : Cx [CH.row d h b9, r0 j aj, v, x, y, A, r0 i l, r0 m r]) => ?_
        refine WL.rd to 1 rfl <| W.ret <| rS ?_
        have iQ : Cx [CH.emp, CH.emp, CH.emp, CH.emp] := ex.pick [8, 8, 8, 8] rfl
        obtain ⟨i2, i3⟩ := sp H
        subst i2 i3
        exact rH (Au rfl ((.cell rfl (tS (g := i) (off := 0) (o := 0) (cs := l) (us := l) wJ rfl wM (Ctx.rO 6 ex rfl) rfl) (.tmp rfl .nil))) rfl) ⟨p, none, 0, 0, CH.emp, none, 0, 0, CH.emp, none, 0, 0, CH.emp, none, 0, 0, CH.emp, rfl, (CH.le_trans dX cW), iQ, rfl, (Row.nil _ _), rfl, (Row.nil _ _), rfl, (Row.nil _ _), rfl, (Row.nil _ _)⟩
       refine W.uD (cb (Bool.eq_false_iff.2 cV)) <| W.skip <| W.sr rfl <| WL.la c4 1 rfl rfl wJ rfl wM <| WL.st c4 6 0 aj rfl rfl rfl rfl (Put.lit 0 rfl) (rR rfl) wM fun S (ey : Cx [CH.row d h b9, r0 j aj, v, x, y, A, r0 i aj, r0 m r]) => ?_
       refine WL.rd to 1 rfl <| W.ret ?_
       have iR : Cx [v, x, y, A] := ey.pick [2, 3, 4, 5] rfl
       obtain ⟨i4, i5⟩ := sp H
       subst i4 i5
       exact rH (Au rfl ((.cell rfl (tS (g := i) (off := 0) (o := 0) (cs := aj) (us := aj) wJ rfl wM (Ctx.rO 6 ey rfl) rfl) (.tmp rfl .nil))) rfl) ⟨p, aN, aV, aC, v, aO, aW, aD, x, aP, aX, aE, y, aQ, aY, aF, A, rfl, (CH.le_trans dX cW), iR, dI, bY, dJ, bZ, dK, b0, dL, b1⟩
     refine W.nT cS rfl <| W.sr rfl <| WL.val (Yl.build (places := [(0, 1), (1, 1), (2, 1), (3, 1), (4, 1)]) (cs := List.toArray l) wJ zN (DB _ wJ) (uV .nil) rfl) <| WL.run to 1 rfl <| WL.st bk 6 0 l rfl rfl rfl rfl (Put.lit 0 rfl) (rR rfl) wM fun S (ez : Cx [CH.row d h b9, r0 j aj, v, x, y, A, r0 i l, r0 m r]) => ?_
     refine WL.rd to 1 rfl <| W.ret <| rS ?_
     have iS : Cx [CH.emp, CH.emp, CH.emp, CH.emp] := ez.pick [8, 8, 8, 8] rfl
     obtain ⟨i6, i7⟩ := sp H
     subst i6 i7
     exact rH (Au rfl ((.cell rfl (tS (g := i) (off := 0) (o := 0) (cs := l) (us := l) wJ rfl wM (Ctx.rO 6 ez rfl) rfl) (.tmp rfl .nil))) rfl) ⟨p, none, 0, 0, CH.emp, none, 0, 0, CH.emp, none, 0, 0, CH.emp, none, 0, 0, CH.emp, rfl, (CH.le_trans dX cW), iS, rfl, (Row.nil _ _), rfl, (Row.nil _ _), rfl, (Row.nil _ _), rfl, (Row.nil _ _)⟩
 refine W.nT dV rfl <| W.sr rfl <| WL.val (Yl.build (places := [(0, 1), (1, 1), (2, 1), (3, 1), (4, 1)]) (cs := List.toArray l) wJ zN (DB _ wJ) (uV .nil) rfl) <| WL.run to 1 rfl <| WL.st jT 0 0 l rfl rfl rfl rfl (Put.lit 0 rfl) (rR rfl) wM fun S (eA : Cx [r0 i l, r0 m r]) => ?_
 refine WL.rd to 1 rfl <| W.ret <| rS ?_
 have iU : Cx [CH.emp, CH.emp, CH.emp, CH.emp] := eA.pick [2, 2, 2, 2] rfl
 obtain ⟨i8, i9⟩ := sp H
 subst i8 i9
 exact rH (Au rfl ((.cell rfl (tS (g := i) (off := 0) (o := 0) (cs := l) (us := l) wJ rfl wM (Ctx.rO 0 eA rfl) rfl) (.tmp rfl .nil))) rfl) ⟨F, none, 0, 0, CH.emp, none, 0, 0, CH.emp, none, 0, 0, CH.emp, none, 0, 0, CH.emp, rfl, (CH.le_refl _), iU, rfl, (Row.nil _ _), rfl, (Row.nil _ _), rfl, (Row.nil _ _), rfl, (Row.nil _ _)⟩
end Go.Proofs.YtobdpbnadjkhiaaGreat
