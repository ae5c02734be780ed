/- Plain laws of sums: the sum of what was written; leaves and nodes. -/
import Derived.Test.YthdlfclkcdnenaaDoorTUa
import Derived.Test.YthdlfclkcdnenaaDoorTGc
set_option linter.unusedSimpArgs false
set_option linter.unusedVariables false
namespace Go.Proofs.YthdlfclkcdnenaaDoor.Pure
open Go.WG Go.Proofs.YthdlfclkcdnenaaDoor
theorem bytes_l1 (x : Int) : ∀ (m j : Nat) (d : List Int), 8 - j = m → j ≤ 8 → d.length = 8 → ∃ r, r.length = 8 ∧ Ev (fun k => bits_Bytes.l1 k x 8 d (j : Int)) r := by
  intro m
  induction m with
  | zero =>
    intro j d hm hj hd
    refine ⟨d, hd, Ev.succ ((Ev.pure _).congr fun k => ?_)⟩
    have : ¬ (j : Int) < 8 := by omega
    simp only [bits_Bytes.l1, if_neg this]
  | succ m ih =>
    intro j d hm hj hd
    have h1 : (j : Int) < 8 := by omega
    have e1 : wi64 (8 * (j : Int)) = ((8 * j : Nat) : Int) := by rw [wi64_id (by omega) (by omega)]; omega
    have e2 : wi64 (wi64 ((8 : Int) - 1) - (j : Int)) = ((7 - j : Nat) : Int) := by rw [show wi64 ((8 : Int) - 1) = 7 from by decide, wi64_id (by omega) (by omega)]; omega
    have h2 : 0 ≤ ((8 * j : Nat) : Int) := by omega
    have h3 : 0 ≤ ((7 - j : Nat) : Int) ∧ ((7 - j : Nat) : Int) < (d.length : Int) := by omega
    obtain ⟨r, hl, hr⟩ := ih (j + 1) (d.set (7 - j) (wu8 (shrOp .u64 x ((8 * j : Nat) : Int)))) (by omega) (by omega) (by rw [List.length_set]; exact hd)
    refine ⟨r, hl, Ev.succ (hr.congr fun k => ?_)⟩
    simp only [bits_Bytes.l1, if_pos h1, e1, e2, if_pos h2, if_pos h3, Int.toNat_natCast, wi64_succ (show j < 9223372036854775807 by omega)]
theorem bytes_f (x : Int) : ∃ r, r.length = 8 ∧ Ev (fun k => bits_Bytes.f k x 8) (r, 0) := by
  obtain ⟨r, hl, hr⟩ := bytes_l1 x 8 0 (List.replicate 8 (0 : Int)) rfl (by omega) (List.length_replicate ..)
  exact ⟨r, hl, Ev.iteF (by decide) (Ev.iteT (by decide) (Ev.bind (g := fun _ y => some (y, (0 : Int))) hr (Ev.pure _)))⟩
theorem pad_f (n : Nat) (hn : n ≤ 1000000000000) : ∃ r, r.length = 1 + (119 - n % 64) % 64 + 8 ∧ Ev (fun k => sha_Pad.f k (n : Int)) (r, 0) := by
  have e0 : (n : Int).tmod 64 = ((n % 64 : Nat) : Int) := by rw [Int.tmod_eq_emod_of_nonneg (by omega)]; omega
  have e1 : wi64 (119 - ((n % 64 : Nat) : Int)) = ((119 - n % 64 : Nat) : Int) := by rw [wi64_id (by omega) (by omega)]; omega
  have e2 : (((119 - n % 64 : Nat) : Int)).tmod 64 = (((119 - n % 64) % 64 : Nat) : Int) := by rw [Int.tmod_eq_emod_of_nonneg (by omega)]; omega
  have e3 : wi64 (1 + (((119 - n % 64) % 64 : Nat) : Int)) = ((1 + (119 - n % 64) % 64 : Nat) : Int) := by rw [wi64_id (by omega) (by omega)]; omega
  generalize hz : 1 + (119 - n % 64) % 64 = z at e3
  have hz0 : 0 < z ∧ z ≤ 64 := by omega
  obtain ⟨r, hl, hr⟩ := bytes_f (shlOp .u64 (wu64 (n : Int)) 3)
  refine ⟨((List.replicate z (0 : Int)).set 0 128) ++ r, by rw [List.length_append, List.length_set, List.length_replicate, hl], ?_⟩
  have g1 : ¬ (decide ((n : Int) < 0) || decide ((n : Int) > 1152921504606846976)) = true := by simp; omega
  have g2 : 0 ≤ (z : Int) ∧ (z : Int) * 1 ≤ 140737488355328 := by omega
  have g3 : 0 ≤ (0 : Int) ∧ (0 : Int) < ((List.replicate z (0 : Int)).length : Int) := by rw [List.length_replicate]; omega
  have g4 : (((List.replicate z (0 : Int)).set 0 128).length + r.length) * 1 ≤ 140737488355328 := by rw [List.length_set, List.length_replicate, hl]; omega
  refine Ev.congr (Ev.bind (g := fun _ (x : List Int × Int) => if (((List.replicate z (0 : Int)).set 0 128).length + x.1.length) * 1 ≤ 140737488355328 then some (((List.replicate z (0 : Int)).set 0 128) ++ x.1, (0 : Int)) else none) hr (Ev.iteT g4 (Ev.pure _))) fun k => ?_
  simp only [sha_Pad.f, if_neg g1, e0, e1, e2, e3, Int.toNat_natCast, Int.toNat_zero]
  rw [if_pos g2, if_pos g3]
theorem digit_facts : ∀ j : Fin 32, 0 ≤ shrOp .i64 ((j.val : Nat) : Int) 2 ∧ shrOp .i64 ((j.val : Nat) : Int) 2 < 8 ∧ 0 ≤ wi64 (24 - (shlOp .i64 (bitsOp .and .i64 ((j.val : Nat) : Int) 3) 3)) := by decide
theorem sum_l1 (h : THash) : ∀ (m j : Nat) (d : List Int), 32 - j = m → j ≤ 32 → d.length = 32 → ∃ r, r.length = 32 ∧ Ev (fun k => sha_Hash_Sum.l1 k h (j : Int) d) r := by
  intro m
  induction m with
  | zero =>
    intro j d hm hj hd
    refine ⟨d, hd, Ev.succ ((Ev.pure _).congr fun k => ?_)⟩
    have : ¬ (j : Int) < 32 := by omega
    simp only [sha_Hash_Sum.l1, if_neg this]
  | succ m ih =>
    intro j d hm hj hd
    have h1 : (j : Int) < 32 := by omega
    obtain ⟨f1, f2, f3⟩ := digit_facts ⟨j, by omega⟩
    simp only at f1 f2 f3
    have h2 : 0 ≤ (j : Int) ∧ (j : Int) < (32 : Int) := by omega
    obtain ⟨r, hl, hr⟩ := ih (j + 1) (d.set j (wu8 (shrOp .u32 (h.words.getD (shrOp .i64 (j : Int) 2).toNat 0) (wi64 (24 - (shlOp .i64 (bitsOp .and .i64 (j : Int) 3) 3)))))) (by omega) (by omega) (by rw [List.length_set]; exact hd)
    refine ⟨r, hl, Ev.succ (hr.congr fun k => ?_)⟩
    simp only [sha_Hash_Sum.l1, if_pos h1, if_pos (And.intro f1 f2), if_pos f3, if_pos h2, Int.toNat_natCast, wi64_succ (show j < 9223372036854775807 by omega)]
theorem sum_f (m : List Int) (hm : m.length ≤ 100000000000) : ∃ r, r.length = 32 ∧ Ev (fun k => sha_Hash_Sum.f k (stateOf m)) r := by
  obtain ⟨p, hp, h1⟩ := pad_f m.length (by omega)
  have h2 := write_f m p (by omega)
  obtain ⟨r, hl, h3⟩ := sum_l1 (stateOf (m ++ p)) 32 0 (List.replicate 32 (0 : Int)) rfl (by omega) (List.length_replicate ..)
  have hr : (stateOf m).rest.length * 1 ≤ 140737488355328 := by
    show (absorb (m.length / 64) glob1 m).2.length * 1 ≤ _
    rw [absorb_rest, List.length_drop]; omega
  refine ⟨r, hl, Ev.congr (Ev.bind (g := fun k (x : List Int × Int) => (sha_Hash_Write.f k (stateOf m) x.1).bind fun r50 => (sha_Hash_Sum.l1 k r50 0 (List.replicate 32 (0 : Int))).bind fun x108 => some x108) h1 (Ev.bind (g := fun k r50 => (sha_Hash_Sum.l1 k r50 0 (List.replicate 32 (0 : Int))).bind fun x108 => some x108) h2 (Ev.bind (g := fun _ x => some x) h3 (Ev.pure _)))) fun k => ?_⟩
  simp only [sha_Hash_Sum.f, sha_Hash_Clone.f, if_pos hr, Option.bind_some]
  rfl
/-- The sum of bytes. -/
noncomputable def shaD (m : List Int) : List Int := if h : m.length ≤ 100000000000 then Classical.choose (sum_f m h) else []
theorem shaD_len {m : List Int} (h : m.length ≤ 100000000000) : (shaD m).length = 32 := by
  rw [shaD, dif_pos h]; exact (Classical.choose_spec (sum_f m h)).1
theorem shaD_ev {m : List Int} (h : m.length ≤ 100000000000) : Ev (fun k => sha_Hash_Sum.f k (stateOf m)) (shaD m) := by
  rw [shaD, dif_pos h]; exact (Classical.choose_spec (sum_f m h)).2
theorem shaSum_f (b : List Int) (h : b.length ≤ 100000000000) : Ev (fun k => sha_Sum.f k b) (shaD b) := by
  have h1 := write_f [] b (by simp; omega)
  rw [List.nil_append] at h1
  refine Ev.congr (Ev.bind (g := fun k r26 => (sha_Hash_Sum.f k r26).bind fun r43 => some r43) h1 (Ev.bind (g := fun _ x => some x) (shaD_ev h) (Ev.pure _))) fun k => ?_
  simp only [sha_Sum.f, stateOf_nil, Option.bind_some]
theorem tagged_l1 (parts : List (List Int)) (hp : parts.length ≤ 1000000) : ∀ (m j : Nat) (pre : List Int), parts.length - j = m → j ≤ parts.length → pre.length + (parts.drop j).flatten.length ≤ 100000000000 →
    Ev (fun k => proof_tagged.l1 k parts (j : Int) (stateOf pre)) (stateOf (pre ++ (parts.drop j).flatten)) := by
  intro m
  induction m with
  | zero =>
    intro j pre hm hj hb
    rw [List.drop_eq_nil_of_le (by omega), List.flatten_nil, List.append_nil]
    refine Ev.succ ((Ev.pure _).congr fun k => ?_)
    have : ¬ (j : Int) < (parts.length : Int) := by omega
    simp only [proof_tagged.l1, if_neg this]
  | succ m ih =>
    intro j pre hm hj hb
    have hlt : j < parts.length := by omega
    have h1 : (j : Int) < (parts.length : Int) := by omega
    have h2 : 0 ≤ (j : Int) ∧ (j : Int) < (parts.length : Int) := by omega
    have hd : parts.drop j = parts.getD j [] :: parts.drop (j + 1) := by
      rw [List.getD_eq_getElem?_getD, List.getElem?_eq_getElem hlt, Option.getD_some]
      exact List.drop_eq_getElem_cons hlt
    rw [hd, List.flatten_cons] at hb ⊢
    rw [List.length_append] at hb
    have hw := write_f pre (parts.getD j []) (by omega)
    have := ih (j + 1) (pre ++ parts.getD j []) (by omega) (by omega) (by rw [List.length_append]; omega)
    rw [List.append_assoc] at this
    refine Ev.succ (Ev.congr (Ev.bind (g := fun k r261 => proof_tagged.l1 k parts (wi64 ((j : Int) + 1)) r261) hw (this.congr fun k => ?_)) fun k => ?_)
    · simp only [wi64_succ (show j < 9223372036854775807 by omega)]
    · simp only [proof_tagged.l1, if_pos h1, if_pos h2, Int.toNat_natCast]
theorem tagged_f (t : Int) (parts : List (List Int)) (hp : parts.length ≤ 1000000) (hb : parts.flatten.length ≤ 50000000000) : Ev (fun k => proof_tagged.f k t parts) (shaD (t :: parts.flatten)) := by
  have h1 := write_f [] [t] (by simp)
  have h2 := tagged_l1 parts hp parts.length 0 [t] rfl (Nat.zero_le _) (by rw [List.drop_zero, List.length_singleton]; omega)
  rw [List.drop_zero] at h2
  rw [List.nil_append] at h1
  refine Ev.congr (Ev.bind (g := fun k r40 => (proof_tagged.l1 k parts 0 r40).bind fun x157 => (sha_Hash_Sum.f k x157).bind fun r278 => some r278) h1 (Ev.bind (g := fun k x157 => (sha_Hash_Sum.f k x157).bind fun r278 => some r278) h2 (Ev.bind (g := fun _ x => some x) (shaD_ev (by rw [List.singleton_append, List.length_cons]; omega)) (Ev.pure _)))) fun k => ?_
  simp only [proof_tagged.f, stateOf_nil, Option.bind_some]
/-- A leaf's digest; a node's. -/
noncomputable def leafD (b : List Int) : List Int := shaD (0 :: b)
noncomputable def nodeD (a b : List Int) : List Int := shaD (1 :: (a ++ b))
theorem leaf_f (b : List Int) (hb : b.length ≤ 50000000000) : Ev (fun k => proof_Leaf.f k b) (leafD b) := by
  have := tagged_f 0 [b] (by simp) (by simpa using hb)
  rw [List.flatten_cons, List.flatten_nil, List.append_nil] at this
  exact Ev.bind (g := fun _ x => some x) this (Ev.pure _)
theorem leafD_len (b : List Int) (hb : b.length ≤ 50000000000) : (leafD b).length = 32 := shaD_len (by simp; omega)
theorem node_f (a b : List Int) (ha : a.length = 32) (hb : b.length = 32) : Ev (fun k => proof_Node.f k a b) (nodeD a b) := by
  have := tagged_f 1 [a, b] (by simp) (by simp [ha, hb])
  rw [List.flatten_cons, List.flatten_cons, List.flatten_nil, List.append_nil] at this
  exact Ev.bind (g := fun _ x => some x) this (Ev.pure _)
theorem nodeD_len (a b : List Int) (ha : a.length = 32) (hb : b.length = 32) : (nodeD a b).length = 32 := shaD_len (by simp [ha, hb])
end Go.Proofs.YthdlfclkcdnenaaDoor.Pure
