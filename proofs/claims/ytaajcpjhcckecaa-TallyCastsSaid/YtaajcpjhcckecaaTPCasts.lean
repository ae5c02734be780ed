/- Functions of the program: each as a plain function of numbers and lists, and the proof that the program's own comes to it. Nothing is assumed but what each theorem says. -/
import Derived.Test.YtaajcpjhcckecaaTGc
import Derived.Test.YtaajcpjhcckecaaTGd
namespace Go.Proofs.Ytaajcpjhcckecaa
open Go.RowKit Go.WG
set_option linter.unusedVariables false
set_option linter.unusedSimpArgs false
def juratlaw19_TallyCasts.l2 : Nat → Int → TCast → Option TCast
  | 0, _, _ => none
  | k + 1, x1954, x1955 => if x1954 < (x1955.Value.length : Int) then (if 0 ≤ x1954 ∧ x1954 < (x1955.Value.length : Int) then (juratlaw19_TallyCasts.l2 k (wi64 (x1954 + 1)) (⟨x1955.Worker, x1955.Value.set x1954.toNat (bitsOp .xor .u8 (x1955.Value.getD x1954.toNat 0) 255)⟩ : TCast)) else none) else (some x1955)
def juratlaw19_TallyCasts.l1 : Nat → List TCast → List TCast → List TCast → Int → Option (Sum Unit Bool)
  | 0, _, _, _, _ => none
  | k + 1, a0, x1377, x1386, x1395 => if x1395 < (a0.length : Int) then (if 0 ≤ x1395 ∧ x1395 ≤ (wi64 (x1395 + 1)) ∧ (wi64 (x1395 + 1)) ≤ (a0.length : Int) then ((juratref19_Copy_one.f k ((a0.take ((wi64 (x1395 + 1)).toNat)).drop x1395.toNat)).bind fun r1715 => (juratref19_Copy.f k x1377).bind fun r1728 => (tally_Cast_mut.f k x1377 r1715).bind fun ⟨r1743, r1744, r1745⟩ => if 0 ≤ x1395 ∧ x1395 < (a0.length : Int) then ((juratref19_Cast.f k x1386 (a0.getD x1395.toNat TCast.z)).bind fun ⟨r1776, r1777⟩ => (if r1744 = r1777 then ((juratref19_Same.f k r1743 r1776).bind fun r1801 => if r1801 = true then ((juratref19_Same.f k x1377 r1728).bind fun r1809 => some (!r1809)) else (some (true))) else (some (true))).bind fun g1791 => if g1791 = true then (some (Sum.inr false)) else (if r1744 = 0 then ((juratlaw19_TallyCasts.l2 k 0 (⟨r1715.Worker, r1745⟩ : TCast)).bind fun x1914 => (juratref19_Same.f k r1743 r1776).bind fun r2010 => if r2010 = true then (juratlaw19_TallyCasts.l1 k a0 r1743 r1776 (wi64 (x1395 + 1))) else (some (Sum.inr false))) else (juratlaw19_TallyCasts.l1 k a0 x1377 x1386 (wi64 (x1395 + 1))))) else none) else none) else (some (Sum.inl ()))
def juratlaw19_TallyCasts.f (k : Nat) (a0 : List TCast) : Option Bool := (juratref19_Great.f k a0).bind fun r9 => if r9 = true then ((juratlaw19_awake.f k ).bind fun r14 => some r14) else ((juratlaw19_TallyCasts.l1 k a0 ([] : List TCast) ([] : List TCast) 0).bind fun o_ => sumE o_ (fun _ => (juratlaw19_awake.f k ).bind fun r2047 => some r2047) (fun p_ => some p_))
set_option maxRecDepth 100000 in
set_option maxHeartbeats 4000000 in
theorem juratlaw19_TallyCasts.calls (k : Nat) (w : World) (F : CH) (A1 : Option Addr) (c2 : Nat) (n3 : Nat) (a0 : List TCast) (hp : Pre w F []) (hn4 : n3 = a0.length) (hl5 : a0.length ≤ c2) (hm6 : c2 ≤ maxLen) (hS7 : Sl TCast.K F F A1 a0) (r0_ : Bool) (H : juratlaw19_TallyCasts.f k a0 = some r0_) :
    Calls Try.prog 7 #[.slice A1 n3 c2] w fun e w' => e = .returned (.bool r0_) ∧ Ctx w F (domL []) w' F [] := by
  have C := Ctx.start hp
  generalize hD : domL [] = D at C ⊢
  unfold juratlaw19_TallyCasts.f at H
  refine Calls.ofW Try.func7 rfl (by simp [Try.ntmps7]) ?_
  refine W.seq ?_
  refine W.region rfl ?_
  refine WL.val (Yl.assign (v := .bool false) rfl) ?_
  refine WL.done ?_
  refine W.seq ?_
  refine W.seq ?_
  refine W.region rfl ?_
  refine WL.val (Yl.move (v := .slice A1 n3 c2) rfl) ?_
  obtain ⟨r9, hg8, H⟩ := bindE H
  refine WL.call (args := #[.slice A1 n3 c2]) (Yenter.fn Try.func15 (by kernel_rfl) rfl (argsE (.cons rfl .nil))) (juratref19_Great.calls k _ F A1 c2 n3 a0 C.pre0 hn4 hl5 hm6 hS7 r9 hg8) ?_
  rintro e_ w_ ⟨rfl, ⟨m10, rfl⟩⟩
  refine ⟨_, rfl, ?_⟩
  have C11 := Ctx.drewN C m10
  refine WL.done ?_
  rcases iteE H with ⟨hc12, H⟩ | ⟨hc12, H⟩
  · skip
    refine W.condT (congrArg Value.bool hc12) ?_
    refine W.seq ?_
    refine W.region rfl ?_
    obtain ⟨r14, hg13, H⟩ := bindE H
    refine WL.call (args := #[]) (Yenter.fn Try.func10 (by kernel_rfl) rfl (argsE .nil)) (juratlaw19_awake.calls k _ F  (Ctx.pre (qs := []) (rest := []) C11)  r14 hg13) ?_
    rintro e_ w_ ⟨rfl, C15⟩
    refine ⟨_, rfl, ?_⟩
    have C16 : Ctx _ _ _ _ F [] := Ctx.call (qs := []) (rest := []) C11 C15
    refine WL.val (Yl.assign (v := .bool r14) rfl) ?_
    refine WL.done ?_
    refine W.ret ?_
    refine thenE_r ?_
    have e17 := Option.some.inj H
    subst e17
    exact post_r (resE1 rfl rfl) ⟨rfl, C16⟩
  · skip
    refine W.condF (congrArg Value.bool (Bool.eq_false_iff.2 hc12)) ?_
    refine W.skip ?_
    refine W.seq ?_
    refine W.region rfl ?_
    refine WL.val (Yl.assign (v := .slice none 0 0) rfl) ?_
    refine WL.val (Yl.assign (v := .slice none 0 0) rfl) ?_
    refine WL.done ?_
    refine W.seq ?_
    refine W.seq ?_
    refine W.region rfl ?_
    refine WL.val (Yl.assign (v := .int .i64 0) rfl) ?_
    refine WL.done ?_
    obtain ⟨o1026, hX1025, H⟩ := bindE H
    refine W.cutM (fun env_ w_ => Ctx w F D w_ F [] ∧ o1026 = Sum.inl ()) ?_ ?_
    · skip
      refine W.block ?_
      refine W.loop (fun g_ env_ w_ => ∃ (x1377 : List TCast) (x1386 : List TCast) (x1395 : Int) (F1373 : CH) (A1378 : Option Addr) (c1379 : Nat) (n1380 : Nat) (A1387 : Option Addr) (c1388 : Nat) (n1389 : Nat), env_ 0 = .slice A1 n3 c2 ∧ env_ 3 = .slice A1378 n1380 c1379 ∧ env_ 4 = .slice A1387 n1389 c1388 ∧ env_ 5 = .int .i64 x1395 ∧ Ctx w F D w_ F1373 [] ∧ CH.le F F1373 ∧ n1380 = x1377.length ∧ x1377.length ≤ c1379 ∧ c1379 ≤ maxLen ∧ Sl TCast.K F1373 F1373 A1378 x1377 ∧ n1389 = x1386.length ∧ x1386.length ≤ c1388 ∧ c1388 ≤ maxLen ∧ Sl TCast.K F1373 F1373 A1387 x1386 ∧ juratlaw19_TallyCasts.l1 g_ a0 x1377 x1386 x1395 = some o1026) k ⟨([] : List TCast), ([] : List TCast), 0, F, none, 0, 0, none, 0, 0, rfl, rfl, rfl, rfl, C11, (CH.le_refl _), rfl, (Nat.le_refl _), (Nat.zero_le _), (Sl.nil _ _ _ _), rfl, (Nat.le_refl _), (Nat.zero_le _), (Sl.nil _ _ _ _), hX1025⟩ ?_
      clear hX1025
      rintro g_ env_ w_ ⟨x1377, x1386, x1395, F1373, A1378, c1379, n1380, A1387, c1388, n1389, ho1375, ho1376, ho1385, ho1394, C1396, le1374, hn1381, hl1382, hm1383, hS1384, hn1390, hl1391, hm1392, hS1393, hX1025⟩
      rcases g_ with _ | k1702
      · exact absurd hX1025 (by simp [juratlaw19_TallyCasts.l1])
      rw [juratlaw19_TallyCasts.l1] at hX1025
      refine W.seq ?_
      refine W.seq ?_
      refine W.region rfl ?_
      refine WL.val (Yl.move (v := .int .i64 x1395) ho1394) ?_
      refine WL.val (Yl.move (v := .slice A1 n3 c2) ho1375) ?_
      refine WL.val (Yl.lenN (A := A1) (l := n3) (q := c2) (n := (a0.length : Int)) rfl Try.underlying26 (by omega)) ?_
      refine WL.val (Yl.lss (m := x1395) (n := (a0.length : Int)) (q := decide (x1395 < (a0.length : Int))) rfl rfl rfl) ?_
      refine WL.done ?_
      rcases iteE hX1025 with ⟨hc1703, hX1025⟩ | ⟨hc1703, hX1025⟩
      · skip
        refine W.condT (congrArg Value.bool (decide_eq_true hc1703)) ?_
        refine W.skip ?_
        refine W.seq ?_
        refine W.block ?_
        refine W.seq ?_
        refine W.region rfl ?_
        refine WL.val (Yl.move (v := .slice A1 n3 c2) ho1375) ?_
        refine WL.val (Yl.move (v := .int .i64 x1395) ho1394) ?_
        refine WL.val (Yl.move (v := .int .i64 x1395) ho1394) ?_
        refine WL.val (Yl.add (m := x1395) (n := 1) (r := wi64 (x1395 + 1)) rfl rfl rfl) ?_
        obtain ⟨hc1704, hX1025⟩ := guardE hX1025
        have hl1713 : a0.length ≤ c2 ∧ c2 ≤ maxLen := ⟨hl5, hm6⟩
        obtain ⟨A1705, c1706, n1707, hv1708, hn1709, hl1710, hm1711, hS1712⟩ := Sl.cut hS7 (c := c2) hl1713.2 x1395.toNat ((wi64 (x1395 + 1)).toNat) c2 (by omega) (by omega) (by omega) (by omega)
        refine WL.val (Yl.slice x1395.toNat ((wi64 (x1395 + 1)).toNat) c2 rfl Try.underlying26 sz37 rfl (OB.mk rfl (by omega)) (OB.mk rfl (by omega)) (by simp) (by omega) (by omega) (by omega) hv1708) ?_
        obtain ⟨r1715, hg1714, hX1025⟩ := bindE hX1025
        refine WL.call (args := #[.slice A1705 n1707 c1706]) (Yenter.fn Try.func16 (by kernel_rfl) rfl (argsE (.cons rfl .nil))) (juratref19_Copy_one.calls k1702 _ F1373 A1705 c1706 n1707 ((a0.take ((wi64 (x1395 + 1)).toNat)).drop x1395.toNat) (Ctx.pre (qs := []) (rest := []) C1396) hn1709 hl1710 hm1711 (Sl.mono hS1712 le1374 le1374) r1715 hg1714) ?_
        rintro e_ w_ ⟨g1716, o1717, c1718, A1719, c1720, n1721, p1723, rfl, C1725, hn1722, hR1724⟩
        refine ⟨_, rfl, ?_⟩
        have C1726 : Ctx _ _ _ _ F1373 [CH.row g1716 o1717 [.int .i64 r1715.Worker, .slice A1719 n1721 c1720], p1723] := Ctx.call (qs := []) (rest := []) C1396 C1725
        refine WL.val (Yl.assign (v := .slice (some ⟨g1716, o1717, none⟩) 1 c1718) rfl) ?_
        refine WL.done ?_
        refine W.seq ?_
        refine W.region rfl ?_
        refine WL.val (Yl.move (v := .slice A1378 n1380 c1379) ho1376) ?_
        obtain ⟨r1728, hg1727, hX1025⟩ := bindE hX1025
        refine WL.call (args := #[.slice A1378 n1380 c1379]) (Yenter.fn Try.func16 (by kernel_rfl) rfl (argsE (.cons rfl .nil))) (juratref19_Copy.calls k1702 _ F1373 A1378 c1379 n1380 x1377 (Ctx.pre (qs := []) (rest := [CH.row g1716 o1717 [.int .i64 r1715.Worker, .slice A1719 n1721 c1720], p1723]) C1726) hn1381 hl1382 hm1383 hS1384 r1728 hg1727) ?_
        rintro e_ w_ ⟨F1729, A1731, c1732, n1733, p1735, rfl, le1730, C1737, hn1734, hR1736⟩
        refine ⟨_, rfl, ?_⟩
        have C1738 : Ctx _ _ _ _ F1729 [p1735, CH.row g1716 o1717 [.int .i64 r1715.Worker, .slice A1719 n1721 c1720], p1723] := Ctx.call (qs := []) (rest := [CH.row g1716 o1717 [.int .i64 r1715.Worker, .slice A1719 n1721 c1720], p1723]) C1726 C1737
        have hR1739 := Row.mono hR1724 le1730
        refine WL.val (Yl.assign (v := .slice A1731 n1733 c1732) rfl) ?_
        refine WL.done ?_
        refine W.seq ?_
        refine W.region rfl ?_
        refine WL.val (Yl.move (v := .slice A1378 n1380 c1379) ho1376) ?_
        refine WL.val (Yl.move (v := .slice (some ⟨g1716, o1717, none⟩) 1 c1718) rfl) ?_
        refine WL.val (Yl.elemAddr0 rfl rfl Try.underlying26 sz37) ?_
        refine WL.val (Yl.loadVA (g := g1716) (off := o1717) (o := 0) (cs := [.int .i64 r1715.Worker, .slice A1719 n1721 c1720]) (us := [.int .i64 r1715.Worker, .slice A1719 n1721 c1720]) rfl Try.underlying37 rfl sz37 (Ctx.sub_of [p1735] [p1723] C1738) rfl) ?_
        have C1740 : Ctx _ _ _ _ F1729 [p1735, p1723, CH.row g1716 o1717 [.int .i64 r1715.Worker, .slice A1719 n1721 c1720]] := Ctx.swap [p1735] [] C1738
        have C1741 : Ctx _ _ _ _ F1729 [p1723, p1735, CH.row g1716 o1717 [.int .i64 r1715.Worker, .slice A1719 n1721 c1720]] := Ctx.swap [] [CH.row g1716 o1717 [.int .i64 r1715.Worker, .slice A1719 n1721 c1720]] C1740
        obtain ⟨⟨r1743, r1744, r1745⟩, hg1742, hX1025⟩ := bindE hX1025
        refine WL.call (args := #[.slice A1378 n1380 c1379, .agg (List.toArray [.int .i64 r1715.Worker, .slice A1719 n1721 c1720])]) (Yenter.fn Try.func22 (by kernel_rfl) rfl (argsE (.cons rfl (.cons rfl .nil)))) (tally_Cast_mut.calls k1702 _ F1729 A1378 c1379 n1380 x1377 A1719 c1720 n1721 p1723 r1715 (Ctx.pre (qs := [p1723]) (rest := [p1735, CH.row g1716 o1717 [.int .i64 r1715.Worker, .slice A1719 n1721 c1720]]) C1741) hn1381 hl1382 hm1383 (Sl.mono hS1384 le1730 le1730) hn1722 hR1739 r1743 r1744 r1745 hg1742) ?_
        rintro e_ w_ ⟨F1746, A1748, c1749, n1750, p1752, p1754, rfl, le1747, C1757, hn1751, hR1753, hn1756, hR1755⟩
        refine ⟨_, rfl, ?_⟩
        have C1758 : Ctx _ _ _ _ F1746 [p1754, p1752, p1735, CH.row g1716 o1717 [.int .i64 r1715.Worker, .slice A1719 n1721 c1720]] := Ctx.call (qs := [p1723]) (rest := [p1735, CH.row g1716 o1717 [.int .i64 r1715.Worker, .slice A1719 n1721 c1720]]) C1741 C1757
        have hR1759 := Row.mono hR1736 le1747
        refine WL.val (Yl.move (v := .tuple #[(.slice A1748 n1750 c1749), (.int .i64 r1744)]) rfl) ?_
        refine WL.val (Yl.extract (v := .slice A1748 n1750 c1749) rfl rfl) ?_
        refine WL.val (Yl.extract (v := .int .i64 r1744) rfl rfl) ?_
        refine WL.val (Yl.assign (v := .slice A1748 n1750 c1749) rfl) ?_
        refine WL.val (Yl.assign (v := .int .i64 r1744) rfl) ?_
        refine WL.done ?_
        refine W.seq ?_
        refine W.region rfl ?_
        refine WL.val (Yl.move (v := .slice A1387 n1389 c1388) ho1385) ?_
        refine WL.val (Yl.move (v := .slice A1 n3 c2) ho1375) ?_
        refine WL.val (Yl.move (v := .int .i64 x1395) ho1394) ?_
        obtain ⟨hc1760, hX1025⟩ := guardE hX1025
        obtain ⟨b1761, of1762, hA1763, he1764⟩ := hS7 (by omega)
        refine WL.val (Yl.elemAddr (i := x1395) rfl rfl hA1763 Try.underlying26 sz37 (by omega)) ?_
        obtain ⟨cs1765, hr1766, hx1767⟩ := he1764 x1395.toNat _ (getD_some (d := TCast.z) (by omega))
        obtain ⟨A1768, c1769, n1770, rfl, hn1771, hl1772, hm1773, hS1774⟩ := TCast.open hr1766
        refine WL.val (Yl.loadAgg (cs := [.int .i64 ((a0.getD x1395.toNat TCast.z).Worker), .slice A1768 n1770 c1769]) rfl Try.underlying37 rfl sz37 (fun j u hu => by rw [add_of]; exact ((C1758.fro.mono (CH.le_trans le1374 (CH.le_trans le1730 le1747)))).cell (hx1767 _ _ hu))) ?_
        obtain ⟨⟨r1776, r1777⟩, hg1775, hX1025⟩ := bindE hX1025
        refine WL.call (args := #[.slice A1387 n1389 c1388, .agg (List.toArray [.int .i64 ((a0.getD x1395.toNat TCast.z).Worker), .slice A1768 n1770 c1769])]) (Yenter.fn Try.func23 (by kernel_rfl) rfl (argsE (.cons rfl (.cons rfl .nil)))) (juratref19_Cast.calls k1702 _ F1746 A1387 c1388 n1389 x1386 A1768 c1769 n1770 (a0.getD x1395.toNat TCast.z) (Ctx.pre (qs := []) (rest := [p1754, p1752, p1735, CH.row g1716 o1717 [.int .i64 r1715.Worker, .slice A1719 n1721 c1720]]) C1758) hn1390 hl1391 hm1392 (Sl.mono hS1393 (CH.le_trans le1730 le1747) (CH.le_trans le1730 le1747)) hn1771 hl1772 hm1773 (Sl.mono hS1774 (CH.le_trans le1374 (CH.le_trans le1730 le1747)) (CH.le_trans le1374 (CH.le_trans le1730 le1747))) r1776 r1777 hg1775) ?_
        rintro e_ w_ ⟨F1778, A1780, c1781, n1782, p1784, rfl, le1779, C1786, hn1783, hR1785⟩
        refine ⟨_, rfl, ?_⟩
        have C1787 : Ctx _ _ _ _ F1778 [p1784, p1754, p1752, p1735, CH.row g1716 o1717 [.int .i64 r1715.Worker, .slice A1719 n1721 c1720]] := Ctx.call (qs := []) (rest := [p1754, p1752, p1735, CH.row g1716 o1717 [.int .i64 r1715.Worker, .slice A1719 n1721 c1720]]) C1758 C1786
        have hR1788 := Row.mono hR1759 le1779
        have hR1789 := Row.mono hR1755 le1779
        have hR1790 := Row.mono hR1753 le1779
        refine WL.val (Yl.move (v := .tuple #[(.slice A1780 n1782 c1781), (.int .i64 r1777)]) rfl) ?_
        refine WL.val (Yl.extract (v := .slice A1780 n1782 c1781) rfl rfl) ?_
        refine WL.val (Yl.extract (v := .int .i64 r1777) rfl rfl) ?_
        refine WL.val (Yl.assign (v := .slice A1780 n1782 c1781) rfl) ?_
        refine WL.val (Yl.assign (v := .int .i64 r1777) rfl) ?_
        refine WL.done ?_
        refine W.seq ?_
        refine W.seq ?_
        refine W.region rfl ?_
        refine WL.val (Yl.move (v := .int .i64 r1744) rfl) ?_
        refine WL.val (Yl.move (v := .int .i64 r1777) rfl) ?_
        refine WL.val (Yl.neq (m := r1744) (n := r1777) (q := !decide (r1744 = r1777)) rfl rfl rfl) ?_
        refine WL.val (Yl.move (v := .bool (!decide (r1744 = r1777))) rfl) ?_
        obtain ⟨g1791, HE1792, hX1025⟩ := bindE hX1025
        refine WL.cut (fun env_ w_ => env_ 61 = .bool g1791 ∧ env_ 0 = .slice A1 n3 c2 ∧ env_ 3 = .slice A1378 n1380 c1379 ∧ env_ 4 = .slice A1387 n1389 c1388 ∧ env_ 5 = .int .i64 x1395 ∧ env_ 6 = .slice (some ⟨g1716, o1717, none⟩) 1 c1718 ∧ env_ 8 = .slice A1748 n1750 c1749 ∧ env_ 9 = .int .i64 r1744 ∧ env_ 10 = .slice A1780 n1782 c1781 ∧ Ctx w F D w_ F1778 [p1784, p1754, p1752, p1735, CH.row g1716 o1717 [.int .i64 r1715.Worker, .slice A1719 n1721 c1720]]) ?_ ?_
        · skip
          rcases iteE HE1792 with ⟨hc1793, HE1792⟩ | ⟨hc1793, HE1792⟩
          · skip
            refine WL.on rfl (congrArg Value.bool (ndec_t hc1793)) ?_
            refine WL.val (Yl.move (v := .slice A1748 n1750 c1749) rfl) ?_
            refine WL.on rfl (congrArg Value.bool (ndec_t hc1793)) ?_
            refine WL.val (Yl.move (v := .slice A1780 n1782 c1781) rfl) ?_
            refine WL.on rfl (congrArg Value.bool (ndec_t hc1793)) ?_
            have le1794 : CH.le F1778 (CH.join F1778 p1752) := CH.le_joinL _ _
            have lp1795 : CH.le p1752 (CH.join F1778 p1752) := CH.le_joinR (Ctx.dis_of [p1784, p1754] [p1735, CH.row g1716 o1717 [.int .i64 r1715.Worker, .slice A1719 n1721 c1720]] C1787)
            have C1796 : Ctx _ _ _ _ (CH.join F1778 p1752) [p1784, p1754, p1735, CH.row g1716 o1717 [.int .i64 r1715.Worker, .slice A1719 n1721 c1720]] := Ctx.freeze [p1784, p1754] [p1735, CH.row g1716 o1717 [.int .i64 r1715.Worker, .slice A1719 n1721 c1720]] C1787
            have le1797 : CH.le (CH.join F1778 p1752) (CH.join (CH.join F1778 p1752) p1784) := CH.le_joinL _ _
            have lp1798 : CH.le p1784 (CH.join (CH.join F1778 p1752) p1784) := CH.le_joinR (Ctx.dis_of [] [p1754, p1735, CH.row g1716 o1717 [.int .i64 r1715.Worker, .slice A1719 n1721 c1720]] C1796)
            have C1799 : Ctx _ _ _ _ (CH.join (CH.join F1778 p1752) p1784) [p1754, p1735, CH.row g1716 o1717 [.int .i64 r1715.Worker, .slice A1719 n1721 c1720]] := Ctx.freeze [] [p1754, p1735, CH.row g1716 o1717 [.int .i64 r1715.Worker, .slice A1719 n1721 c1720]] C1796
            obtain ⟨r1801, hg1800, HE1792⟩ := bindE HE1792
            refine WL.call (args := #[.slice A1748 n1750 c1749, .slice A1780 n1782 c1781]) (Yenter.fn Try.func24 (by kernel_rfl) rfl (argsE (.cons rfl (.cons rfl .nil)))) (juratref19_Same.calls k1702 _ (CH.join (CH.join F1778 p1752) p1784) A1748 c1749 n1750 r1743 A1780 c1781 n1782 r1776 C1799.pre0 hn1751 (Row.len_le hR1790).1 (Row.len_le hR1790).2.1 (Sl.mono (Row.sl hR1790) (CH.le_trans le1794 le1797) (CH.le_trans lp1795 le1797)) hn1783 (Row.len_le hR1785).1 (Row.len_le hR1785).2.1 (Sl.mono (Row.sl hR1785) (CH.le_trans le1794 le1797) lp1798) r1801 hg1800) ?_
            rintro e_ w_ ⟨rfl, ⟨m1802, rfl⟩⟩
            refine ⟨_, rfl, ?_⟩
            have C1803 := Ctx.drewN C1787 m1802
            refine WL.on rfl (congrArg Value.bool (ndec_t hc1793)) ?_
            refine WL.val (Yl.not (p := r1801) (q := !r1801) rfl rfl) ?_
            refine WL.val (Yl.pickF (v := .bool (!r1801)) (congrArg Value.bool (ndec_t hc1793)) rfl) ?_
            refine WL.val (Yl.move (v := .bool (!r1801)) rfl) ?_
            rcases iteE HE1792 with ⟨hc1804, HE1792⟩ | ⟨hc1804, HE1792⟩
            · skip
              refine WL.on rfl (congrArg Value.bool (nb_t hc1804)) ?_
              refine WL.val (Yl.move (v := .slice A1378 n1380 c1379) ho1376) ?_
              refine WL.on rfl (congrArg Value.bool (nb_t hc1804)) ?_
              refine WL.val (Yl.move (v := .slice A1731 n1733 c1732) rfl) ?_
              refine WL.on rfl (congrArg Value.bool (nb_t hc1804)) ?_
              have le1805 : CH.le F1778 (CH.join F1778 p1735) := CH.le_joinL _ _
              have lp1806 : CH.le p1735 (CH.join F1778 p1735) := CH.le_joinR (Ctx.dis_of [p1784, p1754, p1752] [CH.row g1716 o1717 [.int .i64 r1715.Worker, .slice A1719 n1721 c1720]] C1803)
              have C1807 : Ctx _ _ _ _ (CH.join F1778 p1735) [p1784, p1754, p1752, CH.row g1716 o1717 [.int .i64 r1715.Worker, .slice A1719 n1721 c1720]] := Ctx.freeze [p1784, p1754, p1752] [CH.row g1716 o1717 [.int .i64 r1715.Worker, .slice A1719 n1721 c1720]] C1803
              obtain ⟨r1809, hg1808, HE1792⟩ := bindE HE1792
              refine WL.call (args := #[.slice A1378 n1380 c1379, .slice A1731 n1733 c1732]) (Yenter.fn Try.func24 (by kernel_rfl) rfl (argsE (.cons rfl (.cons rfl .nil)))) (juratref19_Same.calls k1702 _ (CH.join F1778 p1735) A1378 c1379 n1380 x1377 A1731 c1732 n1733 r1728 C1807.pre0 hn1381 hl1382 hm1383 (Sl.mono hS1384 (CH.le_trans (CH.le_trans le1730 (CH.le_trans le1747 le1779)) le1805) (CH.le_trans (CH.le_trans le1730 (CH.le_trans le1747 le1779)) le1805)) hn1734 (Row.len_le hR1788).1 (Row.len_le hR1788).2.1 (Sl.mono (Row.sl hR1788) le1805 lp1806) r1809 hg1808) ?_
              rintro e_ w_ ⟨rfl, ⟨m1810, rfl⟩⟩
              refine ⟨_, rfl, ?_⟩
              have C1811 := Ctx.drewN C1803 m1810
              refine WL.on rfl (congrArg Value.bool (nb_t hc1804)) ?_
              refine WL.val (Yl.not (p := r1809) (q := !r1809) rfl rfl) ?_
              refine WL.val (Yl.pickF (v := .bool (!r1809)) (congrArg Value.bool (nb_t hc1804)) rfl) ?_
              cases HE1792
              exact WL.done ⟨rfl, ho1375, ho1376, ho1385, ho1394, rfl, rfl, rfl, rfl, C1811⟩
            · skip
              refine WL.off rfl (congrArg Value.bool (nb_f hc1804)) ?_
              refine WL.off rfl (congrArg Value.bool (nb_f hc1804)) ?_
              refine WL.off rfl (congrArg Value.bool (nb_f hc1804)) ?_
              refine WL.off rfl (congrArg Value.bool (nb_f hc1804)) ?_
              refine WL.val (Yl.pickT (v := .bool true) (congrArg Value.bool (nb_f hc1804)) rfl) ?_
              cases HE1792
              exact WL.done ⟨rfl, ho1375, ho1376, ho1385, ho1394, rfl, rfl, rfl, rfl, C1803⟩
          · skip
            refine WL.off rfl (congrArg Value.bool (ndec_f hc1793)) ?_
            refine WL.off rfl (congrArg Value.bool (ndec_f hc1793)) ?_
            refine WL.off rfl (congrArg Value.bool (ndec_f hc1793)) ?_
            refine WL.off rfl (congrArg Value.bool (ndec_f hc1793)) ?_
            refine WL.val (Yl.pickT (v := .bool true) (congrArg Value.bool (ndec_f hc1793)) rfl) ?_
            refine WL.val (Yl.move (v := .bool true) rfl) ?_
            refine WL.off rfl rfl ?_
            refine WL.off rfl rfl ?_
            refine WL.off rfl rfl ?_
            refine WL.off rfl rfl ?_
            refine WL.val (Yl.pickT (v := .bool true) rfl rfl) ?_
            cases HE1792
            exact WL.done ⟨rfl, ho1375, ho1376, ho1385, ho1394, rfl, rfl, rfl, rfl, C1787⟩
        · skip
          rintro env_ w_ ⟨ho1812, ho1813, ho1814, ho1815, ho1816, ho1817, ho1818, ho1819, ho1820, C1821⟩
          rcases iteE hX1025 with ⟨hc1822, hX1025⟩ | ⟨hc1822, hX1025⟩
          · skip
            refine W.condT (ho1812.trans (congrArg Value.bool hc1822)) ?_
            refine W.seq ?_
            refine W.region rfl ?_
            refine WL.val (Yl.assign (v := .bool false) rfl) ?_
            refine WL.done ?_
            refine W.ret ?_
            refine thenE_r ?_
            refine inB_r ?_
            refine thenE_r ?_
            refine thenE_r ?_
            refine inB_r ?_
            refine thenE_r ?_
            refine thenE_r ?_
            cases hX1025
            replace H := sumE_r H
            have C1823 : Ctx _ _ _ _ F1778 [p1754, p1752, p1735, CH.row g1716 o1717 [.int .i64 r1715.Worker, .slice A1719 n1721 c1720]] := Ctx.drop [] [p1754, p1752, p1735, CH.row g1716 o1717 [.int .i64 r1715.Worker, .slice A1719 n1721 c1720]] C1821
            have C1824 : Ctx _ _ _ _ F1778 [p1752, p1735, CH.row g1716 o1717 [.int .i64 r1715.Worker, .slice A1719 n1721 c1720]] := Ctx.drop [] [p1752, p1735, CH.row g1716 o1717 [.int .i64 r1715.Worker, .slice A1719 n1721 c1720]] C1823
            have C1825 : Ctx _ _ _ _ F1778 [p1735, CH.row g1716 o1717 [.int .i64 r1715.Worker, .slice A1719 n1721 c1720]] := Ctx.drop [] [p1735, CH.row g1716 o1717 [.int .i64 r1715.Worker, .slice A1719 n1721 c1720]] C1824
            have C1826 : Ctx _ _ _ _ F1778 [CH.row g1716 o1717 [.int .i64 r1715.Worker, .slice A1719 n1721 c1720]] := Ctx.drop [] [CH.row g1716 o1717 [.int .i64 r1715.Worker, .slice A1719 n1721 c1720]] C1825
            have C1827 : Ctx _ _ _ _ F1778 [] := Ctx.drop [] [] C1826
            have e1828 := Option.some.inj H
            subst e1828
            exact post_r (resE1 rfl rfl) ⟨rfl, (Ctx.weak C1827 (CH.le_refl _))⟩
          · skip
            refine W.condF (ho1812.trans (congrArg Value.bool (Bool.eq_false_iff.2 hc1822))) ?_
            refine W.skip ?_
            refine W.seq ?_
            refine W.region rfl ?_
            refine WL.val (Yl.move (v := .int .i64 r1744) ho1819) ?_
            refine WL.val (Yl.eql (m := r1744) (n := 0) (q := decide (r1744 = 0)) rfl rfl rfl) ?_
            refine WL.done ?_
            rcases iteE hX1025 with ⟨hc1829, hX1025⟩ | ⟨hc1829, hX1025⟩
            · skip
              refine W.condT (congrArg Value.bool (decide_eq_true hc1829)) ?_
              refine W.seq ?_
              refine W.seq ?_
              refine W.region rfl ?_
              refine WL.val (Yl.assign (v := .int .i64 0) rfl) ?_
              refine WL.done ?_
              obtain ⟨x1914, hX1922, hX1025⟩ := bindE hX1025
              refine W.cutM (fun env_ w_ => ∃ (A1915 : Option Addr) (c1916 : Nat) (n1917 : Nat) (p1919 : CH), env_ 0 = .slice A1 n3 c2 ∧ env_ 5 = .int .i64 x1395 ∧ env_ 8 = .slice A1748 n1750 c1749 ∧ env_ 10 = .slice A1780 n1782 c1781 ∧ Ctx w F D w_ F1778 [CH.row g1716 o1717 [.int .i64 x1914.Worker, .slice A1915 n1917 c1916], p1919, p1784, p1752, p1735] ∧ n1917 = x1914.Value.length ∧ Row (Kd.int .u8) F1778 p1919 (.slice A1915 n1917 c1916) x1914.Value) ?_ ?_
              · skip
                refine W.block ?_
                have C1981 : Ctx _ _ _ _ F1778 [p1784, p1754, p1752, CH.row g1716 o1717 [.int .i64 r1715.Worker, .slice A1719 n1721 c1720], p1735] := Ctx.swap [p1784, p1754, p1752] [] C1821
                have C1982 : Ctx _ _ _ _ F1778 [p1784, p1754, CH.row g1716 o1717 [.int .i64 r1715.Worker, .slice A1719 n1721 c1720], p1752, p1735] := Ctx.swap [p1784, p1754] [p1735] C1981
                have C1983 : Ctx _ _ _ _ F1778 [p1784, CH.row g1716 o1717 [.int .i64 r1715.Worker, .slice A1719 n1721 c1720], p1754, p1752, p1735] := Ctx.swap [p1784] [p1752, p1735] C1982
                have C1984 : Ctx _ _ _ _ F1778 [CH.row g1716 o1717 [.int .i64 r1715.Worker, .slice A1719 n1721 c1720], p1784, p1754, p1752, p1735] := Ctx.swap [] [p1754, p1752, p1735] C1983
                have C1985 : Ctx _ _ _ _ F1778 [CH.row g1716 o1717 [.int .i64 r1715.Worker, .slice A1719 n1721 c1720], p1754, p1784, p1752, p1735] := Ctx.swap [CH.row g1716 o1717 [.int .i64 r1715.Worker, .slice A1719 n1721 c1720]] [p1752, p1735] C1984
                refine W.loop (fun g_ env_ w_ => ∃ (x1954 : Int) (x1955 : TCast) (A1956 : Option Addr) (c1957 : Nat) (n1958 : Nat) (p1960 : CH), env_ 0 = .slice A1 n3 c2 ∧ env_ 5 = .int .i64 x1395 ∧ env_ 6 = .slice (some ⟨g1716, o1717, none⟩) 1 c1718 ∧ env_ 8 = .slice A1748 n1750 c1749 ∧ env_ 10 = .slice A1780 n1782 c1781 ∧ env_ 12 = .int .i64 x1954 ∧ Ctx w F D w_ F1778 [CH.row g1716 o1717 [.int .i64 x1955.Worker, .slice A1956 n1958 c1957], p1960, p1784, p1752, p1735] ∧ n1958 = x1955.Value.length ∧ Row (Kd.int .u8) F1778 p1960 (.slice A1956 n1958 c1957) x1955.Value ∧ juratlaw19_TallyCasts.l2 g_ x1954 x1955 = some x1914) k1702 ⟨0, (⟨r1715.Worker, r1745⟩ : TCast), A1719, c1720, n1721, p1754, ho1813, ho1816, ho1817, ho1818, ho1820, rfl, C1985, hn1756, hR1789, hX1922⟩ ?_
                clear hX1922
                rintro g_ env_ w_ ⟨x1954, x1955, A1956, c1957, n1958, p1960, ho1948, ho1949, ho1950, ho1951, ho1952, ho1953, C1962, hn1959, hR1961, hX1922⟩
                rcases g_ with _ | k1980
                · exact absurd hX1922 (by simp [juratlaw19_TallyCasts.l2])
                rw [juratlaw19_TallyCasts.l2] at hX1922
                refine W.seq ?_
                refine W.seq ?_
                refine W.region rfl ?_
                refine WL.val (Yl.move (v := .int .i64 x1954) ho1953) ?_
                refine WL.val (Yl.move (v := .slice (some ⟨g1716, o1717, none⟩) 1 c1718) ho1950) ?_
                refine WL.val (Yl.elemAddr0 rfl rfl Try.underlying26 sz37) ?_
                refine WL.val (Yl.fieldAddr (i := 1) rfl Try.underlying37 rfl sz23) ?_
                refine WL.val (Yl.loadV (g := g1716) (off := o1717) (o := 1) (cs := [.int .i64 x1955.Worker, .slice A1956 n1958 c1957]) (v := .slice A1956 n1958 c1957) rfl Try.underlying23 rfl (Ctx.sub_of [] [p1960, p1784, p1752, p1735] C1962) rfl) ?_
                refine WL.val (Yl.lenN (A := A1956) (l := n1958) (q := c1957) (n := (x1955.Value.length : Int)) rfl Try.underlying23 (by omega)) ?_
                refine WL.val (Yl.lss (m := x1954) (n := (x1955.Value.length : Int)) (q := decide (x1954 < (x1955.Value.length : Int))) rfl rfl rfl) ?_
                refine WL.done ?_
                rcases iteE hX1922 with ⟨hc1986, hX1922⟩ | ⟨hc1986, hX1922⟩
                · skip
                  refine W.condT (congrArg Value.bool (decide_eq_true hc1986)) ?_
                  refine W.skip ?_
                  refine W.seq ?_
                  refine W.block ?_
                  refine W.region rfl ?_
                  refine WL.val (Yl.move (v := .slice (some ⟨g1716, o1717, none⟩) 1 c1718) ho1950) ?_
                  refine WL.val (Yl.elemAddr0 rfl rfl Try.underlying26 sz37) ?_
                  refine WL.val (Yl.fieldAddr (i := 1) rfl Try.underlying37 rfl sz23) ?_
                  refine WL.val (Yl.loadV (g := g1716) (off := o1717) (o := 1) (cs := [.int .i64 x1955.Worker, .slice A1956 n1958 c1957]) (v := .slice A1956 n1958 c1957) rfl Try.underlying23 rfl (Ctx.sub_of [] [p1960, p1784, p1752, p1735] C1962) rfl) ?_
                  refine WL.val (Yl.move (v := .int .i64 x1954) ho1953) ?_
                  obtain ⟨hc1987, hX1922⟩ := guardE hX1922
                  obtain ⟨b1988, of1989, hA1990, he1991⟩ := (Row.sl hR1961) (by omega)
                  refine WL.val (Yl.elemAddr (i := x1954) rfl rfl hA1990 Try.underlying23 sz5 (by omega)) ?_
                  obtain ⟨cs1992, hr1993, hx1994⟩ := he1991 x1954.toNat _ (getD_some (d := 0) (by omega))
                  obtain rfl := hr1993
                  refine WL.val (Yl.load (v := .int .u8 (x1955.Value.getD x1954.toNat 0)) rfl Try.underlying5 rfl (((Ctx.sub_of [CH.row g1716 o1717 [.int .i64 x1955.Worker, .slice A1956 n1958 c1957]] [p1784, p1752, p1735] C1962)).cell (hx1994 0 _ rfl))) ?_
                  refine WL.val (Yl.xor (m := x1955.Value.getD x1954.toNat 0) (n := 255) (r := bitsOp .xor .u8 (x1955.Value.getD x1954.toNat 0) 255) rfl rfl rfl) ?_
                  refine WL.val (Yl.elemAddr (i := x1954) rfl rfl hA1990 Try.underlying23 sz5 (by omega)) ?_
                  have hj2000 : x1954.toNat < x1955.Value.length := by first | omega | (simp only [List.length_set, List.length_replicate] at *; omega)
                  obtain ⟨p1995, w1996, hy1997, C1998, hR1999⟩ := ev_store (P := Try.prog) (t := 5) (Kd.int .u8) [CH.row g1716 o1717 [.int .i64 x1955.Worker, .slice A1956 n1958 c1957]] [p1784, p1752, p1735] C1962 hR1961 hA1990 x1954.toNat 0 hj2000 0 (.int .u8 (bitsOp .xor .u8 (x1955.Value.getD x1954.toNat 0) 255)) ([.int .u8 (bitsOp .xor .u8 (x1955.Value.getD x1954.toNat 0) 255)]) rfl (by simp [Value.oneCell']) (Nat.le_of_ble_eq_true rfl) sz5 (bitsOp .xor .u8 (x1955.Value.getD x1954.toNat 0) 255) (fun _ h_ => rep_whole h_ rfl) ⟨b1988, of1989 + x1954.toNat * 1, none⟩ rfl
                  have hn2001 : n1958 = (x1955.Value.set x1954.toNat (bitsOp .xor .u8 (x1955.Value.getD x1954.toNat 0) 255)).length := by rw [List.length_set]; omega
                  have C2002 : Ctx _ _ _ _ F1778 [CH.row g1716 o1717 [.int .i64 x1955.Worker, .slice A1956 n1958 c1957], p1995, p1784, p1752, p1735] := C1998
                  refine WL.skip (hy1997 _ _ _ _ rfl rfl) ?_
                  refine WL.done ?_
                  refine inB_n ?_
                  refine W.region rfl ?_
                  refine WL.val (Yl.move (v := .int .i64 x1954) ho1953) ?_
                  refine WL.val (Yl.add (m := x1954) (n := 1) (r := wi64 (x1954 + 1)) rfl rfl rfl) ?_
                  refine WL.val (Yl.assign (v := .int .i64 (wi64 (x1954 + 1))) rfl) ?_
                  refine WL.done ?_
                  exact thenE_n ⟨k1980, Nat.lt_succ_self _, wi64 (x1954 + 1), (⟨x1955.Worker, x1955.Value.set x1954.toNat (bitsOp .xor .u8 (x1955.Value.getD x1954.toNat 0) 255)⟩ : TCast), A1956, c1957, n1958, p1995, ho1948, ho1949, ho1950, ho1951, ho1952, rfl, C2002, hn2001, hR1999, hX1922⟩
                · skip
                  refine W.condF (congrArg Value.bool (decide_eq_false hc1986)) ?_
                  refine W.exit ?_
                  refine thenE_x ?_
                  refine thenE_x ?_
                  refine inB_here ?_
                  cases hX1922
                  refine thenE_n ?_
                  exact ⟨A1956, c1957, n1958, p1960, ho1948, ho1949, ho1951, ho1952, C1962, hn1959, hR1961⟩
              · skip
                rintro env_ w_ ⟨A1915, c1916, n1917, p1919, ho1910, ho1911, ho1912, ho1913, C1921, hn1918, hR1920⟩
                refine W.seq ?_
                refine W.seq ?_
                refine W.region rfl ?_
                refine WL.val (Yl.move (v := .slice A1748 n1750 c1749) ho1912) ?_
                refine WL.val (Yl.move (v := .slice A1780 n1782 c1781) ho1913) ?_
                have le2003 : CH.le F1778 (CH.join F1778 p1752) := CH.le_joinL _ _
                have lp2004 : CH.le p1752 (CH.join F1778 p1752) := CH.le_joinR (Ctx.dis_of [CH.row g1716 o1717 [.int .i64 x1914.Worker, .slice A1915 n1917 c1916], p1919, p1784] [p1735] C1921)
                have C2005 : Ctx _ _ _ _ (CH.join F1778 p1752) [CH.row g1716 o1717 [.int .i64 x1914.Worker, .slice A1915 n1917 c1916], p1919, p1784, p1735] := Ctx.freeze [CH.row g1716 o1717 [.int .i64 x1914.Worker, .slice A1915 n1917 c1916], p1919, p1784] [p1735] C1921
                have le2006 : CH.le (CH.join F1778 p1752) (CH.join (CH.join F1778 p1752) p1784) := CH.le_joinL _ _
                have lp2007 : CH.le p1784 (CH.join (CH.join F1778 p1752) p1784) := CH.le_joinR (Ctx.dis_of [CH.row g1716 o1717 [.int .i64 x1914.Worker, .slice A1915 n1917 c1916], p1919] [p1735] C2005)
                have C2008 : Ctx _ _ _ _ (CH.join (CH.join F1778 p1752) p1784) [CH.row g1716 o1717 [.int .i64 x1914.Worker, .slice A1915 n1917 c1916], p1919, p1735] := Ctx.freeze [CH.row g1716 o1717 [.int .i64 x1914.Worker, .slice A1915 n1917 c1916], p1919] [p1735] C2005
                obtain ⟨r2010, hg2009, hX1025⟩ := bindE hX1025
                refine WL.call (args := #[.slice A1748 n1750 c1749, .slice A1780 n1782 c1781]) (Yenter.fn Try.func24 (by kernel_rfl) rfl (argsE (.cons rfl (.cons rfl .nil)))) (juratref19_Same.calls k1702 _ (CH.join (CH.join F1778 p1752) p1784) A1748 c1749 n1750 r1743 A1780 c1781 n1782 r1776 C2008.pre0 hn1751 (Row.len_le hR1790).1 (Row.len_le hR1790).2.1 (Sl.mono (Row.sl hR1790) (CH.le_trans le2003 le2006) (CH.le_trans lp2004 le2006)) hn1783 (Row.len_le hR1785).1 (Row.len_le hR1785).2.1 (Sl.mono (Row.sl hR1785) (CH.le_trans le2003 le2006) lp2007) r2010 hg2009) ?_
                rintro e_ w_ ⟨rfl, ⟨m2011, rfl⟩⟩
                refine ⟨_, rfl, ?_⟩
                have C2012 := Ctx.drewN C1921 m2011
                refine WL.val (Yl.not (p := r2010) (q := !r2010) rfl rfl) ?_
                refine WL.done ?_
                rcases iteE hX1025 with ⟨hc2013, hX1025⟩ | ⟨hc2013, hX1025⟩
                · skip
                  refine W.condF (congrArg Value.bool (nb_t hc2013)) ?_
                  refine W.skip ?_
                  refine W.seq ?_
                  refine W.region rfl ?_
                  refine WL.val (Yl.move (v := .slice A1748 n1750 c1749) ho1912) ?_
                  refine WL.val (Yl.assign (v := .slice A1748 n1750 c1749) rfl) ?_
                  refine WL.done ?_
                  refine W.region rfl ?_
                  refine WL.val (Yl.move (v := .slice A1780 n1782 c1781) ho1913) ?_
                  refine WL.val (Yl.assign (v := .slice A1780 n1782 c1781) rfl) ?_
                  refine WL.done ?_
                  refine inB_n ?_
                  refine W.region rfl ?_
                  refine WL.val (Yl.move (v := .int .i64 x1395) ho1911) ?_
                  refine WL.val (Yl.add (m := x1395) (n := 1) (r := wi64 (x1395 + 1)) rfl rfl rfl) ?_
                  refine WL.val (Yl.assign (v := .int .i64 (wi64 (x1395 + 1))) rfl) ?_
                  refine WL.done ?_
                  have hd2014 := Ctx.dis_of [CH.row g1716 o1717 [.int .i64 x1914.Worker, .slice A1915 n1917 c1916], p1919, p1784] [p1735] C2012
                  have C2017 : Ctx _ _ _ _ (CH.join F1778 p1752) [CH.row g1716 o1717 [.int .i64 x1914.Worker, .slice A1915 n1917 c1916], p1919, p1784, p1735] := Ctx.freeze [CH.row g1716 o1717 [.int .i64 x1914.Worker, .slice A1915 n1917 c1916], p1919, p1784] [p1735] C2012
                  have le2016 := CH.le_joinL F1778 p1752
                  obtain ⟨hl2018, hm2019, hS2020⟩ := Row.freeze' hR1790 hd2014
                  have hR2021 := Row.mono hR1785 le2016
                  have hR2022 := Row.mono hR1920 le2016
                  have hd2023 := Ctx.dis_of [CH.row g1716 o1717 [.int .i64 x1914.Worker, .slice A1915 n1917 c1916], p1919] [p1735] C2017
                  have C2026 : Ctx _ _ _ _ (CH.join (CH.join F1778 p1752) p1784) [CH.row g1716 o1717 [.int .i64 x1914.Worker, .slice A1915 n1917 c1916], p1919, p1735] := Ctx.freeze [CH.row g1716 o1717 [.int .i64 x1914.Worker, .slice A1915 n1917 c1916], p1919] [p1735] C2017
                  have le2025 := CH.le_joinL (CH.join F1778 p1752) p1784
                  obtain ⟨hl2027, hm2028, hS2029⟩ := Row.freeze' hR2021 hd2023
                  have hR2030 := Row.mono hR2022 le2025
                  have C2031 : Ctx _ _ _ _ (CH.join (CH.join F1778 p1752) p1784) [p1919, p1735] := Ctx.drop [] [p1919, p1735] C2026
                  have C2032 : Ctx _ _ _ _ (CH.join (CH.join F1778 p1752) p1784) [p1735] := Ctx.drop [] [p1735] C2031
                  have C2033 : Ctx _ _ _ _ (CH.join (CH.join F1778 p1752) p1784) [] := Ctx.drop [] [] C2032
                  exact thenE_n ⟨k1702, Nat.lt_succ_self _, r1743, r1776, wi64 (x1395 + 1), (CH.join (CH.join F1778 p1752) p1784), A1748, c1749, n1750, A1780, c1781, n1782, ho1910, rfl, rfl, rfl, C2033, (CH.le_trans le1374 (CH.le_trans le1730 (CH.le_trans le1747 (CH.le_trans le1779 (CH.le_trans le2016 le2025))))), hn1751, hl2018, hm2019, (Sl.mono hS2020 le2025 le2025), hn1783, hl2027, hm2028, hS2029, hX1025⟩
                · skip
                  refine W.condT (congrArg Value.bool (nb_f hc2013)) ?_
                  refine W.seq ?_
                  refine W.region rfl ?_
                  refine WL.val (Yl.assign (v := .bool false) rfl) ?_
                  refine WL.done ?_
                  refine W.ret ?_
                  refine thenE_r ?_
                  refine inB_r ?_
                  refine thenE_r ?_
                  refine thenE_r ?_
                  refine inB_r ?_
                  refine thenE_r ?_
                  refine thenE_r ?_
                  cases hX1025
                  replace H := sumE_r H
                  have C2034 : Ctx _ _ _ _ F1778 [p1919, p1784, p1752, p1735] := Ctx.drop [] [p1919, p1784, p1752, p1735] C2012
                  have C2035 : Ctx _ _ _ _ F1778 [p1784, p1752, p1735] := Ctx.drop [] [p1784, p1752, p1735] C2034
                  have C2036 : Ctx _ _ _ _ F1778 [p1752, p1735] := Ctx.drop [] [p1752, p1735] C2035
                  have C2037 : Ctx _ _ _ _ F1778 [p1735] := Ctx.drop [] [p1735] C2036
                  have C2038 : Ctx _ _ _ _ F1778 [] := Ctx.drop [] [] C2037
                  have e2039 := Option.some.inj H
                  subst e2039
                  exact post_r (resE1 rfl rfl) ⟨rfl, (Ctx.weak C2038 (CH.le_refl _))⟩
            · skip
              refine W.condF (congrArg Value.bool (decide_eq_false hc1829)) ?_
              refine W.skip ?_
              refine inB_n ?_
              refine W.region rfl ?_
              refine WL.val (Yl.move (v := .int .i64 x1395) ho1816) ?_
              refine WL.val (Yl.add (m := x1395) (n := 1) (r := wi64 (x1395 + 1)) rfl rfl rfl) ?_
              refine WL.val (Yl.assign (v := .int .i64 (wi64 (x1395 + 1))) rfl) ?_
              refine WL.done ?_
              have C2040 : Ctx _ _ _ _ F1778 [p1754, p1752, p1735, CH.row g1716 o1717 [.int .i64 r1715.Worker, .slice A1719 n1721 c1720]] := Ctx.drop [] [p1754, p1752, p1735, CH.row g1716 o1717 [.int .i64 r1715.Worker, .slice A1719 n1721 c1720]] C1821
              have C2041 : Ctx _ _ _ _ F1778 [p1752, p1735, CH.row g1716 o1717 [.int .i64 r1715.Worker, .slice A1719 n1721 c1720]] := Ctx.drop [] [p1752, p1735, CH.row g1716 o1717 [.int .i64 r1715.Worker, .slice A1719 n1721 c1720]] C2040
              have C2042 : Ctx _ _ _ _ F1778 [p1735, CH.row g1716 o1717 [.int .i64 r1715.Worker, .slice A1719 n1721 c1720]] := Ctx.drop [] [p1735, CH.row g1716 o1717 [.int .i64 r1715.Worker, .slice A1719 n1721 c1720]] C2041
              have C2043 : Ctx _ _ _ _ F1778 [CH.row g1716 o1717 [.int .i64 r1715.Worker, .slice A1719 n1721 c1720]] := Ctx.drop [] [CH.row g1716 o1717 [.int .i64 r1715.Worker, .slice A1719 n1721 c1720]] C2042
              have C2044 : Ctx _ _ _ _ F1778 [] := Ctx.drop [] [] C2043
              exact thenE_n ⟨k1702, Nat.lt_succ_self _, x1377, x1386, wi64 (x1395 + 1), F1778, A1378, c1379, n1380, A1387, c1388, n1389, ho1813, ho1814, ho1815, rfl, C2044, (CH.le_trans le1374 (CH.le_trans le1730 (CH.le_trans le1747 le1779))), hn1381, hl1382, hm1383, (Sl.mono hS1384 (CH.le_trans le1730 (CH.le_trans le1747 le1779)) (CH.le_trans le1730 (CH.le_trans le1747 le1779))), hn1390, hl1391, hm1392, (Sl.mono hS1393 (CH.le_trans le1730 (CH.le_trans le1747 le1779)) (CH.le_trans le1730 (CH.le_trans le1747 le1779))), hX1025⟩
      · skip
        refine W.condF (congrArg Value.bool (decide_eq_false hc1703)) ?_
        refine W.exit ?_
        refine thenE_x ?_
        refine thenE_x ?_
        refine inB_here ?_
        have C2045 := Ctx.lower C1396 (CH.le_refl _) le1374
        cases hX1025
        refine thenE_n ?_
        exact ⟨C2045, rfl⟩
    · skip
      rintro env_ w_ ⟨C1024, rfl⟩
      replace H := sumE_l H
      refine W.seq ?_
      refine W.region rfl ?_
      obtain ⟨r2047, hg2046, H⟩ := bindE H
      refine WL.call (args := #[]) (Yenter.fn Try.func10 (by kernel_rfl) rfl (argsE .nil)) (juratlaw19_awake.calls k _ F  (Ctx.pre (qs := []) (rest := []) C1024)  r2047 hg2046) ?_
      rintro e_ w_ ⟨rfl, C2048⟩
      refine ⟨_, rfl, ?_⟩
      have C2049 : Ctx _ _ _ _ F [] := Ctx.call (qs := []) (rest := []) C1024 C2048
      refine WL.val (Yl.assign (v := .bool r2047) rfl) ?_
      refine WL.done ?_
      refine W.ret ?_
      have e2050 := Option.some.inj H
      subst e2050
      exact post_r (resE1 rfl rfl) ⟨rfl, C2049⟩
end Go.Proofs.Ytaajcpjhcckecaa
