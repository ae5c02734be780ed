/- ReplicaNil: true, whatever the numbers. -/
import Derived.Test.YtnlpmnegjgjiiaaGreatDoorEyA
import Derived.Test.YtnlpmnegjgjiiaaGreatDoorEyC
namespace Go.CE.Nil
open Go Go.RowKit Go.Proofs Go.CE
set_option linter.all false
set_option maxRecDepth 1000000
theorem law_calls (w : World) (now : Int) (A : Option Addr) (m c : Nat) (n long : Int) (g1 : WG.CH.le (WG.CH.row 1 0 (YtnlpmnegjgjiiaaGreatDoor.glob1.map (Value.int .u32))) (WG.whole w)) (g2 : WG.CH.le (WG.CH.row 3 0 (YtnlpmnegjgjiiaaGreatDoor.glob3.map (Value.int .u32))) (WG.whole w)) :
    Calls Tryz.prog 7 #[.int .i64 now, .slice A m c, .int .i64 n, .int .i64 long] w fun e w' => e = .returned (.bool true) ∧ Below w.heap.size w w' := by
  have no : ∀ (c : Nat) (y : Int) (t : Bool), (none : Option Bool) = some t → Fact c n y t := fun c y t h => by cases h
  rcases (show (long ≤ 0 ∨ (1 ≤ long ∧ long ≤ 39)) ∨ ((40 ≤ long ∧ long ≤ 1000) ∨ 1001 ≤ long) by omega) with (hl | hl) | (hl | hl)
  · have h3 : ∀ c y t, ivF (none) (some 0) c y = some t → Fact c long y t := ivF_ok ⟨fun l h => by cases h <;> omega, fun l h => by cases h <;> omega⟩
    by_cases e1 : n = 1
    · subst e1; exact of_run (.i _ _) no h3 g1 g2 run01
    by_cases e3 : n = 3
    · subst e3; exact of_run (.i _ _) no h3 g1 g2 run03
    by_cases e5 : n = 5
    · subst e5; exact of_run (.i _ _) no h3 g1 g2 run05
    exact of_run (.x 2 rfl) (neF_ok fun y hy => by simp at hy; omega) h3 g1 g2 run0o
  · have h3 : ∀ c y t, ivF (some 1) (some 39) c y = some t → Fact c long y t := ivF_ok ⟨fun l h => by cases h <;> omega, fun l h => by cases h <;> omega⟩
    by_cases e1 : n = 1
    · subst e1; exact of_run (.i _ _) no h3 g1 g2 run11
    by_cases e3 : n = 3
    · subst e3; exact of_run (.i _ _) no h3 g1 g2 run13
    by_cases e5 : n = 5
    · subst e5; exact of_run (.i _ _) no h3 g1 g2 run15
    exact of_run (.x 2 rfl) (neF_ok fun y hy => by simp at hy; omega) h3 g1 g2 run1o
  · have h3 : ∀ c y t, ivF (some 40) (some 1000) c y = some t → Fact c long y t := ivF_ok ⟨fun l h => by cases h <;> omega, fun l h => by cases h <;> omega⟩
    by_cases e0 : n ≤ 0
    · exact of_run (.x 2 rfl) (ivF_ok ⟨fun l h => by cases h <;> omega, fun l h => by cases h <;> omega⟩) h3 g1 g2 run2l
    by_cases e6 : 6 ≤ n
    · exact of_run (.x 2 rfl) (ivF_ok ⟨fun l h => by cases h <;> omega, fun l h => by cases h <;> omega⟩) h3 g1 g2 run2h
    by_cases e1 : n = 1
    · subst e1; exact of_run (.i _ _) no h3 g1 g2 run21
    by_cases e2 : n = 2
    · subst e2; exact of_run (.i _ _) no h3 g1 g2 run22
    by_cases e3 : n = 3
    · subst e3; exact of_run (.i _ _) no h3 g1 g2 run23
    by_cases e4 : n = 4
    · subst e4; exact of_run (.i _ _) no h3 g1 g2 run24
    obtain rfl : n = 5 := by omega
    exact of_run (.i _ _) no h3 g1 g2 run25
  · have h3 : ∀ c y t, ivF (some 1001) (none) c y = some t → Fact c long y t := ivF_ok ⟨fun l h => by cases h <;> omega, fun l h => by cases h <;> omega⟩
    by_cases e1 : n = 1
    · subst e1; exact of_run (.i _ _) no h3 g1 g2 run31
    by_cases e3 : n = 3
    · subst e3; exact of_run (.i _ _) no h3 g1 g2 run33
    by_cases e5 : n = 5
    · subst e5; exact of_run (.i _ _) no h3 g1 g2 run35
    exact of_run (.x 2 rfl) (neF_ok fun y hy => by simp at hy; omega) h3 g1 g2 run3o
end Go.CE.Nil
