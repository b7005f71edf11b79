/-
  ParseBlocks: numbers from 37 to 42, behind elses, reckoned by the ghost machine.
  No claim is proved here.
-/
import Derived.Test.YthfbndnibpdleaaGreatDoorPIs
namespace Go.Gh.P
open Go.Gh Go.Proofs
set_option maxRecDepth 100000
theorem bt37 : blocks 37 true = true := by decide +kernel
theorem bt38 : blocks 38 true = true := by decide +kernel
theorem bt39 : blocks 39 true = true := by decide +kernel
theorem bt40 : blocks 40 true = true := by decide +kernel
theorem bt41 : blocks 41 true = true := by decide +kernel
theorem bt42 : blocks 42 true = true := by decide +kernel
theorem bt_c37 : ∀ n, n < 6 → blocks (37 + n) true = true
  | 0, _ => bt37
  | 1, _ => bt38
  | 2, _ => bt39
  | 3, _ => bt40
  | 4, _ => bt41
  | 5, _ => bt42
  | n + 6, h => absurd h (by omega)
theorem bt_r37 (n : Nat) (h1 : 37 ≤ n) (h2 : n < 43) : blocks n true = true := by
  obtain ⟨j, rfl⟩ : ∃ j, n = 37 + j := ⟨n - 37, by omega⟩
  exact bt_c37 j (by omega)
end Go.Gh.P
