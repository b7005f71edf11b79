/-
  ParseBlocks: numbers from 56 to 59, behind elses, reckoned by the ghost machine.
  No claim is proved here.
-/
import Derived.Test.YthfbndnibpdleaaGreatDoorPIs
namespace Go.Gh.P
open Go.Gh Go.Proofs
set_option maxRecDepth 100000
theorem bt56 : blocks 56 true = true := by decide +kernel
theorem bt57 : blocks 57 true = true := by decide +kernel
theorem bt58 : blocks 58 true = true := by decide +kernel
theorem bt59 : blocks 59 true = true := by decide +kernel
theorem bt_c56 : ∀ n, n < 4 → blocks (56 + n) true = true
  | 0, _ => bt56
  | 1, _ => bt57
  | 2, _ => bt58
  | 3, _ => bt59
  | n + 4, h => absurd h (by omega)
theorem bt_r56 (n : Nat) (h1 : 56 ≤ n) (h2 : n < 60) : blocks n true = true := by
  obtain ⟨j, rfl⟩ : ∃ j, n = 56 + j := ⟨n - 56, by omega⟩
  exact bt_c56 j (by omega)
end Go.Gh.P
