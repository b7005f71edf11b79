/-
  ParseBlocks: numbers from 43 to 47, behind elses, reckoned by the ghost machine.
  No claim is proved here.
-/
import Derived.Test.YthfbndnibpdleaaGreatDoorPIs
namespace Go.Gh.P
open Go.Gh Go.Proofs
set_option maxRecDepth 100000
theorem bt43 : blocks 43 true = true := by decide +kernel
theorem bt44 : blocks 44 true = true := by decide +kernel
theorem bt45 : blocks 45 true = true := by decide +kernel
theorem bt46 : blocks 46 true = true := by decide +kernel
theorem bt47 : blocks 47 true = true := by decide +kernel
theorem bt_c43 : ∀ n, n < 5 → blocks (43 + n) true = true
  | 0, _ => bt43
  | 1, _ => bt44
  | 2, _ => bt45
  | 3, _ => bt46
  | 4, _ => bt47
  | n + 5, h => absurd h (by omega)
theorem bt_r43 (n : Nat) (h1 : 43 ≤ n) (h2 : n < 48) : blocks n true = true := by
  obtain ⟨j, rfl⟩ : ∃ j, n = 43 + j := ⟨n - 43, by omega⟩
  exact bt_c43 j (by omega)
end Go.Gh.P
