/-
  ParseBlocks: numbers from 48 to 51, behind elses, reckoned by the ghost machine.
  No claim is proved here.
-/
import Derived.Test.YthfbndnibpdleaaGreatDoorPIs
namespace Go.Gh.P
open Go.Gh Go.Proofs
set_option maxRecDepth 100000
theorem bt48 : blocks 48 true = true := by decide +kernel
theorem bt49 : blocks 49 true = true := by decide +kernel
theorem bt50 : blocks 50 true = true := by decide +kernel
theorem bt51 : blocks 51 true = true := by decide +kernel
theorem bt_c48 : ∀ n, n < 4 → blocks (48 + n) true = true
  | 0, _ => bt48
  | 1, _ => bt49
  | 2, _ => bt50
  | 3, _ => bt51
  | n + 4, h => absurd h (by omega)
theorem bt_r48 (n : Nat) (h1 : 48 ≤ n) (h2 : n < 52) : blocks n true = true := by
  obtain ⟨j, rfl⟩ : ∃ j, n = 48 + j := ⟨n - 48, by omega⟩
  exact bt_c48 j (by omega)
end Go.Gh.P
