/-
  ParseBlocks: numbers from 52 to 55, behind elses, reckoned by the ghost machine.
  No claim is proved here.
-/
import Derived.Test.YthfbndnibpdleaaGreatDoorPIs
namespace Go.Gh.P
open Go.Gh Go.Proofs
set_option maxRecDepth 100000
theorem bt52 : blocks 52 true = true := by decide +kernel
theorem bt53 : blocks 53 true = true := by decide +kernel
theorem bt54 : blocks 54 true = true := by decide +kernel
theorem bt55 : blocks 55 true = true := by decide +kernel
theorem bt_c52 : ∀ n, n < 4 → blocks (52 + n) true = true
  | 0, _ => bt52
  | 1, _ => bt53
  | 2, _ => bt54
  | 3, _ => bt55
  | n + 4, h => absurd h (by omega)
theorem bt_r52 (n : Nat) (h1 : 52 ≤ n) (h2 : n < 56) : blocks n true = true := by
  obtain ⟨j, rfl⟩ : ∃ j, n = 52 + j := ⟨n - 52, by omega⟩
  exact bt_c52 j (by omega)
end Go.Gh.P
