/-
  ParseBlocks: numbers from 30 to 36, behind elses, reckoned by the ghost machine.
  No claim is proved here.
-/
import Derived.Test.YthfbndnibpdleaaGreatDoorPIs
namespace Go.Gh.P
open Go.Gh Go.Proofs
set_option maxRecDepth 100000
theorem bt30 : blocks 30 true = true := by decide +kernel
theorem bt31 : blocks 31 true = true := by decide +kernel
theorem bt32 : blocks 32 true = true := by decide +kernel
theorem bt33 : blocks 33 true = true := by decide +kernel
theorem bt34 : blocks 34 true = true := by decide +kernel
theorem bt35 : blocks 35 true = true := by decide +kernel
theorem bt36 : blocks 36 true = true := by decide +kernel
theorem bt_c30 : ∀ n, n < 7 → blocks (30 + n) true = true
  | 0, _ => bt30
  | 1, _ => bt31
  | 2, _ => bt32
  | 3, _ => bt33
  | 4, _ => bt34
  | 5, _ => bt35
  | 6, _ => bt36
  | n + 7, h => absurd h (by omega)
theorem bt_r30 (n : Nat) (h1 : 30 ≤ n) (h2 : n < 37) : blocks n true = true := by
  obtain ⟨j, rfl⟩ : ∃ j, n = 30 + j := ⟨n - 30, by omega⟩
  exact bt_c30 j (by omega)
end Go.Gh.P
