/-
  ParseBlocks: numbers from 20 to 29, behind elses, reckoned by the ghost machine.
  No claim is proved here.
-/
import Derived.Test.YthfbndnibpdleaaGreatDoorPIs
namespace Go.Gh.P
open Go.Gh Go.Proofs
set_option maxRecDepth 100000
theorem bt20 : blocks 20 true = true := by decide +kernel
theorem bt21 : blocks 21 true = true := by decide +kernel
theorem bt22 : blocks 22 true = true := by decide +kernel
theorem bt23 : blocks 23 true = true := by decide +kernel
theorem bt24 : blocks 24 true = true := by decide +kernel
theorem bt25 : blocks 25 true = true := by decide +kernel
theorem bt26 : blocks 26 true = true := by decide +kernel
theorem bt27 : blocks 27 true = true := by decide +kernel
theorem bt28 : blocks 28 true = true := by decide +kernel
theorem bt29 : blocks 29 true = true := by decide +kernel
theorem bt_c20 : ∀ n, n < 10 → blocks (20 + n) true = true
  | 0, _ => bt20
  | 1, _ => bt21
  | 2, _ => bt22
  | 3, _ => bt23
  | 4, _ => bt24
  | 5, _ => bt25
  | 6, _ => bt26
  | 7, _ => bt27
  | 8, _ => bt28
  | 9, _ => bt29
  | n + 10, h => absurd h (by omega)
theorem bt_r20 (n : Nat) (h1 : 20 ≤ n) (h2 : n < 30) : blocks n true = true := by
  obtain ⟨j, rfl⟩ : ∃ j, n = 20 + j := ⟨n - 20, by omega⟩
  exact bt_c20 j (by omega)
end Go.Gh.P
