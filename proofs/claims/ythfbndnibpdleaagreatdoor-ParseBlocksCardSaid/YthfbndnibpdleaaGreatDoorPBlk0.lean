/-
  ParseBlocks: numbers from 0 to 19, behind elses, reckoned by the ghost machine.
  No claim is proved here.
-/
import Derived.Test.YthfbndnibpdleaaGreatDoorPIs
namespace Go.Gh.P
open Go.Gh Go.Proofs
set_option maxRecDepth 100000
theorem bt0 : blocks 0 true = true := by decide +kernel
theorem bt1 : blocks 1 true = true := by decide +kernel
theorem bt2 : blocks 2 true = true := by decide +kernel
theorem bt3 : blocks 3 true = true := by decide +kernel
theorem bt4 : blocks 4 true = true := by decide +kernel
theorem bt5 : blocks 5 true = true := by decide +kernel
theorem bt6 : blocks 6 true = true := by decide +kernel
theorem bt7 : blocks 7 true = true := by decide +kernel
theorem bt8 : blocks 8 true = true := by decide +kernel
theorem bt9 : blocks 9 true = true := by decide +kernel
theorem bt10 : blocks 10 true = true := by decide +kernel
theorem bt11 : blocks 11 true = true := by decide +kernel
theorem bt12 : blocks 12 true = true := by decide +kernel
theorem bt13 : blocks 13 true = true := by decide +kernel
theorem bt14 : blocks 14 true = true := by decide +kernel
theorem bt15 : blocks 15 true = true := by decide +kernel
theorem bt16 : blocks 16 true = true := by decide +kernel
theorem bt17 : blocks 17 true = true := by decide +kernel
theorem bt18 : blocks 18 true = true := by decide +kernel
theorem bt19 : blocks 19 true = true := by decide +kernel
theorem bt_c0 : ∀ n, n < 10 → blocks (0 + n) true = true
  | 0, _ => bt0
  | 1, _ => bt1
  | 2, _ => bt2
  | 3, _ => bt3
  | 4, _ => bt4
  | 5, _ => bt5
  | 6, _ => bt6
  | 7, _ => bt7
  | 8, _ => bt8
  | 9, _ => bt9
  | n + 10, h => absurd h (by omega)
theorem bt_c10 : ∀ n, n < 10 → blocks (10 + n) true = true
  | 0, _ => bt10
  | 1, _ => bt11
  | 2, _ => bt12
  | 3, _ => bt13
  | 4, _ => bt14
  | 5, _ => bt15
  | 6, _ => bt16
  | 7, _ => bt17
  | 8, _ => bt18
  | 9, _ => bt19
  | n + 10, h => absurd h (by omega)
theorem bt_r0 (n : Nat) (h1 : 0 ≤ n) (h2 : n < 20) : blocks n true = true := by
  rcases Nat.lt_or_ge n 10 with h | h
  · obtain ⟨j, rfl⟩ : ∃ j, n = 0 + j := ⟨n - 0, by omega⟩
    exact bt_c0 j (by omega)
  obtain ⟨j, rfl⟩ : ∃ j, n = 10 + j := ⟨n - 10, by omega⟩
  exact bt_c10 j (by omega)
end Go.Gh.P
