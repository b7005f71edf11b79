/-
  ParseBlocks: numbers from 0 to 23, within one another, reckoned by the ghost machine.
  No claim is proved here.
-/
import Derived.Test.YthfbndnibpdleaaGreatDoorPIs
namespace Go.Gh.P
open Go.Gh Go.Proofs
set_option maxRecDepth 100000
theorem bf0 : blocks 0 false = true := by decide +kernel
theorem bf1 : blocks 1 false = true := by decide +kernel
theorem bf2 : blocks 2 false = true := by decide +kernel
theorem bf3 : blocks 3 false = true := by decide +kernel
theorem bf4 : blocks 4 false = true := by decide +kernel
theorem bf5 : blocks 5 false = true := by decide +kernel
theorem bf6 : blocks 6 false = true := by decide +kernel
theorem bf7 : blocks 7 false = true := by decide +kernel
theorem bf8 : blocks 8 false = true := by decide +kernel
theorem bf9 : blocks 9 false = true := by decide +kernel
theorem bf10 : blocks 10 false = true := by decide +kernel
theorem bf11 : blocks 11 false = true := by decide +kernel
theorem bf12 : blocks 12 false = true := by decide +kernel
theorem bf13 : blocks 13 false = true := by decide +kernel
theorem bf14 : blocks 14 false = true := by decide +kernel
theorem bf15 : blocks 15 false = true := by decide +kernel
theorem bf16 : blocks 16 false = true := by decide +kernel
theorem bf17 : blocks 17 false = true := by decide +kernel
theorem bf18 : blocks 18 false = true := by decide +kernel
theorem bf19 : blocks 19 false = true := by decide +kernel
theorem bf20 : blocks 20 false = true := by decide +kernel
theorem bf21 : blocks 21 false = true := by decide +kernel
theorem bf22 : blocks 22 false = true := by decide +kernel
theorem bf23 : blocks 23 false = true := by decide +kernel
theorem bf_c0 : ∀ n, n < 10 → blocks (0 + n) false = true
  | 0, _ => bf0
  | 1, _ => bf1
  | 2, _ => bf2
  | 3, _ => bf3
  | 4, _ => bf4
  | 5, _ => bf5
  | 6, _ => bf6
  | 7, _ => bf7
  | 8, _ => bf8
  | 9, _ => bf9
  | n + 10, h => absurd h (by omega)
theorem bf_c10 : ∀ n, n < 10 → blocks (10 + n) false = true
  | 0, _ => bf10
  | 1, _ => bf11
  | 2, _ => bf12
  | 3, _ => bf13
  | 4, _ => bf14
  | 5, _ => bf15
  | 6, _ => bf16
  | 7, _ => bf17
  | 8, _ => bf18
  | 9, _ => bf19
  | n + 10, h => absurd h (by omega)
theorem bf_c20 : ∀ n, n < 4 → blocks (20 + n) false = true
  | 0, _ => bf20
  | 1, _ => bf21
  | 2, _ => bf22
  | 3, _ => bf23
  | n + 4, h => absurd h (by omega)
theorem bf_r0 (n : Nat) (h1 : 0 ≤ n) (h2 : n < 24) : blocks n false = true := by
  rcases Nat.lt_or_ge n 10 with h | h
  · obtain ⟨j, rfl⟩ : ∃ j, n = 0 + j := ⟨n - 0, by omega⟩
    exact bf_c0 j (by omega)
  rcases Nat.lt_or_ge n 20 with h | h
  · obtain ⟨j, rfl⟩ : ∃ j, n = 10 + j := ⟨n - 10, by omega⟩
    exact bf_c10 j (by omega)
  obtain ⟨j, rfl⟩ : ∃ j, n = 20 + j := ⟨n - 20, by omega⟩
  exact bf_c20 j (by omega)
end Go.Gh.P
