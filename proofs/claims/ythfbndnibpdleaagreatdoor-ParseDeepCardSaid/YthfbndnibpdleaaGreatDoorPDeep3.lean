/-
  ParseDeep: each number of things that stand within one another, kind 3, reckoned by the ghost machine.
  No claim is proved here.
-/
import Derived.Test.YthfbndnibpdleaaGreatDoorPIs
namespace Go.Gh.P
open Go.Gh Go.Proofs
set_option maxRecDepth 100000
theorem d3_0 : deep 0 3 = true := by decide +kernel
theorem d3_1 : deep 1 3 = true := by decide +kernel
theorem d3_2 : deep 2 3 = true := by decide +kernel
theorem d3_3 : deep 3 3 = true := by decide +kernel
theorem d3_4 : deep 4 3 = true := by decide +kernel
theorem d3_5 : deep 5 3 = true := by decide +kernel
theorem d3_6 : deep 6 3 = true := by decide +kernel
theorem d3_7 : deep 7 3 = true := by decide +kernel
theorem d3_8 : deep 8 3 = true := by decide +kernel
theorem d3_9 : deep 9 3 = true := by decide +kernel
theorem d3_10 : deep 10 3 = true := by decide +kernel
theorem d3_11 : deep 11 3 = true := by decide +kernel
theorem d3_12 : deep 12 3 = true := by decide +kernel
theorem d3_13 : deep 13 3 = true := by decide +kernel
theorem d3_14 : deep 14 3 = true := by decide +kernel
theorem d3_15 : deep 15 3 = true := by decide +kernel
theorem d3_16 : deep 16 3 = true := by decide +kernel
theorem d3_17 : deep 17 3 = true := by decide +kernel
theorem d3_18 : deep 18 3 = true := by decide +kernel
theorem d3_19 : deep 19 3 = true := by decide +kernel
theorem d3_20 : deep 20 3 = true := by decide +kernel
theorem d3_21 : deep 21 3 = true := by decide +kernel
theorem d3_22 : deep 22 3 = true := by decide +kernel
theorem d3_23 : deep 23 3 = true := by decide +kernel
theorem d3_24 : deep 24 3 = true := by decide +kernel
theorem d3_25 : deep 25 3 = true := by decide +kernel
theorem d3_26 : deep 26 3 = true := by decide +kernel
theorem d3_27 : deep 27 3 = true := by decide +kernel
theorem d3_28 : deep 28 3 = true := by decide +kernel
theorem d3_29 : deep 29 3 = true := by decide +kernel
theorem d3_30 : deep 30 3 = true := by decide +kernel
theorem d3_31 : deep 31 3 = true := by decide +kernel
theorem d3_32 : deep 32 3 = true := by decide +kernel
theorem d3_33 : deep 33 3 = true := by decide +kernel
theorem d3_34 : deep 34 3 = true := by decide +kernel
theorem d3_35 : deep 35 3 = true := by decide +kernel
theorem d3_36 : deep 36 3 = true := by decide +kernel
theorem d3_37 : deep 37 3 = true := by decide +kernel
theorem d3_38 : deep 38 3 = true := by decide +kernel
theorem d3_39 : deep 39 3 = true := by decide +kernel
theorem d3_b0 : ∀ n, n < 10 → deep (0 + n) 3 = true
  | 0, _ => d3_0
  | 1, _ => d3_1
  | 2, _ => d3_2
  | 3, _ => d3_3
  | 4, _ => d3_4
  | 5, _ => d3_5
  | 6, _ => d3_6
  | 7, _ => d3_7
  | 8, _ => d3_8
  | 9, _ => d3_9
  | n + 10, h => absurd h (by omega)
theorem d3_b1 : ∀ n, n < 10 → deep (10 + n) 3 = true
  | 0, _ => d3_10
  | 1, _ => d3_11
  | 2, _ => d3_12
  | 3, _ => d3_13
  | 4, _ => d3_14
  | 5, _ => d3_15
  | 6, _ => d3_16
  | 7, _ => d3_17
  | 8, _ => d3_18
  | 9, _ => d3_19
  | n + 10, h => absurd h (by omega)
theorem d3_b2 : ∀ n, n < 10 → deep (20 + n) 3 = true
  | 0, _ => d3_20
  | 1, _ => d3_21
  | 2, _ => d3_22
  | 3, _ => d3_23
  | 4, _ => d3_24
  | 5, _ => d3_25
  | 6, _ => d3_26
  | 7, _ => d3_27
  | 8, _ => d3_28
  | 9, _ => d3_29
  | n + 10, h => absurd h (by omega)
theorem d3_b3 : ∀ n, n < 10 → deep (30 + n) 3 = true
  | 0, _ => d3_30
  | 1, _ => d3_31
  | 2, _ => d3_32
  | 3, _ => d3_33
  | 4, _ => d3_34
  | 5, _ => d3_35
  | 6, _ => d3_36
  | 7, _ => d3_37
  | 8, _ => d3_38
  | 9, _ => d3_39
  | n + 10, h => absurd h (by omega)
theorem d3_all (n : Nat) (h : n < 40) : deep n 3 = true := by
  rcases Nat.lt_or_ge n 10 with h0 | h0
  · obtain ⟨j, rfl⟩ : ∃ j, n = 0 + j := ⟨n - 0, by omega⟩
    exact d3_b0 j (by omega)
  rcases Nat.lt_or_ge n 20 with h1 | h1
  · obtain ⟨j, rfl⟩ : ∃ j, n = 10 + j := ⟨n - 10, by omega⟩
    exact d3_b1 j (by omega)
  rcases Nat.lt_or_ge n 30 with h2 | h2
  · obtain ⟨j, rfl⟩ : ∃ j, n = 20 + j := ⟨n - 20, by omega⟩
    exact d3_b2 j (by omega)
  obtain ⟨j, rfl⟩ : ∃ j, n = 30 + j := ⟨n - 30, by omega⟩
  exact d3_b3 j (by omega)
end Go.Gh.P
