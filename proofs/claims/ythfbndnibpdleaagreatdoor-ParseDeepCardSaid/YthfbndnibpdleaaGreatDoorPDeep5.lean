/-
  ParseDeep: each number of things that stand within one another, kind 5, reckoned by the ghost machine.
  No claim is proved here.
-/
import Derived.Test.YthfbndnibpdleaaGreatDoorPIs
namespace Go.Gh.P
open Go.Gh Go.Proofs
set_option maxRecDepth 100000
theorem d5_0 : deep 0 5 = true := by decide +kernel
theorem d5_1 : deep 1 5 = true := by decide +kernel
theorem d5_2 : deep 2 5 = true := by decide +kernel
theorem d5_3 : deep 3 5 = true := by decide +kernel
theorem d5_4 : deep 4 5 = true := by decide +kernel
theorem d5_5 : deep 5 5 = true := by decide +kernel
theorem d5_6 : deep 6 5 = true := by decide +kernel
theorem d5_7 : deep 7 5 = true := by decide +kernel
theorem d5_8 : deep 8 5 = true := by decide +kernel
theorem d5_9 : deep 9 5 = true := by decide +kernel
theorem d5_10 : deep 10 5 = true := by decide +kernel
theorem d5_11 : deep 11 5 = true := by decide +kernel
theorem d5_12 : deep 12 5 = true := by decide +kernel
theorem d5_13 : deep 13 5 = true := by decide +kernel
theorem d5_14 : deep 14 5 = true := by decide +kernel
theorem d5_15 : deep 15 5 = true := by decide +kernel
theorem d5_16 : deep 16 5 = true := by decide +kernel
theorem d5_17 : deep 17 5 = true := by decide +kernel
theorem d5_18 : deep 18 5 = true := by decide +kernel
theorem d5_19 : deep 19 5 = true := by decide +kernel
theorem d5_20 : deep 20 5 = true := by decide +kernel
theorem d5_21 : deep 21 5 = true := by decide +kernel
theorem d5_22 : deep 22 5 = true := by decide +kernel
theorem d5_23 : deep 23 5 = true := by decide +kernel
theorem d5_24 : deep 24 5 = true := by decide +kernel
theorem d5_25 : deep 25 5 = true := by decide +kernel
theorem d5_26 : deep 26 5 = true := by decide +kernel
theorem d5_27 : deep 27 5 = true := by decide +kernel
theorem d5_28 : deep 28 5 = true := by decide +kernel
theorem d5_29 : deep 29 5 = true := by decide +kernel
theorem d5_30 : deep 30 5 = true := by decide +kernel
theorem d5_31 : deep 31 5 = true := by decide +kernel
theorem d5_32 : deep 32 5 = true := by decide +kernel
theorem d5_33 : deep 33 5 = true := by decide +kernel
theorem d5_34 : deep 34 5 = true := by decide +kernel
theorem d5_35 : deep 35 5 = true := by decide +kernel
theorem d5_36 : deep 36 5 = true := by decide +kernel
theorem d5_37 : deep 37 5 = true := by decide +kernel
theorem d5_38 : deep 38 5 = true := by decide +kernel
theorem d5_39 : deep 39 5 = true := by decide +kernel
theorem d5_b0 : ∀ n, n < 10 → deep (0 + n) 5 = true
  | 0, _ => d5_0
  | 1, _ => d5_1
  | 2, _ => d5_2
  | 3, _ => d5_3
  | 4, _ => d5_4
  | 5, _ => d5_5
  | 6, _ => d5_6
  | 7, _ => d5_7
  | 8, _ => d5_8
  | 9, _ => d5_9
  | n + 10, h => absurd h (by omega)
theorem d5_b1 : ∀ n, n < 10 → deep (10 + n) 5 = true
  | 0, _ => d5_10
  | 1, _ => d5_11
  | 2, _ => d5_12
  | 3, _ => d5_13
  | 4, _ => d5_14
  | 5, _ => d5_15
  | 6, _ => d5_16
  | 7, _ => d5_17
  | 8, _ => d5_18
  | 9, _ => d5_19
  | n + 10, h => absurd h (by omega)
theorem d5_b2 : ∀ n, n < 10 → deep (20 + n) 5 = true
  | 0, _ => d5_20
  | 1, _ => d5_21
  | 2, _ => d5_22
  | 3, _ => d5_23
  | 4, _ => d5_24
  | 5, _ => d5_25
  | 6, _ => d5_26
  | 7, _ => d5_27
  | 8, _ => d5_28
  | 9, _ => d5_29
  | n + 10, h => absurd h (by omega)
theorem d5_b3 : ∀ n, n < 10 → deep (30 + n) 5 = true
  | 0, _ => d5_30
  | 1, _ => d5_31
  | 2, _ => d5_32
  | 3, _ => d5_33
  | 4, _ => d5_34
  | 5, _ => d5_35
  | 6, _ => d5_36
  | 7, _ => d5_37
  | 8, _ => d5_38
  | 9, _ => d5_39
  | n + 10, h => absurd h (by omega)
theorem d5_all (n : Nat) (h : n < 40) : deep n 5 = true := by
  rcases Nat.lt_or_ge n 10 with h0 | h0
  · obtain ⟨j, rfl⟩ : ∃ j, n = 0 + j := ⟨n - 0, by omega⟩
    exact d5_b0 j (by omega)
  rcases Nat.lt_or_ge n 20 with h1 | h1
  · obtain ⟨j, rfl⟩ : ∃ j, n = 10 + j := ⟨n - 10, by omega⟩
    exact d5_b1 j (by omega)
  rcases Nat.lt_or_ge n 30 with h2 | h2
  · obtain ⟨j, rfl⟩ : ∃ j, n = 20 + j := ⟨n - 20, by omega⟩
    exact d5_b2 j (by omega)
  obtain ⟨j, rfl⟩ : ∃ j, n = 30 + j := ⟨n - 30, by omega⟩
  exact d5_b3 j (by omega)
end Go.Gh.P
