/-
  ParseDeep: each number of things that stand within one another, kind 1, reckoned by the ghost machine.
  No claim is proved here.
-/
import Derived.Test.YthfbndnibpdleaaGreatDoorPIs
namespace Go.Gh.P
open Go.Gh Go.Proofs
set_option maxRecDepth 100000
theorem d1_0 : deep 0 1 = true := by decide +kernel
theorem d1_1 : deep 1 1 = true := by decide +kernel
theorem d1_2 : deep 2 1 = true := by decide +kernel
theorem d1_3 : deep 3 1 = true := by decide +kernel
theorem d1_4 : deep 4 1 = true := by decide +kernel
theorem d1_5 : deep 5 1 = true := by decide +kernel
theorem d1_6 : deep 6 1 = true := by decide +kernel
theorem d1_7 : deep 7 1 = true := by decide +kernel
theorem d1_8 : deep 8 1 = true := by decide +kernel
theorem d1_9 : deep 9 1 = true := by decide +kernel
theorem d1_10 : deep 10 1 = true := by decide +kernel
theorem d1_11 : deep 11 1 = true := by decide +kernel
theorem d1_12 : deep 12 1 = true := by decide +kernel
theorem d1_13 : deep 13 1 = true := by decide +kernel
theorem d1_14 : deep 14 1 = true := by decide +kernel
theorem d1_15 : deep 15 1 = true := by decide +kernel
theorem d1_16 : deep 16 1 = true := by decide +kernel
theorem d1_17 : deep 17 1 = true := by decide +kernel
theorem d1_18 : deep 18 1 = true := by decide +kernel
theorem d1_19 : deep 19 1 = true := by decide +kernel
theorem d1_20 : deep 20 1 = true := by decide +kernel
theorem d1_21 : deep 21 1 = true := by decide +kernel
theorem d1_22 : deep 22 1 = true := by decide +kernel
theorem d1_23 : deep 23 1 = true := by decide +kernel
theorem d1_24 : deep 24 1 = true := by decide +kernel
theorem d1_25 : deep 25 1 = true := by decide +kernel
theorem d1_26 : deep 26 1 = true := by decide +kernel
theorem d1_27 : deep 27 1 = true := by decide +kernel
theorem d1_28 : deep 28 1 = true := by decide +kernel
theorem d1_29 : deep 29 1 = true := by decide +kernel
theorem d1_30 : deep 30 1 = true := by decide +kernel
theorem d1_31 : deep 31 1 = true := by decide +kernel
theorem d1_32 : deep 32 1 = true := by decide +kernel
theorem d1_33 : deep 33 1 = true := by decide +kernel
theorem d1_34 : deep 34 1 = true := by decide +kernel
theorem d1_35 : deep 35 1 = true := by decide +kernel
theorem d1_36 : deep 36 1 = true := by decide +kernel
theorem d1_37 : deep 37 1 = true := by decide +kernel
theorem d1_38 : deep 38 1 = true := by decide +kernel
theorem d1_39 : deep 39 1 = true := by decide +kernel
theorem d1_b0 : ∀ n, n < 10 → deep (0 + n) 1 = true
  | 0, _ => d1_0
  | 1, _ => d1_1
  | 2, _ => d1_2
  | 3, _ => d1_3
  | 4, _ => d1_4
  | 5, _ => d1_5
  | 6, _ => d1_6
  | 7, _ => d1_7
  | 8, _ => d1_8
  | 9, _ => d1_9
  | n + 10, h => absurd h (by omega)
theorem d1_b1 : ∀ n, n < 10 → deep (10 + n) 1 = true
  | 0, _ => d1_10
  | 1, _ => d1_11
  | 2, _ => d1_12
  | 3, _ => d1_13
  | 4, _ => d1_14
  | 5, _ => d1_15
  | 6, _ => d1_16
  | 7, _ => d1_17
  | 8, _ => d1_18
  | 9, _ => d1_19
  | n + 10, h => absurd h (by omega)
theorem d1_b2 : ∀ n, n < 10 → deep (20 + n) 1 = true
  | 0, _ => d1_20
  | 1, _ => d1_21
  | 2, _ => d1_22
  | 3, _ => d1_23
  | 4, _ => d1_24
  | 5, _ => d1_25
  | 6, _ => d1_26
  | 7, _ => d1_27
  | 8, _ => d1_28
  | 9, _ => d1_29
  | n + 10, h => absurd h (by omega)
theorem d1_b3 : ∀ n, n < 10 → deep (30 + n) 1 = true
  | 0, _ => d1_30
  | 1, _ => d1_31
  | 2, _ => d1_32
  | 3, _ => d1_33
  | 4, _ => d1_34
  | 5, _ => d1_35
  | 6, _ => d1_36
  | 7, _ => d1_37
  | 8, _ => d1_38
  | 9, _ => d1_39
  | n + 10, h => absurd h (by omega)
theorem d1_all (n : Nat) (h : n < 40) : deep n 1 = true := by
  rcases Nat.lt_or_ge n 10 with h0 | h0
  · obtain ⟨j, rfl⟩ : ∃ j, n = 0 + j := ⟨n - 0, by omega⟩
    exact d1_b0 j (by omega)
  rcases Nat.lt_or_ge n 20 with h1 | h1
  · obtain ⟨j, rfl⟩ : ∃ j, n = 10 + j := ⟨n - 10, by omega⟩
    exact d1_b1 j (by omega)
  rcases Nat.lt_or_ge n 30 with h2 | h2
  · obtain ⟨j, rfl⟩ : ∃ j, n = 20 + j := ⟨n - 20, by omega⟩
    exact d1_b2 j (by omega)
  obtain ⟨j, rfl⟩ : ∃ j, n = 30 + j := ⟨n - 30, by omega⟩
  exact d1_b3 j (by omega)
end Go.Gh.P
