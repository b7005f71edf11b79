/-
  ParseDeep: each number of things that stand within one another, kind 4, reckoned by the ghost machine.
  No claim is proved here.
-/
import Derived.Test.YthfbndnibpdleaaGreatDoorPIs
namespace Go.Gh.P
open Go.Gh Go.Proofs
set_option maxRecDepth 100000
theorem d4_0 : deep 0 4 = true := by decide +kernel
theorem d4_1 : deep 1 4 = true := by decide +kernel
theorem d4_2 : deep 2 4 = true := by decide +kernel
theorem d4_3 : deep 3 4 = true := by decide +kernel
theorem d4_4 : deep 4 4 = true := by decide +kernel
theorem d4_5 : deep 5 4 = true := by decide +kernel
theorem d4_6 : deep 6 4 = true := by decide +kernel
theorem d4_7 : deep 7 4 = true := by decide +kernel
theorem d4_8 : deep 8 4 = true := by decide +kernel
theorem d4_9 : deep 9 4 = true := by decide +kernel
theorem d4_10 : deep 10 4 = true := by decide +kernel
theorem d4_11 : deep 11 4 = true := by decide +kernel
theorem d4_12 : deep 12 4 = true := by decide +kernel
theorem d4_13 : deep 13 4 = true := by decide +kernel
theorem d4_14 : deep 14 4 = true := by decide +kernel
theorem d4_15 : deep 15 4 = true := by decide +kernel
theorem d4_16 : deep 16 4 = true := by decide +kernel
theorem d4_17 : deep 17 4 = true := by decide +kernel
theorem d4_18 : deep 18 4 = true := by decide +kernel
theorem d4_19 : deep 19 4 = true := by decide +kernel
theorem d4_20 : deep 20 4 = true := by decide +kernel
theorem d4_21 : deep 21 4 = true := by decide +kernel
theorem d4_22 : deep 22 4 = true := by decide +kernel
theorem d4_23 : deep 23 4 = true := by decide +kernel
theorem d4_24 : deep 24 4 = true := by decide +kernel
theorem d4_25 : deep 25 4 = true := by decide +kernel
theorem d4_26 : deep 26 4 = true := by decide +kernel
theorem d4_27 : deep 27 4 = true := by decide +kernel
theorem d4_28 : deep 28 4 = true := by decide +kernel
theorem d4_29 : deep 29 4 = true := by decide +kernel
theorem d4_30 : deep 30 4 = true := by decide +kernel
theorem d4_31 : deep 31 4 = true := by decide +kernel
theorem d4_32 : deep 32 4 = true := by decide +kernel
theorem d4_33 : deep 33 4 = true := by decide +kernel
theorem d4_34 : deep 34 4 = true := by decide +kernel
theorem d4_35 : deep 35 4 = true := by decide +kernel
theorem d4_36 : deep 36 4 = true := by decide +kernel
theorem d4_37 : deep 37 4 = true := by decide +kernel
theorem d4_38 : deep 38 4 = true := by decide +kernel
theorem d4_39 : deep 39 4 = true := by decide +kernel
theorem d4_b0 : ∀ n, n < 10 → deep (0 + n) 4 = true
  | 0, _ => d4_0
  | 1, _ => d4_1
  | 2, _ => d4_2
  | 3, _ => d4_3
  | 4, _ => d4_4
  | 5, _ => d4_5
  | 6, _ => d4_6
  | 7, _ => d4_7
  | 8, _ => d4_8
  | 9, _ => d4_9
  | n + 10, h => absurd h (by omega)
theorem d4_b1 : ∀ n, n < 10 → deep (10 + n) 4 = true
  | 0, _ => d4_10
  | 1, _ => d4_11
  | 2, _ => d4_12
  | 3, _ => d4_13
  | 4, _ => d4_14
  | 5, _ => d4_15
  | 6, _ => d4_16
  | 7, _ => d4_17
  | 8, _ => d4_18
  | 9, _ => d4_19
  | n + 10, h => absurd h (by omega)
theorem d4_b2 : ∀ n, n < 10 → deep (20 + n) 4 = true
  | 0, _ => d4_20
  | 1, _ => d4_21
  | 2, _ => d4_22
  | 3, _ => d4_23
  | 4, _ => d4_24
  | 5, _ => d4_25
  | 6, _ => d4_26
  | 7, _ => d4_27
  | 8, _ => d4_28
  | 9, _ => d4_29
  | n + 10, h => absurd h (by omega)
theorem d4_b3 : ∀ n, n < 10 → deep (30 + n) 4 = true
  | 0, _ => d4_30
  | 1, _ => d4_31
  | 2, _ => d4_32
  | 3, _ => d4_33
  | 4, _ => d4_34
  | 5, _ => d4_35
  | 6, _ => d4_36
  | 7, _ => d4_37
  | 8, _ => d4_38
  | 9, _ => d4_39
  | n + 10, h => absurd h (by omega)
theorem d4_all (n : Nat) (h : n < 40) : deep n 4 = true := by
  rcases Nat.lt_or_ge n 10 with h0 | h0
  · obtain ⟨j, rfl⟩ : ∃ j, n = 0 + j := ⟨n - 0, by omega⟩
    exact d4_b0 j (by omega)
  rcases Nat.lt_or_ge n 20 with h1 | h1
  · obtain ⟨j, rfl⟩ : ∃ j, n = 10 + j := ⟨n - 10, by omega⟩
    exact d4_b1 j (by omega)
  rcases Nat.lt_or_ge n 30 with h2 | h2
  · obtain ⟨j, rfl⟩ : ∃ j, n = 20 + j := ⟨n - 20, by omega⟩
    exact d4_b2 j (by omega)
  obtain ⟨j, rfl⟩ : ∃ j, n = 30 + j := ⟨n - 30, by omega⟩
  exact d4_b3 j (by omega)
end Go.Gh.P
