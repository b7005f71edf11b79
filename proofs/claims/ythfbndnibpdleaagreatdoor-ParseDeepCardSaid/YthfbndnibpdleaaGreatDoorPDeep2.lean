/-
  ParseDeep: each number of things that stand within one another, kind 2, reckoned by the ghost machine.
  No claim is proved here.
-/
import Derived.Test.YthfbndnibpdleaaGreatDoorPIs
namespace Go.Gh.P
open Go.Gh Go.Proofs
set_option maxRecDepth 100000
theorem d2_0 : deep 0 2 = true := by decide +kernel
theorem d2_1 : deep 1 2 = true := by decide +kernel
theorem d2_2 : deep 2 2 = true := by decide +kernel
theorem d2_3 : deep 3 2 = true := by decide +kernel
theorem d2_4 : deep 4 2 = true := by decide +kernel
theorem d2_5 : deep 5 2 = true := by decide +kernel
theorem d2_6 : deep 6 2 = true := by decide +kernel
theorem d2_7 : deep 7 2 = true := by decide +kernel
theorem d2_8 : deep 8 2 = true := by decide +kernel
theorem d2_9 : deep 9 2 = true := by decide +kernel
theorem d2_10 : deep 10 2 = true := by decide +kernel
theorem d2_11 : deep 11 2 = true := by decide +kernel
theorem d2_12 : deep 12 2 = true := by decide +kernel
theorem d2_13 : deep 13 2 = true := by decide +kernel
theorem d2_14 : deep 14 2 = true := by decide +kernel
theorem d2_15 : deep 15 2 = true := by decide +kernel
theorem d2_16 : deep 16 2 = true := by decide +kernel
theorem d2_17 : deep 17 2 = true := by decide +kernel
theorem d2_18 : deep 18 2 = true := by decide +kernel
theorem d2_19 : deep 19 2 = true := by decide +kernel
theorem d2_20 : deep 20 2 = true := by decide +kernel
theorem d2_21 : deep 21 2 = true := by decide +kernel
theorem d2_22 : deep 22 2 = true := by decide +kernel
theorem d2_23 : deep 23 2 = true := by decide +kernel
theorem d2_24 : deep 24 2 = true := by decide +kernel
theorem d2_25 : deep 25 2 = true := by decide +kernel
theorem d2_26 : deep 26 2 = true := by decide +kernel
theorem d2_27 : deep 27 2 = true := by decide +kernel
theorem d2_28 : deep 28 2 = true := by decide +kernel
theorem d2_29 : deep 29 2 = true := by decide +kernel
theorem d2_30 : deep 30 2 = true := by decide +kernel
theorem d2_31 : deep 31 2 = true := by decide +kernel
theorem d2_32 : deep 32 2 = true := by decide +kernel
theorem d2_33 : deep 33 2 = true := by decide +kernel
theorem d2_34 : deep 34 2 = true := by decide +kernel
theorem d2_35 : deep 35 2 = true := by decide +kernel
theorem d2_36 : deep 36 2 = true := by decide +kernel
theorem d2_37 : deep 37 2 = true := by decide +kernel
theorem d2_38 : deep 38 2 = true := by decide +kernel
theorem d2_39 : deep 39 2 = true := by decide +kernel
theorem d2_b0 : ∀ n, n < 10 → deep (0 + n) 2 = true
  | 0, _ => d2_0
  | 1, _ => d2_1
  | 2, _ => d2_2
  | 3, _ => d2_3
  | 4, _ => d2_4
  | 5, _ => d2_5
  | 6, _ => d2_6
  | 7, _ => d2_7
  | 8, _ => d2_8
  | 9, _ => d2_9
  | n + 10, h => absurd h (by omega)
theorem d2_b1 : ∀ n, n < 10 → deep (10 + n) 2 = true
  | 0, _ => d2_10
  | 1, _ => d2_11
  | 2, _ => d2_12
  | 3, _ => d2_13
  | 4, _ => d2_14
  | 5, _ => d2_15
  | 6, _ => d2_16
  | 7, _ => d2_17
  | 8, _ => d2_18
  | 9, _ => d2_19
  | n + 10, h => absurd h (by omega)
theorem d2_b2 : ∀ n, n < 10 → deep (20 + n) 2 = true
  | 0, _ => d2_20
  | 1, _ => d2_21
  | 2, _ => d2_22
  | 3, _ => d2_23
  | 4, _ => d2_24
  | 5, _ => d2_25
  | 6, _ => d2_26
  | 7, _ => d2_27
  | 8, _ => d2_28
  | 9, _ => d2_29
  | n + 10, h => absurd h (by omega)
theorem d2_b3 : ∀ n, n < 10 → deep (30 + n) 2 = true
  | 0, _ => d2_30
  | 1, _ => d2_31
  | 2, _ => d2_32
  | 3, _ => d2_33
  | 4, _ => d2_34
  | 5, _ => d2_35
  | 6, _ => d2_36
  | 7, _ => d2_37
  | 8, _ => d2_38
  | 9, _ => d2_39
  | n + 10, h => absurd h (by omega)
theorem d2_all (n : Nat) (h : n < 40) : deep n 2 = true := by
  rcases Nat.lt_or_ge n 10 with h0 | h0
  · obtain ⟨j, rfl⟩ : ∃ j, n = 0 + j := ⟨n - 0, by omega⟩
    exact d2_b0 j (by omega)
  rcases Nat.lt_or_ge n 20 with h1 | h1
  · obtain ⟨j, rfl⟩ : ∃ j, n = 10 + j := ⟨n - 10, by omega⟩
    exact d2_b1 j (by omega)
  rcases Nat.lt_or_ge n 30 with h2 | h2
  · obtain ⟨j, rfl⟩ : ∃ j, n = 20 + j := ⟨n - 20, by omega⟩
    exact d2_b2 j (by omega)
  obtain ⟨j, rfl⟩ : ∃ j, n = 30 + j := ⟨n - 30, by omega⟩
  exact d2_b3 j (by omega)
end Go.Gh.P
