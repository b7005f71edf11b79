/-
  ParseDeep: each number of things that stand within one another, kind 0, reckoned by the ghost machine.
  No claim is proved here.
-/
import Derived.Test.YthfbndnibpdleaaGreatDoorPIs
namespace Go.Gh.P
open Go.Gh Go.Proofs
set_option maxRecDepth 100000
theorem d0_0 : deep 0 0 = true := by decide +kernel
theorem d0_1 : deep 1 0 = true := by decide +kernel
theorem d0_2 : deep 2 0 = true := by decide +kernel
theorem d0_3 : deep 3 0 = true := by decide +kernel
theorem d0_4 : deep 4 0 = true := by decide +kernel
theorem d0_5 : deep 5 0 = true := by decide +kernel
theorem d0_6 : deep 6 0 = true := by decide +kernel
theorem d0_7 : deep 7 0 = true := by decide +kernel
theorem d0_8 : deep 8 0 = true := by decide +kernel
theorem d0_9 : deep 9 0 = true := by decide +kernel
theorem d0_10 : deep 10 0 = true := by decide +kernel
theorem d0_11 : deep 11 0 = true := by decide +kernel
theorem d0_12 : deep 12 0 = true := by decide +kernel
theorem d0_13 : deep 13 0 = true := by decide +kernel
theorem d0_14 : deep 14 0 = true := by decide +kernel
theorem d0_15 : deep 15 0 = true := by decide +kernel
theorem d0_16 : deep 16 0 = true := by decide +kernel
theorem d0_17 : deep 17 0 = true := by decide +kernel
theorem d0_18 : deep 18 0 = true := by decide +kernel
theorem d0_19 : deep 19 0 = true := by decide +kernel
theorem d0_20 : deep 20 0 = true := by decide +kernel
theorem d0_21 : deep 21 0 = true := by decide +kernel
theorem d0_22 : deep 22 0 = true := by decide +kernel
theorem d0_23 : deep 23 0 = true := by decide +kernel
theorem d0_24 : deep 24 0 = true := by decide +kernel
theorem d0_25 : deep 25 0 = true := by decide +kernel
theorem d0_26 : deep 26 0 = true := by decide +kernel
theorem d0_27 : deep 27 0 = true := by decide +kernel
theorem d0_28 : deep 28 0 = true := by decide +kernel
theorem d0_29 : deep 29 0 = true := by decide +kernel
theorem d0_30 : deep 30 0 = true := by decide +kernel
theorem d0_31 : deep 31 0 = true := by decide +kernel
theorem d0_32 : deep 32 0 = true := by decide +kernel
theorem d0_33 : deep 33 0 = true := by decide +kernel
theorem d0_34 : deep 34 0 = true := by decide +kernel
theorem d0_35 : deep 35 0 = true := by decide +kernel
theorem d0_36 : deep 36 0 = true := by decide +kernel
theorem d0_37 : deep 37 0 = true := by decide +kernel
theorem d0_38 : deep 38 0 = true := by decide +kernel
theorem d0_39 : deep 39 0 = true := by decide +kernel
theorem d0_b0 : ∀ n, n < 10 → deep (0 + n) 0 = true
  | 0, _ => d0_0
  | 1, _ => d0_1
  | 2, _ => d0_2
  | 3, _ => d0_3
  | 4, _ => d0_4
  | 5, _ => d0_5
  | 6, _ => d0_6
  | 7, _ => d0_7
  | 8, _ => d0_8
  | 9, _ => d0_9
  | n + 10, h => absurd h (by omega)
theorem d0_b1 : ∀ n, n < 10 → deep (10 + n) 0 = true
  | 0, _ => d0_10
  | 1, _ => d0_11
  | 2, _ => d0_12
  | 3, _ => d0_13
  | 4, _ => d0_14
  | 5, _ => d0_15
  | 6, _ => d0_16
  | 7, _ => d0_17
  | 8, _ => d0_18
  | 9, _ => d0_19
  | n + 10, h => absurd h (by omega)
theorem d0_b2 : ∀ n, n < 10 → deep (20 + n) 0 = true
  | 0, _ => d0_20
  | 1, _ => d0_21
  | 2, _ => d0_22
  | 3, _ => d0_23
  | 4, _ => d0_24
  | 5, _ => d0_25
  | 6, _ => d0_26
  | 7, _ => d0_27
  | 8, _ => d0_28
  | 9, _ => d0_29
  | n + 10, h => absurd h (by omega)
theorem d0_b3 : ∀ n, n < 10 → deep (30 + n) 0 = true
  | 0, _ => d0_30
  | 1, _ => d0_31
  | 2, _ => d0_32
  | 3, _ => d0_33
  | 4, _ => d0_34
  | 5, _ => d0_35
  | 6, _ => d0_36
  | 7, _ => d0_37
  | 8, _ => d0_38
  | 9, _ => d0_39
  | n + 10, h => absurd h (by omega)
theorem d0_all (n : Nat) (h : n < 40) : deep n 0 = true := by
  rcases Nat.lt_or_ge n 10 with h0 | h0
  · obtain ⟨j, rfl⟩ : ∃ j, n = 0 + j := ⟨n - 0, by omega⟩
    exact d0_b0 j (by omega)
  rcases Nat.lt_or_ge n 20 with h1 | h1
  · obtain ⟨j, rfl⟩ : ∃ j, n = 10 + j := ⟨n - 10, by omega⟩
    exact d0_b1 j (by omega)
  rcases Nat.lt_or_ge n 30 with h2 | h2
  · obtain ⟨j, rfl⟩ : ∃ j, n = 20 + j := ⟨n - 20, by omega⟩
    exact d0_b2 j (by omega)
  obtain ⟨j, rfl⟩ : ∃ j, n = 30 + j := ⟨n - 30, by omega⟩
  exact d0_b3 j (by omega)
end Go.Gh.P
