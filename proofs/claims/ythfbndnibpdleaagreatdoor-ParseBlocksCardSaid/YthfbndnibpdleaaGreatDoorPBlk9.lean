/-
  ParseBlocks: numbers from 24 to 59, within one another, reckoned by the ghost machine.
  No claim is proved here.
-/
import Derived.Test.YthfbndnibpdleaaGreatDoorPIs
namespace Go.Gh.P
open Go.Gh Go.Proofs
set_option maxRecDepth 100000
theorem bf24 : blocks 24 false = true := by decide +kernel
theorem bf25 : blocks 25 false = true := by decide +kernel
theorem bf26 : blocks 26 false = true := by decide +kernel
theorem bf27 : blocks 27 false = true := by decide +kernel
theorem bf28 : blocks 28 false = true := by decide +kernel
theorem bf29 : blocks 29 false = true := by decide +kernel
theorem bf30 : blocks 30 false = true := by decide +kernel
theorem bf31 : blocks 31 false = true := by decide +kernel
theorem bf32 : blocks 32 false = true := by decide +kernel
theorem bf33 : blocks 33 false = true := by decide +kernel
theorem bf34 : blocks 34 false = true := by decide +kernel
theorem bf35 : blocks 35 false = true := by decide +kernel
theorem bf36 : blocks 36 false = true := by decide +kernel
theorem bf37 : blocks 37 false = true := by decide +kernel
theorem bf38 : blocks 38 false = true := by decide +kernel
theorem bf39 : blocks 39 false = true := by decide +kernel
theorem bf40 : blocks 40 false = true := by decide +kernel
theorem bf41 : blocks 41 false = true := by decide +kernel
theorem bf42 : blocks 42 false = true := by decide +kernel
theorem bf43 : blocks 43 false = true := by decide +kernel
theorem bf44 : blocks 44 false = true := by decide +kernel
theorem bf45 : blocks 45 false = true := by decide +kernel
theorem bf46 : blocks 46 false = true := by decide +kernel
theorem bf47 : blocks 47 false = true := by decide +kernel
theorem bf48 : blocks 48 false = true := by decide +kernel
theorem bf49 : blocks 49 false = true := by decide +kernel
theorem bf50 : blocks 50 false = true := by decide +kernel
theorem bf51 : blocks 51 false = true := by decide +kernel
theorem bf52 : blocks 52 false = true := by decide +kernel
theorem bf53 : blocks 53 false = true := by decide +kernel
theorem bf54 : blocks 54 false = true := by decide +kernel
theorem bf55 : blocks 55 false = true := by decide +kernel
theorem bf56 : blocks 56 false = true := by decide +kernel
theorem bf57 : blocks 57 false = true := by decide +kernel
theorem bf58 : blocks 58 false = true := by decide +kernel
theorem bf59 : blocks 59 false = true := by decide +kernel
theorem bf_c24 : ∀ n, n < 10 → blocks (24 + n) false = true
  | 0, _ => bf24
  | 1, _ => bf25
  | 2, _ => bf26
  | 3, _ => bf27
  | 4, _ => bf28
  | 5, _ => bf29
  | 6, _ => bf30
  | 7, _ => bf31
  | 8, _ => bf32
  | 9, _ => bf33
  | n + 10, h => absurd h (by omega)
theorem bf_c34 : ∀ n, n < 10 → blocks (34 + n) false = true
  | 0, _ => bf34
  | 1, _ => bf35
  | 2, _ => bf36
  | 3, _ => bf37
  | 4, _ => bf38
  | 5, _ => bf39
  | 6, _ => bf40
  | 7, _ => bf41
  | 8, _ => bf42
  | 9, _ => bf43
  | n + 10, h => absurd h (by omega)
theorem bf_c44 : ∀ n, n < 10 → blocks (44 + n) false = true
  | 0, _ => bf44
  | 1, _ => bf45
  | 2, _ => bf46
  | 3, _ => bf47
  | 4, _ => bf48
  | 5, _ => bf49
  | 6, _ => bf50
  | 7, _ => bf51
  | 8, _ => bf52
  | 9, _ => bf53
  | n + 10, h => absurd h (by omega)
theorem bf_c54 : ∀ n, n < 6 → blocks (54 + n) false = true
  | 0, _ => bf54
  | 1, _ => bf55
  | 2, _ => bf56
  | 3, _ => bf57
  | 4, _ => bf58
  | 5, _ => bf59
  | n + 6, h => absurd h (by omega)
theorem bf_r24 (n : Nat) (h1 : 24 ≤ n) (h2 : n < 60) : blocks n false = true := by
  rcases Nat.lt_or_ge n 34 with h | h
  · obtain ⟨j, rfl⟩ : ∃ j, n = 24 + j := ⟨n - 24, by omega⟩
    exact bf_c24 j (by omega)
  rcases Nat.lt_or_ge n 44 with h | h
  · obtain ⟨j, rfl⟩ : ∃ j, n = 34 + j := ⟨n - 34, by omega⟩
    exact bf_c34 j (by omega)
  rcases Nat.lt_or_ge n 54 with h | h
  · obtain ⟨j, rfl⟩ : ∃ j, n = 44 + j := ⟨n - 44, by omega⟩
    exact bf_c44 j (by omega)
  obtain ⟨j, rfl⟩ : ∃ j, n = 54 + j := ⟨n - 54, by omega⟩
  exact bf_c54 j (by omega)
end Go.Gh.P
