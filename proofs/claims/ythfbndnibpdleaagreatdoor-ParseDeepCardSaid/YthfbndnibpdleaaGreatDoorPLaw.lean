/-
  ParseDeep: the law's call, at whatever two numbers.
  No claim is proved here.
-/
import Derived.Test.YthfbndnibpdleaaGreatDoorGhostD
import Derived.Test.YthfbndnibpdleaaGreatDoorPDeep0
import Derived.Test.YthfbndnibpdleaaGreatDoorPDeep1
import Derived.Test.YthfbndnibpdleaaGreatDoorPDeep2
import Derived.Test.YthfbndnibpdleaaGreatDoorPDeep3
import Derived.Test.YthfbndnibpdleaaGreatDoorPDeep4
import Derived.Test.YthfbndnibpdleaaGreatDoorPDeep5
namespace Go.Gh.P
open Go.Gh Go.Proofs
open Go.RowKit (Below)
set_option maxRecDepth 100000

theorem T4_red (n k : Int) (E : GEnv) (call : CallF) (N : Nat) (h : GHeap) : ∃ a b, a < 40 ∧ b < 6 ∧ T4 E call N [.int .i64 n, .int .i64 k] h = T4 E call N [i64 a, i64 b] h := by
  obtain ⟨m, hm, em⟩ := and16 n
  obtain ⟨q, hq, eq⟩ := and16 k
  have ha : m % 40 < 40 := Nat.mod_lt _ (by omega)
  have hb : q % 6 < 6 := Nat.mod_lt _ (by omega)
  refine ⟨m % 40, q % 6, ha, hb, ?_⟩
  have a1 : gBin .and (i64 (m % 40)) (.int .i64 (.ofNat 65535)) = some (i64 (m % 40)) := and16_nat (by omega)
  have b1 : gBin .and (i64 (q % 6)) (.int .i64 (.ofNat 65535)) = some (i64 (q % 6)) := and16_nat (by omega)
  have a2 : gBin .rem (i64 (m % 40)) (.int .i64 (.ofNat 40)) = some (i64 (m % 40)) := by rw [rem_nat (by omega), Nat.mod_eq_of_lt ha]
  have b2 : gBin .rem (i64 (q % 6)) (.int .i64 (.ofNat 6)) = some (i64 (q % 6)) := by rw [rem_nat (by omega), Nat.mod_eq_of_lt hb]
  have a3 : gBin .rem (i64 m) (.int .i64 (.ofNat 40)) = some (i64 (m % 40)) := rem_nat (by omega)
  have b3 : gBin .rem (i64 q) (.int .i64 (.ofNat 6)) = some (i64 (q % 6)) := rem_nat (by omega)
  have e : ∃ K : GVal → GVal → SRes, ∀ x0 x1, T4 E call N [x0, x1] h = sEnd (bnd (gBin .and x0 (.int .i64 (.ofNat 65535))) fun t16 => bnd (gBin .rem t16 (.int .i64 (.ofNat 40))) fun t17 => bnd (gBin .add t17 (.int .i64 (.ofNat 1))) fun t18 => bnd (gBin .and x1 (.int .i64 (.ofNat 65535))) fun t20 => K t18 t20) := ⟨fun t18 t20 => T4c8 t20 h t18 N call, fun _ _ => rfl⟩
  have e8 : ∃ K : GVal → GVal → SRes, ∀ x0 x1, T4 E call N [x0, x1] h = sEnd (bnd (gBin .and x0 (.int .i64 (.ofNat 65535))) fun t16 => bnd (gBin .rem t16 (.int .i64 (.ofNat 40))) fun t17 => bnd (gBin .add t17 (.int .i64 (.ofNat 1))) fun t18 => bnd (gBin .and x1 (.int .i64 (.ofNat 65535))) fun t20 => bnd (gBin .rem t20 (.int .i64 (.ofNat 6))) fun t21 => K t18 t21) := ⟨_, fun _ _ => rfl⟩
  clear e
  obtain ⟨K, e8⟩ := e8
  rw [e8, e8, em, eq, a1, b1]
  simp only [bnd_val, a2, b2, a3, b3]

theorem callP_four (args : List GVal) (h : GHeap) : callP 4 args h = T4 EE (tCall EE (tbl3 rules3) 999) 999 args h := by rfl

theorem deep_all (n k : Nat) (hn : n < 40) (hk : k < 6) : deep n k = true := by
  match k, hk with
  | 0, _ => exact d0_all n hn
  | 1, _ => exact d1_all n hn
  | 2, _ => exact d2_all n hn
  | 3, _ => exact d3_all n hn
  | 4, _ => exact d4_all n hn
  | 5, _ => exact d5_all n hn

theorem deep_any (n k : Int) : isTrue (callP 4 [.int .i64 n, .int .i64 k] .empty) = true := by
  obtain ⟨a, b, ha, hb, e⟩ := T4_red n k EE (tCall EE (tbl3 rules3) 999) 999 .empty
  rw [callP_four, e, ← callP_four]
  exact deep_all a b ha hb
end Go.Gh.P
