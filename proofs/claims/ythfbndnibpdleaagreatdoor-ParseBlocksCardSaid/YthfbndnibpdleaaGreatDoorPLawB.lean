/-
  ParseBlocks: the law's call, at whatever number, either way.
  No claim is proved here.
-/
import Derived.Test.YthfbndnibpdleaaGreatDoorGhostE
import Derived.Test.YthfbndnibpdleaaGreatDoorPBlk0
import Derived.Test.YthfbndnibpdleaaGreatDoorPBlk1
import Derived.Test.YthfbndnibpdleaaGreatDoorPBlk2
import Derived.Test.YthfbndnibpdleaaGreatDoorPBlk3
import Derived.Test.YthfbndnibpdleaaGreatDoorPBlk4
import Derived.Test.YthfbndnibpdleaaGreatDoorPBlk5
import Derived.Test.YthfbndnibpdleaaGreatDoorPBlk6
import Derived.Test.YthfbndnibpdleaaGreatDoorPBlk7
import Derived.Test.YthfbndnibpdleaaGreatDoorPBlk8
import Derived.Test.YthfbndnibpdleaaGreatDoorPBlk9
namespace Go.Gh.P
open Go.Gh Go.Proofs
set_option maxRecDepth 100000

theorem T7_red (n : Int) (c : GVal) (E : GEnv) (call : CallF) (N : Nat) (h : GHeap) : ∃ a, a < 60 ∧ T7 E call N [.int .i64 n, c] h = T7 E call N [i64 a, c] h := by
  obtain ⟨m, hm, em⟩ := and16 n
  have ha : m % 60 < 60 := Nat.mod_lt _ (by omega)
  refine ⟨m % 60, ha, ?_⟩
  have a1 : gBin .and (i64 (m % 60)) (.int .i64 (.ofNat 65535)) = some (i64 (m % 60)) := and16_nat (by omega)
  have a2 : gBin .rem (i64 (m % 60)) (.int .i64 (.ofNat 60)) = some (i64 (m % 60)) := by rw [rem_nat (by omega), Nat.mod_eq_of_lt ha]
  have a3 : gBin .rem (i64 m) (.int .i64 (.ofNat 60)) = some (i64 (m % 60)) := rem_nat (by omega)
  have e8 : ∃ K : GVal → SRes, ∀ x0, T7 E call N [x0, c] h = sEnd (bnd (gBin .and x0 (.int .i64 (.ofNat 65535))) fun t16 => bnd (gBin .rem t16 (.int .i64 (.ofNat 60))) fun t17 => K t17) := ⟨_, fun _ => rfl⟩
  obtain ⟨K, e8⟩ := e8
  rw [e8, e8, em, a1]
  simp only [bnd_val, a2, a3]

theorem callP_seven (args : List GVal) (h : GHeap) : callP 7 args h = T7 EE (tCall EE (tbl3 rules3) 999) 999 args h := by rfl

theorem blocks_all (n : Nat) (c : Bool) (hn : n < 60) : blocks n c = true := by
  cases c with
  | true =>
    rcases Nat.lt_or_ge n 20 with h20 | h20
    · exact bt_r0 n (by omega) h20
    rcases Nat.lt_or_ge n 30 with h30 | h30
    · exact bt_r20 n (by omega) h30
    rcases Nat.lt_or_ge n 37 with h37 | h37
    · exact bt_r30 n (by omega) h37
    rcases Nat.lt_or_ge n 43 with h43 | h43
    · exact bt_r37 n (by omega) h43
    rcases Nat.lt_or_ge n 48 with h48 | h48
    · exact bt_r43 n (by omega) h48
    rcases Nat.lt_or_ge n 52 with h52 | h52
    · exact bt_r48 n (by omega) h52
    rcases Nat.lt_or_ge n 56 with h56 | h56
    · exact bt_r52 n (by omega) h56
    exact bt_r56 n (by omega) hn
  | false =>
    rcases Nat.lt_or_ge n 24 with h | h
    · exact bf_r0 n (by omega) h
    · exact bf_r24 n h hn

theorem blocks_any (n : Int) (c : Bool) : isTrue (callP 7 [.int .i64 n, .bool c] .empty) = true := by
  obtain ⟨a, ha, e⟩ := T7_red n (.bool c) EE (tCall EE (tbl3 rules3) 999) 999 .empty
  rw [callP_seven, e, ← callP_seven]
  exact blocks_all a c ha
end Go.Gh.P
