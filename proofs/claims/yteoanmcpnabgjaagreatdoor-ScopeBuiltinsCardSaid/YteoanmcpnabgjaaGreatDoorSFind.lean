/-
  scope's (*checker).find: a range over slices.Backward.
-/
import Derived.RangeFuncNested
import Derived.RangeFuncBound
import Derived.RangeFuncCalls
import Derived.RangeFuncLeaves
import Derived.Shelf.Abstract
import Derived.Shelf.RegionOpen
import Derived.WalkKit
import Derived.OwnWalkIn
import Derived.TacticsInMore
import Derived.LoopNIn
import Derived.LoopIn
import Derived.Test.YteoanmcpnabgjaaGreatDoorChecked
namespace Go.Proofs
open Go.RowKit Go.Shelf
attribute [local go_sem] Oper.semAt_some

def Tryz.upto {α : Type} (f : Nat → α) (k : Nat) : List α := (List.range k).map f
theorem Tryz.upto_succ {α : Type} (f : Nat → α) (k : Nat) : Tryz.upto f (k + 1) = Tryz.upto f k ++ [f k] := by simp [Tryz.upto, List.range_succ]
theorem Tryz.upto_length {α : Type} (f : Nat → α) (k : Nat) : (Tryz.upto f k).length = k := by simp [Tryz.upto]

/-- What the k-th round hands out. -/
def Tryz.kn (zs : List (ByteArray × Int)) (len k : Nat) : Nat × ByteArray × Int := (len - 1 - k, zs[len - 1 - k]?.getD default)

set_option maxRecDepth 100000 in
set_option maxHeartbeats 2000000 in
theorem Tryz.back1_in (F : Fence) (n : Nat) (h50 : F.fn 50) (hro : F.round = none) (hn : 1 ≤ n) (l Bs n₀ b off len cap : Nat) (zs : List (ByteArray × Int)) (hreach : len * 24 ≤ 140737488351232) (hb : b < n₀) (J Jx : List (Nat × ByteArray × Int) → World → Prop)
    (hY : ∀ pre x W, J pre W → pre.length < len → YieldAt F (n - 1) Tryz.prog l #[.int .i64 (x.1 : Int), .agg #[.string x.2.1, .int .i64 x.2.2]] W fun e W' =>
      (e = .returned (.bool true) ∧ J (pre ++ [x]) W' ∧ Below n₀ W W') ∨ (e = .returned (.bool false) ∧ Jx (pre ++ [x]) W'))
    (W : World) (hBs : W.cell? ⟨Bs, 0, none⟩ = some (.slice (some ⟨b, off, none⟩) len cap)) (hBn : Bs < n₀)
    (hc : ∀ j, j < len → W.cell? ⟨b, off + j * 2, none⟩ = some (.string (zs[j]?.getD default).1) ∧ W.cell? ⟨b, off + j * 2 + 1, none⟩ = some (.int .i64 (zs[j]?.getD default).2)) (h0 : J [] W) :
    CallsIn F n Tryz.prog 50 #[.func (.yield l) #[] #[], .pointer (some ⟨Bs, 0, none⟩)] W fun e W' => (∃ v, e = .returned v) ∧
      ((∃ ys, ys = Tryz.upto (Tryz.kn zs len) len ∧ J ys W') ∨ (∃ pre, (∃ k, k ≤ len ∧ pre = Tryz.upto (Tryz.kn zs len) k) ∧ Jx pre W')) := by
  refine callsIn_of_wp Tryz.func50 rfl h50 ?_ hro
  simp only [Tryz.ntmps50, List.size_toArray, List.length_cons, List.length_nil, Nat.reduceAdd, Nat.reduceSub, Array.replicate_succ, Array.replicate_zero, List.push_toArray, List.append_toArray, List.nil_append, List.cons_append]
  gi_wp2
  gi_loopw [3] (fun i wr => ∃ k : Nat, k ≤ len ∧ i = .int .i64 ((len : Int) - 1 - k) ∧ J (Tryz.upto (Tryz.kn zs len) k) wr ∧ Below n₀ W wr)
    (fun i _ => (intOf i + 1).toNat)
  case atStart => exact ⟨0, Nat.zero_le _, by simp, h0, Below.refl _ _⟩
  case round =>
    obtain ⟨k, hk, rfl, hJs, hnx⟩ := hrel
    have hBs' : wr.cell? ⟨Bs, 0, none⟩ = some (.slice (some ⟨b, off, none⟩) len cap) := (hnx.cell (p := ⟨Bs, 0, none⟩) hBn).trans hBs
    have hcx : ∀ j, j < len → wr.cell? ⟨b, off + j * 2, none⟩ = some (.string (zs[j]?.getD default).1) ∧ wr.cell? ⟨b, off + j * 2 + 1, none⟩ = some (.int .i64 (zs[j]?.getD default).2) := fun j h =>
      ⟨(hnx.cell (p := ⟨b, off + j * 2, none⟩) hb).trans (hc j h).1, (hnx.cell (p := ⟨b, off + j * 2 + 1, none⟩) hb).trans (hc j h).2⟩
    by_cases hlt : k < len
    · obtain ⟨fn, tmps, assign, body, hy, hR⟩ := hY _ (Tryz.kn zs len k) wr hJs (by rw [Tryz.upto_length]; exact hlt)
      have e : ((len - 1 - k : Nat) : Int) = (len : Int) - 1 - k := by omega
      simp only [Tryz.kn, e] at hy
      have hcx1 := (hcx (len - 1 - k) (by omega)).1
      have hcx2 := (hcx (len - 1 - k) (by omega)).2
      gi_wp2
      refine hR.mono ?_
      rintro e W3 (⟨rfl, hJ3, hk3⟩ | ⟨rfl, hJx3⟩)
      · gi_wp2
        go_roundw
        case rel => exact ⟨k + 1, by omega, by simp; omega, by rw [Tryz.upto_succ]; exact hJ3, hnx.trans hk3⟩
        case measure => simp [intOf]; omega
      · gi_wp2
        refine bodyPost_ret (results_none rfl _ _ _) rfl ?_
        exact ⟨⟨_, rfl⟩, .inr ⟨_, ⟨k + 1, by omega, (Tryz.upto_succ _ _).symm⟩, hJx3⟩⟩
    · obtain rfl : k = len := by omega
      gi_wp2
      go_end0
      exact ⟨⟨_, rfl⟩, .inl ⟨_, rfl, hJs⟩⟩

set_option maxRecDepth 100000 in
set_option maxHeartbeats 1000000 in
/-- .. at the nil slice: no round. -/
theorem Tryz.back1_nil_in (F : Fence) (n : Nat) (h50 : F.fn 50) (hro : F.round = none) (l Bs : Nat) (J : List (Nat × ByteArray × Int) → World → Prop) (W : World) (hBs : W.cell? ⟨Bs, 0, none⟩ = some (.slice none 0 0)) (h0 : J [] W) :
    CallsIn F n Tryz.prog 50 #[.func (.yield l) #[] #[], .pointer (some ⟨Bs, 0, none⟩)] W fun e W' => (∃ v, e = .returned v) ∧ J [] W' := by
  refine callsIn_of_wp Tryz.func50 rfl h50 ?_ hro
  simp only [Tryz.ntmps50, List.size_toArray, List.length_cons, List.length_nil, Nat.reduceAdd, Nat.reduceSub, Array.replicate_succ, Array.replicate_zero, List.push_toArray, List.append_toArray, List.nil_append, List.cons_append]
  gi_wp2
  gi_loopw [3] (fun i wr => i = .int .i64 (-1) ∧ J [] wr) (fun _ _ => 0)
  case atStart => exact ⟨rfl, h0⟩
  case round =>
    obtain ⟨rfl, hJs⟩ := hrel
    gi_wp2
    go_end0
    exact ⟨⟨_, rfl⟩, hJs⟩

set_option maxHeartbeats 1000000 in
theorem Tryz.back_in (F : Fence) (n : Nat) (h31 : F.fn 31) (hro : F.round = none) (a : Option Addr) (len cap : Nat) (w : World) :
    CallsIn F n Tryz.prog 31 #[.slice a len cap] w fun e w' => e = .returned (.func (.func 50) #[] #[.pointer (some ⟨w.heap.size, 0, none⟩)]) ∧ w' = w.alloc (.cells #[.slice a len cap] 55) := by
  refine callsIn_of_wp Tryz.func31 rfl h31 ?_ hro
  simp only [Tryz.ntmps31, List.size_toArray, List.length_cons, List.length_nil, Nat.reduceAdd, Nat.reduceSub, Array.replicate_succ, Array.replicate_zero, List.push_toArray, List.append_toArray, List.nil_append, List.cons_append]
  gi_wp2
  go_ret
  exact ⟨rfl, rfl⟩

/-- The slice value sv holds the names zs, in a block below n₀; or it is nil and there are none. -/
def Tryz.Known (n₀ : Nat) (W : World) (sv : Value) (zs : List (ByteArray × Int)) : Prop :=
  (sv = .slice none 0 0 ∧ zs = []) ∨ ∃ b off cap, sv = .slice (some ⟨b, off, none⟩) zs.length cap ∧ b < n₀ ∧ ∀ j, j < zs.length → W.cell? ⟨b, off + j * 2, none⟩ = some (.string (zs[j]?.getD default).1) ∧ W.cell? ⟨b, off + j * 2 + 1, none⟩ = some (.int .i64 (zs[j]?.getD default).2)
theorem Tryz.Known.below {n₀ : Nat} {A B : World} (h : Below n₀ A B) {sv : Value} {zs : List (ByteArray × Int)} : Tryz.Known n₀ A sv zs → Tryz.Known n₀ B sv zs
  | .inl e => .inl e
  | .inr ⟨b, off, cap, e, hb, hc⟩ => .inr ⟨b, off, cap, e, hb, fun j hj => ⟨(h.cell (p := ⟨b, off + j * 2, none⟩) hb).trans (hc j hj).1, (h.cell (p := ⟨b, off + j * 2 + 1, none⟩) hb).trans (hc j hj).2⟩⟩

theorem Tryz.back_stops (F : Fence) (n : Nat) (h50 : F.fn 50) (hro : F.round = none) (hn : 1 ≤ n) (Bs n₀ : Nat) (sv : Value) (zs : List (ByteArray × Int)) (hreach : zs.length * 24 ≤ 140737488351232) (w : World) (hBs : Bs < n₀) (hn₀ : n₀ ≤ w.heap.size)
    (hc : w.cell? ⟨Bs, 0, none⟩ = some sv) (hI : Tryz.Known n₀ w sv zs) :
    SeqStopsK F n Tryz.prog 50 #[.pointer (some ⟨Bs, 0, none⟩)] (fun x : Nat × ByteArray × Int => #[Value.int .i64 (x.1 : Int), .agg #[.string x.2.1, .int .i64 x.2.2]]) (Below n₀) (fun ys => ys = Tryz.upto (Tryz.kn zs zs.length) zs.length) (fun pre => ∃ k, k ≤ zs.length ∧ pre = Tryz.upto (Tryz.kn zs zs.length) k) zs.length w := fun l J Jx W hW _ _ hY h0 => by
  have hc' := (hW.cell (p := ⟨Bs, 0, none⟩) (Nat.lt_of_lt_of_le hBs hn₀)).trans hc
  rcases hI.below (hW.mono hn₀) with ⟨rfl, rfl⟩ | ⟨b, off, cap, rfl, hb, hcs⟩
  · exact (Tryz.back1_nil_in F n h50 hro l Bs J W hc' h0).mono fun e W' ⟨he, hj⟩ => ⟨he, .inl ⟨_, rfl, hj⟩⟩
  · refine (Tryz.back1_in F n h50 hro hn l Bs n₀ b off zs.length cap zs hreach hb J Jx hY W hc' hBs hcs h0).mono ?_
    rintro e W' ⟨he, ⟨ys, rfl, hj⟩ | ⟨pre, ⟨k, hk, rfl⟩, hj⟩⟩
    · exact ⟨he, .inl ⟨_, rfl, hj⟩⟩
    · exact ⟨he, .inr ⟨_, ⟨k, hk, rfl⟩, hj⟩⟩

theorem Tryz.Known.more {m n : Nat} {W : World} {sv : Value} {zs : List (ByteArray × Int)} (hmn : m ≤ n) : Tryz.Known m W sv zs → Tryz.Known n W sv zs
  | .inl e => .inl e
  | .inr ⟨b, off, cap, e, hb, hc⟩ => .inr ⟨b, off, cap, e, by omega, hc⟩

/-- What find answers. -/
def Tryz.Found (zs : List (ByteArray × Int)) (name : ByteArray) (v : Value) : Prop :=
  (v = .tuple #[.int .i64 0, .bool false] ∧ ∀ x ∈ Tryz.upto (Tryz.kn zs zs.length) zs.length, (x.2.1.toList == name.toList) = false) ∨
  ∃ k pre' x, k ≤ zs.length ∧ Tryz.upto (Tryz.kn zs zs.length) k = pre' ++ [x] ∧ (x.2.1.toList == name.toList) = true ∧ (∀ y ∈ pre', (y.2.1.toList == name.toList) = false) ∧ v = .tuple #[.int .i64 x.2.2, .bool true]

set_option maxRecDepth 100000 in
set_option maxHeartbeats 2000000 in
theorem Tryz.find_in (F : Fence) (n : Nat) (h22 : F.fn 22) (h31 : F.fn 31) (h50 : F.fn 50) (hro : F.round = none) (hn : 3 ≤ n) (cb co : Nat) (a : Option Addr) (len cap : Nat) (zs : List (ByteArray × Int)) (name : ByteArray) (w : World)
    (hcb : w.cell? ⟨cb, co + 2, none⟩ = some (.slice a len cap)) (hK : Tryz.Known w.heap.size w (.slice a len cap) zs) (hreach : zs.length * 24 ≤ 140737488351232) :
    CallsIn F n Tryz.prog 22 #[.pointer (some ⟨cb, co, none⟩), .string name] w fun e W' => (∃ v, e = .returned v ∧ Tryz.Found zs name v) ∧ Below w.heap.size w W' := by
  have h1 : 1 ≤ n := by omega
  refine callsIn_of_wp_marks Tryz.func22 rfl h22 ?_ hro
  simp only [Tryz.ntmps22, List.size_toArray, List.length_cons, List.length_nil, Nat.reduceAdd, Nat.reduceSub, Array.replicate_succ, Array.replicate_zero, List.push_toArray, List.append_toArray, List.nil_append, List.cons_append]
  have hcl : cb < w.heap.size := by
    rcases Nat.lt_or_ge cb w.heap.size with h | h
    · exact h
    · simp [World.cell?, Array.getElem?_eq_none h] at hcb
  have hB3 : Below w.heap.size w (((w.alloc (.cells #[.string name] 9)).alloc (.cells #[.int .i64 0] 3)).alloc (.cells #[.bool false] 4)) := (((Below.refl _ w).alloc (Nat.le_refl _) _).alloc (by simp) _).alloc (by simp; omega) _
  have hcb' := (hB3.cell (p := ⟨cb, co + 2, none⟩) hcl).trans hcb
  gi_wp2_with (gi_at_call 31; refine (Tryz.back_in F (n - 1) h31 hro _ _ _ _).mono ?_; rintro e w' ⟨rfl, rfl⟩)
  have hB0 := hB3.alloc (by simp; omega) (.cells #[.slice a len cap] 55)
  have b3 : Boxed ((((w.alloc (.cells #[.string name] 9)).alloc (.cells #[.int .i64 0] 3)).alloc (.cells #[.bool false] 4)).alloc (.cells #[.slice a len cap] 55)) w.heap.size 9 (.string name) := (((Boxed.new w 9 _).alloc _).alloc _).alloc _
  have b4 : Boxed ((((w.alloc (.cells #[.string name] 9)).alloc (.cells #[.int .i64 0] 3)).alloc (.cells #[.bool false] 4)).alloc (.cells #[.slice a len cap] 55)) (w.heap.size + 1) 3 (.int .i64 0) := by
    have := ((Boxed.new (w.alloc (.cells #[.string name] 9)) 3 (.int .i64 0)).alloc (.cells #[.bool false] 4)).alloc (.cells #[.slice a len cap] 55)
    rwa [World.size_alloc] at this
  have b5 : Boxed ((((w.alloc (.cells #[.string name] 9)).alloc (.cells #[.int .i64 0] 3)).alloc (.cells #[.bool false] 4)).alloc (.cells #[.slice a len cap] 55)) (w.heap.size + 1 + 1) 4 (.bool false) := by
    have := (Boxed.new ((w.alloc (.cells #[.string name] 9)).alloc (.cells #[.int .i64 0] 3)) 4 (.bool false)).alloc (.cells #[.slice a len cap] 55)
    rwa [World.size_alloc, World.size_alloc] at this
  have b6 : Boxed ((((w.alloc (.cells #[.string name] 9)).alloc (.cells #[.int .i64 0] 3)).alloc (.cells #[.bool false] 4)).alloc (.cells #[.slice a len cap] 55)) (w.heap.size + 1 + 1 + 1) 55 (.slice a len cap) := by
    have := Boxed.new (((w.alloc (.cells #[.string name] 9)).alloc (.cells #[.int .i64 0] 3)).alloc (.cells #[.bool false] 4)) 55 (.slice a len cap)
    rwa [World.size_alloc, World.size_alloc, World.size_alloc] at this
  have hsz : ((((w.alloc (.cells #[.string name] 9)).alloc (.cells #[.int .i64 0] 3)).alloc (.cells #[.bool false] 4)).alloc (.cells #[.slice a len cap] 55)).heap.size = w.heap.size + 4 := by simp
  obtain ⟨W0, hW0⟩ : ∃ W0, ((((w.alloc (.cells #[.string name] 9)).alloc (.cells #[.int .i64 0] 3)).alloc (.cells #[.bool false] 4)).alloc (.cells #[.slice a len cap] 55)) = W0 := ⟨_, rfl⟩
  rw [hW0] at b3 b4 b5 b6 hB0 hsz ⊢
  clear hW0
  refine wpIn_rangeFunc_ownH hro h1 (gf := 50) (lb := #[.pointer (some ⟨w.heap.size + 1 + 1 + 1, 0, none⟩)]) rfl h50 (enters_of Tryz.func50 (by kernel_rfl) rfl)
    (Tryz.back_stops F (n - 1) h50 hro (by omega) (w.heap.size + 1 + 1 + 1) (w.heap.size + 4) (.slice a len cap) zs hreach W0 (by omega) (by omega) b6.cell ((hK.below hB0).more (by omega))) belowK_t (belowK_b (by omega)) (Below.refl _ _) (fun _ => rfl)
    (fun pre W => ((Boxed W w.heap.size 9 (.string name) ∧ Boxed W (w.heap.size + 1) 3 (.int .i64 0) ∧ Boxed W (w.heap.size + 1 + 1) 4 (.bool false) ∧ Boxed W (w.heap.size + 1 + 1 + 1) 55 (.slice a len cap)) ∧ (∀ x ∈ pre, (x.2.1.toList == name.toList) = false)) ∧ Below w.heap.size w W)
    (fun c pre W => (c = .ret ∧ ∃ pre' x, pre = pre' ++ [x] ∧ (x.2.1.toList == name.toList) = true ∧ (∀ y ∈ pre', (y.2.1.toList == name.toList) = false) ∧ W.cell? ⟨w.heap.size + 1, 0, none⟩ = some (.int .i64 x.2.2) ∧ W.cell? ⟨w.heap.size + 1 + 1, 0, none⟩ = some (.bool true)) ∧ Below w.heap.size w W)
    (OwnFrom.and (Own.from (fun s A B row hs hg hr => ⟨⟨boxed_own _ _ (fun (_ : Unit) => Value.string name) () A B row hs.1.1 hg hr, boxed_own _ _ (fun (_ : Unit) => Value.int .i64 0) () A B row hs.1.2.1 hg hr, boxed_own _ _ (fun (_ : Unit) => Value.bool false) () A B row hs.1.2.2.1 hg hr, boxed_own _ _ (fun (_ : Unit) => Value.slice a len cap) () A B row hs.1.2.2.2 hg hr⟩, hs.2⟩) _) (ownFrom_below (Nat.le_refl _) (by omega)))
    (fun c => OwnFrom.and (Own.from (fun s A B row hs hg hr => by obtain ⟨h1, p, x, h2, h3, h4, h5, h6⟩ := hs; exact ⟨h1, p, x, h2, h3, h4, cell_kept h5 hg hr, cell_kept h6 hg hr⟩) _) (ownFrom_below (Nat.le_refl _) (by omega)))
    ⟨⟨⟨b3, b4, b5, b6⟩, fun x hx => (nomatch hx)⟩, hB0⟩
    (fun x a' W => ∃ Bx, w.heap.size + 3 < Bx ∧ W.cell? ⟨Bx, 0, none⟩ = some (.string x.2.1) ∧ W.cell? ⟨Bx, 1, none⟩ = some (.int .i64 x.2.2) ∧ a' = { tmps := #[.pointer (some ⟨cb, co, none⟩), .string name, undef, .pointer (some ⟨w.heap.size, 0, none⟩), .pointer (some ⟨w.heap.size + 1, 0, none⟩), .pointer (some ⟨w.heap.size + 1 + 1, 0, none⟩), undef, .pointer (some ⟨Bx, 0, none⟩), .pointer (some ⟨cb, co, none⟩), .pointer (some ⟨cb, co, none⟩), .pointer (some ⟨cb, co + 2, none⟩), .slice a len cap, .func (.func 50) #[] #[.pointer (some ⟨w.heap.size + 1 + 1 + 1, 0, none⟩)], .int .i64 (x.1 : Int), .agg #[.string x.2.1, .int .i64 x.2.2], undef, undef, undef, undef, undef, undef], defers := [] })
    (fun x a' _ X Y row hs hg hr => by obtain ⟨Bx, h1, h2, h3, h4⟩ := hs; exact ⟨Bx, h1, cell_kept h2 hg (fun r e => (hr r e).2), cell_kept h3 hg (fun r e => (hr r e).2), h4⟩) ?assign ?body ?done ?stop
  case assign =>
    rintro l pre x W K ⟨⟨⟨c3, c4, c5, c6⟩, hp⟩, hB1⟩ hK
    have h6 := c6.lt
    gi_wp2
    exact hK _ _ ((KeepsOthers.alloc _ _).from _) ((Below.refl _ W).alloc (by omega) _) ⟨⟨⟨c3.alloc _, c4.alloc _, c5.alloc _, c6.alloc _⟩, hp⟩, hB1.alloc hB1.size _⟩ ⟨W.heap.size, by omega, by simp only [World.cell?, World.alloc_heap_new]; rfl, by simp only [World.cell?, World.alloc_heap_new]; rfl, rfl⟩
  case body =>
    rintro l pre x a' W hl ⟨r, hr⟩ ⟨⟨⟨c3, c4, c5, c6⟩, hp⟩, hB1⟩ ⟨Bx, hBx, bX1, bX2, rfl⟩ hlt
    have d3 := c3.cell
    have d4 := c4.cell
    have d5 := c5.cell
    have f4 := c4.frozen
    have f5 := c5.frozen
    have d5' : (W.setCell ⟨w.heap.size + 1, 0, none⟩ (.int .i64 x.2.2)).cell? ⟨w.heap.size + 1 + 1, 0, none⟩ = some (.bool false) := (World.cell?_setCell_other _ _ _ _ (by simp)).trans d5
    have f5' : (W.setCell ⟨w.heap.size + 1, 0, none⟩ (.int .i64 x.2.2)).frozen? ⟨w.heap.size + 1 + 1, 0, none⟩ = false := by rw [World.frozen?_setCell]; exact f5
    gi_wp2
    · rename_i hx
      refine ⟨((KeepsOthers.setCell _ _ _).trans (KeepsOthers.setCell _ _ _)).from _, ⟨rfl, pre, x, rfl, hx, hp, ?_, ?_⟩, (hB1.setCell (p := ⟨w.heap.size + 1, 0, none⟩) (by simp) _).setCell (p := ⟨w.heap.size + 1 + 1, 0, none⟩) (by simp; omega) _⟩
      · exact (World.cell?_setCell_other _ _ _ _ (by simp)).trans (World.cell?_setCell_same' _ _ _ (by rw [d4]; rfl))
      · exact World.cell?_setCell_same' _ _ _ (by rw [d5']; rfl)
    · rename_i hx
      refine ⟨(KeepsOthers.refl _).from _, Below.refl _ _, ⟨⟨c3, c4, c5, c6⟩, fun y hy => ?_⟩, hB1⟩
      rcases List.mem_append.1 hy with h | h
      · exact hp y h
      · rw [List.mem_singleton.1 h]; exact hx
  case done =>
    rintro D ys W hD rfl ⟨⟨⟨c3, c4, c5, c6⟩, hp⟩, hB⟩ hK'
    have d4 := c4.cell
    have d5 := c5.cell
    have f4 := c4.frozen
    have f5 := c5.frozen
    have d5' : (W.setCell ⟨w.heap.size + 1, 0, none⟩ (.int .i64 0)).cell? ⟨w.heap.size + 1 + 1, 0, none⟩ = some (.bool false) := (World.cell?_setCell_other _ _ _ _ (by simp)).trans d5
    have f5' : (W.setCell ⟨w.heap.size + 1, 0, none⟩ (.int .i64 0)).frozen? ⟨w.heap.size + 1 + 1, 0, none⟩ = false := by rw [World.frozen?_setCell]; exact f5
    gi_wp2
    have hK2 := (KeepsOthers.setCell (W.setCell ⟨w.heap.size + 1, 0, none⟩ (.int .i64 0)) ⟨w.heap.size + 1 + 1, 0, none⟩ (.bool false)).same D _ ((KeepsOthers.setCell W ⟨w.heap.size + 1, 0, none⟩ (.int .i64 0)).same D _ hK' rfl) rfl
    refine ⟨by simp, .inl ⟨_, _, rfl, run_takeDeferred hK2, ?_⟩⟩
    have r4 := cell_kept ((World.cell?_setCell_other _ _ _ _ (by simp)).trans (World.cell?_setCell_same' W ⟨w.heap.size + 1, 0, none⟩ (.int .i64 0) (by rw [d4]; rfl)) : ((W.setCell ⟨w.heap.size + 1, 0, none⟩ (.int .i64 0)).setCell ⟨w.heap.size + 1 + 1, 0, none⟩ (.bool false)).cell? ⟨w.heap.size + 1, 0, none⟩ = _) (grownBy_putObj' _ D (.deferred none)) (fun r e => by cases e; exact ⟨_, hK2, rfl⟩)
    have r5 := cell_kept (World.cell?_setCell_same' (W.setCell ⟨w.heap.size + 1, 0, none⟩ (.int .i64 0)) ⟨w.heap.size + 1 + 1, 0, none⟩ (.bool false) (by rw [d5']; rfl)) (grownBy_putObj' _ D (.deferred none)) (fun r e => by cases e; exact ⟨_, hK2, rfl⟩)
    refine ⟨.tuple #[.int .i64 0, .bool false], ?_, ⟨_, rfl, .inl ⟨rfl, hp⟩⟩, ((hB.setCell (p := ⟨w.heap.size + 1, 0, none⟩) (by simp) _).setCell (p := ⟨w.heap.size + 1 + 1, 0, none⟩) (by simp; omega) _).trans (belowK_b (w := w) (Nat.le_refl _) _ D _ _ (by omega) hK2 rfl rfl)⟩
    simp [results, Tryz.f22, go_sem, r4, r5]
  case stop =>
    rintro D c pre W hD hpre ⟨⟨rfl, pre', x, rfl, hx, hne, h4, h5⟩, hB⟩ hK'
    gi_wp2
    refine ⟨by simp, .inl ⟨_, _, rfl, run_takeDeferred hK', ?_⟩⟩
    obtain ⟨k, hk, hpe⟩ := hpre
    have r4 := cell_kept h4 (grownBy_putObj' _ D (.deferred none)) (fun r e => by cases e; exact ⟨_, hK', rfl⟩)
    have r5 := cell_kept h5 (grownBy_putObj' _ D (.deferred none)) (fun r e => by cases e; exact ⟨_, hK', rfl⟩)
    refine ⟨.tuple #[.int .i64 x.2.2, .bool true], ?_, ⟨_, rfl, .inr ⟨k, pre', x, hk, hpe.symm, hx, hne, rfl⟩⟩, hB.trans (belowK_b (w := w) (Nat.le_refl _) W D _ _ (by omega) hK' rfl rfl)⟩
    simp [results, Tryz.f22, go_sem, r4, r5]
end Go.Proofs
